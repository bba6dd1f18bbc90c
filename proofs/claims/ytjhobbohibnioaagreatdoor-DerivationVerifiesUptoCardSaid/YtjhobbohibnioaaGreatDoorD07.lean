/- AbB2 AbB3 AbB4 AbS2 AbB5 AbB6 AbB7 AbB8 AbB9 AbB10 AbS4 AbS5 -/
import Derived.Test.YtjhobbohibnioaaGreatDoorD06
import Derived.Laws.Externs
set_option linter.all false
open List (append_assoc append_nil)
open Go.Ab.Ar (len_eq lst lst_eq ofs ofs_eq)
namespace Go.Ab
open Go.RowKit
variable [J9][Ar]
def He (l:Fl):Fl→Prop
 |[]=>True
 |(k,s)::r=>BG (AY l k) s.V∧(∀j w x,s≠ .g j w x)∧He l r
theorem He.wk {l:Fl}:∀{r:Fl},He l r→∀t,Wk (AY l t) (AY r t)
 |[],_,t=>Wk.bad _
 | (k,s)::r,h,t=>by
  simp only[AY]
  cases hb:Nat.beq t k with
  |true=>
   have:=Nat.eq_of_beq_eq_true hb;subst this
   cases s with
   |v x=>exact h.1.wk
   |b c=>exact h.1.wk
   |g j w x=>exact absurd rfl (h.2.1 j w x)
  |false=>exact He.wk h.2.2 t
theorem He.v {l r:Fl}{k:Nat}{x:V}(h:BG (AY l k) x)(hr:He l r):He l ((k,.v x)::r):=⟨h,fun _ _ _ h=>(by cases h),hr⟩
theorem He.b {l r:Fl}{k:Nat}{c:Bool}(h:AY l k= .bool c)(hr:He l r):He l ((k,.b c)::r):=⟨h▸ .refl _,fun _ _ _ h=>(by cases h),hr⟩
theorem He.e {l r:Fl}{k:Nat}{x:V}(h:AY l k=x)(hr:He l r):He l ((k,.v x)::r):=⟨h▸ .refl _,fun _ _ _ h=>(by cases h),hr⟩
theorem He.z {l:Fl}:He l []:=trivial
theorem Wk.trans {x y z:V}(h:Wk x y)(k:Wk y z):Wk x z:=fun g w v hv=>k g w v (h g w v hv)
theorem Ei.le {fr:Fr}{l l':Fl}{df:List Nat}(h:Ei fr ⟨l,df⟩)(k:He l l'):Ei fr ⟨l',df⟩:=⟨fun t=>(h.s t).trans (k.wk t),h.df⟩
theorem D5 {α:Type}{f:α→V}:([]:List V)=lst f []:=by rw[lst_eq];rfl
theorem E5 {α:Type}{f:α→V}{v:V}{vs:List V}{x:α}{l:List α}(h:v=f x)(k:vs=lst f l):v::vs=lst f (x::l):=by
 rw[h,k,lst_eq,lst_eq];rfl
theorem IE {α:Type}{f:α→V}(l m:List α):lst f l++lst f m=lst f (l++m):=by simp[lst_eq]
theorem I3 {α:Type}{f:α→V}(l:List α):(lst f l).length=l.length:=by simp[lst_eq]
theorem JL {α:Type}{f:α→V}{sz:Nat}(h:∀x,(f x).cells.length=sz)(l:List α):(lst f l).all (fun x=>x.cells.length==sz)=true:=by
 rw[lst_eq];simp[h]
theorem H9.lst0 {α:Type}{f:α→V}:H9 [] (lst f []):=by rw[←D5];exact .nil
theorem H9.lstc {α:Type}{f:α→V}{v:V}{vs:List V}{x:α}{l:List α}(h:BG v (f x))(k:H9 vs (lst f l)):H9 (v::vs) (lst f (x::l)):=by
 rw[←E5 rfl rfl];exact .cons h k
theorem BG.eq {v x y:V}(h:y=x)(k:BG v x):BG v y:=h▸k
theorem BG.lit {xs ys:List V}(t:E4)(h:xs=ys):BG (.sl xs t) (.sl ys .ro):=h▸ .ro _ _
section
variable {P:Program}{nt:Nat}{rd:Option Nat}{T:EZ}{E:CU}
variable (hE:E=G0 P nt rd)
include hE
theorem A5 {R:Type}{c:Bool}{x y:Unit→Prop}{a b:Option R}{r:R}(h:(if c=true then a else b)=some r)(h1:c=true→a=some r→x ())(h2:c=false→b=some r→y ()):E.br c x y:=by
 subst hE;refine⟨fun hc=>?_,fun hc=>?_⟩
 ·rw[if_pos hc]at h;exact h1 hc h
 rw[if_neg (by rw[hc];simp)]at h;exact h2 hc h
theorem JI {p:Prop}{k:Unit→Prop}(h:p)(hk:k ()):E.need p k:=by subst hE;exact⟨h,hk⟩
theorem Mx {R:Type}{b:Bool}{k:Unit→Prop}{F:Unit→Option R}{r:R}(h:(Jx b).bind F=some r)(hk:F ()=some r→k ()):E.needB b k:=by
 subst hE;obtain⟨x,h1,h2⟩:=bind_some h
 unfold Jx at h1
 split at h1
 ·rename_i hb;exact⟨hb,hk h2⟩
 cases h1
theorem IB {b:Bool}{k:Unit→Prop}(hb:b=true)(hk:k ()):E.needB b k:=by subst hE;exact⟨hb,hk⟩
theorem Gq {op:BinOp}{a b:Int}(h:JZ op a b=true):Ar.cmp op a b=true:=by rw[Ar.cmp_eq];exact h
theorem E0 {α:Type}{f:α→V}{l:List α}{k:Int→Prop}(h:k (Ar.len l)):E.ln (lst f l) k:=by
 subst hE
 show k _
 rw[I3,←len_eq];exact h
theorem C1 {α R:Type} {f g:α→V} (hf:∀x,f x=g x) {l:List α} {i:Int} {k:V→Prop} {F:α→Option R} {r:R} (h:(B9 l i).bind F=some r) (hk:∀x,F x=some r→k (g x)):E.idx (lst f l) i k:=by
 subst hE;obtain⟨x,h1,h2⟩:=bind_some h
 unfold B9 at h1
 split at h1
 ·rename_i h0
  have hlt:i.toNat<l.length:=by
   rcases Nat.lt_or_ge i.toNat l.length with h'|h'
   ·exact h'
   rw[List.getElem?_eq_none h']at h1;cases h1
  refine⟨⟨h0,by rw[I3];omega⟩,?_⟩;rw[lst_eq,List.getD_eq_getElem?_getD,List.getElem?_map,h1];simp only[Option.map_some,Option.getD_some];rw[hf];exact hk x h2
 cases h1
theorem Cd {α R:Type} {f:α→V} {sz:Nat} (hsz:∀x,(f x).cells.length=sz) {l:List α} {tl:E4} {lo hi mx:Option Int} {k:V→Prop} {F:List α→Option R} {r:R} (h:(N6 l lo hi mx).bind F=some r)
 (hk:∀x t,F x=some r→k (.sl (lst f x) t)):E.slice sz (lst f l) tl lo hi mx k:=by
 subst hE;obtain⟨x,h1,h2⟩:=bind_some h
 unfold N6 at h1
 split at h1
 ·rename_i hc;obtain⟨c1,c2,c3,c4,c5⟩:=hc;cases h1;refine⟨?_,?_⟩
  ·rw[I3];exact⟨c1,c2,c3,c4,c5,.inr (JL hsz l)⟩
  rw[I3,lst_eq,←List.map_drop,←List.map_take];have:=hk _ (FB (lo.getD 0).toNat (hi.getD l.length).toNat l.length mx tl) h2
  rwa[lst_eq]at this
 cases h1
theorem A4 {R S:Type}{m:Option S}{F:S→Option R}{r:R}{f:FuncId}{args args':List V}{g:S→V}{H:A2}{k:V→A2→Prop}(h:m.bind F=some r)(hc:∀x,m=some x→B6 P f args' (g x))(hl:H9 args args')
 (hk:∀x,F x=some r→k (g x) H):E.call (.func (.func f) [] []) args H k:=by
 subst hE;obtain⟨x,h1,h2⟩:=bind_some h
 exact W3.at (B6.value (F:=[]) (C:=[]) (by simpa using(hc x h1).args hl)) (hk x h2)
theorem C7 {R S:Type}{m:Option S}{F:S→Option R}{r:R}{f:FuncId}{args args':List V}{g:S→V}{H:A2}{k:V→Prop}(h:m.bind F=some r)(hc:∀x,m=some x→B6 P f args' (g x))(hl:H9 args args')
 (hk:∀x,F x=some r→k (g x)):E.pcall H (.func (.func f) [] []) args k:=by
 subst hE;obtain⟨x,h1,h2⟩:=bind_some h;exact⟨g x,(B6.value (F:=[]) (C:=[]) (by simpa using(hc x h1).args hl)).toH H,hk x h2⟩
theorem Aq {R S:Type}{m:Option S}{F:S→Option R}{r:R}{fv:V}{args args':List V}{g:S→V}{H:A2}{k:V→A2→Prop}(h:m.bind F=some r)(hc:∀x,m=some x→W3 P fv args' (g x))(hl:H9 args args')
 (hk:∀x,F x=some r→k (g x) H):E.call fv args H k:=by
 subst hE;obtain⟨x,h1,h2⟩:=bind_some h
 exact W3.at ((hc x h1).args hl) (hk x h2)
theorem YR {R S:Type}{m:Option S}{F:S→Option R}{r:R}{fv:V}{args args':List V}{g:S→V}{H:A2}{k:V→Prop}(h:m.bind F=some r)(hc:∀x,m=some x→W3 P fv args' (g x))(hl:H9 args args')
 (hk:∀x,F x=some r→k (g x)):E.pcall H fv args k:=by
 subst hE;obtain⟨x,h1,h2⟩:=bind_some h;exact⟨g x,((hc x h1).args hl).toH H,hk x h2⟩
theorem B1 {Φ:A2→A2→Prop}{H0 H:A2}{L:List En}(hO:C3 Φ H0 L H)(i:Nat){id:Nat}{cs:List V}{k:List V→Prop}(hi:L[i]? =some (.blk id (.cells cs)))(hk:k cs):E.load H id k:=by
 subst hE;exact⟨cs,hO.get i hi,hk⟩
theorem B0 {Φ:A2→A2→Prop}{H0 H:A2}{L:List En}(hO:C3 Φ H0 L H)(i:Nat){id off sz:Nat}{cs vs:List V}{k:A2→Prop}(hi:L[i]? =some (.blk id (.cells cs)))(hb:Nat.ble (off+sz) cs.length=true)
 (hk:∀H',C3 Φ H0 (L.set i (.blk id (.cells (S3 cs off vs)))) H'→k H'):E.store H id off sz vs k:=by
 subst hE;exact⟨cs,vs,.refl _,hO.get i hi,hb,hk _ (hO.set i hi)⟩
theorem HK {Φ:A2→A2→Prop}{H0 H:A2}{L:List En}(hO:C3 Φ H0 L H)(i:Nat){id off sz:Nat}{cs vs vs':List V}{k:A2→Prop}(hi:L[i]? =some (.blk id (.cells cs)))(hb:Nat.ble (off+sz) cs.length=true)(hl:H9 vs vs')
 (hk:∀H',C3 Φ H0 (L.set i (.blk id (.cells (S3 cs off vs')))) H'→k H'):E.store H id off sz vs k:=by
 subst hE;exact⟨cs,vs',hl,hO.get i hi,hb,hk _ (hO.set i hi)⟩
theorem C9 {Φ:A2→A2→Prop}{H0 H:A2}{L:List En}(hO:C3 Φ H0 L H){cs:List V}{k:Nat→A2→Prop}(hk:∀id H',C3 Φ H0 (.blk id (.cells cs)::L) H'→k id H'):E.alloc H cs k:=by
 subst hE;exact fun id hid=>hk id _ (hO.push hid rfl)
theorem As2 {Φ:A2→A2→Prop}{H0 H:A2}{L:List En}(hO:C3 Φ H0 L H)(i:Nat){id:Nat}{cs:List V}{k:List V→A2→Prop}(hi:L[i]? =some (.blk id (.cells cs)))(hk:∀H',C3 Φ H0 (L.eraseIdx i) H'→k cs H'):E.frzL H id k:=by
 subst hE;exact⟨cs,cs,hO.get i hi,.refl _,hk _ (hO.del i hi)⟩
theorem YW {α R:Type} {g:α→V} {cs:List V} {off sz n:Nat} {l:List α} {i:Int} {k:V→Prop} {F:α→Option R} {r:R} (hcs:cs=l.flatMap fun x=>(g x).cells) (hsz:∀x,(g x).cells.length=sz) (hn:l.length=n) (ho:off=0)
 (h:(B9 l i).bind F=some r) (hk:∀x,F x=some r→k (.eref (g x).cells 0)):E.elem cs off sz n i k:=by
 subst hE;subst ho;obtain⟨x,h1,h2⟩:=bind_some h
 unfold B9 at h1
 split at h1
 ·rename_i h0
  have key:∀(l:List α) (m:Nat) (x:α),l[m]? =some x→(((l.flatMap fun x=>(g x).cells).drop (m*sz)).take sz)=(g x).cells∧m<l.length∧(l.flatMap fun x=>(g x).cells).length=l.length*sz:=by
   intro l
   induction l with
   |nil=>intro m x h;simp at h
   | cons y l ih=>
    intro m x h
    have hlen:∀l:List α,(l.flatMap fun x=>(g x).cells).length=l.length*sz:=by
     intro l
     induction l with
     |nil=>simp
     |cons z l ih=>simp only[List.flatMap_cons,List.length_append,hsz,ih,List.length_cons,Nat.add_mul,Nat.one_mul];omega
    refine⟨?_,?_,hlen _⟩
    ·cases m with
     |zero=>
      simp at h;subst h
      simp only[List.flatMap_cons,Nat.zero_mul,List.drop_zero];rw[List.take_append_of_le_length (by rw[hsz];exact Nat.le_refl _),List.take_of_length_le (by rw[hsz];exact Nat.le_refl _)]
     |succ m=>
      have:=(ih m x (by simpa using h)).1;rw[List.flatMap_cons,show(m+1)*sz=(g y).cells.length+m*sz by rw[hsz,Nat.add_mul,Nat.one_mul];omega,List.drop_append,];rw[List.drop_eq_nil_of_le (by omega),List.nil_append,show(g y).cells.length+m*sz - (g y).cells.length=m*sz by omega];exact this
    rcases Nat.lt_or_ge m (y::l).length with h'|h'
    ·exact h'
    rw[List.getElem?_eq_none h']at h;cases h
  obtain⟨k1,k2,k3⟩:=key l i.toNat x h1;refine⟨⟨h0,by omega,by rw[hcs,k3,hn];omega⟩,?_⟩;rw[hcs,Nat.zero_add,k1];exact hk x h2
 cases h1
theorem Ns {α R:Type} {f:α→V} {sz by_:Nat} (hsz:∀x,(f x).cells.length=sz) (hby:by_≤131072) {xs ys:List V} {l m:List α} {k:V→Prop} {F:List α→Option R} {r:R} (hx:H9 xs (lst f l)) (hy:H9 ys (lst f m)) (h:(M5 l m).bind F=some r)
 (hk:∀x,F x=some r→k (.sl (lst f x) .ro)):E.appq sz by_ xs ys k:=by
 subst hE;obtain⟨x,h1,h2⟩:=bind_some h
 unfold M5 at h1
 split at h1
 ·rename_i hc;cases h1;refine⟨_,_,hx,hy,JL hsz l,JL hsz m,?_,?_⟩
  ·rw[I3,I3];exact Nat.le_trans (Nat.mul_le_mul hc hby) (by decide)
  rw[IE];exact hk _ h2
 cases h1
theorem Y5 {α R:Type} {f:α→V} {sz by_:Nat} (hsz:∀x,(f x).cells.length=sz) (hby:by_≤131072) {Φ:A2→A2→Prop} {H0 H:A2} {L:List En} (hO:C3 Φ H0 L H) (i:Nat) {tl:E4} (hi:L[i]? =some (.tl tl)) (ha:T8 tl)
 {xs ys:List V} {l m:List α} {k:V→A2→Prop} {F:List α→Option R} {r:R} (hx:H9 xs (lst f l)) (hy:H9 ys (lst f m)) (h:(M5 l m).bind F=some r)
 (hk:∀x tl' H',C3 Φ H0 (L.set i (.tl tl')) H'→T8 tl'→F x=some r→k (.sl (lst f x) tl') H'):E.appn sz by_ H tl xs ys k:=by
 subst hE;obtain⟨x,h1,h2⟩:=bind_some h
 unfold M5 at h1
 split at h1
 ·rename_i hc;cases h1;refine⟨_,_,hx,hy,hO.appOk i hi ha,JL hsz l,JL hsz m,?_,fun hm=>?_,fun t ht hn=>?_⟩
  ·rw[I3,I3];exact Nat.le_trans (Nat.mul_le_mul hc hby) (by decide)
  ·have hm':m=[]:=by
    have:=congrArg List.length hm
    rw[I3]at this
    exact List.eq_nil_of_length_eq_zero (by simpa using this)
   subst hm'
   have:=hk _ tl H (by
    have e:L.set i (.tl tl)=L:=by
     apply List.ext_getElem?;intro j;rw[List.getElem?_set]
     split
     ·rename_i e;subst e
      split
      ·exact hi.symm
      rename_i hl;rw[List.getElem?_eq_none (by omega)]
     rfl
    rw[e];exact hO) ha h2
   rwa[append_nil]at this
  rw[IE];exact hk _ _ _ (hO.tok i hi hn) trivial h2
 cases h1
end
section
variable {P:Program}{nt:Nat}{rd:Option Nat}{T:EZ}{E:CU}
abbrev QV (P:Program)(T:EZ):Prop:=Hl P T∧P.follows .mixedOrders=true
theorem J4 (cf:Cf)(hE:E=G0 P nt rd)(hP:QV P T){c:Code}{st:St}{H:A2}{K:Exit→St→A2→Prop}(X:Exit→Fl→A2→Prop)(hd:I4 cf c=true)
 (h:Yr E T nt cf c st H fun e st' H'=>∃l,X e l H'∧He st'.l l∧st'.df=st.df) (after:∀e l H',X e l H'→K e ⟨l,st.df⟩ H'):E.sim c st H K:=by
 subst hE;refine(Uk hP.1 hP.2 c _ _ _ hd h).mono fun e fr2 H2 ⟨st',hle',l,h3,h1,h2⟩=>?_;exact⟨⟨l,st.df⟩,⟨fun t=>(hle'.s t).trans (h1.wk t),hle'.df.trans h2⟩,after _ _ _ h3⟩
theorem E6 (cf:Cf) (hE:E=G0 P nt rd) (hP:QV P T) {σ R:Type} {step:σ→Option (σ ⊕ R)} {c:Code} {st:St} {H:A2} {K:Exit→St→A2→Prop} (fm:σ→Fl) (Inv:σ→A2→Prop) (X:R→Exit→Fl→A2→Prop) (hd:I4 cf c=true)
 (round:∀s H o,Inv s H→step s=some o→run E T nt cf c ⟨fm s,st.df⟩ H fun e st' H'=>match e with
  | .normal=>∃s',o= .inl s'∧He st'.l (fm s')∧st'.df=st.df∧Inv s' H'
  |e=>∃x l,o= .inr x∧X x e l H'∧He st'.l l∧st'.df=st.df)
 {N:Nat} {s0:σ} {r:R} (h:loopN step N s0=some r) (hf:He st.l (fm s0)) (hI:Inv s0 H) (after:∀e l H',X r e l H'→K e ⟨l,st.df⟩ H'):E.sim (.loop c) st H K:=by
 subst hE;refine T9.loopN (fun n fr' H'=>∃s,loopN step n s=some r∧Ei fr' ⟨fm s,st.df⟩∧Inv s H') N ⟨s0,h,⟨fun t=>hf.wk t,rfl⟩,hI⟩ fun n fr' H' ⟨s,hs,hle,hi⟩=>?_
 cases n with
 |zero=>cases hs
 | succ n=>
  simp only[loopN]at hs
  cases ho:step s with
  |none=>rw[ho]at hs;cases hs
  | some o=>
   rw[ho]at hs
   refine T9.frLe hle ((K5 hP.1 hP.2 c _ _ _ hd (round s H' o hi ho)).mono fun e fr2 H2 ⟨st',hle',hq⟩=>?_)
   cases e with
   |normal=>
    obtain⟨s',h1,h2,h3,h4⟩:=hq;subst h1;exact⟨n,Nat.lt_succ_self n,s',hs,⟨fun t=>(hle'.s t).trans (h2.wk t),hle'.df.trans h3⟩,h4⟩
   |_=>
    obtain⟨x,l,h1,h4,h2,h3⟩:=hq;subst h1;cases hs;exact⟨⟨l,st.df⟩,⟨fun t=>(hle'.s t).trans (h2.wk t),hle'.df.trans h3⟩,after _ _ _ h4⟩
theorem P5 (cf:Cf) (hE:E=G0 P nt rd) (hP:QV P T) {σ γ R:Type} {step:σ→Option (σ ⊕ R)} {c:Code} {st:St} {H:A2} {K:Exit→St→A2→Prop} (fm:σ→γ→Fl) (Inv:σ→γ→A2→Prop) (X:R→Exit→Fl→A2→Prop) (hd:I4 cf c=true)
 (round:∀s g H o,Inv s g H→step s=some o→run E T nt cf c ⟨fm s g,st.df⟩ H fun e st' H'=>match e with
  | .normal=>∃s' g',o= .inl s'∧He st'.l (fm s' g')∧st'.df=st.df∧Inv s' g' H'
  |e=>∃x l,o= .inr x∧X x e l H'∧He st'.l l∧st'.df=st.df)
 {N:Nat} {s0:σ} (g0:γ) {r:R} (h:loopN step N s0=some r) (hf:He st.l (fm s0 g0)) (hI:Inv s0 g0 H) (after:∀e l H',X r e l H'→K e ⟨l,st.df⟩ H'):E.sim (.loop c) st H K:=by
 subst hE;refine T9.loopN (fun n fr' H'=>∃s g,loopN step n s=some r∧Ei fr' ⟨fm s g,st.df⟩∧Inv s g H') N ⟨s0,g0,h,⟨fun t=>hf.wk t,rfl⟩,hI⟩ fun n fr' H' ⟨s,g,hs,hle,hi⟩=>?_
 cases n with
 |zero=>cases hs
 | succ n=>
  simp only[loopN]at hs
  cases ho:step s with
  |none=>rw[ho]at hs;cases hs
  | some o=>
   rw[ho]at hs
   refine T9.frLe hle ((K5 hP.1 hP.2 c _ _ _ hd (round s g H' o hi ho)).mono fun e fr2 H2 ⟨st',hle',hq⟩=>?_)
   cases e with
   |normal=>
    obtain⟨s',g',h1,h2,h3,h4⟩:=hq;subst h1;exact⟨n,Nat.lt_succ_self n,s',g',hs,⟨fun t=>(hle'.s t).trans (h2.wk t),hle'.df.trans h3⟩,h4⟩
   |_=>
    obtain⟨x,l,h1,h4,h2,h3⟩:=hq;subst h1;cases hs;exact⟨⟨l,st.df⟩,⟨fun t=>(hle'.s t).trans (h2.wk t),hle'.df.trans h3⟩,after _ _ _ h4⟩
theorem OB {f:FuncId}{fn:Func}{c:Code}{n:Nat}{rs:List ResultVar}{args:List V}{r:V}(cf:Cf)(hP:QV P T)(hf:P.funcs[f]? =some fn)(hb:fn.body=some c)(hd:I4 cf c=true)
 (hcall:∀vals w,(callFunc f vals).run P w= .ok (.enter f vals) w) (hnt:fn.ntmps=n) (hrs:fn.results.toList=rs) (hn:Nat.ble args.length n=true)
 (h:∀(E:CU) (H:A2) (K:V→A2→Prop),E=G0 P n none→(∀x L H',C3 Eq H L H'→BG x r→K x H')→run E T n cf c ⟨Bp args 0,[]⟩ H (Lu E T rs K)):B6 P f args r:=fun H=>by
 refine(S1 (K:=fun x H'=>∃y H2,BG x y∧Gr H2 H'∧y=r∧H2=H) cf hP.1 hP.2 hf hb hd hcall hnt hrs hn fun E hE=>?_).le;exact h E H _ hE fun x L H' hO hx=>⟨r,H,hx,hO.ext,rfl,rfl⟩
end
end Go.Ab
namespace Go.Ab
open Go.RowKit
variable [J9][Ar]
abbrev DB :Fa:=.obj (.deferred (some []))
section
variable {P:Program}{nt:Nat}{rd:Option Nat}{T:EZ}{E:CU}
theorem Kv (hE:E=G0 P nt rd) {Φ:A2→A2→Prop} {H0 H:A2} {L:List En} (hO:C3 Φ H0 L H) (i:Nat) {d:Nat} {k:A2→Prop} (hi:L[i]? =some (.blk d DB)) (hk:∀H',C3 Φ H0 (L.eraseIdx i) H'→k H'):E.fin [d] H k:=by
 subst hE;have hd:=hO.get i hi;refine⟨⟨by simp,fun id hid=>?_⟩,?_⟩
 ·simp at hid;subst hid;exact hd
 have e:clear H [d]=upd H d none:=by
  funext x;simp only[clear,upd,List.mem_singleton]
 rw[e];exact hk _ (hO.del i hi)
def Ij (P:Program)(f:FuncId)(args:List V)(Q:V→Prop):Prop:=∀H,I0 P f args H fun x H'=>Q x∧H'=H
theorem Ij.args {f:FuncId}{xs ys:List V}{Q:V→Prop}(h:Ij P f ys Q)(k:H9 xs ys):Ij P f xs Q:=fun H=>(h H).args k
theorem B6.q {f:FuncId}{args:List V}{r:V}{Q:V→Prop}(h:B6 P f args r)(hq:Q r):Ij P f args Q:=fun H=>(h H).mono fun x H' ⟨e1,e2⟩=>⟨e1▸hq,e2⟩
theorem IC (hE:E=G0 P nt rd){R S:Type}{m:Option S}{F:S→Option R}{r:R}{f:FuncId}{args args':List V}{Q:S→V→Prop}{H:A2}{k:V→A2→Prop}(h:m.bind F=some r)(hc:∀x,m=some x→Ij P f args' (Q x))(hl:H9 args args')
 (hk:∀x v,Q x v→F x=some r→k v H):E.call (.func (.func f) [] []) args H k:=by
 subst hE;obtain⟨x,h1,h2⟩:=bind_some h
 have h3:I0 P f args H k:=((hc x h1).args hl H).mono fun v H' ⟨hq,hH⟩=>by subst hH;exact hk x v hq h2
 exact I0.value (F:=[]) (C:=[]) (by simpa using h3)
theorem Ji {f:FuncId}{fn:Func}{c:Code}{n:Nat}{rs:List ResultVar}{args:List V}{Q:V→Prop}(cf:Cf)(hP:QV P T)(hf:P.funcs[f]? =some fn)(hb:fn.body=some c)(hd:I4 cf c=true)
 (hcall:∀vals w,(callFunc f vals).run P w= .ok (.enter f vals) w) (hnt:fn.ntmps=n) (hrs:fn.results.toList=rs) (hn:Nat.ble args.length n=true)
 (h:∀(E:CU) (H:A2) (K:V→A2→Prop),E=G0 P n none→(∀x L H',C3 Eq H L H'→Q x→K x H')→run E T n cf c ⟨Bp args 0,[]⟩ H (Lu E T rs K)):Ij P f args Q:=fun H=>by
 refine(S1 (K:=fun x H'=>∃y H2,BG x y∧Gr H2 H'∧Q y∧H2=H) cf hP.1 hP.2 hf hb hd hcall hnt hrs hn fun E hE=>?_).le;exact h E H _ hE fun x L H' hO hx=>⟨x,H,.refl _,hO.ext,hx,rfl⟩
def So :List Nat→List V→Fl→Fl
 |p::ps,x::xs,l=>So ps xs ((p,.v x)::l)
 |_,_,l=>l
theorem Qn :∀(ps:List Nat) (xs:List V) (l:Fl) (t:Nat),EF (fun t=>AY l t) ps xs t=AY (So ps xs l) t
 |[],xs,l,t=>by cases xs<;>rfl
 |p::ps,[],l,t=>rfl
 |p::ps,x::xs,l,t=>by
  simp only[EF,So];rw[←Qn ps xs]
  congr 1
  funext q
  rw[VP];rfl
def Zl :Exit→Option Code
 | .ret=>some .ret
 | .exit k=>some (.exit k)
 |_=>none
variable {α σ R ι:Type}
def RgI (enc:α→List V)(step:σ→α→Option (σ ⊕ R))(o:σ ⊕ R)(Inv:σ→A2→A2→Prop)(l:List (List V))(F H:A2):Prop:=
 ∃q:σ×List α,(l=q.2.map enc∧G5 step q.2 q.1=some o)∧Inv q.1 F H
def RgD (o:σ ⊕ R)(X:R→Exit→A2→A2→Prop)(c:Code)(F H:A2):Prop:=∃q:R×Exit,(o= .inr q.1∧Zl q.2=some c)∧X q.1 q.2 F H
def RgJ (enc:α→List V)(step:σ→α→Option (σ ⊕ R))(o:σ ⊕ R)(fJ:ι→σ→α→Fl)(J:ι→σ→α→A2→A2→Prop)(x:List V)(l:List (List V))(fr:Fr)(F H:A2):Prop:=
 ∃q:ι×σ×α×List α,(x=enc q.2.2.1∧l=q.2.2.2.map enc∧G5 step (q.2.2.1::q.2.2.2) q.2.1=some o∧Ei fr ⟨fJ q.1 q.2.1 q.2.2.1,[]⟩)∧J q.1 q.2.1 q.2.2.1 F H
section
variable {enc:α→List V}{step:σ→α→Option (σ ⊕ R)}{g:Operand}{ps:Array Tmp}{asg body:Code}{st:St}{H:A2}{K:Exit→St→A2→Prop}
 {xs:List α} {s0:σ} {o:σ ⊕ R}
theorem WR (cf:Cf) (hP:QV P T) {Inv:σ→A2→A2→Prop} {fJ:ι→σ→α→Fl} {J:ι→σ→α→A2→A2→Prop} (hda:I4 cf asg=true)
 (asgP:∀(E':CU) (id:Nat) y s F H,E'=G0 P nt (some id)→Inv s F H→run E' T nt cf asg ⟨So ps.toList (enc y) st.l,[]⟩ H fun e st' H'=>match e with| .normal=>∃i,J i s y F H'∧He st'.l (fJ i s y)∧st'.df=[]|_=>False):
 ∀(id:Nat) (L:LpI) x l F H,RgI enc step o Inv (x::l) F H→F id=some (.loop L)→x.length=ps.size→T9 P nt (some id) asg ⟨EF (F4 st).s ps.toList x,[]⟩ H fun e fr' H1=>e= .normal∧RgJ enc step o fJ J x l fr' F H1:=by
 intro id L x l F H ⟨⟨s,ys⟩,⟨hl,hr⟩,hi⟩ _ _
 cases ys with
 |nil=>cases hl
 | cons y ys=>
  simp only[List.map_cons,List.cons.injEq]at hl
  obtain⟨rfl,rfl⟩:=hl
  have e:(⟨EF (F4 st).s ps.toList (enc y),[]⟩:Fr)=F4 ⟨So ps.toList (enc y) st.l,[]⟩:=by
   simp only[F4,Fr.mk.injEq,and_true]
   funext t
   exact Qn _ _ _ _
  rw[e];refine(K5 hP.1 hP.2 asg _ _ _ hda (asgP _ id y s F H rfl hi)).mono fun e fr' H1 ⟨st',hle,hq⟩=>?_
  cases e with
  |normal=>
   obtain⟨i,hj,hl,hdf⟩:=hq;exact⟨rfl,⟨i,s,y,ys⟩,⟨rfl,rfl,hr,fun t=>(hle.s t).trans (hl.wk t),hle.df.trans hdf⟩,hj⟩
  |_=>exact hq.elim
theorem Yu (cf:Cf) (hP:QV P T) {Inv:σ→A2→A2→Prop} {X:R→Exit→A2→A2→Prop} {fJ:ι→σ→α→Fl} {J:ι→σ→α→A2→A2→Prop} (hdb:I4 cf body=true)
 (bodyP:∀(E':CU) (id:Nat) i y s F H o',E'=G0 P nt (some id)→(∃L,F id=some (.loop L))→step s y=some o'→J i s y F H→run E' T nt cf body ⟨fJ i s y,[]⟩ H fun e _ H'=>match e with
  | .normal=>∃s',o'= .inl s'∧Inv s' F H'
  |e=>∃r,o'= .inr r∧(Zl e).isSome=true∧X r e F H'):
 ∀(id:Nat) (L:LpI) x l fr' F H,RgJ enc step o fJ J x l fr' F H→F id=some (.loop L)→T9 P nt (some id) body fr' H fun e _ H'=>SZ (RgI enc step o Inv l) (RgD o X) F e H':=by
 intro id L x l fr' F H ⟨⟨i,s,y,ys⟩,⟨hx,hl,hr,hf⟩,hj⟩ hL;subst hx;subst hl
 simp only[G5]at hr
 cases ho:step s y with
 |none=>rw[ho]at hr;cases hr
 | some o'=>
  rw[ho]at hr
  refine T9.frLe hf ((K5 hP.1 hP.2 body _ _ _ hdb (bodyP _ id i y s F H o' rfl ⟨L,hL⟩ ho hj)).mono fun e fr2 H2 ⟨st',hle,hq⟩=>?_)
  cases e with
  |normal=>
   obtain⟨s',h1,h2⟩:=hq;subst h1;exact⟨⟨s',ys⟩,⟨rfl,hr⟩,h2⟩
  |ret=>
   obtain⟨r,h1,h2,h3⟩:=hq;subst h1;exact⟨⟨r,.ret⟩,⟨by cases hr;rfl,rfl⟩,h3⟩
  |exit k=>
   obtain⟨r,h1,h2,h3⟩:=hq;subst h1;exact⟨⟨r,.exit k⟩,⟨by cases hr;rfl,rfl⟩,h3⟩
  |_=>
   obtain⟨r,h1,h2,h3⟩:=hq;cases h2
theorem Ku (cf:Cf) (hE:E=G0 P nt none) (hP:QV P T) (Inv:σ→A2→A2→Prop) (X:R→Exit→A2→A2→Prop) (fJ:ι→σ→α→Fl) (J:ι→σ→α→A2→A2→Prop)
 (hI:∀s,E3 (Inv s)) (hX:∀r e,E3 (X r e)) (hJ:∀i s y,E3 (J i s y)) (hit:Ok P ((Q3 [] st.l g).V) (xs.map enc)) (h:G5 step xs s0=some o) {F:A2} (h0:Inv s0 F H)
 (hnt:∀p∈ps,p<nt) (hps:∀x,(enc x).length=ps.size) (hda:I4 cf asg=true) (hdb:I4 cf body=true)
 (asgP:∀(E':CU) (id:Nat) y s F H,E'=G0 P nt (some id)→Inv s F H→run E' T nt cf asg ⟨So ps.toList (enc y) st.l,[]⟩ H fun e st' H'=>match e with| .normal=>∃i,J i s y F H'∧He st'.l (fJ i s y)∧st'.df=[]|_=>False)
 (bodyP:∀(E':CU) (id:Nat) i y s F H o',E'=G0 P nt (some id)→(∃L,F id=some (.loop L))→step s y=some o'→J i s y F H→run E' T nt cf body ⟨fJ i s y,[]⟩ H fun e _ H'=>match e with
  | .normal=>∃s',o'= .inl s'∧Inv s' F H'
  |e=>∃r,o'= .inr r∧(Zl e).isSome=true∧X r e F H')
 (done:∀d s H',o= .inl s→F d=none→Inv s (upd F d (some DB)) H'→K .normal ⟨st.l,d::st.df⟩ H')
 (stop:∀d r e H',o= .inr r→F d=none→X r e (upd F d (some DB)) H'→K e ⟨st.l,d::st.df⟩ H'):E.sim (.rangeFunc g ps asg body) st H K:=by
 subst hE;have hev:ev (F4 st) g=(Q3 [] st.l g).V:=(Dh (df:=st.df) Ih.nil g).symm
 rw[←hev]at hit
 have sI:∀l,E3 (RgI enc step o Inv l):=fun l=>E3.ex fun q=>hI q.1;have sD:∀c,E3 (RgD o X c):=fun c=>E3.ex fun q=>hX q.1 q.2;have sJ:∀x l fr,E3 (RgJ enc step o fJ J x l fr):=fun x l fr=>E3.ex fun q=>hJ q.1 q.2.1 q.2.2.1;refine T9.rangeOuter (nt:=nt) hnt (fun x hx=>?_) hit (RgI enc step o Inv) (RgD o X) sI sD (RgJ enc step o fJ J) sJ ⟨⟨s0,xs⟩,⟨rfl,h⟩,h0⟩ (WR cf hP hda asgP) (Yu cf hP hdb bodyP) (fun d H' hd ⟨⟨s,ys⟩,⟨hl,hr⟩,hi⟩=>?_) fun c d H' hd ⟨⟨r,e⟩,⟨ho,hj⟩,hx⟩=>?_
 ·obtain⟨y,_,rfl⟩:=List.mem_map.1 hx;exact hps y
 ·have hys:ys=[]:=by
   cases ys with
   |nil=>rfl
   |cons _ _=>cases hl
  subst hys;cases hr;exact⟨⟨st.l,d::st.df⟩,⟨fun t=>Wk.refl _,rfl⟩,done d s H' rfl hd hi⟩
 have hk:=stop d r e H' ho hd hx
 cases e with
 |ret=>cases hj;exact T9.ret ⟨⟨st.l,d::st.df⟩,⟨fun t=>Wk.refl _,rfl⟩,hk⟩
 |exit k=>cases hj;exact T9.exit ⟨⟨st.l,d::st.df⟩,⟨fun t=>Wk.refl _,rfl⟩,hk⟩
 |_=>cases hj
end
end
theorem C3.dblk {Φ:A2→A2→Prop} {H0 H:A2} {L:List En} {d:Nat} (hd:H0 d=none) (h:C3 Φ (upd H0 d (some DB)) L H):C3 Φ H0 (L++[.blk d DB]) H:=by
 obtain⟨hs,F',H1,h0,h1,h2⟩:=h;refine⟨hs,F',H1,⟨fun x b hx=>h0.ext x b ?_,fun i e x b hi he=>?_,fun i j e e' x b b' hi hj he he'=>?_,fun x b hx=>?_⟩,h1,h2⟩
 rotate_right
 ·rcases h0.only x b hx with h|⟨i,e,hi,he⟩
  ·by_cases hxd:x=d
   ·subst hxd;rw[B7]at h;cases h;exact .inr ⟨L.length,.blk x DB,by simp,rfl⟩
   rw[A7 _ _ hxd]at h;exact .inl h
  refine .inr ⟨i,e,?_,he⟩
  rcases Nat.lt_or_ge i L.length with hlt|hge
  ·rw[List.getElem?_append_left hlt];exact hi
  rw[List.getElem?_eq_none hge]at hi;cases hi
 ·rw[A7 _ _ (P4 hd hx)];exact hx
 ·rcases Nat.lt_or_ge i L.length with hlt|hge
  ·rw[List.getElem?_append_left hlt]at hi
   have:=h0.has i e x b hi he;refine⟨?_,this.2⟩
   have hne:x≠d:=fun eq=>by subst eq;rw[B7]at this;cases this.1
   rw[A7 _ _ hne]at this;exact this.1
  rw[List.getElem?_append_right hge]at hi
  cases hm:i - L.length with
  |zero=>rw[hm]at hi;simp at hi;subst hi;cases he;exact⟨hd,h0.ext _ _ (B7 _ _ _)⟩
  |succ m=>rw[hm]at hi;simp at hi
 have hDB:∀(i:Nat) e,(L++[.blk d DB])[i]? =some e→(i<L.length∧L[i]? =some e)∨(i=L.length∧e= .blk d DB):=fun i e hi=>by
  rcases Nat.lt_or_ge i L.length with hlt|hge
  ·rw[List.getElem?_append_left hlt]at hi;exact .inl ⟨hlt,hi⟩
  rw[List.getElem?_append_right hge]at hi
  cases hm:i - L.length with
  |zero=>rw[hm]at hi;simp at hi;exact .inr ⟨by omega,hi.symm⟩
  |succ m=>rw[hm]at hi;simp at hi
 have nd:∀(i:Nat) e x b,L[i]? =some e→e.id=some (x,b)→x≠d:=fun m e x b hm he eq=>by
  have:=(h0.has m e x b hm he).1
  rw[eq,B7]at this;cases this
 rcases hDB i e hi with⟨_,ki⟩|⟨ki,rfl⟩<;>rcases hDB j e' hj with⟨_,kj⟩|⟨kj,rfl⟩
 ·exact h0.inj i j e e' x b b' ki kj he he'
 ·cases he';exact absurd rfl (nd i e _ b ki he)
 ·cases he;exact absurd rfl (nd j e' _ b' kj he')
 rw[ki,kj]
end Go.Ab
namespace Go.Ab
open Go.RowKit
variable [J9][Ar]
def KV (P:Program)(yv:V)(I:List (List V)→A2→A2→Prop)(D:A2→A2→Prop):Prop:=
 (yv.one=true∧yv.cells=[yv])∧∀x l F H,I (x::l) F H→AX P yv x H fun r H'=>(r= .bool true∧I l F H')∨(r= .bool false∧D F H')
def KX (P:Program)(f:FuncId)(args:V→List V)(xs:List (List V))(rb:V→Bool→Prop):Prop:=
 ∀yv I D,(∀l,E3 (I l))→E3 D→KV P yv I D→∀tl F H,I (xs++tl) F H→I0 P f (args yv) H fun v H'=>(rb v true∧I tl F H')∨(rb v false∧D F H')
def rbB (v:V)(b:Bool):Prop:=v= .bool b
def rbN (_:V)(_:Bool):Prop:=True
section
variable {P:Program}{nt:Nat}{rd:Option Nat}{T:EZ}{E:CU}{I:List (List V)→A2→A2→Prop}{D:A2→A2→Prop}
theorem AX.heap {fv:V}{args:List V}{H H1:A2}{K:V→A2→Prop}(h:AX P fv args H1 K)(hl:Gr H1 H):AX P fv args H K:=
 fun g w v vals hR hv hA=>h g w v vals (hR.less hl) hv hA
theorem I0.heap {f:FuncId}{args:List V}{H H1:A2}{K:V→A2→Prop}(h:I0 P f args H1 K)(hl:Gr H1 H):I0 P f args H K:=
 fun g w vals hR hA=>h g w vals (hR.less hl) hA
theorem Mv (hE:E=G0 P nt rd)(hI:∀l,E3 (I l))(hD:E3 D){yv:V}(hy:KV P yv I D){F H:A2}{L:List En}{args x:List V}{l:List (List V)}{k:V→A2→Prop}(hO:C3 (I (x::l)) F L H)(hl:H9 args x)
 (h1:∀H',C3 (I l) F L H'→k (.bool true) H') (h2:∀H',C3 D F L H'→k (.bool false) H'):E.call yv args H k:=by
 subst hE;obtain⟨hs,F',H1,h0,hi,hle⟩:=hO;refine(AX.mono (((hy.2 x l F' H1 hi).heap hle).args hl) fun r H' hr=>?_)
 rcases hr with⟨rfl,hr⟩|⟨rfl,hr⟩
 ·exact h1 H' ⟨hI l,F',H',h0,hr,Gr.refl _⟩
 exact h2 H' ⟨hD,F',H',h0,hr,Gr.refl _⟩
theorem Qs (hE:E=G0 P nt rd) (hI:∀l,E3 (I l)) (hD:E3 D) {yv:V} (hy:KV P yv I D) {f:FuncId} {args':V→List V} {xs tl:List (List V)} {rb:V→Bool→Prop} (hc:KX P f args' xs rb) {F H:A2} {L:List En} {args:List V} {k:V→A2→Prop} (hO:C3 (I (xs++tl)) F L H)
 (hl:H9 args (args' yv)) (h1:∀v H',rb v true→C3 (I tl) F L H'→k v H') (h2:∀v H',rb v false→C3 D F L H'→k v H'):E.call (.func (.func f) [] []) args H k:=by
 subst hE;obtain⟨hs,F',H1,h0,hi,hle⟩:=hO
 have h3:I0 P f args H k:=(((hc yv I D hI hD hy tl F' H1 hi).heap hle).args hl).mono fun v H' hr=>by
  rcases hr with⟨hb,hr⟩|⟨hb,hr⟩
  ·exact h1 v H' hb ⟨hI tl,F',H',h0,hr,Gr.refl _⟩
  exact h2 v H' hb ⟨hD,F',H',h0,hr,Gr.refl _⟩
 exact I0.value (F:=[]) (C:=[]) (by simpa using h3)
theorem SB (hE:E=G0 P nt rd){c:Bool}{x y:Unit→Prop}(hc:c=true)(h:x ()):E.br c x y:=by subst hE;exact⟨fun _=>h,fun e=>by rw[hc]at e;cases e⟩
theorem SC (hE:E=G0 P nt rd){c:Bool}{x y:Unit→Prop}(hc:c=false)(h:y ()):E.br c x y:=by subst hE;exact⟨fun e=>(by rw[hc]at e;cases e),fun _=>h⟩
theorem BZ {f:FuncId} {fn:Func} {c:Code} {n:Nat} {rs:List ResultVar} {args:V→List V} {xs:List (List V)} {rb:V→Bool→Prop} (cf:Cf) (hP:QV P T) (hf:P.funcs[f]? =some fn) (hb:fn.body=some c) (hd:I4 cf c=true)
 (hcall:∀vals w,(callFunc f vals).run P w= .ok (.enter f vals) w) (hnt:fn.ntmps=n) (hrs:fn.results.toList=rs) (hn:∀yv,Nat.ble (args yv).length n=true)
 (h:∀(yv:V) (I:List (List V)→A2→A2→Prop) (D:A2→A2→Prop),(∀l,E3 (I l))→E3 D→KV P yv I D→∀(tl:List (List V)) (F:A2) (E:CU) (H:A2) (K:V→A2→Prop),E=G0 P n none→C3 (I (xs++tl)) F [] H→
  (∀x L H',C3 (I tl) F L H'→rb x true→K x H')→(∀x L H',C3 D F L H'→rb x false→K x H')→run E T n cf c ⟨Bp (args yv) 0,[]⟩ H (Lu E T rs K)):KX P f args xs rb:=by
 intro yv I D hI hD hy tl F H hi;refine(S1 (K:=fun x H'=>∃y H2,BG x y∧Gr H2 H'∧((rb y true∧I tl F H2)∨(rb y false∧D F H2))) cf hP.1 hP.2 hf hb hd hcall hnt hrs (hn yv) fun E hE=>?_).le;refine h yv I D hI hD hy tl F E H _ hE (C3.start (hI _) hi) (fun x L H' hO hx=>?_) fun x L H' hO hx=>?_
 ·obtain⟨H2,h1,h2⟩:=hO.out;exact⟨x,H2,.refl _,h2,.inl ⟨hx,h1⟩⟩
 obtain⟨H2,h1,h2⟩:=hO.out;exact⟨x,H2,.refl _,h2,.inr ⟨hx,h1⟩⟩
theorem Jc {f:FuncId}{C:List V}{xs:List (List V)}{rb:V→Bool→Prop}(hcall:∀vals w,(callFunc f vals).run P w= .ok (.enter f vals) w)(h:KX P f (fun yv=>yv::C) xs rb):Ok P (.func (.func f) [] C) xs:=
 ⟨f,C,rfl,hcall,fun yv I D hI hD hy F H hi=>(h yv I D hI hD hy [] F H (by rwa[append_nil])).mono fun v H' hr=>hr.imp (fun h=>h.2) fun h=>h.2⟩
theorem VK (cf:Cf) (hE:E=G0 P nt rd) (hP:QV P T) {β σ γ R:Type} {step:σ→Option (List β×(σ ⊕ R))} {c:Code} {st:St} {H:A2} {K:Exit→St→A2→Prop} (fm:σ→γ→Fl) (Inv:σ→γ→List β→A2→Prop) (X:R→Exit→Fl→List β→A2→Prop) (Xa:Exit→Fl→A2→Prop) (hd:I4 cf c=true)
 (round:∀s g w1 w2 H o,Inv s g (w1++w2) H→step s=some (w1,o)→run E T nt cf c ⟨fm s g,st.df⟩ H fun e st' H'=>match e with
  | .normal=>∃s' g',o= .inl s'∧He st'.l (fm s' g')∧st'.df=st.df∧Inv s' g' w2 H'
  |e=>(∃x l,o= .inr x∧X x e l w2 H'∧He st'.l l∧st'.df=st.df)∨∃l,Xa e l H'∧He st'.l l∧st'.df=st.df)
 {N:Nat} {s0:σ} (g0:γ) {w w':List β} {r:R} (h:HM step N s0=some (w,r)) (hf:He st.l (fm s0 g0)) (hI:Inv s0 g0 (w++w') H) (after:∀e l H',X r e l w' H'→K e ⟨l,st.df⟩ H') (afterA:∀e l H',Xa e l H'→K e ⟨l,st.df⟩ H'):E.sim (.loop c) st H K:=by
 subst hE;refine T9.loopN (fun n fr' H'=>∃s g w,HM step n s=some (w,r)∧Ei fr' ⟨fm s g,st.df⟩∧Inv s g (w++w') H') N ⟨s0,g0,w,h,⟨fun t=>hf.wk t,rfl⟩,hI⟩ fun n fr' H' ⟨s,g,w,hs,hle,hi⟩=>?_
 cases n with
 |zero=>cases hs
 | succ n=>
  simp only[HM]at hs
  cases ho:step s with
  |none=>rw[ho]at hs;cases hs
  | some p=>
   obtain⟨w1,o⟩:=p
   rw[ho]at hs
   obtain⟨w2,hw,hrest⟩:∃w2,w=w1++w2∧match o with| .inl s'=>HM step n s'=some (w2,r)| .inr x=>x=r∧w2=[]:=by
    cases o with
    |inl s'=>
     simp only at hs
     split at hs
     ·cases hs
     rename_i w2 x hx;cases hs;exact⟨w2,rfl,hx⟩
    |inr x=>cases hs;exact⟨[],by simp,rfl,rfl⟩
   subst hw
   rw[append_assoc]at hi
   refine T9.frLe hle ((K5 hP.1 hP.2 c _ _ _ hd (round s g w1 (w2++w') H' o hi ho)).mono fun e fr2 H2 ⟨st',hle',hq⟩=>?_)
   have exits:∀e,((∃x l,o= .inr x∧X x e l (w2++w') H2∧He st'.l l∧st'.df=st.df)∨∃l,Xa e l H2∧He st'.l l∧st'.df=st.df)→∃st'',Ei fr2 st''∧K e st'' H2:=by
    intro e hq
    rcases hq with⟨x,l,h1,h4,h2,h3⟩|⟨l,h4,h2,h3⟩
    ·subst h1;obtain⟨rfl,rfl⟩:=hrest;exact⟨⟨l,st.df⟩,⟨fun t=>(hle'.s t).trans (h2.wk t),hle'.df.trans h3⟩,after _ _ _ h4⟩
    exact⟨⟨l,st.df⟩,⟨fun t=>(hle'.s t).trans (h2.wk t),hle'.df.trans h3⟩,afterA _ _ _ h4⟩
   cases e with
   |normal=>
    obtain⟨s',g',h1,h2,h3,h4⟩:=hq;subst h1;exact⟨n,Nat.lt_succ_self n,s',g',w2,hrest,⟨fun t=>(hle'.s t).trans (h2.wk t),hle'.df.trans h3⟩,h4⟩
   |_=>exact exits _ hq
end
section
variable {P:Program}{nt:Nat}{T:EZ}{E:CU}{α β σ R ι:Type}
def REI (enc:α→List V)(step:σ→α→Option (List β×(σ ⊕ R)))(o:σ ⊕ R)(w':List β)(Inv:σ→List β→A2→A2→Prop)(l:List (List V))(F H:A2):Prop:=
 ∃q:σ×List α×List β,(l=q.2.1.map enc∧Am step q.2.1 q.1=some (q.2.2,o))∧Inv q.1 (q.2.2++w') F H
def RED (o:σ ⊕ R)(w':List β)(X:R→Exit→List β→A2→A2→Prop)(Xa:Exit→A2→A2→Prop)(c:Code)(F H:A2):Prop:=
 (∃q:R×Exit,(o= .inr q.1∧Zl q.2=some c)∧X q.1 q.2 w' F H)∨∃q:Exit,Zl q=some c∧Xa q F H
def REJ (enc:α→List V)(step:σ→α→Option (List β×(σ ⊕ R)))(o:σ ⊕ R)(w':List β)(fJ:ι→σ→α→Fl)(J:ι→σ→α→List β→A2→A2→Prop)(x:List V)(l:List (List V))(fr:Fr)(F H:A2):Prop:=
 ∃q:ι×σ×α×List α×List β,(x=enc q.2.2.1∧l=q.2.2.2.1.map enc∧Am step (q.2.2.1::q.2.2.2.1) q.2.1=some (q.2.2.2.2,o)∧Ei fr ⟨fJ q.1 q.2.1 q.2.2.1,[]⟩)∧J q.1 q.2.1 q.2.2.1 (q.2.2.2.2++w') F H
theorem E3.or {I J:A2→A2→Prop}(h:E3 I)(k:E3 J):E3 fun F H=>I F H∨J F H:=
 ⟨fun hh=>hh.elim (fun x=>h.le x) fun x=>k.le x,fun id b hh e=>hh.imp (fun x=>h.chg id b x e) fun x=>k.chg id b x e⟩
variable {enc:α→List V}{step:σ→α→Option (List β×(σ ⊕ R))}{g:Operand}{ps:Array Tmp}{asg body:Code}{st:St}{H:A2}{K:Exit→St→A2→Prop}
 {xs:List α} {s0:σ} {o:σ ⊕ R} {w w':List β}
theorem YQ (cf:Cf) (hE:E=G0 P nt none) (hP:QV P T) (Inv:σ→List β→A2→A2→Prop) (X:R→Exit→List β→A2→A2→Prop) (Xa:Exit→A2→A2→Prop) (fJ:ι→σ→α→Fl) (J:ι→σ→α→List β→A2→A2→Prop)
 (hI:∀s w,E3 (Inv s w)) (hX:∀r e w,E3 (X r e w)) (hXa:∀e,E3 (Xa e)) (hJ:∀i s y w,E3 (J i s y w)) (hit:Ok P ((Q3 [] st.l g).V) (xs.map enc)) (h:Am step xs s0=some (w,o)) {F:A2} (h0:Inv s0 (w++w') F H)
 (hnt:∀p∈ps,p<nt) (hps:∀x,(enc x).length=ps.size) (hda:I4 cf asg=true) (hdb:I4 cf body=true)
 (asgP:∀(E':CU) (id:Nat) y s w F H,E'=G0 P nt (some id)→Inv s w F H→run E' T nt cf asg ⟨So ps.toList (enc y) st.l,[]⟩ H fun e st' H'=>match e with| .normal=>∃i,J i s y w F H'∧He st'.l (fJ i s y)∧st'.df=[]|_=>False)
 (bodyP:∀(E':CU) (id:Nat) i y s w1 w2 F H o',E'=G0 P nt (some id)→(∃L,F id=some (.loop L))→step s y=some (w1,o')→J i s y (w1++w2) F H→run E' T nt cf body ⟨fJ i s y,[]⟩ H fun e _ H'=>match e with
  | .normal=>∃s',o'= .inl s'∧Inv s' w2 F H'
  |e=>(∃r,o'= .inr r∧(Zl e).isSome=true∧X r e w2 F H')∨((Zl e).isSome=true∧Xa e F H'))
 (done:∀d s H',o= .inl s→F d=none→Inv s w' (upd F d (some DB)) H'→K .normal ⟨st.l,d::st.df⟩ H')
 (stop:∀d r e H',o= .inr r→F d=none→X r e w' (upd F d (some DB)) H'→K e ⟨st.l,d::st.df⟩ H')
 (stopA:∀d e H',F d=none→Xa e (upd F d (some DB)) H'→K e ⟨st.l,d::st.df⟩ H'):E.sim (.rangeFunc g ps asg body) st H K:=by
 subst hE;have hev:ev (F4 st) g=(Q3 [] st.l g).V:=(Dh (df:=st.df) Ih.nil g).symm
 rw[←hev]at hit
 have sI:∀l,E3 (REI enc step o w' Inv l):=fun l=>E3.ex fun q=>hI q.1 _;have sD:∀c,E3 (RED o w' X Xa c):=fun c=>E3.or (E3.ex fun q=>hX q.1 q.2 w') (E3.ex fun q=>hXa q);have sJ:∀x l fr,E3 (REJ enc step o w' fJ J x l fr):=fun x l fr=>E3.ex fun q=>hJ q.1 q.2.1 q.2.2.1 _;refine T9.rangeOuter (nt:=nt) hnt (fun x hx=>?_) hit (REI enc step o w' Inv) (RED o w' X Xa) sI sD (REJ enc step o w' fJ J) sJ ⟨⟨s0,xs,w⟩,⟨rfl,h⟩,h0⟩ ?_ ?_ (fun d H' hd ⟨⟨s,ys,w2⟩,⟨hl,hr⟩,hi⟩=>?_) fun c d H' hd hx=>?_
 ·obtain⟨y,_,rfl⟩:=List.mem_map.1 hx;exact hps y
 ·intro id L x l F H ⟨⟨s,ys,w2⟩,⟨hl,hr⟩,hi⟩ _ _
  cases ys with
  |nil=>cases hl
  | cons y ys=>
   simp only[List.map_cons,List.cons.injEq]at hl
   obtain⟨rfl,rfl⟩:=hl
   have e:(⟨EF (F4 st).s ps.toList (enc y),[]⟩:Fr)=F4 ⟨So ps.toList (enc y) st.l,[]⟩:=by
    simp only[F4,Fr.mk.injEq,and_true]
    funext t
    exact Qn _ _ _ _
   rw[e];refine(K5 hP.1 hP.2 asg _ _ _ hda (asgP _ id y s _ F H rfl hi)).mono fun e fr' H1 ⟨st',hle,hq⟩=>?_
   cases e with
   |normal=>
    obtain⟨i,hj,hl,hdf⟩:=hq;exact⟨rfl,⟨i,s,y,ys,w2⟩,⟨rfl,rfl,hr,fun t=>(hle.s t).trans (hl.wk t),hle.df.trans hdf⟩,hj⟩
   |_=>exact hq.elim
 ·intro id L x l fr' F H ⟨⟨i,s,y,ys,w2⟩,⟨hx,hl,hr,hf⟩,hj⟩ hL;subst hx;subst hl
  simp only[Am]at hr
  cases ho:step s y with
  |none=>rw[ho]at hr;cases hr
  | some p=>
   obtain⟨w1,o'⟩:=p
   rw[ho]at hr
   obtain⟨w3,hw,hrest⟩:∃w3,w2=w1++w3∧match o' with| .inl s'=>Am step ys s'=some (w3,o)| .inr x=>o= .inr x∧w3=[]:=by
    cases o' with
    |inl s'=>
     simp only at hr
     split at hr
     ·cases hr
     rename_i w3 x hx;cases hr;exact⟨w3,rfl,hx⟩
    |inr x=>cases hr;exact⟨[],by simp,rfl,rfl⟩
   subst hw
   dsimp only at hj
   rw[append_assoc]at hj
   refine T9.frLe hf ((K5 hP.1 hP.2 body _ _ _ hdb (bodyP _ id i y s w1 (w3++w') F H o' rfl ⟨L,hL⟩ ho hj)).mono fun e fr2 H2 ⟨st',hle,hq⟩=>?_)
   have out:∀e c,Zl e=some c→((∃r,o'= .inr r∧(Zl e).isSome=true∧X r e (w3++w') F H2)∨((Zl e).isSome=true∧Xa e F H2))→RED o w' X Xa c F H2:=by
    intro e c hc hq
    rcases hq with⟨r,h1,_,h3⟩|⟨_,h3⟩
    ·subst h1;obtain⟨rfl,rfl⟩:=hrest;exact .inl ⟨⟨r,e⟩,⟨rfl,hc⟩,h3⟩
    exact .inr ⟨e,hc,h3⟩
   cases e with
   |normal=>
    obtain⟨s',h1,h2⟩:=hq;subst h1;exact⟨⟨s',ys,w3⟩,⟨rfl,hrest⟩,h2⟩
   |ret=>exact out .ret _ rfl hq
   |exit k=>exact out (.exit k) _ rfl hq
   |_=>rcases hq with⟨_,_,h,_⟩|⟨h,_⟩<;>cases h
 ·have hys:ys=[]:=by
   cases ys with
   |nil=>rfl
   |cons _ _=>cases hl
  subst hys;cases hr;exact⟨⟨st.l,d::st.df⟩,⟨fun t=>Wk.refl _,rfl⟩,done d s H' rfl hd hi⟩
 have fin:∀e,Zl e=some c→K e ⟨st.l,d::st.df⟩ H'→T9 P nt none c {F4 st with df:=d::(F4 st).df} H' fun e fr' H'=>∃st',Ei fr' st'∧K e st' H':=by
  intro e hj hk
  cases e with
  |ret=>cases hj;exact T9.ret ⟨⟨st.l,d::st.df⟩,⟨fun t=>Wk.refl _,rfl⟩,hk⟩
  |exit k=>cases hj;exact T9.exit ⟨⟨st.l,d::st.df⟩,⟨fun t=>Wk.refl _,rfl⟩,hk⟩
  |_=>cases hj
 rcases hx with⟨⟨r,e⟩,⟨ho,hj⟩,hx⟩|⟨e,hj,hx⟩
 ·exact fin e hj (stop d r e H' ho hd hx)
 exact fin e hj (stopA d e H' hd hx)
end
end Go.Ab
namespace Go.Ab
def Pn {α:Type}(l:List α)(i:Int):Bool:=decide (0≤i∧i<(l.length:Nat))
def Fb {α:Type}(l:List α)(i:Int)(u:α→α):Option (List α):=(B9 l i).map fun x=>l.set i.toNat (u x)
def UB {α:Type}(n m:Int)(z:α):Option (List α):=if 0≤n∧n≤m∧m≤1073741824 then some (List.replicate n.toNat z)else none
def VY {α:Type}(_:List α)(n:Int):Option (List α):=if 0≤n∧n≤1073741824 then some []else none
end Go.Ab
namespace Go.Ab
open Go.RowKit
variable [J9][Ar]
theorem Z9.swap {H0 H:A2} {L:List En} (h:Z9 H0 L H) (i:Nat) {en en':En} {id t:Nat} {b b':Fa} (hi:L[i]? =some en) (he:en.id=some (id,b)) (he':en'.id=some (t,b')) (ht:upd H id none t=none):
 Z9 H0 (L.set i en') (upd (upd H id none) t (some b')):=by
 have hlt:i<L.length:=by
  rcases Nat.lt_or_ge i L.length with h'|h'
  ·exact h'
  rw[List.getElem?_eq_none h']at hi;cases hi
 have Hg:∀(j:Nat) e,(L.set i en')[j]? =some e→(j=i∧e=en')∨(j≠i∧L[j]? =some e):=fun j e hj=>by
  rw[List.getElem?_set]at hj
  split at hj
  ·rename_i hij;subst hij
   try rw[if_pos hlt]at hj
   exact .inl ⟨rfl,(Option.some.inj hj).symm⟩
  rename_i hij;exact .inr ⟨fun e=>hij e.symm,hj⟩
 have hid:=h.has i _ id b hi he
 have h0:∀x c,H0 x=some c→upd H id none x=some c:=fun x c hx=>by
  rw[A7 _ _ (P4 hid.1 hx)];exact h.ext x c hx
 have hoth:∀(j:Nat) e x c,j≠i→L[j]? =some e→e.id=some (x,c)→H0 x=none∧upd H id none x=some c:=fun j e x c hne hj hx=>by
  have:=h.has j e x c hj hx
  have hxid:x≠id:=fun eq=>by subst eq;exact hne (h.inj j i e _ x c b hj hi hx he)
  exact⟨this.1,by rw[A7 _ _ hxid];exact this.2⟩
 have hid0:H0 t=none:=by
  cases e:H0 t with
  |none=>rfl
  |some c=>rw[h0 t c e]at ht;cases ht
 refine⟨fun x bb hx=>?_,fun j e x bb hj hx=>?_,fun j k e e' x bb bb' hj hk hx hx'=>?_,fun x bb hx=>?_⟩
 rotate_right
 ·by_cases hxi:x=t
  ·subst hxi;rw[B7]at hx;cases hx
   exact .inr ⟨i,en',by rw[List.getElem?_set,if_pos rfl,if_pos hlt],he'⟩
  rw[A7 _ _ hxi]at hx
  have hxid:x≠id:=fun eq=>by subst eq;rw[B7]at hx;cases hx
  rw[A7 _ _ hxid]at hx
  refine(h.only x bb hx).imp (fun h=>h) fun⟨j,e,h1,h2⟩=>⟨j,e,?_,h2⟩;rw[List.getElem?_set]
  split
  ·rename_i hij;subst hij;rw[hi]at h1;cases h1;rw[he]at h2;cases h2;exact absurd rfl hxid
  exact h1
 ·rw[A7 _ _ (P4 hid0 hx)];exact h0 x bb hx
 ·rcases Hg j e hj with⟨_,rfl⟩|⟨hne,hj'⟩
  ·rw[he']at hx;cases hx;exact⟨hid0,B7 _ _ _⟩
  have:=hoth j e x bb hne hj' hx;exact⟨this.1,by rw[A7 _ _ (P4 ht this.2)];exact this.2⟩
 rcases Hg j e hj with⟨hji,rfl⟩|⟨hne,hj'⟩<;>rcases Hg k e' hk with⟨hki,rfl⟩|⟨hne',hk'⟩
 ·rw[hji,hki]
 ·rw[he']at hx;cases hx;have:=(hoth k e' t bb' hne' hk' hx').2;rw[ht]at this;cases this
 ·rw[he']at hx';cases hx';have:=(hoth j e t bb hne hj' hx).2;rw[ht]at this;cases this
 exact h.inj j k e e' x bb bb' hj' hk' hx hx'
theorem C3.swap {Φ:A2→A2→Prop}{F H:A2}{L:List En}(h:C3 Φ F L H)(i:Nat){id t:Nat}{b b':Fa}(hi:L[i]? =some (.blk id b))(ht:upd H id none t=none):C3 Φ F (L.set i (.blk t b')) (upd (upd H id none) t (some b')):=by
 obtain⟨hs,F',H1,h0,h1,h2⟩:=h;have e:=h0.get i hi;have e1:=hs.le h1 _ _ e;have h3:=hs.chg id none h1 (by rw[e,e1]);have hle:Gr (upd H1 id none) (upd H id none):=h2.upd id none;have hn1:=hle.none ht;have hn':=hs.fresh h3 hn1;exact⟨hs,_,_,h0.swap i hi rfl rfl hn',hs.chg t (some b') h3 (by rw[hn1,hn']),hle.upd t _⟩
theorem C3.swap' {Φ:A2→A2→Prop}{F H:A2}{L:List En}(h:C3 Φ F L H)(i:Nat){id t:Nat}{b b':Fa}(hi:L[i]? =some (.blk id b))(ht:H t=none):C3 Φ F (L.set i (.blk t b')) (upd H t (some b')):=by
 have hid:=h.get i hi
 have hne:t≠id:=fun e=>by subst e;rw[ht]at hid;cases hid
 obtain⟨hs,F',H1,h0,h1,h2⟩:=h.swap (b':=b') i hi (t:=t) (by rw[A7 _ _ hne];exact ht);refine⟨hs,F',H1,h0,h1,fun x c hx=>?_⟩;have:=h2 x c hx
 by_cases e:x=t
 ·subst e;rw[B7]at this ⊢;exact this
 rw[A7 _ _ e]at this ⊢
 by_cases e2:x=id
 ·subst e2;rw[B7]at this;cases this
 rwa[A7 _ _ e2]at this
structure OG where
 id:Nat
 lo:Int
 n:Int
 pre:List V
 rest:List V
def Aa (q:OG)(m:Int):Prop:=q.lo=(q.pre.length:Nat)∧q.n=m
theorem Mr {pre xs rest:List V}{lo n:Int}(h0:lo=(pre.length:Nat))(h1:n=(xs.length:Nat)):L7 (pre++xs++rest) lo n=xs:=by
 subst h0;subst h1;simp[L7]
theorem YH {pre xs rest ys:List V}{i:Nat}(hi:i=pre.length+xs.length):Cg (pre++xs++rest) i ys=pre++(xs++ys)++rest.drop ys.length:=by
 subst hi;simp only[Cg,append_assoc];rw[show pre++(xs++rest)=(pre++xs)++rest by simp,←List.length_append,List.take_left,List.drop_append];simp
theorem SU {pre xs rest:List V}{i:Nat}(h:i<xs.length):(pre++xs++rest).getD (pre.length+i) .bad=xs.getD i .bad:=by
 simp only[List.getD_eq_getElem?_getD,append_assoc];rw[List.getElem?_append_right (by omega),show pre.length+i - pre.length=i by omega,List.getElem?_append_left h]
theorem Ab8 {pre xs rest:List V}{i:Nat}{v:V}(h:i<xs.length):(pre++xs++rest).set (pre.length+i) v=pre++xs.set i v++rest:=by
 simp only[append_assoc];rw[List.set_append_right _ _ (by omega),show pre.length+i - pre.length=i by omega,List.set_append_left _ _ h]
theorem C3.set_self {L:List En} (i:Nat) {e:En} (hi:L[i]? =some e):L.set i e=L:=by
 apply List.ext_getElem?;intro j;rw[List.getElem?_set]
 split
 ·rename_i h;subst h
  split
  ·exact hi.symm
  rename_i h;rw[List.getElem?_eq_none (by omega)]
 rfl
section
variable {P:Program}{nt:Nat}{rd:Option Nat}{T:EZ}{E:CU}
variable (hE:E=G0 P nt rd)
include hE
variable {α R:Type}{f:α→V}{Φ:A2→A2→Prop}{H0 H:A2}{L:List En}{sz:Nat}{q:OG}{l:List α}{r:R}
theorem Nr (hq:Aa q (Ar.len l)){k:Int→Prop}(h:k (Ar.len l)):E.olen q.n k:=by
 subst hE
 show k q.n
 rw[hq.2];exact h
theorem Ap (hO:C3 Φ H0 L H)(hq:Aa q (Ar.len l))(i:Nat){j:Int}{k:Int→Prop}{F:Unit→Option R}(hi:L[i]? =some (.blk q.id (.arr sz (q.pre++lst f l++q.rest))))(h:(Jx (Pn l j)).bind F=some r)(hk:F ()=some r→k (ofs q.lo j)):
 E.oidx H q.id sz q.lo q.n j k:=by
 subst hE;obtain⟨x,h1,h2⟩:=bind_some h
 unfold Jx at h1
 split at h1
 ·rename_i hp;refine⟨⟨_,hO.get i hi⟩,?_,hk h2⟩;rw[hq.2,len_eq];exact of_decide_eq_true hp
 cases h1
theorem Pp {l:List α} {i:Int} {x:α} (h:B9 l i=some x):(0≤i∧i<(l.length:Nat))∧l[i.toNat]? =some x:=by
 unfold B9 at h
 split at h
 ·rename_i h0;refine⟨⟨h0,?_⟩,h⟩
  rcases Nat.lt_or_ge i.toNat l.length with h'|h'
  ·omega
  rw[List.getElem?_eq_none h']at h;cases h
 cases h
theorem SG {l:List α}{i:Nat}{x:α}(h:l[i]? =some x):(lst f l).getD i .bad=f x:=by
 rw[lst_eq];simp[List.getD,h]
theorem Bx {g:α→V}(hf:∀x,f x=g x)(hO:C3 Φ H0 L H)(hq:Aa q (Ar.len l))(i:Nat){j:Int}{k:V→Prop}{F:α→Option R}(hi:L[i]? =some (.blk q.id (.arr sz (q.pre++lst f l++q.rest))))(h:(B9 l j).bind F=some r)(hk:∀x,F x=some r→k (g x)):
 E.oload H q.id (ofs q.lo j) k:=by
 obtain⟨x,h1,h2⟩:=bind_some h;obtain⟨hb,h3⟩:=Pp hE h1;have h4:=SG hE (f:=f) h3;subst hE;have e1:=I3 (f:=f) l;refine⟨_,_,hO.get i hi,?_,?_⟩
 ·rw[ofs_eq,hq.1];simp only[List.length_append,e1];omega
 rw[ofs_eq,hq.1,show((q.pre.length:Nat)+j:Int).toNat=q.pre.length+j.toNat by omega,SU (by rw[e1];omega),h4,hf];exact hk x h2
theorem Sz {β:Type}{f0:β→V}{esz:Nat}(hO:C3 Φ H0 L H){k:Nat→A2→Prop}(hk:∀(q:OG) id H',Aa q (Ar.len ([]:List β))→C3 Φ H0 (.blk id (.cells [.own q.id q.lo q.n]):: .blk q.id (.arr esz (q.pre++lst f0 []++q.rest))::L) H'→k id H'):E.oalloc esz H k:=by
 subst hE;intro t id ht hid
 have e:([]:List V)++lst f0 []++[]=[]:=by rw[←D5 (f:=f0)];rfl
 have h0:C3 Φ H0 (.blk t (.arr esz [])::L) (upd H t (some (.arr esz []))):=hO.push ht rfl;have h1:C3 Φ H0 (.blk id (.cells [.own t 0 0]):: .blk t (.arr esz [])::L) (upd (upd H t (some (.arr esz []))) id (some (.cells [.own t 0 0]))):=h0.push hid rfl;refine hk ⟨t,0,0,[],[]⟩ id _ ⟨rfl,by rw[len_eq];rfl⟩ ?_
 show C3 Φ H0 (.blk id (.cells [.own t 0 0]):: .blk t (.arr esz (([]:List V)++lst f0 []++[]))::L) _
 rw[e];exact h1
theorem EH {u:α→α} {esz tz off:Nat} {y:V} (hu:∀x,∃y',BG y y'∧y'.one=true∧y'.cells.length=tz∧Qm (f x) esz tz off y'=f (u x)) (hle:off+tz≤esz) (hO:C3 Φ H0 L H) (hq:Aa q (Ar.len l)) (i:Nat) {j:Int} {k:A2→Prop} {F:List α→Option R}
 (hi:L[i]? =some (.blk q.id (.arr esz (q.pre++lst f l++q.rest)))) (h:(Fb l j u).bind F=some r)
 (hk:∀l' H',Aa q (Ar.len l')→F l'=some r→C3 Φ H0 (L.set i (.blk q.id (.arr esz (q.pre++lst f l'++q.rest)))) H'→k H'):E.ostore H q.id (ofs q.lo j) esz tz off y k:=by
 obtain⟨l',h1,h2⟩:=bind_some h
 unfold Fb at h1
 cases hx:B9 l j with
 |none=>rw[hx]at h1;cases h1
 | some x=>
  rw[hx]at h1
  simp only[Option.map_some,Option.some.injEq]at h1
  obtain⟨hb,h3⟩:=Pp hE hx;obtain⟨y',q1,q2,q3,q4⟩:=hu x;have e1:=SG hE (f:=f) h3
  have e2:(lst f l).set j.toNat (f (u x))=lst f l':=by
   rw[←h1,lst_eq,lst_eq,List.map_set]
  subst hE;have el:=I3 (f:=f) l
  have ej:(ofs q.lo j).toNat=q.pre.length+j.toNat:=by rw[ofs_eq,hq.1];omega
  refine⟨_,y',q1,q2,q3,hle,hO.get i hi,?_,?_⟩
  ·rw[ofs_eq,hq.1];simp only[List.length_append,el];omega
  rw[ej,SU (by rw[el];omega),Ab8 (by rw[el];omega),e1,q4,e2];refine hk l' _ ⟨hq.1,?_⟩ h2 (hO.set i hi);rw[hq.2,len_eq,len_eq,←h1,List.length_set]
theorem VJ {by_:Nat} (hby:by_≤131072) {z:V} {z0:α} (hz:BG z (f z0)) (hO:C3 Φ H0 L H) {n m:Int} {k:V→A2→Prop} {F:List α→Option R} (h:(UB n m z0).bind F=some r)
 (hk:∀l' (q:OG) H',Aa q (Ar.len l')→F l'=some r→C3 Φ H0 (.blk q.id (.arr sz (q.pre++lst f l'++q.rest))::L) H'→k (.own q.id q.lo q.n) H'):E.omk sz by_ z n m H k:=by
 subst hE;obtain⟨l',h1,h2⟩:=bind_some h
 unfold UB at h1
 split at h1
 ·rename_i hc;cases h1;refine⟨⟨hc.1,hc.2.1,?_⟩,List.replicate m.toNat (f z0),?_,fun id hid=>?_⟩
  ·have:m*(by_:Nat)≤1073741824*131072:=Int.mul_le_mul hc.2.2 (by omega) (by omega) (by omega);omega
  ·have:∀k:Nat,H9 (List.replicate k z) (List.replicate k (f z0)):=fun k=>by
    induction k with
    |zero=>exact .nil
    |succ k ih=>rw[List.replicate_succ,List.replicate_succ];exact .cons hz ih
   exact this _
  have e:List.replicate m.toNat (f z0)=[]++lst f (List.replicate n.toNat z0)++List.replicate (m.toNat - n.toNat) (f z0):=by
   rw[lst_eq,List.map_replicate,List.nil_append,List.replicate_append_replicate];congr 1;omega
  rw[e];exact hk _ ⟨id,0,n,[],List.replicate (m.toNat - n.toNat) (f z0)⟩ _ ⟨rfl,by rw[len_eq];simp;omega⟩ h2 (hO.push hid rfl)
 cases h1
theorem Qq {by_:Nat} {z:V} (hsz:∀x,(f x).cells.length=sz) (hby:by_≤131072) (hO:C3 Φ H0 L H) (hq:Aa q (Ar.len l)) (i:Nat) (hi:L[i]? =some (.blk q.id (.arr sz (q.pre++lst f l++q.rest)))) {y:V} {m:List α} {k:V→A2→Prop} {F:List α→Option R}
 (hs:Oh sz H y (lst f m)) (h:(M5 l m).bind F=some r)
 (hk:∀x (q:OG) H',Aa q (Ar.len x)→C3 Φ H0 (L.set i (.blk q.id (.arr sz (q.pre++lst f x++q.rest)))) H'→F x=some r→k (.own q.id q.lo q.n) H'):E.oapp sz by_ z H (.own q.id q.lo q.n) y k:=by
 subst hE;obtain⟨x,h1,h2⟩:=bind_some h;have el:=I3 (f:=f) l;have em:=I3 (f:=f) m
 have hn:q.n=(l.length:Nat):=by rw[hq.2,len_eq]
 unfold M5 at h1
 split at h1
 ·rename_i hc;cases h1;refine⟨_,hs,_,hO.get i hi,fun hfit=>?_,fun _=>⟨?_,fun t j ht=>?_⟩⟩
  rotate_left
  ·rw[em,hn,Int.toNat_natCast];exact Nat.le_trans (Nat.mul_le_mul hc hby) (by decide)
  rotate_left
  ·have e:Cg (q.pre++lst f l++q.rest) (q.lo+q.n).toNat (lst f m)=q.pre++lst f (l++m)++q.rest.drop m.length:=by
    rw[YH (by rw[hq.1,hn,el];omega),IE,em]
   rw[e];refine hk _ ⟨q.id,q.lo,q.n+((lst f m).length:Nat),q.pre,q.rest.drop m.length⟩ _ ⟨hq.1,?_⟩ (hO.set i hi) h2;rw[len_eq,hn,em];simp
  have e:L7 (q.pre++lst f l++q.rest) q.lo q.n++lst f m++List.replicate j z=[]++lst f (l++m)++List.replicate j z:=by
   rw[Mr hq.1 (by rw[el];exact hn),IE,List.nil_append]
  rw[e];refine hk _ ⟨t,0,q.n+((lst f m).length:Nat),[],List.replicate j z⟩ _ ⟨rfl,?_⟩ (hO.swap' i hi ht) h2;rw[len_eq,hn,em];simp
 cases h1
theorem Ae7 {by_:Nat} {z:V} (hsz:∀x,(f x).cells.length=sz) (hby:by_≤131072) (hO:C3 Φ H0 L H) {x:V} (hx:x= .sl [] .nil∨x= .sl [] .full) {y:V} {m:List α} {k:V→A2→Prop} {F:List α→Option R}
 (hs:Oh sz H y (lst f m)) (h:(M5 [] m).bind F=some r)
 (hk:∀x (q:OG) H',Aa q (Ar.len x)→C3 Φ H0 (.blk q.id (.arr sz (q.pre++lst f x++q.rest))::L) H'→F x=some r→k (.own q.id q.lo q.n) H'):E.oapp sz by_ z H x y k:=by
 subst hE;obtain⟨x',h1,h2⟩:=bind_some h;have em:=I3 (f:=f) m
 unfold M5 at h1
 split at h1
 ·rename_i hc;cases h1;refine⟨_,hs,?_⟩
  have key:(lst f m).length*by_≤140737488355328∧∀t j,H t=none→k (.own t 0 ((lst f m).length:Nat)) (upd H t (some (.arr sz (lst f m++List.replicate j z)))):=by
   refine⟨?_,fun t j ht=>?_⟩
   ·rw[em];exact Nat.le_trans (Nat.mul_le_mul (by simpa using hc) hby) (by decide)
   refine hk m ⟨t,0,((lst f m).length:Nat),[],List.replicate j z⟩ _ ⟨rfl,by rw[len_eq,em]⟩ ?_ (by simpa using h2);exact hO.push ht rfl
  rcases hx with rfl|rfl
  ·exact⟨.inl rfl,key.1,key.2⟩
  exact⟨.inr rfl,key.1,key.2⟩
 cases h1
theorem Dw (h:Aa q (Ar.len l)):Aa q ((lst f l).length:Nat):=⟨h.1,by rw[h.2,len_eq,I3]⟩
theorem Ab4 (hO:C3 Φ H0 L H)(hq:Aa q (Ar.len l))(i:Nat)(hi:L[i]? =some (.blk q.id (.arr sz (q.pre++lst f l++q.rest)))):Oh sz H (.own q.id q.lo q.n) (lst f l):=by
 refine⟨_,hO.get i hi,?_⟩;rw[Mr hq.1 (by rw[hq.2,len_eq,I3])];exact .refl _
theorem Lg (hsz:∀x,(f x).cells.length=sz){ys:List V}{tl:E4}(h:H9 ys (lst f l)):Oh sz H (.sl ys tl) (lst f l):=⟨h,JL hsz l⟩
theorem YS (hO:C3 Φ H0 L H) (hq:Aa q (Ar.len l)) (i:Nat) (hi:L[i]? =some (.blk q.id (.arr sz (q.pre++lst f l++q.rest)))) {lo hi':Option Int} {k:V→Prop} {F:List α→Option R}
 (h:(N6 l lo hi' none).bind F=some r) (hk:∀x (q:OG),Aa q (Ar.len x)→C3 Φ H0 (L.set i (.blk q.id (.arr sz (q.pre++lst f x++q.rest)))) H→F x=some r→k (.own q.id q.lo q.n)):
 E.oslice sz H q.id q.lo q.n lo hi' none k:=by
 subst hE;obtain⟨x,h1,h2⟩:=bind_some h;have el:=I3 (f:=f) l
 have hn:q.n=(l.length:Nat):=by rw[hq.2,len_eq]
 unfold N6 at h1
 split at h1
 ·rename_i hc;cases h1;obtain⟨c1,c2,c3,c4,c5⟩:=hc
  simp only[Option.getD_none]at c3
  refine⟨_,hO.get i hi,?_,?_⟩
  ·rw[hn,hq.1];simp only[List.length_append,el,Option.getD_none];refine⟨c1,c2,by omega,by omega,fun h=>by cases h⟩
  rw[hn]
  generalize hA:lo.getD 0=a at *
  generalize hB:hi'.getD (l.length:Nat)=b at *
  have hm:((l.drop a.toNat).take (b.toNat - a.toNat)).length=b.toNat - a.toNat:=by simp;omega
  refine hk _ ⟨q.id,q.lo+a,b - a,q.pre++lst f (l.take a.toNat),lst f (l.drop b.toNat)++q.rest⟩ ⟨?_,?_⟩ ?_ h2
  ·simp only[List.length_append,I3,List.length_take,hq.1];omega
  ·rw[len_eq,hm];simp only;omega
  have e:q.pre++lst f (l.take a.toNat)++lst f ((l.drop a.toNat).take (b.toNat - a.toNat))++(lst f (l.drop b.toNat)++q.rest)=q.pre++lst f l++q.rest:=by
   have e1:l=l.take a.toNat++((l.drop a.toNat).take (b.toNat - a.toNat)++l.drop b.toNat):=by
    have e2:l.drop b.toNat=(l.drop a.toNat).drop (b.toNat - a.toNat):=by rw[List.drop_drop];congr 1;omega
    rw[e2,List.take_append_drop,List.take_append_drop]
   have e3:lst f l=lst f (l.take a.toNat)++(lst f ((l.drop a.toNat).take (b.toNat - a.toNat))++lst f (l.drop b.toNat)):=by
    rw[IE,IE,←e1]
   rw[e3];simp only[append_assoc]
  simp only
  rw[e,C3.set_self i hi];exact hO
 cases h1
theorem Xh (hO:C3 Φ H0 L H)(hq:Aa q (Ar.len l))(i:Nat)(hi:L[i]? =some (.blk q.id (.arr sz (q.pre++lst f l++q.rest)))){lo hi':Option Int}{k:V→Prop}{F:List α→Option R}
 (h:(N6 l lo hi' none).bind F=some r) (hk:∀x (q':OG),Oh sz H (.own q'.id q'.lo q'.n) (lst f x)→F x=some r→k (.own q'.id q'.lo q'.n)):
 E.oslice sz H q.id q.lo q.n lo hi' none k:=
 YS hE hO hq i hi h fun x q' hq' hO' h2=>hk x q' (Ab4 hE hO' hq' i (by rw[List.getElem?_set];simp[(List.getElem?_eq_some_iff.1 hi).1])) h2
theorem An2 (hO:C3 Φ H0 L H)(hq:Aa q (Ar.len l))(i:Nat){k:List V→A2→Prop}(hi:L[i]? =some (.blk q.id (.arr sz (q.pre++lst f l++q.rest))))(hk:∀H',C3 Φ H0 (L.eraseIdx i) H'→k (lst f l) H'):E.ofrz H q.id q.lo q.n k:=by
 subst hE;have:=hk _ (hO.del i hi);refine⟨_,_,_,hO.get i hi,.refl _,?_⟩;rw[Mr hq.1 (by rw[hq.2,len_eq,I3])];exact this
end
end Go.Ab
namespace Go.Ab
open Go.RowKit
variable [J9][Ar]
theorem SF {α:Type}{f:α→V}{l:List α}(h:lst f l=[]):l=[]:=by
 rw[lst_eq]at h;exact List.map_eq_nil_iff.1 h
theorem ZS {α:Type}{f:α→V}{l r:List α}(hx:lst f l=[])(h:(M5 [] l).bind (fun x=>some x)=some r):lst f r=[]:=by
 rw[SF hx]at h
 simp[M5]at h
 subst h;rw[lst_eq];rfl
def ZV (F:A2)(sz:Nat)(xs:List V)(v:V)(H':A2):Prop:=∃q:OG,v= .own q.id q.lo q.n∧Aa q (xs.length:Nat)∧F q.id=none∧H'=upd F q.id (some (.arr sz (q.pre++xs++q.rest)))
def PJ (P:Program)(f:FuncId)(args:List V)(sz:Nat)(xs:List V):Prop:=∀H,I0 P f args H (ZV H sz xs)
def Vl (P:Program)(f:FuncId)(args:List V)(sz:Nat)(xs xs':List V):Prop:=
 ∀H (q:OG),Aa q (xs.length:Nat)→H q.id=some (.arr sz (q.pre++xs++q.rest))→I0 P f (.own q.id q.lo q.n::args) H (ZV (upd H q.id none) sz xs')
def CS (mk:V→V):Prop:=∀(g:Gh) (w:World) (u:Value) (x:V),VR g w u (mk x)→∃v,VR g w v x∧∀(g':Gh) (w':World) (y:V),T4 g w g' w'→VR g' w' v y→VR g' w' u (mk y)
theorem CS.id :CS fun x=>x:=fun _ _ u _ h=>⟨u,h,fun _ _ _ _ k=>k⟩
theorem CS.agg (cs:List V) (i:Nat) (hi:i<cs.length):CS fun x=>.agg (cs.set i x):=fun g w u x h=>by
 cases h with
 |agg hl h1 hv=>
  rename_i vs
  have hi':i<(cs.set i x).length:=by simpa using hi
  refine⟨vs.getD i undef,by have:=hv i hi';rwa[Cy hi,if_pos rfl]at this,fun g' w' y s k=>?_⟩;refine .agg (by simpa using hl) (fun j hj=>h1 j (by simpa using hj)) fun j hj=>?_;rw[Cy hi]
  split
  ·rename_i e;subst e;exact k
  rename_i e;have:=hv j (by simpa using hj)
  rw[Cy hi,if_neg e]at this
  exact this.mono s
theorem CS.tup (cs:List V) (i:Nat) (hi:i<cs.length):CS fun x=>.tup (cs.set i x):=fun g w u x h=>by
 cases h with
 |tup hl hv=>
  rename_i vs
  have hi':i<(cs.set i x).length:=by simpa using hi
  refine⟨vs.getD i undef,by have:=hv i hi';rwa[Cy hi,if_pos rfl]at this,fun g' w' y s k=>?_⟩;refine .tup (by simpa using hl) fun j hj=>?_;rw[Cy hi]
  split
  ·rename_i e;subst e;exact k
  rename_i e;have:=hv j (by simpa using hj)
  rw[Cy hi,if_neg e]at this
  exact this.mono s
theorem CS.comp {m n:V→V}(hm:CS m)(hn:CS n):CS fun x=>m (n x):=fun g w u x h=>by
 obtain⟨v,h1,h2⟩:=hm g w u _ h;obtain⟨v',h3,h4⟩:=hn g w v _ h1;exact⟨v',h3,fun g' w' y s k=>h2 g' w' _ s (h4 g' w' y s k)⟩
theorem I0.adopt {P:Program} {f:FuncId} {args:List V} {H:A2} {K:V→A2→Prop} {sz:Nat} (h:I0 P f args H fun x H'=>K x H'∨(x= .sl [] .nil∧∀t,H' t=none→K (.own t 0 0) (upd H' t (some (.arr sz []))))):I0 P f args H K:=
 fun g w vals hR hA=>(h g w vals hR hA).mono fun v w' ⟨g',x,H',s,hR',hv,hK⟩=>by
  rcases hK with hK|⟨rfl,hK⟩
  ·exact⟨g',x,H',s,hR',hv,hK⟩
  obtain⟨g2,s2,hR2,hn,hv2⟩:=CZ hR' sz (.inl rfl) hv;exact⟨g2,_,_,s.trans s2,hR2,hv2,hK _ hn⟩
theorem C3.last {F H:A2}{t:Nat}{b:Fa}(h:C3 Eq F [.blk t b] H):F t=none∧Gr (upd F t (some b)) H:=by
 obtain⟨hs,F',H1,h0,h1,h2⟩:=h;subst h1;have h3:=h0.has 0 _ t b rfl rfl;refine⟨h3.1,fun x c hx=>?_⟩
 by_cases e:x=t
 ·subst e;rw[B7]at hx;cases hx;exact h2 _ _ h3.2
 rw[A7 _ _ e]at hx;exact h2 _ _ (h0.ext x c hx)
theorem C3.only {F H:A2}{L:List En}{t:Nat}{b:Fa}(h:C3 Eq F L H)(i:Nat)(hi:L[i]? =some (.blk t b)):C3 Eq F [.blk t b] H:=by
 obtain⟨hs,F',H1,h0,h1,h2⟩:=h;subst h1;have h3:=h0.has i _ t b hi rfl;refine⟨hs,upd F t (some b),upd F t (some b),(Z9.start F).push h3.1 rfl,rfl,fun x c hx=>?_⟩
 by_cases e:x=t
 ·subst e;rw[B7]at hx;cases hx;exact h2 _ _ h3.2
 rw[A7 _ _ e]at hx;exact h2 _ _ (h0.ext x c hx)
theorem C3.only1 {F H:A2}{L:List En}{t:Nat}{b:Fa}(h:C3 Eq F (.blk t b::L) H):C3 Eq F [.blk t b] H:=by
 obtain⟨hs,F',H1,h0,h1,h2⟩:=h;subst h1;have h3:=h0.has 0 _ t b rfl rfl;refine⟨hs,upd F t (some b),upd F t (some b),(Z9.start F).push h3.1 rfl,rfl,fun x c hx=>?_⟩
 by_cases e:x=t
 ·subst e;rw[B7]at hx;cases hx;exact h2 _ _ h3.2
 rw[A7 _ _ e]at hx;exact h2 _ _ (h0.ext x c hx)
section
variable {P:Program}{T:EZ}{f:FuncId}{fn:Func}{c:Code}{n:Nat}{rs:List ResultVar}{args:List V}
theorem IL {F H:A2}{sz:Nat}{xs:List V}(cf:Cf)(hP:QV P T)(hf:P.funcs[f]? =some fn)(hb:fn.body=some c)(hd:I4 cf c=true)
 (hcall:∀vals w,(callFunc f vals).run P w= .ok (.enter f vals) w) (hnt:fn.ntmps=n) (hrs:fn.results.toList=rs) (hn:Nat.ble args.length n=true)
 (h:∀(E:CU) (K:V→A2→Prop),E=G0 P n none→(∀(q:OG) L H',Aa q (xs.length:Nat)→C3 Eq F (.blk q.id (.arr sz (q.pre++xs++q.rest))::L) H'→K (.own q.id q.lo q.n) H')→(xs=[]→∀L H',C3 Eq F L H'→K (.sl [] .nil) H')→run E T n cf c ⟨Bp args 0,[]⟩ H (Lu E T rs K)):
 I0 P f args H (ZV F sz xs):=by
 refine I0.adopt (sz:=sz) (I0.le (S1 (K:=fun x H'=>∃y H2,BG x y∧Gr H2 H'∧(ZV F sz xs y H2∨(y= .sl [] .nil∧∀t,H2 t=none→ZV F sz xs (.own t 0 0) (upd H2 t (some (.arr sz [])))))) cf hP.1 hP.2 hf hb hd hcall hnt hrs hn fun E hE=>?_));refine h E _ hE (fun q L H' hq hO=>?_) fun hx L H' hO=>?_
 ·obtain⟨h1,h2⟩:=hO.only1.last;exact⟨_,_,.refl _,h2,.inl ⟨q,rfl,hq,h1,rfl⟩⟩
 exact⟨_,F,.refl _,hO.ext,.inr ⟨rfl,fun t ht=>⟨⟨t,0,0,[],[]⟩,rfl,⟨rfl,by rw[hx];rfl⟩,ht,by rw[hx];rfl⟩⟩⟩
end
section
variable {P:Program}{nt:Nat}{rd:Option Nat}{T:EZ}{E:CU}
variable (hE:E=G0 P nt rd)
include hE
variable {α R S:Type}{f:α→V}{Φ:A2→A2→Prop}{H0 H:A2}{L:List En}{sz:Nat}{q:OG}{r:R}{m:Option (List α)}{F:List α→Option R}{fid:FuncId}{args args':List V}{k:V→A2→Prop}
theorem Mz (h:m.bind F=some r) (hc:∀x,m=some x→PJ P fid args' sz (lst f x)) (hl:H9 args args') (hO:C3 Φ H0 L H)
 (hk:∀x (q:OG) H',Aa q (Ar.len x)→C3 Φ H0 (.blk q.id (.arr sz (q.pre++lst f x++q.rest))::L) H'→F x=some r→k (.own q.id q.lo q.n) H'):
 E.call (.func (.func fid) [] []) args H k:=by
 subst hE;obtain⟨x,h1,h2⟩:=bind_some h;refine I0.value (F:=[]) (C:=[]) ?_;have:=((hc x h1) H).args hl;simp only[List.nil_append,append_nil]
 exact this.mono fun v H' ⟨q,e1,e0,e2,e3⟩=>by
  subst e1;subst e3;exact hk x q _ (by rw[len_eq];rwa[I3]at e0) (hO.push e2 rfl) h2
theorem YX {l:List α} (hO:C3 Φ H0 L H) (hq:Aa q (Ar.len l)) (i:Nat) (hi:L[i]? =some (.blk q.id (.arr sz (q.pre++lst f l++q.rest)))) (h:m.bind F=some r) (hc:∀x,m=some x→Vl P fid args' sz (lst f l) (lst f x)) (hl:H9 args args')
 (hk:∀x (q:OG) H',Aa q (Ar.len x)→C3 Φ H0 (L.set i (.blk q.id (.arr sz (q.pre++lst f x++q.rest)))) H'→F x=some r→k (.own q.id q.lo q.n) H'):
 E.call (.func (.func fid) [] []) (.own q.id q.lo q.n::args) H k:=by
 subst hE;obtain⟨x,h1,h2⟩:=bind_some h;refine I0.value (F:=[]) (C:=[]) ?_;have:=((hc x h1) H q (by rw[I3,←len_eq];exact hq) (hO.get i hi)).args (.cons (.refl _) hl);simp only[List.nil_append,append_nil]
 exact this.mono fun v H' ⟨q',e1,e0,e2,e3⟩=>by
  subst e1;subst e3;exact hk x q' _ (by rw[len_eq];rwa[I3]at e0) (hO.swap i hi e2) h2
theorem An3 {p:Prop}{v:V}{a b:Unit→Prop}(hv:Xg v=some p)(h1:p→a ())(h0:b ()):E.nilc v a b:=by subst hE;exact⟨p,hv,h1,h0⟩
end
end Go.Ab
namespace Go.Ab
open Go.RowKit
variable [J9][Ar]
section
variable {P:Program}{T:EZ}{f:FuncId}{fn:Func}{c:Code}{n:Nat}{rs:List ResultVar}{args:List V}
end
section
variable {P:Program}{nt:Nat}{rd:Option Nat}{T:EZ}{E:CU}
variable (hE:E=G0 P nt rd)
include hE
variable {H:A2}{sz id:Nat}{l n RL:Int}{row:List V}
theorem YB (hk:H id=some (.arr sz row))(hl:RL=(row.length:Nat)){lo hi:Option Int}{k:V→Prop}(a b:Int)(ha:lo.getD 0=a)(hb:hi.getD n=b)(h1:0≤a)(h2:a≤b)(h3:l+b≤RL)(h:∀l' n',l'=l+a→n'=b - a→k (.own id l' n')):
 E.oslice sz H id l n lo hi none k:=by
 subst hE;subst ha;subst hb;subst hl;exact⟨_,hk,⟨h1,h2,by simp only[Option.getD_none];omega,by simp only[Option.getD_none];omega,fun h=>by cases h⟩,h _ _ rfl rfl⟩
theorem r_br {c:Bool}{x y:Unit→Prop}(h1:c=true→x ())(h2:c=false→y ()):E.br c x y:=by subst hE;exact⟨h1,h2⟩
theorem r_ln {xs:List V}(hl:RL=(xs.length:Nat)){k:Int→Prop}(h:k RL):E.ln xs k:=by subst hE;subst hl;exact h
theorem Ac8 {k:V→Prop}(h:k (.sl [] .nil)):E.slice sz [] .nil none (some 0) none k:=by
 subst hE;exact⟨⟨by decide,by decide,by decide,by decide,fun h=>(by cases h),.inl (by decide)⟩,h⟩
theorem Ac9 (hk:H id=some (.arr sz row)){y:V}{ys':List V}(hs:Oh sz H y ys'){YL:Int}(hy:YL=(ys'.length:Nat)){k:V→A2→Prop}
 (h:∀m row',m=(if n<YL then n else YL)→row'=Cg row l.toNat (ys'.take n.toNat)→k (.int .i64 m) (upd H id (some (.arr sz row')))):E.ocopy sz H (.own id l n) y k:=by
 subst hE;subst hy;exact⟨_,_,hk,hs,h _ _ rfl rfl⟩
theorem YC {by_:Nat} {z x:V} {i0:Int} (i:Int) (hi:i0=i) (hx:x= .sl [] .nil∨x= .sl [] .full) (h0:0≤i) (hb:i.toNat*by_≤140737488355328) {k:V→A2→Prop}
 (hout:∀t m row' j,H t=none→m=i→row'=List.replicate i.toNat z++List.replicate j z→k (.own t 0 m) (upd H t (some (.arr sz row')))):
 E.oappz sz by_ z H x i0 k:=by
 subst hE;subst hi
 generalize i0=i at *
 have e:((i.toNat:Nat):Int)=i:=by omega
 have key:FC H k sz by_ z x (List.replicate i.toNat z):=by
  have h2:(List.replicate i.toNat z).length*by_≤140737488355328∧∀t j,H t=none→k (.own t 0 ((List.replicate i.toNat z).length:Nat)) (upd H t (some (.arr sz (List.replicate i.toNat z++List.replicate j z)))):=by
   refine⟨by simpa using hb,fun t j ht=>?_⟩;simp only[List.length_replicate,e];exact hout t _ _ j ht rfl rfl
  rcases hx with rfl|rfl
  ·exact⟨.inl rfl,h2⟩
  exact⟨.inr rfl,h2⟩
 refine⟨⟨h0,?_⟩,key⟩
 rcases hx with rfl|rfl<;>simpa[ownN]using hb
end
end Go.Ab
namespace Go.Ab
open Go.RowKit
theorem TX {A B C row:List V}{lo n:Int}(hr:row=A++B++C)(h0:lo=(A.length:Nat))(h1:n=(B.length:Nat)):L7 row lo n=B:=by
 subst hr;subst h0;subst h1;simp[L7]
theorem Ad5 {A B C ys row:List V}{i:Nat}(hr:row=A++B++C)(hi:i=A.length)(hl:ys.length=B.length):Cg row i ys=A++ys++C:=by
 subst hr;subst hi;simp only[Cg,append_assoc,List.take_left];rw[show A.length+ys.length=A.length+B.length by omega,←List.drop_drop];simp
theorem Af3 {a b by_:Nat}(h:a+b≤1073741824)(hb:by_≤131072):(a+b)*by_≤140737488355328:=Nat.le_trans (Nat.mul_le_mul h hb) (by decide)
theorem Zc {α:Type}[J9][Ar]{f:α→V}{l r:List α}{n:Int}(h:VY l n=some r):0≤n∧n≤1073741824∧lst f r=[]:=by
 unfold VY at h
 split at h
 ·rename_i hc;cases h;exact⟨hc.1,hc.2,by rw[lst_eq];rfl⟩
 cases h
end Go.Ab
namespace Go.Ab
open Go.RowKit
variable [J9]
end Go.Ab
namespace Go.Ab
open Go.RowKit
end Go.Ab
namespace Go.Ab
def Lr {K X:Type}[DecidableEq K](m:List (K×X))(k:K)(z:X):Option (X×Bool):=some (match m.find? (fun p=>decide (p.1=k))with|some p=>(p.2,true)|none=>(z,false))
def Kn {K X:Type}[DecidableEq K](m:List (K×X))(k:K)(v:X):Option (List (K×X)):=some (if m.any (fun p=>decide (p.1=k))=true then m.map (fun p=>if p.1=k then(k,v)else p)else m++[(k,v)])
end Go.Ab
namespace Go.Ab
def NU {α:Type}(l:List α)(a:Int)(m:List α):Option (List α×Int):=
 if 0≤a∧a≤(l.length:Nat)then some (l.take a.toNat++m.take (l.length - a.toNat)++l.drop (a.toNat+m.length),if(l.length:Int) - a<(m.length:Nat)then(l.length:Int) - a else(m.length:Nat))else none
end Go.Ab
