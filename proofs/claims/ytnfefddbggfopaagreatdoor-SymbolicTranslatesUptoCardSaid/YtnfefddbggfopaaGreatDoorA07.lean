/- . -/
import Derived.Test.YtnfefddbggfopaaGreatDoorA05
import Derived.Laws.Externs
import Derived.Sort.Grow
import Derived.Shelf.Sort.Plain
import Derived.Shelf.Slices.In.SortNone
import Derived.Shelf.Slices.CompactI
import Derived.KernelRfl
import Derived.Test.YtnfefddbggfopaaGreatDoorChecked
set_option linter.all false
open Go.Ab.Ar (len_eq lst lst_eq ofs ofs_eq)
namespace Go.Ab
open Go.RowKit
variable [N9][Ar]
def GZ (l:Fl):Fl→Prop
 |[]=>True
 |(k,s)::r=>Cp (CD l k) s.V∧(∀j w x,s≠ .g j w x)∧GZ l r
def GZ.wk {l:Fl}:∀{r:Fl},GZ l r→∀t,Wk (CD l t) (CD r t)
 |[],_,t=>Wk.bad _
 | (k,s)::r,h,t=>by
  simp only[CD]
  cases hb:Nat.beq t k with
  |true=>
   have:=Cc hb;subst this
   cases s with
   |v x=>exact h.1.wk
   |b c=>exact h.1.wk
   |g j w x=>exact absurd rfl (h.2.1 j w x)
  |false=>exact GZ.wk h.2.2 t
def GZ.v {l r:Fl}{k:Nat}{x:V}(h:Cp (CD l k) x)(hr:GZ l r):GZ l ((k,.v x)::r):=⟨h,fun _ _ _ h=>(by cases h),hr⟩
def GZ.b {l r:Fl}{k:Nat}{c:Bool}(h:CD l k= .bool c)(hr:GZ l r):GZ l ((k,.b c)::r):=⟨h▸ .refl _,fun _ _ _ h=>(by cases h),hr⟩
def GZ.e {l r:Fl}{k:Nat}{x:V}(h:CD l k=x)(hr:GZ l r):GZ l ((k,.v x)::r):=⟨h▸ .refl _,fun _ _ _ h=>(by cases h),hr⟩
def GZ.z {l:Fl}:GZ l []:=trivial
def Wk.trans {x y z:V}(h:Wk x y)(k:Wk y z):Wk x z:=fun g w v hv=>k g w v (h g w v hv)
theorem Fa.le {fr:Fr}{l l':Fl}{df:List Nat}(h:Fa fr ⟨l,df⟩)(k:GZ l l'):Fa fr ⟨l',df⟩:=⟨fun t=>(h.s t).trans (k.wk t),h.df⟩
def B5 {α:Type}{f:α→V}:([]:List V)=lst f []:=by rw[lst_eq];rfl
def F2 {α:Type}{f:α→V}{v:V}{vs:List V}{x:α}{l:List α}(h:v=f x)(k:vs=lst f l):v::vs=lst f (x::l):=by
 rw[h,k,lst_eq,lst_eq];rfl
theorem KE {α:Type}{f:α→V}(l m:List α):lst f l++lst f m=lst f (l++m):=by simp[lst_eq]
def O2 {α:Type}{f:α→V}(l:List α):(lst f l).length=l.length:=by simp[lst_eq]
def Js {α:Type}{f:α→V}{sz:Nat}(h:∀x,(f x).cells.length=sz)(l:List α):(lst f l).all (fun x=>x.cells.length==sz)=true:=by
 rw[lst_eq];simp[h]
def M1.lst0 {α:Type}{f:α→V}:M1 [] (lst f []):=by rw[←B5];exact .nil
def M1.lstc {α:Type}{f:α→V}{v:V}{vs:List V}{x:α}{l:List α}(h:Cp v (f x))(k:M1 vs (lst f l)):M1 (v::vs) (lst f (x::l)):=by
 rw[←F2 rfl rfl];exact .cons h k
def Cp.eq {v x y:V}(h:y=x)(k:Cp v x):Cp v y:=h▸k
def Cp.lit {xs ys:List V}(t:E7)(h:xs=ys):Cp (.sl xs t) (.sl ys .ro):=h▸ .ro _ _
section
variable {P:Program}{nt:Nat}{rd:Option Nat}{T:GY}{E:FL}
variable (hE:E=I6 P nt rd)
include hE
theorem B7 {R:Type}{c:Bool}{x y:Unit→Prop}{a b:Option R}{r:R}(h:(if c=true then a else b)=some r)(h1:c=true→a=some r→x ())(h2:c=false→b=some r→y ()):E.br c x y:=by
 grind[I6]
theorem QP {c:Bool}{x y:Unit→Prop}(h1:c=true→x ())(h2:c=false→y ()):E.br c x y:=by simp_all[I6]
theorem HN {p:Prop}{k:Unit→Prop}(h:p)(hk:k ()):E.need p k:=by simp_all[I6]
theorem MX {R:Type}{b:Bool}{k:Unit→Prop}{F:Unit→Option R}{r:R}(h:(Du b).bind F=some r)(hk:F ()=some r→k ()):E.needB b k:=by
 grind[I6,Du]
theorem Ai1 {b:Bool}{k:Unit→Prop}(hb:b=true)(hk:k ()):E.needB b k:=by simp_all[I6]
theorem YY {op:BinOp}{a b:Int}(h:Ij op a b=true):Ar.cmp op a b=true:=by rw[Ar.cmp_eq];exact h
theorem G9 {α:Type}{f:α→V}{l:List α}{k:Int→Prop}(h:k (Ar.len l)):E.ln (lst f l) k:=by
 subst hE
 show k _
 rw[O2,←len_eq];exact h
theorem Be5 {xs:List V}{k:Int→Prop}{n:Int}(hn:(xs.length:Int)=n)(h:k n):E.ln xs k:=by
 simp_all[I6]
theorem D8 {α R:Type} {f g:α→V} (hf:∀x,f x=g x) {l:List α} {i:Int} {k:V→Prop} {F:α→Option R} {r:R} (h:(B8 l i).bind F=some r) (hk:∀x,F x=some r→k (g x)):E.idx (lst f l) i k:=by
 subst hE;obtain⟨x,h1,h2⟩:=A7 h
 unfold B8 at h1
 split at h1
 ·rename_i h0
  have hlt:i.toNat<l.length:=by
   grind
  refine⟨⟨h0,by rw[O2];omega⟩,?_⟩;rw[lst_eq,Cd,Aa,h1]
  simp_all
 cases h1
theorem MW {α R:Type} {f:α→V} {sz:Nat} (hsz:∀x,(f x).cells.length=sz) {l:List α} {tl:E7} {lo hi mx:Option Int} {k:V→Prop} {F:List α→Option R} {r:R} (h:(T4 l lo hi mx).bind F=some r)
 (hk:∀x t,F x=some r→k (.sl (lst f x) t)):E.slice sz (lst f l) tl lo hi mx k:=by
 subst hE;obtain⟨x,h1,h2⟩:=A7 h
 unfold T4 at h1
 split at h1
 ·rename_i hc;obtain⟨c1,c2,c3,c4,c5⟩:=hc;cases h1;refine⟨?_,?_⟩
  ·rw[O2]
   simp_all[Js]
  rw[O2,lst_eq,←Ln,←Lm];have:=hk _ (Jf (lo.getD 0).toNat (hi.getD l.length).toNat l.length mx tl) h2
  rwa[lst_eq]at this
 cases h1
theorem A9 {R S:Type}{m:Option S}{F:S→Option R}{r:R}{f:FuncId}{args args':List V}{g:S→V}{H:A5}{k:V→A5→Prop}(h:m.bind F=some r)(hc:∀x,m=some x→C3 P f args' (g x))(hl:M1 args args')
 (hk:∀x,F x=some r→k (g x) H):E.call (.func (.func f) [] []) args H k:=by
 subst hE;obtain⟨x,h1,h2⟩:=A7 h
 exact AM.at (C3.value (F:=[]) (C:=[]) (by simpa using(hc x h1).args hl)) (hk x h2)
theorem K7 {R S:Type}{m:Option S}{F:S→Option R}{r:R}{f:FuncId}{args args':List V}{g:S→V}{H:A5}{k:V→Prop}(h:m.bind F=some r)(hc:∀x,m=some x→C3 P f args' (g x))(hl:M1 args args')
 (hk:∀x,F x=some r→k (g x)):E.pcall H (.func (.func f) [] []) args k:=by
 subst hE;obtain⟨x,h1,h2⟩:=A7 h;exact⟨g x,(C3.value (F:=[]) (C:=[]) (by simpa using(hc x h1).args hl)).toH H,hk x h2⟩
theorem DI {R S:Type}{m:Option S}{F:S→Option R}{r:R}{fv:V}{args args':List V}{g:S→V}{H:A5}{k:V→A5→Prop}(h:m.bind F=some r)(hc:∀x,m=some x→AM P fv args' (g x))(hl:M1 args args')
 (hk:∀x,F x=some r→k (g x) H):E.call fv args H k:=by
 subst hE;obtain⟨x,h1,h2⟩:=A7 h
 exact AM.at ((hc x h1).args hl) (hk x h2)
theorem D0 {Φ:A5→A5→Prop}{H0 H:A5}{L:List En}(hO:B6 Φ H0 L H)(i:Nat){id:Nat}{cs:List V}{k:List V→Prop}(hi:L[i]? =some (.blk id (.cells cs)))(hk:k cs):E.load H id k:=by
 subst hE;exact⟨cs,hO.get i hi,hk⟩
theorem B9 {Φ:A5→A5→Prop}{H0 H:A5}{L:List En}(hO:B6 Φ H0 L H)(i:Nat){id off sz:Nat}{cs vs:List V}{k:A5→Prop}(hi:L[i]? =some (.blk id (.cells cs)))(hb:Nat.ble (off+sz) cs.length=true)
 (hk:∀H',B6 Φ H0 (L.set i (.blk id (.cells (V4 cs off vs)))) H'→k H'):E.store H id off sz vs k:=by
 subst hE;exact⟨cs,vs,.refl _,hO.get i hi,hb,hk _ (hO.set i hi)⟩
theorem XV {Φ:A5→A5→Prop}{H0 H:A5}{L:List En}(hO:B6 Φ H0 L H)(i:Nat){id off sz:Nat}{cs vs:List V}{k:A5→Prop}(hi:L[i]? =some (.blk id (.cells cs)))(hb:Nat.ble (off+sz) cs.length=true)
 (hk:∀H',B6 Φ H0 (L.set i (.blk id (.cells (V4 cs off vs)))) H'→k H'):E.storeP H id off sz vs k:=by
 subst hE;exact⟨cs,hO.get i hi,hb,hk _ (hO.set i hi)⟩
theorem E5 {Φ:A5→A5→Prop}{H0 H:A5}{L:List En}(hO:B6 Φ H0 L H){cs:List V}{k:Nat→A5→Prop}(hk:∀id H',B6 Φ H0 (.blk id (.cells cs)::L) H'→k id H'):E.alloc H cs k:=by
 subst hE;exact fun id hid=>hk id _ (hO.push hid rfl)
theorem AT7 {Φ:A5→A5→Prop}{H0 H:A5}{L:List En}(hO:B6 Φ H0 L H)(i:Nat){id:Nat}{cs:List V}{k:List V→A5→Prop}(hi:L[i]? =some (.blk id (.cells cs)))(hk:∀H',B6 Φ H0 (L.eraseIdx i) H'→k cs H'):E.frzL H id k:=by
 subst hE;exact⟨cs,cs,hO.get i hi,.refl _,hk _ (hO.del i hi)⟩
theorem SJ {Φ:A5→A5→Prop}{H0 H:A5}{L:List En}(hO:B6 Φ H0 L H)(i:Nat){id:Nat}{cs:List V}{k:List V→A5→Prop}(hi:L[i]? =some (.blk id (.cells cs)))
 (hk:∀H',H'=upd H id none→B6 Φ H0 (L.eraseIdx i) H'→k cs H'):E.frz H id k:=by
 subst hE;exact⟨cs,hO.get i hi,hk _ rfl (hO.del i hi)⟩
theorem SN {Φ:A5→A5→Prop} {H0 H H1:A5} {L:List En} (hO:B6 Φ H0 L H) (i:Nat) {id:Nat} {cs cs':List V} {k:A5→Prop} (hi:L[i]? =some (.blk id (.cells cs))) (he:H1=upd H id none)
 (hk:∀H',B6 Φ H0 (L.set i (.blk id (.cells cs'))) H'→k H'):E.give H1 id cs' k:=by
 subst hE;subst he;refine hk _ ?_
 have e:upd (upd H id none) id (some (.cells cs'))=upd H id (some (.cells cs')):=by
  funext x;simp_all[upd]
 rw[e];exact hO.set i hi
theorem AB9 {α R:Type} {g:α→V} {cs:List V} {off sz n:Nat} {l:List α} {i:Int} {k:V→Prop} {F:α→Option R} {r:R} (hcs:cs=l.flatMap fun x=>(g x).cells) (hsz:∀x,(g x).cells.length=sz) (hn:l.length=n) (ho:off=0)
 (h:(B8 l i).bind F=some r) (hk:∀x,F x=some r→k (.eref (g x).cells 0)):E.elem cs off sz n i k:=by
 subst hE;subst ho;obtain⟨x,h1,h2⟩:=A7 h
 unfold B8 at h1
 split at h1
 ·rename_i h0
  have key:∀(l:List α) (m:Nat) (x:α),l[m]? =some x→(((l.flatMap fun x=>(g x).cells).drop (m*sz)).take sz)=(g x).cells∧m<l.length∧(l.flatMap fun x=>(g x).cells).length=l.length*sz:=by
   intro l
   induction l with
   |nil=>simp_all
   | cons y l ih=>
    intro m x h
    have hlen:∀l:List α,(l.flatMap fun x=>(g x).cells).length=l.length*sz:=by
     intro l
     induction l with
     |nil=>simp
     |cons z l ih=>grind
    refine⟨?_,?_,hlen _⟩
    ·cases m with
     |zero=>
      simp_all
     |succ m=>
      have:=(ih m x (by grind)).1;rw[Ix,show(m+1)*sz=(g y).cells.length+m*sz by rw[hsz,I1,BV];omega,List.drop_append,];rw[LN (by omega),L9,show(g y).cells.length+m*sz-(g y).cells.length=m*sz by omega];exact this
    grind
  grind[I6]
 cases h1
theorem Wb {α R:Type} {f:α→V} {sz by_:Nat} (hsz:∀x,(f x).cells.length=sz) (hby:by_≤131072) {xs ys:List V} {l m:List α} {k:V→Prop} {F:List α→Option R} {r:R} (hx:M1 xs (lst f l)) (hy:M1 ys (lst f m)) (h:(G6 l m).bind F=some r)
 (hk:∀x,F x=some r→k (.sl (lst f x) .ro)):E.appq sz by_ xs ys k:=by
 subst hE;obtain⟨x,h1,h2⟩:=A7 h
 unfold G6 at h1
 split at h1
 ·rename_i hc;cases h1;refine⟨_,_,hx,hy,Js hsz l,Js hsz m,?_,?_⟩
  ·rw[O2,O2];exact Z7 (Z8 hc hby) (by decide)
  grind[KE]
 cases h1
theorem N1 {α R:Type} {f:α→V} {sz by_:Nat} (hsz:∀x,(f x).cells.length=sz) (hby:by_≤131072) {Φ:A5→A5→Prop} {H0 H:A5} {L:List En} (hO:B6 Φ H0 L H) (i:Nat) {tl:E7} (hi:L[i]? =some (.tl tl)) (ha:K6 tl)
 {xs ys:List V} {l m:List α} {k:V→A5→Prop} {F:List α→Option R} {r:R} (hx:M1 xs (lst f l)) (hy:M1 ys (lst f m)) (h:(G6 l m).bind F=some r)
 (hk:∀x tl' H',B6 Φ H0 (L.set i (.tl tl')) H'→K6 tl'→F x=some r→k (.sl (lst f x) tl') H'):E.appn sz by_ H tl xs ys k:=by
 subst hE;obtain⟨x,h1,h2⟩:=A7 h
 unfold G6 at h1
 split at h1
 ·rename_i hc;cases h1;refine⟨_,_,hx,hy,hO.appOk i hi ha,Js hsz l,Js hsz m,?_,fun hm=>?_,fun t ht hn=>?_⟩
  ·rw[O2,O2];exact Z7 (Z8 hc hby) (by decide)
  ·have hm':m=[]:=by
    have:=P9 List.length hm
    rw[O2]at this
    simp_all
   subst hm'
   have:=hk _ tl H (by
    have e:L.set i (.tl tl)=L:=by
     apply DP
     grind
    rw[e];exact hO) ha h2
   rwa[L4]at this
  rw[KE];exact hk _ _ _ (hO.tok i hi hn) trivial h2
 cases h1
end
section
variable {P:Program}{nt:Nat}{rd:Option Nat}{T:GY}{E:FL}
abbrev RG (P:Program)(T:GY):Prop:=Lf P T∧P.follows .mixedOrders=true
def L5 (cf:Cf)(hE:E=I6 P nt rd)(hP:RG P T){c:Code}{st:St}{H:A5}{K:Exit→St→A5→Prop}(X:Exit→Fl→A5→Prop)(hd:K2 cf c=true)
 (h:Az0 E T nt cf c st H fun e st' H'=>∃l,X e l H'∧GZ st'.l l∧st'.df=st.df) (after:∀e l H',X e l H'→K e ⟨l,st.df⟩ H'):E.sim c st H K:=by
 subst hE;refine(ZN hP.1 hP.2 c _ _ _ hd h).mono fun e fr2 H2 ⟨st',hle',l,h3,h1,h2⟩=>?_;exact⟨⟨l,st.df⟩,⟨fun t=>(hle'.s t).trans (h1.wk t),hle'.df.trans h2⟩,after _ _ _ h3⟩
def H5 (cf:Cf) (hE:E=I6 P nt rd) (hP:RG P T) {σ R:Type} {step:σ→Option (σ⊕R)} {c:Code} {st:St} {H:A5} {K:Exit→St→A5→Prop} (fm:σ→Fl) (Inv:σ→A5→Prop) (X:R→Exit→Fl→A5→Prop) (hd:K2 cf c=true)
 (round:∀s H o,Inv s H→step s=some o→run E T nt cf c ⟨fm s,st.df⟩ H fun e st' H'=>match e with
  | .normal=>∃s',o= .inl s'∧GZ st'.l (fm s')∧st'.df=st.df∧Inv s' H'
  |e=>∃x l,o= .inr x∧X x e l H'∧GZ st'.l l∧st'.df=st.df)
 {N:Nat} {s0:σ} {r:R} (h:loopN step N s0=some r) (hf:GZ st.l (fm s0)) (hI:Inv s0 H) (after:∀e l H',X r e l H'→K e ⟨l,st.df⟩ H'):E.sim (.loop c) st H K:=by
 subst hE;refine W4.loopN (fun n fr' H'=>∃s,loopN step n s=some r∧Fa fr' ⟨fm s,st.df⟩∧Inv s H') N ⟨s0,h,⟨fun t=>hf.wk t,rfl⟩,hI⟩ fun n fr' H' ⟨s,hs,hle,hi⟩=>?_
 cases n with
 |zero=>cases hs
 | succ n=>
  simp only[loopN]at hs
  cases ho:step s with
  |none=>rw[ho]at hs;cases hs
  | some o=>
   rw[ho]at hs
   refine W4.frLe hle ((O6 hP.1 hP.2 c _ _ _ hd (round s H' o hi ho)).mono fun e fr2 H2 ⟨st',hle',hq⟩=>?_)
   cases e with
   |normal=>
    obtain⟨s',h1,h2,h3,h4⟩:=hq;subst h1;exact⟨n,Gp n,s',hs,⟨fun t=>(hle'.s t).trans (h2.wk t),hle'.df.trans h3⟩,h4⟩
   |_=>
    obtain⟨x,l,h1,h4,h2,h3⟩:=hq;subst h1;cases hs;exact⟨⟨l,st.df⟩,⟨fun t=>(hle'.s t).trans (h2.wk t),hle'.df.trans h3⟩,after _ _ _ h4⟩
def J9 (cf:Cf) (hE:E=I6 P nt rd) (hP:RG P T) {σ γ R:Type} {step:σ→Option (σ⊕R)} {c:Code} {st:St} {H:A5} {K:Exit→St→A5→Prop} (fm:σ→γ→Fl) (Inv:σ→γ→A5→Prop) (X:R→Exit→Fl→A5→Prop) (hd:K2 cf c=true)
 (round:∀s g H o,Inv s g H→step s=some o→run E T nt cf c ⟨fm s g,st.df⟩ H fun e st' H'=>match e with
  | .normal=>∃s' g',o= .inl s'∧GZ st'.l (fm s' g')∧st'.df=st.df∧Inv s' g' H'
  |e=>∃x l,o= .inr x∧X x e l H'∧GZ st'.l l∧st'.df=st.df)
 {N:Nat} {s0:σ} (g0:γ) {r:R} (h:loopN step N s0=some r) (hf:GZ st.l (fm s0 g0)) (hI:Inv s0 g0 H) (after:∀e l H',X r e l H'→K e ⟨l,st.df⟩ H'):E.sim (.loop c) st H K:=by
 subst hE;refine W4.loopN (fun n fr' H'=>∃s g,loopN step n s=some r∧Fa fr' ⟨fm s g,st.df⟩∧Inv s g H') N ⟨s0,g0,h,⟨fun t=>hf.wk t,rfl⟩,hI⟩ fun n fr' H' ⟨s,g,hs,hle,hi⟩=>?_
 cases n with
 |zero=>cases hs
 | succ n=>
  simp only[loopN]at hs
  cases ho:step s with
  |none=>rw[ho]at hs;cases hs
  | some o=>
   rw[ho]at hs
   refine W4.frLe hle ((O6 hP.1 hP.2 c _ _ _ hd (round s g H' o hi ho)).mono fun e fr2 H2 ⟨st',hle',hq⟩=>?_)
   cases e with
   |normal=>
    obtain⟨s',g',h1,h2,h3,h4⟩:=hq;subst h1;exact⟨n,Gp n,s',g',hs,⟨fun t=>(hle'.s t).trans (h2.wk t),hle'.df.trans h3⟩,h4⟩
   |_=>
    obtain⟨x,l,h1,h4,h2,h3⟩:=hq;subst h1;cases hs;exact⟨⟨l,st.df⟩,⟨fun t=>(hle'.s t).trans (h2.wk t),hle'.df.trans h3⟩,after _ _ _ h4⟩
def Uh {f:FuncId}{fn:Func}{c:Code}{n:Nat}{rs:List ResultVar}{args:List V}{r:V}(cf:Cf)(hP:RG P T)(hf:P.funcs[f]? =some fn)(hb:fn.body=some c)(hd:K2 cf c=true)
 (hcall:∀vals w,(callFunc f vals).run P w= .ok (.enter f vals) w) (hnt:fn.ntmps=n) (hrs:fn.results.toList=rs) (hn:Nat.ble args.length n=true)
 (h:∀(E:FL) (H:A5) (K:V→A5→Prop),E=I6 P n none→(∀x L H',B6 Eq H L H'→Cp x r→K x H')→run E T n cf c ⟨Cj args 0,[]⟩ H (Oa E T rs K)):C3 P f args r:=fun H=>by
 refine(T8 (K:=fun x H'=>∃y H2,Cp x y∧Fc H2 H'∧y=r∧H2=H) cf hP.1 hP.2 hf hb hd hcall hnt hrs hn fun E hE=>?_).le;exact h E H _ hE fun x L H' hO hx=>⟨r,H,hx,hO.ext,rfl,rfl⟩
end
abbrev DB:Ds:=.obj (.deferred (some []))
section
variable {P:Program}{nt:Nat}{rd:Option Nat}{T:GY}{E:FL}
def Er (hE:E=I6 P nt rd) {Φ:A5→A5→Prop} {H0 H:A5} {L:List En} (hO:B6 Φ H0 L H) (i:Nat) {d:Nat} {k:A5→Prop} (hi:L[i]? =some (.blk d DB)) (hk:∀H',B6 Φ H0 (L.eraseIdx i) H'→k H'):E.fin [d] H k:=by
 subst hE;have hd:=hO.get i hi;refine⟨⟨by simp,fun id hid=>?_⟩,?_⟩
 ·simp_all
 have e:clear H [d]=upd H d none:=by
  funext x;simp[clear,upd]
 rw[e];exact hk _ (hO.del i hi)
def Fg (P:Program)(f:FuncId)(args:List V)(Q:V→Prop):Prop:=∀H,J5 P f args H fun x H'=>Q x∧H'=H
def Fg.args {f:FuncId}{xs ys:List V}{Q:V→Prop}(h:Fg P f ys Q)(k:M1 xs ys):Fg P f xs Q:=fun H=>(h H).args k
def C3.q {f:FuncId}{args:List V}{r:V}{Q:V→Prop}(h:C3 P f args r)(hq:Q r):Fg P f args Q:=fun H=>(h H).mono fun x H' ⟨e1,e2⟩=>⟨e1▸hq,e2⟩
def Ap (hE:E=I6 P nt rd){R S:Type}{m:Option S}{F:S→Option R}{r:R}{f:FuncId}{args args':List V}{Q:S→V→Prop}{H:A5}{k:V→A5→Prop}(h:m.bind F=some r)(hc:∀x,m=some x→Fg P f args' (Q x))(hl:M1 args args')
 (hk:∀x v,Q x v→F x=some r→k v H):E.call (.func (.func f) [] []) args H k:=by
 subst hE;obtain⟨x,h1,h2⟩:=A7 h
 have h3:J5 P f args H k:=((hc x h1).args hl H).mono fun v H' ⟨hq,hH⟩=>by grind
 exact J5.value (F:=[]) (C:=[]) (by grind)
def Y0 {f:FuncId}{fn:Func}{c:Code}{n:Nat}{rs:List ResultVar}{args:List V}{Q:V→Prop}(cf:Cf)(hP:RG P T)(hf:P.funcs[f]? =some fn)(hb:fn.body=some c)(hd:K2 cf c=true)
 (hcall:∀vals w,(callFunc f vals).run P w= .ok (.enter f vals) w) (hnt:fn.ntmps=n) (hrs:fn.results.toList=rs) (hn:Nat.ble args.length n=true)
 (h:∀(E:FL) (H:A5) (K:V→A5→Prop),E=I6 P n none→(∀x L H',B6 Eq H L H'→Q x→K x H')→run E T n cf c ⟨Cj args 0,[]⟩ H (Oa E T rs K)):Fg P f args Q:=fun H=>by
 refine(T8 (K:=fun x H'=>∃y H2,Cp x y∧Fc H2 H'∧Q y∧H2=H) cf hP.1 hP.2 hf hb hd hcall hnt hrs hn fun E hE=>?_).le;exact h E H _ hE fun x L H' hO hx=>⟨x,H,.refl _,hO.ext,hx,rfl⟩
def XK:List Nat→List V→Fl→Fl
 |p::ps,x::xs,l=>XK ps xs ((p,.v x)::l)
 |_,_,l=>l
theorem VV:∀(ps:List Nat) (xs:List V) (l:Fl) (t:Nat),HJ (fun t=>CD l t) ps xs t=CD (XK ps xs l) t
 |[],xs,l,t=>by cases xs<;>rfl
 |p::ps,[],l,t=>rfl
 |p::ps,x::xs,l,t=>by
  simp only[HJ,XK];rw[←VV ps xs]
  congr 1
  funext q
  rw[Aj0];rfl
def jmp:Exit→Option Code
 | .ret=>some .ret
 | .exit k=>some (.exit k)
 |_=>none
variable {α σ R ι:Type}
def RgI (enc:α→List V)(step:σ→α→Option (σ⊕R))(o:σ⊕R)(Inv:σ→A5→A5→Prop)(l:List (List V))(F H:A5):Prop:=
 ∃q:σ×List α,(l=q.2.map enc∧G3 step q.2 q.1=some o)∧Inv q.1 F H
def RgD (o:σ⊕R)(X:R→Exit→A5→A5→Prop)(c:Code)(F H:A5):Prop:=∃q:R×Exit,(o= .inr q.1∧jmp q.2=some c)∧X q.1 q.2 F H
def RgJ (enc:α→List V)(step:σ→α→Option (σ⊕R))(o:σ⊕R)(fJ:ι→σ→α→Fl)(J:ι→σ→α→A5→A5→Prop)(x:List V)(l:List (List V))(fr:Fr)(F H:A5):Prop:=
 ∃q:ι×σ×α×List α,(x=enc q.2.2.1∧l=q.2.2.2.map enc∧G3 step (q.2.2.1::q.2.2.2) q.2.1=some o∧Fa fr ⟨fJ q.1 q.2.1 q.2.2.1,[]⟩)∧J q.1 q.2.1 q.2.2.1 F H
section
variable {enc:α→List V}{step:σ→α→Option (σ⊕R)}{g:Operand}{ps:Array Tmp}{asg body:Code}{st:St}{H:A5}{K:Exit→St→A5→Prop}
 {xs:List α} {s0:σ} {o:σ⊕R}
def Ao7 (cf:Cf) (hP:RG P T) {Inv:σ→A5→A5→Prop} {fJ:ι→σ→α→Fl} {J:ι→σ→α→A5→A5→Prop} (hda:K2 cf asg=true)
 (asgP:∀(E':FL) (id:Nat) y s F H,E'=I6 P nt (some id)→Inv s F H→run E' T nt cf asg ⟨XK ps.toList (enc y) st.l,[]⟩ H fun e st' H'=>match e with| .normal=>∃i,J i s y F H'∧GZ st'.l (fJ i s y)∧st'.df=[]|_=>False):
 ∀(id:Nat) (L:LpI) x l F H,RgI enc step o Inv (x::l) F H→F id=some (.loop L)→x.length=ps.size→W4 P nt (some id) asg ⟨HJ (I8 st).s ps.toList x,[]⟩ H fun e fr' H1=>e= .normal∧RgJ enc step o fJ J x l fr' F H1:=by
 intro id L x l F H ⟨⟨s,ys⟩,⟨hl,hr⟩,hi⟩ _ _
 cases ys with
 |nil=>cases hl
 | cons y ys=>
  simp only[E9,W8]at hl
  obtain⟨rfl,rfl⟩:=hl
  have e:(⟨HJ (I8 st).s ps.toList (enc y),[]⟩:Fr)=I8 ⟨XK ps.toList (enc y) st.l,[]⟩:=by
   simp only[I8,Fr.mk.injEq,Q0]
   funext t
   grind[VV]
  rw[e];refine(O6 hP.1 hP.2 asg _ _ _ hda (asgP _ id y s F H rfl hi)).mono fun e fr' H1 ⟨st',hle,hq⟩=>?_
  cases e with
  |normal=>
   obtain⟨i,hj,hl,hdf⟩:=hq;exact⟨rfl,⟨i,s,y,ys⟩,⟨rfl,rfl,hr,fun t=>(hle.s t).trans (hl.wk t),hle.df.trans hdf⟩,hj⟩
  |_=>exact hq.elim
def Az1 (cf:Cf) (hP:RG P T) {Inv:σ→A5→A5→Prop} {X:R→Exit→A5→A5→Prop} {fJ:ι→σ→α→Fl} {J:ι→σ→α→A5→A5→Prop} (hdb:K2 cf body=true)
 (bodyP:∀(E':FL) (id:Nat) i y s F H o',E'=I6 P nt (some id)→(∃L,F id=some (.loop L))→step s y=some o'→J i s y F H→run E' T nt cf body ⟨fJ i s y,[]⟩ H fun e _ H'=>match e with
  | .normal=>∃s',o'= .inl s'∧Inv s' F H'
  |e=>∃r,o'= .inr r∧(jmp e).isSome=true∧X r e F H'):
 ∀(id:Nat) (L:LpI) x l fr' F H,RgJ enc step o fJ J x l fr' F H→F id=some (.loop L)→W4 P nt (some id) body fr' H fun e _ H'=>YF (RgI enc step o Inv l) (RgD o X) F e H':=by
 intro id L x l fr' F H ⟨⟨i,s,y,ys⟩,⟨hx,hl,hr,hf⟩,hj⟩ hL;subst hx;subst hl
 simp only[G3]at hr
 cases ho:step s y with
 |none=>rw[ho]at hr;cases hr
 | some o'=>
  rw[ho]at hr
  refine W4.frLe hf ((O6 hP.1 hP.2 body _ _ _ hdb (bodyP _ id i y s F H o' rfl ⟨L,hL⟩ ho hj)).mono fun e fr2 H2 ⟨st',hle,hq⟩=>?_)
  cases e with
  |normal=>
   obtain⟨s',h1,h2⟩:=hq;subst h1;exact⟨⟨s',ys⟩,⟨rfl,hr⟩,h2⟩
  |ret=>
   obtain⟨r,h1,h2,h3⟩:=hq;subst h1;exact⟨⟨r,.ret⟩,⟨by grind,rfl⟩,h3⟩
  |exit k=>
   obtain⟨r,h1,h2,h3⟩:=hq;subst h1;exact⟨⟨r,.exit k⟩,⟨by grind,rfl⟩,h3⟩
  |_=>
   obtain⟨r,h1,h2,h3⟩:=hq;cases h2
def DG (cf:Cf) (hE:E=I6 P nt none) (hP:RG P T) (Inv:σ→A5→A5→Prop) (X:R→Exit→A5→A5→Prop) (fJ:ι→σ→α→Fl) (J:ι→σ→α→A5→A5→Prop)
 (hI:∀s,G5 (Inv s)) (hX:∀r e,G5 (X r e)) (hJ:∀i s y,G5 (J i s y)) (hit:Jm P ((U2 [] st.l g).V) (xs.map enc)) (h:G3 step xs s0=some o) {F:A5} (h0:Inv s0 F H)
 (hnt:∀p∈ps,p<nt) (hps:∀x,(enc x).length=ps.size) (hda:K2 cf asg=true) (hdb:K2 cf body=true)
 (asgP:∀(E':FL) (id:Nat) y s F H,E'=I6 P nt (some id)→Inv s F H→run E' T nt cf asg ⟨XK ps.toList (enc y) st.l,[]⟩ H fun e st' H'=>match e with| .normal=>∃i,J i s y F H'∧GZ st'.l (fJ i s y)∧st'.df=[]|_=>False)
 (bodyP:∀(E':FL) (id:Nat) i y s F H o',E'=I6 P nt (some id)→(∃L,F id=some (.loop L))→step s y=some o'→J i s y F H→run E' T nt cf body ⟨fJ i s y,[]⟩ H fun e _ H'=>match e with
  | .normal=>∃s',o'= .inl s'∧Inv s' F H'
  |e=>∃r,o'= .inr r∧(jmp e).isSome=true∧X r e F H')
 (done:∀d s H',o= .inl s→F d=none→Inv s (upd F d (some DB)) H'→K .normal ⟨st.l,d::st.df⟩ H')
 (stop:∀d r e H',o= .inr r→F d=none→X r e (upd F d (some DB)) H'→K e ⟨st.l,d::st.df⟩ H'):E.sim (.rangeFunc g ps asg body) st H K:=by
 subst hE;have hev:ev (I8 st) g=(U2 [] st.l g).V:=(ES (df:=st.df) Lj.nil g).symm
 rw[←hev]at hit
 have sI:∀l,G5 (RgI enc step o Inv l):=fun l=>G5.ex fun q=>hI q.1;have sD:∀c,G5 (RgD o X c):=fun c=>G5.ex fun q=>hX q.1 q.2;have sJ:∀x l fr,G5 (RgJ enc step o fJ J x l fr):=fun x l fr=>G5.ex fun q=>hJ q.1 q.2.1 q.2.2.1;refine W4.rangeOuter (nt:=nt) hnt (fun x hx=>?_) hit (RgI enc step o Inv) (RgD o X) sI sD (RgJ enc step o fJ J) sJ ⟨⟨s0,xs⟩,⟨rfl,h⟩,h0⟩ (Ao7 cf hP hda asgP) (Az1 cf hP hdb bodyP) (fun d H' hd ⟨⟨s,ys⟩,⟨hl,hr⟩,hi⟩=>?_) fun c d H' hd ⟨⟨r,e⟩,⟨ho,hj⟩,hx⟩=>?_
 ·grind
 ·have hys:ys=[]:=by
   simp_all
  subst hys;cases hr;exact⟨⟨st.l,d::st.df⟩,⟨fun t=>Wk.refl _,rfl⟩,done d s H' rfl hd hi⟩
 have hk:=stop d r e H' ho hd hx
 cases e with
 |ret=>cases hj;exact W4.ret ⟨⟨st.l,d::st.df⟩,⟨fun t=>Wk.refl _,rfl⟩,hk⟩
 |exit k=>cases hj;exact W4.exit ⟨⟨st.l,d::st.df⟩,⟨fun t=>Wk.refl _,rfl⟩,hk⟩
 |_=>cases hj
end
end
def B6.dblk {Φ:A5→A5→Prop} {H0 H:A5} {L:List En} {d:Nat} (hd:H0 d=none) (h:B6 Φ (upd H0 d (some DB)) L H):B6 Φ H0 (L++[.blk d DB]) H:=by
 obtain⟨hs,F',H1,h0,h1,h2⟩:=h;refine⟨hs,F',H1,⟨fun x b hx=>h0.ext x b ?_,fun i e x b hi he=>?_,fun i j e e' x b b' hi hj he he'=>?_,fun x b hx=>?_⟩,h1,h2⟩
 rotate_right
 ·rcases h0.only x b hx with h|⟨i,e,hi,he⟩
  ·by_cases hxd:x=d
   ·subst hxd;rw[E4]at h;cases h;exact .inr ⟨L.length,.blk x DB,by simp,rfl⟩
   simp_all[upd]
  refine .inr ⟨i,e,?_,he⟩
  grind
 ·rw[D2 _ _ (AH hd hx)];exact hx
 ·rcases Q6 i L.length with hlt|hge
  ·rw[Ka hlt]at hi
   have:=h0.has i e x b hi he
   grind[D2]
  rw[Kd hge]at hi
  cases hm:i-L.length with
  |zero=>rw[hm]at hi;simp at hi;subst hi;cases he;exact⟨hd,h0.ext _ _ (E4 _ _ _)⟩
  |succ m=>rw[hm]at hi;simp at hi
 have hDB:∀(i:Nat) e,(L++[.blk d DB])[i]? =some e→(i<L.length∧L[i]? =some e)∨(i=L.length∧e= .blk d DB):=fun i e hi=>by
  grind
 have nd:∀(i:Nat) e x b,L[i]? =some e→e.id=some (x,b)→x≠d:=fun m e x b hm he eq=>by
  have:=(h0.has m e x b hm he).1
  rw[eq,E4]at this;cases this
 rcases hDB i e hi with⟨_,ki⟩|⟨ki,rfl⟩<;>rcases hDB j e' hj with⟨_,kj⟩|⟨kj,rfl⟩
 ·exact h0.inj i j e e' x b b' ki kj he he'
 ·cases he';grind
 ·cases he;grind
 omega
def RF (P:Program)(yv:V)(I:List (List V)→A5→A5→Prop)(D:A5→A5→Prop):Prop:=
 (yv.one=true∧yv.cells=[yv])∧∀x l F H,I (x::l) F H→Df P yv x H fun r H'=>(r= .bool true∧I l F H')∨(r= .bool false∧D F H')
def JY (P:Program)(f:FuncId)(args:V→List V)(xs:List (List V))(rb:V→Bool→Prop):Prop:=
 ∀yv I D,(∀l,G5 (I l))→G5 D→RF P yv I D→∀tl F H,I (xs++tl) F H→J5 P f (args yv) H fun v H'=>(rb v true∧I tl F H')∨(rb v false∧D F H')
def rbB (v:V)(b:Bool):Prop:=v= .bool b
def rbN (_:V)(_:Bool):Prop:=True
section
variable {P:Program}{nt:Nat}{rd:Option Nat}{T:GY}{E:FL}{I:List (List V)→A5→A5→Prop}{D:A5→A5→Prop}
def Df.heap {fv:V}{args:List V}{H H1:A5}{K:V→A5→Prop}(h:Df P fv args H1 K)(hl:Fc H1 H):Df P fv args H K:=
 fun g w v vals hR hv hA=>h g w v vals (hR.less hl) hv hA
def J5.heap {f:FuncId}{args:List V}{H H1:A5}{K:V→A5→Prop}(h:J5 P f args H1 K)(hl:Fc H1 H):J5 P f args H K:=
 fun g w vals hR hA=>h g w vals (hR.less hl) hA
def DF (hE:E=I6 P nt rd)(hI:∀l,G5 (I l))(hD:G5 D){yv:V}(hy:RF P yv I D){F H:A5}{L:List En}{args x:List V}{l:List (List V)}{k:V→A5→Prop}(hO:B6 (I (x::l)) F L H)(hl:M1 args x)
 (h1:∀H',B6 (I l) F L H'→k (.bool true) H') (h2:∀H',B6 D F L H'→k (.bool false) H'):E.call yv args H k:=by
 subst hE;obtain⟨hs,F',H1,h0,hi,hle⟩:=hO;refine(Df.mono (((hy.2 x l F' H1 hi).heap hle).args hl) fun r H' hr=>?_)
 rcases hr with⟨rfl,hr⟩|⟨rfl,hr⟩
 ·exact h1 H' ⟨hI l,F',H',h0,hr,Fc.refl _⟩
 exact h2 H' ⟨hD,F',H',h0,hr,Fc.refl _⟩
def AB8 (hE:E=I6 P nt rd) (hI:∀l,G5 (I l)) (hD:G5 D) {yv:V} (hy:RF P yv I D) {f:FuncId} {args':V→List V} {xs tl:List (List V)} {rb:V→Bool→Prop} (hc:JY P f args' xs rb) {F H:A5} {L:List En} {args:List V} {k:V→A5→Prop} (hO:B6 (I (xs++tl)) F L H)
 (hl:M1 args (args' yv)) (h1:∀v H',rb v true→B6 (I tl) F L H'→k v H') (h2:∀v H',rb v false→B6 D F L H'→k v H'):E.call (.func (.func f) [] []) args H k:=by
 subst hE;obtain⟨hs,F',H1,h0,hi,hle⟩:=hO
 have h3:J5 P f args H k:=(((hc yv I D hI hD hy tl F' H1 hi).heap hle).args hl).mono fun v H' hr=>by
  rcases hr with⟨hb,hr⟩|⟨hb,hr⟩
  ·exact h1 v H' hb ⟨hI tl,F',H',h0,hr,Fc.refl _⟩
  exact h2 v H' hb ⟨hD,F',H',h0,hr,Fc.refl _⟩
 exact J5.value (F:=[]) (C:=[]) (by grind)
def Mr (hE:E=I6 P nt rd){c:Bool}{x y:Unit→Prop}(hc:c=true)(h:x ()):E.br c x y:=by simp_all[I6]
def Ms (hE:E=I6 P nt rd){c:Bool}{x y:Unit→Prop}(hc:c=false)(h:y ()):E.br c x y:=by simp_all[I6]
def V1 {f:FuncId} {fn:Func} {c:Code} {n:Nat} {rs:List ResultVar} {args:V→List V} {xs:List (List V)} {rb:V→Bool→Prop} (cf:Cf) (hP:RG P T) (hf:P.funcs[f]? =some fn) (hb:fn.body=some c) (hd:K2 cf c=true)
 (hcall:∀vals w,(callFunc f vals).run P w= .ok (.enter f vals) w) (hnt:fn.ntmps=n) (hrs:fn.results.toList=rs) (hn:∀yv,Nat.ble (args yv).length n=true)
 (h:∀(yv:V) (I:List (List V)→A5→A5→Prop) (D:A5→A5→Prop),(∀l,G5 (I l))→G5 D→RF P yv I D→∀(tl:List (List V)) (F:A5) (E:FL) (H:A5) (K:V→A5→Prop),E=I6 P n none→B6 (I (xs++tl)) F [] H→
  (∀x L H',B6 (I tl) F L H'→rb x true→K x H')→(∀x L H',B6 D F L H'→rb x false→K x H')→run E T n cf c ⟨Cj (args yv) 0,[]⟩ H (Oa E T rs K)):JY P f args xs rb:=by
 intro yv I D hI hD hy tl F H hi;refine(T8 (K:=fun x H'=>∃y H2,Cp x y∧Fc H2 H'∧((rb y true∧I tl F H2)∨(rb y false∧D F H2))) cf hP.1 hP.2 hf hb hd hcall hnt hrs (hn yv) fun E hE=>?_).le;refine h yv I D hI hD hy tl F E H _ hE (B6.start (hI _) hi) (fun x L H' hO hx=>?_) fun x L H' hO hx=>?_
 ·obtain⟨H2,h1,h2⟩:=hO.out;exact⟨x,H2,.refl _,h2,.inl ⟨hx,h1⟩⟩
 obtain⟨H2,h1,h2⟩:=hO.out;exact⟨x,H2,.refl _,h2,.inr ⟨hx,h1⟩⟩
def X8 {f:FuncId}{C:List V}{xs:List (List V)}{rb:V→Bool→Prop}(hcall:∀vals w,(callFunc f vals).run P w= .ok (.enter f vals) w)(h:JY P f (fun yv=>yv::C) xs rb):Jm P (.func (.func f) [] C) xs:=
 ⟨f,C,rfl,hcall,fun yv I D hI hD hy F H hi=>(h yv I D hI hD hy [] F H (by rwa[L4])).mono fun v H' hr=>hr.imp (fun h=>h.2) fun h=>h.2⟩
def B6.cast {Φ:A5→A5→Prop}{H0 H:A5}{L L':List En}(h:B6 Φ H0 L H)(e:L=L'):B6 Φ H0 L' H:=e▸h
noncomputable def Ht (ds:List Nat):List En:=List.rec (motive:=fun _=>List En) [] (fun d _ l=>l++[.blk d DB]) ds
def YQ (d:Nat)(ds:List Nat):Ht (d::ds)=Ht ds++[.blk d DB]:=rfl
def B6.dbs1 {Φ:A5→A5→Prop}{H0 H:A5}{A:List En}{d:Nat}{ds:List Nat}(h:B6 Φ H0 ((A++Ht ds)++[.blk d DB]) H):B6 Φ H0 (A++Ht (d::ds)) H:=by
 rw[YQ,←G1];exact h
def AP2 {Φ:A5→A5→Prop} {H0:A5} {A:List En}:∀{ds:List Nat} {H:A5},B6 Φ H0 (A++Ht ds) H→ds.Nodup∧(∀id,id∈ds→H id=some DB)∧B6 Φ H0 A (clear H ds):=by
 intro ds
 induction ds with
 |nil=>
  intro H h
  have e:clear H []=H:=by funext x;simp[clear]
  rw[e]
  grind[Ht]
 | cons d ds ih=>
  intro H h
  rw[YQ,←G1]at h
  have hi:((A++Ht ds)++[En.blk d DB])[(A++Ht ds).length]? =some (.blk d DB):=by simp
  have hd:=h.get _ hi;have h1:=h.del _ hi
  have e:((A++Ht ds)++[En.blk d DB]).eraseIdx (A++Ht ds).length=A++Ht ds:=by
   rw[List.eraseIdx_append_of_length_le (D5 _)];simp
  rw[e]at h1
  obtain⟨a1,a2,a3⟩:=ih h1;refine⟨List.nodup_cons.2 ⟨fun hm=>?_,a1⟩,fun id hid=>?_,?_⟩
  ·have:=a2 d hm;rw[E4]at this;cases this
  ·grind[D2]
  have e2:clear (upd H d none) ds=clear H (d::ds):=by
   funext x
   grind[clear,upd]
  rwa[e2]at a3
def Qa (hE:E=I6 P nt rd){Φ:A5→A5→Prop}{H0 H:A5}{A:List En}{ds:List Nat}(hO:B6 Φ H0 (A++Ht ds) H){k:A5→Prop}(hk:∀H',B6 Φ H0 A H'→k H'):E.fin ds H k:=by
 subst hE;obtain⟨a1,a2,a3⟩:=AP2 hO;exact⟨⟨a1,a2⟩,hk _ a3⟩
def AB7 (cf:Cf) (hE:E=I6 P nt rd) (hP:RG P T) {β σ γ R:Type} {step:σ→Option (List β×(σ⊕R))} {c:Code} {st:St} {H:A5} {K:Exit→St→A5→Prop} (fm:σ→γ→Fl) (Inv:σ→γ→List Nat→List β→A5→Prop) (X:R→Exit→Fl→List Nat→List β→A5→Prop) (Xa:Exit→Fl→List Nat→A5→Prop) (hd:K2 cf c=true)
 (round:∀s g ds w1 w2 H o,Inv s g ds (w1++w2) H→step s=some (w1,o)→run E T nt cf c ⟨fm s g,ds⟩ H fun e st' H'=>match e with
  | .normal=>∃s' g' ds',o= .inl s'∧GZ st'.l (fm s' g')∧st'.df=ds'∧Inv s' g' ds' w2 H'
  |e=>(∃x l ds',o= .inr x∧X x e l ds' w2 H'∧GZ st'.l l∧st'.df=ds')∨∃l ds',Xa e l ds' H'∧GZ st'.l l∧st'.df=ds')
 {N:Nat} {s0:σ} (g0:γ) {w w':List β} {r:R} (h:Z5 step N s0=some (w,r)) (hdf:st.df=[]) (hf:GZ st.l (fm s0 g0)) (hI:Inv s0 g0 [] (w++w') H) (after:∀e l ds H',X r e l ds w' H'→K e ⟨l,ds⟩ H') (afterA:∀e l ds H',Xa e l ds H'→K e ⟨l,ds⟩ H'):E.sim (.loop c) st H K:=by
 subst hE;refine W4.loopN (fun n fr' H'=>∃s g ds w,Z5 step n s=some (w,r)∧Fa fr' ⟨fm s g,ds⟩∧Inv s g ds (w++w') H') N ⟨s0,g0,[],w,h,⟨fun t=>hf.wk t,hdf⟩,hI⟩ fun n fr' H' ⟨s,g,ds,w,hs,hle,hi⟩=>?_
 cases n with
 |zero=>cases hs
 | succ n=>
  simp only[Z5]at hs
  cases ho:step s with
  |none=>rw[ho]at hs;cases hs
  | some p=>
   obtain⟨w1,o⟩:=p
   rw[ho]at hs
   obtain⟨w2,hw,hrest⟩:∃w2,w=w1++w2∧match o with| .inl s'=>Z5 step n s'=some (w2,r)| .inr x=>x=r∧w2=[]:=by
    cases o with
    |inl s'=>
     grind
    |inr x=>grind
   subst hw
   rw[G1]at hi
   refine W4.frLe hle ((O6 hP.1 hP.2 c _ _ _ hd (round s g ds w1 (w2++w') H' o hi ho)).mono fun e fr2 H2 ⟨st',hle',hq⟩=>?_)
   have exits:∀e,((∃x l ds',o= .inr x∧X x e l ds' (w2++w') H2∧GZ st'.l l∧st'.df=ds')∨∃l ds',Xa e l ds' H2∧GZ st'.l l∧st'.df=ds')→∃st'',Fa fr2 st''∧K e st'' H2:=by
    intro e hq
    rcases hq with⟨x,l,ds',h1,h4,h2,h3⟩|⟨l,ds',h4,h2,h3⟩
    ·subst h1;obtain⟨rfl,rfl⟩:=hrest;exact⟨⟨l,ds'⟩,⟨fun t=>(hle'.s t).trans (h2.wk t),hle'.df.trans h3⟩,after _ _ _ _ h4⟩
    exact⟨⟨l,ds'⟩,⟨fun t=>(hle'.s t).trans (h2.wk t),hle'.df.trans h3⟩,afterA _ _ _ _ h4⟩
   cases e with
   |normal=>
    obtain⟨s',g',ds',h1,h2,h3,h4⟩:=hq;subst h1;exact⟨n,Gp n,s',g',ds',w2,hrest,⟨fun t=>(hle'.s t).trans (h2.wk t),hle'.df.trans h3⟩,h4⟩
   |_=>exact exits _ hq
def MY (cf:Cf) (hE:E=I6 P nt rd) (hP:RG P T) {β σ γ R:Type} {step:σ→Option (List β×(σ⊕R))} {c:Code} {st:St} {H:A5} {K:Exit→St→A5→Prop} (fm:σ→γ→Fl) (Inv:σ→γ→List β→A5→Prop) (X:R→Exit→Fl→List β→A5→Prop) (Xa:Exit→Fl→A5→Prop) (hd:K2 cf c=true)
 (round:∀s g w1 w2 H o,Inv s g (w1++w2) H→step s=some (w1,o)→run E T nt cf c ⟨fm s g,st.df⟩ H fun e st' H'=>match e with
  | .normal=>∃s' g',o= .inl s'∧GZ st'.l (fm s' g')∧st'.df=st.df∧Inv s' g' w2 H'
  |e=>(∃x l,o= .inr x∧X x e l w2 H'∧GZ st'.l l∧st'.df=st.df)∨∃l,Xa e l H'∧GZ st'.l l∧st'.df=st.df)
 {N:Nat} {s0:σ} (g0:γ) {w w':List β} {r:R} (h:Z5 step N s0=some (w,r)) (hf:GZ st.l (fm s0 g0)) (hI:Inv s0 g0 (w++w') H) (after:∀e l H',X r e l w' H'→K e ⟨l,st.df⟩ H') (afterA:∀e l H',Xa e l H'→K e ⟨l,st.df⟩ H'):E.sim (.loop c) st H K:=by
 subst hE;refine W4.loopN (fun n fr' H'=>∃s g w,Z5 step n s=some (w,r)∧Fa fr' ⟨fm s g,st.df⟩∧Inv s g (w++w') H') N ⟨s0,g0,w,h,⟨fun t=>hf.wk t,rfl⟩,hI⟩ fun n fr' H' ⟨s,g,w,hs,hle,hi⟩=>?_
 cases n with
 |zero=>cases hs
 | succ n=>
  simp only[Z5]at hs
  cases ho:step s with
  |none=>rw[ho]at hs;cases hs
  | some p=>
   obtain⟨w1,o⟩:=p
   rw[ho]at hs
   obtain⟨w2,hw,hrest⟩:∃w2,w=w1++w2∧match o with| .inl s'=>Z5 step n s'=some (w2,r)| .inr x=>x=r∧w2=[]:=by
    cases o with
    |inl s'=>
     grind
    |inr x=>grind
   subst hw
   rw[G1]at hi
   refine W4.frLe hle ((O6 hP.1 hP.2 c _ _ _ hd (round s g w1 (w2++w') H' o hi ho)).mono fun e fr2 H2 ⟨st',hle',hq⟩=>?_)
   have exits:∀e,((∃x l,o= .inr x∧X x e l (w2++w') H2∧GZ st'.l l∧st'.df=st.df)∨∃l,Xa e l H2∧GZ st'.l l∧st'.df=st.df)→∃st'',Fa fr2 st''∧K e st'' H2:=by
    intro e hq
    rcases hq with⟨x,l,h1,h4,h2,h3⟩|⟨l,h4,h2,h3⟩
    ·subst h1;obtain⟨rfl,rfl⟩:=hrest;exact⟨⟨l,st.df⟩,⟨fun t=>(hle'.s t).trans (h2.wk t),hle'.df.trans h3⟩,after _ _ _ h4⟩
    exact⟨⟨l,st.df⟩,⟨fun t=>(hle'.s t).trans (h2.wk t),hle'.df.trans h3⟩,afterA _ _ _ h4⟩
   cases e with
   |normal=>
    obtain⟨s',g',h1,h2,h3,h4⟩:=hq;subst h1;exact⟨n,Gp n,s',g',w2,hrest,⟨fun t=>(hle'.s t).trans (h2.wk t),hle'.df.trans h3⟩,h4⟩
   |_=>exact exits _ hq
end
section
variable {P:Program}{nt:Nat}{T:GY}{E:FL}{α β σ R ι:Type}
def REI (enc:α→List V)(step:σ→α→Option (List β×(σ⊕R)))(o:σ⊕R)(w':List β)(Inv:σ→List β→A5→A5→Prop)(l:List (List V))(F H:A5):Prop:=
 ∃q:σ×List α×List β,(l=q.2.1.map enc∧CU step q.2.1 q.1=some (q.2.2,o))∧Inv q.1 (q.2.2++w') F H
def RED (o:σ⊕R)(w':List β)(X:R→Exit→List β→A5→A5→Prop)(Xa:Exit→A5→A5→Prop)(c:Code)(F H:A5):Prop:=
 (∃q:R×Exit,(o= .inr q.1∧jmp q.2=some c)∧X q.1 q.2 w' F H)∨∃q:Exit,jmp q=some c∧Xa q F H
def REJ (enc:α→List V)(step:σ→α→Option (List β×(σ⊕R)))(o:σ⊕R)(w':List β)(fJ:ι→σ→α→Fl)(J:ι→σ→α→List β→A5→A5→Prop)(x:List V)(l:List (List V))(fr:Fr)(F H:A5):Prop:=
 ∃q:ι×σ×α×List α×List β,(x=enc q.2.2.1∧l=q.2.2.2.1.map enc∧CU step (q.2.2.1::q.2.2.2.1) q.2.1=some (q.2.2.2.2,o)∧Fa fr ⟨fJ q.1 q.2.1 q.2.2.1,[]⟩)∧J q.1 q.2.1 q.2.2.1 (q.2.2.2.2++w') F H
def G5.or {I J:A5→A5→Prop}(h:G5 I)(k:G5 J):G5 fun F H=>I F H∨J F H:=
 ⟨fun hh=>hh.elim (fun x=>h.le x) fun x=>k.le x,fun id b hh e=>hh.imp (fun x=>h.chg id b x e) fun x=>k.chg id b x e⟩
variable {enc:α→List V}{step:σ→α→Option (List β×(σ⊕R))}{g:Operand}{ps:Array Tmp}{asg body:Code}{st:St}{H:A5}{K:Exit→St→A5→Prop}
 {xs:List α} {s0:σ} {o:σ⊕R} {w w':List β}
def SK (cf:Cf) (hE:E=I6 P nt none) (hP:RG P T) (Inv:σ→List β→A5→A5→Prop) (X:R→Exit→List β→A5→A5→Prop) (Xa:Exit→A5→A5→Prop) (fJ:ι→σ→α→Fl) (J:ι→σ→α→List β→A5→A5→Prop)
 (hI:∀s w,G5 (Inv s w)) (hX:∀r e w,G5 (X r e w)) (hXa:∀e,G5 (Xa e)) (hJ:∀i s y w,G5 (J i s y w)) (hit:Jm P ((U2 [] st.l g).V) (xs.map enc)) (h:CU step xs s0=some (w,o)) {F:A5} (h0:Inv s0 (w++w') F H)
 (hnt:∀p∈ps,p<nt) (hps:∀x,(enc x).length=ps.size) (hda:K2 cf asg=true) (hdb:K2 cf body=true)
 (asgP:∀(E':FL) (id:Nat) y s w F H,E'=I6 P nt (some id)→Inv s w F H→run E' T nt cf asg ⟨XK ps.toList (enc y) st.l,[]⟩ H fun e st' H'=>match e with| .normal=>∃i,J i s y w F H'∧GZ st'.l (fJ i s y)∧st'.df=[]|_=>False)
 (bodyP:∀(E':FL) (id:Nat) i y s w1 w2 F H o',E'=I6 P nt (some id)→(∃L,F id=some (.loop L))→step s y=some (w1,o')→J i s y (w1++w2) F H→run E' T nt cf body ⟨fJ i s y,[]⟩ H fun e _ H'=>match e with
  | .normal=>∃s',o'= .inl s'∧Inv s' w2 F H'
  |e=>(∃r,o'= .inr r∧(jmp e).isSome=true∧X r e w2 F H')∨((jmp e).isSome=true∧Xa e F H'))
 (done:∀d s H',o= .inl s→F d=none→Inv s w' (upd F d (some DB)) H'→K .normal ⟨st.l,d::st.df⟩ H')
 (stop:∀d r e H',o= .inr r→F d=none→X r e w' (upd F d (some DB)) H'→K e ⟨st.l,d::st.df⟩ H')
 (stopA:∀d e H',F d=none→Xa e (upd F d (some DB)) H'→K e ⟨st.l,d::st.df⟩ H'):E.sim (.rangeFunc g ps asg body) st H K:=by
 subst hE;have hev:ev (I8 st) g=(U2 [] st.l g).V:=(ES (df:=st.df) Lj.nil g).symm
 rw[←hev]at hit
 have sI:∀l,G5 (REI enc step o w' Inv l):=fun l=>G5.ex fun q=>hI q.1 _;have sD:∀c,G5 (RED o w' X Xa c):=fun c=>G5.or (G5.ex fun q=>hX q.1 q.2 w') (G5.ex fun q=>hXa q);have sJ:∀x l fr,G5 (REJ enc step o w' fJ J x l fr):=fun x l fr=>G5.ex fun q=>hJ q.1 q.2.1 q.2.2.1 _;refine W4.rangeOuter (nt:=nt) hnt (fun x hx=>?_) hit (REI enc step o w' Inv) (RED o w' X Xa) sI sD (REJ enc step o w' fJ J) sJ ⟨⟨s0,xs,w⟩,⟨rfl,h⟩,h0⟩ ?_ ?_ (fun d H' hd ⟨⟨s,ys,w2⟩,⟨hl,hr⟩,hi⟩=>?_) fun c d H' hd hx=>?_
 ·grind
 ·intro id L x l F H ⟨⟨s,ys,w2⟩,⟨hl,hr⟩,hi⟩ _ _
  cases ys with
  |nil=>cases hl
  | cons y ys=>
   simp only[E9,W8]at hl
   obtain⟨rfl,rfl⟩:=hl
   have e:(⟨HJ (I8 st).s ps.toList (enc y),[]⟩:Fr)=I8 ⟨XK ps.toList (enc y) st.l,[]⟩:=by
    simp only[I8,Fr.mk.injEq,Q0]
    funext t
    grind[VV]
   rw[e];refine(O6 hP.1 hP.2 asg _ _ _ hda (asgP _ id y s _ F H rfl hi)).mono fun e fr' H1 ⟨st',hle,hq⟩=>?_
   cases e with
   |normal=>
    obtain⟨i,hj,hl,hdf⟩:=hq;exact⟨rfl,⟨i,s,y,ys,w2⟩,⟨rfl,rfl,hr,fun t=>(hle.s t).trans (hl.wk t),hle.df.trans hdf⟩,hj⟩
   |_=>exact hq.elim
 ·intro id L x l fr' F H ⟨⟨i,s,y,ys,w2⟩,⟨hx,hl,hr,hf⟩,hj⟩ hL;subst hx;subst hl
  simp only[CU]at hr
  cases ho:step s y with
  |none=>rw[ho]at hr;cases hr
  | some p=>
   obtain⟨w1,o'⟩:=p
   rw[ho]at hr
   obtain⟨w3,hw,hrest⟩:∃w3,w2=w1++w3∧match o' with| .inl s'=>CU step ys s'=some (w3,o)| .inr x=>o= .inr x∧w3=[]:=by
    cases o' with
    |inl s'=>
     grind
    |inr x=>grind
   subst hw
   dsimp only at hj
   rw[G1]at hj
   refine W4.frLe hf ((O6 hP.1 hP.2 body _ _ _ hdb (bodyP _ id i y s w1 (w3++w') F H o' rfl ⟨L,hL⟩ ho hj)).mono fun e fr2 H2 ⟨st',hle,hq⟩=>?_)
   have out:∀e c,jmp e=some c→((∃r,o'= .inr r∧(jmp e).isSome=true∧X r e (w3++w') F H2)∨((jmp e).isSome=true∧Xa e F H2))→RED o w' X Xa c F H2:=by
    intro e c hc hq
    rcases hq with⟨r,h1,_,h3⟩|⟨_,h3⟩
    ·subst h1;obtain⟨rfl,rfl⟩:=hrest;exact .inl ⟨⟨r,e⟩,⟨rfl,hc⟩,h3⟩
    grind[RED]
   cases e with
   |normal=>
    obtain⟨s',h1,h2⟩:=hq;subst h1;exact⟨⟨s',ys,w3⟩,⟨rfl,hrest⟩,h2⟩
   |ret=>exact out .ret _ rfl hq
   |exit k=>exact out (.exit k) _ rfl hq
   |_=>rcases hq with⟨_,_,h,_⟩|⟨h,_⟩<;>cases h
 ·have hys:ys=[]:=by
   simp_all
  subst hys;cases hr;exact⟨⟨st.l,d::st.df⟩,⟨fun t=>Wk.refl _,rfl⟩,done d s H' rfl hd hi⟩
 have fin:∀e,jmp e=some c→K e ⟨st.l,d::st.df⟩ H'→W4 P nt none c {I8 st with df:=d::(I8 st).df} H' fun e fr' H'=>∃st',Fa fr' st'∧K e st' H':=by
  intro e hj hk
  cases e with
  |ret=>cases hj;exact W4.ret ⟨⟨st.l,d::st.df⟩,⟨fun t=>Wk.refl _,rfl⟩,hk⟩
  |exit k=>cases hj;exact W4.exit ⟨⟨st.l,d::st.df⟩,⟨fun t=>Wk.refl _,rfl⟩,hk⟩
  |_=>cases hj
 rcases hx with⟨⟨r,e⟩,⟨ho,hj⟩,hx⟩|⟨e,hj,hx⟩
 ·grind
 grind
end
end Go.Ab
namespace Go.Ab
def Ii {α:Type}(l:List α)(i:Int):Bool:=decide (0≤i∧i<(l.length:Nat))
def DS {α:Type}(l:List α)(i:Int)(u:α→α):Option (List α):=(B8 l i).map fun x=>l.set i.toNat (u x)
def mkL {α:Type}(n m:Int)(z:α):Option (List α):=if 0≤n∧n≤m∧m≤1073741824 then some (List.replicate n.toNat z)else none
def Pq {α:Type}(l:List α)(i j:Int):Option (List α):=if 0≤i∧i≤j∧j≤(l.length:Nat)then some (l.take i.toNat++l.drop j.toNat)else none
def Pb {α:Type}(l:List α)(i:Int)(m:List α):Option (List α):=if 0≤i∧i≤(l.length:Nat)∧l.length+m.length≤1073741824 then some (l.take i.toNat++m++l.drop i.toNat)else none
def Pg {α:Type}(_:List α)(n:Int):Option (List α):=if 0≤n∧n≤1073741824 then some []else none
end Go.Ab
namespace Go.Ab
open Go.RowKit
variable [N9][Ar]
def Bt.swap {H0 H:A5} {L:List En} (h:Bt H0 L H) (i:Nat) {en en':En} {id t:Nat} {b b':Ds} (hi:L[i]? =some en) (he:en.id=some (id,b)) (he':en'.id=some (t,b')) (ht:upd H id none t=none):
 Bt H0 (L.set i en') (upd (upd H id none) t (some b')):=by
 have hlt:i<L.length:=by
  grind
 have Nj:∀(j:Nat) e,(L.set i en')[j]? =some e→(j=i∧e=en')∨(j≠i∧L[j]? =some e):=fun j e hj=>by
  rw[W9]at hj
  grind
 have hid:=h.has i _ id b hi he
 have h0:∀x c,H0 x=some c→upd H id none x=some c:=fun x c hx=>by
  rw[D2 _ _ (AH hid.1 hx)];exact h.ext x c hx
 have hoth:∀(j:Nat) e x c,j≠i→L[j]? =some e→e.id=some (x,c)→H0 x=none∧upd H id none x=some c:=fun j e x c hne hj hx=>by
  have:=h.has j e x c hj hx
  have hxid:x≠id:=fun eq=>by subst eq;exact hne (h.inj j i e _ x c b hj hi hx he)
  simp_all[upd]
 have hid0:H0 t=none:=by
  cases e:H0 t with
  |none=>rfl
  |some c=>rw[h0 t c e]at ht;cases ht
 refine⟨fun x bb hx=>?_,fun j e x bb hj hx=>?_,fun j k e e' x bb bb' hj hk hx hx'=>?_,fun x bb hx=>?_⟩
 rotate_right
 ·by_cases hxi:x=t
  ·grind[upd]
  rw[D2 _ _ hxi]at hx
  have hxid:x≠id:=fun eq=>by simp_all[upd]
  rw[D2 _ _ hxid]at hx
  refine(h.only x bb hx).imp (fun h=>h) fun⟨j,e,h1,h2⟩=>⟨j,e,?_,h2⟩;rw[W9]
  grind
 ·rw[D2 _ _ (AH hid0 hx)];simp_all
 ·grind[upd]
 rcases Nj j e hj with⟨hji,rfl⟩|⟨hne,hj'⟩<;>rcases Nj k e' hk with⟨hki,rfl⟩|⟨hne',hk'⟩
 ·rw[hji,hki]
 ·rw[he']at hx;grind
 ·rw[he']at hx';grind
 exact h.inj j k e e' x bb bb' hj' hk' hx hx'
def B6.swap {Φ:A5→A5→Prop}{F H:A5}{L:List En}(h:B6 Φ F L H)(i:Nat){id t:Nat}{b b':Ds}(hi:L[i]? =some (.blk id b))(ht:upd H id none t=none):B6 Φ F (L.set i (.blk t b')) (upd (upd H id none) t (some b')):=by
 obtain⟨hs,F',H1,h0,h1,h2⟩:=h;have e:=h0.get i hi;have e1:=hs.le h1 _ _ e;have h3:=hs.chg id none h1 (by rw[e,e1]);have hle:Fc (upd H1 id none) (upd H id none):=h2.upd id none;have hn1:=hle.none ht;have hn':=hs.fresh h3 hn1;exact⟨hs,_,_,h0.swap i hi rfl rfl hn',hs.chg t (some b') h3 (by rw[hn1,hn']),hle.upd t _⟩
def B6.swap' {Φ:A5→A5→Prop}{F H:A5}{L:List En}(h:B6 Φ F L H)(i:Nat){id t:Nat}{b b':Ds}(hi:L[i]? =some (.blk id b))(ht:H t=none):B6 Φ F (L.set i (.blk t b')) (upd H t (some b')):=by
 have hid:=h.get i hi
 have hne:t≠id:=fun e=>by simp_all
 obtain⟨hs,F',H1,h0,h1,h2⟩:=h.swap (b':=b') i hi (t:=t) (by rw[D2 _ _ hne];exact ht)
 grind[B6,upd,Fc]
structure OG where
 id:Nat
 lo:Int
 n:Int
 pre:List V
 rest:List V
def Bz (q:OG)(m:Int):Prop:=q.lo=(q.pre.length:Nat)∧q.n=m
def Wh {α:Type}{f:α→V}(l:List α):Ar.len l=((lst f l).length:Nat):=by rw[len_eq,O2]
def Yl {α:Type}{f:α→V}(l:List α):Ar.len l=AD5 (lst f l):=by rw[Aj1,Wh (f:=f) l]
def MP {pre xs rest:List V}{lo n:Int}(h0:lo=(pre.length:Nat))(h1:n=(xs.length:Nat)):N8 (pre++xs++rest) lo n=xs:=by
 simp_all[N8]
theorem XL {pre xs rest ys:List V}{i:Nat}(hi:i=pre.length+xs.length):AP (pre++xs++rest) i ys=pre++(xs++ys)++rest.drop ys.length:=by
 subst hi;simp only[AP,G1];rw[show pre++(xs++rest)=(pre++xs)++rest by simp,←Ac,List.take_left,List.drop_append];simp
def Yu {pre xs rest:List V}{i:Nat}(h:i<xs.length):(pre++xs++rest).getD (pre.length+i) .bad=xs.getD i .bad:=by
 grind
def AK1 {pre xs rest:List V}{i:Nat}{v:V}(h:i<xs.length):(pre++xs++rest).set (pre.length+i) v=pre++xs.set i v++rest:=by
 simp_all
theorem B6.set_self {L:List En}(i:Nat){e:En}(hi:L[i]? =some e):L.set i e=L:=by
 apply DP
 grind
section
variable {P:Program}{nt:Nat}{rd:Option Nat}{T:GY}{E:FL}
variable (hE:E=I6 P nt rd)
include hE
variable {α R:Type}{f:α→V}{Φ:A5→A5→Prop}{H0 H:A5}{L:List En}{sz:Nat}{q:OG}{l:List α}{r:R}
theorem KB (hq:Bz q (Ar.len l)){k:Int→Prop}(h:k (Ar.len l)):E.olen q.n k:=by
 grind[I6,Bz]
theorem BF (hO:B6 Φ H0 L H)(hq:Bz q (Ar.len l))(i:Nat){j:Int}{k:Int→Prop}{F:Unit→Option R}(hi:L[i]? =some (.blk q.id (.arr sz (q.pre++lst f l++q.rest))))(h:(Du (Ii l j)).bind F=some r)(hk:F ()=some r→k (ofs q.lo j)):
 E.oidx H q.id sz q.lo q.n j k:=by
 subst hE;obtain⟨x,h1,h2⟩:=A7 h
 unfold Du at h1
 split at h1
 ·rename_i hp;refine⟨⟨_,hO.get i hi⟩,?_,hk h2⟩;rw[hq.2,len_eq];grind[Ii]
 cases h1
theorem US {l:List α}{i:Int}{x:α}(h:B8 l i=some x):(0≤i∧i<(l.length:Nat))∧l[i.toNat]? =some x:=by
 grind[B8]
theorem Yf {l:List α}{i:Nat}{x:α}(h:l[i]? =some x):(lst f l).getD i .bad=f x:=by
 rw[lst_eq];simp_all
theorem DH {g:α→V}(hf:∀x,f x=g x)(hO:B6 Φ H0 L H)(hq:Bz q (Ar.len l))(i:Nat){j:Int}{k:V→Prop}{F:α→Option R}(hi:L[i]? =some (.blk q.id (.arr sz (q.pre++lst f l++q.rest))))(h:(B8 l j).bind F=some r)(hk:∀x,F x=some r→k (g x)):
 E.oload H q.id (ofs q.lo j) k:=by
 obtain⟨x,h1,h2⟩:=A7 h;obtain⟨hb,h3⟩:=US hE h1;have h4:=Yf hE (f:=f) h3;subst hE;have e1:=O2 (f:=f) l;refine⟨_,_,hO.get i hi,?_,?_⟩
 ·rw[ofs_eq,hq.1];grind
 rw[ofs_eq,hq.1,show((q.pre.length:Nat)+j:Int).toNat=q.pre.length+j.toNat by omega,Yu (by rw[e1];omega),h4,hf]
 grind
theorem XY {β:Type}{f0:β→V}{esz:Nat}(hO:B6 Φ H0 L H){k:Nat→A5→Prop}(hk:∀(q:OG) id H',Bz q (Ar.len ([]:List β))→B6 Φ H0 (.blk id (.cells [.own q.id q.lo q.n]):: .blk q.id (.arr esz (q.pre++lst f0 []++q.rest))::L) H'→k id H'):E.oalloc esz H k:=by
 subst hE;intro t id ht hid
 have e:([]:List V)++lst f0 []++[]=[]:=by rw[←B5 (f:=f0)];rfl
 have h0:B6 Φ H0 (.blk t (.arr esz [])::L) (upd H t (some (.arr esz []))):=hO.push ht rfl;have h1:B6 Φ H0 (.blk id (.cells [.own t 0 0]):: .blk t (.arr esz [])::L) (upd (upd H t (some (.arr esz []))) id (some (.cells [.own t 0 0]))):=h0.push hid rfl;refine hk ⟨t,0,0,[],[]⟩ id _ ⟨rfl,by rw[len_eq];rfl⟩ ?_
 simp_all
theorem Rx (hO:B6 Φ H0 L H)(hq:Bz q (Ar.len l))(i m:Nat){id j:Nat}{cs:List V}{k:A5→Prop}(hi:L[i]? =some (.blk id (.cells cs)))(hm:L[m]? =some (.blk q.id (.arr sz (q.pre++lst f l++q.rest))))(hj:cs[j]? =some (.own q.id q.lo q.n))(him:i≠m)
 (hk:∀H',B6 Φ H0 ((L.set i (.blk id (.cells (cs.set j (.sl (lst f l) .ro))))).eraseIdx m) H'→k H'):E.frzIn H id j k:=by
 subst hE;have h1:=hO.get i hi;have h2:=hO.get m hm
 have hne:q.id≠id:=fun e=>by rw[e,h1]at h2;cases h2
 refine⟨cs,q.id,q.lo,q.n,sz,_,_,h1,hj,h2,.refl _,?_⟩;have h3:=(hO.set i (b':=.cells (cs.set j (.sl (lst f l) .ro))) hi).del m (id:=q.id) (b:=.arr sz (q.pre++lst f l++q.rest)) (by rw[W9,A1 him];exact hm);rw[MP hq.1 (by rw[hq.2,len_eq,O2]),RO _ _ _ hne]
 grind
theorem BE {u:α→α} {esz tz off:Nat} {y:V} (hu:∀x,∃y',Cp y y'∧y'.one=true∧y'.cells.length=tz∧VU (f x) esz tz off y'=f (u x)) (hle:off+tz≤esz) (hO:B6 Φ H0 L H) (hq:Bz q (Ar.len l)) (i:Nat) {j:Int} {k:A5→Prop} {F:List α→Option R}
 (hi:L[i]? =some (.blk q.id (.arr esz (q.pre++lst f l++q.rest)))) (h:(DS l j u).bind F=some r)
 (hk:∀l' H',Bz q (Ar.len l')→F l'=some r→B6 Φ H0 (L.set i (.blk q.id (.arr esz (q.pre++lst f l'++q.rest)))) H'→k H'):E.ostore H q.id (ofs q.lo j) esz tz off y k:=by
 obtain⟨l',h1,h2⟩:=A7 h
 unfold DS at h1
 cases hx:B8 l j with
 |none=>rw[hx]at h1;cases h1
 | some x=>
  rw[hx]at h1
  simp only[K4,E6]at h1
  obtain⟨hb,h3⟩:=US hE hx;obtain⟨y',q1,q2,q3,q4⟩:=hu x;have e1:=Yf hE (f:=f) h3
  have e2:(lst f l).set j.toNat (f (u x))=lst f l':=by
   rw[←h1,lst_eq,lst_eq,List.map_set]
  subst hE;have el:=O2 (f:=f) l
  have ej:(ofs q.lo j).toNat=q.pre.length+j.toNat:=by rw[ofs_eq,hq.1];omega
  refine⟨_,y',q1,q2,q3,hle,hO.get i hi,?_,?_⟩
  ·rw[ofs_eq,hq.1];grind
  rw[ej,Yu (by rw[el];omega),AK1 (by rw[el];omega),e1,q4,e2];refine hk l' _ ⟨hq.1,?_⟩ h2 (hO.set i hi);rw[hq.2,len_eq,len_eq,←h1,Iq]
theorem SL {by_:Nat} (hby:by_≤131072) {z:V} {z0:α} (hz:Cp z (f z0)) (hO:B6 Φ H0 L H) {n m:Int} {k:V→A5→Prop} {F:List α→Option R} (h:(mkL n m z0).bind F=some r)
 (hk:∀l' (q:OG) H',Bz q (Ar.len l')→F l'=some r→B6 Φ H0 (.blk q.id (.arr sz (q.pre++lst f l'++q.rest))::L) H'→k (.own q.id q.lo q.n) H'):E.omk sz by_ z n m H k:=by
 subst hE;obtain⟨l',h1,h2⟩:=A7 h
 unfold mkL at h1
 split at h1
 ·rename_i hc;cases h1;refine⟨⟨hc.1,hc.2.1,?_⟩,List.replicate m.toNat (f z0),?_,fun id hid=>?_⟩
  ·have:m*(by_:Nat)≤1073741824*131072:=Int.mul_le_mul hc.2.2 (by omega) (by omega) (by omega);omega
  ·have:∀k:Nat,M1 (List.replicate k z) (List.replicate k (f z0)):=fun k=>by
    induction k with
    |zero=>exact .nil
    |succ k ih=>rw[List.replicate_succ,List.replicate_succ];exact .cons hz ih
   exact this _
  have e:List.replicate m.toNat (f z0)=[]++lst f (List.replicate n.toNat z0)++List.replicate (m.toNat-n.toNat) (f z0):=by
   rw[lst_eq,List.map_replicate,L9,QC];grind
  rw[e];exact hk _ ⟨id,0,n,[],List.replicate (m.toNat-n.toNat) (f z0)⟩ _ ⟨rfl,by rw[len_eq];simp;omega⟩ h2 (hO.push hid rfl)
 cases h1
theorem DX {by_:Nat} {z:V} (hsz:∀x,(f x).cells.length=sz) (hby:by_≤131072) (hO:B6 Φ H0 L H) (hq:Bz q (Ar.len l)) (i:Nat) (hi:L[i]? =some (.blk q.id (.arr sz (q.pre++lst f l++q.rest)))) {y:V} {m:List α} {k:V→A5→Prop} {F:List α→Option R}
 (hs:Rn sz H y (lst f m)) (h:(G6 l m).bind F=some r)
 (hk:∀x (q:OG) H',Bz q (Ar.len x)→B6 Φ H0 (L.set i (.blk q.id (.arr sz (q.pre++lst f x++q.rest)))) H'→F x=some r→k (.own q.id q.lo q.n) H'):E.oapp sz by_ z H (.own q.id q.lo q.n) y k:=by
 subst hE;obtain⟨x,h1,h2⟩:=A7 h;have el:=O2 (f:=f) l;have em:=O2 (f:=f) m
 have hn:q.n=(l.length:Nat):=by rw[hq.2,len_eq]
 unfold G6 at h1
 split at h1
 ·rename_i hc;cases h1;refine⟨_,hs,_,hO.get i hi,fun hfit=>?_,fun _=>⟨?_,fun t j ht=>?_⟩⟩
  rotate_left
  ·rw[em,hn,Fk];exact Z7 (Z8 hc hby) (by decide)
  rotate_left
  ·have e:AP (q.pre++lst f l++q.rest) (q.lo+q.n).toNat (lst f m)=q.pre++lst f (l++m)++q.rest.drop m.length:=by
    rw[XL (by rw[hq.1,hn,el];omega),KE,em]
   rw[e];refine hk _ ⟨q.id,q.lo,q.n+((lst f m).length:Nat),q.pre,q.rest.drop m.length⟩ _ ⟨hq.1,?_⟩ (hO.set i hi) h2;rw[len_eq,hn,em];simp
  have e:N8 (q.pre++lst f l++q.rest) q.lo q.n++lst f m++List.replicate j z=[]++lst f (l++m)++List.replicate j z:=by
   rw[MP hq.1 (by rw[el];exact hn),KE,L9]
  rw[e];refine hk _ ⟨t,0,q.n+((lst f m).length:Nat),[],List.replicate j z⟩ _ ⟨rfl,?_⟩ (hO.swap' i hi ht) h2;rw[len_eq,hn,em];simp
 cases h1
theorem Ai0 {by_:Nat} {z:V} (hsz:∀x,(f x).cells.length=sz) (hby:by_≤131072) (hO:B6 Φ H0 L H) {x:V} (hx:x= .sl [] .nil∨x= .sl [] .full) {y:V} {m:List α} {k:V→A5→Prop} {F:List α→Option R}
 (hs:Rn sz H y (lst f m)) (h:(G6 [] m).bind F=some r)
 (hk:∀x (q:OG) H',Bz q (Ar.len x)→B6 Φ H0 (.blk q.id (.arr sz (q.pre++lst f x++q.rest))::L) H'→F x=some r→k (.own q.id q.lo q.n) H'):E.oapp sz by_ z H x y k:=by
 subst hE;obtain⟨x',h1,h2⟩:=A7 h;have em:=O2 (f:=f) m
 unfold G6 at h1
 split at h1
 ·rename_i hc;cases h1;refine⟨_,hs,?_⟩
  have key:(lst f m).length*by_≤140737488355328∧∀t j,H t=none→k (.own t 0 ((lst f m).length:Nat)) (upd H t (some (.arr sz (lst f m++List.replicate j z)))):=by
   refine⟨?_,fun t j ht=>?_⟩
   ·rw[em];exact Z7 (Z8 (by simpa using hc) hby) (by decide)
   refine hk m ⟨t,0,((lst f m).length:Nat),[],List.replicate j z⟩ _ ⟨rfl,by rw[len_eq,em]⟩ ?_ (by grind);exact hO.push ht rfl
  grind[GX]
 cases h1
theorem AN (h:Bz q (Ar.len l)):Bz q ((lst f l).length:Nat):=⟨h.1,by rw[h.2,len_eq,O2]⟩
theorem AJ7 (hO:B6 Φ H0 L H)(hq:Bz q (Ar.len l))(i:Nat)(hi:L[i]? =some (.blk q.id (.arr sz (q.pre++lst f l++q.rest)))):Rn sz H (.own q.id q.lo q.n) (lst f l):=by
 refine⟨_,hO.get i hi,?_⟩;rw[MP hq.1 (by rw[hq.2,len_eq,O2])];exact .refl _
theorem Ct (hsz:∀x,(f x).cells.length=sz){ys:List V}{tl:E7}(h:M1 ys (lst f l)):Rn sz H (.sl ys tl) (lst f l):=⟨h,Js hsz l⟩
theorem XW (hO:B6 Φ H0 L H) (hq:Bz q (Ar.len l)) (i:Nat) (hi:L[i]? =some (.blk q.id (.arr sz (q.pre++lst f l++q.rest)))) {lo hi':Option Int} {k:V→Prop} {F:List α→Option R}
 (h:(T4 l lo hi' none).bind F=some r) (hk:∀x (q:OG),Bz q (Ar.len x)→B6 Φ H0 (L.set i (.blk q.id (.arr sz (q.pre++lst f x++q.rest)))) H→F x=some r→k (.own q.id q.lo q.n)):
 E.oslice sz H q.id q.lo q.n lo hi' none k:=by
 subst hE;obtain⟨x,h1,h2⟩:=A7 h;have el:=O2 (f:=f) l
 have hn:q.n=(l.length:Nat):=by rw[hq.2,len_eq]
 unfold T4 at h1
 split at h1
 ·rename_i hc;cases h1;obtain⟨c1,c2,c3,c4,c5⟩:=hc
  simp only[Iu]at c3
  refine⟨_,hO.get i hi,?_,?_⟩
  ·rw[hn,hq.1]
   grind
  rw[hn]
  generalize hA:lo.getD 0=a at *
  generalize hB:hi'.getD (l.length:Nat)=b at *
  have hm:((l.drop a.toNat).take (b.toNat-a.toNat)).length=b.toNat-a.toNat:=by simp;omega
  refine hk _ ⟨q.id,q.lo+a,b-a,q.pre++lst f (l.take a.toNat),lst f (l.drop b.toNat)++q.rest⟩ ⟨?_,?_⟩ ?_ h2
  ·simp only[Ac,O2,BZ,hq.1];omega
  ·rw[len_eq,hm];grind
  have e:q.pre++lst f (l.take a.toNat)++lst f ((l.drop a.toNat).take (b.toNat-a.toNat))++(lst f (l.drop b.toNat)++q.rest)=q.pre++lst f l++q.rest:=by
   have e1:l=l.take a.toNat++((l.drop a.toNat).take (b.toNat-a.toNat)++l.drop b.toNat):=by
    have e2:l.drop b.toNat=(l.drop a.toNat).drop (b.toNat-a.toNat):=by rw[Gk];grind
    rw[e2,Ad,Ad]
   have e3:lst f l=lst f (l.take a.toNat)++(lst f ((l.drop a.toNat).take (b.toNat-a.toNat))++lst f (l.drop b.toNat)):=by
    rw[KE,KE,←e1]
   rw[e3];grind
  grind[B6.set_self]
 cases h1
theorem Aq3 (hO:B6 Φ H0 L H)(hq:Bz q (Ar.len l))(i:Nat)(hi:L[i]? =some (.blk q.id (.arr sz (q.pre++lst f l++q.rest)))){lo hi':Option Int}{k:V→Prop}{F:List α→Option R}
 (h:(T4 l lo hi' none).bind F=some r) (hk:∀x (q':OG),Rn sz H (.own q'.id q'.lo q'.n) (lst f x)→F x=some r→k (.own q'.id q'.lo q'.n)):
 E.oslice sz H q.id q.lo q.n lo hi' none k:=
 XW hE hO hq i hi h fun x q' hq' hO' h2=>hk x q' (AJ7 hE hO' hq' i (by rw[W9];grind)) h2
theorem NR (hO:B6 Φ H0 L H)(hq:Bz q (Ar.len l))(i:Nat){k:List V→A5→Prop}(hi:L[i]? =some (.blk q.id (.arr sz (q.pre++lst f l++q.rest))))(hk:∀H',B6 Φ H0 (L.eraseIdx i) H'→k (lst f l) H'):E.ofrz H q.id q.lo q.n k:=by
 subst hE;have:=hk _ (hO.del i hi);refine⟨_,_,_,hO.get i hi,.refl _,?_⟩;rw[MP hq.1 (by rw[hq.2,len_eq,O2])];exact this
end
def Ye {α:Type}{f:α→V}{l:List α}(h:lst f l=[]):l=[]:=by
 rw[lst_eq]at h;simp_all
def Zg {α:Type}{f:α→V}{l r:List α}(hx:lst f l=[])(h:(G6 [] l).bind (fun x=>some x)=some r):lst f r=[]:=by
 rw[Ye hx]at h
 grind[G6,lst_eq]
def Ae8 (F:A5)(sz:Nat)(xs:List V)(v:V)(H':A5):Prop:=∃q:OG,v= .own q.id q.lo q.n∧Bz q (xs.length:Nat)∧F q.id=none∧H'=upd F q.id (some (.arr sz (q.pre++xs++q.rest)))
def PB (P:Program)(f:FuncId)(args:List V)(sz:Nat)(xs:List V):Prop:=∀H,J5 P f args H (Ae8 H sz xs)
def Qp (P:Program)(f:FuncId)(args:List V)(sz:Nat)(xs xs':List V):Prop:=
 ∀H (q:OG),Bz q (xs.length:Nat)→H q.id=some (.arr sz (q.pre++xs++q.rest))→J5 P f (.own q.id q.lo q.n::args) H (Ae8 (upd H q.id none) sz xs')
def GS (mk:V→V):Prop:=∀(g:Gh) (w:World) (u:Value) (x:V),VR g w u (mk x)→∃v,VR g w v x∧∀(g':Gh) (w':World) (y:V),W1 g w g' w'→VR g' w' v y→VR g' w' u (mk y)
theorem GS.id:GS fun x=>x:=fun _ _ u _ h=>⟨u,h,fun _ _ _ _ k=>k⟩
def GS.agg (cs:List V) (i:Nat) (hi:i<cs.length):GS fun x=>.agg (cs.set i x):=fun g w u x h=>by
 cases h with
 |agg hl h1 hv=>
  rename_i vs
  have hi':i<(cs.set i x).length:=by grind
  refine⟨vs.getD i undef,by have:=hv i hi';rwa[Et hi,A2 rfl]at this,fun g' w' y s k=>?_⟩;refine .agg (by grind) (fun j hj=>h1 j (by grind)) fun j hj=>?_;rw[Et hi]
  split
  ·simp_all
  rename_i e;have:=hv j (by grind)
  rw[Et hi,A1 e]at this
  exact this.mono s
def GS.tup (cs:List V) (i:Nat) (hi:i<cs.length):GS fun x=>.tup (cs.set i x):=fun g w u x h=>by
 cases h with
 |tup hl hv=>
  rename_i vs
  have hi':i<(cs.set i x).length:=by grind
  refine⟨vs.getD i undef,by have:=hv i hi';rwa[Et hi,A2 rfl]at this,fun g' w' y s k=>?_⟩;refine .tup (by grind) fun j hj=>?_;rw[Et hi]
  split
  ·simp_all
  rename_i e;have:=hv j (by grind)
  rw[Et hi,A1 e]at this
  exact this.mono s
def J5.adopt {P:Program} {f:FuncId} {args:List V} {H:A5} {K:V→A5→Prop} {sz:Nat} (h:J5 P f args H fun x H'=>K x H'∨(x= .sl [] .nil∧∀t,H' t=none→K (.own t 0 0) (upd H' t (some (.arr sz []))))):J5 P f args H K:=
 fun g w vals hR hA=>(h g w vals hR hA).mono fun v w' ⟨g',x,H',s,hR',hv,hK⟩=>by
  rcases hK with hK|⟨rfl,hK⟩
  ·grind[N5]
  obtain⟨g2,s2,hR2,hn,hv2⟩:=Ek hR' sz (.inl rfl) hv;exact⟨g2,_,_,s.trans s2,hR2,hv2,hK _ hn⟩
def Ae9 (F:A5)(sz:Nat)(xs:List V)(mk:V→V)(v:V)(H':A5):Prop:=∃q:OG,v=mk (.own q.id q.lo q.n)∧Bz q (xs.length:Nat)∧F q.id=none∧H'=upd F q.id (some (.arr sz (q.pre++xs++q.rest)))
def Al8 (P:Program)(f:FuncId)(args:List V)(sz:Nat)(xs:List V)(mk:V→V):Prop:=∀H,J5 P f args H (Ae9 H sz xs mk)
def J5.adoptG {P:Program} {f:FuncId} {args:List V} {H:A5} {K:V→A5→Prop} {sz:Nat} {mk:V→V} (hm:GS mk) (h:J5 P f args H fun x H'=>K x H'∨(x=mk (.sl [] .nil)∧∀t,H' t=none→K (mk (.own t 0 0)) (upd H' t (some (.arr sz []))))):J5 P f args H K:=
 fun g w vals hR hA=>(h g w vals hR hA).mono fun v w' ⟨g',x,H',s,hR',hv,hK⟩=>by
  rcases hK with hK|⟨rfl,hK⟩
  ·grind[N5]
  obtain⟨u,hu,hb⟩:=hm g' w' v _ hv;obtain⟨g2,s2,hR2,hn,hv2⟩:=Ek hR' sz (.inl rfl) hu;exact⟨g2,_,_,s.trans s2,hR2,hb _ _ _ s2 hv2,hK _ hn⟩
def B6.last {F H:A5}{t:Nat}{b:Ds}(h:B6 Eq F [.blk t b] H):F t=none∧Fc (upd F t (some b)) H:=by
 obtain⟨hs,F',H1,h0,h1,h2⟩:=h;subst h1;have h3:=h0.has 0 _ t b rfl rfl;refine⟨h3.1,fun x c hx=>?_⟩
 by_cases e:x=t
 ·grind[Fc,upd]
 rw[D2 _ _ e]at hx;exact h2 _ _ (h0.ext x c hx)
def B6.only {F H:A5}{L:List En}{t:Nat}{b:Ds}(h:B6 Eq F L H)(i:Nat)(hi:L[i]? =some (.blk t b)):B6 Eq F [.blk t b] H:=by
 obtain⟨hs,F',H1,h0,h1,h2⟩:=h;subst h1;have h3:=h0.has i _ t b hi rfl;refine⟨hs,upd F t (some b),upd F t (some b),(Bt.start F).push h3.1 rfl,rfl,fun x c hx=>?_⟩
 by_cases e:x=t
 ·grind[Fc,upd]
 rw[D2 _ _ e]at hx;exact h2 _ _ (h0.ext x c hx)
def B6.only1 {F H:A5}{L:List En}{t:Nat}{b:Ds}(h:B6 Eq F (.blk t b::L) H):B6 Eq F [.blk t b] H:=by
 obtain⟨hs,F',H1,h0,h1,h2⟩:=h;subst h1;have h3:=h0.has 0 _ t b rfl rfl;refine⟨hs,upd F t (some b),upd F t (some b),(Bt.start F).push h3.1 rfl,rfl,fun x c hx=>?_⟩
 by_cases e:x=t
 ·grind[Fc,upd]
 rw[D2 _ _ e]at hx;exact h2 _ _ (h0.ext x c hx)
section
variable {P:Program}{T:GY}{f:FuncId}{fn:Func}{c:Code}{n:Nat}{rs:List ResultVar}{args:List V}
def Dr {F H:A5}{sz:Nat}{xs:List V}(cf:Cf)(hP:RG P T)(hf:P.funcs[f]? =some fn)(hb:fn.body=some c)(hd:K2 cf c=true)
 (hcall:∀vals w,(callFunc f vals).run P w= .ok (.enter f vals) w) (hnt:fn.ntmps=n) (hrs:fn.results.toList=rs) (hn:Nat.ble args.length n=true)
 (h:∀(E:FL) (K:V→A5→Prop),E=I6 P n none→(∀(q:OG) L H',Bz q (xs.length:Nat)→B6 Eq F (.blk q.id (.arr sz (q.pre++xs++q.rest))::L) H'→K (.own q.id q.lo q.n) H')→(xs=[]→∀L H',B6 Eq F L H'→K (.sl [] .nil) H')→run E T n cf c ⟨Cj args 0,[]⟩ H (Oa E T rs K)):
 J5 P f args H (Ae8 F sz xs):=by
 refine J5.adopt (sz:=sz) (J5.le (T8 (K:=fun x H'=>∃y H2,Cp x y∧Fc H2 H'∧(Ae8 F sz xs y H2∨(y= .sl [] .nil∧∀t,H2 t=none→Ae8 F sz xs (.own t 0 0) (upd H2 t (some (.arr sz [])))))) cf hP.1 hP.2 hf hb hd hcall hnt hrs hn fun E hE=>?_));refine h E _ hE (fun q L H' hq hO=>?_) fun hx L H' hO=>?_
 ·obtain⟨h1,h2⟩:=hO.only1.last;exact⟨_,_,.refl _,h2,.inl ⟨q,rfl,hq,h1,rfl⟩⟩
 exact⟨_,F,.refl _,hO.ext,.inr ⟨rfl,fun t ht=>⟨⟨t,0,0,[],[]⟩,rfl,⟨rfl,by rw[hx];rfl⟩,ht,by rw[hx];rfl⟩⟩⟩
end
def At5 {P:Program}{T:GY}{f:FuncId}{fn:Func}{c:Code}{n:Nat}{rs:List ResultVar}{args:List V}{F H:A5}{sz:Nat}{xs:List V}{mk:V→V}(hmk:GS mk)(cf:Cf)(hP:RG P T)(hf:P.funcs[f]? =some fn)(hb:fn.body=some c)(hd:K2 cf c=true)
 (hcall:∀vals w,(callFunc f vals).run P w= .ok (.enter f vals) w) (hnt:fn.ntmps=n) (hrs:fn.results.toList=rs) (hn:Nat.ble args.length n=true)
 (h:∀(E:FL) (K:V→A5→Prop),E=I6 P n none→(∀(q:OG) (L:List En) (i:Nat) H',Bz q (xs.length:Nat)→L[i]? =some (.blk q.id (.arr sz (q.pre++xs++q.rest)))→B6 Eq F L H'→K (mk (.own q.id q.lo q.n)) H')→(xs=[]→∀L H',B6 Eq F L H'→K (mk (.sl [] .nil)) H')→run E T n cf c ⟨Cj args 0,[]⟩ H (Oa E T rs K)):
 J5 P f args H (Ae9 F sz xs mk):=by
 refine J5.adoptG (sz:=sz) hmk (J5.le (T8 (K:=fun x H'=>∃y H2,Cp x y∧Fc H2 H'∧(Ae9 F sz xs mk y H2∨(y=mk (.sl [] .nil)∧∀t,H2 t=none→Ae9 F sz xs mk (mk (.own t 0 0)) (upd H2 t (some (.arr sz [])))))) cf hP.1 hP.2 hf hb hd hcall hnt hrs hn fun E hE=>?_));refine h E _ hE (fun q L i H' hq hi hO=>?_) fun hx L H' hO=>?_
 ·obtain⟨h1,h2⟩:=(hO.only i hi).last;exact⟨_,_,.refl _,h2,.inl ⟨q,rfl,hq,h1,rfl⟩⟩
 exact⟨_,F,.refl _,hO.ext,.inr ⟨rfl,fun t ht=>⟨⟨t,0,0,[],[]⟩,rfl,⟨rfl,by rw[hx];rfl⟩,ht,by rw[hx];rfl⟩⟩⟩
section
variable {P:Program}{nt:Nat}{rd:Option Nat}{T:GY}{E:FL}
variable (hE:E=I6 P nt rd)
include hE
theorem Wa {α β R:Type} {f:α→V} {Φ:A5→A5→Prop} {H0 H:A5} {L:List En} {sz:Nat} {r:R} {m:Option β} {F:β→Option R} {g:β→List α} {mk:β→V→V} {fid:FuncId} {args args':List V} {k:V→A5→Prop}
 (h:m.bind F=some r) (hc:∀x,m=some x→Al8 P fid args' sz (lst f (g x)) (mk x)) (hl:M1 args args') (hO:B6 Φ H0 L H)
 (hk:∀x (q:OG) H',Bz q (Ar.len (g x))→B6 Φ H0 (.blk q.id (.arr sz (q.pre++lst f (g x)++q.rest))::L) H'→F x=some r→k (mk x (.own q.id q.lo q.n)) H'):
 E.call (.func (.func fid) [] []) args H k:=by
 subst hE;obtain⟨x,h1,h2⟩:=A7 h;refine J5.value (F:=[]) (C:=[]) ?_;have:=((hc x h1) H).args hl;simp only[L9,L4]
 exact this.mono fun v H' ⟨q,e1,e0,e2,e3⟩=>by
  subst e1;subst e3;exact hk x q _ (by rw[len_eq];rwa[O2]at e0) (hO.push e2 rfl) h2
variable {α R S:Type}{f:α→V}{Φ:A5→A5→Prop}{H0 H:A5}{L:List En}{sz:Nat}{q:OG}{r:R}{m:Option (List α)}{F:List α→Option R}{fid:FuncId}{args args':List V}{k:V→A5→Prop}
theorem Hh (h:m.bind F=some r) (hc:∀x,m=some x→PB P fid args' sz (lst f x)) (hl:M1 args args') (hO:B6 Φ H0 L H)
 (hk:∀x (q:OG) H',Bz q (Ar.len x)→B6 Φ H0 (.blk q.id (.arr sz (q.pre++lst f x++q.rest))::L) H'→F x=some r→k (.own q.id q.lo q.n) H'):
 E.call (.func (.func fid) [] []) args H k:=by
 subst hE;obtain⟨x,h1,h2⟩:=A7 h;refine J5.value (F:=[]) (C:=[]) ?_;have:=((hc x h1) H).args hl;simp only[L9,L4]
 exact this.mono fun v H' ⟨q,e1,e0,e2,e3⟩=>by
  subst e1;subst e3;exact hk x q _ (by rw[len_eq];rwa[O2]at e0) (hO.push e2 rfl) h2
theorem OQ {l:List α} (hO:B6 Φ H0 L H) (hq:Bz q (Ar.len l)) (i:Nat) (hi:L[i]? =some (.blk q.id (.arr sz (q.pre++lst f l++q.rest)))) (h:m.bind F=some r) (hc:∀x,m=some x→Qp P fid args' sz (lst f l) (lst f x)) (hl:M1 args args')
 (hk:∀x (q:OG) H',Bz q (Ar.len x)→B6 Φ H0 (L.set i (.blk q.id (.arr sz (q.pre++lst f x++q.rest)))) H'→F x=some r→k (.own q.id q.lo q.n) H'):
 E.call (.func (.func fid) [] []) (.own q.id q.lo q.n::args) H k:=by
 subst hE;obtain⟨x,h1,h2⟩:=A7 h;refine J5.value (F:=[]) (C:=[]) ?_;have:=((hc x h1) H q (by rw[O2,←len_eq];exact hq) (hO.get i hi)).args (.cons (.refl _) hl);simp only[L9,L4]
 exact this.mono fun v H' ⟨q',e1,e0,e2,e3⟩=>by
  subst e1;subst e3;exact hk x q' _ (by rw[len_eq];rwa[O2]at e0) (hO.swap i hi e2) h2
theorem AB6 {p:Prop}{v:V}{a b:Unit→Prop}(hv:Aq2 v=some p)(h1:p→a ())(h0:b ()):E.nilc v a b:=by grind[I6]
end
section
variable {P:Program}{T:GY}{f:FuncId}{fn:Func}{c:Code}{n:Nat}{rs:List ResultVar}{args:List V}
def TA {H:A5} {sz:Nat} {q:OG} {xs':List V} (cf:Cf) (hP:RG P T) (hf:P.funcs[f]? =some fn) (hb:fn.body=some c) (hd:K2 cf c=true)
 (hcall:∀vals w,(callFunc f vals).run P w= .ok (.enter f vals) w) (hnt:fn.ntmps=n) (hrs:fn.results.toList=rs) (hn:Nat.ble (args.length+1) n=true)
 (h:∀(E:FL) (K:V→A5→Prop),E=I6 P n none→
  (∀(t:Nat) (lo m:Int) (row pre rest:List V) H',row=pre++xs'++rest→lo=(pre.length:Nat)→m=(xs'.length:Nat)→(t=q.id∨H t=none)→Fc (upd (upd H q.id none) t (some (.arr sz row))) H'→K (.own t lo m) H')→
  run E T n cf c ⟨Cj (.own q.id q.lo q.n::args) 0,[]⟩ H (Oa E T rs K)):
 J5 P f (.own q.id q.lo q.n::args) H (Ae8 (upd H q.id none) sz xs'):=by
 refine J5.le (T8 (K:=fun x H'=>∃y H2,Cp x y∧Fc H2 H'∧Ae8 (upd H q.id none) sz xs' y H2) cf hP.1 hP.2 hf hb hd hcall hnt hrs hn fun E hE=>?_);refine h E _ hE fun t lo m row pre rest H' e1 e2 e3 e4 e5=>?_;subst e1;refine⟨_,_,.refl _,e5,⟨t,lo,m,pre,rest⟩,rfl,⟨e2,e3⟩,?_,rfl⟩
 grind[upd]
end
section
variable {P:Program}{nt:Nat}{rd:Option Nat}{T:GY}{E:FL}
variable (hE:E=I6 P nt rd)
include hE
variable {H:A5}{sz id:Nat}{l n RL:Int}{row:List V}
theorem Y7 (hk:H id=some (.arr sz row))(hl:RL=(row.length:Nat)){lo hi:Option Int}{k:V→Prop}(a b:Int)(ha:lo.getD 0=a)(hb:hi.getD n=b)(h1:0≤a)(h2:a≤b)(h3:l+b≤RL)(h:∀l' n',l'=l+a→n'=b-a→k (.own id l' n')):
 E.oslice sz H id l n lo hi none k:=by
 grind[I6]
theorem Ap0 (hk:H id=some (.arr sz row))(hl:RL=(row.length:Nat)){lo hi:Option Int}{m:Int}{k:V→Prop}(a b:Int)(ha:lo.getD 0=a)(hb:hi.getD n=b)(h1:0≤a)(h2:a≤b)(h3:b≤m)(h4:l+m≤RL)(h5:hi.isSome=true)(h:k .bad):
 E.oslice sz H id l n lo hi (some m) k:=by
 grind[I6]
theorem AW5 (hk:H id=some (.arr sz row))(hl:RL=(row.length:Nat)){k:Int→Prop}(h:∀c,c=RL-l→k c):E.ocap H id l k:=by
 grind[I6]
theorem VQ {k:Int→Prop}(h:k n):E.olen n k:=by grind[I6]
theorem PV {c:Bool}{x y:Unit→Prop}(h1:c=true→x ())(h2:c=false→y ()):E.br c x y:=by simp_all[I6]
theorem VS {xs:List V}(hl:RL=(xs.length:Nat)){k:Int→Prop}(h:k RL):E.ln xs k:=by simp_all[I6]
theorem Ru {k:V→Prop}(h:k (.sl [] .nil)):E.slice sz [] .nil none (some 0) none k:=by
 subst hE;exact⟨⟨by decide,by decide,by decide,by decide,fun h=>(by cases h),.inl (by decide)⟩,h⟩
theorem VC (hk:H id=some (.arr sz row)):Rn sz H (.own id l n) (N8 row l n):=⟨_,hk,.refl _⟩
theorem OJ (hk:H id=some (.arr sz row)){y:V}{ys':List V}(hs:Rn sz H y ys'){YL:Int}(hy:YL=(ys'.length:Nat)){k:V→A5→Prop}
 (h:∀m row',m=(if n<YL then n else YL)→row'=AP row l.toNat (ys'.take n.toNat)→k (.int .i64 m) (upd H id (some (.arr sz row')))):E.ocopy sz H (.own id l n) y k:=by
 grind[I6]
theorem Az8 {z:V}(hk:H id=some (.arr sz row)){k:A5→Prop}(h:∀row',row'=AP row l.toNat (List.replicate n.toNat z)→k (upd H id (some (.arr sz row')))):E.oclear sz z H (.own id l n) k:=by
 simp_all[I6]
theorem Az9 {by_:Nat}{z:V}(hk:H id=some (.arr sz row))(hl:RL=(row.length:Nat)){y:V}{ys':List V}(hs:Rn sz H y ys'){YL:Int}(hy:YL=(ys'.length:Nat)){k:V→A5→Prop}
 (hin:l+n+YL≤RL→∀m row',m=n+YL→row'=AP row (l+n).toNat ys'→k (.own id l m) (upd H id (some (.arr sz row'))))
 (hout:RL<l+n+YL→(n.toNat+ys'.length)*by_≤140737488355328∧∀t m row' j,H t=none→m=n+YL→row'=N8 row l n++ys'++List.replicate j z→k (.own t 0 m) (upd H t (some (.arr sz row')))):
 E.oapp sz by_ z H (.own id l n) y k:=by
 subst hE;subst hl;subst hy;exact⟨_,hs,_,hk,fun e=>hin e _ _ rfl rfl,fun e=>⟨(hout e).1,fun t j ht=>(hout e).2 t _ _ j ht rfl rfl⟩⟩
theorem AK8 {by_:Nat} {z:V} {i0:Int} (i:Int) (hi:i0=i) (hk:H id=some (.arr sz row)) (hl:RL=(row.length:Nat)) (h0:0≤i) (hb:(n.toNat+i.toNat)*by_≤140737488355328) {k:V→A5→Prop}
 (hin:l+n+i≤RL→∀m row',m=n+i→row'=AP row (l+n).toNat (List.replicate i.toNat z)→k (.own id l m) (upd H id (some (.arr sz row'))))
 (hout:RL<l+n+i→∀t m row' j,H t=none→m=n+i→row'=N8 row l n++List.replicate i.toNat z++List.replicate j z→k (.own t 0 m) (upd H t (some (.arr sz row')))):
 E.oappz sz by_ z H (.own id l n) i0 k:=by
 subst hE;subst hl;subst hi
 generalize i0=i at *
 have e:((i.toNat:Nat):Int)=i:=by omega
 have hbn:n.toNat+i.toNat≤(n.toNat+i.toNat)*by_∨by_=0:=by
  rcases Nat.eq_zero_or_pos by_ with h|h
  ·exact .inr h
  simp_all[LP]
 refine⟨⟨h0,hb⟩,_,hk,fun hle=>?_,fun hlt=>⟨?_,fun t j ht=>?_⟩⟩
 ·simp_all
 ·grind
 simp_all
theorem OK {by_:Nat} {z x:V} {i0:Int} (i:Int) (hi:i0=i) (hx:x= .sl [] .nil∨x= .sl [] .full) (h0:0≤i) (hb:i.toNat*by_≤140737488355328) {k:V→A5→Prop}
 (hout:∀t m row' j,H t=none→m=i→row'=List.replicate i.toNat z++List.replicate j z→k (.own t 0 m) (upd H t (some (.arr sz row')))):
 E.oappz sz by_ z H x i0 k:=by
 subst hE;subst hi
 generalize i0=i at *
 have e:((i.toNat:Nat):Int)=i:=by omega
 have key:GX H k sz by_ z x (List.replicate i.toNat z):=by
  have h2:(List.replicate i.toNat z).length*by_≤140737488355328∧∀t j,H t=none→k (.own t 0 ((List.replicate i.toNat z).length:Nat)) (upd H t (some (.arr sz (List.replicate i.toNat z++List.replicate j z)))):=by
   simp_all
  grind[GX]
 refine⟨⟨h0,?_⟩,key⟩
 rcases hx with rfl|rfl<;>simpa[ownN]using hb
end
end Go.Ab
namespace Go.Ab
open Go.RowKit
def RU {A B C row:List V}{lo n:Int}(hr:row=A++B++C)(h0:lo=(A.length:Nat))(h1:n=(B.length:Nat)):N8 row lo n=B:=by
 simp_all[N8]
def Ku {A B C ys row:List V}{i:Nat}(hr:row=A++B++C)(hi:i=A.length)(hl:ys.length=B.length):AP row i ys=A++ys++C:=by
 simp_all[AP]
def AJ5 {row ys:List V}{l n m RL:Int}(hRL:RL=(row.length:Nat))(hy:m=(ys.length:Nat))(h0:0≤l)(h1:0≤n)(h:l+n+m≤RL):(l+n).toNat+ys.length≤row.length:=by omega
def AP7 {pre xs rest row row1 row2:List V} {z:V} {lo i j n l1 n1 l2 n2 m l3 n3:Int} (hr:row=pre++xs++rest) (e1:lo=(pre.length:Nat)) (e2:n=(xs.length:Nat)) (h0:0≤i) (h1:i≤j) (h2:j≤(xs.length:Nat))
 (q1:l1=lo) (q2:n1=i) (q3:l2=lo+j) (q4:n2=n-j) (hr1:row1=AP row (l1+n1).toNat (N8 row l2 n2)) (q5:m=n1+((N8 row l2 n2).length:Nat)) (q6:l3=l1+m) (q7:n3=n-m) (hr2:row2=AP row1 l3.toNat (List.replicate n3.toNat z)):
 row2=pre++(xs.take i.toNat++xs.drop j.toNat)++(List.replicate (j-i).toNat z++rest)∧m=((xs.take i.toNat++xs.drop j.toNat).length:Nat):=by
 have e3:N8 row l2 n2=xs.drop j.toNat:=by
  refine RU (A:=pre++xs.take j.toNat) (C:=rest) ?_ ?_ ?_
  ·rw[hr];simp_all
  ·simp;omega
  grind
 rw[e3]at hr1 q5
 have hm:m=((xs.take i.toNat++xs.drop j.toNat).length:Nat):=by grind
 refine⟨?_,hm⟩
 have hr1':row1=(pre++xs.take i.toNat)++xs.drop j.toNat++((xs.drop i.toNat).drop (xs.length-j.toNat)++rest):=by
  rw[hr1];refine Ku (B:=(xs.drop i.toNat).take (xs.length-j.toNat)) ?_ ?_ ?_
  ·rw[hr]
   grind[List.take_append_drop]
  ·simp;omega
  grind
 rw[hr2];have:=Ku (row:=row1) (A:=pre++xs.take i.toNat++xs.drop j.toNat) (B:=(xs.drop i.toNat).drop (xs.length-j.toNat)) (C:=rest) (ys:=List.replicate n3.toNat z) (i:=l3.toNat) (by rw[hr1'];simp_all) (by grind) (by grind);rw[this,show n3.toNat=(j-i).toNat by grind]
 simp_all
def AV9 [N9]{H:A5}{id:Nat}{b:Ds}(h:H id=some b):Fc (Go.Ab.upd H id (some b)) H:=fun y c hy=>by
 grind[upd]
def Ak0 [N9]{H:A5}{id t:Nat}{b:Option Ds}:Fc (Go.Ab.upd (Go.Ab.upd H id none) t b) (Go.Ab.upd H t b):=fun x d hx=>by
 grind[upd]
def MZ {a b by_:Nat}(h:a+b≤1073741824)(hb:by_≤131072):(a+b)*by_≤140737488355328:=Z7 (Z8 h hb) (by decide)
def AN1 {α:Type} [Ar] {f:α→V} {l r:List α} {i j:Int} (h:Pq l i j=some r):0≤i∧i≤j∧j≤((lst f l).length:Nat)∧lst f r=(lst f l).take i.toNat++(lst f l).drop j.toNat:=by
 unfold Pq at h
 split at h
 ·rename_i hc;cases h
  simp_all[lst_eq]
 cases h
def AN0 {α:Type} [Ar] {f:α→V} {l r m:List α} {i:Int} (h:Pb l i m=some r):0≤i∧i≤((lst f l).length:Nat)∧(lst f l).length+(lst f m).length≤1073741824∧lst f r=(lst f l).take i.toNat++lst f m++(lst f l).drop i.toNat:=by
 unfold Pb at h
 split at h
 ·rename_i hc;cases h
  simp_all[lst_eq]
 cases h
def OW {α:Type}[N9][Ar]{f:α→V}{l r:List α}{n:Int}(h:Pg l n=some r):0≤n∧n≤1073741824∧lst f r=[]:=by
 grind[Pg,lst_eq]
end Go.Ab
namespace Go.Ab
open Go.RowKit
variable [N9]
def VM {P:Program} {g:Gh} {H:A5} {w:World} (hR:Rl g H w) {tS tR e:TypeId} {sz id:Nat} {lo n:Int} {xs row:List V} {t:E7} {v u:Value} (hu:Fd P tS=some e) (hs:Ev P e=some sz) (hk:H id=some (.arr sz row))
 (hall:xs.all (fun x=>x.cells.length==sz)=true) (hv:VR g w v (.sl xs t)) (hw:VR g w u (.own id lo n)):(Extern.SlicesOverlaps.overlaps #[tS,tS] #[tR] #[v,u]).run P w= .ok (.bool false) w:=by
 obtain⟨b,p,h1,h2,h3,h4,h5,h6,h7,h8,h9,h10⟩:=EL hR hk hw;obtain⟨base,cap,vs,f1,f2,f3,f4,f5⟩:=Eh (P:=P) hv hall;have ht:=Q9 hu;have hz:=Q3 hs;subst f1;subst h2;obtain⟨la,hla⟩:∃la,la=xs.length:=⟨_,rfl⟩;obtain⟨lb,hlb⟩:∃lb,lb=n.toNat:=⟨_,rfl⟩;rw[←hla,←hlb]
 change Sem.run P (α:=Value) (do
  let some t:=(#[tS,tS]:Array TypeId)[0]? |stuck "slices.overlaps: no parameter types"
  let .slice elem ←underlying t|stuck "slices.overlaps: slice type expected"
  let size ←sizeOf elem
  match base,p with
  | some a,some b=>
   if la=0∨lb=0∨size=0 then pure (Value.bool false)
   else if a.block !=b.block&&(←frozen a)&&(←frozen b)then unsupported .addressObserved
   else do
    if a.block !=b.block then do
     noView a;noView b
     if ←mayBeOne a b then return Value.bool ((←choose (.extern "sameAddr.stringBytes" 2))==1)
    pure (Value.bool (a.block==b.block&&a.off<b.off+lb*size&&b.off<a.off+la*size))
  |_,_=>pure (Value.bool false)) w=_
 rcases f5 with⟨hx,_⟩|⟨vb,vo,rfl,f6,f7,_⟩
 ·have hla0:la=0:=by rw[hla,hx];rfl
  cases base<;>cases p<;>simp[run_underlying ht,hz,hla0]
 cases p with
 |none=>simp_all[run_underlying]
 | some q=>
  by_cases h0:la=0∨lb=0∨sz=0
  ·simp[run_underlying ht,hz,h0]
  have hx0:0<xs.length:=by omega
  have hn0:0<n.toNat:=by omega
  have hs0:0<sz:=by omega
  have hq:=h8 (by omega);cases hq
  rcases h10 with h10|⟨c,T,k1,k2,k3,k4,k5,k6⟩
  ·omega
  have hc0:0<c.size:=by
   have:=K5 sz (show 1≤row.length by omega);omega
  have hfb:∀o,w.frozen? ⟨b,o,none⟩=false:=fun o=>by simp[World.frozen?,k2]
  have hsb:w.shape? b=some (T,c.size):=by simp[World.shape?,k2]
  have hva:=f6 0 0 hx0 hs0
  obtain⟨tA,kA,hsa⟩:∃tA kA,w.shape? vb=some (tA,kA+1):=by
   have:=hva.2
   simp only[World.cell?]at this
   split at this
   ·rename_i c' e' _ hh
    simp at this
    have hlt:vo+0*sz+0<c'.size:=by
     grind
    exact⟨e',c'.size-1,by simp[World.shape?,hh];omega⟩
   grind
  by_cases hne:vb=b
  ·subst hne;have hlast:=(f6 (xs.length-1) (sz-1) (by omega) (by omega)).1
   have hlt:vo+xs.length*sz≤(g.ow id).o:=by
    rcases Q6 (vo+(xs.length-1)*sz+(sz-1)) (g.ow id).o with hh|hh
    ·have:xs.length*sz=(xs.length-1)*sz+sz:=by rw[←Nat.succ_mul];grind
     omega
    simp_all
   have h1':¬((g.ow id).o+lo.toNat*sz<vo+la*sz):=by rw[hla];omega
   simp_all[run_underlying]
  have hnb:(vb !=b)=true:=by grind
  have hnb':(vb==b)=false:=by grind
  obtain⟨kB,hkB⟩:∃kB,c.size=kB+1:=⟨c.size-1,by omega⟩
  rw[hkB]at hsb
  simp[run_underlying ht,hz,h0,hnb,hnb',frozen,noView,viewAt,mayBeOne,stringish,shape,Sem.run,hsa,hsb,hfb]
def TD {P:Program} {f:FuncId} {tS tR e:TypeId} {sz id:Nat} {lo n:Int} {xs row:List V} {t:E7} {H:A5} (hrun:∀vals w,(callFunc f vals).run P w=((Extern.SlicesOverlaps.overlaps #[tS,tS] #[tR] vals).run P w).andThen fun v w=>.ok (.value v) w)
 (hu:Fd P tS=some e) (hs:Ev P e=some sz) (hk:H id=some (.arr sz row)) (hall:xs.all (fun x=>x.cells.length==sz)=true):J5 P f [.sl xs t,.own id lo n] H fun x H'=>x= .bool false∧H'=H:=by
 intro g w vals hR hA;obtain⟨hl,hv⟩:=hA;obtain⟨vals⟩:=vals
 match vals,hl with
 |[v,u],_=>
  have h1:=hv 0 (by simp);have h2:=hv 1 (by simp)
  simp at h1 h2
  rw[hrun,VM hR hu hs hk hall h1 h2];exact N5.here hR (.bool _) ⟨rfl,rfl⟩
def AK9 [Ar]{P:Program}{nt:Nat}{rd:Option Nat}{E:FL}(hE:E=I6 P nt rd){fid:FuncId}{args:List V}{r:V}{H:A5}{k:V→A5→Prop}(h:J5 P fid args H fun x H'=>x=r∧H'=H)(hk:k r H):E.call (.func (.func fid) [] []) args H k:=by
 subst hE;refine J5.value (F:=[]) (C:=[]) ?_;simp only[L9,L4]
 exact h.mono fun x H' ⟨e1,e2⟩=>by rw[e1,e2];exact hk
end Go.Ab
namespace Go.Ab
open Go.RowKit
def AO5 [N9][Ar]{pre xs rest row vs row1:List V}{lo n mm m:Int}(hr:row=pre++xs++rest)(e1:lo=(pre.length:Nat))(e2:n=(xs.length:Nat))(e3:mm=(vs.length:Nat))(q5:m=n+mm)(hr1:row1=AP row (lo+n).toNat vs):
 row1=pre++(xs++vs)++rest.drop vs.length∧m=((xs++vs).length:Nat):=by
 grind[XL]
def AE0 {pre xs rest row vs row1:List V}{z:V}{j:Nat}{lo n mm m:Int}(hr:row=pre++xs++rest)(e1:lo=(pre.length:Nat))(e2:n=(xs.length:Nat))(e3:mm=(vs.length:Nat))(q5:m=n+mm)(hr1:row1=N8 row lo n++vs++List.replicate j z):
 row1=[]++(xs++vs)++List.replicate j z∧m=((xs++vs).length:Nat):=by
 simp_all[N8]
def AO4 {pre xs rest row vs row2 row3 row4:List V} {z:V} {jz:Nat} {lo n i mm d m l1 n1 l2 n2 l3 n3:Int} (hr:row=pre++xs++rest) (e1:lo=(pre.length:Nat)) (e2:n=(xs.length:Nat)) (e3:mm=(vs.length:Nat)) (h0:0≤i) (h1:i≤(xs.length:Nat))
 (qd:d=n+mm-i) (qm:m=i+d) (hr2:row2=N8 row lo i++List.replicate d.toNat z++List.replicate jz z) (q1:l1=i) (q2:n1=m-i) (hr3:row3=AP row2 l1.toNat (vs.take n1.toNat)) (q3:l2=i+mm) (q4:n2=m-(i+mm))
 (q5:l3=lo+i) (q6:n3=n-i) (hr4:row4=AP row3 l2.toNat ((N8 row l3 n3).take n2.toNat)):
 row4=[]++(xs.take i.toNat++vs++xs.drop i.toNat)++List.replicate jz z∧m=((xs.take i.toNat++vs++xs.drop i.toNat).length:Nat):=by
 have s1:N8 row lo i=xs.take i.toNat:=RU (A:=pre) (C:=xs.drop i.toNat++rest) (by rw[hr];grind[List.take_append_drop]) e1 (by simp;omega);have s2:N8 row l3 n3=xs.drop i.toNat:=RU (A:=pre++xs.take i.toNat) (C:=rest) (by rw[hr];simp_all) (by simp;omega) (by simp;omega);have hvt:vs.take n1.toNat=vs:=S2 (by omega);have hxt:(xs.drop i.toNat).take n2.toNat=xs.drop i.toNat:=S2 (by simp;omega)
 rw[s1]at hr2
 rw[hvt]at hr3
 rw[s2,hxt]at hr4
 have hz:List.replicate d.toNat z=List.replicate vs.length z++List.replicate (xs.drop i.toNat).length z:=by
  rw[QC];grind
 rw[hz]at hr2
 have hr3':row3=xs.take i.toNat++vs++(List.replicate (xs.drop i.toNat).length z++List.replicate jz z):=by
  rw[hr3];exact Ku (B:=List.replicate vs.length z) (by rw[hr2];grind) (by simp;omega) (by simp)
 refine⟨?_,by simp;omega⟩;rw[hr4,L9];rw[Ku (A:=xs.take i.toNat++vs) (B:=List.replicate (xs.drop i.toNat).length z) (C:=List.replicate jz z) (by rw[hr3'];simp_all) (by simp;omega) (by simp)]
def AX7 {pre xs rest row vs row1 row2:List V} {lo n i mm m l0 l1 n1 l2 n2 l3 n3:Int} (hr:row=pre++xs++rest) (e1:lo=(pre.length:Nat)) (e2:n=(xs.length:Nat)) (e3:mm=(vs.length:Nat)) (h0:0≤i) (h1:i≤(xs.length:Nat)) {RL:Int} (hRL:RL=(row.length:Nat)) (hfit:lo+n+mm≤RL)
 (qm:m=n+mm) (ql:l0=lo) (q1:l1=l0+(i+mm)) (q2:n1=m-(i+mm)) (q3:l2=l0+i) (q4:n2=m-i) (hr1:row1=AP row l1.toNat ((N8 row l2 n2).take n1.toNat)) (q5:l3=l0+i) (q6:n3=m-i) (hr2:row2=AP row1 l3.toNat (vs.take n3.toNat)):
 row2=pre++(xs.take i.toNat++vs++xs.drop i.toNat)++rest.drop vs.length∧m=((xs.take i.toNat++vs++xs.drop i.toNat).length:Nat):=by
 have hrl:vs.length≤rest.length:=by grind
 have hvt:vs.take n3.toNat=vs:=S2 (by omega)
 have s2:(N8 row l2 n2).take n1.toNat=xs.drop i.toNat:=by
  have:N8 row l2 n2=xs.drop i.toNat++rest.take vs.length:=RU (A:=pre++xs.take i.toNat) (C:=rest.drop vs.length) (by
   rw[hr];grind[List.take_append_drop]) (by simp;omega) (by simp;omega)
  rw[this];rw[Ke (by simp;omega),S2 (by simp;omega)]
 rw[s2]at hr1
 rw[hvt]at hr2
 have hr1':row1=(pre++xs.take i.toNat++(xs.drop i.toNat++rest.take vs.length).take vs.length)++xs.drop i.toNat++rest.drop vs.length:=by
  rw[hr1];refine Ku (B:=(xs.drop i.toNat++rest.take vs.length).drop vs.length) ?_ ?_ ?_
  ·rw[hr]
   grind[List.take_append_drop]
  ·simp;omega
  grind
 refine⟨?_,by simp;omega⟩;rw[hr2];rw[Ku (A:=pre++xs.take i.toNat) (B:=(xs.drop i.toNat++rest.take vs.length).take vs.length) (C:=xs.drop i.toNat++rest.drop vs.length) (by rw[hr1'];simp_all) (by simp;omega) (by simp;omega)]
 simp_all
end Go.Ab
namespace Go.Ab
def Lh {K X:Type}[DecidableEq K](m:List (K×X))(k:K)(z:X):Option (X×Bool):=some (match m.find? (fun p=>decide (p.1=k))with|some p=>(p.2,true)|none=>(z,false))
def Lg {K X:Type}[DecidableEq K](m:List (K×X))(k:K)(v:X):Option (List (K×X)):=some (if m.any (fun p=>decide (p.1=k))=true then m.map (fun p=>if p.1=k then(k,v)else p)else m++[(k,v)])
def YU {α:Type}(l:List α)(a:Int)(m:List α):Option (List α×Int):=
 if 0≤a∧a≤(l.length:Nat)then some (l.take a.toNat++m.take (l.length-a.toNat)++l.drop (a.toNat+m.length),if(l.length:Int)-a<(m.length:Nat)then(l.length:Int)-a else(m.length:Nat))else none
def Qd {α:Type}(x:α):List α→List (List α)
 |[]=>[[x]]
 |y::l=>(x::y::l)::(Qd x l).map (y:: ·)
def SB {α:Type}:List α→List (List α)
 |[]=>[[]]
 |x::l=>(SB l).flatMap (Qd x)
def SY {α:Type} (x:α):∀(a b:List α),a++x::b∈Qd x (a++b)
 |[],[]=>by simp[Qd]
 |[],y::b=>by simp[Qd]
 |y::a,b=>by
  simp only[Gs,Qd,Gi,Ee];exact .inr ⟨_,SY x a b,rfl⟩
def SA {α:Type}:∀{l m:List α},m.Perm l→m∈SB l
 |[],m,h=>by simp[SB,h.eq_nil]
 |x::l,m,h=>by
  have hx:x∈m:=h.mem_iff.2 (by simp);obtain⟨a,b,rfl⟩:=LI hx;have h2:(a++b).Perm l:=(List.perm_cons x).1 (List.perm_middle.symm.trans h);simp only[SB,List.mem_flatMap];exact⟨a++b,SA h2,SY x a b⟩
def AP3 {σ R:Type}(fin:σ→R):σ⊕R→R
 | .inl s=>fin s
 | .inr y=>y
def NN {α σ R ρ:Type}[DecidableEq ρ](step:σ→α→Option (σ⊕R))(fin:σ→R)(nrm:R→ρ)(l:List α)(s:σ):Option ρ:=
 match(G3 step l s).map fun q=>nrm (AP3 fin q)with
 |none=>none
 |some r=>if(SB l).all (fun m=>decide ((G3 step m s).map (fun q=>nrm (AP3 fin q))=some r))=true then some r else none
def XF {α σ R ρ:Type} [DecidableEq ρ] {step:σ→α→Option (σ⊕R)} {fin:σ→R} {nrm:R→ρ} {l:List α} {s:σ} {r:ρ} (h:NN step fin nrm l s=some r) {m:List α} (hp:m.Perm l):
 ∃q,G3 step m s=some q∧nrm (AP3 fin q)=r:=by
 unfold NN at h
 split at h
 ·cases h
 split at h
 ·rename_i r' _ hall;cases h;have:=List.all_eq_true.1 hall m (SA hp);have:=of_decide_eq_true this
  cases hq:G3 step m s with
  |none=>rw[hq]at this;cases this
  |some q=>rw[hq]at this;exact⟨q,rfl,by simpa using this⟩
 cases h
def AO6 {X:Type}(p:Int×X):List (Int×X)→List (Int×X)
 |[]=>[p]
 |q::l=>if p.1≤q.1 then p::q::l else q::AO6 p l
def Xb {X:Type}:List (Int×X)→List (Int×X)
 |[]=>[]
 |p::l=>AO6 p (Xb l)
def UQ {X:Type} (p:Int×X):∀l,(AO6 p l).Perm (p::l)
 |[]=>.refl _
 |q::l=>by
  unfold AO6
  split
  ·exact .refl _
  exact((UQ p l).cons q).trans (List.Perm.swap p q l)
def RY {X:Type}:∀l:List (Int×X),(Xb l).Perm l
 |[]=>.refl _
 |p::l=>(UQ p _).trans ((RY l).cons p)
end Go.Ab
namespace Go.Ab
open Go.RowKit Go.Sort
variable [N9]
def Rl.more {g:Gh}{H:A5}{w w':World}(h:Rl g H w)(hb:Below g.base w w')(hs:∀b,b<w.heap.size→w'.heap[b]? =w.heap[b]?)(hd:w.drawn≤w'.drawn:=by first|exact Nat.le_refl _|exact Nat.le_succ _|exact Nat.le_add_right _ _):W1 g w g w'∧Rl g H w':=by
 have s:W1 g w g w':=⟨fun _ _ e=>e,fun _ _ e=>e,fun _ _ e=>e,rfl,fun b o hf=>by simp only[World.cell?,hs b (h.fz_lt hf)],hb,fun _ _ _=>rfl,hd⟩;exact⟨s,fun x k hx=>(h.blk x k hx).mono hx s fun y hy=>⟨hs y (h.lt hy),fun _ ho=>ho⟩,h.inj,fun b o hf=>by obtain⟨v,hv⟩:=h.frz b o hf;exact⟨v,(s.cell b o hf).trans hv⟩,h.nxt,Z7 h.bnd hb.size,fun n=>(h.glb n).mono s⟩
def NH (q:OG)(zs:List Int):List V:=q.pre++zs.map (V.int .i64)++q.rest
def JM (q:OG)(zs:List Int):(NH q zs).length=q.pre.length+zs.length+q.rest.length:=by grind[NH]
def Xs {q:OG}{zs:List Int}{j:Nat}(hj:j<zs.length):(NH q zs).getD (q.pre.length+j) .bad= .int .i64 zs[j]:=by
 grind[NH]
def Xq {q:OG}{zs ds:List Int}(hl:ds.length=zs.length){i:Nat}(hi:i<q.pre.length∨q.pre.length+ds.length≤i):(NH q ds).getD i .bad=(NH q zs).getD i .bad:=by
 grind[NH]
def AL3 {off:Nat}{ds:List Int}{c:Array Value}{k:Nat}(hk:k<c.size):(putCells (Value.int .i64) off ds.toArray c).getD k undef=if off≤k∧k<off+ds.length then .int .i64 (ds.toArray[k-off]!)else c.getD k undef:=by
 unfold putCells
 simp_all
def AI3 (P:Program)(f:FuncId)(zs ds:List Int)(r:OG→V):Prop:=
 ∀H (q:OG),Bz q (zs.length:Nat)→H q.id=some (.arr 1 (NH q zs))→J5 P f [.own q.id q.lo q.n] H fun x H'=>x=r q∧H'=upd H q.id (some (.arr 1 (NH q ds)))
def Zb {P:Program} {f:FuncId} {zs ds:List Int} {r:OG→V} {m:Nat} (hl:ds.length=zs.length)
 (hrun:∀vals w,(callFunc f vals).run P w= .ok (.enter f vals) w)
 (h0:zs=[]→∀p cap w,Calls P f #[.slice p 0 cap] w fun e w'=>∃v,e= .returned v∧w'=w∧(v= .slice p 0 cap∧(∀q,Bz q (zs.length:Nat)→r q= .own q.id q.lo q.n)∨v= .tuple #[]∧∀q,r q= .tup []))
 (h1:∀blk off cap w,0<zs.length→zs.length≤cap→Holds (Value.int .i64) w blk off zs.toArray→blk<w.heap.size→
  Calls P f #[.slice (some ⟨blk,off,none⟩) zs.length cap] w fun e w'=>∃v,e= .returned v∧(v= .slice (some ⟨blk,off,none⟩) m cap∧m≤zs.length∧(∀q,r q= .own q.id q.lo (m:Nat))∨v= .tuple #[]∧∀q,r q= .tup [])∧
   ∃n os,w'=grow (putRow (Value.int .i64) (Sort.ahead w n) blk off ds.toArray) os):AI3 P f zs ds r:=by
 intro H q hq hk g w vals hR hA;obtain⟨hlen,hv⟩:=hA;obtain⟨vals⟩:=vals
 match vals,hlen with
 | [v],_=>
  have hv1:=hv 0 (by simp)
  simp at hv1
  rw[hrun]
  show CallsIn Fence.wide 0 P f #[v] w _
  rw[callsIn_wide];have hq0:=hq;obtain⟨hlo,hn⟩:=hq;obtain⟨b,p,e1,e2,e3,e4,e5,e6,e7,e8,e9,e10⟩:=EL hR hk hv1
  rw[JM]at e2 e5 e7 e8 e10
  subst e2
  have hnn:q.n.toNat=zs.length:=by omega
  by_cases hz:zs=[]
  ·subst hz;have hd:ds=[]:=List.length_eq_zero_iff.1 hl;subst hd;rw[hnn];refine(h0 rfl p _ w).mono ?_;rintro e w' ⟨v,rfl,rfl,hcase⟩;refine⟨v,rfl,g,r q,H,W1.refl _ _,hR,?_,rfl,?_⟩
   ·rcases hcase with⟨rfl,hr⟩|⟨rfl,hr⟩
    ·rw[hr q hq0];rw[hnn]at hv1;exact hv1
    rw[hr];exact VR.und g w'
   grind[upd]
  have hzl:0<zs.length:=List.length_pos_iff.2 hz
  rcases e10 with e10|⟨c,T,k1,k2,k3,k4,k5,k6⟩
  ·omega
  have hp:=e8 (by omega);subst hp
  have hoff:(g.ow q.id).o+q.lo.toNat*1=(g.ow q.id).o+q.pre.length:=by rw[hlo];simp
  rw[hnn,hoff]
  have hblt:b<w.heap.size:=by
   grind
  have hcell:∀o,w.cell? ⟨b,o,none⟩=c[o]? :=fun o=>by simp[World.cell?,k2]
  have hH:Holds (Value.int .i64) w b ((g.ow q.id).o+q.pre.length) zs.toArray:=fun j hj=>by
   have hj':j<zs.length:=by omega
   refine⟨?_,by simp[World.frozen?,k2]⟩;have h:=(k4 (q.pre.length+j) 0 (by omega) (by omega)).2
   rw[Xs hj']at h
   have h:=VR.int_inv h;rw[hcell]
   have hlt:(g.ow q.id).o+q.pre.length+j<c.size:=by omega
   rw[show(g.ow q.id).o+(q.pre.length+j)*1+0=(g.ow q.id).o+q.pre.length+j by omega]at h
   simp_all
  refine(h1 b _ _ w hzl (by omega) hH hblt).mono ?_;rintro e w' ⟨v,rfl,hcase,n,os,rfl⟩
  have hs:=Rl.setArr hR (ys:=NH q ds) (c':=putCells (Value.int .i64) ((g.ow q.id).o+q.pre.length) ds.toArray c) hk e1 (by rw[JM];omega) k2 (by simp[putCells])
   (fun o ho=>by
    simp only[putCells,Array.getElem?_mapIdx]
    grind)
   (by rw[JM,JM,hl])
   (fun i hi=>by
    rw[JM]at hi
    by_cases hm:i<q.pre.length∨q.pre.length+ds.length≤i
    ·rw[Xq hl hm];grind[NH]
    grind[V.cells,NH])
   (fun i j hi hj=>by
    rw[JM]at hi
    have hj0:j=0:=by omega
    subst hj0;rw[AL3 (by omega)]
    by_cases hm:i<q.pre.length∨q.pre.length+ds.length≤i
    ·rw[A1 (by omega),Xq hl hm]
     simp_all
    obtain⟨j,rfl⟩:∃j,i=q.pre.length+j:=⟨i-q.pre.length,by omega⟩
    have hj:j<ds.length:=by omega
    rw[A2 (by omega),Xs hj,show(g.ow q.id).o+(q.pre.length+j)*1+0-((g.ow q.id).o+q.pre.length)=j by omega]
    have:ds.toArray[j]! =ds[j]:=by simp[hj]
    rw[this]
    exact⟨rfl,VR.int _ _⟩)
  obtain⟨s1,R1⟩:=hs
  generalize hw1:w.setRow b (putCells (Value.int .i64) ((g.ow q.id).o+q.pre.length) ds.toArray c)=w1 at s1 R1
  have hsz1:w1.heap.size=w.heap.size:=by rw[←hw1];simp[World.setRow]
  have hheap:∀x,x<w1.heap.size→(grow (putRow (Value.int .i64) (Sort.ahead w n) b ((g.ow q.id).o+q.pre.length) ds.toArray) os).heap[x]? =w1.heap[x]? :=fun x hx=>by
   have hx':x<w.heap.size:=by omega
   simp only[grow,putRow,mapBlock,Sort.ahead];rw[Array.getElem?_append_left (by grind),IC]
   by_cases hxb:b=x
   ·subst hxb;rw[A2 rfl,k2,←hw1,setRow_heap w b c _ T (0,0) k2];rfl
   rw[A1 hxb,←hw1,R0 w b _ x (fun e=>hxb e.symm)]
  have hbel:Below g.base w1 (grow (putRow (Value.int .i64) (Sort.ahead w n) b ((g.ow q.id).o+q.pre.length) ds.toArray) os):=by
   refine⟨by rw[←hw1];rfl,by rw[←hw1];rfl,by rw[←hw1];rfl,?_,fun k hk'=>?_⟩
   ·rw[hsz1];simp_all
   grind
  obtain⟨s2,R2⟩:=R1.more hbel hheap (by rw[←hw1];exact LB _ _);refine⟨v,rfl,g,r q,_,s1.trans s2,R2,?_,rfl,rfl⟩
  rcases hcase with⟨rfl,hm,hr⟩|⟨rfl,hr⟩
  ·rw[hr]
   have hcap:(g.ow q.id).cap=q.pre.length+zs.length+q.rest.length:=by rw[e7]
   have:=VR.own (g:=g) (w:=grow (putRow (Value.int .i64) (Sort.ahead w n) b ((g.ow q.id).o+q.pre.length) ds.toArray) os) (id:=q.id) (b:=b) (lo:=q.lo) (n:=(m:Nat)) (p:=some ⟨b,(g.ow q.id).o+q.pre.length,none⟩) e1 e3 (by omega) (by omega) (fun _=>by rw[e6,hoff])
   rw[hcap]at this
   simp_all
  rw[hr];exact VR.und _ _
end Go.Ab
namespace Go.Ab
def AE1 (x:Int):List Int→List Int
 |[]=>[x]
 |y::r=>if x≤y then x::y::r else y::AE1 x r
def SW:List Int→List Int
 |[]=>[]
 |x::r=>AE1 x (SW r)
theorem Aj8 (a:Int):∀(l m:List Int),(∀b∈l,¬a≤b)→(∀b∈m,a≤b)→AE1 a (l++m)=l++a::m
 |[],[],_,_=>rfl
 |[],y::m,_,h=>by simp_all[AE1]
 |y::l,m,h,k=>by
  simp only[Gs,AE1];rw[A1 (h y (by simp)),Aj8 a l m (fun b hb=>h b (by simp[hb])) k]
theorem UP:∀l:List Int,SW l=l.mergeSort fun x y=>decide (x≤y)
 |[]=>by simp[SW]
 |a::l=>by
  have ht:∀x y z:Int,decide (x≤y)=true→decide (y≤z)=true→decide (x≤z)=true:=fun x y z h k=>by grind
  have hc:∀x y:Int,(decide (x≤y)||decide (y≤x))=true:=fun x y=>by simp;omega
  obtain⟨l1,l2,h1,h2,h3⟩:=List.mergeSort_cons ht hc a l;have hs:=Qy ht hc (a::l)
  rw[h1]at hs
  rw[SW,UP l,h1,h2]
  grind[Aj8,List.pairwise_cons]
def QH (l:List Int):Option (List Int):=if l.length<4611686018427387904 then some (SW l)else none
def NE {l r:List Int}(h:QH l=some r):l.length<4611686018427387904∧r=l.mergeSort fun x y=>decide (x≤y):=by
 grind[QH,UP]
end Go.Ab
namespace Go.Ab
open Go.RowKit
variable [N9]
def AI2 (P:Program)(f:FuncId)(zs ds:List Int):Prop:=AI3 P f zs ds (fun _=>.tup [])∧ds.length=zs.length
def Xt [Ar](q:OG)(zs:List Int):q.pre++lst (V.int .i64) zs++q.rest=NH q zs:=by rw[lst_eq];rfl
section
variable [Ar]{P:Program}{nt:Nat}{rd:Option Nat}{E:FL}(hE:E=I6 P nt rd)
include hE
theorem AM7 {Φ:A5→A5→Prop}{H0 H:A5}{L:List En}{fid:FuncId}{q:OG}{k:V→A5→Prop}{R:Type}{m:Option (List Int)}{F:List Int→Option R}{r:R}
 {l:List Int} (hO:B6 Φ H0 L H) (hq:Bz q (Ar.len l)) (i:Nat) (hi:L[i]? =some (.blk q.id (.arr 1 (q.pre++lst (V.int .i64) l++q.rest)))) (h:m.bind F=some r) (hc:∀x,m=some x→AI2 P fid l x)
 (hk:∀x H',Bz q (Ar.len x)→B6 Φ H0 (L.set i (.blk q.id (.arr 1 (q.pre++lst (V.int .i64) x++q.rest)))) H'→F x=some r→k (.tup []) H'):
 E.call (.func (.func fid) [] []) [.own q.id q.lo q.n] H k:=by
 subst hE;obtain⟨x,h1,h2⟩:=A7 h;obtain⟨c1,c2⟩:=hc x h1;refine J5.value (F:=[]) (C:=[]) ?_;simp only[L9,L4]
 rw[Xt]at hi
 refine(c1 H q (by rw[←len_eq];exact hq) (hO.get i hi)).mono fun v H' ⟨e1,e2⟩=>?_;subst e1;subst e2;refine hk x _ ?_ ?_ h2
 ·rw[len_eq]at hq ⊢;rw[c2];exact hq
 rw[Xt];exact hO.set i hi
end
end Go.Ab
open Go.Ab.Ar (len_eq lst lst_eq)
namespace Go.Ab
open Go.RowKit Go.Shelf Go.Sort
variable [N9]
def Ae1 {P:Program}{ρ:Ren}(Ly:Go.Proofs.Lays.n189 P ρ)(hrun:∀vals w,(callFunc (ρ.f 189) vals).run P w= .ok (.enter (ρ.f 189) vals) w){zs r:List Int}(h:QH zs=some r):AI2 P (ρ.f 189) zs r:=by
 obtain⟨hlt,rfl⟩:=NE h;have hl:(zs.mergeSort fun x y=>decide (x≤y)).length=zs.length:=List.length_mergeSort ..;refine⟨Zb (m:=0) hl hrun ?_ ?_,hl⟩
 ·intro _ p cap w;exact(Go.Proofs.Any.slices_Sort_int_none Ly p cap w).mono fun e w' ⟨a,b⟩=>⟨_,a,b,.inr ⟨rfl,fun _=>rfl⟩⟩
 intro blk off cap w _ _ hH hb;exact(Go.Proofs.Any.slices_Sort_int Ly blk off cap zs w hH hb hlt).mono fun e w' ⟨a,n,os,b⟩=>⟨_,a,.inr ⟨rfl,fun _=>rfl⟩,n,os,b⟩
def MG (l:List Int):Option (List Int):=if l.length≤9223372036854775807 then some (Lib.compact l)else none
def Ra (zs:List Int):(Lib.compact zs).length≤zs.length:=by
 unfold Lib.compact Lib.compactUpTo;rw[Q7]
 grind
def TB [Ar] {P:Program} {ρ:Ren} (Ly:Go.Proofs.Lays2.n20 P ρ) (hrun:∀vals w,(callFunc (ρ.f 20) vals).run P w= .ok (.enter (ρ.f 20) vals) w) {zs r:List Int} (h:MG zs=some r):
 Qp P (ρ.f 20) [] 1 (lst (V.int .i64) zs) (lst (V.int .i64) r):=by
 unfold MG at h
 split at h
 case isFalse=>cases h
 rename_i hlt;cases h;have hle:(Lib.compact zs).length≤zs.length:=Ra zs
 have key:AI3 P (ρ.f 20) zs (Lib.compact zs++List.replicate (zs.length-(Lib.compact zs).length) 0) (fun q=>.own q.id q.lo ((Lib.compact zs).length:Nat)):=by
  refine Zb (m:=(Lib.compact zs).length) (by simp;omega) hrun ?_ ?_
  ·rintro rfl p cap w;refine(Go.Proofs.Any.slices_Compact_int_empty Ly p cap w).mono fun e w' ⟨a,b⟩=>⟨_,a,b,.inl ⟨rfl,fun q hq=>?_⟩⟩;rw[hq.2]
   have:(Lib.compact ([]:List Int)).length=0:=by have:=Ra [];simp_all
   rw[this];rfl
  intro blk off cap w _ hc hH hb;refine(Go.Proofs.Any.slices_Compact_int Ly blk off cap zs w hH hlt hc).mono fun e w' ⟨a,n,b⟩=>⟨_,a,.inl ⟨rfl,hle,fun _=>rfl⟩,n, #[],by rw[b,grow_empty]⟩
 intro H q hq hk
 rw[lst_eq]at hk hq
 refine(key H q (by grind) (by simp_all[NH])).mono fun v H' ⟨e1,e2⟩=>?_;subst e1;subst e2;refine⟨⟨q.id,q.lo,((Lib.compact zs).length:Nat),q.pre,(List.replicate (zs.length-(Lib.compact zs).length) 0).map (V.int .i64)++q.rest⟩,rfl,⟨hq.1,by rw[lst_eq];simp⟩,by rw[E4],?_⟩
 funext x
 rw[lst_eq]
 grind[upd,NH]
end Go.Ab
namespace Go.Ab
open Go.RowKit
variable [N9][Ar]
def JI {L:List En}{i j:Nat}{e' e:En}(hj:(L.set i e')[j]? =some e):(j=i∧e=e')∨(j≠i∧L[j]? =some e):=by
 rw[W9]at hj
 grind
def Uy {L:List En}{i j:Nat}{e':En}(h:j≠i):(L.set i e')[j]? =L[j]? :=by
 rw[W9,A1 (fun e=>h e.symm)]
def Bt.setNone {H0 H:A5} {L:List En} (h:Bt H0 L H) (i:Nat) {e e':En} (hi:L[i]? =some e) (he:e.id=none) (he':e'.id=none):Bt H0 (L.set i e') H:=by
 refine⟨h.ext,fun j x id b hj hx=>?_,fun j k x x' id b b' hj hk hx hx'=>?_,fun x b hx=>?_⟩
 ·rcases JI hj with⟨_,rfl⟩|⟨_,hj⟩
  ·rw[he']at hx;cases hx
  exact h.has j x id b hj hx
 ·rcases JI hj with⟨_,rfl⟩|⟨_,hj⟩
  ·rw[he']at hx;cases hx
  rcases JI hk with⟨_,rfl⟩|⟨_,hk⟩
  ·rw[he']at hx';cases hx'
  exact h.inj j k x x' id b b' hj hk hx hx'
 refine(h.only x b hx).imp (fun h=>h) fun⟨j,y,h1,h2⟩=>⟨j,y,?_,h2⟩;rw[Uy fun e=>by simp_all];exact h1
def Bt.drop {H0 H:A5} {L:List En} (h:Bt H0 L H) (i:Nat) {e e':En} {id:Nat} {b0:Ds} (hi:L[i]? =some e) (he:e.id=some (id,b0)) (he':e'.id=none):Bt H0 (L.set i e') (upd H id none):=by
 have hid:=h.has i e id b0 hi he;refine⟨fun x b hx=>?_,fun j x y b hj hx=>?_,fun j k x x' y b b' hj hk hx hx'=>?_,fun x b hx=>?_⟩
 ·rw[D2 _ _ (AH hid.1 hx)];exact h.ext x b hx
 ·rcases JI hj with⟨_,rfl⟩|⟨hne,hj⟩
  ·rw[he']at hx;cases hx
  have:=h.has j x y b hj hx;refine⟨this.1,?_⟩;rw[D2 _ _ (fun eq=>by subst eq;exact hne (h.inj j i x e y b b0 hj hi hx he))];exact this.2
 ·rcases JI hj with⟨_,rfl⟩|⟨_,hj⟩
  ·rw[he']at hx;cases hx
  rcases JI hk with⟨_,rfl⟩|⟨_,hk⟩
  ·rw[he']at hx';cases hx'
  exact h.inj j k x x' y b b' hj hk hx hx'
 by_cases hxi:x=id
 ·simp_all[upd]
 rw[D2 _ _ hxi]at hx
 refine(h.only x b hx).imp (fun h=>h) fun⟨j,y,h1,h2⟩=>⟨j,y,?_,h2⟩;rw[Uy fun ej=>by simp_all];exact h1
def B6.untok {Φ:A5→A5→Prop} {F H:A5} {L:List En} (h:B6 Φ F L H) (i:Nat) {tl tl':E7} (hi:L[i]? =some (.tl tl)) (ht:(En.tl tl').id=none):B6 Φ F (L.set i (.tl tl')) (G0 H tl):=by
 obtain⟨hs,F',H1,h0,h1,h2⟩:=h
 cases tl with
 |tok t=>
  have e:=(h0.has i _ t _ hi rfl).2;exact⟨hs,_,_,h0.drop i hi rfl ht,hs.chg t none h1 (by rw[e,hs.le h1 _ _ e]),h2.upd t none⟩
 |nil=>exact⟨hs,_,_,h0.setNone i hi rfl ht,h1,h2⟩
 |full=>exact⟨hs,_,_,h0.setNone i hi rfl ht,h1,h2⟩
 |ro=>exact⟨hs,_,_,h0.setNone i hi rfl ht,h1,h2⟩
def AR3 (F:A5)(xs:List V)(v:V)(H':A5):Prop:=∃tl,v= .sl xs tl∧K6 tl∧(((En.tl tl).id=none∧H'=F)∨∃t,tl= .tok t∧F t=none∧H'=upd F t (some .spare))
def AU5 (P:Program)(f:FuncId)(args:List V)(xs xs':List V):Prop:=∀H tl,K6 tl→Fb H tl→J5 P f (.sl xs tl::args) H (AR3 (G0 H tl) xs')
def B6.startT {H:A5} {tl:E7} (ha:Fb H tl):B6 Eq (G0 H tl) [.tl tl] H:=by
 cases tl with
 |tok t=>
  refine⟨E0,_,_,(Bt.start (upd H t none)).push (en:=.tl (.tok t)) (E4 _ _ _) rfl,rfl,fun x b hx=>?_⟩
  grind[Fb,upd]
 |nil=>exact⟨E0,_,_,(Bt.start H).tl0 rfl,rfl,Fc.refl _⟩
 |full=>exact⟨E0,_,_,(Bt.start H).tl0 rfl,rfl,Fc.refl _⟩
 |ro=>exact ha.elim
def B6.outT {F H:A5} {L:List En} (h:B6 Eq F L H) (i:Nat) {tl:E7} (hi:L[i]? =some (.tl tl)) (ha:K6 tl) (xs:List V):∃H2,Fc H2 H∧AR3 F xs (.sl xs tl) H2:=by
 obtain⟨hs,F',H1,h0,h1,h2⟩:=h;subst h1
 cases tl with
 |tok t=>
  have h3:=h0.has i _ t _ hi rfl;refine⟨upd F t (some .spare),fun x b hx=>?_,_,rfl,ha,.inr ⟨t,rfl,h3.1,rfl⟩⟩
  by_cases e:x=t
  ·grind[Fc,upd]
  rw[D2 _ _ e]at hx;exact h2 _ _ (h0.ext x b hx)
 |nil=>exact⟨F,h0.ext.trans h2,_,rfl,ha,.inl ⟨rfl,rfl⟩⟩
 |full=>exact⟨F,h0.ext.trans h2,_,rfl,ha,.inl ⟨rfl,rfl⟩⟩
 |ro=>exact ha.elim
section
variable {P:Program}{T:GY}{f:FuncId}{fn:Func}{c:Code}{n:Nat}{rs:List ResultVar}{args:List V}
def At4 {F H:A5}{xs:List V}(cf:Cf)(hP:RG P T)(hf:P.funcs[f]? =some fn)(hb:fn.body=some c)(hd:K2 cf c=true)
 (hcall:∀vals w,(callFunc f vals).run P w= .ok (.enter f vals) w) (hnt:fn.ntmps=n) (hrs:fn.results.toList=rs) (hn:Nat.ble args.length n=true)
 (h:∀(E:FL) (K:V→A5→Prop),E=I6 P n none→(∀ys (tl:E7) L (i:Nat) H',M1 ys xs→L[i]? =some (.tl tl)→K6 tl→B6 Eq F L H'→K (.sl ys tl) H')→run E T n cf c ⟨Cj args 0,[]⟩ H (Oa E T rs K)):
 J5 P f args H (AR3 F xs):=by
 refine J5.le (T8 (K:=fun x H'=>∃y H2,Cp x y∧Fc H2 H'∧AR3 F xs y H2) cf hP.1 hP.2 hf hb hd hcall hnt hrs hn fun E hE=>?_);refine h E _ hE fun ys tl L i H' hl hi ha hO=>?_;obtain⟨H2,h1,h2⟩:=hO.outT i hi ha xs;exact⟨_,H2,.slt _ hl,h1,h2⟩
end
section
variable {P:Program}{nt:Nat}{rd:Option Nat}{T:GY}{E:FL}
variable (hE:E=I6 P nt rd)
include hE
variable {α R:Type}{f:α→V}{Φ:A5→A5→Prop}{H0 H:A5}{L:List En}{r:R}{m:Option (List α)}{F:List α→Option R}{fid:FuncId}{args args':List V}{k:V→A5→Prop}
theorem VZ {l:List α} {xs:List V} {tl:E7} (hO:B6 Φ H0 L H) (i:Nat) (hi:L[i]? =some (.tl tl)) (ha:K6 tl) (h:m.bind F=some r) (hc:∀x,m=some x→AU5 P fid args' (lst f l) (lst f x)) (hx:M1 xs (lst f l)) (hl:M1 args args')
 (hk:∀x tl' H',B6 Φ H0 (L.set i (.tl tl')) H'→K6 tl'→F x=some r→k (.sl (lst f x) tl') H'):
 E.call (.func (.func fid) [] []) (.sl xs tl::args) H k:=by
 subst hE;obtain⟨x,h1,h2⟩:=A7 h;refine J5.value (F:=[]) (C:=[]) ?_;have:=((hc x h1) H tl ha (hO.appOk i hi ha)).args (.cons (.slt _ hx) hl);simp only[L9,L4]
 exact this.mono fun v H' ⟨tl',e1,ha',e2⟩=>by
  subst e1
  rcases e2 with⟨e2,rfl⟩|⟨t,rfl,e2,rfl⟩
  ·exact hk x tl' _ (hO.untok i hi e2) ha' h2
  exact hk x _ _ (hO.tok i hi e2) trivial h2
theorem AM9 {sz by_:Nat} (hsz:∀x,(f x).cells.length=sz) (hby:by_≤131072) {tl:E7} (ht:tl= .nil∨tl= .full) {xs ys:List V} {l m:List α} (hx:M1 xs (lst f l)) (hy:M1 ys (lst f m)) (h:(G6 l m).bind F=some r)
 (hk:∀x,F x=some r→k (.sl (lst f x) .ro) H):E.appw sz by_ H tl xs ys k:=by
 subst hE;obtain⟨x,h1,h2⟩:=A7 h
 unfold G6 at h1
 split at h1
 ·rename_i hc;cases h1;refine⟨_,_,hx,hy,by rcases ht with rfl|rfl<;>trivial,Js hsz l,Js hsz m,?_,?_⟩
  ·rw[O2,O2];exact Z7 (Z8 hc hby) (by decide)
  rw[KE];have:=hk _ h2
  rcases ht with rfl|rfl<;>exact this
 cases h1
end
def Gh.lend (g:Gh)(w:World):Gh:={g with fz:=fun b o=>∃v,w.cell? ⟨b,o,none⟩=some v,base:=w.heap.size}
def VR.lend {g:Gh}{w:World}{B:Nat}{F:Nat→Nat→Prop}(hB:g.base≤B)(hF:∀b o,g.fz b o→F b o){v:Value}{x:V}(h:VR g w v x):VR {g with fz:=F,base:=B} w v x:=by
 induction h with
 |bad v=>exact .bad v
 |bool b=>exact .bool b
 |int k n=>exact .int k n
 |str s=>exact .str s
 |nilp=>exact .nilp
 |nilf=>exact .nilf
 |nili=>exact .nili
 |nilmap=>exact .nilmap
 |map h=>exact .map h
 |fmap hb hw hk hn hl hv ih=>exact VR.fmap (g:={g with fz:=F,base:=B}) (Nat.lt_of_lt_of_le hb hB) hw hk hn hl ih
 |ref h=>exact .ref h
 |own h h0 h1 h2 hp=>exact VR.own (g:={g with fz:=F,base:=B}) h h0 h1 h2 hp
 |elem h hs=>exact VR.elem (g:={g with fz:=F,base:=B}) h hs
 |eref vs hf hw h1 hv ih=>exact .eref vs (fun j hj=>hF _ _ (hf j hj)) hw h1 ih
 |sl0 ht=>exact .sl0 ht
 |sle ht=>exact .sle ht
 |sl vs hn hc hz hf hw h1 hv ht ih=>exact .sl vs hn hc hz (fun i j hi hj=>hF _ _ (hf i j hi hj)) hw h1 ih (ht.mono fun _ _ e=>e)
 |func hl hv hl' hv' ih ih'=>exact .func hl ih hl' ih'
 |yield h=>exact .yield h
 |iface h ih=>exact .iface ih
 |agg hl h1 hv ih=>exact .agg hl h1 ih
 |tup hl hv ih=>exact .tup hl ih
def Rl.lend {g:Gh}{H:A5}{w:World}(h:Rl g H w):Rl (g.lend w) (fun _=>none) w:=by
 refine⟨fun id b hb=>(by cases hb),fun id id' b h1 _=>(by simp[Gh.at]at h1),fun b o hf=>hf,fun id hi=>⟨(h.nxt id hi).1,(h.nxt id hi).2.1,rfl⟩,D5 _,fun n=>(h.glb n).lend h.bnd fun b o hf=>h.frz b o hf⟩
def Rl.lendOwn {g:Gh} {H:A5} {w:World} (h:Rl g H w) {id sz:Nat} {xs:List V} (hk:H id=some (.arr sz xs)) {v:Value} {lo n:Int} (hv:VR g w v (.own id lo n)):VR (g.lend w) w v (.sl (N8 xs lo n) .ro):=by
 obtain⟨g',⟨e1,e2,e3⟩,s,hR,hw⟩:=h.freezeArr' hk;have:=(hw v lo n (hv.mono s)).lend (F:=fun b o=>∃v,w.cell? ⟨b,o,none⟩=some v) (B:=w.heap.size) hR.bnd fun b o hf=>hR.frz b o hf
 have e:({g' with fz:=fun b o=>∃v,w.cell? ⟨b,o,none⟩=some v,base:=w.heap.size}:Gh)={(g.lend w)with nx:=g'.nx}:=by
  simp_all[Gh.lend]
 rw[e]at this
 exact VR.nxt this
where
 VR.nxt {g:Gh} {w:World} {n:Nat} {v:Value} {x:V} (h:VR {g with nx:=n} w v x):VR g w v x:=by
  generalize hg:({g with nx:=n}:Gh)=g1 at h
  have hmu:g1.mu=g.mu:=by rw[←hg]
  have htk:g1.tk=g.tk:=by rw[←hg]
  have hfz:g1.fz=g.fz:=by rw[←hg]
  have how:g1.ow=g.ow:=by rw[←hg]
  have hba:g1.base=g.base:=by rw[←hg]
  clear hg
  induction h with
  |bad v=>exact .bad v
  |bool b=>exact .bool b
  |int k n=>exact .int k n
  |str s=>exact .str s
  |nilp=>exact .nilp
  |nilf=>exact .nilf
  |nili=>exact .nili
  |nilmap=>exact .nilmap
  |map h=>exact .map (hmu▸h)
  |fmap hb hw hk hn hl hv ih=>exact .fmap (hba▸hb) hw hk hn hl ih
  |ref h=>exact .ref (hmu▸h)
  |own h h0 h1 h2 hp=>rw[how]at h2 hp ⊢;exact VR.own (hmu▸h) h0 h1 h2 hp
  |elem h hs=>rw[how]at hs ⊢;exact VR.elem (hmu▸h) hs
  |eref vs hf hw h1 hv ih=>exact .eref vs (fun j hj=>hfz▸hf j hj) hw h1 ih
  |sl0 ht=>exact .sl0 ht
  |sle ht=>exact .sle ht
  |sl vs hn hc hz hf hw h1 hv ht ih=>exact .sl vs hn hc hz (fun i j hi hj=>hfz▸hf i j hi hj) hw h1 ih (ht.mono fun _ _ e=>htk▸e)
  |func hl hv hl' hv' ih ih'=>exact .func hl ih hl' ih'
  |yield h=>exact .yield (hmu▸h)
  |iface h ih=>exact .iface ih
  |agg hl h1 hv ih=>exact .agg hl h1 ih
  |tup hl hv ih=>exact .tup hl ih
def AA2:V→Bool
 | .bool _=>true
 | .int _ _=>true
 | .str _=>true
 |_=>false
inductive Ol :V→Prop
 |bool (b:Bool):Ol (.bool b)
 |int (k:IntKind) (n:Int):Ol (.int k n)
 |str (s:ByteArray):Ol (.str s)
 |agg {cs:List V} (h:cs.all AA2=true):Ol (.agg cs)
 |tup2 {x y:V} (h:Ol x) (k:Ol y):Ol (.tup [x,y])
 |tup3 {x y z:V} (h:Ol x) (k:Ol y) (m:Ol z):Ol (.tup [x,y,z])
def Ol.any {x:V} (h:Ol x):∀{g g':Gh} {w w':World} {v:Value},VR g w v x→VR g' w' v x:=by
 induction h with
 |bool b=>intro g g' w w' v h;cases h;exact .bool b
 |int k n=>intro g g' w w' v h;cases h;exact .int k n
 |str s=>intro g g' w w' v h;cases h;exact .str s
 | @agg cs hp=>
  intro g g' w w' v h
  cases h with
  |agg hl h1 hv=>
   refine .agg hl h1 fun i hi=>?_;have hvi:=hv i hi;have hm:=List.all_eq_true.1 hp _ (G7 hi)
   rw[show cs.getD i .bad=cs[i] by rw[Cd,E3 hi];rfl]at hvi ⊢
   generalize cs[i]=c at hvi hm ⊢
   generalize Array.getD _ i undef=u at hvi ⊢
   cases c<;>simp only[AA2,D6]at hm<;>cases hvi<;>constructor
 | tup2 _ _ ih1 ih2=>
  intro g g' w w' v h
  cases h with
  |tup hl hv=>
   refine .tup hl fun i hi=>?_
   match i with
   |0=>grind
   |1=>grind
   |i+2=>grind
 | tup3 _ _ _ ih1 ih2 ih3=>
  intro g g' w w' v h
  cases h with
  |tup hl hv=>
   refine .tup hl fun i hi=>?_
   match i with
   |0=>grind
   |1=>grind
   |2=>grind
   |i+3=>grind
inductive KT (H:A5):List V→List V→Prop
 |nil:KT H [] []
 |le {x y:V} {xs ys:List V} (h:Cp x y) (k:KT H xs ys):KT H (x::xs) (y::ys)
 |fm {id:Nat} {ks:List Int} {zs xs ys:List V} (h:H id=some (.fm ks zs)) (k:KT H xs ys):KT H (.map id::xs) (.fmap ks zs::ys)
 |agg {us ws xs ys:List V} (h:KT H us ws) (k:KT H xs ys):KT H (.agg us::xs) (.agg ws::ys)
 |own {id sz:Nat} {zs:List V} {lo n:Int} {xs ys:List V} (h:H id=some (.arr sz zs)) (k:KT H xs ys):KT H (.own id lo n::xs) (.sl (N8 zs lo n) .ro::ys)
def KT.length {H:A5}{xs ys:List V}(h:KT H xs ys):xs.length=ys.length:=by
 induction h with
 |nil=>rfl
 |le _ _ ih=>simp[ih]
 |fm _ _ ih=>simp[ih]
 |agg _ _ _ ih=>simp[ih]
 |own _ _ ih=>simp[ih]
theorem KT.at {g:Gh} {H:A5} {w:World} (hR:Rl g H w) {xs ys:List V} (h:KT H xs ys):∀(vals:Nat→Value),(∀i,i<xs.length→VR g w (vals i) (xs.getD i .bad))→∀i,i<ys.length→VR (g.lend w) w (vals i) (ys.getD i .bad):=by
 induction h with
 |nil=>simp_all
 |le h k ih=>
  intro vals hv i hi
  cases i with
  |zero=>exact((hv 0 (by simp)).le h).lend hR.bnd fun b o hf=>hR.frz b o hf
  |succ i=>exact ih (fun i=>vals (i+1)) (fun i hi=>by grind) i (by grind)
 | fm h k ih=>
  intro vals hv i hi
  cases i with
  | zero=>
   have h0:=hv 0 (by simp)
   simp only[LJ]at h0 ⊢
   generalize vals 0=u at h0
   cases h0 with
   |map hm=>
    obtain⟨b,es,clock,k1,k2,k3,k4,k5,k6,k7⟩:=hR.blk _ _ h
    rw[hm]at k1;cases k1
    exact VR.fmap (g:=Gh.lend _ _) (Wd k3) k3 k4 k5 k6 fun i e hi=>(k7 i e hi).lend hR.bnd fun b o hf=>hR.frz b o hf
  |succ i=>exact ih (fun i=>vals (i+1)) (fun i hi=>by grind) i (by grind)
 | agg h k ih1 ih=>
  intro vals hv i hi
  cases i with
  | zero=>
   have h0:=hv 0 (by simp)
   simp only[LJ]at h0 ⊢
   generalize vals 0=u at h0
   cases h0 with
   |agg hl h1 hv1=>
    have e:=h.length;exact .agg (hl.trans e) (fun i hi=>h1 i (by omega)) fun i hi=>ih1 (fun i=>Array.getD _ i undef) hv1 i hi
  |succ i=>exact ih (fun i=>vals (i+1)) (fun i hi=>by grind) i (by grind)
 |own h k ih=>
  intro vals hv i hi
  cases i with
  |zero=>exact hR.lendOwn h (hv 0 (by simp))
  |succ i=>exact ih (fun i=>vals (i+1)) (fun i hi=>by grind) i (by grind)
def C3.lent {P:Program}{f:FuncId}{ys:List V}{r:V}(c:C3 P f ys r)(hr:Ol r){H:A5}{xs:List V}(hl:KT H xs ys):J5 P f xs H fun x H'=>x=r∧H'=H:=by
 intro g w vals hR hA;have hA2:Args (g.lend w) w vals ys:=⟨hA.1.trans hl.length,hl.at hR (fun i=>vals.getD i undef) hA.2⟩;refine(c _ _ w vals hR.lend hA2).mono fun v w' ⟨g',x,H',s,hR',hv,e1,e2⟩=>?_;subst e1;have hb:Below w.heap.size w w':=s.low;have sg:W1 g w g w':=⟨fun _ _ e=>e,fun _ _ e=>e,fun _ _ e=>e,rfl,fun b o hf=>hb.cell (hR.fz_lt hf),hb.mono hR.bnd,fun _ _ _=>rfl,s.dr⟩;refine⟨g,x,H,sg,⟨fun id b hk=>(hR.blk id b hk).mono hk sg fun y hy=>⟨hb.block _ (hR.lt hy),fun _ ho=>ho⟩,hR.inj,fun b o hf=>?_,hR.nxt,Z7 hR.bnd hb.size,fun n=>(hR.glb n).mono sg⟩,hr.any hv,rfl,rfl⟩;obtain⟨u,hu⟩:=hR.frz b o hf;exact⟨u,(hb.cell (hR.fz_lt hf)).trans hu⟩
section
variable {P:Program}{nt:Nat}{rd:Option Nat}{T:GY}{E:FL}
variable (hE:E=I6 P nt rd)
include hE
theorem AM8 {R S:Type}{m:Option S}{F:S→Option R}{r:R}{f:FuncId}{args args':List V}{g:S→V}{H:A5}{k:V→A5→Prop}(h:m.bind F=some r)(hc:∀x,m=some x→C3 P f args' (g x))(hs:∀x,Ol (g x))(hl:KT H args args')
 (hk:∀x,F x=some r→k (g x) H):E.call (.func (.func f) [] []) args H k:=by
 subst hE;obtain⟨x,h1,h2⟩:=A7 h;refine J5.value (F:=[]) (C:=[]) ?_;simp only[L9,L4]
 exact((hc x h1).lent (hs x) hl).mono fun v H' ⟨e1,e2⟩=>by simp_all
theorem AD4 {α:Type}{f:α→V}{Φ:A5→A5→Prop}{H0 H:A5}{L:List En}{sz:Nat}{q:OG}{l:List α}(hO:B6 Φ H0 L H)(hq:Bz q (Ar.len l))(i:Nat)(hi:L[i]? =some (.blk q.id (.arr sz (q.pre++lst f l++q.rest)))){xs ys:List V}(k:KT H xs ys):
 KT H (.own q.id q.lo q.n::xs) (.sl (lst f l) .ro::ys):=by
 have:=KT.own (lo:=q.lo) (n:=q.n) (hO.get i hi) k
 rwa[MP hq.1 (by rw[hq.2,len_eq,O2])]at this
end
end Go.Ab
namespace Go.Ab
open Go.RowKit Go.MapKept
variable [N9][Ar]
def Jz {K X:Type}(d:TypeDesc)(kf:K→V)(vf:X→V)(o:Obj)(m:List (K×X)):Prop:=∃m':List (K×X),BP d o (m'.map fun p=>(kf p.1,vf p.2))∧m'.Perm m
def Jz.perm {K X:Type}{d:TypeDesc}{kf:K→V}{vf:X→V}{o:Obj}{m l:List (K×X)}(h:Jz d kf vf o m)(hp:m.Perm l):Jz d kf vf o l:=
 let⟨m',h1,h2⟩:=h;⟨m',h1,h2.trans hp⟩
theorem AN8 {K X:Type}{m:List (K×X)}(hn:(m.map (·.1)).Nodup){p q:K×X}(hp:p∈m)(hq:q∈m)(e:p.1=q.1):p=q:=by
 obtain⟨i,hi,rfl⟩:=AC hp;obtain⟨j,hj,rfl⟩:=AC hq;have:i=j:=MV hn (by grind) (by grind) (by grind)
 grind
def UX {K X:Type}[DecidableEq K]{m m':List (K×X)}(hp:m'.Perm m)(hn:(m'.map (·.1)).Nodup)(k:K)(z:X):Lh m' k z=Lh m k z:=by
 grind[Lh,AN8]
def Ao2 {K X:Type} [DecidableEq K] {m m' r:List (K×X)} (hp:m'.Perm m) {k:K} {v:X} (h:Lg m k v=some r):∃r',Lg m' k v=some r'∧r'.Perm r:=by
 unfold Lg at h
 cases h;refine⟨_,rfl,?_⟩
 have e:m'.any (fun p=>decide (p.1=k))=m.any (fun p=>decide (p.1=k)):=by
  rw[Bk,Lw,Lw]
  grind
 rw[e]
 split
 ·grind
 exact hp.append_right _
def ST {K X:Type}{d:TypeDesc}{kf:K→V}{vf:X→V}{o:Obj}{m:List (K×X)}(h:BP d o (m.map fun p=>(kf p.1,vf p.2))):(m.map (·.1)).Nodup:=by
 have:=h.nodup
 rw[Gf]at this
 have e:(m.map ((·.1)∘fun p=>(kf p.1,vf p.2)))=(m.map (·.1)).map kf:=by rw[Gf];rfl
 rw[e]at this
 grind
def AJ6 (P:Program)(kt:TypeId)(d:TypeDesc):Bool:=match d with| .struct _=> !P.stoodInHeld kt|_=>true
structure Af1 {K:Type} (P:Program) (d:TypeDesc) (kf:K→V):Prop where
 raw:∀x,∃v,Ch (kf x)=some v∧FJ d v
 inj:∀x y,kf x=kf y→x=y
 kg:∀kt,P.underlying kt=some d→AJ6 P kt d=true→KG P kt (FJ d)
def CY {P:Program}(k:IntKind):Af1 P (.int k) (V.int k):=⟨fun _=>⟨_,rfl,rfl⟩,fun x y h=>by cases h;rfl,fun _ h _=>KG.scalar h⟩
def OU {P:Program}:Af1 P .string V.str:=⟨fun _=>⟨_,rfl,trivial⟩,fun x y h=>by cases h;rfl,fun _ h _=>KG.scalar h⟩
def Ba2 {X:Type}(vf:X→V):Prop:=∀x,∃v,Ch (vf x)=some v
def Yb (k:IntKind):Ba2 (V.int k):=fun _=>⟨_,rfl⟩
def Hp:Ba2 V.bool:=fun _=>⟨_,rfl⟩
def B6.startO {H0:A5}{id:Nat}{b:Ds}(hk:H0 id=some b):B6 Eq (upd H0 id none) [.blk id b] H0:=by
 have h:B6 Eq (upd H0 id none) [.blk id b] (upd (upd H0 id none) id (some b)):=(B6.start E0 rfl).push (E4 _ _ _) rfl
 rwa[Al,Aw7 H0 id (some b) hk]at h
def AM4 {α:Type}{f:α→V}{q:OG}{l:List α}(h:Bz q ((lst f l).length:Nat)):Bz q (Ar.len l):=⟨h.1,by rw[h.2,len_eq,O2]⟩
section
variable {P:Program}{nt:Nat}{rd:Option Nat}{T:GY}{E:FL}
variable (hE:E=I6 P nt rd)
include hE
variable {α R:Type}{f:α→V}{Φ:A5→A5→Prop}{H0 H:A5}{L:List En}{sz:Nat}{q:OG}{l:List α}{r:R}
theorem KA (hO:B6 Φ H0 L H){k:V→A5→Prop}(hk:∀(q:OG) H',Bz q (Ar.len ([]:List α))→B6 Φ H0 (.blk q.id (.arr sz (q.pre++lst f []++q.rest))::L) H'→k (.own q.id q.lo q.n) H'):E.onil sz H k:=by
 subst hE;intro t ht
 have e:([]:List V)++lst f []++[]=[]:=by rw[←B5 (f:=f)];rfl
 refine hk ⟨t,0,0,[],[]⟩ _ ⟨rfl,by rw[len_eq];rfl⟩ ?_
 show B6 Φ H0 (.blk t (.arr sz (([]:List V)++lst f []++[]))::L) _
 rw[e];exact hO.push ht rfl
section
variable {K X:Type}{kf:K→V}{vf:X→V}{t kt et:Nat}{d:TypeDesc}{m:List (K×X)}{o:Obj}{id:Nat}
theorem SM (d:TypeDesc)(kf:K→V)(vf:X→V)(hO:B6 Φ H0 L H){k:V→A5→Prop}(hk:∀id o H',Jz d kf vf o []→B6 Φ H0 (.blk id (.obj o)::L) H'→k (.map id) H'):E.mmk H k:=by
 subst hE;exact .inl fun id hid=>hk id _ _ ⟨[],BP.empty d,.refl _⟩ (hO.push hid rfl)
theorem AU1 [DecidableEq K] (hK:Af1 P d kf) {z:V} {z0:X} (hz:ID P et=some z) (hvz:z=vf z0) {key:K} {x:X×Bool} (hx:Lh m key z0=some x) (ok:Bool):
 AU6 P et (m.map fun p=>(kf p.1,vf p.2)) (kf key) ok (if ok=true then .tup [vf x.1,.bool x.2]else vf x.1):=by
 unfold Lh at hx
 cases hx
 cases hf:m.find? (fun p=>decide (p.1=key))with
 |none=>
  refine .inl ⟨fun p hp=>?_,z,hz,by grind⟩;obtain⟨q,hq,rfl⟩:=List.mem_map.1 hp;have:=List.find?_eq_none.1 hf q hq;exact fun e=>this (by simpa using hK.inj _ _ e)
 |some p=>
  have h1:=List.find?_some hf;have h2:=QA hf;refine .inr ⟨vf p.2,List.mem_map.2 ⟨p,h2,?_⟩,rfl⟩;rw[show p.1=key by grind]
theorem VY [DecidableEq K](hm:P.underlying t=some (.map kt et))(hd:P.underlying kt=some d)(hK:Af1 P d kf){z:V}(z0:X)(hz:ID P et=some z)(hvz:z=vf z0)(hO:B6 Φ H0 L H)(hq:Jz d kf vf o m)(i:Nat)(hi:L[i]? =some (.blk id (.obj o)))
 {key:K} {k:V→Prop} {F:X×Bool→Option R} (h:(Lh m key z0).bind F=some r) (hk:∀x,F x=some r→k (vf x.1)) (hst:AJ6 P kt d=true:=by kernel_rfl):E.mget t H (.map id) (kf key) false k:=by
 obtain⟨x,h1,h2⟩:=A7 h;obtain⟨m',hq,hp⟩:=hq
 rw[←UX hp (ST hq)]at h1
 have ha:=AU1 (P:=P) (vf:=vf) hE hK hz hvz h1 false;subst hE;obtain⟨v,hv1,hv2⟩:=hK.raw key;exact⟨_,.inl ⟨kt,et,d,v,id,o,_,hm,hK.kg _ hd hst,hv1,hv2,rfl,hO.get i hi,hq,ha⟩,hk x h2⟩
theorem VX [DecidableEq K](hm:P.underlying t=some (.map kt et))(hd:P.underlying kt=some d)(hK:Af1 P d kf){z:V}(z0:X)(hz:ID P et=some z)(hvz:z=vf z0)(hO:B6 Φ H0 L H)(hq:Jz d kf vf o m)(i:Nat)(hi:L[i]? =some (.blk id (.obj o)))
 {key:K} {k:V→Prop} {F:X×Bool→Option R} (h:(Lh m key z0).bind F=some r) (hk:∀x,F x=some r→k (.tup [vf x.1,.bool x.2])) (hst:AJ6 P kt d=true:=by kernel_rfl):E.mget t H (.map id) (kf key) true k:=by
 obtain⟨x,h1,h2⟩:=A7 h;obtain⟨m',hq,hp⟩:=hq
 rw[←UX hp (ST hq)]at h1
 have ha:=AU1 (P:=P) (vf:=vf) hE hK hz hvz h1 true;subst hE;obtain⟨v,hv1,hv2⟩:=hK.raw key;exact⟨_,.inl ⟨kt,et,d,v,id,o,_,hm,hK.kg _ hd hst,hv1,hv2,rfl,hO.get i hi,hq,ha⟩,hk x h2⟩
theorem AK2 [DecidableEq K] (hK:Af1 P d kf) (hn:((m.map fun p=>(kf p.1,vf p.2)).map (·.1)).Nodup) {key:K} {v:X} {m':List (K×X)} (hx:Lg m key v=some m'):Ba0 (m.map fun p=>(kf p.1,vf p.2)) (kf key) (vf v) (m'.map fun p=>(kf p.1,vf p.2)):=by
 unfold Lg at hx
 cases hx
 split
 ·rename_i h;obtain⟨p,hp,he⟩:=List.any_eq_true.1 h
  have he:p.1=key:=by grind
  obtain⟨a,b,hab⟩:=LI hp;subst hab;refine .inr ⟨a.map fun p=>(kf p.1,vf p.2),vf p.2,b.map fun p=>(kf p.1,vf p.2),by simp[he],?_⟩
  have hna:∀l:List (K×X),(∀q∈l,q.1≠key)→(l.map (fun p=>if p.1=key then(key,v)else p))=l:=fun l hl=>by
   induction l with
   |nil=>rfl
   |cons y l ih=>rw[E9,A1 (hl y (by simp)),ih fun q hq=>hl q (by simp[hq])]
  rw[Gf,BY,E9,LG]at hn
  obtain⟨_,n2,n3⟩:=hn
  rw[List.nodup_cons]at n2
  have ha:∀q∈a,q.1≠key:=fun q hq e=>n3 (kf q.1) (List.mem_map.2 ⟨q,hq,rfl⟩) (kf p.1) (by simp) (by rw[e,he]);have hb:∀q∈b,q.1≠key:=fun q hq e=>n2.1 (List.mem_map.2 ⟨q,hq,by simp[e,he]⟩);rw[BY,E9,hna a ha,hna b hb,A2 he];simp
 rename_i h;refine .inl ⟨fun p hp=>?_,by simp⟩;obtain⟨q,hq,rfl⟩:=List.mem_map.1 hp;exact fun e=>h (List.any_eq_true.2 ⟨q,hq,by simpa using hK.inj _ _ e⟩)
theorem Mq [DecidableEq K](hm:P.underlying t=some (.map kt et))(hd:P.underlying kt=some d)(hK:Af1 P d kf)(hV:Ba2 vf)(hO:B6 Φ H0 L H)(hq:Jz d kf vf o m)(i:Nat)(hi:L[i]? =some (.blk id (.obj o)))
 {key:K} {v:X} {k:A5→Prop} {F:List (K×X)→Option R} (h:(Lg m key v).bind F=some r) (hk:∀m' o' H',Jz d kf vf o' m'→F m'=some r→B6 Φ H0 (L.set i (.blk id (.obj o'))) H'→k H') (hst:AJ6 P kt d=true:=by kernel_rfl):E.mset t H (.map id) (kf key) (vf v) k:=by
 obtain⟨m',h1,h2⟩:=A7 h;obtain⟨m0,hq,hp⟩:=hq;obtain⟨r',h3,hp'⟩:=Ao2 hp h1;have hs:=AK2 (d:=d) hE hK hq.nodup h3;subst hE;obtain⟨kv,hv1,hv2⟩:=hK.raw key;obtain⟨vv,hv3⟩:=hV v;exact .inl ⟨kt,et,d,kv,vv,id,o,_,_,hm,hK.kg _ hd hst,hv1,hv2,hv3,rfl,hO.get i hi,hq,hs,fun o' ho=>hk m' o' _ ⟨r',ho,hp'⟩ h2 (hO.set i hi)⟩
end
end
end Go.Ab
namespace Go.Ab
open Go.RowKit
variable [N9][Ar]
section
variable {P:Program}{nt:Nat}{rd:Option Nat}{T:GY}{E:FL}
variable (hE:E=I6 P nt rd)
include hE
variable {Φ:A5→A5→Prop}{H0 H:A5}{L:List En}{t kt et id:Nat}{ks:List Int}{xs:List V}
end
def Le {α:Type}{m:Option α}{x:α}(h:m=some x):(m.bind fun y=>some y)=some x:=by rw[h];rfl
inductive Af5 {α β:Type} (R:α→β→Prop):List α→List β→Prop
 |nil:Af5 R [] []
 |cons {x:α} {y:β} {xs:List α} {ys:List β} (h:R x y) (k:Af5 R xs ys):Af5 R (x::xs) (y::ys)
def Af5.get {α β:Type}{R:α→β→Prop}:∀{xs:List α} {ys:List β},Af5 R xs ys→∀{i:Nat} {y:β},ys[i]? =some y→∃x,xs[i]? =some x∧R x y
 |_,_,.nil,i,y,h=>by simp at h
 |_,_,.cons h k,0,y,e=>by simp at e;subst e;exact⟨_,rfl,h⟩
 |_,_,.cons h k,i+1,y,e=>by simp at e ⊢;exact k.get e
def Af5.len {α β:Type}{R:α→β→Prop}:∀{xs:List α} {ys:List β},Af5 R xs ys→xs.length=ys.length
 |_,_,.nil=>rfl
 |_,_,.cons _ k=>by simp[k.len]
def Bb0 (P:Program)(fv:V)(args:List V)(Q:V→Prop):Prop:=∀H,Df P fv args H fun x H'=>Q x∧H'=H
def Fg.value {P:Program}{f:FuncId}{F C args:List V}{Q:V→Prop}(h:Fg P f (F++args++C) Q):Bb0 P (.func (.func f) F C) args Q:=fun H=>(h H).value
section
variable {P:Program}{nt:Nat}{rd:Option Nat}{E:FL}(hE:E=I6 P nt rd)
include hE
end
end Go.Ab
namespace Go.Ab
open Go.RowKit
variable [N9]
def J5.thaw {P:Program} {f:FuncId} {args:List V} {H:A5} {K K':V→A5→Prop} (h:J5 P f args H K)
 (hk:∀x H',K x H'→K' x H'∨∃id sz row lo n,x= .own id lo n∧H' id=some (.arr sz row)∧K' (.sl (N8 row lo n) .ro) (upd H' id none)):J5 P f args H K':=
 fun g w vals hR hA=>(h g w vals hR hA).mono fun v w' ⟨g',x,H',s,hR',hv,hK⟩=>by
  rcases hk x H' hK with hK|⟨id,sz,row,lo,n,rfl,h1,h2⟩
  ·grind[N5]
  obtain⟨g2,s2,R2,hv2⟩:=hR'.freezeArr h1;exact⟨g2,_,_,s.trans s2,R2,hv2 _ _ _ (hv.mono s2),h2⟩
section
variable [Ar]{P:Program}{T:GY}
def AL {f:FuncId} {fn:Func} {c:Code} {n:Nat} {rs:List ResultVar} {args:List V} {r:V} (cf:Cf) (hP:RG P T) (hf:P.funcs[f]? =some fn) (hb:fn.body=some c) (hd:K2 cf c=true)
 (hcall:∀vals w,(callFunc f vals).run P w= .ok (.enter f vals) w) (hnt:fn.ntmps=n) (hrs:fn.results.toList=rs) (hn:Nat.ble args.length n=true)
 (h:∀(E:FL) (H:A5) (K:V→A5→Prop),E=I6 P n none→(∀x L H',B6 Eq H L H'→Cp x r→K x H')→
  (∀(q:OG) (sz:Nat) (xs:List V) (i:Nat) (L:List En) H',B6 Eq H L H'→L[i]? =some (.blk q.id (.arr sz (q.pre++xs++q.rest)))→Bz q (xs.length:Nat)→Cp (.sl xs .ro) r→K (.own q.id q.lo q.n) H')→run E T n cf c ⟨Cj args 0,[]⟩ H (Oa E T rs K)):C3 P f args r:=fun H=>by
 refine J5.le ?_
 refine(T8 (K:=fun x H'=>(∃y H2,Cp x y∧Fc H2 H'∧y=r∧H2=H)∨∃(q:OG) (sz:Nat) (xs:List V) (i:Nat) (L:List En),x= .own q.id q.lo q.n∧B6 Eq H L H'∧L[i]? =some (.blk q.id (.arr sz (q.pre++xs++q.rest)))∧Bz q (xs.length:Nat)∧Cp (.sl xs .ro) r)
  cf hP.1 hP.2 hf hb hd hcall hnt hrs hn fun E hE=>?_).thaw ?_
 ·exact h E H _ hE (fun x L H' hO hx=>.inl ⟨r,H,hx,hO.ext,rfl,rfl⟩) fun q sz xs i L H' hO hi hq hr=>.inr ⟨q,sz,xs,i,L,rfl,hO,hi,hq,hr⟩
 rintro x H' (h|⟨q,sz,xs,i,L,rfl,hO,hi,hq,hr⟩)
 ·exact .inl h
 refine .inr ⟨q.id,sz,_,q.lo,q.n,rfl,hO.get i hi,r,H,?_,(hO.del i hi).ext,rfl,rfl⟩;rw[RU rfl hq.1 hq.2];exact hr
end
end Go.Ab
namespace Go.Ab
open Go.RowKit
variable [N9][Ar]
section
variable {P:Program}{nt:Nat}{rd:Option Nat}{T:GY}{E:FL}{I:List (List V)→A5→A5→Prop}{D:A5→A5→Prop}
def B6.hle {Φ:A5→A5→Prop}{F H H':A5}{L:List En}(h:B6 Φ F L H)(hl:Fc H H'):B6 Φ F L H':=by
 grind[B6,Fc]
def AB5 (hE:E=I6 P nt rd) {α R:Type} {f:α→V} {sz:Nat} (hsz:∀x,(f x).cells.length=sz) {l:List α} {tl:E7} {lo:Option Int} {m:Int} {k:V→Prop} {F:List α→Option R} {r:R} (h:(T4 l lo (some m) (some m)).bind F=some r)
 (hk:∀x,F x=some r→k (.sl (lst f x) .full)):E.slice sz (lst f l) tl lo (some m) (some m) k:=by
 subst hE;obtain⟨x,h1,h2⟩:=A7 h
 unfold T4 at h1
 split at h1
 ·rename_i hc;obtain⟨c1,c2,c3,c4,c5⟩:=hc;cases h1;refine⟨?_,?_⟩
  ·rw[O2]
   simp_all[Js]
  have hm:m=(m.toNat:Int):=by grind
  have hc:Jf (lo.getD 0).toNat m.toNat l.length (some m) tl= .full:=A2 hm;rw[O2,lst_eq,←Ln,←Lm]
  grind[lst_eq]
 cases h1
variable {α β σ:Type}
end
end Go.Ab
namespace Go.Ab
open Go.RowKit Go.MapKept
variable [N9][Ar]
section
variable {K X:Type}
def Af4 (P:Program)(f:FuncId)(args:List V)(d:TypeDesc)(kf:K→V)(vf:X→V)(m:List (K×X)):Prop:=
 ∀H,J5 P f args H fun v H'=>∃id o,H id=none∧Jz d kf vf o m∧v= .map id∧H'=upd H id (some (.obj o))
end
section
variable {P:Program}{nt:Nat}{rd:Option Nat}{T:GY}{E:FL}
variable (hE:E=I6 P nt rd)
include hE
variable {K X R S:Type}{kf:K→V}{vf:X→V}{d:TypeDesc}{Φ:A5→A5→Prop}{H0 H:A5}{L:List En}{r:R}{fid:FuncId}{args args':List V}{k:V→A5→Prop}
theorem AC0 {m:Option (List (K×X))}{F:List (K×X)→Option R}(h:m.bind F=some r)(hc:∀x,m=some x→Af4 P fid args' d kf vf x)(hl:M1 args args')(hO:B6 Φ H0 L H)
 (hk:∀x id o H',Jz d kf vf o x→B6 Φ H0 (.blk id (.obj o)::L) H'→F x=some r→k (.map id) H'):E.call (.func (.func fid) [] []) args H k:=by
 subst hE;obtain⟨x,h1,h2⟩:=A7 h;refine J5.value (F:=[]) (C:=[]) ?_;simp only[L9,L4]
 exact((hc x h1 H).args hl).mono fun v H' ⟨id,o,e1,e2,e3,e4⟩=>by subst e3;subst e4;exact hk x id o _ e2 (hO.push e1 rfl) h2
end
def B6.ne {Φ:A5→A5→Prop}{F H:A5}{L:List En}{a b:Nat}{x y:Ds}(h:B6 Φ F L H)(i j:Nat)(hi:L[i]? =some (.blk a x))(hj:L[j]? =some (.blk b y))(hij:i≠j):a≠b:=fun e=>by
 obtain⟨hs,F',H1,h0,h1,h2⟩:=h;subst e;exact hij (h0.inj i j _ _ a x y hi hj rfl rfl)
section
variable {P:Program}{T:GY}{f:FuncId}{fn:Func}{c:Code}{n:Nat}{rs:List ResultVar}{args:List V}{K X:Type}{kf:K→V}{vf:X→V}{d:TypeDesc}
def Ae2 {m:List (K×X)}(cf:Cf)(hP:RG P T)(hf:P.funcs[f]? =some fn)(hb:fn.body=some c)(hd:K2 cf c=true)
 (hcall:∀vals w,(callFunc f vals).run P w= .ok (.enter f vals) w) (hnt:fn.ntmps=n) (hrs:fn.results.toList=rs) (hn:Nat.ble args.length n=true)
 (h:∀(E:FL) (H:A5) (k:V→A5→Prop),E=I6 P n none→(∀id o (L:List En) (i:Nat) H',Jz d kf vf o m→L[i]? =some (.blk id (.obj o))→B6 Eq H L H'→k (.map id) H')→run E T n cf c ⟨Cj args 0,[]⟩ H (Oa E T rs k)):Af4 P f args d kf vf m:=fun H=>by
 refine J5.le (T8 (K:=fun x H'=>∃y H2,Cp x y∧Fc H2 H'∧∃id o,H id=none∧Jz d kf vf o m∧y= .map id∧H2=upd H id (some (.obj o))) cf hP.1 hP.2 hf hb hd hcall hnt hrs hn fun E hE=>?_);refine h E H _ hE fun id o L i H' hq hi hO=>?_;obtain⟨h1,h2⟩:=(hO.only i hi).last;exact⟨_,_,.refl _,h2,id,o,h1,hq,rfl,rfl⟩
end
section
variable {K X:Type}
def Zm (kf:K→V) (vf:X→V) (o:Obj) (mid:Nat) (b:Ds) (left:List (K×X)):Prop:=
 ∃(es:Array MapEntry) (clock:Nat) (seen:Array Nat) (zs:List (MapEntry×(K×X))),o= .map es clock∧b= .iter mid clock seen clock∧Li es clock∧zs.map (·.1)=(leftOf es seen).toList∧
  (∀z∈zs,Ch (kf z.2.1)=some z.1.key∧Ch (vf z.2.2)=some z.1.val)∧(zs.map (·.2)).Perm left
def ItAt (kf:K→V)(vf:X→V)(o:Obj)(mid:Nat)(b:Ds)(left:List (K×X))(p:K×X):Prop:=
 Zm kf vf o mid b left∧∃(es:Array MapEntry) (clock:Nat) (seen:Array Nat) (e:MapEntry),o= .map es clock∧b= .iter mid clock (seen.push e.born) clock∧e∈es.toList∧Ch (kf p.1)=some e.key∧Ch (vf p.2)=some e.val
def UF {α:Type} (key:α→Nat):∀{l:List α} {x:α},(l.map key).Nodup→x∈l→l.Perm (x::l.filter fun y=> !(key y==key x))
 | a::l,x,hn,hx=>by
  rw[E9,List.nodup_cons]at hn
  rcases List.mem_cons.1 hx with rfl|hx
  ·have:l.filter (fun y=> !(key y==key x))=l:=List.filter_eq_self.2 fun y hy=>by
    have:key y≠key x:=fun e=>hn.1 (List.mem_map.2 ⟨y,hy,e⟩);simp[this]
   rw[List.filter_cons,A1 (by simp),this]
  have hne:key a≠key x:=fun e=>hn.1 (List.mem_map.2 ⟨x,hx,e.symm⟩);rw[List.filter_cons,A2 (by simp[hne])];exact((UF key hn.2 hx).cons a).trans (List.Perm.swap _ _ _)
def Ar0 (es:Array MapEntry)(seen:Array Nat)(b:Nat):(leftOf es (seen.push b)).toList=(leftOf es seen).toList.filter fun y=> !(y.born==b):=by
 unfold leftOf;rw[Iz,Iz,List.filter_filter]
 grind
def Ab3 {d:TypeDesc} {kf:K→V} {vf:X→V} {es:Array MapEntry} {clock:Nat} {m:List (K×X)} (h:Jz d kf vf (.map es clock) m) (mid:Nat):Zm kf vf (.map es clock) mid (.iter mid clock #[] clock) m:=by
 obtain⟨m',⟨⟨es',c',e1,e2⟩,hk,hn,hst⟩,hp⟩:=h;cases e1
 have hlen:es.toList.length=m'.length:=by have:=P9 List.length e2;grind
 refine⟨es,clock, #[],es.toList.zip m',rfl,rfl,hst _ _ rfl,?_,fun z hz=>?_,?_⟩
 ·have:(leftOf es #[]).toList=es.toList:=by
   unfold leftOf;rw[Iz]
   simp_all
  rw[this,List.map_fst_zip (by omega)]
 ·obtain⟨i,hi,e⟩:=AC hz
  have hi':i<min es.toList.length m'.length:=by grind
  have h1:i<es.toList.length:=by omega
  have h2:i<m'.length:=by omega
  have:=P9 (fun l=>l[i]?) e2
  grind
 grind[List.map_snd_zip]
end
section
variable {P:Program}{nt:Nat}{rd:Option Nat}{T:GY}{E:FL}
variable (hE:E=I6 P nt rd)
include hE
variable {K X:Type}{kf:K→V}{vf:X→V}{d:TypeDesc}{Φ:A5→A5→Prop}{H0 H:A5}{L:List En}{k:V→A5→Prop}{m left:List (K×X)}{o:Obj}{mid it:Nat}{b:Ds}{p:K×X}
theorem Ai2 {t kt et:Nat}(hm:P.underlying t=some (.map kt et))(hO:B6 Φ H0 L H)(h1:H mid=some (.obj o))(hq:Jz d kf vf o m)
 (hk:∀it b H',Zm kf vf o mid b m→B6 Φ H0 (.blk it b::L) H'→k (.ref it 0) H'):E.mrg t H (.map mid) k:=by
 subst hE
 obtain⟨es,clock,e⟩:∃es clock,o= .map es clock:=by obtain⟨_,⟨⟨es,c,e,_⟩,_⟩,_⟩:=hq;simp_all
 subst e;exact⟨kt,et,mid,es,clock,hm,rfl,h1,fun id hid=>hk id _ _ (Ab3 hq mid) (hO.push hid rfl)⟩
theorem Ai3 (hO:B6 Φ H0 L H) (hI:Zm kf vf o mid b left) (i:Nat) (hi:L[i]? =some (.blk it b)) (h1:H mid=some (.obj o)) (h0:left=[]→k (.tup [.bool false]) H)
 (hk:∀p left' b' H',left.Perm (p::left')→ItAt kf vf o mid b' left' p→B6 Φ H0 (L.set i (.blk it b')) H'→k (.tup [.bool true,.bad,.bad]) H'):E.mnx H (.ref it 0) k:=by
 subst hE;obtain⟨es,clock,seen,zs,rfl,rfl,hst,z1,z2,z3⟩:=hI
 have hlen:zs.length=(leftOf es seen).size:=by have:=P9 List.length z1;grind
 refine⟨it,mid,clock,seen,clock,es,clock,rfl,hO.get i hi,h1,hst.1,D5 _,fun hs=>h0 ?_,fun e he=>?_⟩
 ·have:zs=[]:=QB (by omega)
  simp_all
 have he':e∈zs.map (·.1):=by rw[z1];exact he
 obtain⟨z,hz,rfl⟩:=List.mem_map.1 he'
 have hnd:(zs.map fun z=>z.1.born).Nodup:=by
  have e0:(zs.map fun z=>z.1.born)=(leftOf es seen).toList.map (·.born):=by rw[←z1,Gf];rfl
  rw[e0]
  have hs:(leftOf es seen).toList.Sublist es.toList:=by unfold leftOf;rw[Iz];simp_all
  exact(hs.map _).nodup hst.2
 have hp:=UF (fun z:MapEntry×(K×X)=>z.1.born) hnd hz;refine hk z.2 ((zs.filter fun y=> !(y.1.born==z.1.born)).map (·.2)) _ _ (z3.symm.trans (hp.map (·.2))) ⟨⟨es,clock,_,zs.filter fun y=> !(y.1.born==z.1.born),rfl,rfl,hst,?_,fun y hy=>z2 y (List.mem_filter.1 hy).1,.refl _⟩,es,clock,seen,z.1,rfl,rfl,?_,(z2 z hz).1,(z2 z hz).2⟩ (hO.set i hi)
 ·rw[Ar0,←z1,List.filter_map];rfl
 exact(mem_left he).1
theorem Ai4 (hO:B6 Φ H0 L H)(hI:ItAt kf vf o mid b left p)(i:Nat)(hi:L[i]? =some (.blk it b))(h1:H mid=some (.obj o))(hk:k (.tup [kf p.1,vf p.2]) H):E.men H (.ref it 0) k:=by
 subst hE;obtain⟨⟨es0,c0,_,_,e0,_,hst,_⟩,es,clock,seen,e,rfl,rfl,he,h3,h4⟩:=hI;cases e0;exact⟨it,mid,c0,seen,c0,es0,c0,e,_,_,rfl,hO.get i hi,rfl,h1,he,hst.2,h3,h4,hk⟩
end
end Go.Ab
namespace Go.Ab
open Go.RowKit
variable [N9][Ar]
def Jz.srt {X:Type}{d:TypeDesc}{kf:Int→V}{vf:X→V}{o:Obj}{m:List (Int×X)}(h:Jz d kf vf o m):Jz d kf vf o (Xb m):=h.perm (RY m).symm
section
variable {P:Program}{nt:Nat}{rd:Option Nat}{T:GY}{E:FL}
def Rv (cf:Cf) (hE:E=I6 P nt rd) (hP:RG P T) {K X σ γ R ρ:Type} [DecidableEq ρ] {kf:K→V} {vf:X→V} {o:Obj} {mid:Nat} {step:σ→K×X→Option (σ⊕R)} {fin:σ→R} {nrm:R→ρ} {c:Code} {st:St} {H:A5} {Kc:Exit→St→A5→Prop}
 (fm:σ→γ→Fl) (Inv:σ→γ→List Nat→Ds→A5→Prop) (Xr:ρ→Exit→Fl→List Nat→A5→Prop) (hd:K2 cf c=true)
 (round:∀s g ds left b H,Zm kf vf o mid b left→Inv s g ds b H→(∀p left',left.Perm (p::left')→∃o,step s p=some o)→run E T nt cf c ⟨fm s g,ds⟩ H fun e st' H'=>match e with
  | .normal=>∃p left' s' g' b' ds',left.Perm (p::left')∧step s p=some (.inl s')∧GZ st'.l (fm s' g')∧st'.df=ds'∧Zm kf vf o mid b' left'∧Inv s' g' ds' b' H'
  |e=>∃x l ds',(left=[]∧x=fin s∨∃p left',left.Perm (p::left')∧step s p=some (.inr x))∧Xr (nrm x) e l ds' H'∧GZ st'.l l∧st'.df=ds')
 {m:List (K×X)} {s0:σ} (g0:γ) {b0:Ds} {r:ρ} (h:NN step fin nrm m s0=some r) (hf:GZ st.l (fm s0 g0)) (hb:Zm kf vf o mid b0 m) (hI:Inv s0 g0 st.df b0 H) (after:∀e l ds H',Xr r e l ds H'→Kc e ⟨l,ds⟩ H'):E.sim (.loop c) st H Kc:=by
 subst hE
 refine W4.loopN (fun n fr' H'=>∃s g left b ds,left.length=n∧(∀m',m'.Perm left→∃q,G3 step m' s=some q∧nrm (AP3 fin q)=r)∧Fa fr' ⟨fm s g,ds⟩∧Zm kf vf o mid b left∧Inv s g ds b H') m.length
  ⟨s0,g0,m,b0,st.df,rfl,fun m' hm=>XF h hm,⟨fun t=>hf.wk t,rfl⟩,hb,hI⟩ fun n fr' H' ⟨s,g,left,b,ds,hn,hr,hle,hit,hi⟩=>?_
 have stp:∀p left',left.Perm (p::left')→∃o,step s p=some o:=fun p left' hp=>by
  obtain⟨q,h1,_⟩:=hr _ hp.symm
  simp only[G3]at h1
  cases ho:step s p with
  |none=>rw[ho]at h1;cases h1
  |some o=>exact⟨o,rfl⟩
 refine W4.frLe hle ((O6 hP.1 hP.2 c _ _ _ hd (round s g ds left b H' hit hi stp)).mono fun e fr2 H2 ⟨st',hle',hq⟩=>?_)
 cases e with
 | normal=>
  obtain⟨p,left',s',g',b',ds',h0,h1,h2,h3,h4,h5⟩:=hq;refine⟨left'.length,?_,s',g',left',b',ds',rfl,fun m' hm=>?_,⟨fun t=>(hle'.s t).trans (h2.wk t),hle'.df.trans h3⟩,h4,h5⟩
  ·have:=h0.length_eq
   simp only[U0]at this
   omega
  obtain⟨q,q1,q2⟩:=hr (p::m') ((hm.cons p).trans h0.symm)
  simp only[G3,h1]at q1
  exact⟨q,q1,q2⟩
 | _=>
  obtain⟨x,l,ds',h1,h4,h2,h3⟩:=hq;refine⟨⟨l,ds'⟩,⟨fun t=>(hle'.s t).trans (h2.wk t),hle'.df.trans h3⟩,after _ _ _ _ ?_⟩
  have:nrm x=r:=by
   rcases h1 with⟨e1,e2⟩|⟨p,left',hp,e2⟩
   ·subst e1;subst e2;obtain⟨q,q1,q2⟩:=hr [] (.refl _)
    simp only[G3,E6]at q1
    subst q1;exact q2
   obtain⟨q,q1,q2⟩:=hr _ hp.symm
   simp only[G3,e2,E6]at q1
   subst q1;exact q2
  rw[←this];exact h4
def XZ (cf:Cf) (hE:E=I6 P nt rd) (hP:RG P T) {σ γ R:Type} {step:σ→Option (σ⊕R)} {c:Code} {st:St} {H:A5} {K:Exit→St→A5→Prop} (fm:σ→γ→Fl) (Inv:σ→γ→List Nat→A5→Prop) (X:R→Exit→Fl→List Nat→A5→Prop) (hd:K2 cf c=true)
 (round:∀s g ds H o,Inv s g ds H→step s=some o→run E T nt cf c ⟨fm s g,ds⟩ H fun e st' H'=>match e with
  | .normal=>∃s' g' ds',o= .inl s'∧GZ st'.l (fm s' g')∧st'.df=ds'∧Inv s' g' ds' H'
  |e=>∃x l ds',o= .inr x∧X x e l ds' H'∧GZ st'.l l∧st'.df=ds')
 {N:Nat} {s0:σ} (g0:γ) {r:R} (h:loopN step N s0=some r) (hf:GZ st.l (fm s0 g0)) (hI:Inv s0 g0 st.df H) (after:∀e l ds H',X r e l ds H'→K e ⟨l,ds⟩ H'):E.sim (.loop c) st H K:=by
 subst hE;refine W4.loopN (fun n fr' H'=>∃s g ds,loopN step n s=some r∧Fa fr' ⟨fm s g,ds⟩∧Inv s g ds H') N ⟨s0,g0,st.df,h,⟨fun t=>hf.wk t,rfl⟩,hI⟩ fun n fr' H' ⟨s,g,ds,hs,hle,hi⟩=>?_
 cases n with
 |zero=>cases hs
 | succ n=>
  simp only[loopN]at hs
  cases ho:step s with
  |none=>rw[ho]at hs;cases hs
  | some o=>
   rw[ho]at hs
   refine W4.frLe hle ((O6 hP.1 hP.2 c _ _ _ hd (round s g ds H' o hi ho)).mono fun e fr2 H2 ⟨st',hle',hq⟩=>?_)
   cases e with
   |normal=>
    obtain⟨s',g',ds',h1,h2,h3,h4⟩:=hq;subst h1;exact⟨n,Gp n,s',g',ds',hs,⟨fun t=>(hle'.s t).trans (h2.wk t),hle'.df.trans h3⟩,h4⟩
   |_=>
    obtain⟨x,l,ds',h1,h4,h2,h3⟩:=hq;subst h1;cases hs;exact⟨⟨l,ds'⟩,⟨fun t=>(hle'.s t).trans (h2.wk t),hle'.df.trans h3⟩,after _ _ _ _ h4⟩
end
def Jy (H:A5):List (Nat×Ds)→A5
 |[]=>H
 |p::r=>upd (Jy H r) p.1 none
def Oj:List (Nat×Ds)→List En
 |[]=>[]
 |p::r=>.blk p.1 p.2::Oj r
def apart:List Nat→Prop
 |[]=>True
 |a::l=>(∀b∈l,a≠b)∧apart l
def AH0 (a:Nat):apart [a]:=⟨fun _ h=>(nomatch h),trivial⟩
def AG9 {a:Nat}{l:List Nat}(h:∀b∈l,a≠b)(k:apart l):apart (a::l):=⟨h,k⟩
def ne0 {a:Nat}:∀b∈([]:List Nat),a≠b:=fun _ h=>(nomatch h)
def neC {a b:Nat}{l:List Nat}(h:a≠b)(k:∀c∈l,a≠c):∀c∈b::l,a≠c:=fun c hc=>by
 rcases List.mem_cons.1 hc with rfl|hc
 ·exact h
 exact k c hc
def at0 {H:A5}:∀p∈([]:List (Nat×Ds)),H p.1=some p.2:=fun _ h=>(nomatch h)
def atC {H:A5}{a:Nat}{b:Ds}{l:List (Nat×Ds)}(h:H a=some b)(k:∀p∈l,H p.1=some p.2):∀p∈(a,b)::l,H p.1=some p.2:=fun p hp=>by
 rcases List.mem_cons.1 hp with rfl|hp
 ·exact h
 exact k p hp
def Af3 (P:Program)(f:FuncId)(args:List V)(bs:List (Nat×Ds))(x:V):Prop:=
 ∀H,apart (bs.map (·.1))→(∀p∈bs,H p.1=some p.2)→J5 P f args H fun v H'=>v=x∧H'=H
def Rb {H:A5}:∀{bs:List (Nat×Ds)} {p:Nat×Ds},p∈bs→Jy H bs p.1=none
 |q::bs,p,h=>by
  unfold Jy
  by_cases e:p.1=q.1
  ·rw[e,E4]
  rw[D2 _ _ e]
  rcases List.mem_cons.1 h with rfl|h
  ·exact absurd rfl e
  exact Rb h
def SC {F:A5}:∀{bs:List (Nat×Ds)},apart (bs.map (·.1))→(∀p∈bs,F p.1=none)→∃H,B6 Eq F (Oj bs) H∧(∀p∈bs,H p.1=some p.2)∧∀x,(∀p∈bs,p.1≠x)→H x=F x
 |[],_,_=>⟨F,B6.start E0 rfl,fun _ h=>(nomatch h),fun _ _=>rfl⟩
 | p::bs,ha,hn=>by
  obtain⟨H,h1,h2,h3⟩:=SC (F:=F) (bs:=bs) ha.2 fun q hq=>hn q (HA _ hq)
  have hp:H p.1=none:=by
   rw[h3 p.1 fun q hq e=>ha.1 q.1 (List.mem_map.2 ⟨q,hq,rfl⟩) e.symm];exact hn p (by simp)
  refine⟨upd H p.1 (some p.2),h1.push hp rfl,fun q hq=>?_,fun x hx=>?_⟩
  ·rcases List.mem_cons.1 hq with rfl|hq
   ·exact E4 _ _ _
   rw[D2 _ _ fun e=>ha.1 q.1 (List.mem_map.2 ⟨q,hq,rfl⟩) e.symm];exact h2 q hq
  rw[D2 _ _ fun e=>hx p (by simp) e.symm];exact h3 x fun q hq=>hx q (HA _ hq)
def AL4 {H:A5} {bs:List (Nat×Ds)} (ha:apart (bs.map (·.1))) (hH:∀p∈bs,H p.1=some p.2):B6 Eq (Jy H bs) (Oj bs) H:=by
 obtain⟨H',h1,h2,h3⟩:=SC (F:=Jy H bs) ha fun p hp=>Rb hp
 have:H'=H:=by
  funext x
  by_cases hx:∃p∈bs,p.1=x
  ·obtain⟨p,hp,rfl⟩:=hx;rw[h2 p hp,hH p hp]
  have hx':∀p∈bs,p.1≠x:=fun p hp e=>hx ⟨p,hp,e⟩;rw[h3 x hx'];clear h1 h2 h3 ha hH hx
  induction bs with
  |nil=>rfl
  |cons q bs ih=>
   unfold Jy;rw[D2 _ _ fun e=>hx' q (by simp) e.symm];exact ih fun p hp=>hx' p (HA _ hp)
 rwa[this]at h1
def Vn:∀{bs:List (Nat×Ds)} {p:Nat×Ds},p∈bs→∃i:Nat,(Oj bs)[i]? =some (En.blk p.1 p.2)
 |q::bs,p,h=>by
  rcases List.mem_cons.1 h with rfl|h
  ·exact⟨0,rfl⟩
  obtain⟨i,hi⟩:=Vn h;exact⟨i+1,by simpa[Oj]using hi⟩
section
variable {P:Program}{T:GY}{f:FuncId}{fn:Func}{c:Code}{n:Nat}{rs:List ResultVar}{args:List V}
def Ae0 {bs:List (Nat×Ds)} {x:V} (cf:Cf) (hP:RG P T) (hf:P.funcs[f]? =some fn) (hb:fn.body=some c) (hd:K2 cf c=true)
 (hcall:∀vals w,(callFunc f vals).run P w= .ok (.enter f vals) w) (hnt:fn.ntmps=n) (hrs:fn.results.toList=rs) (hn:Nat.ble args.length n=true)
 (h:∀(E:FL) (H:A5) (k:V→A5→Prop),E=I6 P n none→B6 Eq (Jy H bs) (Oj bs) H→(∀v H',B6 Eq (Jy H bs) (Oj bs) H'→Cp v x→k v H')→run E T n cf c ⟨Cj args 0,[]⟩ H (Oa E T rs k)):Af3 P f args bs x:=fun H ha hH=>by
 refine J5.le (T8 (K:=fun v H'=>∃y H2,Cp v y∧Fc H2 H'∧y=x∧H2=H) cf hP.1 hP.2 hf hb hd hcall hnt hrs hn fun E hE=>?_);refine h E H _ hE (AL4 ha hH) fun v H' hO hv=>⟨_,_,hv,?_,rfl,rfl⟩;intro y b hy
 by_cases hx:∃p∈bs,p.1=y
 ·obtain⟨p,hp,rfl⟩:=hx;obtain⟨i,hi⟩:=Vn hp
  rw[hH p hp]at hy;cases hy
  exact hO.get i hi
 refine hO.ext _ _ ?_;rw[←hy];have hx':∀p∈bs,p.1≠y:=fun p hp e=>hx ⟨p,hp,e⟩;clear hy hO hH ha hx h
 induction bs with
 |nil=>rfl
 |cons q bs ih=>
  unfold Jy;rw[D2 _ _ fun e=>hx' q (by simp) e.symm];exact ih fun p hp=>hx' p (HA _ hp)
end
section
variable {P:Program}{nt:Nat}{rd:Option Nat}{T:GY}{E:FL}
def Ya (hE:E=I6 P nt rd){R α:Type}{fid:FuncId}{F0 C0 args args':List V}{bs:List (Nat×Ds)}{m:Option α}{g:α→V}{F:α→Option R}{r:R}{H:A5}{k:V→A5→Prop}(h:m.bind F=some r)(hc:∀x,m=some x→Af3 P fid (F0++args'++C0) bs (g x))(hl:M1 (F0++args++C0) (F0++args'++C0))
 (ha:apart (bs.map (·.1))) (hH:∀p∈bs,H p.1=some p.2) (hk:∀x,F x=some r→k (g x) H):E.call (.func (.func fid) F0 C0) args H k:=by
 subst hE;obtain⟨x,h2,h3⟩:=A7 h;refine J5.value (F:=F0) (C:=C0) ?_
 refine J5.mono (J5.args (hc x h2 H ha hH) hl) fun v H' ⟨e1,e2⟩=>by subst e1;subst e2;exact hk x h3
end
end Go.Ab
namespace Go.Ab
variable [N9][Ar]
section
variable {P:Program}{nt:Nat}{rd:Option Nat}{E:FL}(hE:E=I6 P nt rd){Φ:A5→A5→Prop}{H0 H:A5}{L:List En}
include hE
end
end Go.Ab
namespace Go.Ab
open Go.RowKit
variable [N9][Ar]
def AR6 (e e':En):Prop:=∀id b b',e.id=some (id,b)→e'.id=some (id,b')→False
def Bt.perm {H0 H:A5} {L L':List En} (h:Bt H0 L H) (p:L.Perm L'):Bt H0 L' H:=by
 have hp:L.Pairwise AR6:=by
  rw[RI];intro i j hi hj hlt id b b' e1 e2;have:=h.inj i j _ _ id b b' (E3 hi) (E3 hj) e1 e2;omega
 have hp':L'.Pairwise AR6:=(p.pairwise_iff (fun{x y} (h:AR6 x y) id b b' e1 e2=>h id b' b e2 e1)).1 hp
 rw[RI]at hp'
 refine⟨h.ext,fun i e id b hi he=>?_,fun i j e e' id b b' hi hj he he'=>?_,fun x b hx=>(h.only x b hx).imp (fun h=>h) fun⟨i,e,h1,h2⟩=>?_⟩
 ·obtain⟨j,hj⟩:=Bn (p.mem_iff.2 (M7 hi));exact h.has j e id b hj he
 ·grind[AR6]
 obtain⟨j,hj⟩:=Bn (p.mem_iff.1 (M7 h1))
 grind
def B6.perm {Φ:A5→A5→Prop}{F H:A5}{L L':List En}(h:B6 Φ F L H)(p:L.Perm L'):B6 Φ F L' H:=
 let⟨hs,F',H1,h0,h1,h2⟩:=h;⟨hs,F',H1,h0.perm p,h1,h2⟩
structure Rw (α:Type) where
 q:OG
 row:List (List α×E7)
variable {α:Type}(f:α→V)
def Bf8 (c:List α×E7):V:=.sl (lst f c.1) c.2
def rwB (w:Rw α):En:=.blk w.q.id (.arr 1 (w.q.pre++lst (Bf8 f) w.row++w.q.rest))
def rwL (w:Rw α):List En:=rwB f w::w.row.map fun c=>.tl c.2
def fo:List (Rw α)→List En
 |[]=>[]
 |w::F=>rwL f w++fo F
variable {f}
def AE8:∀(F G:List (Rw α)),fo f (F++G)=fo f F++fo f G
 |[],_=>rfl
 |w::F,G=>by rw[Gs,fo,fo,AE8 F G,G1]
def Yx:∀{F:List (Rw α)} {c:Nat} {w:Rw α},F[c]? =some w→∃R,(fo f F).Perm (rwL f w++R)∧∀w',(fo f (F.set c w')).Perm (rwL f w'++R)
 |[],_,_,h=>by simp at h
 |v::F,0,w,h=>by
  simp at h;subst h
  exact⟨fo f F,.refl _,fun w'=>.refl _⟩
 | v::F,c+1,w,h=>by
  obtain⟨R,h1,h2⟩:=Yx (F:=F) (c:=c) (w:=w) (by grind)
  have key:∀(X Y:List En),X.Perm (Y++R)→(rwL f v++X).Perm (Y++(rwL f v++R)):=fun X Y hX=>
   (hX.append_left _).trans (by
    rw[←G1,←G1]
    exact List.perm_append_comm.append_right R)
  grind[fo]
def Uz:∀{row:List (List α×E7)} {i:Nat} {c:List α×E7},row[i]? =some c→∃R,(row.map fun c=>En.tl c.2).Perm (.tl c.2::R)∧∀c',((row.set i c').map fun c=>En.tl c.2).Perm (.tl c'.2::R)
 |[],_,_,h=>by simp at h
 |v::F,0,w,h=>by
  simp at h;subst h
  exact⟨F.map fun c=>.tl c.2,.refl _,fun w'=>.refl _⟩
 |v::F,i+1,w,h=>by
  obtain⟨R,h1,h2⟩:=Uz (row:=F) (i:=i) (c:=w) (by grind);exact⟨.tl v.2::R,(h1.cons _).trans (.swap ..),fun w'=>((h2 w').cons _).trans (.swap ..)⟩
def Ad8 {F:List (Rw α)} {c i:Nat} {w:Rw α} {x:List α×E7} (hc:F[c]? =some w) (hi:w.row[i]? =some x):
 ∃R,(fo f F).Perm (.tl x.2::rwB f w::R)∧∀x',(fo f (F.set c ⟨w.q,w.row.set i x'⟩)).Perm (.tl x'.2::rwB f ⟨w.q,w.row.set i x'⟩::R):=by
 obtain⟨R,h1,h2⟩:=Yx (f:=f) hc;obtain⟨S,k1,k2⟩:=Uz hi
 have key:∀(b:En) (X:List En) (t:En),X.Perm (t::S)→(b::(X++R)).Perm (t::b::(S++R)):=fun b X t hX=>
  ((hX.append_right R).cons b).trans (.swap ..)
 exact⟨S++R,h1.trans (key _ _ _ k1),fun x'=>(h2 _).trans (key _ _ _ (k2 x'))⟩
def B6.cell {Φ:A5→A5→Prop} {H0 H:A5} {b:En} {L:List En} {F:List (Rw α)} {c i:Nat} {w:Rw α} {x:List α×E7} (hO:B6 Φ H0 (b::(fo f F++L)) H) (hc:F[c]? =some w) (hi:w.row[i]? =some x):
 ∃R,B6 Φ H0 (.tl x.2::rwB f w::b::R) H∧∀x' H',B6 Φ H0 (.tl x'.2::rwB f ⟨w.q,w.row.set i x'⟩::b::R) H'→B6 Φ H0 (b::(fo f (F.set c ⟨w.q,w.row.set i x'⟩)++L)) H':=by
 obtain⟨R,h1,h2⟩:=Ad8 (f:=f) hc hi
 have key:∀(X:List En) (t r:En),X.Perm (t::r::R)→(b::(X++L)).Perm (t::r::b::(R++L)):=fun X t r h=>
  ((h.append_right L).cons b).trans ((List.Perm.swap t b _).trans ((List.Perm.swap r b _).cons t))
 exact⟨R++L,hO.perm (key _ _ _ h1),fun x' H' h=>h.perm (key _ _ _ (h2 x')).symm⟩
def B6.row {Φ:A5→A5→Prop} {H0 H:A5} {b b':En} {L:List En} {F:List (Rw α)} {w:Rw α} (hO:B6 Φ H0 (rwB f w::b::b'::(fo f F++L)) H) (hw:∀c∈w.row,(En.tl c.2).id=none):B6 Φ H0 (b'::(fo f (F++[w])++(b::L))) H:=by
 have h1:∀(row:List (List α×E7)) (M:List En),(∀c∈row,(En.tl c.2).id=none)→B6 Φ H0 M H→B6 Φ H0 ((row.map fun c=>.tl c.2)++M) H:=by
  intro row
  induction row with
  |nil=>simp_all
  |cons c row ih=>grind[tl0]
 have h2:=h1 w.row _ hw hO;refine h2.perm ?_;rw[AE8];simp only[fo,rwL,L4];generalize w.row.map (fun c=>En.tl c.2)=X;generalize fo f F=Y;have p1:(X++rwB f w::b::b'::(Y++L)).Perm (rwB f w::X++(b::b'::(Y++L))):=Qz
 have p2:(rwB f w::X++(b::b'::(Y++L))).Perm (b'::(rwB f w::X++(b::(Y++L)))):=
  ((List.Perm.swap b' b (Y++L)).append_left (rwB f w::X)).trans Qz
 refine p1.trans (p2.trans (.cons b' ?_));have p3:(rwB f w::X++(b::(Y++L))).Perm (rwB f w::X++(Y++b::L)):=(List.perm_middle.symm).append_left _;refine p3.trans ?_;rw[←G1];exact(Qs (l₁:=rwB f w::X) (l₂:=Y)).append_right _
end Go.Ab
namespace Go.Ab
open Go.RowKit
variable [N9]
def Zn (H:A5)(v:V)(H':A5)(v':V):Prop:=∀g w,Rl g H w→∃g',W1 g w g' w∧Rl g' H' w∧∀u,VR g w u v→VR g' w u v'
theorem Zn.refl (H:A5)(v:V):Zn H v H v:=fun g w h=>⟨g,W1.refl _ _,h,fun _ h=>h⟩
def Zn.trans {H H1 H2:A5}{v v1 v2:V}(a:Zn H v H1 v1)(b:Zn H1 v1 H2 v2):Zn H v H2 v2:=fun g w h=>by
 obtain⟨g1,s1,R1,k1⟩:=a g w h;obtain⟨g2,s2,R2,k2⟩:=b g1 w R1;exact⟨g2,s1.trans s2,R2,fun u hu=>k2 u (k1 u hu)⟩
def Zn.tup2 {H H':A5} {v v' c:V} (a:Zn H v H' v'):Zn H (.tup [v,c]) H' (.tup [v',c]):=fun g w h=>by
 obtain⟨g1,s1,R1,k1⟩:=a g w h;refine⟨g1,s1,R1,fun u hu=>?_⟩
 cases hu with
 |tup hl hv=>
  refine .tup hl fun i hi=>?_;have:=hv i hi
  match i,hi with
  |0,_=>grind
  |1,_=>exact this.mono s1
def Zn.agg1 {H H':A5} {v v':V} (a:Zn H v H' v'):Zn H (.agg [v]) H' (.agg [v']):=fun g w h=>by
 obtain⟨g1,s1,R1,k1⟩:=a g w h;refine⟨g1,s1,R1,fun u hu=>?_⟩
 cases hu with
 |agg hl h1 hv=>
  refine .agg hl h1 fun i hi=>?_;have:=hv i hi
  match i,hi with
  |0,_=>grind
def J5.ghost {P:Program} {f:FuncId} {args:List V} {H:A5} {K K':V→A5→Prop} (h:J5 P f args H K) (hk:∀x H',K x H'→∃x' H2,Zn H' x H2 x'∧K' x' H2):J5 P f args H K':=
 fun g w vals hR hA=>(h g w vals hR hA).mono fun v w' ⟨g',x,H',s,hR',hv,hK⟩=>by
  obtain⟨x',H2,hg,hK'⟩:=hk x H' hK;obtain⟨g2,s2,R2,k2⟩:=hg g' w' hR';exact⟨g2,x',H2,s.trans s2,R2,k2 v hv,hK'⟩
section
variable [Ar]{α:Type}{f:α→V}
def B6.frzG {H0 H:A5}{L:List En}{q:OG}{l:List α}{sz:Nat}(hO:B6 Eq H0 L H)(i:Nat)(hi:L[i]? =some (.blk q.id (.arr sz (q.pre++lst f l++q.rest))))(hq:Bz q (Ar.len l)):
 ∃H',Zn H (.own q.id q.lo q.n) H' (.sl (lst f l) .ro)∧Fc H0 H':=by
 refine⟨_,fun g w hR=>?_,(hO.del i hi).ext⟩;obtain⟨g',s',R',hv⟩:=hR.freezeArr (hO.get i hi);refine⟨g',s',R',fun u hu=>?_⟩;have:=hv u q.lo q.n (hu.mono s')
 rwa[MP hq.1 (by rw[hq.2,len_eq,O2])]at this
def Tz {P:Program}{T:GY}{f:FuncId}{fn:Func}{c:Code}{n:Nat}{rs:List ResultVar}{args:List V}{r:V}(cf:Cf)(hP:RG P T)(hf:P.funcs[f]? =some fn)(hb:fn.body=some c)(hd:K2 cf c=true)
 (hcall:∀vals w,(callFunc f vals).run P w= .ok (.enter f vals) w) (hnt:fn.ntmps=n) (hrs:fn.results.toList=rs) (hn:Nat.ble args.length n=true)
 (h:∀(E:FL) (H:A5) (K:V→A5→Prop),E=I6 P n none→(∀x L H',B6 Eq H L H'→Cp x r→K x H')→(∀x H' x' H2,Zn H' x H2 x'→Fc H H2→Cp x' r→K x H')→run E T n cf c ⟨Cj args 0,[]⟩ H (Oa E T rs K)):C3 P f args r:=fun H=>by
 refine J5.le (J5.ghost (T8 (K:=fun x H'=>(∃y H2,Cp x y∧Fc H2 H'∧y=r∧H2=H)∨∃x' H2,Zn H' x H2 x'∧Fc H H2∧Cp x' r) cf hP.1 hP.2 hf hb hd hcall hnt hrs hn fun E hE=>?_) ?_)
 ·exact h E H _ hE (fun x L H' hO hx=>.inl ⟨r,H,hx,hO.ext,rfl,rfl⟩) fun x H' x' H2 hg hle hx=>.inr ⟨x',H2,hg,hle,hx⟩
 grind[Zn.refl]
end
end Go.Ab
namespace Go.Ab
open Go.RowKit
variable [N9][Ar]
section
variable {P:Program}{nt:Nat}{rd:Option Nat}{E:FL}(hE:E=I6 P nt rd)
include hE
variable {α:Type}{f:α→V}{Φ:A5→A5→Prop}{H0 H:A5}{L:List En}{sz:Nat}{q:OG}{l:List α}
theorem AY3 (hO:B6 Φ H0 L H)(hq:Bz q (Ar.len l))(i:Nat){j:Int}{k:Int→Prop}(hi:L[i]? =some (.blk q.id (.arr sz (q.pre++lst f l++q.rest))))(hj:0≤j∧j<(l.length:Nat))(hk:k (Ar.ofs q.lo j)):E.oidx H q.id sz q.lo q.n j k:=
 BF hE hO hq i hi (F:=fun _=>some ()) (r:=()) (by grind[Du,Ii]) fun _=>hk
theorem AF3 {esz tz off:Nat}{y:V}{x':α}(hu:∀x,∃y',Cp y y'∧y'.one=true∧y'.cells.length=tz∧VU (f x) esz tz off y'=f x')(hle:off+tz≤esz)(hO:B6 Φ H0 L H)(hq:Bz q (Ar.len l))(i:Nat){j:Int}{k:A5→Prop}
 (hi:L[i]? =some (.blk q.id (.arr esz (q.pre++lst f l++q.rest)))) (hj:0≤j∧j<(l.length:Nat))
 (hk:∀H',B6 Φ H0 (L.set i (.blk q.id (.arr esz (q.pre++lst f (l.set j.toNat x')++q.rest)))) H'→k H'):E.ostore H q.id (Ar.ofs q.lo j) esz tz off y k:=by
 obtain⟨x,hx⟩:∃x,l[j.toNat]? =some x:=⟨l[j.toNat],E3 (by omega)⟩
 exact BE hE (u:=fun _=>x') hu hle hO hq i hi (F:=fun l=>some l) (r:=l.set j.toNat x') (by simp_all[DS,B8]) fun l' H' hq' e hO'=>by simp_all
end
section
variable {P:Program}{nt:Nat}{rd:Option Nat}{E:FL}(hE:E=I6 P nt rd)
include hE
variable {α R:Type}{f:α→V}{Φ:A5→A5→Prop}{H0 H:A5}{L:List En}{sz:Nat}{q:OG}{l:List α}{r:R}
theorem Aq4 (hO:B6 Φ H0 L H) (hq:Bz q (Ar.len l)) (i:Nat) (hi:L[i]? =some (.blk q.id (.arr sz (q.pre++lst f l++q.rest)))) {lo:Option Int} {k:V→Prop} {F:List α→Option R}
 (h:(T4 l lo none none).bind F=some r) (hk:∀x (q':OG),q'.id=q.id∧q'.lo=q.lo+lo.getD 0∧q'.n=q.n-lo.getD 0→F x=some r→k (.own q'.id q'.lo q'.n)):
 E.oslice sz H q.id q.lo q.n lo none none k:=by
 have hE':=hE;subst hE;obtain⟨x,h1,h2⟩:=A7 h
 have hn:q.n=(l.length:Nat):=by rw[hq.2,len_eq]
 have el:=O2 (f:=f) l
 unfold T4 at h1
 split at h1
 ·rename_i hc;cases h1;obtain⟨c1,c2,c3,c4,c5⟩:=hc
  simp only[Iu]at c2 c3 c4
  refine⟨_,hO.get i hi,?_,?_⟩
  ·rw[hn,hq.1]
   grind
  exact hk _ ⟨q.id,q.lo+lo.getD 0,q.n-lo.getD 0,[],[]⟩ ⟨rfl,rfl,rfl⟩ h2
 cases h1
theorem XX (hO:B6 Φ H0 L H) (hq:Bz q (Ar.len l)) (i:Nat) (hi:L[i]? =some (.blk q.id (.arr sz (q.pre++lst f l++q.rest)))) {q':OG} {a:Int} (hd:q'.id=q.id∧q'.lo=q.lo+a∧q'.n=q.n-a) {y:V} {m:List α} {k:V→A5→Prop} {F:List α×Int→Option R}
 (hs:Rn sz H y (lst f m)) (h:(YU l a m).bind F=some r) (hk:∀p H',Bz q (Ar.len p.1)→B6 Φ H0 (L.set i (.blk q.id (.arr sz (q.pre++lst f p.1++q.rest)))) H'→F p=some r→k (.int .i64 p.2) H'):E.ocopy sz H (.own q'.id q'.lo q'.n) y k:=by
 have hn:q.n=(l.length:Nat):=by rw[hq.2,len_eq]
 have el:=O2 (f:=f) l;have em:=O2 (f:=f) m;obtain⟨p,h1,h2⟩:=A7 h
 unfold YU at h1
 split at h1
 ·rename_i hc;cases h1;rw[hd.1,hd.2.1,hd.2.2];refine OJ hE (hO.get i hi) hs (YL:=(m.length:Nat)) (by rw[em]) fun n row' hm hrow=>?_
  have e1:n=(if(l.length:Int)-a<(m.length:Nat)then(l.length:Int)-a else(m.length:Nat)):=by rw[hm,hn]
  have ea:(q.lo+a).toNat=q.pre.length+a.toNat:=by rw[hq.1];omega
  have en:(q.n-a).toNat=l.length-a.toNat:=by rw[hn];omega
  have e2:row'=q.pre++lst f (l.take a.toNat++m.take (l.length-a.toNat)++l.drop (a.toNat+m.length))++q.rest:=by
   rw[hrow,ea,en,lst_eq,lst_eq,lst_eq];rw[Ku (A:=q.pre++(l.take a.toNat).map f) (B:=((l.drop a.toNat).take m.length).map f) (C:=(l.drop (a.toNat+m.length)).map f++q.rest) ?_ ?_ ?_]
   ·simp_all
   ·have:l=l.take a.toNat++((l.drop a.toNat).take m.length++l.drop (a.toNat+m.length)):=by
     rw[←Gk,Ad,Ad]
    grind
   ·simp;omega
   grind
  rw[e1,e2];refine hk _ _ ⟨hq.1,?_⟩ (hO.set i hi) h2;rw[hn,len_eq]
  grind
 cases h1
theorem AM6 (hO:B6 Φ H0 L H)(hq:Bz q (Ar.len l))(i:Nat)(hi:L[i]? =some (.blk q.id (.arr sz (q.pre++lst f l++q.rest)))){y:V}{m:List α}{k:V→A5→Prop}{F:List α×Int→Option R}
 (hs:Rn sz H y (lst f m)) (h:(YU l 0 m).bind F=some r) (hk:∀p H',Bz q (Ar.len p.1)→B6 Φ H0 (L.set i (.blk q.id (.arr sz (q.pre++lst f p.1++q.rest)))) H'→F p=some r→k (.int .i64 p.2) H'):E.ocopy sz H (.own q.id q.lo q.n) y k:=
 XX hE hO hq i hi (a:=0) ⟨rfl,by omega,by omega⟩ hs h hk
end
def B6.swp {Φ:A5→A5→Prop}{F H:A5}{L:List En}(h:B6 Φ F L H)(a b:Nat){x y:En}(ha:L[a]? =some x)(hb:L[b]? =some y):B6 Φ F ((L.set a y).set b x) H:=by
 obtain⟨h1,e1⟩:=List.getElem?_eq_some_iff.1 ha;obtain⟨h2,e2⟩:=List.getElem?_eq_some_iff.1 hb;subst e1;subst e2;exact h.perm (List.set_set_perm h1 h2).symm
def TC {P:Program}{T:GY}{f:FuncId}{fn:Func}{c:Code}{n:Nat}{rs:List ResultVar}{args:List V}{F H:A5}{sz:Nat}{xs:List V}{mk:V→V}(hmk:GS mk)(cf:Cf)(hP:RG P T)(hf:P.funcs[f]? =some fn)(hb:fn.body=some c)(hd:K2 cf c=true)
 (hcall:∀vals w,(callFunc f vals).run P w= .ok (.enter f vals) w) (hnt:fn.ntmps=n) (hrs:fn.results.toList=rs) (hn:Nat.ble args.length n=true)
 (h:∀(E:FL) (K:V→A5→Prop),E=I6 P n none→(∀(q:OG) (L:List En) (i:Nat) H' x,Bz q (xs.length:Nat)→L[i]? =some (.blk q.id (.arr sz (q.pre++xs++q.rest)))→B6 Eq F L H'→Cp x (mk (.own q.id q.lo q.n))→K x H')→(xs=[]→∀L H' x,B6 Eq F L H'→Cp x (mk (.sl [] .nil))→K x H')→run E T n cf c ⟨Cj args 0,[]⟩ H (Oa E T rs K)):
 J5 P f args H (Ae9 F sz xs mk):=by
 refine J5.adoptG (sz:=sz) hmk (J5.le (T8 (K:=fun x H'=>∃y H2,Cp x y∧Fc H2 H'∧(Ae9 F sz xs mk y H2∨(y=mk (.sl [] .nil)∧∀t,H2 t=none→Ae9 F sz xs mk (mk (.own t 0 0)) (upd H2 t (some (.arr sz [])))))) cf hP.1 hP.2 hf hb hd hcall hnt hrs hn fun E hE=>?_));refine h E _ hE (fun q L i H' x hq hi hO hx=>?_) fun hx L H' x hO hl=>?_
 ·obtain⟨h1,h2⟩:=(hO.only i hi).last;exact⟨_,_,hx,h2,.inl ⟨q,rfl,hq,h1,rfl⟩⟩
 exact⟨_,F,hl,hO.ext,.inr ⟨rfl,fun t ht=>⟨⟨t,0,0,[],[]⟩,rfl,⟨rfl,by rw[hx];rfl⟩,ht,by rw[hx];rfl⟩⟩⟩
section
variable {P:Program}{nt:Nat}{rd:Option Nat}{T:GY}{E:FL}
variable (hE:E=I6 P nt rd)
include hE
end
structure OGq (q:OG) extends OG where
 eq:toOG=q
instance {q:OG}:CoeOut (OGq q) OG:=⟨OGq.toOG⟩
instance {q:OG}:CoeDep OG q (OGq q):=⟨⟨q,rfl⟩⟩
section
variable {P:Program}{nt:Nat}{rd:Option Nat}{T:GY}{E:FL}
variable (hE:E=I6 P nt rd)
include hE
end
end Go.Ab
open Go.Ab.Ar (lst)
namespace Go.Ab
open Go.RowKit Go.Proofs
set_option maxRecDepth 100000
def tk {t:Nat}{I:Au1}(a:Ev Tryz.prog t=some I.sz:=by kernel_rfl)(b:Qj Tryz.prog t=some I.by_:=by kernel_rfl)(c:Zj Tryz.prog t=some I.ag:=by kernel_rfl)(d:Fd Tryz.prog t=I.sl:=by kernel_rfl)(e:arO Tryz.prog t=I.ar:=by kernel_rfl)
 (f:Ar8 Tryz.prog t 0 I.fs:=by repeat' (first|refine⟨?_,?_⟩|exact True.intro|kernel_rfl)) (g:Co I.pl (fun l=>OL Tryz.prog t=some l):=by first|exact True.intro|(show OL Tryz.prog _=some _;kernel_rfl))
 (h:Co I.ze (fun z=>ID Tryz.prog t=some z):=by first|exact True.intro|(show ID Tryz.prog _=some _;kernel_rfl)) (i:Co I.ek (fun k=>GM Tryz.prog 9 t=some k):=by first|exact True.intro|(show GM Tryz.prog 9 _=some _;kernel_rfl)) (j:VA Tryz.prog t=I.st:=by kernel_rfl)
 (k:I.bo=true→Al0 ((Tryz.prog).underlying t)=true:=by intro h;first|(cases h;done)|kernel_rfl) (l:Co I.ik (fun k=>(Tryz.prog).underlying t=some (.int k)):=by first|exact True.intro|(show(Tryz.prog).underlying _=some (.int _);kernel_rfl))
 (m:I.nif=true→ifO Tryz.prog t=false:=by intro h;first|(cases h;done)|kernel_rfl):AZ9 Tryz.prog t I:=⟨a,b,c,d,e,f,g,h,i,j,k,l,m⟩
def TT:GY:=[(3,⟨1,8,false,none,none,[],none,some (.int .i64 0),some [0],false,false,some .i64,true⟩),
 (4,⟨1,1,false,none,none,[],none,some (.bool false),some [1],false,true,none,true⟩),
 (5,⟨1,1,false,none,none,[],none,some (.int .u8 0),some [0],false,false,some .u8,true⟩),
 (9,⟨1,16,false,none,none,[],none,some (.str ⟨#[]⟩),some [2],true,false,none,true⟩),
 (22,⟨1,24,false,some (65),none,[],none,some (.sl [] .nil),none,false,false,none,true⟩),
 (23,⟨1,24,false,some (30),none,[],none,some (.sl [] .nil),none,false,false,none,true⟩),
 (24,⟨1,24,false,some (28),none,[],none,some (.sl [] .nil),none,false,false,none,true⟩),
 (26,⟨3,32,true,none,none,[some (0,3),some (1,3),some (2,9)],some [(0,1),(1,1),(2,1)],some (.agg [.int .i64 0,.int .i64 0,.str ⟨#[]⟩]),some [0,0,2],false,false,none,true⟩),
 (28,⟨8,88,true,none,none,[some (0,3),some (1,24),some (2,3),some (3,3),some (4,3),some (5,26)],some [(0,1),(1,1),(2,1),(3,1),(4,1),(5,3)],some (.agg [.int .i64 0,.sl [] .nil,.int .i64 0,.int .i64 0,.int .i64 0,.int .i64 0,.int .i64 0,.str ⟨#[]⟩]),none,false,false,none,true⟩),
 (30,⟨14,152,true,none,none,[some (0,3),some (1,23),some (2,3),some (3,3),some (4,3),some (5,3),some (6,28)],some [(0,1),(1,1),(2,1),(3,1),(4,1),(5,1),(6,8)],some (.agg [.int .i64 0,.sl [] .nil,.int .i64 0,.int .i64 0,.int .i64 0,.int .i64 0,.int .i64 0,.sl [] .nil,.int .i64 0,.int .i64 0,.int .i64 0,.int .i64 0,.int .i64 0,.str ⟨#[]⟩]),none,false,false,none,true⟩),
 (33,⟨1,24,false,some (4),none,[],none,some (.sl [] .nil),none,false,false,none,true⟩),
 (34,⟨1,24,false,some (52),none,[],none,some (.sl [] .nil),none,false,false,none,true⟩),
 (36,⟨3,56,true,none,none,[some (0,3),some (1,33),some (2,34)],some [(0,1),(1,1),(2,1)],some (.agg [.int .i64 0,.sl [] .nil,.sl [] .nil]),none,false,false,none,true⟩),
 (37,⟨1,8,false,none,none,[],none,some (.int .i64 0),some [0],false,false,some .i64,true⟩),
 (47,⟨1,24,false,some (88),none,[],none,some (.sl [] .nil),none,false,false,none,true⟩),
 (49,⟨1,24,true,none,none,[some (0,47)],some [(0,1)],some (.agg [.sl [] .nil]),none,false,false,none,true⟩),
 (52,⟨3,40,true,none,none,[some (0,3),some (1,3),some (2,49)],some [(0,1),(1,1),(2,1)],some (.agg [.int .i64 0,.int .i64 0,.sl [] .nil]),none,false,false,none,true⟩),
 (53,⟨1,24,false,some (90),none,[],none,some (.sl [] .nil),none,false,false,none,true⟩),
 (55,⟨1,24,false,some (53),none,[],none,some (.sl [] .nil),none,false,false,none,true⟩),
 (63,⟨1,24,false,some (145),none,[],none,some (.sl [] .nil),none,false,false,none,true⟩),
 (65,⟨2,40,true,none,none,[some (0,9),some (1,63)],some [(0,1),(1,1)],some (.agg [.str ⟨#[]⟩,.sl [] .nil]),none,false,false,none,true⟩),
 (68,⟨1,24,false,some (157),none,[],none,some (.sl [] .nil),none,false,false,none,true⟩),
 (69,⟨1,24,false,some (77),none,[],none,some (.sl [] .nil),none,false,false,none,true⟩),
 (71,⟨4,64,true,none,none,[some (0,3),some (1,3),some (2,68),some (3,69)],some [(0,1),(1,1),(2,1),(3,1)],some (.agg [.int .i64 0,.int .i64 0,.sl [] .nil,.sl [] .nil]),none,false,false,none,true⟩),
 (74,⟨1,24,false,some (3),none,[],none,some (.sl [] .nil),none,false,false,none,true⟩),
 (75,⟨1,24,false,some (266),none,[],none,some (.sl [] .nil),none,false,false,none,true⟩),
 (77,⟨17,240,true,none,none,[some (0,3),some (1,3),some (2,3),some (3,3),some (4,28),some (12,74),some (13,74),some (14,24),some (15,75),some (16,74)],some [(0,1),(1,1),(2,1),(3,1),(4,8),(12,1),(13,1),(14,1),(15,1),(16,1)],some (.agg [.int .i64 0,.int .i64 0,.int .i64 0,.int .i64 0,.int .i64 0,.sl [] .nil,.int .i64 0,.int .i64 0,.int .i64 0,.int .i64 0,.int .i64 0,.str ⟨#[]⟩,.sl [] .nil,.sl [] .nil,.sl [] .nil,.sl [] .nil,.sl [] .nil]),none,false,false,none,true⟩),
 (87,⟨2,16,true,none,none,[some (0,3),some (1,3)],some [(0,1),(1,1)],some (.agg [.int .i64 0,.int .i64 0]),some [0,0],false,false,none,true⟩),
 (88,⟨1,24,false,some (87),none,[],none,some (.sl [] .nil),none,false,false,none,true⟩),
 (90,⟨2,16,true,none,none,[some (0,3),some (1,3)],some [(0,1),(1,1)],some (.agg [.int .i64 0,.int .i64 0]),some [0,0],false,false,none,true⟩),
 (94,⟨1,8,false,none,none,[],none,some (.nilmap),none,false,false,none,true⟩),
 (99,⟨1,8,false,none,none,[],none,some (.nilmap),none,false,false,none,true⟩),
 (102,⟨1,8,false,none,none,[],none,some (.nilf),none,false,false,none,true⟩),
 (107,⟨1,8,false,none,none,[],none,some (.nilmap),none,false,false,none,true⟩),
 (114,⟨1,24,false,some (117),none,[],none,some (.sl [] .nil),none,false,false,none,true⟩),
 (117,⟨2,24,true,none,none,[some (0,9),some (1,3)],some [(0,1),(1,1)],some (.agg [.str ⟨#[]⟩,.int .i64 0]),some [2,0],false,false,none,true⟩),
 (145,⟨2,24,true,none,none,[some (0,9),some (1,3)],some [(0,1),(1,1)],some (.agg [.str ⟨#[]⟩,.int .i64 0]),some [2,0],false,false,none,true⟩),
 (153,⟨1,24,false,some (217),none,[],none,some (.sl [] .nil),none,false,false,none,true⟩),
 (157,⟨1,24,true,none,none,[some (0,153)],some [(0,1)],some (.agg [.sl [] .nil]),none,false,false,none,true⟩),
 (161,⟨2,48,true,none,none,[some (0,22),some (1,114)],some [(0,1),(1,1)],some (.agg [.sl [] .nil,.sl [] .nil]),none,false,false,none,true⟩),
 (163,⟨1,8,false,none,none,[],none,some (.int .u64 0),some [0],false,false,some .u64,true⟩),
 (167,⟨2,16,true,none,none,[some (0,3),some (1,3)],some [(0,1),(1,1)],some (.agg [.int .i64 0,.int .i64 0]),some [0,0],false,false,none,true⟩),
 (188,⟨1,24,false,some (49),none,[],none,some (.sl [] .nil),none,false,false,none,true⟩),
 (203,⟨1,4,false,none,none,[],none,some (.int .u32 0),some [0],false,false,some .u32,true⟩),
 (206,⟨1,8,false,none,none,[],none,some (.int .u64 0),some [0],false,false,some .u64,true⟩),
 (217,⟨11,112,true,none,none,[some (0,3),some (1,3),some (2,3),some (3,28)],some [(0,1),(1,1),(2,1),(3,8)],some (.agg [.int .i64 0,.int .i64 0,.int .i64 0,.int .i64 0,.sl [] .nil,.int .i64 0,.int .i64 0,.int .i64 0,.int .i64 0,.int .i64 0,.str ⟨#[]⟩]),none,false,false,none,true⟩),
 (218,⟨1,24,false,some (221),none,[],none,some (.sl [] .nil),none,false,false,none,true⟩),
 (221,⟨32,400,true,none,none,[some (0,77),some (17,4),some (18,30)],some [(0,17),(17,1),(18,14)],some (.agg [.int .i64 0,.int .i64 0,.int .i64 0,.int .i64 0,.int .i64 0,.sl [] .nil,.int .i64 0,.int .i64 0,.int .i64 0,.int .i64 0,.int .i64 0,.str ⟨#[]⟩,.sl [] .nil,.sl [] .nil,.sl [] .nil,.sl [] .nil,.sl [] .nil,.bool false,.int .i64 0,.sl [] .nil,.int .i64 0,.int .i64 0,.int .i64 0,.int .i64 0,.int .i64 0,.sl [] .nil,.int .i64 0,.int .i64 0,.int .i64 0,.int .i64 0,.int .i64 0,.str ⟨#[]⟩]),none,false,false,none,true⟩),
 (235,⟨15,160,true,none,none,[some (0,4),some (1,30)],some [(0,1),(1,14)],some (.agg [.bool false,.int .i64 0,.sl [] .nil,.int .i64 0,.int .i64 0,.int .i64 0,.int .i64 0,.int .i64 0,.sl [] .nil,.int .i64 0,.int .i64 0,.int .i64 0,.int .i64 0,.int .i64 0,.str ⟨#[]⟩]),none,false,false,none,true⟩),
 (243,⟨6,24,true,none,none,[some (0,3),some (1,3),some (2,4),some (3,4),some (4,4),some (5,4)],some [(0,1),(1,1),(2,1),(3,1),(4,1),(5,1)],some (.agg [.int .i64 0,.int .i64 0,.bool false,.bool false,.bool false,.bool false]),some [0,0,1,1,1,1],false,false,none,true⟩),
 (244,⟨66,264,true,none,some (11,243),[],none,none,none,false,false,none,true⟩),
 (259,⟨1,8,false,none,none,[],none,some (.nilf),none,false,false,none,true⟩),
 (266,⟨2,16,true,none,none,[some (0,3),some (1,3)],some [(0,1),(1,1)],some (.agg [.int .i64 0,.int .i64 0]),some [0,0],false,false,none,true⟩),
 (295,⟨1,24,false,some (24),none,[],none,some (.sl [] .nil),none,false,false,none,true⟩),
 (300,⟨1,8,false,none,none,[],none,some (.int .i64 0),some [0],false,false,some .i64,true⟩),
 (311,⟨1,24,false,some (74),none,[],none,some (.sl [] .nil),none,false,false,none,true⟩),
 (312,⟨1,24,false,some (75),none,[],none,some (.sl [] .nil),none,false,false,none,true⟩),
 (314,⟨1,8,false,none,none,[],none,some (.int .u64 0),some [0],false,false,some .u64,true⟩)]
def okT:Lf Tryz.prog TT:=⟨tk,tk,tk,tk,tk,tk,tk,tk,tk,tk,tk,tk,tk,tk,tk,tk,tk,tk,tk,tk,tk,tk,tk,tk,tk,tk,tk,tk,tk,tk,tk,tk,tk,tk,tk,tk,tk,tk,tk,tk,tk,tk,tk,tk,tk,tk,tk,tk,tk,tk,tk,tk,tk,tk,tk,tk,tk,tk,trivial⟩
end Go.Ab
namespace Go.Ab
structure V7 where
 Name:ByteArray
 Kind:Int
structure F6 where
 Name:ByteArray
 Fields:List V7
structure I9 where
 Kind:Int
 Num:Int
 Text:ByteArray
structure B1 where
 Op:Int
 cT:List B1
 Var:Int
 Field:Int
 Kind:Int
 Value:I9
structure A0 where
 Op:Int
 cT:List A0
 Typ:Int
 Var:Int
 cY:Int
 Span:Int
 cU:B1
structure A3 where
 Low:Int
 cV:Int
structure D4 where
 cX:List (List A3)
structure K0 where
 dE:Int
 To:Int
 On:D4
structure D7 where
 dJ:Int
 dK:List Bool
 dA:List K0
structure K8 where
 Typ:Int
 Num:Int
structure U4 where
 cY:Int
 Typ:Int
 Var:Int
 cU:B1
structure FK where
 dM:List U4
structure V9 where
 cY:Int
 Span:Int
structure C4 where
 dE:Int
 To:Int
 Var:Int
 Typ:Int
 cU:B1
 dG:List Int
 dI:List Int
 dD:List B1
 dF:List V9
 dH:List Int
structure E2 where
 Vars:Int
 dL:Int
 cZ:List FK
 dC:List C4
structure B3 where
 Name:ByteArray
 Typ:Int
structure De where
 types:List F6
 vars:List B3
structure I0 where
 times:Int
 plus:Int
structure B0 where
 Edge:C4
 Done:Bool
 Rest:A0
structure A6 where
 done:Bool
 p:A0
structure Q2 where
 least:Int
 most:Int
 typed:Bool
 cond:Bool
 scope:Bool
 span:Bool
def M8:List Q2:=[⟨0,0,true,true,false,false⟩,⟨2,64,false,false,false,false⟩,⟨2,64,false,false,false,false⟩,⟨2,64,false,false,false,false⟩,⟨1,1,false,false,false,false⟩,⟨1,1,true,true,true,false⟩,⟨1,1,false,false,true,true⟩,⟨1,1,false,true,false,false⟩,⟨2,2,false,false,false,false⟩,⟨1,1,true,true,true,false⟩,⟨1,1,false,false,true,true⟩]
end Go.Ab
namespace Go.Ab
variable [Ar]
class L7 where
 eBi8:V7→V
 eBh4:F6→V
 eBk4:I9→V
 eBh2:B1→V
 eBg8:A0→V
 eBg7:A3→V
 eBk1:D4→V
 eBh7:K0→V
 eBk8:D7→V
 eBh9:K8→V
 eBi5:U4→V
 eBi3:FK→V
 eBi1:V9→V
 eBg9:C4→V
 eBk9:E2→V
 eBh6:B3→V
 eBl0:De→V
 eBl1:I0→V
 eBh8:B0→V
 eBl2:A6→V
 eBk5:Q2→V
 eBj2:List B1→V
 eBk6:List K8→V
 eLI:List Int→V
 eBj4:List V9→V
 eBh3:List A3→V
 eBi9:∀x,eBi8 x= .agg [.str x.Name,.int .i64 x.Kind]
 eBi7:∀x,eBh4 x= .agg [.str x.Name,.sl (lst eBi8 x.Fields) .ro]
 eBk7:∀x,eBk4 x= .agg [.int .i64 x.Kind,.int .i64 x.Num,.str x.Text]
 eBi0:∀x,eBh2 x= .agg [.int .i64 x.Op,.sl (lst eBh2 x.cT) .ro,.int .i64 x.Var,.int .i64 x.Field,.int .i64 x.Kind,.int .i64 x.Value.Kind,.int .i64 x.Value.Num,.str x.Value.Text]
 eBh0:∀x,eBg8 x= .agg [.int .i64 x.Op,.sl (lst eBg8 x.cT) .ro,.int .i64 x.Typ,.int .i64 x.Var,.int .i64 x.cY,.int .i64 x.Span,.int .i64 x.cU.Op,.sl (lst eBh2 x.cU.cT) .ro,.int .i64 x.cU.Var,.int .i64 x.cU.Field,.int .i64 x.cU.Kind,.int .i64 x.cU.Value.Kind,.int .i64 x.cU.Value.Num,.str x.cU.Value.Text]
 eBh1:∀x,eBg7 x= .agg [.int .i64 x.Low,.int .i64 x.cV]
 eBj7:∀x,eBk1 x= .agg [.sl (lst eBh3 x.cX) .ro]
 eBi2:∀x,eBh7 x= .agg [.int .i64 x.dE,.int .i64 x.To,.sl (lst eBh3 x.On.cX) .ro]
 eBl4:∀x,eBk8 x= .agg [.int .i64 x.dJ,.sl (lst V.bool x.dK) .ro,.sl (lst eBh7 x.dA) .ro]
 eBj5:∀x,eBh9 x= .agg [.int .i64 x.Typ,.int .i64 x.Num]
 eBk2:∀x,eBi5 x= .agg [.int .i64 x.cY,.int .i64 x.Typ,.int .i64 x.Var,.int .i64 x.cU.Op,.sl (lst eBh2 x.cU.cT) .ro,.int .i64 x.cU.Var,.int .i64 x.cU.Field,.int .i64 x.cU.Kind,.int .i64 x.cU.Value.Kind,.int .i64 x.cU.Value.Num,.str x.cU.Value.Text]
 eBk3:∀x,eBi3 x= .agg [.sl (lst eBi5 x.dM) .ro]
 eBj6:∀x,eBi1 x= .agg [.int .i64 x.cY,.int .i64 x.Span]
 eBi6:∀x,eBg9 x= .agg [.int .i64 x.dE,.int .i64 x.To,.int .i64 x.Var,.int .i64 x.Typ,.int .i64 x.cU.Op,.sl (lst eBh2 x.cU.cT) .ro,.int .i64 x.cU.Var,.int .i64 x.cU.Field,.int .i64 x.cU.Kind,.int .i64 x.cU.Value.Kind,.int .i64 x.cU.Value.Num,.str x.cU.Value.Text,.sl (lst (V.int .i64) x.dG) .ro,.sl (lst (V.int .i64) x.dI) .ro,.sl (lst eBh2 x.dD) .ro,.sl (lst eBi1 x.dF) .ro,.sl (lst (V.int .i64) x.dH) .ro]
 eBl5:∀x,eBk9 x= .agg [.int .i64 x.Vars,.int .i64 x.dL,.sl (lst eBi3 x.cZ) .ro,.sl (lst eBg9 x.dC) .ro]
 eBj0:∀x,eBh6 x= .agg [.str x.Name,.int .i64 x.Typ]
 eBl6:∀x,eBl0 x= .agg [.sl (lst eBh4 x.types) .ro,.sl (lst eBh6 x.vars) .ro]
 eBl7:∀x,eBl1 x= .agg [.int .i64 x.times,.int .i64 x.plus]
 eBi4:∀x,eBh8 x= .agg [.int .i64 x.Edge.dE,.int .i64 x.Edge.To,.int .i64 x.Edge.Var,.int .i64 x.Edge.Typ,.int .i64 x.Edge.cU.Op,.sl (lst eBh2 x.Edge.cU.cT) .ro,.int .i64 x.Edge.cU.Var,.int .i64 x.Edge.cU.Field,.int .i64 x.Edge.cU.Kind,.int .i64 x.Edge.cU.Value.Kind,.int .i64 x.Edge.cU.Value.Num,.str x.Edge.cU.Value.Text,.sl (lst (V.int .i64) x.Edge.dG) .ro,.sl (lst (V.int .i64) x.Edge.dI) .ro,.sl (lst eBh2 x.Edge.dD) .ro,.sl (lst eBi1 x.Edge.dF) .ro,.sl (lst (V.int .i64) x.Edge.dH) .ro,.bool x.Done,.int .i64 x.Rest.Op,.sl (lst eBg8 x.Rest.cT) .ro,.int .i64 x.Rest.Typ,.int .i64 x.Rest.Var,.int .i64 x.Rest.cY,.int .i64 x.Rest.Span,.int .i64 x.Rest.cU.Op,.sl (lst eBh2 x.Rest.cU.cT) .ro,.int .i64 x.Rest.cU.Var,.int .i64 x.Rest.cU.Field,.int .i64 x.Rest.cU.Kind,.int .i64 x.Rest.cU.Value.Kind,.int .i64 x.Rest.cU.Value.Num,.str x.Rest.cU.Value.Text]
 eBl8:∀x,eBl2 x= .agg [.bool x.done,.int .i64 x.p.Op,.sl (lst eBg8 x.p.cT) .ro,.int .i64 x.p.Typ,.int .i64 x.p.Var,.int .i64 x.p.cY,.int .i64 x.p.Span,.int .i64 x.p.cU.Op,.sl (lst eBh2 x.p.cU.cT) .ro,.int .i64 x.p.cU.Var,.int .i64 x.p.cU.Field,.int .i64 x.p.cU.Kind,.int .i64 x.p.cU.Value.Kind,.int .i64 x.p.cU.Value.Num,.str x.p.cU.Value.Text]
 eBl3:∀x,eBk5 x= .agg [.int .i64 x.least,.int .i64 x.most,.bool x.typed,.bool x.cond,.bool x.scope,.bool x.span]
 eBj8:∀x,eBj2 x= .sl (lst eBh2 x) .ro
 eBj9:∀x,eBk6 x= .sl (lst eBh9 x) .ro
 eBj1:∀x,eLI x= .sl (lst (V.int .i64) x) .ro
 eBk0:∀x,eBj4 x= .sl (lst eBi1 x) .ro
 eBh5:∀x,eBh3 x= .sl (lst eBg7 x) .ro
def OB [L7](x:B1):(L7.eBh2 x).cells.length=8:=by rw[L7.eBi0];rfl
def N3 [L7](x:A0):(L7.eBg8 x).cells.length=14:=by rw[L7.eBh0];rfl
def G8 [L7](x:A3):(L7.eBg7 x).cells.length=2:=by rw[L7.eBh1];rfl
def OA [L7](x:K0):(L7.eBh7 x).cells.length=3:=by rw[L7.eBi2];rfl
def RT [L7](x:K8):(L7.eBh9 x).cells.length=2:=by rw[L7.eBj5];rfl
def JD [L7](x:U4):(L7.eBi5 x).cells.length=11:=by rw[L7.eBk2];rfl
def Ut [L7](x:FK):(L7.eBi3 x).cells.length=1:=by rw[L7.eBk3];rfl
def PI [L7](x:V9):(L7.eBi1 x).cells.length=2:=by rw[L7.eBj6];rfl
def Gv [L7](x:C4):(L7.eBg9 x).cells.length=17:=by rw[L7.eBi6];rfl
def Oz [L7](x:B3):(L7.eBh6 x).cells.length=2:=by rw[L7.eBj0];rfl
def Kh [L7](x:B0):(L7.eBh8 x).cells.length=32:=by rw[L7.eBi4];rfl
def FN [L7](x:List A3):(L7.eBh3 x).cells.length=1:=by rw[L7.eBh5];rfl
variable [L7]
abbrev U5 (x:B0):List V:=[.int .i64 x.Edge.dE,.int .i64 x.Edge.To,.int .i64 x.Edge.Var,.int .i64 x.Edge.Typ,.int .i64 x.Edge.cU.Op,.sl (lst L7.eBh2 x.Edge.cU.cT) .ro,.int .i64 x.Edge.cU.Var,.int .i64 x.Edge.cU.Field,.int .i64 x.Edge.cU.Kind,.int .i64 x.Edge.cU.Value.Kind,.int .i64 x.Edge.cU.Value.Num,.str x.Edge.cU.Value.Text,.sl (lst (V.int .i64) x.Edge.dG) .ro,.sl (lst (V.int .i64) x.Edge.dI) .ro,.sl (lst L7.eBh2 x.Edge.dD) .ro,.sl (lst L7.eBi1 x.Edge.dF) .ro,.sl (lst (V.int .i64) x.Edge.dH) .ro,.bool x.Done,.int .i64 x.Rest.Op,.sl (lst L7.eBg8 x.Rest.cT) .ro,.int .i64 x.Rest.Typ,.int .i64 x.Rest.Var,.int .i64 x.Rest.cY,.int .i64 x.Rest.Span,.int .i64 x.Rest.cU.Op,.sl (lst L7.eBh2 x.Rest.cU.cT) .ro,.int .i64 x.Rest.cU.Var,.int .i64 x.Rest.cU.Field,.int .i64 x.Rest.cU.Kind,.int .i64 x.Rest.cU.Value.Kind,.int .i64 x.Rest.cU.Value.Num,.str x.Rest.cU.Value.Text]
abbrev O0 (x:B0):V:=.agg (U5 x)
abbrev U3 (x:C4):List V:=[.int .i64 x.dE,.int .i64 x.To,.int .i64 x.Var,.int .i64 x.Typ,.int .i64 x.cU.Op,.sl (lst L7.eBh2 x.cU.cT) .ro,.int .i64 x.cU.Var,.int .i64 x.cU.Field,.int .i64 x.cU.Kind,.int .i64 x.cU.Value.Kind,.int .i64 x.cU.Value.Num,.str x.cU.Value.Text,.sl (lst (V.int .i64) x.dG) .ro,.sl (lst (V.int .i64) x.dI) .ro,.sl (lst L7.eBh2 x.dD) .ro,.sl (lst L7.eBi1 x.dF) .ro,.sl (lst (V.int .i64) x.dH) .ro]
abbrev K1 (x:C4):V:=.agg (U3 x)
abbrev M5 (x:A6):List V:=[.bool x.done,.int .i64 x.p.Op,.sl (lst L7.eBg8 x.p.cT) .ro,.int .i64 x.p.Typ,.int .i64 x.p.Var,.int .i64 x.p.cY,.int .i64 x.p.Span,.int .i64 x.p.cU.Op,.sl (lst L7.eBh2 x.p.cU.cT) .ro,.int .i64 x.p.cU.Var,.int .i64 x.p.cU.Field,.int .i64 x.p.cU.Kind,.int .i64 x.p.cU.Value.Kind,.int .i64 x.p.cU.Value.Num,.str x.p.cU.Value.Text]
abbrev C2 (x:A6):V:=.agg (M5 x)
abbrev E1 (x:A0):List V:=[.int .i64 x.Op,.sl (lst L7.eBg8 x.cT) .ro,.int .i64 x.Typ,.int .i64 x.Var,.int .i64 x.cY,.int .i64 x.Span,.int .i64 x.cU.Op,.sl (lst L7.eBh2 x.cU.cT) .ro,.int .i64 x.cU.Var,.int .i64 x.cU.Field,.int .i64 x.cU.Kind,.int .i64 x.cU.Value.Kind,.int .i64 x.cU.Value.Num,.str x.cU.Value.Text]
abbrev C9 (x:A0):V:=.agg (E1 x)
abbrev Aq (x:B1):List V:=[.int .i64 x.Op,.sl (lst L7.eBh2 x.cT) .ro,.int .i64 x.Var,.int .i64 x.Field,.int .i64 x.Kind,.int .i64 x.Value.Kind,.int .i64 x.Value.Num,.str x.Value.Text]
abbrev U9 (x:B1):V:=.agg (Aq x)
abbrev MI (x:E2):List V:=[.int .i64 x.Vars,.int .i64 x.dL,.sl (lst L7.eBi3 x.cZ) .ro,.sl (lst L7.eBg9 x.dC) .ro]
abbrev IH (x:E2):V:=.agg (MI x)
abbrev GN (x:Q2):List V:=[.int .i64 x.least,.int .i64 x.most,.bool x.typed,.bool x.cond,.bool x.scope,.bool x.span]
abbrev KV (x:Q2):V:=.agg (GN x)
abbrev H6 (x:D7):List V:=[.int .i64 x.dJ,.sl (lst V.bool x.dK) .ro,.sl (lst L7.eBh7 x.dA) .ro]
abbrev X0 (x:D7):V:=.agg (H6 x)
abbrev Pt (x:De):List V:=[.sl (lst L7.eBh4 x.types) .ro,.sl (lst L7.eBh6 x.vars) .ro]
abbrev Oy (x:De):V:=.agg (Pt x)
abbrev WB (x:K0):List V:=[.int .i64 x.dE,.int .i64 x.To,.sl (lst L7.eBh3 x.On.cX) .ro]
abbrev Fp (x:K0):V:=.agg (WB x)
abbrev Pu (x:F6):List V:=[.str x.Name,.sl (lst L7.eBi8 x.Fields) .ro]
abbrev LV (x:F6):V:=.agg (Pu x)
abbrev Ak8 (x:I9):List V:=[.int .i64 x.Kind,.int .i64 x.Num,.str x.Text]
abbrev MN (x:I9):V:=.agg (Ak8 x)
abbrev Bg (x:D4):List V:=[.sl (lst L7.eBh3 x.cX) .ro]
abbrev J8 (x:D4):V:=.agg (Bg x)
abbrev FG (x:I0):List V:=[.int .i64 x.times,.int .i64 x.plus]
abbrev Dh (x:I0):V:=.agg (FG x)
abbrev TE (x:A3):List V:=[.int .i64 x.Low,.int .i64 x.cV]
abbrev Ae (x:A3):V:=.agg (TE x)
abbrev Z3 (x:K8):List V:=[.int .i64 x.Typ,.int .i64 x.Num]
abbrev LU (x:K8):V:=.agg (Z3 x)
abbrev AQ3 (x:V7):List V:=[.str x.Name,.int .i64 x.Kind]
abbrev Ag4 (x:V7):V:=.agg (AQ3 x)
end Go.Ab
