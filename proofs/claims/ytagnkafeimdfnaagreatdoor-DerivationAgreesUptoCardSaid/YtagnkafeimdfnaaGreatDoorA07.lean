/- . -/
import Derived.Test.YtagnkafeimdfnaaGreatDoorA05
import Derived.Laws.Externs
import Derived.Sort.Grow
import Derived.Shelf.Strconv.Itoa1
import Derived.Shelf.Sort.Plain
import Derived.Shelf.Slices.In.SortNone
import Derived.Shelf.Slices.CompactI
import Derived.KernelRfl
import Derived.Shelf.SlSortCmp.NoneTotal
import Derived.Test.YtagnkafeimdfnaaGreatDoorChecked
set_option linter.all false
open Go.Ab.Ar (len_eq lst lst_eq ofs ofs_eq)
namespace Go.Ab
open Go.RowKit
variable [P3][Ar]
def JU (l:Fl):Fl->Prop
 |[]=>True
 |(k,s)::r=>DK (EQ l k) s.V/\(∀j w x,s≠ .g j w x)/\JU l r
def JU.wk {l:Fl}:∀{r:Fl},JU l r->∀t,Wk (EQ l t) (EQ r t)
 |[],_,t=>Wk.bad _
 | (k,s)::r,h,t=>by
  simp only[EQ]
  cases A:Nat.beq t k with
  |true=>
   have:=DS A;subst this
   cases s with
   |v x=>exact h.1.wk
   |b c=>exact h.1.wk
   |g j w x=>exact absurd rfl (h.2.1 j w x)
  |false=>exact JU.wk h.2.2 t
def JU.v {l r:Fl}{k:Nat}{x:V}(h:DK (EQ l k) x)(a:JU l r):JU l ((k,.v x)::r):=⟨h,λ_ _ _ h=>(by cases h),a⟩
def JU.b {l r:Fl}{k:Nat}{c:Bool}(h:EQ l k= .bool c)(a:JU l r):JU l ((k,.b c)::r):=⟨h▸ .refl _,λ_ _ _ h=>(by cases h),a⟩
def JU.e {l r:Fl}{k:Nat}{x:V}(h:EQ l k=x)(a:JU l r):JU l ((k,.v x)::r):=⟨h▸ .refl _,λ_ _ _ h=>(by cases h),a⟩
def JU.z {l:Fl}:JU l []:=trivial
def Wk.trans {x y z:V}(h:Wk x y)(k:Wk y z):Wk x z:=λg w v a=>k g w v (h g w v a)
theorem Iq.le {fr:Fr}{l a:Fl}{df:Up Nat}(h:Iq fr ⟨l,df⟩)(k:JU l a):Iq fr ⟨a,df⟩:=⟨λt=>(h.s t).trans (k.wk t),h.df⟩
def F3 {α:Type}{f:α->V}:([]:Up V)=lst f []:=by rw[lst_eq];rfl
def I6 {α:Type}{f:α->V}{v:V}{vs:Up V}{x:α}{l:Up α}(h:v=f x)(k:vs=lst f l):v::vs=lst f (x::l):=by
 rw[h,k,lst_eq,lst_eq];rfl
theorem MN {α:Type}{f:α->V}(l m:Up α):lst f l++lst f m=lst f (l++m):=by simp[lst_eq]
def M7 {α:Type}{f:α->V}(l:Up α):(lst f l).length=l.length:=by simp[lst_eq]
def Qv {α:Type}{f:α->V}{sz:Nat}(h:∀x,(f x).cells.length=sz)(l:Up α):(lst f l).all (λx=>x.cells.length==sz)=true:=by
 rw[lst_eq];simp[h]
def M2.lst0 {α:Type}{f:α->V}:M2 [] (lst f []):=by rw[<-F3];exact .nil
def M2.lstc {α:Type}{f:α->V}{v:V}{vs:Up V}{x:α}{l:Up α}(h:DK v (f x))(k:M2 vs (lst f l)):M2 (v::vs) (lst f (x::l)):=by
 rw[<-I6 rfl rfl];exact .cons h k
def DK.eq {v x y:V}(h:y=x)(k:DK v x):DK v y:=h▸k
def DK.lit {xs ys:Up V}(t:J8)(h:xs=ys):DK (.sl xs t) (.sl ys .ro):=h▸ .ro _ _
section
variable {P:Program}{nt:Nat}{rd:Option Nat}{T:JI}{E:Hj}
variable (hE:E=J3 P nt rd)
include hE
theorem C2 {R:Type}{c:Bool}{x y:Unit->Prop}{a b:OS R}{r:R}(h:(if c=true then a else b)=some r)(O:c=true->a=some r->x ())(Z:c=false->b=some r->y ()):E.br c x y:=by
 grind[J3]
theorem BB3 {c:Bool}{x y:Unit->Prop}(O:c=true->x ())(Z:c=false->y ()):E.br c x y:=by simp_all[J3]
theorem LY {p:Prop}{k:Unit->Prop}(h:p)(W:k ()):E.need p k:=by simp_all[J3]
theorem Ur {R:Type}{b:Bool}{k:Unit->Prop}{F:Unit->OS R}{r:R}(h:(El b).bind F=some r)(W:F ()=some r->k ()):E.needB b k:=by
 grind[J3,El]
theorem Pm {b:Bool}{k:Unit->Prop}(A:b=true)(W:k ()):E.needB b k:=by simp_all[J3]
theorem Mt {e:BinOp}{a b:Int}(h:RG e a b=true):Ar.cmp e a b=true:=by rw[Ar.cmp_eq];exact h
theorem K2 {α:Type}{f:α->V}{l:Up α}{k:Int->Prop}(h:k (Ar.len l)):E.ln (lst f l) k:=by
 subst hE
 show k _
 rw[M7,<-len_eq];exact h
theorem E6 {α R:Type} {f g:α->V} (y:∀x,f x=g x) {l:Up α} {i:Int} {k:V->Prop} {F:α->OS R} {r:R} (h:(C7 l i).bind F=some r) (W:∀x,F x=some r->k (g x)):E.idx (lst f l) i k:=by
 subst hE;have⟨x,O,Z⟩:=bind_some h
 unfold C7 at O
 split at O
 ·rename_i a
  have e:i.toNat<l.length:=by
   grind
  refine⟨⟨a,by rw[M7];omega⟩,?_⟩;rw[lst_eq,AD,Az,O]
  simp_all
 cases O
theorem Pj {α R:Type} {f:α->V} {sz:Nat} (i:∀x,(f x).cells.length=sz) {l:Up α} {tl:J8} {lo U a:OS Int} {k:V->Prop} {F:Up α->OS R} {r:R} (h:(R6 l lo U a).bind F=some r)
 (W:∀x t,F x=some r->k (.sl (lst f x) t)):E.slice sz (lst f l) tl lo U a k:=by
 subst hE;have⟨x,O,Z⟩:=bind_some h
 unfold R6 at O
 split at O
 ·rename_i e;have⟨y,N,c3,c4,c5⟩:=e;cases O;refine⟨?_,?_⟩
  ·rw[M7]
   simp_all[Qv]
  rw[M7,lst_eq,<-List.map_drop,<-List.map_take];have:=W _ (LL (lo.getD 0).toNat (U.getD l.length).toNat l.length a tl) Z
  rwa[lst_eq]at this
 cases O
theorem B3 {R S:Type}{m:OS S}{F:S->OS R}{r:R}{f:FuncId}{args args':Up V}{g:S->V}{H:A6}{k:V->A6->Prop}(h:m.bind F=some r)(a:∀x,m=some x->B8 P f args' (g x))(B:M2 args args')
 (W:∀x,F x=some r->k (g x) H):E.call (.func (.func f) [] []) args H k:=by
 subst hE;have⟨x,O,Z⟩:=bind_some h
 exact Y6.at (B8.value (F:=[]) (C:=[]) (by simpa using(a x O).args B)) (W x Z)
theorem E3 {R S:Type}{m:OS S}{F:S->OS R}{r:R}{f:FuncId}{args args':Up V}{g:S->V}{H:A6}{k:V->Prop}(h:m.bind F=some r)(a:∀x,m=some x->B8 P f args' (g x))(B:M2 args args')
 (W:∀x,F x=some r->k (g x)):E.pcall H (.func (.func f) [] []) args k:=by
 subst hE;have⟨x,O,Z⟩:=bind_some h;exact⟨g x,(B8.value (F:=[]) (C:=[]) (by simpa using(a x O).args B)).toH H,W x Z⟩
theorem AM {R S:Type}{m:OS S}{F:S->OS R}{r:R}{a:V}{args args':Up V}{g:S->V}{H:A6}{k:V->A6->Prop}(h:m.bind F=some r)(e:∀x,m=some x->Y6 P a args' (g x))(B:M2 args args')
 (W:∀x,F x=some r->k (g x) H):E.call a args H k:=by
 subst hE;have⟨x,O,Z⟩:=bind_some h
 exact Y6.at ((e x O).args B) (W x Z)
theorem Ah3 {R S:Type}{m:OS S}{F:S->OS R}{r:R}{a:V}{args args':Up V}{g:S->V}{H:A6}{k:V->Prop}(h:m.bind F=some r)(e:∀x,m=some x->Y6 P a args' (g x))(B:M2 args args')
 (W:∀x,F x=some r->k (g x)):E.pcall H a args k:=by
 subst hE;have⟨x,O,Z⟩:=bind_some h;exact⟨g x,((e x O).args B).toH H,W x Z⟩
theorem C3 {Φ:A6->A6->Prop}{H0 H:A6}{L:Up En}(a:B9 Φ H0 L H)(i:Nat){id:Nat}{cs:Up V}{k:Up V->Prop}(U:L[i]? =some (.blk id (.cells cs)))(W:k cs):E.load H id k:=by
 subst hE;exact⟨cs,a.get i U,W⟩
theorem C5 {Φ:A6->A6->Prop}{H0 H:A6}{L:Up En}(a:B9 Φ H0 L H)(i:Nat){id off sz:Nat}{cs vs:Up V}{k:A6->Prop}(U:L[i]? =some (.blk id (.cells cs)))(A:Nat.ble (off+sz) cs.length=true)
 (W:∀H',B9 Φ H0 (L.set i (.blk id (.cells (AF cs off vs)))) H'->k H'):E.store H id off sz vs k:=by
 subst hE;exact⟨cs,vs,.refl _,a.get i U,A,W _ (a.set i U)⟩
theorem Ow {Φ:A6->A6->Prop}{H0 H:A6}{L:Up En}(a:B9 Φ H0 L H)(i:Nat){id off sz:Nat}{cs vs vs':Up V}{k:A6->Prop}(U:L[i]? =some (.blk id (.cells cs)))(A:Nat.ble (off+sz) cs.length=true)(B:M2 vs vs')
 (W:∀H',B9 Φ H0 (L.set i (.blk id (.cells (AF cs off vs')))) H'->k H'):E.store H id off sz vs k:=by
 subst hE;exact⟨cs,vs',B,a.get i U,A,W _ (a.set i U)⟩
theorem G0 {Φ:A6->A6->Prop}{H0 H:A6}{L:Up En}(e:B9 Φ H0 L H){cs:Up V}{k:Nat->A6->Prop}(W:∀id H',B9 Φ H0 (.blk id (.cells cs)::L) H'->k id H'):E.alloc H cs k:=by
 subst hE;exact λid a=>W id _ (e.push a rfl)
theorem BB1 {Φ:A6->A6->Prop}{H0 H:A6}{L:Up En}(a:B9 Φ H0 L H)(i:Nat){id:Nat}{cs:Up V}{k:Up V->A6->Prop}(U:L[i]? =some (.blk id (.cells cs)))(W:∀H',B9 Φ H0 (L.eraseIdx i) H'->k cs H'):E.frzL H id k:=by
 subst hE;exact⟨cs,cs,a.get i U,.refl _,W _ (a.del i U)⟩
theorem Bu4 {Φ:A6->A6->Prop}{H0 H:A6}{L:Up En}(a:B9 Φ H0 L H)(i:Nat){id:Nat}{cs ds:Up V}{k:Up V->A6->Prop}(U:L[i]? =some (.blk id (.cells cs)))(B:M2 cs ds)(W:∀H',B9 Φ H0 (L.eraseIdx i) H'->k ds H'):E.frzL H id k:=by
 subst hE;exact⟨cs,ds,a.get i U,B,W _ (a.del i U)⟩
theorem AX0 {α R:Type} {g:α->V} {cs:Up V} {off sz n:Nat} {l:Up α} {i:Int} {k:V->Prop} {F:α->OS R} {r:R} (N:cs=l.flatMap λx=>(g x).cells) (e:∀x,(g x).cells.length=sz) (u:l.length=n) (j:off=0)
 (h:(C7 l i).bind F=some r) (W:∀x,F x=some r->k (.eref (g x).cells 0)):E.elem cs off sz n i k:=by
 subst hE;subst j;have⟨x,O,Z⟩:=bind_some h
 unfold C7 at O
 split at O
 ·rename_i s
  have key:∀(l:Up α) (m:Nat) (x:α),l[m]? =some x->(((l.flatMap λx=>(g x).cells).drop (m*sz)).take sz)=(g x).cells/\m<l.length/\(l.flatMap λx=>(g x).cells).length=l.length*sz:=by
   intro l
   induction l with
   |nil=>simp_all
   | cons y l ih=>
    intro m x h
    have a:∀l:Up α,(l.flatMap λx=>(g x).cells).length=l.length*sz:=by
     intro l
     induction l with
     |nil=>simp
     |cons z l ih=>grind
    refine⟨?_,?_,a _⟩
    ·cases m with
     |zero=>
      simp_all
     |succ m=>
      have:=(ih m x za7).1;rw[X9,show(m+1)*sz=(g y).cells.length+m*sz by rw[e,E2,W3];omega,List.drop_append,];rw[BM za2,I1,show(g y).cells.length+m*sz-(g y).cells.length=m*sz by omega];exact this
    grind
  grind[J3]
 cases O
theorem Zh {α R:Type} {f:α->V} {sz by_:Nat} (a:∀x,(f x).cells.length=sz) (e:by_<=131072) {xs ys:Up V} {l m:Up α} {k:V->Prop} {F:Up α->OS R} {r:R} (M:M2 xs (lst f l)) (y:M2 ys (lst f m)) (h:(V7 l m).bind F=some r)
 (W:∀x,F x=some r->k (.sl (lst f x) .ro)):E.appq sz by_ xs ys k:=by
 subst hE;have⟨x,O,Z⟩:=bind_some h
 unfold V7 at O
 split at O
 ·rename_i i;cases O;refine⟨_,_,M,y,Qv a l,Qv a m,?_,?_⟩
  ·rw[M7,M7];exact P8 (Ax i e) za5
  grind[MN]
 cases O
theorem GD {α R:Type} {f:α->V} {sz by_:Nat} (y:∀x,(f x).cells.length=sz) (s:by_<=131072) {Φ:A6->A6->Prop} {H0 H:A6} {L:Up En} (N:B9 Φ H0 L H) (i:Nat) {tl:J8} (U:L[i]? =some (.tl tl)) (v:Ed tl)
 {xs ys:Up V} {l m:Up α} {k:V->A6->Prop} {F:Up α->OS R} {r:R} (M:M2 xs (lst f l)) (C:M2 ys (lst f m)) (h:(V7 l m).bind F=some r)
 (W:∀x a H',B9 Φ H0 (L.set i (.tl a)) H'->Ed a->F x=some r->k (.sl (lst f x) a) H'):E.appn sz by_ H tl xs ys k:=by
 subst hE;have⟨x,O,Z⟩:=bind_some h
 unfold V7 at O
 split at O
 ·rename_i z;cases O;refine⟨_,_,M,C,N.appOk i U v,Qv y l,Qv y m,?_,λA=>?_,λt j B=>?_⟩
  ·rw[M7,M7];exact P8 (Ax z s) za5
  ·have u:m=[]:=by
    have:=G2 List.length A
    rw[M7]at this
    simp_all
   subst u
   have:=W _ tl H (by
    have e:L.set i (.tl tl)=L:=by
     apply CZ
     grind
    rw[e];exact N) v Z
   rwa[E5]at this
  rw[MN];exact W _ _ _ (N.tok i U B) trivial Z
 cases O
end
section
variable {P:Program}{nt:Nat}{rd:Option Nat}{T:JI}{E:Hj}
abbrev Yv (P:If)(T:JI):Prop:=Nk P T/\P.follows .mixedOrders=true
def Q5 (y:Cf)(hE:E=J3 P nt rd)(N:Yv P T){c:Code}{st:St}{H:A6}{K:Exit->St->A6->Prop}(X:Exit->Fl->A6->Prop)(hd:N8 y c=true)
 (h:AU3 E T nt y c st H λe x H'=>∃l,X e l H'/\JU x.l l/\x.df=st.df) (i:∀e l H',X e l H'->K e ⟨l,st.df⟩ H'):E.sim c st H K:=by
 subst hE;refine(Ar9 N.1 N.2 c _ _ _ hd h).mono λe j s ⟨x,a,l,J,O,Z⟩=>?_;exact⟨⟨l,st.df⟩,⟨λt=>(a.s t).trans (O.wk t),a.df.trans Z⟩,i _ _ _ J⟩
def I8 (B:Cf) (hE:E=J3 P nt rd) (G:Yv P T) {σ R:Type} {step:σ->OS (σ⊕R)} {c:Code} {st:St} {H:A6} {K:Exit->St->A6->Prop} (fm:σ->Fl) (Inv:σ->A6->Prop) (X:R->Exit->Fl->A6->Prop) (hd:N8 B c=true)
 (j:∀s H o,Inv s H->step s=some o->run E T nt B c ⟨fm s,st.df⟩ H λe i H'=>match e with
  | .normal=>∃v,o= .inl v/\JU i.l (fm v)/\i.df=st.df/\Inv v H'
  |e=>∃x l,o= .inr x/\X x e l H'/\JU i.l l/\i.df=st.df)
 {N:Nat} {s0:σ} {r:R} (h:loopN step N s0=some r) (Y:JU st.l (fm s0)) (W:Inv s0 H) (y:∀e l H',X r e l H'->K e ⟨l,st.df⟩ H'):E.sim (.loop c) st H K:=by
 subst hE;refine Br.loopN (λn u H'=>∃s,loopN step n s=some r/\Iq u ⟨fm s,st.df⟩/\Inv s H') N ⟨s0,h,⟨λt=>Y.wk t,rfl⟩,W⟩ λn u H' ⟨s,C,hle,U⟩=>?_
 cases n with
 |zero=>cases C
 | succ n=>
  simp only[loopN]at C
  cases z:step s with
  |none=>rw[z]at C;cases C
  | some o=>
   rw[z]at C
   refine Br.frLe hle ((T5 G.1 G.2 c _ _ _ hd (j s H' o U z)).mono λe M H2 ⟨i,a,Q⟩=>?_)
   cases e with
   |normal=>
    have⟨v,O,Z,J,A⟩:=Q;subst O;exact⟨n,KR n,v,C,⟨λt=>(a.s t).trans (Z.wk t),a.df.trans J⟩,A⟩
   |_=>
    have⟨x,l,O,A,Z,J⟩:=Q;subst O;cases C;exact⟨⟨l,st.df⟩,⟨λt=>(a.s t).trans (Z.wk t),a.df.trans J⟩,y _ _ _ A⟩
def S6 (B:Cf) (hE:E=J3 P nt rd) (G:Yv P T) {σ γ R:Type} {step:σ->OS (σ⊕R)} {c:Code} {st:St} {H:A6} {K:Exit->St->A6->Prop} (fm:σ->γ->Fl) (Inv:σ->γ->A6->Prop) (X:R->Exit->Fl->A6->Prop) (hd:N8 B c=true)
 (j:∀s g H o,Inv s g H->step s=some o->run E T nt B c ⟨fm s g,st.df⟩ H λe i H'=>match e with
  | .normal=>∃v g',o= .inl v/\JU i.l (fm v g')/\i.df=st.df/\Inv v g' H'
  |e=>∃x l,o= .inr x/\X x e l H'/\JU i.l l/\i.df=st.df)
 {N:Nat} {s0:σ} (g0:γ) {r:R} (h:loopN step N s0=some r) (Y:JU st.l (fm s0 g0)) (W:Inv s0 g0 H) (y:∀e l H',X r e l H'->K e ⟨l,st.df⟩ H'):E.sim (.loop c) st H K:=by
 subst hE;refine Br.loopN (λn u H'=>∃s g,loopN step n s=some r/\Iq u ⟨fm s g,st.df⟩/\Inv s g H') N ⟨s0,g0,h,⟨λt=>Y.wk t,rfl⟩,W⟩ λn u H' ⟨s,g,C,hle,U⟩=>?_
 cases n with
 |zero=>cases C
 | succ n=>
  simp only[loopN]at C
  cases z:step s with
  |none=>rw[z]at C;cases C
  | some o=>
   rw[z]at C
   refine Br.frLe hle ((T5 G.1 G.2 c _ _ _ hd (j s g H' o U z)).mono λe M H2 ⟨i,a,Q⟩=>?_)
   cases e with
   |normal=>
    have⟨v,g',O,Z,J,A⟩:=Q;subst O;exact⟨n,KR n,v,g',C,⟨λt=>(a.s t).trans (Z.wk t),a.df.trans J⟩,A⟩
   |_=>
    have⟨x,l,O,A,Z,J⟩:=Q;subst O;cases C;exact⟨⟨l,st.df⟩,⟨λt=>(a.s t).trans (Z.wk t),a.df.trans J⟩,y _ _ _ A⟩
def Xh {f:FuncId}{fn:Func}{c:Code}{n:Nat}{rs:Up ResultVar}{args:Up V}{r:V}(e:Cf)(s:Yv P T)(v:P.funcs[f]? =some fn)(A:fn.body=some c)(hd:N8 e c=true)
 (a:∀vals w,(callFunc f vals).run P w= .ok (.enter f vals) w) (i:fn.ntmps=n) (N:fn.results.toList=rs) (z:Nat.ble args.length n=true)
 (h:∀(E:Hj) (H:A6) (K:V->A6->Prop),E=J3 P n none->(∀x L H',B9 Eq H L H'->DK x r->K x H')->run E T n e c ⟨FA args 0,[]⟩ H (SI E T rs K)):B8 P f args r:=λH=>by
 refine(Bp (K:=λx H'=>∃y j,DK x y/\KA j H'/\y=r/\j=H) e s.1 s.2 v A hd a i N z λE hE=>?_).le;exact h E H _ hE λx L H' u M=>⟨r,H,M,u.ext,rfl,rfl⟩
end
abbrev DB:KB:=.obj (.deferred (some []))
section
variable {P:Program}{nt:Nat}{rd:Option Nat}{T:JI}{E:Hj}
def Je (hE:E=J3 P nt rd) {Φ:A6->A6->Prop} {H0 H:A6} {L:Up En} (a:B9 Φ H0 L H) (i:Nat) {d:Nat} {k:A6->Prop} (U:L[i]? =some (.blk d DB)) (W:∀H',B9 Φ H0 (L.eraseIdx i) H'->k H'):E.fin [d] H k:=by
 subst hE;have hd:=a.get i U;refine⟨⟨za4,λid h=>?_⟩,?_⟩
 ·simp_all
 have e:clear H [d]=upd H d none:=by
  funext x;simp[clear,upd]
 rw[e];exact W _ (a.del i U)
def DC (P:If)(f:FuncId)(args:Up V)(Q:V->Prop):Prop:=∀H,O7 P f args H λx H'=>Q x/\H'=H
def DC.args {f:FuncId}{xs ys:Up V}{Q:V->Prop}(h:DC P f ys Q)(k:M2 xs ys):DC P f xs Q:=λH=>(h H).args k
def B8.q {f:FuncId}{args:Up V}{r:V}{Q:V->Prop}(h:B8 P f args r)(e:Q r):DC P f args Q:=λH=>(h H).mono λx H' ⟨a,e2⟩=>⟨a▸e,e2⟩
def Ht (hE:E=J3 P nt rd){R S:Type}{m:OS S}{F:S->OS R}{r:R}{f:FuncId}{args args':Up V}{Q:S->V->Prop}{H:A6}{k:V->A6->Prop}(h:m.bind F=some r)(a:∀x,m=some x->DC P f args' (Q x))(B:M2 args args')
 (W:∀x v,Q x v->F x=some r->k v H):E.call (.func (.func f) [] []) args H k:=by
 subst hE;have⟨x,O,Z⟩:=bind_some h
 have J:O7 P f args H k:=((a x O).args B H).mono λv H' ⟨i,e⟩=>za7
 exact O7.value (F:=[]) (C:=[]) za7
def Av {f:FuncId}{fn:Func}{c:Code}{n:Nat}{rs:Up ResultVar}{args:Up V}{Q:V->Prop}(e:Cf)(s:Yv P T)(v:P.funcs[f]? =some fn)(A:fn.body=some c)(hd:N8 e c=true)
 (a:∀vals w,(callFunc f vals).run P w= .ok (.enter f vals) w) (i:fn.ntmps=n) (N:fn.results.toList=rs) (z:Nat.ble args.length n=true)
 (h:∀(E:Hj) (H:A6) (K:V->A6->Prop),E=J3 P n none->(∀x L H',B9 Eq H L H'->Q x->K x H')->run E T n e c ⟨FA args 0,[]⟩ H (SI E T rs K)):DC P f args Q:=λH=>by
 refine(Bp (K:=λx H'=>∃y j,DK x y/\KA j H'/\Q y/\j=H) e s.1 s.2 v A hd a i N z λE hE=>?_).le;exact h E H _ hE λx L H' u M=>⟨x,H,.refl _,u.ext,M,rfl⟩
def Ag2:Up Nat->Up V->Fl->Fl
 |p::ps,x::xs,l=>Ag2 ps xs ((p,.v x)::l)
 |_,_,l=>l
theorem Za:∀(ps:Up Nat) (xs:Up V) (l:Fl) (t:Nat),Kc (λt=>EQ l t) ps xs t=EQ (Ag2 ps xs l) t
 |[],xs,l,t=>by cases xs<;>rfl
 |p::ps,[],l,t=>rfl
 |p::ps,x::xs,l,t=>by
  simp only[Kc,Ag2];rw[<-Za ps xs]
  congr 1
  funext q
  rw[AC5];rfl
def jmp:Exit->OS Code
 | .ret=>some .ret
 | .exit k=>some (.exit k)
 |_=>none
variable {α σ R ι:Type}
def RgI (enc:α->Up V)(step:σ->α->OS (σ⊕R))(o:σ⊕R)(Inv:σ->A6->A6->Prop)(l:Up (Up V))(F H:A6):Prop:=
 ∃q:σ×Up α,(l=q.2.map enc/\M8 step q.2 q.1=some o)/\Inv q.1 F H
def RgD (o:σ⊕R)(X:R->Exit->A6->A6->Prop)(c:Code)(F H:A6):Prop:=∃q:R×Exit,(o= .inr q.1/\jmp q.2=some c)/\X q.1 q.2 F H
def RgJ (enc:α->Up V)(step:σ->α->OS (σ⊕R))(o:σ⊕R)(a:ι->σ->α->Fl)(J:ι->σ->α->A6->A6->Prop)(x:Up V)(l:Up (Up V))(fr:Fr)(F H:A6):Prop:=
 ∃q:ι×σ×α×Up α,(x=enc q.2.2.1/\l=q.2.2.2.map enc/\M8 step (q.2.2.1::q.2.2.2) q.2.1=some o/\Iq fr ⟨a q.1 q.2.1 q.2.2.1,[]⟩)/\J q.1 q.2.1 q.2.2.1 F H
section
variable {enc:α->List V}{step:σ->α->Option (σ⊕R)}{g:Operand}{ps:Array Tmp}{asg body:Code}{st:St}{H:A6}{K:Exit->St->A6->Prop}
 {xs:List α} {s0:σ} {o:σ⊕R}
def AK4 (A:Cf) (G:Yv P T) {Inv:σ->A6->A6->Prop} {C:ι->σ->α->Fl} {J:ι->σ->α->A6->A6->Prop} (j:N8 A asg=true)
 (h:∀(z:Hj) (id:Nat) y s F H,z=J3 P nt (some id)->Inv s F H->run z T nt A asg ⟨Ag2 ps.toList (enc y) st.l,[]⟩ H λe a H'=>match e with| .normal=>∃i,J i s y F H'/\JU a.l (C i s y)/\a.df=[]|_=>False):
 ∀(id:Nat) (L:LpI) x l F H,RgI enc step o Inv (x::l) F H->F id=some (.loop L)->x.length=ps.size->Br P nt (some id) asg ⟨Kc (J9 st).s ps.toList x,[]⟩ H λe N H1=>e= .normal/\RgJ enc step o C J x l N F H1:=by
 intro id L x l F H ⟨⟨s,ys⟩,⟨B,M⟩,U⟩ _ _
 cases ys with
 |nil=>cases B
 | cons y ys=>
  simp only[D9,V0]at B
  obtain⟨rfl,rfl⟩:=B
  have e:(⟨Kc (J9 st).s ps.toList (enc y),[]⟩:Fr)=J9 ⟨Ag2 ps.toList (enc y) st.l,[]⟩:=by
   simp only[J9,Fr.mk.injEq,P7]
   funext t
   grind[Za]
  rw[e];refine(T5 G.1 G.2 asg _ _ _ j (h _ id y s F H rfl U)).mono λe N H1 ⟨a,hle,Q⟩=>?_
  cases e with
  |normal=>
   have⟨i,u,B,v⟩:=Q;exact⟨rfl,⟨i,s,y,ys⟩,⟨rfl,rfl,M,λt=>(hle.s t).trans (B.wk t),hle.df.trans v⟩,u⟩
  |_=>exact Q.elim
def AU4 (G:Cf) (W:Yv P T) {Inv:σ->A6->A6->Prop} {X:R->Exit->A6->A6->Prop} {U:ι->σ->α->Fl} {J:ι->σ->α->A6->A6->Prop} (A:N8 G body=true)
 (a:∀(C:Hj) (id:Nat) i y s F H o',C=J3 P nt (some id)->(∃L,F id=some (.loop L))->step s y=some o'->J i s y F H->run C T nt G body ⟨U i s y,[]⟩ H λe _ H'=>match e with
  | .normal=>∃v,o'= .inl v/\Inv v F H'
  |e=>∃r,o'= .inr r/\(jmp e).isSome=true/\X r e F H'):
 ∀(id:Nat) (L:LpI) x l h F H,RgJ enc step o U J x l h F H->F id=some (.loop L)->Br P nt (some id) body h H λe _ H'=>Ak7 (RgI enc step o Inv l) (RgD o X) F e H':=by
 intro id L x l h F H ⟨⟨i,s,y,ys⟩,⟨M,B,N,hf⟩,u⟩ hL;subst M;subst B
 simp only[M8]at N
 cases z:step s y with
 |none=>rw[z]at N;cases N
 | some o'=>
  rw[z]at N
  refine Br.frLe hf ((T5 W.1 W.2 body _ _ _ A (a _ id i y s F H o' rfl ⟨L,hL⟩ z u)).mono λe Y H2 ⟨aa,hle,Q⟩=>?_)
  cases e with
  |normal=>
   have⟨v,O,Z⟩:=Q;subst O;exact⟨⟨v,ys⟩,⟨rfl,N⟩,Z⟩
  |ret=>
   have⟨r,O,Z,j⟩:=Q;subst O;exact⟨⟨r,.ret⟩,⟨za7,rfl⟩,j⟩
  |exit k=>
   have⟨r,O,Z,j⟩:=Q;subst O;exact⟨⟨r,.exit k⟩,⟨za7,rfl⟩,j⟩
  |_=>
   have⟨r,O,Z,j⟩:=Q;cases Z
def Pl (N:Cf) (hE:E=J3 P nt none) (hP:Yv P T) (Inv:σ->A6->A6->Prop) (X:R->Exit->A6->A6->Prop) (G:ι->σ->α->Fl) (J:ι->σ->α->A6->A6->Prop)
 (hI:∀s,G9 (Inv s)) (hX:∀r e,G9 (X r e)) (hJ:∀i s y,G9 (J i s y)) (A:Jv P ((Ak [] st.l g).V) (xs.map enc)) (h:M8 step xs s0=some o) {F:A6} (h0:Inv s0 F H)
 (Z:∀p∈ps,p<nt) (ab:∀x,(enc x).length=ps.size) (O:N8 N asg=true) (Q:N8 N body=true)
 (v:∀(j:Hj) (id:Nat) y s F H,j=J3 P nt (some id)->Inv s F H->run j T nt N asg ⟨Ag2 ps.toList (enc y) st.l,[]⟩ H λe C H'=>match e with| .normal=>∃i,J i s y F H'/\JU C.l (G i s y)/\C.df=[]|_=>False)
 (a:∀(j:Hj) (id:Nat) i y s F H o',j=J3 P nt (some id)->(∃L,F id=some (.loop L))->step s y=some o'->J i s y F H->run j T nt N body ⟨G i s y,[]⟩ H λe _ H'=>match e with
  | .normal=>∃s',o'= .inl s'/\Inv s' F H'
  |e=>∃r,o'= .inr r/\(jmp e).isSome=true/\X r e F H')
 (done:∀d s H',o= .inl s->F d=none->Inv s (upd F d (some DB)) H'->K .normal ⟨st.l,d::st.df⟩ H')
 (stop:∀d r e H',o= .inr r->F d=none->X r e (upd F d (some DB)) H'->K e ⟨st.l,d::st.df⟩ H'):E.sim (.rangeFunc g ps asg body) st H K:=by
 subst hE;have Y:ev (J9 st) g=(Ak [] st.l g).V:=(HA (df:=st.df) Nr.nil g).symm
 rw[<-Y]at A
 have sI:∀l,G9 (RgI enc step o Inv l):=λl=>G9.ex λq=>hI q.1;have sD:∀c,G9 (RgD o X c):=λc=>G9.ex λq=>hX q.1 q.2;have sJ:∀x l fr,G9 (RgJ enc step o G J x l fr):=λx l fr=>G9.ex λq=>hJ q.1 q.2.1 q.2.2.1;refine Br.rangeOuter (nt:=nt) Z (λx M=>?_) A (RgI enc step o Inv) (RgD o X) sI sD (RgJ enc step o G J) sJ ⟨⟨s0,xs⟩,⟨rfl,h⟩,h0⟩ (AK4 N hP O v) (AU4 N hP Q a) (λd H' hd ⟨⟨s,ys⟩,⟨B,hr⟩,U⟩=>?_) λc d H' hd ⟨⟨r,e⟩,⟨z,u⟩,M⟩=>?_
 ·grind
 ·have aa:ys=[]:=by
   simp_all
  subst aa;cases hr;exact⟨⟨st.l,d::st.df⟩,⟨λt=>Wk.refl _,rfl⟩,done d s H' rfl hd U⟩
 have W:=stop d r e H' z hd M
 cases e with
 |ret=>cases u;exact Br.ret ⟨⟨st.l,d::st.df⟩,⟨λt=>Wk.refl _,rfl⟩,W⟩
 |exit k=>cases u;exact Br.exit ⟨⟨st.l,d::st.df⟩,⟨λt=>Wk.refl _,rfl⟩,W⟩
 |_=>cases u
end
end
def B9.dblk {Φ:A6->A6->Prop} {H0 H:A6} {L:Up En} {d:Nat} (hd:H0 d=none) (h:B9 Φ (upd H0 d (some DB)) L H):B9 Φ H0 (L++[.blk d DB]) H:=by
 have⟨C,W,G,a,O,Z⟩:=h;refine⟨C,W,G,⟨λx b M=>a.ext x b ?_,λi e x b U Y=>?_,λi j e B x b b' U u Y N=>?_,λx b M=>?_⟩,O,Z⟩
 rotate_right
 ·rcases a.only x b M with h|⟨i,e,U,Y⟩
  ·by_cases A:x=d
   ·subst A;rw[G4]at h;cases h;exact .inr ⟨L.length,.blk x DB,za4,rfl⟩
   simp_all[upd]
  refine .inr ⟨i,e,?_,Y⟩
  grind
 ·rw[D3 _ _ (Cw hd M)];exact M
 ·rcases R9 i L.length with z|v
  ·rw[Lg z]at U
   have:=a.has i e x b U Y
   grind[D3]
  rw[HW v]at U
  cases s:i-L.length with
  |zero=>rw[s]at U;simp at U;subst U;cases Y;exact⟨hd,a.ext _ _ (G4 _ _ _)⟩
  |succ m=>rw[s]at U;simp at U
 have y:∀(i:Nat) e,(L++[.blk d DB])[i]? =some e->(i<L.length/\L[i]? =some e)\/(i=L.length/\e= .blk d DB):=λi e U=>by
  grind
 have nd:∀(i:Nat) e x b,L[i]? =some e->e.id=some (x,b)->x≠d:=λm e x b s Y eq=>by
  have:=(a.has m e x b s Y).1
  rw[eq,G4]at this;cases this
 rcases y i e U with⟨_,J⟩|⟨J,rfl⟩<;>rcases y j B u with⟨_,Q⟩|⟨Q,rfl⟩
 ·exact a.inj i j e B x b b' J Q Y N
 ·cases N;grind
 ·cases Y;grind
 omega
def RX (P:If)(a:V)(I:Up (Up V)->A6->A6->Prop)(D:A6->A6->Prop):Prop:=
 (a.one=true/\a.cells=[a])/\∀x l F H,I (x::l) F H->EN P a x H λr H'=>(r= .bool true/\I l F H')\/(r= .bool false/\D F H')
def Jl (P:If)(f:FuncId)(args:V->Up V)(xs:Up (Up V))(a:V->Bool->Prop):Prop:=
 ∀e I D,(∀l,G9 (I l))->G9 D->RX P e I D->∀tl F H,I (xs++tl) F H->O7 P f (args e) H λv H'=>(a v true/\I tl F H')\/(a v false/\D F H')
def rbB (v:V)(b:Bool):Prop:=v= .bool b
def rbN (_:V)(_:Bool):Prop:=True
section
variable {P:Program}{nt:Nat}{rd:Option Nat}{T:JI}{E:Hj}{I:List (List V)->A6->A6->Prop}{D:A6->A6->Prop}
def EN.heap {a:V}{args:Up V}{H G:A6}{K:V->A6->Prop}(h:EN P a args G K)(B:KA G H):EN P a args H K:=
 λg w v vals i x e=>h g w v vals (i.less B) x e
def O7.heap {f:FuncId}{args:Up V}{H G:A6}{K:V->A6->Prop}(h:O7 P f args G K)(B:KA G H):O7 P f args H K:=
 λg w vals e a=>h g w vals (e.less B) a
def EC (hE:E=J3 P nt rd)(N:∀l,G9 (I l))(y:G9 D){i:V}(s:RX P i I D){F H:A6}{L:Up En}{args x:Up V}{l:Up (Up V)}{k:V->A6->Prop}(j:B9 (I (x::l)) F L H)(B:M2 args x)
 (O:∀H',B9 (I l) F L H'->k (.bool true) H') (Z:∀H',B9 D F L H'->k (.bool false) H'):E.call i args H k:=by
 subst hE;have⟨C,e,G,h,U,hle⟩:=j;refine(EN.mono (((s.2 x l e G U).heap hle).args B) λr H' a=>?_)
 rcases a with⟨rfl,a⟩|⟨rfl,a⟩
 ·exact O H' ⟨N l,e,H',h,a,KA.refl _⟩
 exact Z H' ⟨y,e,H',h,a,KA.refl _⟩
def Sy (hE:E=J3 P nt rd) (N:∀l,G9 (I l)) (y:G9 D) {i:V} (u:RX P i I D) {f:FuncId} {args':V->Up V} {xs tl:Up (Up V)} {h:V->Bool->Prop} (s:Jl P f args' xs h) {F H:A6} {L:Up En} {args:Up V} {k:V->A6->Prop} (j:B9 (I (xs++tl)) F L H)
 (B:M2 args (args' i)) (O:∀v H',h v true->B9 (I tl) F L H'->k v H') (Z:∀v H',h v false->B9 D F L H'->k v H'):E.call (.func (.func f) [] []) args H k:=by
 subst hE;have⟨z,e,G,x,U,hle⟩:=j
 have J:O7 P f args H k:=(((s i I D N y u tl e G U).heap hle).args B).mono λv H' a=>by
  rcases a with⟨A,a⟩|⟨A,a⟩
  ·exact O v H' A ⟨N tl,e,H',x,a,KA.refl _⟩
  exact Z v H' A ⟨y,e,H',x,a,KA.refl _⟩
 exact O7.value (F:=[]) (C:=[]) za7
def Kf (hE:E=J3 P nt rd){c:Bool}{x y:Unit->Prop}(a:c=true)(h:x ()):E.br c x y:=by simp_all[J3]
def Kg (hE:E=J3 P nt rd){c:Bool}{x y:Unit->Prop}(a:c=false)(h:y ()):E.br c x y:=by simp_all[J3]
def U5 {f:FuncId} {fn:Func} {c:Code} {n:Nat} {rs:Up ResultVar} {args:V->Up V} {xs:Up (Up V)} {rb:V->Bool->Prop} (N:Cf) (z:Yv P T) (C:P.funcs[f]? =some fn) (A:fn.body=some c) (hd:N8 N c=true)
 (e:∀vals w,(callFunc f vals).run P w= .ok (.enter f vals) w) (s:fn.ntmps=n) (u:fn.results.toList=rs) (G:∀i,Nat.ble (args i).length n=true)
 (h:∀(i:V) (I:Up (Up V)->A6->A6->Prop) (D:A6->A6->Prop),(∀l,G9 (I l))->G9 D->RX P i I D->∀(tl:Up (Up V)) (F:A6) (E:Hj) (H:A6) (K:V->A6->Prop),E=J3 P n none->B9 (I (xs++tl)) F [] H->
  (∀x L H',B9 (I tl) F L H'->rb x true->K x H')->(∀x L H',B9 D F L H'->rb x false->K x H')->run E T n N c ⟨FA (args i) 0,[]⟩ H (SI E T rs K)):Jl P f args xs rb:=by
 intro i I D v B J tl F H U;refine(Bp (K:=λx H'=>∃y a,DK x y/\KA a H'/\((rb y true/\I tl F a)\/(rb y false/\D F a))) N z.1 z.2 C A hd e s u (G i) λE hE=>?_).le;refine h i I D v B J tl F E H _ hE (B9.start (v _) U) (λx L H' j M=>?_) λx L H' j M=>?_
 ·have⟨a,O,Z⟩:=j.out;exact⟨x,a,.refl _,Z,.inl ⟨M,O⟩⟩
 have⟨a,O,Z⟩:=j.out;exact⟨x,a,.refl _,Z,.inr ⟨M,O⟩⟩
def Bl {f:FuncId}{C:Up V}{xs:Up (Up V)}{j:V->Bool->Prop}(a:∀vals w,(callFunc f vals).run P w= .ok (.enter f vals) w)(h:Jl P f (λe=>e::C) xs j):Jv P (.func (.func f) [] C) xs:=
 ⟨f,C,rfl,a,λe I D x i N F H U=>(h e I D x i N [] F H (by rwa[E5])).mono λv H' y=>y.imp (λh=>h.2) λh=>h.2⟩
def B9.cast {Φ:A6->A6->Prop}{H0 H:A6}{L L':Up En}(h:B9 Φ H0 L H)(e:L=L'):B9 Φ H0 L' H:=e▸h
noncomputable def Xg (ds:Up Nat):Up En:=List.rec (motive:=λ_=>Up En) [] (λd _ l=>l++[.blk d DB]) ds
def Al8 (d:Nat)(ds:Up Nat):Xg (d::ds)=Xg ds++[.blk d DB]:=rfl
def B9.dbs1 {Φ:A6->A6->Prop}{H0 H:A6}{A:Up En}{d:Nat}{ds:Up Nat}(h:B9 Φ H0 ((A++Xg ds)++[.blk d DB]) H):B9 Φ H0 (A++Xg (d::ds)) H:=by
 rw[Al8,<-D2];exact h
def Bm2 {Φ:A6->A6->Prop} {H0:A6} {A:Up En}:∀{ds:Up Nat} {H:A6},B9 Φ H0 (A++Xg ds) H->ds.Nodup/\(∀id,id∈ds->H id=some DB)/\B9 Φ H0 A (clear H ds):=by
 intro ds
 induction ds with
 |nil=>
  intro H h
  have e:clear H []=H:=by funext x;simp[clear]
  rw[e]
  grind[Xg]
 | cons d ds ih=>
  intro H h
  rw[Al8,<-D2]at h
  have U:((A++Xg ds)++[En.blk d DB])[(A++Xg ds).length]? =some (.blk d DB):=za4
  have hd:=h.get _ U;have O:=h.del _ U
  have e:((A++Xg ds)++[En.blk d DB]).eraseIdx (A++Xg ds).length=A++Xg ds:=by
   rw[List.eraseIdx_append_of_length_le (B1 _)];simp
  rw[e]at O
  have⟨a,i,y⟩:=ih O;refine⟨List.nodup_cons.2 ⟨λj=>?_,a⟩,λid N=>?_,?_⟩
  ·have:=i d j;rw[G4]at this;cases this
  ·grind[D3]
  have e2:clear (upd H d none) ds=clear H (d::ds):=by
   funext x
   grind[clear,upd]
  rwa[e2]at y
def AW9 (hE:E=J3 P nt rd){Φ:A6->A6->Prop}{H0 H:A6}{A:Up En}{ds:Up Nat}(i:B9 Φ H0 (A++Xg ds) H){k:A6->Prop}(W:∀H',B9 Φ H0 A H'->k H'):E.fin ds H k:=by
 subst hE;have⟨a,e,h⟩:=Bm2 i;exact⟨⟨a,e⟩,W _ h⟩
def AW8 (cf:Cf) (hE:E=J3 P nt rd) (hP:Yv P T) {β σ γ R:Type} {step:σ->OS (Up β×(σ⊕R))} {c:Code} {st:St} {H:A6} {K:Exit->St->A6->Prop} (fm:σ->γ->Fl) (Inv:σ->γ->Up Nat->Up β->A6->Prop) (X:R->Exit->Fl->Up Nat->Up β->A6->Prop) (Xa:Exit->Fl->Up Nat->A6->Prop) (hd:N8 cf c=true)
 (W:∀s g ds w1 u H o,Inv s g ds (w1++u) H->step s=some (w1,o)->run E T nt cf c ⟨fm s g,ds⟩ H λe i H'=>match e with
  | .normal=>∃A g' a,o= .inl A/\JU i.l (fm A g')/\i.df=a/\Inv A g' a u H'
  |e=>(∃x l a,o= .inr x/\X x e l a u H'/\JU i.l l/\i.df=a)\/∃l a,Xa e l a H'/\JU i.l l/\i.df=a)
 {N:Nat} {s0:σ} (g0:γ) {w w':Up β} {r:R} (h:Ap step N s0=some (w,r)) (ab:st.df=[]) (hf:JU st.l (fm s0 g0)) (hI:Inv s0 g0 [] (w++w') H) (G:∀e l ds H',X r e l ds w' H'->K e ⟨l,ds⟩ H') (v:∀e l ds H',Xa e l ds H'->K e ⟨l,ds⟩ H'):E.sim (.loop c) st H K:=by
 subst hE;refine Br.loopN (λn Y H'=>∃s g ds w,Ap step n s=some (w,r)/\Iq Y ⟨fm s g,ds⟩/\Inv s g ds (w++w') H') N ⟨s0,g0,[],w,h,⟨λt=>hf.wk t,ab⟩,hI⟩ λn Y H' ⟨s,g,ds,w,C,hle,U⟩=>?_
 cases n with
 |zero=>cases C
 | succ n=>
  simp only[Ap]at C
  cases z:step s with
  |none=>rw[z]at C;cases C
  | some p=>
   have⟨w1,o⟩:=p
   rw[z]at C
   have⟨u,hw,j⟩:∃u,w=w1++u/\match o with| .inl A=>Ap step n A=some (u,r)| .inr x=>x=r/\u=[]:=by
    cases o with
    |inl A=>
     grind
    |inr x=>grind
   subst hw
   rw[D2]at U
   refine Br.frLe hle ((T5 hP.1 hP.2 c _ _ _ hd (W s g ds w1 (u++w') H' o U z)).mono λe aa H2 ⟨i,y,Q⟩=>?_)
   have M:∀e,((∃x l a,o= .inr x/\X x e l a (u++w') H2/\JU i.l l/\i.df=a)\/∃l a,Xa e l a H2/\JU i.l l/\i.df=a)->∃B,Iq aa B/\K e B H2:=by
    intro e Q
    rcases Q with⟨x,l,a,O,h4,Z,J⟩|⟨l,a,h4,Z,J⟩
    ·subst O;obtain⟨rfl,rfl⟩:=j;exact⟨⟨l,a⟩,⟨λt=>(y.s t).trans (Z.wk t),y.df.trans J⟩,G _ _ _ _ h4⟩
    exact⟨⟨l,a⟩,⟨λt=>(y.s t).trans (Z.wk t),y.df.trans J⟩,v _ _ _ _ h4⟩
   cases e with
   |normal=>
    have⟨A,g',a,O,Z,J,h4⟩:=Q;subst O;exact⟨n,KR n,A,g',a,u,j,⟨λt=>(y.s t).trans (Z.wk t),y.df.trans J⟩,h4⟩
   |_=>exact M _ Q
def Gs (cf:Cf) (hE:E=J3 P nt rd) (hP:Yv P T) {β σ γ R:Type} {step:σ->OS (Up β×(σ⊕R))} {c:Code} {st:St} {H:A6} {K:Exit->St->A6->Prop} (fm:σ->γ->Fl) (Inv:σ->γ->Up β->A6->Prop) (X:R->Exit->Fl->Up β->A6->Prop) (Xa:Exit->Fl->A6->Prop) (hd:N8 cf c=true)
 (M:∀s g w1 j H o,Inv s g (w1++j) H->step s=some (w1,o)->run E T nt cf c ⟨fm s g,st.df⟩ H λe a H'=>match e with
  | .normal=>∃v g',o= .inl v/\JU a.l (fm v g')/\a.df=st.df/\Inv v g' j H'
  |e=>(∃x l,o= .inr x/\X x e l j H'/\JU a.l l/\a.df=st.df)\/∃l,Xa e l H'/\JU a.l l/\a.df=st.df)
 {N:Nat} {s0:σ} (g0:γ) {w w':Up β} {r:R} (h:Ap step N s0=some (w,r)) (hf:JU st.l (fm s0 g0)) (hI:Inv s0 g0 (w++w') H) (B:∀e l H',X r e l w' H'->K e ⟨l,st.df⟩ H') (u:∀e l H',Xa e l H'->K e ⟨l,st.df⟩ H'):E.sim (.loop c) st H K:=by
 subst hE;refine Br.loopN (λn W H'=>∃s g w,Ap step n s=some (w,r)/\Iq W ⟨fm s g,st.df⟩/\Inv s g (w++w') H') N ⟨s0,g0,w,h,⟨λt=>hf.wk t,rfl⟩,hI⟩ λn W H' ⟨s,g,w,C,hle,U⟩=>?_
 cases n with
 |zero=>cases C
 | succ n=>
  simp only[Ap]at C
  cases z:step s with
  |none=>rw[z]at C;cases C
  | some p=>
   have⟨w1,o⟩:=p
   rw[z]at C
   have⟨j,hw,y⟩:∃j,w=w1++j/\match o with| .inl v=>Ap step n v=some (j,r)| .inr x=>x=r/\j=[]:=by
    cases o with
    |inl v=>
     grind
    |inr x=>grind
   subst hw
   rw[D2]at U
   refine Br.frLe hle ((T5 hP.1 hP.2 c _ _ _ hd (M s g w1 (j++w') H' o U z)).mono λe aa H2 ⟨a,i,Q⟩=>?_)
   have G:∀e,((∃x l,o= .inr x/\X x e l (j++w') H2/\JU a.l l/\a.df=st.df)\/∃l,Xa e l H2/\JU a.l l/\a.df=st.df)->∃A,Iq aa A/\K e A H2:=by
    intro e Q
    rcases Q with⟨x,l,O,Y,Z,J⟩|⟨l,Y,Z,J⟩
    ·subst O;obtain⟨rfl,rfl⟩:=y;exact⟨⟨l,st.df⟩,⟨λt=>(i.s t).trans (Z.wk t),i.df.trans J⟩,B _ _ _ Y⟩
    exact⟨⟨l,st.df⟩,⟨λt=>(i.s t).trans (Z.wk t),i.df.trans J⟩,u _ _ _ Y⟩
   cases e with
   |normal=>
    have⟨v,g',O,Z,J,Y⟩:=Q;subst O;exact⟨n,KR n,v,g',j,y,⟨λt=>(i.s t).trans (Z.wk t),i.df.trans J⟩,Y⟩
   |_=>exact G _ Q
end
section
variable {P:Program}{nt:Nat}{T:JI}{E:Hj}{α β σ R ι:Type}
def REI (enc:α->Up V)(step:σ->α->OS (Up β×(σ⊕R)))(o:σ⊕R)(w':Up β)(Inv:σ->Up β->A6->A6->Prop)(l:Up (Up V))(F H:A6):Prop:=
 ∃q:σ×Up α×Up β,(l=q.2.1.map enc/\AS step q.2.1 q.1=some (q.2.2,o))/\Inv q.1 (q.2.2++w') F H
def RED (o:σ⊕R)(w':Up β)(X:R->Exit->Up β->A6->A6->Prop)(a:Exit->A6->A6->Prop)(c:Code)(F H:A6):Prop:=
 (∃q:R×Exit,(o= .inr q.1/\jmp q.2=some c)/\X q.1 q.2 w' F H)\/∃q:Exit,jmp q=some c/\a q F H
def REJ (enc:α->Up V)(step:σ->α->OS (Up β×(σ⊕R)))(o:σ⊕R)(w':Up β)(a:ι->σ->α->Fl)(J:ι->σ->α->Up β->A6->A6->Prop)(x:Up V)(l:Up (Up V))(fr:Fr)(F H:A6):Prop:=
 ∃q:ι×σ×α×Up α×Up β,(x=enc q.2.2.1/\l=q.2.2.2.1.map enc/\AS step (q.2.2.1::q.2.2.2.1) q.2.1=some (q.2.2.2.2,o)/\Iq fr ⟨a q.1 q.2.1 q.2.2.1,[]⟩)/\J q.1 q.2.1 q.2.2.1 (q.2.2.2.2++w') F H
def G9.or {I J:A6->A6->Prop}(h:G9 I)(k:G9 J):G9 λF H=>I F H\/J F H:=
 ⟨λa=>a.elim (λx=>h.le x) λx=>k.le x,λid b a e=>a.imp (λx=>h.chg id b x e) λx=>k.chg id b x e⟩
variable {enc:α->List V}{step:σ->α->Option (List β×(σ⊕R))}{g:Operand}{ps:Array Tmp}{asg body:Code}{st:St}{H:A6}{K:Exit->St->A6->Prop}
 {xs:List α} {s0:σ} {o:σ⊕R} {w w':List β}
def Rk (cf:Cf) (hE:E=J3 P nt none) (hP:Yv P T) (Inv:σ->Up β->A6->A6->Prop) (X:R->Exit->Up β->A6->A6->Prop) (A:Exit->A6->A6->Prop) (fJ:ι->σ->α->Fl) (J:ι->σ->α->Up β->A6->A6->Prop)
 (hI:∀s w,G9 (Inv s w)) (hX:∀r e w,G9 (X r e w)) (ac:∀e,G9 (A e)) (hJ:∀i s y w,G9 (J i s y w)) (ab:Jv P ((Ak [] st.l g).V) (xs.map enc)) (h:AS step xs s0=some (w,o)) {F:A6} (h0:Inv s0 (w++w') F H)
 (ah:∀p∈ps,p<nt) (al:∀x,(enc x).length=ps.size) (ad:N8 cf asg=true) (ae:N8 cf body=true)
 (aa:∀(E':Hj) (id:Nat) y s w F H,E'=J3 P nt (some id)->Inv s w F H->run E' T nt cf asg ⟨Ag2 ps.toList (enc y) st.l,[]⟩ H λe a H'=>match e with| .normal=>∃i,J i s y w F H'/\JU a.l (fJ i s y)/\a.df=[]|_=>False)
 (C:∀(E':Hj) (id:Nat) i y s w1 v F H o',E'=J3 P nt (some id)->(∃L,F id=some (.loop L))->step s y=some (w1,o')->J i s y (w1++v) F H->run E' T nt cf body ⟨fJ i s y,[]⟩ H λe _ H'=>match e with
  | .normal=>∃s',o'= .inl s'/\Inv s' v F H'
  |e=>(∃r,o'= .inr r/\(jmp e).isSome=true/\X r e v F H')\/((jmp e).isSome=true/\A e F H'))
 (done:∀d s H',o= .inl s->F d=none->Inv s w' (upd F d (some DB)) H'->K .normal ⟨st.l,d::st.df⟩ H')
 (stop:∀d r e H',o= .inr r->F d=none->X r e w' (upd F d (some DB)) H'->K e ⟨st.l,d::st.df⟩ H')
 (aj:∀d e H',F d=none->A e (upd F d (some DB)) H'->K e ⟨st.l,d::st.df⟩ H'):E.sim (.rangeFunc g ps asg body) st H K:=by
 subst hE;have ag:ev (J9 st) g=(Ak [] st.l g).V:=(HA (df:=st.df) Nr.nil g).symm
 rw[<-ag]at ab
 have sI:∀l,G9 (REI enc step o w' Inv l):=λl=>G9.ex λq=>hI q.1 _;have sD:∀c,G9 (RED o w' X A c):=λc=>G9.or (G9.ex λq=>hX q.1 q.2 w') (G9.ex λq=>ac q);have sJ:∀x l fr,G9 (REJ enc step o w' fJ J x l fr):=λx l fr=>G9.ex λq=>hJ q.1 q.2.1 q.2.2.1 _;refine Br.rangeOuter (nt:=nt) ah (λx M=>?_) ab (REI enc step o w' Inv) (RED o w' X A) sI sD (REJ enc step o w' fJ J) sJ ⟨⟨s0,xs,w⟩,⟨rfl,h⟩,h0⟩ ?_ ?_ (λd H' hd ⟨⟨s,ys,v⟩,⟨B,j⟩,U⟩=>?_) λc d H' hd M=>?_
 ·grind
 ·intro id L x l F H ⟨⟨s,ys,v⟩,⟨B,j⟩,U⟩ _ _
  cases ys with
  |nil=>cases B
  | cons y ys=>
   simp only[D9,V0]at B
   obtain⟨rfl,rfl⟩:=B
   have e:(⟨Kc (J9 st).s ps.toList (enc y),[]⟩:Fr)=J9 ⟨Ag2 ps.toList (enc y) st.l,[]⟩:=by
    simp only[J9,Fr.mk.injEq,P7]
    funext t
    grind[Za]
   rw[e];refine(T5 hP.1 hP.2 asg _ _ _ ad (aa _ id y s _ F H rfl U)).mono λe Y G ⟨a,hle,Q⟩=>?_
   cases e with
   |normal=>
    have⟨i,u,B,af⟩:=Q;exact⟨rfl,⟨i,s,y,ys,v⟩,⟨rfl,rfl,j,λt=>(hle.s t).trans (B.wk t),hle.df.trans af⟩,u⟩
   |_=>exact Q.elim
 ·intro id L x l Y F H ⟨⟨i,s,y,ys,v⟩,⟨M,B,j,hf⟩,u⟩ hL;subst M;subst B
  simp only[AS]at j
  cases z:step s y with
  |none=>rw[z]at j;cases j
  | some p=>
   have⟨w1,o'⟩:=p
   rw[z]at j
   have⟨w3,hw,N⟩:∃w3,v=w1++w3/\match o' with| .inl s'=>AS step ys s'=some (w3,o)| .inr x=>o= .inr x/\w3=[]:=by
    cases o' with
    |inl s'=>
     grind
    |inr x=>grind
   subst hw
   dsimp only at u
   rw[D2]at u
   refine Br.frLe hf ((T5 hP.1 hP.2 body _ _ _ ae (C _ id i y s w1 (w3++w') F H o' rfl ⟨L,hL⟩ z u)).mono λe ak H2 ⟨a,hle,Q⟩=>?_)
   have out:∀e c,jmp e=some c->((∃r,o'= .inr r/\(jmp e).isSome=true/\X r e (w3++w') F H2)\/((jmp e).isSome=true/\A e F H2))->RED o w' X A c F H2:=by
    intro e c hc Q
    rcases Q with⟨r,O,_,h3⟩|⟨_,h3⟩
    ·subst O;obtain⟨rfl,rfl⟩:=N;exact .inl ⟨⟨r,e⟩,⟨rfl,hc⟩,h3⟩
    grind[RED]
   cases e with
   |normal=>
    have⟨s',O,Z⟩:=Q;subst O;exact⟨⟨s',ys,w3⟩,⟨rfl,N⟩,Z⟩
   |ret=>exact out .ret _ rfl Q
   |exit k=>exact out (.exit k) _ rfl Q
   |_=>rcases Q with⟨_,_,h,_⟩|⟨h,_⟩<;>cases h
 ·have ai:ys=[]:=by
   simp_all
  subst ai;cases j;exact⟨⟨st.l,d::st.df⟩,⟨λt=>Wk.refl _,rfl⟩,done d s H' rfl hd U⟩
 have fin:∀e,jmp e=some c->K e ⟨st.l,d::st.df⟩ H'->Br P nt none c {J9 st with df:=d::(J9 st).df} H' λe Y H'=>∃a,Iq Y a/\K e a H':=by
  intro e u W
  cases e with
  |ret=>cases u;exact Br.ret ⟨⟨st.l,d::st.df⟩,⟨λt=>Wk.refl _,rfl⟩,W⟩
  |exit k=>cases u;exact Br.exit ⟨⟨st.l,d::st.df⟩,⟨λt=>Wk.refl _,rfl⟩,W⟩
  |_=>cases u
 rcases M with⟨⟨r,e⟩,⟨z,u⟩,M⟩|⟨e,u,M⟩
 ·grind
 grind
end
end Go.Ab
namespace Go.Ab
def Hu {α:Type}(l:Up α)(i:Int):Bool:=decide (0<=i/\i<(l.length:Nat))
def Ev {α:Type}(l:Up α)(i:Int)(u:α->α):OS (Up α):=(C7 l i).map λx=>l.set i.toNat (u x)
def ZW {α:Type}(n m:Int)(z:α):OS (Up α):=if 0<=n/\n<=m/\m<=1073741824 then some (List.replicate n.toNat z)else none
def AD7 {α:Type}(_:Up α)(n:Int):OS (Up α):=if 0<=n/\n<=1073741824 then some []else none
end Go.Ab
namespace Go.Ab
open Go.RowKit
variable [P3][Ar]
def DD.swap {H0 H:A6} {L:Up En} (h:DD H0 L H) (i:Nat) {en a:En} {id t:Nat} {b b':KB} (U:L[i]? =some en) (Y:en.id=some (id,b)) (s:a.id=some (t,b')) (ht:upd H id none t=none):
 DD H0 (L.set i a) (upd (upd H id none) t (some b')):=by
 have ae:i<L.length:=by
  grind
 have PF:∀(j:Nat) e,(L.set i a)[j]? =some e->(j=i/\e=a)\/(j≠i/\L[j]? =some e):=λj e u=>by
  rw[BJ]at u
  grind
 have C:=h.has i _ id b U Y
 have h0:∀x c,H0 x=some c->upd H id none x=some c:=λx c M=>by
  rw[D3 _ _ (Cw C.1 M)];exact h.ext x c M
 have ad:∀(j:Nat) e x c,j≠i->L[j]? =some e->e.id=some (x,c)->H0 x=none/\upd H id none x=some c:=λj e x c z u M=>by
  have:=h.has j e x c u M
  have y:x≠id:=λeq=>by subst eq;exact z (h.inj j i e _ x c b u U M Y)
  simp_all[upd]
 have v:H0 t=none:=by
  cases e:H0 t with
  |none=>rfl
  |some c=>rw[h0 t c e]at ht;cases ht
 refine⟨λx N M=>?_,λj e x N u M=>?_,λj k e e' x N B u W M A=>?_,λx N M=>?_⟩
 rotate_right
 ·by_cases ab:x=t
  ·grind[upd]
  rw[D3 _ _ ab]at M
  have y:x≠id:=λeq=>by simp_all[upd]
  rw[D3 _ _ y]at M
  refine(h.only x N M).imp (λh=>h) λ⟨j,e,O,Z⟩=>⟨j,e,?_,Z⟩;rw[BJ]
  grind
 ·rw[D3 _ _ (Cw v M)];simp_all
 ·grind[upd]
 rcases PF j e u with⟨J,rfl⟩|⟨z,G⟩<;>rcases PF k e' W with⟨aa,rfl⟩|⟨ac,Q⟩
 ·rw[J,aa]
 ·rw[s]at M;grind
 ·rw[s]at A;grind
 exact h.inj j k e e' x N B G Q M A
def B9.swap {Φ:A6->A6->Prop}{F H:A6}{L:Up En}(h:B9 Φ F L H)(i:Nat){id t:Nat}{b b':KB}(U:L[i]? =some (.blk id b))(j:upd H id none t=none):B9 Φ F (L.set i (.blk t b')) (upd (upd H id none) t (some b')):=by
 have⟨C,s,G,y,O,Z⟩:=h;have e:=y.get i U;have N:=C.le O _ _ e;have J:=C.chg id none O (by rw[e,N]);have hle:KA (upd G id none) (upd H id none):=Z.upd id none;have x:=hle.none j;have a:=C.fresh J x;exact⟨C,_,_,y.swap i U rfl rfl a,C.chg t (some b') J (by rw[x,a]),hle.upd t _⟩
def B9.swap' {Φ:A6->A6->Prop}{F H:A6}{L:Up En}(h:B9 Φ F L H)(i:Nat){id t:Nat}{b b':KB}(U:L[i]? =some (.blk id b))(j:H t=none):B9 Φ F (L.set i (.blk t b')) (upd H t (some b')):=by
 have x:=h.get i U
 have a:t≠id:=λe=>za8
 have⟨C,y,G,N,O,Z⟩:=h.swap (b':=b') i U (t:=t) (by rw[D3 _ _ a];exact j)
 grind[B9,upd,KA]
structure OG where
 id:Nat
 lo:Int
 n:Int
 pre:List V
 rest:List V
def An (q:OG)(m:Int):Prop:=q.lo=(q.pre.length:Nat)/\q.n=m
def Ul {pre xs rest:Up V}{lo n:Int}(a:lo=(pre.length:Nat))(O:n=(xs.length:Nat)):W1 (pre++xs++rest) lo n=xs:=by
 simp_all[W1]
def AV5 {pre xs rest ys:Up V}{i:Nat}(U:i=pre.length+xs.length):FK (pre++xs++rest) i ys=pre++(xs++ys)++rest.drop ys.length:=by
 subst U;simp only[FK,D2];rw[show pre++(xs++rest)=(pre++xs)++rest by simp,<-K8,List.take_left,List.drop_append];simp
def Aj8 {pre xs rest:Up V}{i:Nat}(h:i<xs.length):(pre++xs++rest).getD (pre.length+i) .bad=xs.getD i .bad:=by
 grind
def Bg5 {pre xs rest:Up V}{i:Nat}{v:V}(h:i<xs.length):(pre++xs++rest).set (pre.length+i) v=pre++xs.set i v++rest:=by
 simp_all
theorem B9.set_self {L:Up En}(i:Nat){e:En}(U:L[i]? =some e):L.set i e=L:=by
 apply CZ
 grind
section
variable {P:Program}{nt:Nat}{rd:Option Nat}{T:JI}{E:Hj}
variable (hE:E=J3 P nt rd)
include hE
variable {α R:Type}{f:α->V}{Φ:A6->A6->Prop}{H0 H:A6}{L:List En}{sz:Nat}{q:OG}{l:List α}{r:R}
theorem MJ (Q:An q (Ar.len l)){k:Int->Prop}(h:k (Ar.len l)):E.olen q.n k:=by
 grind[J3,An]
theorem R0 (a:B9 Φ H0 L H)(Q:An q (Ar.len l))(i:Nat){j:Int}{k:Int->Prop}{F:Unit->OS R}(U:L[i]? =some (.blk q.id (.arr sz (q.pre++lst f l++q.rest))))(h:(El (Hu l j)).bind F=some r)(W:F ()=some r->k (ofs q.lo j)):
 E.oidx H q.id sz q.lo q.n j k:=by
 subst hE;have⟨x,O,Z⟩:=bind_some h
 unfold El at O
 split at O
 ·rename_i e;refine⟨⟨_,a.get i U⟩,?_,W Z⟩;rw[Q.2,len_eq];grind[Hu]
 cases O
theorem XU {l:Up α}{i:Int}{x:α}(h:C7 l i=some x):(0<=i/\i<(l.length:Nat))/\l[i.toNat]? =some x:=by
 grind[C7]
theorem Ai3 {l:Up α}{i:Nat}{x:α}(h:l[i]? =some x):(lst f l).getD i .bad=f x:=by
 rw[lst_eq];simp_all
theorem U1 {g:α->V}(y:∀x,f x=g x)(e:B9 Φ H0 L H)(Q:An q (Ar.len l))(i:Nat){j:Int}{k:V->Prop}{F:α->OS R}(U:L[i]? =some (.blk q.id (.arr sz (q.pre++lst f l++q.rest))))(h:(C7 l j).bind F=some r)(W:∀x,F x=some r->k (g x)):
 E.oload H q.id (ofs q.lo j) k:=by
 have⟨x,O,Z⟩:=bind_some h;have⟨A,J⟩:=XU hE O;have s:=Ai3 hE (f:=f) J;subst hE;have a:=M7 (f:=f) l;refine⟨_,_,e.get i U,?_,?_⟩
 ·rw[ofs_eq,Q.1];grind
 rw[ofs_eq,Q.1,show((q.pre.length:Nat)+j:Int).toNat=q.pre.length+j.toNat by omega,Aj8 (by rw[a];omega),s,y]
 grind
theorem Ah6 {β:Type}{f0:β->V}{esz:Nat}(i:B9 Φ H0 L H){k:Nat->A6->Prop}(W:∀(q:OG) id H',An q (Ar.len ([]:Up β))->B9 Φ H0 (.blk id (.cells [.own q.id q.lo q.n]):: .blk q.id (.arr esz (q.pre++lst f0 []++q.rest))::L) H'->k id H'):E.oalloc esz H k:=by
 subst hE;intro t id j a
 have e:([]:Up V)++lst f0 []++[]=[]:=by rw[<-F3 (f:=f0)];rfl
 have h:B9 Φ H0 (.blk t (.arr esz [])::L) (upd H t (some (.arr esz []))):=i.push j rfl;have O:B9 Φ H0 (.blk id (.cells [.own t 0 0]):: .blk t (.arr esz [])::L) (upd (upd H t (some (.arr esz []))) id (some (.cells [.own t 0 0]))):=h.push a rfl;refine W ⟨t,0,0,[],[]⟩ id _ ⟨rfl,by rw[len_eq];rfl⟩ ?_
 simp_all
theorem CQ {u:α->α} {esz tz off:Nat} {y:V} (z:∀x,∃a,DK y a/\a.one=true/\a.cells.length=tz/\YY (f x) esz tz off a=f (u x)) (hle:off+tz<=esz) (N:B9 Φ H0 L H) (Q:An q (Ar.len l)) (i:Nat) {j:Int} {k:A6->Prop} {F:Up α->OS R}
 (U:L[i]? =some (.blk q.id (.arr esz (q.pre++lst f l++q.rest)))) (h:(Ev l j u).bind F=some r)
 (W:∀l' H',An q (Ar.len l')->F l'=some r->B9 Φ H0 (L.set i (.blk q.id (.arr esz (q.pre++lst f l'++q.rest)))) H'->k H'):E.ostore H q.id (ofs q.lo j) esz tz off y k:=by
 have⟨l',O,Z⟩:=bind_some h
 unfold Ev at O
 cases M:C7 l j with
 |none=>rw[M]at O;cases O
 | some x=>
  rw[M]at O
  simp only[K5,E7]at O
  have⟨A,J⟩:=XU hE M;have⟨a,B,C,G,Y⟩:=z x;have s:=Ai3 hE (f:=f) J
  have e2:(lst f l).set j.toNat (f (u x))=lst f l':=by
   rw[<-O,lst_eq,lst_eq,List.map_set]
  subst hE;have e:=M7 (f:=f) l
  have v:(ofs q.lo j).toNat=q.pre.length+j.toNat:=by rw[ofs_eq,Q.1];omega
  refine⟨_,a,B,C,G,hle,N.get i U,?_,?_⟩
  ·rw[ofs_eq,Q.1];grind
  rw[v,Aj8 (by rw[e];omega),Bg5 (by rw[e];omega),s,Y,e2];refine W l' _ ⟨Q.1,?_⟩ Z (N.set i U);rw[Q.2,len_eq,len_eq,<-O,List.length_set]
theorem Ah4 {by_:Nat} (N:by_<=131072) {z:V} {z0:α} (j:DK z (f z0)) (y:B9 Φ H0 L H) {n m:Int} {k:V->A6->Prop} {F:Up α->OS R} (h:(ZW n m z0).bind F=some r)
 (W:∀a (q:OG) H',An q (Ar.len a)->F a=some r->B9 Φ H0 (.blk q.id (.arr sz (q.pre++lst f a++q.rest))::L) H'->k (.own q.id q.lo q.n) H'):E.omk sz by_ z n m H k:=by
 subst hE;have⟨a,O,Z⟩:=bind_some h
 unfold ZW at O
 split at O
 ·rename_i i;cases O;refine⟨⟨i.1,i.2.1,?_⟩,List.replicate m.toNat (f z0),?_,λid x=>?_⟩
  ·have:m*(by_:Nat)<=1073741824*131072:=Int.mul_le_mul i.2.2 za2 za2 za2;omega
  ·have:∀k:Nat,M2 (List.replicate k z) (List.replicate k (f z0)):=λk=>by
    induction k with
    |zero=>exact .nil
    |succ k ih=>rw[List.replicate_succ,List.replicate_succ];exact .cons j ih
   exact this _
  have e:List.replicate m.toNat (f z0)=[]++lst f (List.replicate n.toNat z0)++List.replicate (m.toNat-n.toNat) (f z0):=by
   rw[lst_eq,List.map_replicate,I1,List.replicate_append_replicate];grind
  rw[e];exact W _ ⟨id,0,n,[],List.replicate (m.toNat-n.toNat) (f z0)⟩ _ ⟨rfl,by rw[len_eq];simp;omega⟩ Z (y.push x rfl)
 cases O
theorem Ih {by_:Nat} {z:V} (B:∀x,(f x).cells.length=sz) (s:by_<=131072) (N:B9 Φ H0 L H) (Q:An q (Ar.len l)) (i:Nat) (U:L[i]? =some (.blk q.id (.arr sz (q.pre++lst f l++q.rest)))) {y:V} {m:Up α} {k:V->A6->Prop} {F:Up α->OS R}
 (C:WF sz H y (lst f m)) (h:(V7 l m).bind F=some r)
 (W:∀x (q:OG) H',An q (Ar.len x)->B9 Φ H0 (L.set i (.blk q.id (.arr sz (q.pre++lst f x++q.rest)))) H'->F x=some r->k (.own q.id q.lo q.n) H'):E.oapp sz by_ z H (.own q.id q.lo q.n) y k:=by
 subst hE;have⟨x,O,Z⟩:=bind_some h;have u:=M7 (f:=f) l;have em:=M7 (f:=f) m
 have a:q.n=(l.length:Nat):=by rw[Q.2,len_eq]
 unfold V7 at O
 split at O
 ·rename_i A;cases O;refine⟨_,C,_,N.get i U,λv=>?_,λ_=>⟨?_,λt j G=>?_⟩⟩
  rotate_left
  ·rw[em,a,W4];exact P8 (Ax A s) za5
  rotate_left
  ·have e:FK (q.pre++lst f l++q.rest) (q.lo+q.n).toNat (lst f m)=q.pre++lst f (l++m)++q.rest.drop m.length:=by
    rw[AV5 (by rw[Q.1,a,u];omega),MN,em]
   rw[e];refine W _ ⟨q.id,q.lo,q.n+((lst f m).length:Nat),q.pre,q.rest.drop m.length⟩ _ ⟨Q.1,?_⟩ (N.set i U) Z;rw[len_eq,a,em];simp
  have e:W1 (q.pre++lst f l++q.rest) q.lo q.n++lst f m++List.replicate j z=[]++lst f (l++m)++List.replicate j z:=by
   rw[Ul Q.1 (by rw[u];exact a),MN,I1]
  rw[e];refine W _ ⟨t,0,q.n+((lst f m).length:Nat),[],List.replicate j z⟩ _ ⟨rfl,?_⟩ (N.swap' i U G) Z;rw[len_eq,a,em];simp
 cases O
theorem AB6 {by_:Nat} {z:V} (N:∀x,(f x).cells.length=sz) (a:by_<=131072) (e:B9 Φ H0 L H) {x:V} (M:x= .sl [] .nil\/x= .sl [] .full) {y:V} {m:Up α} {k:V->A6->Prop} {F:Up α->OS R}
 (C:WF sz H y (lst f m)) (h:(V7 [] m).bind F=some r)
 (W:∀x (q:OG) H',An q (Ar.len x)->B9 Φ H0 (.blk q.id (.arr sz (q.pre++lst f x++q.rest))::L) H'->F x=some r->k (.own q.id q.lo q.n) H'):E.oapp sz by_ z H x y k:=by
 subst hE;have⟨x',O,Z⟩:=bind_some h;have em:=M7 (f:=f) m
 unfold V7 at O
 split at O
 ·rename_i i;cases O;refine⟨_,C,?_⟩
  have key:(lst f m).length*by_<=140737488355328/\∀t j,H t=none->k (.own t 0 ((lst f m).length:Nat)) (upd H t (some (.arr sz (lst f m++List.replicate j z)))):=by
   refine⟨?_,λt j s=>?_⟩
   ·rw[em];exact P8 (Ax (by simpa using i) a) za5
   refine W m ⟨t,0,((lst f m).length:Nat),[],List.replicate j z⟩ _ ⟨rfl,by rw[len_eq,em]⟩ ?_ za7;exact e.push s rfl
  grind[Ju]
 cases O
theorem Bx (h:An q (Ar.len l)):An q ((lst f l).length:Nat):=⟨h.1,by rw[h.2,len_eq,M7]⟩
theorem Az8 (a:B9 Φ H0 L H)(Q:An q (Ar.len l))(i:Nat)(U:L[i]? =some (.blk q.id (.arr sz (q.pre++lst f l++q.rest)))):WF sz H (.own q.id q.lo q.n) (lst f l):=by
 refine⟨_,a.get i U,?_⟩;rw[Ul Q.1 (by rw[Q.2,len_eq,M7])];exact .refl _
theorem FW (a:∀x,(f x).cells.length=sz){ys:Up V}{tl:J8}(h:M2 ys (lst f l)):WF sz H (.sl ys tl) (lst f l):=⟨h,Qv a l⟩
theorem AW5 (u:B9 Φ H0 L H) (Q:An q (Ar.len l)) (i:Nat) (U:L[i]? =some (.blk q.id (.arr sz (q.pre++lst f l++q.rest)))) {lo y:OS Int} {k:V->Prop} {F:Up α->OS R}
 (h:(R6 l lo y none).bind F=some r) (W:∀x (q:OG),An q (Ar.len x)->B9 Φ H0 (L.set i (.blk q.id (.arr sz (q.pre++lst f x++q.rest)))) H->F x=some r->k (.own q.id q.lo q.n)):
 E.oslice sz H q.id q.lo q.n lo y none k:=by
 subst hE;have⟨x,O,Z⟩:=bind_some h;have C:=M7 (f:=f) l
 have N:q.n=(l.length:Nat):=by rw[Q.2,len_eq]
 unfold R6 at O
 split at O
 ·rename_i v;cases O;have⟨A,B,c3,c4,c5⟩:=v
  simp only[Be]at c3
  refine⟨_,u.get i U,?_,?_⟩
  ·rw[N,Q.1]
   grind
  rw[N]
  generalize G:lo.getD 0=a at *
  generalize J:y.getD (l.length:Nat)=b at *
  have z:((l.drop a.toNat).take (b.toNat-a.toNat)).length=b.toNat-a.toNat:=by simp;omega
  refine W _ ⟨q.id,q.lo+a,b-a,q.pre++lst f (l.take a.toNat),lst f (l.drop b.toNat)++q.rest⟩ ⟨?_,?_⟩ ?_ Z
  ·simp only[K8,M7,X8,Q.1];omega
  ·rw[len_eq,z];grind
  have e:q.pre++lst f (l.take a.toNat)++lst f ((l.drop a.toNat).take (b.toNat-a.toNat))++(lst f (l.drop b.toNat)++q.rest)=q.pre++lst f l++q.rest:=by
   have j:l=l.take a.toNat++((l.drop a.toNat).take (b.toNat-a.toNat)++l.drop b.toNat):=by
    have e2:l.drop b.toNat=(l.drop a.toNat).drop (b.toNat-a.toNat):=by rw[IC];grind
    rw[e2,EW,EW]
   have s:lst f l=lst f (l.take a.toNat)++(lst f ((l.drop a.toNat).take (b.toNat-a.toNat))++lst f (l.drop b.toNat)):=by
    rw[MN,MN,<-j]
   rw[s];grind
  grind[B9.set_self]
 cases O
theorem AL8 (j:B9 Φ H0 L H)(Q:An q (Ar.len l))(i:Nat)(U:L[i]? =some (.blk q.id (.arr sz (q.pre++lst f l++q.rest)))){lo e:OS Int}{k:V->Prop}{F:Up α->OS R}
 (h:(R6 l lo e none).bind F=some r) (W:∀x (a:OG),WF sz H (.own a.id a.lo a.n) (lst f x)->F x=some r->k (.own a.id a.lo a.n)):
 E.oslice sz H q.id q.lo q.n lo e none k:=
 AW5 hE j Q i U h λx a N y Z=>W x a (Az8 hE y N i (by rw[BJ];grind)) Z
theorem Zc (a:B9 Φ H0 L H)(Q:An q (Ar.len l))(i:Nat){k:Up V->A6->Prop}(U:L[i]? =some (.blk q.id (.arr sz (q.pre++lst f l++q.rest))))(W:∀H',B9 Φ H0 (L.eraseIdx i) H'->k (lst f l) H'):E.ofrz H q.id q.lo q.n k:=by
 subst hE;have:=W _ (a.del i U);refine⟨_,_,_,a.get i U,.refl _,?_⟩;rw[Ul Q.1 (by rw[Q.2,len_eq,M7])];exact this
end
def Ai2 {α:Type}{f:α->V}{l:Up α}(h:lst f l=[]):l=[]:=by
 rw[lst_eq]at h;simp_all
def An7 {α:Type}{f:α->V}{l r:Up α}(M:lst f l=[])(h:(V7 [] l).bind (λx=>some x)=some r):lst f r=[]:=by
 rw[Ai2 M]at h
 grind[V7,lst_eq]
def Be2 (F:A6)(sz:Nat)(xs:Up V)(v:V)(H':A6):Prop:=∃q:OG,v= .own q.id q.lo q.n/\An q (xs.length:Nat)/\F q.id=none/\H'=upd F q.id (some (.arr sz (q.pre++xs++q.rest)))
def WH (P:If)(f:FuncId)(args:Up V)(sz:Nat)(xs:Up V):Prop:=∀H,O7 P f args H (Be2 H sz xs)
def QM (P:If)(f:FuncId)(args:Up V)(sz:Nat)(xs a:Up V):Prop:=
 ∀H (q:OG),An q (xs.length:Nat)->H q.id=some (.arr sz (q.pre++xs++q.rest))->O7 P f (.own q.id q.lo q.n::args) H (Be2 (upd H q.id none) sz a)
def GL (mk:V->V):Prop:=∀(g:Gh) (w:Is) (u:HO) (x:V),VR g w u (mk x)->∃v,VR g w v x/\∀(g':Gh) (w':Is) (y:V),Aw g w g' w'->VR g' w' v y->VR g' w' u (mk y)
theorem GL.id:GL λx=>x:=λ_ _ u _ h=>⟨u,h,λ_ _ _ _ k=>k⟩
def GL.agg (cs:Up V) (i:Nat) (U:i<cs.length):GL λx=>.agg (cs.set i x):=λg w u x h=>by
 cases h with
 |agg B O N=>
  rename_i vs
  have a:i<(cs.set i x).length:=za7
  refine⟨vs.getD i undef,by have:=N i a;rwa[Hf U,A2 rfl]at this,λg' w' y s k=>?_⟩;refine .agg za7 (λj v=>O j za7) λj v=>?_;rw[Hf U]
  split
  ·simp_all
  rename_i e;have:=N j za7
  rw[Hf U,A1 e]at this
  exact this.mono s
def GL.tup (cs:Up V) (i:Nat) (U:i<cs.length):GL λx=>.tup (cs.set i x):=λg w u x h=>by
 cases h with
 |tup B N=>
  rename_i vs
  have a:i<(cs.set i x).length:=za7
  refine⟨vs.getD i undef,by have:=N i a;rwa[Hf U,A2 rfl]at this,λg' w' y s k=>?_⟩;refine .tup za7 λj v=>?_;rw[Hf U]
  split
  ·simp_all
  rename_i e;have:=N j za7
  rw[Hf U,A1 e]at this
  exact this.mono s
def GL.comp {m n:V->V}(a:GL m)(e:GL n):GL λx=>m (n x):=λg w u x h=>by
 grind[GL]
def O7.adopt {P:If} {f:FuncId} {args:Up V} {H:A6} {K:V->A6->Prop} {sz:Nat} (h:O7 P f args H λx H'=>K x H'\/(x= .sl [] .nil/\∀t,H' t=none->K (.own t 0 0) (upd H' t (some (.arr sz []))))):O7 P f args H K:=
 λg w vals u j=>(h g w vals u j).mono λv w' ⟨g',x,H',s,e,A,a⟩=>by
  rcases a with a|⟨rfl,a⟩
  ·grind[P0]
  have⟨N,B,i,z,y⟩:=Ie e sz (.inl rfl) A;exact⟨N,_,_,s.trans B,i,y,a _ z⟩
def B9.last {F H:A6}{t:Nat}{b:KB}(h:B9 Eq F [.blk t b] H):F t=none/\KA (upd F t (some b)) H:=by
 have⟨C,i,G,a,O,Z⟩:=h;subst O;have J:=a.has 0 _ t b rfl rfl;refine⟨J.1,λx c M=>?_⟩
 by_cases e:x=t
 ·grind[KA,upd]
 rw[D3 _ _ e]at M;exact Z _ _ (a.ext x c M)
def B9.only {F H:A6}{L:Up En}{t:Nat}{b:KB}(h:B9 Eq F L H)(i:Nat)(U:L[i]? =some (.blk t b)):B9 Eq F [.blk t b] H:=by
 have⟨C,y,G,a,O,Z⟩:=h;subst O;have J:=a.has i _ t b U rfl;refine⟨C,upd F t (some b),upd F t (some b),(DD.start F).push J.1 rfl,rfl,λx c M=>?_⟩
 by_cases e:x=t
 ·grind[KA,upd]
 rw[D3 _ _ e]at M;exact Z _ _ (a.ext x c M)
def B9.only1 {F H:A6}{L:Up En}{t:Nat}{b:KB}(h:B9 Eq F (.blk t b::L) H):B9 Eq F [.blk t b] H:=by
 have⟨C,i,G,a,O,Z⟩:=h;subst O;have J:=a.has 0 _ t b rfl rfl;refine⟨C,upd F t (some b),upd F t (some b),(DD.start F).push J.1 rfl,rfl,λx c M=>?_⟩
 by_cases e:x=t
 ·grind[KA,upd]
 rw[D3 _ _ e]at M;exact Z _ _ (a.ext x c M)
section
variable {P:Program}{T:JI}{f:FuncId}{fn:Func}{c:Code}{n:Nat}{rs:List ResultVar}{args:List V}
def FO {F H:A6}{sz:Nat}{xs:Up V}(i:Cf)(v:Yv P T)(z:P.funcs[f]? =some fn)(A:fn.body=some c)(hd:N8 i c=true)
 (a:∀vals w,(callFunc f vals).run P w= .ok (.enter f vals) w) (s:fn.ntmps=n) (u:fn.results.toList=rs) (B:Nat.ble args.length n=true)
 (h:∀(E:Hj) (K:V->A6->Prop),E=J3 P n none->(∀(q:OG) L H',An q (xs.length:Nat)->B9 Eq F (.blk q.id (.arr sz (q.pre++xs++q.rest))::L) H'->K (.own q.id q.lo q.n) H')->(xs=[]->∀L H',B9 Eq F L H'->K (.sl [] .nil) H')->run E T n i c ⟨FA args 0,[]⟩ H (SI E T rs K)):
 O7 P f args H (Be2 F sz xs):=by
 refine O7.adopt (sz:=sz) (O7.le (Bp (K:=λx H'=>∃y e,DK x y/\KA e H'/\(Be2 F sz xs y e\/(y= .sl [] .nil/\∀t,e t=none->Be2 F sz xs (.own t 0 0) (upd e t (some (.arr sz [])))))) i v.1 v.2 z A hd a s u B λE hE=>?_));refine h E _ hE (λq L H' Q N=>?_) λM L H' N=>?_
 ·have⟨O,Z⟩:=N.only1.last;exact⟨_,_,.refl _,Z,.inl ⟨q,rfl,Q,O,rfl⟩⟩
 exact⟨_,F,.refl _,N.ext,.inr ⟨rfl,λt j=>⟨⟨t,0,0,[],[]⟩,rfl,⟨rfl,by rw[M];rfl⟩,j,by rw[M];rfl⟩⟩⟩
end
section
variable {P:Program}{nt:Nat}{rd:Option Nat}{T:JI}{E:Hj}
variable (hE:E=J3 P nt rd)
include hE
variable {α R S:Type}{f:α->V}{Φ:A6->A6->Prop}{H0 H:A6}{L:List En}{sz:Nat}{q:OG}{r:R}{m:Option (List α)}{F:List α->Option R}{fid:FuncId}{args args':List V}{k:V->A6->Prop}
theorem Pn (h:m.bind F=some r) (y:∀x,m=some x->WH P fid args' sz (lst f x)) (B:M2 args args') (i:B9 Φ H0 L H)
 (W:∀x (q:OG) H',An q (Ar.len x)->B9 Φ H0 (.blk q.id (.arr sz (q.pre++lst f x++q.rest))::L) H'->F x=some r->k (.own q.id q.lo q.n) H'):
 E.call (.func (.func fid) [] []) args H k:=by
 subst hE;have⟨x,O,Z⟩:=bind_some h;refine O7.value (F:=[]) (C:=[]) ?_;have:=((y x O) H).args B;simp only[I1,E5]
 exact this.mono λv H' ⟨q,a,e0,e2,e⟩=>by
  subst a;subst e;exact W x q _ (by rw[len_eq];rwa[M7]at e0) (i.push e2 rfl) Z
theorem Ke {l:Up α} (a:B9 Φ H0 L H) (Q:An q (Ar.len l)) (i:Nat) (U:L[i]? =some (.blk q.id (.arr sz (q.pre++lst f l++q.rest)))) (h:m.bind F=some r) (N:∀x,m=some x->QM P fid args' sz (lst f l) (lst f x)) (B:M2 args args')
 (W:∀x (q:OG) H',An q (Ar.len x)->B9 Φ H0 (L.set i (.blk q.id (.arr sz (q.pre++lst f x++q.rest)))) H'->F x=some r->k (.own q.id q.lo q.n) H'):
 E.call (.func (.func fid) [] []) (.own q.id q.lo q.n::args) H k:=by
 subst hE;have⟨x,O,Z⟩:=bind_some h;refine O7.value (F:=[]) (C:=[]) ?_;have:=((N x O) H q (by rw[M7,<-len_eq];exact Q) (a.get i U)).args (.cons (.refl _) B);simp only[I1,E5]
 exact this.mono λv H' ⟨j,e,e0,e2,y⟩=>by
  subst e;subst y;exact W x j _ (by rw[len_eq];rwa[M7]at e0) (a.swap i U e2) Z
theorem AW7 {p:Prop}{v:V}{a b:Unit->Prop}(h:AL6 v=some p)(O:p->a ())(e:b ()):E.nilc v a b:=by grind[J3]
end
section
variable {P:Program}{T:JI}{f:FuncId}{fn:Func}{c:Code}{n:Nat}{rs:List ResultVar}{args:List V}
end
section
variable {P:Program}{nt:Nat}{rd:Option Nat}{T:JI}{E:Hj}
variable (hE:E=J3 P nt rd)
include hE
variable {H:A6}{sz id:Nat}{l n RL:Int}{row:List V}
theorem AU7 (W:H id=some (.arr sz row))(B:RL=(row.length:Nat)){lo U:OS Int}{k:V->Prop}(a b:Int)(x:lo.getD 0=a)(A:U.getD n=b)(O:0<=a)(Z:a<=b)(J:l+b<=RL)(h:∀e i,e=l+a->i=b-a->k (.own id e i)):
 E.oslice sz H id l n lo U none k:=by
 grind[J3]
theorem r_br {c:Bool}{x y:Unit->Prop}(O:c=true->x ())(Z:c=false->y ()):E.br c x y:=by simp_all[J3]
theorem r_ln {xs:Up V}(B:RL=(xs.length:Nat)){k:Int->Prop}(h:k RL):E.ln xs k:=by simp_all[J3]
theorem Bh5 {k:V->Prop}(h:k (.sl [] .nil)):E.slice sz [] .nil none (some 0) none k:=by
 subst hE;exact⟨⟨za5,za5,za5,za5,λh=>(by cases h),.inl za5⟩,h⟩
theorem Bh6 (W:H id=some (.arr sz row)){y:V}{e:Up V}(C:WF sz H y e){YL:Int}(i:YL=(e.length:Nat)){k:V->A6->Prop}
 (h:∀m a,m=(if n<YL then n else YL)->a=FK row l.toNat (e.take n.toNat)->k (.int .i64 m) (upd H id (some (.arr sz a)))):E.ocopy sz H (.own id l n) y k:=by
 grind[J3]
theorem AU8 {z:V}(W:H id=some (.arr sz row)){k:A6->Prop}(h:∀a,a=FK row l.toNat (List.replicate n.toNat z)->k (upd H id (some (.arr sz a)))):E.oclear sz z H (.own id l n) k:=by
 simp_all[J3]
theorem AU9 {by_:Nat} {z x:V} {i0:Int} (i:Int) (U:i0=i) (M:x= .sl [] .nil\/x= .sl [] .full) (y:0<=i) (A:i.toNat*by_<=140737488355328) {k:V->A6->Prop}
 (h:∀t m a j,H t=none->m=i->a=List.replicate i.toNat z++List.replicate j z->k (.own t 0 m) (upd H t (some (.arr sz a)))):
 E.oappz sz by_ z H x i0 k:=by
 subst hE;subst U
 generalize i0=i at *
 have e:((i.toNat:Nat):Int)=i:=za2
 have key:Ju H k sz by_ z x (List.replicate i.toNat z):=by
  have Z:(List.replicate i.toNat z).length*by_<=140737488355328/\∀t j,H t=none->k (.own t 0 ((List.replicate i.toNat z).length:Nat)) (upd H t (some (.arr sz (List.replicate i.toNat z++List.replicate j z)))):=by
   simp_all
  grind[Ju]
 refine⟨⟨y,?_⟩,key⟩
 rcases M with rfl|rfl<;>simpa[ownN]using A
end
end Go.Ab
namespace Go.Ab
open Go.RowKit
def Aq6 {A B C row:Up V}{lo n:Int}(e:row=A++B++C)(a:lo=(A.length:Nat))(O:n=(B.length:Nat)):W1 row lo n=B:=by
 simp_all[W1]
def AA9 {A B C ys row:Up V}{i:Nat}(e:row=A++B++C)(U:i=A.length)(a:ys.length=B.length):FK row i ys=A++ys++C:=by
 simp_all[FK]
def Bk3 {a b by_:Nat}(h:a+b<=1073741824)(A:by_<=131072):(a+b)*by_<=140737488355328:=P8 (Ax h A) za5
def AX9 {α:Type}[P3][Ar]{f:α->V}{l r:Up α}{n:Int}(h:AD7 l n=some r):0<=n/\n<=1073741824/\lst f r=[]:=by
 grind[AD7,lst_eq]
end Go.Ab
namespace Go.Ab
open Go.RowKit
variable [P3]
end Go.Ab
namespace Go.Ab
open Go.RowKit
end Go.Ab
namespace Go.Ab
def AS2 (l:Up Int):OS ByteArray:=some (Ac4 l)
def Nn {K X:Type}[DecidableEq K](m:Up (K×X))(k:K)(z:X):OS (X×Bool):=some (match m.find? (λp=>decide (p.1=k))with|some p=>(p.2,true)|none=>(z,false))
def MC {K X:Type}[DecidableEq K](m:Up (K×X))(k:K)(v:X):OS (Up (K×X)):=some (if m.any (λp=>decide (p.1=k))=true then m.map (λp=>if p.1=k then(k,v)else p)else m++[(k,v)])
def Wp {α:Type}(l:Up α)(a:Int)(m:Up α):OS (Up α×Int):=
 if 0<=a/\a<=(l.length:Nat)then some (l.take a.toNat++m.take (l.length-a.toNat)++l.drop (a.toNat+m.length),if(l.length:Int)-a<(m.length:Nat)then(l.length:Int)-a else(m.length:Nat))else none
end Go.Ab
namespace Go.Ab
variable {α:Type}
def Nm (cmp:α->α->OS Int)(a b:α):Bool:=match cmp a b with|some c=>decide (c<0)|none=>false
def geC (cmp:α->α->OS Int)(a b:α):Bool:=match cmp a b with|some c=>decide (0<=c)|none=>false
def Av1 (lt:α->α->Bool)(x:α):Up α->Up α
 |[]=>[x]
 |y::l=>if lt x y then x::y::l else y::Av1 lt x l
def Ii (lt:α->α->Bool):Up α->Up α
 |[]=>[]
 |x::l=>Av1 lt x (Ii lt l)
def Bj (cmp:α->α->OS Int):Up α->Bool
 |[]=>true
 |a::r=>geC cmp a a&&r.all (λb=>Nm cmp a b&&geC cmp b a)&&Bj cmp r
def Ll (cmp:α->α->OS Int)(l:Up α):OS (Up α):=
 if decide (l.length<4611686018427387904)&&Bj cmp (Ii (Nm cmp) l)then some (Ii (Nm cmp) l)else none
def SB (lt:α->α->Bool) (x:α):∀l,(Av1 lt x l).Perm (x::l)
 |[]=>.refl _
 |y::l=>by
  unfold Av1
  split
  ·exact .refl _
  exact((SB lt x l).cons y).trans (.swap _ _ _)
def CT (lt:α->α->Bool):∀l,(Ii lt l).Perm l
 |[]=>.refl _
 |x::l=>(SB lt x _).trans ((CT lt l).cons x)
variable {cmp:α->α->Option Int}
def Ar0 {l r:Up α} (h:Ll cmp l=some r):r.Perm l/\Bj cmp r=true/\l.length<4611686018427387904:=by
 unfold Ll at h
 split at h
 ·rename_i a;cases h
  simp only[K0,H5]at a
  exact⟨CT _ l,a.2,a.1⟩
 cases h
def Rel (cmp:α->α->OS Int)(a b:α):Prop:=Nm cmp a b=true/\geC cmp b a=true
def Bs:∀{r:Up α},Bj cmp r=true<->(∀a∈r,geC cmp a a=true)/\r.Pairwise (Rel cmp)
 |[]=>by simp[Bj]
 |a::r=>by
  simp only[Bj,K0,ET,DU,Fa,Bs (r:=r),Rel]
  grind
def BC4 {a b:α}(h:geC cmp a b=true):Nm cmp a b=false:=by
 unfold geC at h;grind[Nm]
def Bu9 {a b:α}(h:Nm cmp a b=true):∃c,cmp a b=some c:=by
 grind[Nm]
def Ao {r:Up α}(h:Bj cmp r=true){i j:Nat}(U:i<r.length)(u:j<r.length):Nm cmp r[i] r[j]=decide (i<j):=by
 have⟨O,Z⟩:=Bs.1 h
 rw[AC]at Z
 grind[Nm,geC,Rel]
def UQ {r:Up α}(h:Bj cmp r=true){a b:α}(x:a∈r)(A:b∈r):∃c,cmp a b=some c:=by
 have⟨O,Z⟩:=Bs.1 h
 rw[AC]at Z
 obtain⟨i,U,rfl⟩:=K1 x;obtain⟨j,u,rfl⟩:=K1 A
 rcases Fg i j with e|e|e
 ·exact Bu9 (Z i j U u e).1
 ·grind[geC]
 grind[geC,Rel]
def Qh {r:Up α}(h:Bj cmp r=true){i j:Nat}(U:i<r.length)(u:j<r.length)(e:r[i]=r[j]):i=j:=by
 have a:=Ao h U u;have b:=Ao h u U;have c:=Ao h U U
 rw[e]at a b c
 rw[Ao h u u]at a b c
 grind
def YJ {r:Up α}(h:Bj cmp r=true):r.Nodup:=by
 rw[List.Nodup,AC];intro i j U u a e;have:=Qh h U u e;omega
def PQ {r s:Up α} (h:Bj cmp r=true) (e:s.Perm r) (C:s.Pairwise λa b=>Nm cmp b a=false):s=r:=by
 refine IS (le:=λa b=>Nm cmp b a=false) (λa b x A O Z=>?_) C ?_ e
 ·obtain⟨i,U,rfl⟩:=K1 (e.mem_iff.1 x);obtain⟨j,u,rfl⟩:=K1 A
  rw[Ao h u U]at O
  rw[Ao h U u]at Z
  grind
 exact(Bs.1 h).2.imp λh=>BC4 h.2
def AD5 {r:Up α} (h:Bj cmp r=true) {x:α} (M:x∈r):∀{l:Up α},(∀y∈l,y∈r)->l.Pairwise (λa b=>Nm cmp b a=false)->(Av1 (Nm cmp) x l).Pairwise (λa b=>Nm cmp b a=false)
 |[],_,_=>by simp[Av1]
 | y::l,A,v=>by
  rw[DU]at v
  unfold Av1;obtain⟨i,U,rfl⟩:=K1 M;have⟨j,u,e⟩:=K1 (A y za4)
  split
  ·rename_i s;refine List.pairwise_cons.2 ⟨λz N=>?_,List.pairwise_cons.2 v⟩;obtain⟨k,W,rfl⟩:=K1 (A z N)
   rw[<-e,Ao h U u]at s
   rw[Ao h W U]
   rcases List.mem_cons.1 N with N|N
   ·have:=Qh h W u (N.trans e.symm)
    grind
   have:=v.1 _ N
   rw[<-e,Ao h W u]at this
   grind
  rename_i s;refine List.pairwise_cons.2 ⟨λz N=>?_,AD5 h M (λz N=>A z (by simp[N])) v.2⟩
  rcases List.mem_cons.1 ((SB _ _ _).mem_iff.1 N)with N|N
  ·simp_all
  simp_all
def Mp {r:Up α}(h:Bj cmp r=true):∀{l:Up α},(∀y∈l,y∈r)->(Ii (Nm cmp) l).Pairwise (λa b=>Nm cmp b a=false)
 |[],_=>by simp[Ii]
 |x::l,e=>AD5 h (e x za4) (λy i=>e y (by simp[(CT _ l).mem_iff.1 i])) (Mp h λy i=>e y (by simp[i]))
def UT {l r:Up α}(a:r.Perm l)(h:Bj cmp r=true)(B:l.length<4611686018427387904):Ll cmp l=some r:=by
 have e:Ii (Nm cmp) l=r:=PQ h ((CT _ l).trans a.symm) (Mp h λy i=>a.mem_iff.2 i)
 simp_all[Ll]
end Go.Ab
namespace Go.Ab
variable {α:Type}[DecidableEq α]
def We:Up α->Up α
 |[]=>[]
 |x::l=>match We l with
  |[]=>[x]
  |y::r=>if x=y then y::r else x::y::r
def PS (cmp:α->α->OS Int)(l:Up α):OS (Up α):=
 if decide (l.length<4611686018427387904)&&Bj cmp (We (Ii (Nm cmp) l))then some (Ii (Nm cmp) l)else none
def Rm {a:α}:∀{l:Up α},a∈We l<->a∈l
 |[]=>by simp[We]
 |x::l=>by
  have ih:=Rm (a:=a) (l:=l);unfold We
  split
  ·next e=>rw[e]at ih;simp at ih;simp[ih]
  next y r e=>
  rw[e]at ih
  split<;>grind
variable {cmp:α->α->Option Int}
def Tq {r s m:Up α}(h:Bj cmp r=true)(e:∀x∈s,x∈r)(y:s.Perm m)(O:s.Pairwise λa b=>Nm cmp b a=false)(Z:m.Pairwise λa b=>Nm cmp b a=false):s=m:=by
 refine IS (le:=λa b=>Nm cmp b a=false) (λa b N A O Z=>?_) O Z y;obtain⟨i,U,rfl⟩:=K1 (e a N);obtain⟨j,u,rfl⟩:=K1 (e b (y.mem_iff.2 A))
 rw[Ao h u U]at O
 rw[Ao h U u]at Z
 grind
def Aq8 {l m:Up α} (h:PS cmp l=some m):m.Perm l/\l.length<4611686018427387904/\m.Pairwise (λa b=>Nm cmp b a=false)/\∃r,Bj cmp r=true/\∀x∈l,x∈r:=by
 unfold PS at h
 split at h
 ·rename_i e;cases h
  simp only[K0,H5]at e
  have i:∀x∈l,x∈We (Ii (Nm cmp) l):=λx M=>Rm.2 ((CT _ l).mem_iff.2 M);exact⟨CT _ l,e.1,Mp e.2 i,_,e.2,i⟩
 cases h
def TP {r:Up α} (h:Bj cmp r=true):∀{m:Up α},(∀x∈m,x∈r)->m.Pairwise (λa b=>Nm cmp b a=false)->(We m).Pairwise (Rel cmp)
 |[],_,_=>by simp[We]
 | x::l,s,C=>by
  rw[DU]at C
  have ih:=TP h (m:=l) (λy Q=>s y (by simp[Q])) C.2;have N:∀z,z∈We l->z∈l:=λz=>Rm.1;unfold We
  split
  ·simp
  next y t e=>
  rw[e]at ih N
  split
  ·exact ih
  next hne=>
  refine List.pairwise_cons.2 ⟨λz v=>?_,ih⟩;obtain⟨i,U,A⟩:=K1 (s x za4);obtain⟨j,u,e2⟩:=K1 (s y (by simp[N y za4]));obtain⟨k,W,B⟩:=K1 (s z (by simp[N z v]));have G:=C.1 y (N y za4)
  rw[<-A,<-e2,Ao h u U]at G
  have M:i≠j:=λe=>hne (by rw[<-A,<-e2];simp only[e])
  have O:j<=k:=by
   rcases List.mem_cons.1 v with rfl|v
   ·have:=Qh h u W (e2.trans B.symm);omega
   have:=((List.pairwise_cons.1 ih).1 z v).1
   rw[<-e2,<-B,Ao h u W]at this
   simp at this;omega
  simp at G
  have J:=(Bs.1 h).2
  rw[AC]at J
  rw[<-A,<-B];exact J i k U W za2
def Ac6 {l m r:Up α}(j:m.Perm l)(h:Bj cmp r=true)(y:∀x∈l,x∈r)(C:m.Pairwise λa b=>Nm cmp b a=false)(B:l.length<4611686018427387904):PS cmp l=some m:=by
 have U:=Mp h y;have i:∀x∈Ii (Nm cmp) l,x∈r:=λx M=>y x ((CT _ l).mem_iff.1 M);have e:Ii (Nm cmp) l=m:=Tq h i ((CT _ l).trans j.symm) U C;have Z:Bj cmp (We (Ii (Nm cmp) l))=true:=Bs.2 ⟨λa N=>(Bs.1 h).1 a (i a (Rm.1 N)),TP h i U⟩;unfold PS;rw[A2 (by simp[B,Z]),e]
end Go.Ab
open Go.Ab.Ar (len_eq lst lst_eq ofs)
namespace Go.Ab
open Go.RowKit Go.Sort
variable [P3]
def Rl.more {g:Gh}{H:A6}{w w':Is}(h:Rl g H w)(A:Below g.base w w')(C:∀b,b<w.heap.size->w'.heap[b]? =w.heap[b]?)(hd:w.drawn<=w'.drawn:=by first|exact Nat.le_refl _|exact Nat.le_succ _|exact Nat.le_add_right _ _):Aw g w g w'/\Rl g H w':=by
 have s:Aw g w g w':=⟨λ_ _ e=>e,λ_ _ e=>e,λ_ _ e=>e,rfl,λb o a=>by simp only[World.cell?,C b (h.fz_lt a)],A,λ_ _ _=>rfl,hd⟩;exact⟨s,λx k M=>(h.blk x k M).mono M s λy N=>⟨C y (h.lt N),λ_ z=>z⟩,h.inj,λb o a=>by have⟨v,i⟩:=h.frz b o a;exact⟨v,(s.cell b o a).trans i⟩,h.nxt,P8 h.bnd A.size,λn=>(h.glb n).mono s⟩
def Ql (q:OG)(a:Up Int):Up V:=q.pre++a.map (V.int .i64)++q.rest
def Ml (q:OG)(a:Up Int):(Ql q a).length=q.pre.length+a.length+q.rest.length:=by grind[Ql]
def Ae5 {q:OG}{a:Up Int}{j:Nat}(u:j<a.length):(Ql q a).getD (q.pre.length+j) .bad= .int .i64 a[j]:=by
 grind[Ql]
def Ae4 {q:OG}{a ds:Up Int}(B:ds.length=a.length){i:Nat}(U:i<q.pre.length\/q.pre.length+ds.length<=i):(Ql q ds).getD i .bad=(Ql q a).getD i .bad:=by
 grind[Ql]
def Bi0 {off:Nat}{ds:Up Int}{c:za1 HO}{k:Nat}(W:k<c.size):(putCells (Value.int .i64) off ds.toArray c).getD k undef=if off<=k/\k<off+ds.length then .int .i64 (ds.toArray[k-off]!)else c.getD k undef:=by
 unfold putCells
 simp_all
def Be6 (P:If)(f:FuncId)(a ds:Up Int)(r:OG->V):Prop:=
 ∀H (q:OG),An q (a.length:Nat)->H q.id=some (.arr 1 (Ql q a))->O7 P f [.own q.id q.lo q.n] H λx H'=>x=r q/\H'=upd H q.id (some (.arr 1 (Ql q ds)))
def An2 {P:If} {f:FuncId} {N ds:Up Int} {r:OG->V} {m:Nat} (B:ds.length=N.length)
 (af:∀vals w,(callFunc f vals).run P w= .ok (.enter f vals) w)
 (h0:N=[]->∀p cap w,Calls P f #[.slice p 0 cap] w λe w'=>∃v,e= .returned v/\w'=w/\(v= .slice p 0 cap/\(∀q,An q (N.length:Nat)->r q= .own q.id q.lo q.n)\/v= .tuple #[]/\∀q,r q= .tup []))
 (O:∀blk off cap w,0<N.length->N.length<=cap->Holds (Value.int .i64) w blk off N.toArray->blk<w.heap.size->
  Calls P f #[.slice (some ⟨blk,off,none⟩) N.length cap] w λe w'=>∃v,e= .returned v/\(v= .slice (some ⟨blk,off,none⟩) m cap/\m<=N.length/\(∀q,r q= .own q.id q.lo (m:Nat))\/v= .tuple #[]/\∀q,r q= .tup [])/\
   ∃n os,w'=grow (putRow (Value.int .i64) (Sort.ahead w n) blk off ds.toArray) os):Be6 P f N ds r:=by
 intro H q Q W g w vals hR hA;have⟨ae,hv⟩:=hA;have⟨vals⟩:=vals
 match vals,ae with
 | [v],_=>
  have s:=hv 0 za4
  simp at s
  rw[af]
  show CallsIn Fence.wide 0 P f #[v] w _
  rw[callsIn_wide];have ak:=Q;have⟨aj,hn⟩:=Q;have⟨b,p,e1,e2,e3,e4,e5,e6,e7,e8,e9,G⟩:=Gr hR W s
  rw[Ml]at e2 e5 e7 e8 G
  subst e2
  have Z:q.n.toNat=N.length:=za2
  by_cases hz:N=[]
  ·subst hz;have hd:ds=[]:=List.length_eq_zero_iff.1 B;subst hd;rw[Z];refine(h0 rfl p _ w).mono ?_;rintro e w' ⟨v,rfl,rfl,a⟩;refine⟨v,rfl,g,r q,H,Aw.refl _ _,hR,?_,rfl,?_⟩
   ·rcases a with⟨rfl,hr⟩|⟨rfl,hr⟩
    ·rw[hr q ak];rw[Z]at s;exact s
    rw[hr];exact VR.und g w'
   grind[upd]
  have al:0<N.length:=List.length_pos_iff.2 hz
  rcases G with G|⟨c,T,k1,k2,k3,k4,k5,k6⟩
  ·omega
  have hp:=e8 za2;subst hp
  have A:(g.ow q.id).o+q.lo.toNat*1=(g.ow q.id).o+q.pre.length:=by rw[aj];simp
  rw[Z,A]
  have ac:b<w.heap.size:=by
   grind
  have J:∀o,w.cell? ⟨b,o,none⟩=c[o]? :=λo=>by simp[World.cell?,k2]
  have hH:Holds (Value.int .i64) w b ((g.ow q.id).o+q.pre.length) N.toArray:=λj u=>by
   have ah:j<N.length:=za2
   refine⟨?_,by simp[World.frozen?,k2]⟩;have h:=(k4 (q.pre.length+j) 0 za2 za2).2
   rw[Ae5 ah]at h
   have h:=VR.int_inv h;rw[J]
   have an:(g.ow q.id).o+q.pre.length+j<c.size:=za2
   rw[show(g.ow q.id).o+(q.pre.length+j)*1+0=(g.ow q.id).o+q.pre.length+j by omega]at h
   simp_all
  refine(O b _ _ w al za2 hH ac).mono ?_;rintro e w' ⟨v,rfl,a,n,os,rfl⟩
  have C:=Rl.setArr hR (ys:=Ql q ds) (c':=putCells (Value.int .i64) ((g.ow q.id).o+q.pre.length) ds.toArray c) W e1 (by rw[Ml];omega) k2 (by simp[putCells])
   (λo z=>by
    simp only[putCells,Tb]
    grind)
   (by rw[Ml,Ml,B])
   (λi U=>by
    rw[Ml]at U
    by_cases hm:i<q.pre.length\/q.pre.length+ds.length<=i
    ·rw[Ae4 B hm];grind[Ql]
    grind[V.cells,Ql])
   (λi j U u=>by
    rw[Ml]at U
    have ai:j=0:=za2
    subst ai;rw[Bi0 za2]
    by_cases hm:i<q.pre.length\/q.pre.length+ds.length<=i
    ·rw[A1 za2,Ae4 B hm]
     simp_all
    obtain⟨j,rfl⟩:∃j,i=q.pre.length+j:=⟨i-q.pre.length,za2⟩
    have u:j<ds.length:=za2
    rw[A2 za2,Ae5 u,show(g.ow q.id).o+(q.pre.length+j)*1+0-((g.ow q.id).o+q.pre.length)=j by omega]
    have:ds.toArray[j]! =ds[j]:=by simp[u]
    rw[this]
    exact⟨rfl,VR.int _ _⟩)
  have⟨s1,R1⟩:=C
  generalize y:w.setRow b (putCells (Value.int .i64) ((g.ow q.id).o+q.pre.length) ds.toArray c)=w1 at s1 R1
  have ag:w1.heap.size=w.heap.size:=by rw[<-y];simp[World.setRow]
  have Y:∀x,x<w1.heap.size->(grow (putRow (Value.int .i64) (Sort.ahead w n) b ((g.ow q.id).o+q.pre.length) ds.toArray) os).heap[x]? =w1.heap[x]? :=λx M=>by
   have ao:x<w.heap.size:=za2
   simp only[grow,putRow,mapBlock,Sort.ahead];rw[Th za7,IP]
   by_cases aa:b=x
   ·subst aa;rw[A2 rfl,k2,<-y,setRow_heap w b c _ T (0,0) k2];rfl
   rw[A1 aa,<-y,S7 w b _ x (λe=>aa e.symm)]
  have ab:Below g.base w1 (grow (putRow (Value.int .i64) (Sort.ahead w n) b ((g.ow q.id).o+q.pre.length) ds.toArray) os):=by
   refine⟨by rw[<-y];rfl,by rw[<-y];rfl,by rw[<-y];rfl,?_,λk am=>?_⟩
   ·rw[ag];simp_all
   grind
  have⟨s2,R2⟩:=R1.more ab Y (by rw[<-y];exact KV _ _);refine⟨v,rfl,g,r q,_,s1.trans s2,R2,?_,rfl,rfl⟩
  rcases a with⟨rfl,hm,hr⟩|⟨rfl,hr⟩
  ·rw[hr]
   have ad:(g.ow q.id).cap=q.pre.length+N.length+q.rest.length:=by rw[e7]
   have:=VR.own (g:=g) (w:=grow (putRow (Value.int .i64) (Sort.ahead w n) b ((g.ow q.id).o+q.pre.length) ds.toArray) os) (id:=q.id) (b:=b) (lo:=q.lo) (n:=(m:Nat)) (p:=some ⟨b,(g.ow q.id).o+q.pre.length,none⟩) e1 e3 za2 za2 (λ_=>by rw[e6,A])
   rw[ad]at this
   simp_all
  rw[hr];exact VR.und _ _
end Go.Ab
namespace Go.Ab
open Go.RowKit Go.Shelf
variable [P3]
def Cz (i:Nat):Up UInt8:=if i<10 then[UInt8.ofNat (48+i)]else[UInt8.ofNat (48+i / 10),UInt8.ofNat (48+i % 10)]
def UU (i:Int):OS ByteArray:=if decide (0<=i)&&decide (i<100)then some ⟨(Cz i.toNat).toArray⟩else none
def AI0 {i:Nat}(h:i<100):Lib.decDigits i=Cz i:=by
 unfold Cz;rw[Lib.decDigits]
 split
 ·rfl
 rw[Lib.decDigits,dif_pos za2];rfl
def An1 {P:If} {N:Ren} (L:Go.Proofs.Lays.n283 P N) (x:∀vals w,(callFunc (N.f 283) vals).run P w= .ok (.enter (N.f 283) vals) w) {i:Int} {r:za0} (h:UU i=some r):B8 P (N.f 283) [.int .i64 i] (.str r):=by
 intro H g w vals z s;have⟨a,B⟩:=s;have⟨vals⟩:=vals
 match vals,a with
 | [v],_=>
  have y:=B 0 za4
  simp at y
  rw[y.int_inv,x]
  show CallsIn Fence.wide 0 P (N.f 283) #[.int .i64 i] w _
  rw[callsIn_wide]
  unfold UU at h
  split at h
  ·rename_i A
   simp only[K0,H5]at A
   cases h;obtain⟨u,rfl⟩:∃u:Nat,i=u:=⟨i.toNat,za2⟩
   have j:u<100:=za2
   refine(Go.Proofs.Any.internal_strconv_small L u j w).mono ?_;rintro e w' ⟨rfl,rfl⟩;refine⟨_,rfl,g,_,H,Aw.refl _ _,z,VR.str _,?_,rfl⟩;rw[AI0 j];rfl
  cases h
def SM (s:za0):Up Int:=s.data.toList.map λb=>(b.toNat:Int)
def YK (s:za0):HN s=(SM s).map (V.int .u8):=by simp[HN,SM]
def XQ {k:IntKind}:∀{l:Up Int} {ys:Up V},M2 (l.map (V.int k)) ys->ys=l.map (V.int k)
 |[],_,h=>by cases h;rfl
 |x::l,_,h=>by
  cases h with
  |cons a b=>cases a;rw[XQ b];rfl
section
variable [Ar]{P:Program}{nt:Nat}{rd:Option Nat}{E:Hj}(hE:E=J3 P nt rd){Φ:A6->A6->Prop}{H0 H:A6}{L:List En}{R:Type}{r:R}
include hE
theorem Bj3 {by_:Nat}{z:V}(a:by_<=131072){q:OG}{l:Up Int}(N:B9 Φ H0 L H)(Q:An q (Ar.len l))(i:Nat)(U:L[i]? =some (.blk q.id (.arr 1 (q.pre++lst (V.int .u8) l++q.rest)))){s:za0}{k:V->A6->Prop}{F:Up Int->OS R}
 (h:(V7 l (SM s)).bind F=some r)
 (W:∀x (q:OG) H',An q (Ar.len x)->B9 Φ H0 (L.set i (.blk q.id (.arr 1 (q.pre++lst (V.int .u8) x++q.rest)))) H'->F x=some r->k (.own q.id q.lo q.n) H'):E.oapps by_ z H (.own q.id q.lo q.n) s k:=by
 have e:=Ih (z:=z) (f:=V.int .u8) hE (λ_=>rfl) a N Q i U (y:=.sl (HN s) .ro) (m:=SM s) (FW (f:=V.int .u8) hE (λ_=>rfl) (by rw[lst_eq,YK];exact .refl _)) h W;subst hE;have⟨j,O,Z⟩:=e;have O:=O.1
 rw[YK]at O
 rw[XQ O,<-YK]at Z
 exact Z
end
end Go.Ab
namespace Go.Ab
def AZ6 (x:Int):Up Int->Up Int
 |[]=>[x]
 |y::r=>if x<=y then x::y::r else y::AZ6 x r
def VP:Up Int->Up Int
 |[]=>[]
 |x::r=>AZ6 x (VP r)
theorem AD4 (a:Int):∀(l m:Up Int),(∀b∈l,¬a<=b)->(∀b∈m,a<=b)->AZ6 a (l++m)=l++a::m
 |[],[],_,_=>rfl
 |[],y::m,_,h=>by simp_all[AZ6]
 |y::l,m,h,k=>by
  simp only[V1,AZ6];rw[A1 (h y za4),AD4 a l m (λb A=>h b (by simp[A])) k]
theorem XS:∀l:Up Int,VP l=l.mergeSort λx y=>decide (x<=y)
 |[]=>by simp[VP]
 |a::l=>by
  have j:∀x y z:Int,decide (x<=y)=true->decide (y<=z)=true->decide (x<=z)=true:=λx y z h k=>za7
  have e:∀x y:Int,(decide (x<=y)||decide (y<=x))=true:=λx y=>by simp;omega
  have⟨l1,i,O,Z,J⟩:=List.mergeSort_cons j e a l;have C:=NX j e (a::l)
  rw[O]at C
  rw[VP,XS l,O,Z]
  grind[AD4,List.pairwise_cons]
def Az9 (l:Up Int):OS (Up Int):=if l.length<4611686018427387904 then some (VP l)else none
def Aq9 {l r:Up Int}(h:Az9 l=some r):l.length<4611686018427387904/\r=l.mergeSort λx y=>decide (x<=y):=by
 grind[Az9,XS]
end Go.Ab
namespace Go.Ab
open Go.RowKit
variable [P3]
def Be5 (P:If)(f:FuncId)(a ds:Up Int):Prop:=Be6 P f a ds (λ_=>.tup [])/\ds.length=a.length
def Ae6 [Ar](q:OG)(zs:Up Int):q.pre++lst (V.int .i64) zs++q.rest=Ql q zs:=by rw[lst_eq];rfl
section
variable [Ar]{P:Program}{nt:Nat}{rd:Option Nat}{E:Hj}(hE:E=J3 P nt rd)
include hE
theorem Bj5 {Φ:A6->A6->Prop}{H0 H:A6}{L:Up En}{fid:FuncId}{q:OG}{k:V->A6->Prop}{R:Type}{m:OS (Up Int)}{F:Up Int->OS R}{r:R}
 {l:Up Int} (a:B9 Φ H0 L H) (Q:An q (Ar.len l)) (i:Nat) (U:L[i]? =some (.blk q.id (.arr 1 (q.pre++lst (V.int .i64) l++q.rest)))) (h:m.bind F=some r) (j:∀x,m=some x->Be5 P fid l x)
 (W:∀x H',An q (Ar.len x)->B9 Φ H0 (L.set i (.blk q.id (.arr 1 (q.pre++lst (V.int .i64) x++q.rest)))) H'->F x=some r->k (.tup []) H'):
 E.call (.func (.func fid) [] []) [.own q.id q.lo q.n] H k:=by
 subst hE;have⟨x,O,Z⟩:=bind_some h;have⟨e,y⟩:=j x O;refine O7.value (F:=[]) (C:=[]) ?_;simp only[I1,E5]
 rw[Ae6]at U
 refine(e H q (by rw[<-len_eq];exact Q) (a.get i U)).mono λv H' ⟨N,e2⟩=>?_;subst N;subst e2;refine W x _ ?_ ?_ Z
 ·rw[len_eq]at Q ⊢;rw[y];exact Q
 rw[Ae6];exact a.set i U
end
end Go.Ab
namespace Go.Ab
open Go.RowKit Go.Shelf Go.Sort
variable [P3]
def Ax4 {P:If}{j:Ren}(u:Go.Proofs.Lays.n189 P j)(i:∀vals w,(callFunc (j.f 189) vals).run P w= .ok (.enter (j.f 189) vals) w){N r:Up Int}(h:Az9 N=some r):Be5 P (j.f 189) N r:=by
 obtain⟨s,rfl⟩:=Aq9 h;have B:(N.mergeSort λx y=>decide (x<=y)).length=N.length:=Ta ..;refine⟨An2 (m:=0) B i ?_ ?_,B⟩
 ·intro _ p cap w;exact(Go.Proofs.Any.slices_Sort_int_none u p cap w).mono λe w' ⟨a,b⟩=>⟨_,a,b,.inr ⟨rfl,λ_=>rfl⟩⟩
 intro blk off cap w _ _ v A;exact(Go.Proofs.Any.slices_Sort_int u blk off cap N w v A s).mono λe w' ⟨a,n,z,b⟩=>⟨_,a,.inr ⟨rfl,λ_=>rfl⟩,n,z,b⟩
def Wq (l:Up Int):OS (Up Int):=if l.length<=9223372036854775807 then some (Lib.compact l)else none
def TU (a:Up Int):(Lib.compact a).length<=a.length:=by
 unfold Lib.compact Lib.compactUpTo;rw[E1]
 grind
def Wx [Ar] {P:If} {N:Ren} (s:Go.Proofs.Lays2.n20 P N) (y:∀vals w,(callFunc (N.f 20) vals).run P w= .ok (.enter (N.f 20) vals) w) {i r:Up Int} (h:Wq i=some r):
 QM P (N.f 20) [] 1 (lst (V.int .i64) i) (lst (V.int .i64) r):=by
 unfold Wq at h
 split at h
 case isFalse=>cases h
 rename_i j;cases h;have hle:(Lib.compact i).length<=i.length:=TU i
 have key:Be6 P (N.f 20) i (Lib.compact i++List.replicate (i.length-(Lib.compact i).length) 0) (λq=>.own q.id q.lo ((Lib.compact i).length:Nat)):=by
  refine An2 (m:=(Lib.compact i).length) za6 y ?_ ?_
  ·rintro rfl p cap w;refine(Go.Proofs.Any.slices_Compact_int_empty s p cap w).mono λe w' ⟨a,b⟩=>⟨_,a,b,.inl ⟨rfl,λq Q=>?_⟩⟩;rw[Q.2]
   have:(Lib.compact ([]:Up Int)).length=0:=by have:=TU [];simp_all
   rw[this];rfl
  intro blk off cap w _ B z A;refine(Go.Proofs.Any.slices_Compact_int s blk off cap i w z j B).mono λe w' ⟨a,n,b⟩=>⟨_,a,.inl ⟨rfl,hle,λ_=>rfl⟩,n, #[],by rw[b,grow_empty]⟩
 intro H q Q W
 rw[lst_eq]at W Q
 refine(key H q za7 (by simp_all[Ql])).mono λv H' ⟨u,e2⟩=>?_;subst u;subst e2;refine⟨⟨q.id,q.lo,((Lib.compact i).length:Nat),q.pre,(List.replicate (i.length-(Lib.compact i).length) 0).map (V.int .i64)++q.rest⟩,rfl,⟨Q.1,by rw[lst_eq];simp⟩,by rw[G4],?_⟩
 funext x
 rw[lst_eq]
 grind[upd,Ql]
end Go.Ab
namespace Go.Ab
open Go.RowKit
variable [P3][Ar]
def Mh {L:Up En}{i j:Nat}{a e:En}(u:(L.set i a)[j]? =some e):(j=i/\e=a)\/(j≠i/\L[j]? =some e):=by
 rw[BJ]at u
 grind
def Xw {L:Up En}{i j:Nat}{a:En}(h:j≠i):(L.set i a)[j]? =L[j]? :=by
 rw[BJ,A1 (λe=>h e.symm)]
def DD.setNone {H0 H:A6} {L:Up En} (h:DD H0 L H) (i:Nat) {e s:En} (U:L[i]? =some e) (Y:e.id=none) (a:s.id=none):DD H0 (L.set i s) H:=by
 refine⟨h.ext,λj x id b u M=>?_,λj k x x' id b b' u W M N=>?_,λx b M=>?_⟩
 ·rcases Mh u with⟨_,rfl⟩|⟨_,u⟩
  ·rw[a]at M;cases M
  exact h.has j x id b u M
 ·rcases Mh u with⟨_,rfl⟩|⟨_,u⟩
  ·rw[a]at M;cases M
  rcases Mh W with⟨_,rfl⟩|⟨_,W⟩
  ·rw[a]at N;cases N
  exact h.inj j k x x' id b b' u W M N
 refine(h.only x b M).imp (λh=>h) λ⟨j,y,O,Z⟩=>⟨j,y,?_,Z⟩;rw[Xw λe=>za8];exact O
def DD.drop {H0 H:A6} {L:Up En} (h:DD H0 L H) (i:Nat) {e B:En} {id:Nat} {s:KB} (U:L[i]? =some e) (Y:e.id=some (id,s)) (a:B.id=none):DD H0 (L.set i B) (upd H id none):=by
 have v:=h.has i e id s U Y;refine⟨λx b M=>?_,λj x y b u M=>?_,λj k x x' y b b' u W M N=>?_,λx b M=>?_⟩
 ·rw[D3 _ _ (Cw v.1 M)];exact h.ext x b M
 ·rcases Mh u with⟨_,rfl⟩|⟨z,u⟩
  ·rw[a]at M;cases M
  have:=h.has j x y b u M;refine⟨this.1,?_⟩;rw[D3 _ _ (λeq=>by subst eq;exact z (h.inj j i x e y b s u U M Y))];exact this.2
 ·rcases Mh u with⟨_,rfl⟩|⟨_,u⟩
  ·rw[a]at M;cases M
  rcases Mh W with⟨_,rfl⟩|⟨_,W⟩
  ·rw[a]at N;cases N
  exact h.inj j k x x' y b b' u W M N
 by_cases A:x=id
 ·simp_all[upd]
 rw[D3 _ _ A]at M
 refine(h.only x b M).imp (λh=>h) λ⟨j,y,O,Z⟩=>⟨j,y,?_,Z⟩;rw[Xw λC=>za8];exact O
def B9.untok {Φ:A6->A6->Prop} {F H:A6} {L:Up En} (h:B9 Φ F L H) (i:Nat) {tl x:J8} (U:L[i]? =some (.tl tl)) (j:(En.tl x).id=none):B9 Φ F (L.set i (.tl x)) (H6 H tl):=by
 have⟨C,y,G,a,O,Z⟩:=h
 cases tl with
 |tok t=>
  have e:=(a.has i _ t _ U rfl).2;exact⟨C,_,_,a.drop i U rfl j,C.chg t none O (by rw[e,C.le O _ _ e]),Z.upd t none⟩
 |nil=>exact⟨C,_,_,a.setNone i U rfl j,O,Z⟩
 |full=>exact⟨C,_,_,a.setNone i U rfl j,O,Z⟩
 |ro=>exact⟨C,_,_,a.setNone i U rfl j,O,Z⟩
section
variable {P:Program}{T:JI}{f:FuncId}{fn:Func}{c:Code}{n:Nat}{rs:List ResultVar}{args:List V}
end
section
variable {P:Program}{nt:Nat}{rd:Option Nat}{T:JI}{E:Hj}
variable (hE:E=J3 P nt rd)
include hE
variable {α R:Type}{f:α->V}{Φ:A6->A6->Prop}{H0 H:A6}{L:List En}{r:R}{m:Option (List α)}{F:List α->Option R}{fid:FuncId}{args args':List V}{k:V->A6->Prop}
end
end Go.Ab
namespace Go.Ab
open Go.RowKit Go.MapKept
variable [P3][Ar]
def Mok {K X:Type}(d:TypeDesc)(kf:K->V)(vf:X->V)(o:Obj)(m:Up (K×X)):Prop:=∃a:Up (K×X),EM d o (a.map λp=>(kf p.1,vf p.2))/\a.Perm m
def Mok.perm {K X:Type}{d:TypeDesc}{kf:K->V}{vf:X->V}{o:Obj}{m l:Up (K×X)}(h:Mok d kf vf o m)(a:m.Perm l):Mok d kf vf o l:=
 let⟨e,O,Z⟩:=h;⟨e,O,Z.trans a⟩
theorem Bl3 {K X:Type}{m:Up (K×X)}(a:(m.map (·.1)).Nodup){p q:K×X}(h:p∈m)(Q:q∈m)(e:p.1=q.1):p=q:=by
 obtain⟨i,U,rfl⟩:=K1 h;obtain⟨j,u,rfl⟩:=K1 Q;have:i=j:=Pi a za7 za7 za7
 grind
def AN8 {K X:Type}[DecidableEq K]{m a:Up (K×X)}(h:a.Perm m)(e:(a.map (·.1)).Nodup)(k:K)(z:X):Nn a k z=Nn m k z:=by
 grind[Nn,Bl3]
def AK2 {K X:Type} [DecidableEq K] {m a r:Up (K×X)} (x:a.Perm m) {k:K} {v:X} (h:MC m k v=some r):∃i,MC a k v=some i/\i.Perm r:=by
 unfold MC at h
 cases h;refine⟨_,rfl,?_⟩
 have e:a.any (λp=>decide (p.1=k))=m.any (λp=>decide (p.1=k)):=by
  rw[DJ,IE,IE]
  grind
 rw[e]
 split
 ·grind
 exact x.append_right _
def Au5 {K X:Type}{d:TypeDesc}{kf:K->V}{vf:X->V}{o:Obj}{m:Up (K×X)}(h:EM d o (m.map λp=>(kf p.1,vf p.2))):(m.map (·.1)).Nodup:=by
 have:=h.nodup
 rw[M3]at this
 have e:(m.map ((·.1)∘λp=>(kf p.1,vf p.2)))=(m.map (·.1)).map kf:=by rw[M3];rfl
 rw[e]at this
 grind
def AH6 (P:If)(kt:Do)(d:TypeDesc):Bool:=match d with| .struct _=> !P.stoodInHeld kt|_=>true
structure Ui {K:Type} (P:Program) (d:TypeDesc) (kf:K->V):Prop where
 raw:∀x,∃v,DY (kf x)=some v/\HK d v
 inj:∀x y,kf x=kf y->x=y
 kg:∀kt,P.underlying kt=some d->AH6 P kt d=true->KG P kt (HK d)
def Ai0 {P:If}:Ui P .string V.str:=⟨λ_=>⟨_,rfl,trivial⟩,λx y h=>by cases h;rfl,λ_ h _=>KG.scalar h⟩
theorem XC:∀l:Up Int,MG (l.map (V.int .i64))=some (l.map (Value.int .i64))
 |[]=>rfl
 |x::l=>by simp[MG,Om,XC l]
def Br6 (P:If)(fs:za1 Field):Bool:=
 fs.toList.all (λf=>f.name != "_" &&(match P.underlying f.type with|some (.int .i64)=>true|_=>false)&&decide (f.offset<fs.size))&&(List.range fs.size).all (λi=>fs.toList.any λf=>f.offset==i)
def XH {K:Type} {P:If} {fs:za1 Field} {g:K->Up Int} {kf:K->V} (W:∀x,kf x= .agg ((g x).map (V.int .i64))) (j:∀x,(g x).length=fs.size) (N:∀x y,g x=g y->x=y)
 (a:Br6 P fs=true):Ui P (.struct fs) kf where
 raw:=λx=>⟨.agg ((g x).map (Value.int .i64)).toArray,by rw[W];grind[DY,XC],g x,j x,rfl⟩
 inj:=λx y h=>N x y (by
  rw[W,W]at h
  have Z:=V.agg.inj h
  grind[List.map_inj_right])
 kg:=λkt h C=>by
  unfold Br6 at a
  simp only[K0,ET,IE,H5,bne_iff_ne,EY,CX]at a
  have⟨O,Z⟩:=a
  have e:P.fieldsOf kt=fs:=by simp[Program.fieldsOf,h]
  refine KG.flds (by rw[e];exact h) (by grind[AH6]) ⟨λf a=>?_,λi U=>?_⟩
  ·rw[e]at a
   grind
  simp_all
def MvOk {X:Type}(vf:X->V):Prop:=∀x,∃v,DY (vf x)=some v
def Sz:MvOk V.bool:=λ_=>⟨_,rfl⟩
abbrev OneV (v:V):Prop:=v.one=true/\v.cells=[v]
def B9.startO {H0:A6}{id:Nat}{b:KB}(W:H0 id=some b):B9 Eq (upd H0 id none) [.blk id b] H0:=by
 have h:B9 Eq (upd H0 id none) [.blk id b] (upd (upd H0 id none) id (some b)):=(B9.start H8 rfl).push (G4 _ _ _) rfl
 rwa[FI,Ab2 H0 id (some b) W]at h
def Ph {α:Type}{f:α->V}{q:OG}{l:Up α}(h:An q ((lst f l).length:Nat)):An q (Ar.len l):=⟨h.1,by rw[h.2,len_eq,M7]⟩
section
variable {P:Program}{nt:Nat}{rd:Option Nat}{T:JI}{E:Hj}
variable (hE:E=J3 P nt rd)
include hE
variable {α R:Type}{f:α->V}{Φ:A6->A6->Prop}{H0 H:A6}{L:List En}{sz:Nat}{q:OG}{l:List α}{r:R}
theorem Sx (a:B9 Φ H0 L H){k:V->A6->Prop}(W:∀(q:OG) H',An q (Ar.len ([]:Up α))->B9 Φ H0 (.blk q.id (.arr sz (q.pre++lst f []++q.rest))::L) H'->k (.own q.id q.lo q.n) H'):E.onil sz H k:=by
 subst hE;intro t j
 have e:([]:Up V)++lst f []++[]=[]:=by rw[<-F3 (f:=f)];rfl
 refine W ⟨t,0,0,[],[]⟩ _ ⟨rfl,by rw[len_eq];rfl⟩ ?_
 show B9 Φ H0 (.blk t (.arr sz (([]:Up V)++lst f []++[]))::L) _
 rw[e];exact a.push j rfl
theorem AW6 {xs:Up V}(M:M2 xs (lst f l))(e:B9 Φ H0 L H){k:V->A6->Prop}(W:∀(q:OG) H',An q (Ar.len l)->B9 Φ H0 (.blk q.id (.arr sz (q.pre++lst f l++q.rest))::L) H'->k (.own q.id q.lo q.n) H'):E.olit sz H xs k:=by
 subst hE
 have a:xs.length=l.length:=by rw[M.length,M7]
 refine⟨_,M,λt j=>?_⟩;refine W ⟨t,0,(xs.length:Nat),[],[]⟩ _ ⟨rfl,by rw[len_eq,a]⟩ ?_
 show B9 Φ H0 (.blk t (.arr sz (([]:Up V)++lst f l++[]))::L) _
 rw[I1,E5];exact e.push j rfl
theorem Bu3 {s d e:Nat}{l:Up Int}(C:HS P s=some e)(Y:P.underlying e=some (.int .u8))(hd:P.underlying d=some .string)(x:B9 Φ H0 L H)(Q:An q (Ar.len l))(i:Nat)(U:L[i]? =some (.blk q.id (.arr 1 (q.pre++lst (V.int .u8) l++q.rest))))
 {k:V->Prop} {F:za0->OS R} (h:(AS2 l).bind F=some r) (W:∀b,F b=some r->k (.str b)):E.ostr s d H (.own q.id q.lo q.n) k:=by
 have a:=Az8 hE x Q i U;subst hE;exact⟨_,⟨e,l,C,Y,hd,by rw[<-lst_eq];exact a,rfl⟩,W _ h⟩
section
variable {K X:Type}{kf:K->V}{vf:X->V}{t kt et:Nat}{d:TypeDesc}{m:List (K×X)}{o:Obj}{id:Nat}
theorem Bq8 (d:TypeDesc)(kf:K->V)(vf:X->V)(e:B9 Φ H0 L H){k:V->A6->Prop}(W:∀id o H',Mok d kf vf o []->B9 Φ H0 (.blk id (.obj o)::L) H'->k (.map id) H'):E.mmk H k:=by
 subst hE;exact .inl λid a=>W id _ _ ⟨[],EM.empty d,.refl _⟩ (e.push a rfl)
theorem BD2 [DecidableEq K] (h:Ui P d kf) {z:V} {z0:X} (N:KC P et=some z) (y:z=vf z0) {key:K} {x:X×Bool} (M:Nn m key z0=some x) (ok:Bool):
 Br9 P et (m.map λp=>(kf p.1,vf p.2)) (kf key) ok (if ok=true then .tup [vf x.1,.bool x.2]else vf x.1):=by
 unfold Nn at M
 cases M
 cases a:m.find? (λp=>decide (p.1=key))with
 |none=>
  refine .inl ⟨λp i=>?_,z,N,za7⟩;obtain⟨q,Q,rfl⟩:=List.mem_map.1 i;have:=List.find?_eq_none.1 a q Q;exact λe=>this (by simpa using h.inj _ _ e)
 |some p=>
  have O:=List.find?_some a;have Z:=Tg a;refine .inr ⟨vf p.2,List.mem_map.2 ⟨p,Z,?_⟩,rfl⟩;rw[show p.1=key by grind]
theorem At6 [DecidableEq K](A:P.underlying t=some (.map kt et))(hd:P.underlying kt=some d)(a:Ui P d kf){z:V}(z0:X)(C:KC P et=some z)(j:z=vf z0)(s:B9 Φ H0 L H)(Q:Mok d kf vf o m)(i:Nat)(U:L[i]? =some (.blk id (.obj o)))
 {key:K} {k:V->Prop} {F:X×Bool->OS R} (h:(Nn m key z0).bind F=some r) (W:∀x,F x=some r->k (vf x.1)) (e:AH6 P kt d=true:=by kernel_rfl):E.mget t H (.map id) (kf key) false k:=by
 have⟨x,O,Z⟩:=bind_some h;have⟨G,Q,B⟩:=Q
 rw[<-AN8 B (Au5 Q)]at O
 have u:=BD2 (P:=P) (vf:=vf) hE a C j O false;subst hE;have⟨v,y,N⟩:=a.raw key;exact⟨_,.inl ⟨kt,et,d,v,id,o,_,A,a.kg _ hd e,y,N,rfl,s.get i U,Q,u⟩,W x Z⟩
theorem Bg6 [DecidableEq K] (z:Ui P d kf) (j:((m.map λp=>(kf p.1,vf p.2)).map (·.1)).Nodup) {key:K} {v:X} {s:Up (K×X)} (M:MC m key v=some s):Bx0 (m.map λp=>(kf p.1,vf p.2)) (kf key) (vf v) (s.map λp=>(kf p.1,vf p.2)):=by
 unfold MC at M
 cases M
 split
 ·rename_i h;have⟨p,N,Y⟩:=List.any_eq_true.1 h
  have Y:p.1=key:=za7
  have⟨a,b,x⟩:=List.append_of_mem N;subst x;refine .inr ⟨a.map λp=>(kf p.1,vf p.2),vf p.2,b.map λp=>(kf p.1,vf p.2),by simp[Y],?_⟩
  have i:∀l:Up (K×X),(∀q∈l,q.1≠key)->(l.map (λp=>if p.1=key then(key,v)else p))=l:=λl B=>by
   induction l with
   |nil=>rfl
   |cons y l ih=>rw[D9,A1 (B y za4),ih λq Q=>B q (by simp[Q])]
  rw[M3,P9,D9,II]at j
  have⟨_,u,G⟩:=j
  rw[List.nodup_cons]at u
  have C:∀q∈a,q.1≠key:=λq Q e=>G (kf q.1) (List.mem_map.2 ⟨q,Q,rfl⟩) (kf p.1) za4 (by rw[e,Y]);have A:∀q∈b,q.1≠key:=λq Q e=>u.1 (List.mem_map.2 ⟨q,Q,by simp[e,Y]⟩);rw[P9,D9,i a C,i b A,A2 Y];simp
 rename_i h;refine .inl ⟨λp N=>?_,za4⟩;obtain⟨q,Q,rfl⟩:=List.mem_map.1 N;exact λe=>h (List.any_eq_true.2 ⟨q,Q,by simpa using z.inj _ _ e⟩)
theorem At4 [DecidableEq K](B:P.underlying t=some (.map kt et))(hd:P.underlying kt=some d)(e:Ui P d kf)(A:MvOk vf)(u:B9 Φ H0 L H)(Q:Mok d kf vf o m)(i:Nat)(U:L[i]? =some (.blk id (.obj o)))
 {key:K} {v:X} {k:A6->Prop} {F:Up (K×X)->OS R} (h:(MC m key v).bind F=some r) (W:∀a o' H',Mok d kf vf o' a->F a=some r->B9 Φ H0 (L.set i (.blk id (.obj o'))) H'->k H') (y:AH6 P kt d=true:=by kernel_rfl):E.mset t H (.map id) (kf key) (vf v) k:=by
 have⟨a,O,Z⟩:=bind_some h;have⟨m0,Q,G⟩:=Q;have⟨Y,J,x⟩:=AK2 G O;have C:=Bg6 (d:=d) hE e Q.nodup J;subst hE;have⟨M,N,j⟩:=e.raw key;have⟨vv,s⟩:=A v;exact .inl ⟨kt,et,d,M,vv,id,o,_,_,B,e.kg _ hd y,N,j,s,rfl,u.get i U,Q,C,λo' z=>W a o' _ ⟨Y,z,x⟩ Z (u.set i U)⟩
end
end
end Go.Ab
namespace Go.Ab
variable [P3][Ar]
section
variable {P:Program}{nt:Nat}{rd:Option Nat}{E:Hj}(hE:E=J3 P nt rd){Φ:A6->A6->Prop}{H0 H:A6}{L:List En}
include hE
theorem Zb (a:B9 Φ H0 L H)(i:Nat){tl:J8}(U:L[i]? =some (.tl tl))(e:Ed tl){k:J8->A6->Prop}
 (W:∀H',B9 Φ H0 (L.set i (.tl .nil)) H'->k tl H'):E.takeT H k:=by
 subst hE;exact⟨tl,a.appOk i U e,W _ (a.untok i U rfl)⟩
theorem Zd (a:B9 Φ H0 L H)(i:Nat)(U:L[i]? =some (.tl .nil)){k:J8->A6->Prop}
 (W:∀tl H',B9 Φ H0 (L.set i (.tl tl)) H'->Ed tl->k tl H'):E.nameT H k:=by
 subst hE;refine⟨λtl e=>?_,λt j=>W _ _ (a.tok i U j) trivial⟩
 rcases e with rfl|rfl
 ·exact W _ _ (a.untok i U rfl) trivial
 exact W _ _ (a.untok i U rfl) trivial
end
end Go.Ab
namespace Go.Ab
open Go.RowKit
variable [P3]
def O7.thaw {P:If} {f:FuncId} {args:Up V} {H:A6} {K K':V->A6->Prop} (h:O7 P f args H K)
 (W:∀x H',K x H'->K' x H'\/∃id sz row lo n,x= .own id lo n/\H' id=some (.arr sz row)/\K' (.sl (W1 row lo n) .ro) (upd H' id none)):O7 P f args H K':=
 λg w vals z u=>(h g w vals z u).mono λv w' ⟨g',x,H',s,a,A,i⟩=>by
  rcases W x H' i with i|⟨id,sz,row,lo,n,rfl,O,Z⟩
  ·grind[P0]
  have⟨j,y,N,e⟩:=a.freezeArr O;exact⟨j,_,_,s.trans y,N,e _ _ _ (A.mono y),Z⟩
section
variable [Ar]{P:Program}{T:JI}
def Dx {f:FuncId} {fn:Func} {c:Code} {n:Nat} {rs:Up ResultVar} {args:Up V} {r:V} (N:Cf) (z:Yv P T) (B:P.funcs[f]? =some fn) (A:fn.body=some c) (hd:N8 N c=true)
 (a:∀vals w,(callFunc f vals).run P w= .ok (.enter f vals) w) (j:fn.ntmps=n) (u:fn.results.toList=rs) (C:Nat.ble args.length n=true)
 (h:∀(E:Hj) (H:A6) (K:V->A6->Prop),E=J3 P n none->(∀x L H',B9 Eq H L H'->DK x r->K x H')->
  (∀(q:OG) (sz:Nat) (xs:Up V) (i:Nat) (L:Up En) H',B9 Eq H L H'->L[i]? =some (.blk q.id (.arr sz (q.pre++xs++q.rest)))->An q (xs.length:Nat)->DK (.sl xs .ro) r->K (.own q.id q.lo q.n) H')->run E T n N c ⟨FA args 0,[]⟩ H (SI E T rs K)):B8 P f args r:=λH=>by
 refine O7.le ?_
 refine(Bp (K:=λx H'=>(∃y v,DK x y/\KA v H'/\y=r/\v=H)\/∃(q:OG) (sz:Nat) (xs:Up V) (i:Nat) (L:Up En),x= .own q.id q.lo q.n/\B9 Eq H L H'/\L[i]? =some (.blk q.id (.arr sz (q.pre++xs++q.rest)))/\An q (xs.length:Nat)/\DK (.sl xs .ro) r)
  N z.1 z.2 B A hd a j u C λE hE=>?_).thaw ?_
 ·exact h E H _ hE (λx L H' e M=>.inl ⟨r,H,M,e.ext,rfl,rfl⟩) λq sz xs i L H' e U Q s=>.inr ⟨q,sz,xs,i,L,rfl,e,U,Q,s⟩
 rintro x H' (h|⟨q,sz,xs,i,L,rfl,e,U,Q,s⟩)
 ·exact .inl h
 refine .inr ⟨q.id,sz,_,q.lo,q.n,rfl,e.get i U,r,H,?_,(e.del i U).ext,rfl,rfl⟩;rw[Aq6 rfl Q.1 Q.2];exact s
end
end Go.Ab
namespace Go.Ab
open Go.RowKit
variable [P3][Ar]
def Bo8 (e a:En):Prop:=∀id b b',e.id=some (id,b)->a.id=some (id,b')->False
def DD.perm {H0 H:A6} {L L':Up En} (h:DD H0 L H) (p:L.Perm L'):DD H0 L' H:=by
 have z:L.Pairwise Bo8:=by
  rw[AC];intro i j U u v id b b' a e2;have:=h.inj i j _ _ id b b' (C8 U) (C8 u) a e2;omega
 have N:L'.Pairwise Bo8:=(p.pairwise_iff (λ{x y} (h:Bo8 x y) id b b' a e2=>h id b' b e2 a)).1 z
 rw[AC]at N
 refine⟨h.ext,λi e id b U Y=>?_,λi j e A id b b' U u Y s=>?_,λx b M=>(h.only x b M).imp (λh=>h) λ⟨i,e,O,Z⟩=>?_⟩
 ·have⟨j,u⟩:=List.getElem?_of_mem (p.mem_iff.2 (DO U));exact h.has j e id b u Y
 ·grind[Bo8]
 have⟨j,u⟩:=List.getElem?_of_mem (p.mem_iff.1 (DO O))
 grind
def B9.perm {Φ:A6->A6->Prop}{F H:A6}{L L':Up En}(h:B9 Φ F L H)(p:L.Perm L'):B9 Φ F L' H:=
 let⟨C,a,G,e,O,Z⟩:=h;⟨C,a,G,e.perm p,O,Z⟩
structure Rw (α:Type) where
 q:OG
 row:List (List α×J8)
variable {α:Type}(f:α->V)
def Ei (c:Up α×J8):V:=.sl (lst f c.1) c.2
def rwB (w:Rw α):En:=.blk w.q.id (.arr 1 (w.q.pre++lst (Ei f) w.row++w.q.rest))
def rwL (w:Rw α):Up En:=rwB f w::w.row.map λc=>.tl c.2
def fo:Up (Rw α)->Up En
 |[]=>[]
 |w::F=>rwL f w++fo F
def RwA (w:Rw α):Prop:=∀c∈w.row,Ed c.2
variable {f}
def Ba2:∀(F G:Up (Rw α)),fo f (F++G)=fo f F++fo f G
 |[],_=>rfl
 |w::F,G=>by rw[V1,fo,fo,Ba2 F G,D2]
def Ak1:∀{F:Up (Rw α)} {c:Nat} {w:Rw α},F[c]? =some w->∃R,(fo f F).Perm (rwL f w++R)/\∀w',(fo f (F.set c w')).Perm (rwL f w'++R)
 |[],_,_,h=>by simp at h
 |v::F,0,w,h=>by
  simp at h;subst h
  exact⟨fo f F,.refl _,λw'=>.refl _⟩
 | v::F,c+1,w,h=>by
  have⟨R,O,Z⟩:=Ak1 (F:=F) (c:=c) (w:=w) za7
  have key:∀(X Y:Up En),X.Perm (Y++R)->(rwL f v++X).Perm (Y++(rwL f v++R)):=λX Y a=>
   (a.append_left _).trans (by
    rw[<-D2,<-D2]
    exact List.perm_append_comm.append_right R)
  grind[fo]
def Sj:∀{row:Up (Up α×J8)} {i:Nat} {c:Up α×J8},row[i]? =some c->∃R,(row.map λc=>En.tl c.2).Perm (.tl c.2::R)/\∀c',((row.set i c').map λc=>En.tl c.2).Perm (.tl c'.2::R)
 |[],_,_,h=>by simp at h
 |v::F,0,w,h=>by
  simp at h;subst h
  exact⟨F.map λc=>.tl c.2,.refl _,λw'=>.refl _⟩
 |v::F,i+1,w,h=>by
  have⟨R,O,Z⟩:=Sj (row:=F) (i:=i) (c:=w) za7;exact⟨.tl v.2::R,(O.cons _).trans (.swap ..),λw'=>((Z w').cons _).trans (.swap ..)⟩
def Ax0 {F:Up (Rw α)} {c i:Nat} {w:Rw α} {x:Up α×J8} (e:F[c]? =some w) (U:w.row[i]? =some x):
 ∃R,(fo f F).Perm (.tl x.2::rwB f w::R)/\∀x',(fo f (F.set c ⟨w.q,w.row.set i x'⟩)).Perm (.tl x'.2::rwB f ⟨w.q,w.row.set i x'⟩::R):=by
 have⟨R,O,Z⟩:=Ak1 (f:=f) e;have⟨S,h,y⟩:=Sj U
 have key:∀(b:En) (X:Up En) (t:En),X.Perm (t::S)->(b::(X++R)).Perm (t::b::(S++R)):=λb X t a=>
  ((a.append_right R).cons b).trans (.swap ..)
 exact⟨S++R,O.trans (key _ _ _ h),λx'=>(Z _).trans (key _ _ _ (y x'))⟩
def B9.cell {Φ:A6->A6->Prop} {H0 H:A6} {b:En} {L:Up En} {F:Up (Rw α)} {c i:Nat} {w:Rw α} {x:Up α×J8} (a:B9 Φ H0 (b::(fo f F++L)) H) (e:F[c]? =some w) (U:w.row[i]? =some x):
 ∃R,B9 Φ H0 (.tl x.2::rwB f w::b::R) H/\∀x' H',B9 Φ H0 (.tl x'.2::rwB f ⟨w.q,w.row.set i x'⟩::b::R) H'->B9 Φ H0 (b::(fo f (F.set c ⟨w.q,w.row.set i x'⟩)++L)) H':=by
 have⟨R,O,Z⟩:=Ax0 (f:=f) e U
 have key:∀(X:Up En) (t r:En),X.Perm (t::r::R)->(b::(X++L)).Perm (t::r::b::(R++L)):=λX t r h=>
  ((h.append_right L).cons b).trans ((List.Perm.swap t b _).trans ((List.Perm.swap r b _).cons t))
 exact⟨R++L,a.perm (key _ _ _ O),λx' H' h=>h.perm (key _ _ _ (Z x')).symm⟩
def B9.row {Φ:A6->A6->Prop} {H0 H:A6} {b b':En} {L:Up En} {F:Up (Rw α)} {w:Rw α} (a:B9 Φ H0 (rwB f w::b::b'::(fo f F++L)) H) (e:∀c∈w.row,(En.tl c.2).id=none):B9 Φ H0 (b'::(fo f (F++[w])++(b::L))) H:=by
 have O:∀(row:Up (Up α×J8)) (M:Up En),(∀c∈row,(En.tl c.2).id=none)->B9 Φ H0 M H->B9 Φ H0 ((row.map λc=>.tl c.2)++M) H:=by
  intro row
  induction row with
  |nil=>simp_all
  |cons c row ih=>grind[tl0]
 have Z:=O w.row _ e a;refine Z.perm ?_;rw[Ba2];simp only[fo,rwL,E5];generalize w.row.map (λc=>En.tl c.2)=X;generalize fo f F=Y;have h:(X++rwB f w::b::b'::(Y++L)).Perm (rwB f w::X++(b::b'::(Y++L))):=KQ
 have i:(rwB f w::X++(b::b'::(Y++L))).Perm (b'::(rwB f w::X++(b::(Y++L)))):=
  ((List.Perm.swap b' b (Y++L)).append_left (rwB f w::X)).trans KQ
 refine h.trans (i.trans (.cons b' ?_));have x:(rwB f w::X++(b::(Y++L))).Perm (rwB f w::X++(Y++b::L)):=(List.perm_middle.symm).append_left _;refine x.trans ?_;rw[<-D2];exact(List.perm_append_comm (l₁:=rwB f w::X) (l₂:=Y)).append_right _
end Go.Ab
namespace Go.Ab
open Go.RowKit
variable [P3]
def Gst (H:A6)(v:V)(H':A6)(a:V):Prop:=∀g w,Rl g H w->∃g',Aw g w g' w/\Rl g' H' w/\∀u,VR g w u v->VR g' w u a
theorem Gst.refl (H:A6)(v:V):Gst H v H v:=λg w h=>⟨g,Aw.refl _ _,h,λ_ h=>h⟩
def Gst.trans {H G e:A6}{v i v2:V}(a:Gst H v G i)(b:Gst G i e v2):Gst H v e v2:=λg w h=>by
 have⟨N,B,x,z⟩:=a g w h;have⟨j,C,y,A⟩:=b N w x;exact⟨j,B.trans C,y,λu s=>A u (z u s)⟩
def Gst.tup2 {H H':A6} {v x c:V} (a:Gst H v H' x):Gst H (.tup [v,c]) H' (.tup [x,c]):=λg w h=>by
 have⟨N,e,y,z⟩:=a g w h;refine⟨N,e,y,λu j=>?_⟩
 cases j with
 |tup B s=>
  refine .tup B λi U=>?_;have:=s i U
  match i,U with
  |0,_=>grind
  |1,_=>exact this.mono e
section
variable [Ar]{α:Type}{f:α->V}
end
end Go.Ab
namespace Go.Ab
open Go.RowKit
variable [P3][Ar]
section
variable {P:Program}{nt:Nat}{rd:Option Nat}{E:Hj}(hE:E=J3 P nt rd)
include hE
variable {α:Type}{f:α->V}{Φ:A6->A6->Prop}{H0 H:A6}{L:List En}{sz:Nat}{q:OG}{l:List α}
theorem ZB (a:B9 Φ H0 L H)(Q:An q (Ar.len l))(i:Nat){j:Int}{k:Int->Prop}(U:L[i]? =some (.blk q.id (.arr sz (q.pre++lst f l++q.rest))))(u:0<=j/\j<(l.length:Nat))(W:k (ofs q.lo j)):E.oidx H q.id sz q.lo q.n j k:=
 R0 hE a Q i U (F:=λ_=>some ()) (r:=()) (by grind[El,Hu]) λ_=>W
theorem AE3 {g:α->V} (e:∀x,f x=g x) (a:B9 Φ H0 L H) (Q:An q (Ar.len l)) (i:Nat) {j:Int} {x:α} {k:V->Prop} (U:L[i]? =some (.blk q.id (.arr sz (q.pre++lst f l++q.rest)))) (u:0<=j) (M:l[j.toNat]? =some x) (W:k (g x)):
 E.oload H q.id (ofs q.lo j) k:=by
 have h:j<(l.length:Nat):=by
  grind
 exact U1 hE e a Q i U (F:=λy=>some y) (r:=x) (by simp_all[C7]) λy N=>za8
theorem Ak4 {esz tz off:Nat}{y:V}{x':α}(v:∀x,∃a,DK y a/\a.one=true/\a.cells.length=tz/\YY (f x) esz tz off a=f x')(hle:off+tz<=esz)(h:B9 Φ H0 L H)(Q:An q (Ar.len l))(i:Nat){j:Int}{k:A6->Prop}
 (U:L[i]? =some (.blk q.id (.arr esz (q.pre++lst f l++q.rest)))) (z:0<=j/\j<(l.length:Nat))
 (W:∀H',B9 Φ H0 (L.set i (.blk q.id (.arr esz (q.pre++lst f (l.set j.toNat x')++q.rest)))) H'->k H'):E.ostore H q.id (ofs q.lo j) esz tz off y k:=by
 have⟨x,M⟩:∃x,l[j.toNat]? =some x:=⟨l[j.toNat],C8 za2⟩
 exact CQ hE (u:=λ_=>x') v hle h Q i U (F:=λl=>some l) (r:=l.set j.toNat x') (by simp_all[Ev,C7]) λA H' s e N=>za8
end
def AX4 {α:Type}{n m:Int}{z:α}{l:Up α}(h:ZW n m z=some l):l=List.replicate n.toNat z:=by
 simp_all[ZW]
def Bl9 {α:Type}{l:Up α}{i:Int}{x:α}(h:C7 l i=some x):(0<=i/\i<(l.length:Nat))/\l[i.toNat]? =some x:=by
 grind[C7]
section
variable {P:Program}{nt:Nat}{rd:Option Nat}{E:Hj}(hE:E=J3 P nt rd)
include hE
variable {α R:Type}{f:α->V}{Φ:A6->A6->Prop}{H0 H:A6}{L:List En}{sz:Nat}{q:OG}{l:List α}{r:R}
theorem Sw (N:B9 Φ H0 L H) (Q:An q (Ar.len l)) (i:Nat) (U:L[i]? =some (.blk q.id (.arr sz (q.pre++lst f l++q.rest)))) {lo:OS Int} {k:V->Prop} {F:Up α->OS R}
 (h:(R6 l lo none none).bind F=some r) (W:∀x (a:OG),a.id=q.id/\a.lo=q.lo+lo.getD 0/\a.n=q.n-lo.getD 0->F x=some r->k (.own a.id a.lo a.n)):
 E.oslice sz H q.id q.lo q.n lo none none k:=by
 have y:=hE;subst hE;have⟨x,O,Z⟩:=bind_some h
 have s:q.n=(l.length:Nat):=by rw[Q.2,len_eq]
 have v:=M7 (f:=f) l
 unfold R6 at O
 split at O
 ·rename_i j;cases O;have⟨u,e,c3,c4,c5⟩:=j
  simp only[Be]at e c3 c4
  refine⟨_,N.get i U,?_,?_⟩
  ·rw[s,Q.1]
   grind
  exact W _ ⟨q.id,q.lo+lo.getD 0,q.n-lo.getD 0,[],[]⟩ ⟨rfl,rfl,rfl⟩ Z
 cases O
theorem Ah5 (s:B9 Φ H0 L H) (Q:An q (Ar.len l)) (i:Nat) (U:L[i]? =some (.blk q.id (.arr sz (q.pre++lst f l++q.rest)))) {e:OG} {a:Int} (hd:e.id=q.id/\e.lo=q.lo+a/\e.n=q.n-a) {y:V} {m:Up α} {k:V->A6->Prop} {F:Up α×Int->OS R}
 (J:WF sz H y (lst f m)) (h:(Wp l a m).bind F=some r) (W:∀p H',An q (Ar.len p.1)->B9 Φ H0 (L.set i (.blk q.id (.arr sz (q.pre++lst f p.1++q.rest)))) H'->F p=some r->k (.int .i64 p.2) H'):E.ocopy sz H (.own e.id e.lo e.n) y k:=by
 have j:q.n=(l.length:Nat):=by rw[Q.2,len_eq]
 have M:=M7 (f:=f) l;have em:=M7 (f:=f) m;have⟨p,O,Z⟩:=bind_some h
 unfold Wp at O
 split at O
 ·rename_i Y;cases O;rw[hd.1,hd.2.1,hd.2.2];refine Bh6 hE (s.get i U) J (YL:=(m.length:Nat)) (by rw[em]) λn N G x=>?_
  have u:n=(if(l.length:Int)-a<(m.length:Nat)then(l.length:Int)-a else(m.length:Nat)):=by rw[G,j]
  have v:(q.lo+a).toNat=q.pre.length+a.toNat:=by rw[Q.1];omega
  have z:(q.n-a).toNat=l.length-a.toNat:=by rw[j];omega
  have e2:N=q.pre++lst f (l.take a.toNat++m.take (l.length-a.toNat)++l.drop (a.toNat+m.length))++q.rest:=by
   rw[x,v,z,lst_eq,lst_eq,lst_eq];rw[AA9 (A:=q.pre++(l.take a.toNat).map f) (B:=((l.drop a.toNat).take m.length).map f) (C:=(l.drop (a.toNat+m.length)).map f++q.rest) ?_ ?_ ?_]
   ·simp_all
   ·have:l=l.take a.toNat++((l.drop a.toNat).take m.length++l.drop (a.toNat+m.length)):=by
     rw[<-IC,EW,EW]
    grind
   ·simp;omega
   grind
  rw[u,e2];refine W _ _ ⟨Q.1,?_⟩ (s.set i U) Z;rw[j,len_eq]
  grind
 cases O
theorem Bj2 (e:B9 Φ H0 L H)(Q:An q (Ar.len l))(i:Nat)(U:L[i]? =some (.blk q.id (.arr sz (q.pre++lst f l++q.rest)))){y:V}{m:Up α}{k:V->A6->Prop}{F:Up α×Int->OS R}
 (C:WF sz H y (lst f m)) (h:(Wp l 0 m).bind F=some r) (W:∀p H',An q (Ar.len p.1)->B9 Φ H0 (L.set i (.blk q.id (.arr sz (q.pre++lst f p.1++q.rest)))) H'->F p=some r->k (.int .i64 p.2) H'):E.ocopy sz H (.own q.id q.lo q.n) y k:=
 Ah5 hE e Q i U (a:=0) ⟨rfl,za2,za2⟩ C h W
end
section
variable {P:Program}{nt:Nat}{rd:Option Nat}{E:Hj}(hE:E=J3 P nt rd)
include hE
variable {α R:Type}{f:α->V}{Φ:A6->A6->Prop}{H0 H:A6}{L:List En}{sz:Nat}{q:OG}{l:List α}{r:R}
theorem AL9 (u:B9 Φ H0 L H) (Q:An q (Ar.len l)) (i:Nat) (U:L[i]? =some (.blk q.id (.arr sz (q.pre++lst f l++q.rest)))) {y:OG} {a:Int} (hd:y.id=q.id/\y.lo=q.lo+a/\y.n=q.n-a) {z:V} {k:A6->Prop} {F:Up α->OS R}
 (h:(R6 l none (some a) none).bind F=some r)
 (W:∀x (e:OG) H',(e.id=q.id/\e.lo=q.lo/\0<=a/\e.n=a/\a<=q.n)->An e (Ar.len x)->B9 Φ H0 (L.set i (.blk e.id (.arr sz (e.pre++lst f x++e.rest)))) H'->F x=some r->k H'):E.oclear sz z H (.own y.id y.lo y.n) k:=by
 have Y:q.n=(l.length:Nat):=by rw[Q.2,len_eq]
 have M:=M7 (f:=f) l;obtain⟨x,O,Z⟩:=bind_some h
 unfold R6 at O
 split at O
 ·rename_i J;cases O;obtain⟨v,s,c3,c4,c5⟩:=J
  simp only[Be,O2]at v s c3 c4
  rw[hd.1,hd.2.1,hd.2.2];refine AU8 hE (u.get i U) λj N=>?_
  have G:(q.lo+a).toNat=q.pre.length+a.toNat:=by rw[Q.1];omega
  have e2:j=q.pre++lst f (l.take a.toNat)++(List.replicate (q.n-a).toNat z++q.rest):=by
   rw[N,G,lst_eq,lst_eq];rw[AA9 (A:=q.pre++(l.take a.toNat).map f) (B:=(l.drop a.toNat).map f) (C:=q.rest) ?_ ?_ ?_]
   ·simp only[D2]
   ·have:l=l.take a.toNat++l.drop a.toNat:=(EW _ _).symm
    conv=>lhs;rw[this]
    simp only[P9,D2]
   ·simp;omega
   simp;omega
  have et:((l.drop (0:Int).toNat).take (a.toNat-(0:Int).toNat))=l.take a.toNat:=za4
  refine W (l.take a.toNat) ⟨q.id,q.lo,a,q.pre,List.replicate (q.n-a).toNat z++q.rest⟩ _ ⟨rfl,rfl,s,rfl,za2⟩ ⟨Q.1,?_⟩ ?_ ?_
  ·rw[len_eq,X8]
   show a=_
   omega
  ·rw[e2];exact u.set i U
  have:=Z
  simp only[Be,O2]at this
  rw[et]at this
  exact this
 cases O
theorem AL7 {x:Up α}{e:OG}(s:B9 Φ H0 L H)(Q:An e (Ar.len x))(i:Nat)(U:L[i]? =some (.blk e.id (.arr sz (e.pre++lst f x++e.rest)))){id:Nat}{lo n a:Int}(M:e.id=id/\e.lo=lo/\0<=a/\e.n=a/\a<=n){k:V->Prop}
 (W:k (.own e.id e.lo e.n)):E.oslice sz H id lo n none (some a) none k:=by
 subst hE;obtain⟨y,e2,N,e4,u⟩:=M;have j:=M7 (f:=f) x
 have v:e.n=(x.length:Nat):=by rw[Q.2,len_eq]
 refine⟨_,by rw[<-y];exact s.get i U,?_,?_⟩
 ·simp only[K8,j,Be,O2];have:=Q.1;exact⟨CH _,N,za2,CH _,λh=>by cases h⟩
 show k (.own id (lo+0) (a-0))
 rw[Int.add_zero,Int.sub_zero,<-y,<-e2,<-e4];exact W
end
end Go.Ab
namespace Go.Ab
open Go.RowKit
variable [P3][Ar]
variable {α:Type}{f:α->V}{Φ:A6->A6->Prop}{H0 H:A6}{L:List En}{sz:Nat}{q:OG}{l m:List α}
def AV3 (j:B9 Φ H0 L H) (Q:An q (Ar.len l)) (i:Nat) (U:L[i]? =some (.blk q.id (.arr sz (q.pre++lst f l++q.rest)))) {x:OG} {a:Int} (hd:x.id=q.id/\x.lo=q.lo+a/\x.n=q.n-a) (h:R6 l (some a) none none=some m):
 ∃pre rest,An ⟨x.id,x.lo,x.n,pre,rest⟩ (Ar.len m)/\B9 Φ H0 (L.set i (.blk x.id (.arr sz (pre++lst f m++rest)))) H:=by
 have u:q.n=(l.length:Nat):=by rw[Q.2,len_eq]
 unfold R6 at h
 split at h
 case isFalse=>cases h
 rename_i s;cases h;obtain⟨y,N,c3,c4,c5⟩:=s
 simp only[Be,O2]at y N c3 c4
 have et:(l.drop a.toNat).take (((l.length:Nat):Int).toNat-a.toNat)=l.drop a.toNat:=AB (by rw[Fc];omega);refine⟨q.pre++lst f (l.take a.toNat),q.rest,⟨?_,?_⟩,?_⟩
 ·show x.lo=_
  rw[hd.2.1,Q.1,K8,M7,X8];omega
 ·show x.n=_
  rw[hd.2.2,u,len_eq];simp only[Be,O2];rw[et,Fc];omega
 have e:q.pre++lst f (l.take a.toNat)++lst f ((l.drop a.toNat).take (((l.length:Nat):Int).toNat-a.toNat))++q.rest=q.pre++lst f l++q.rest:=by
  rw[et,D2 q.pre,MN,EW]
 simp only[Be,O2]
 rw[e,hd.1,show L.set i (.blk q.id (.arr sz (q.pre++lst f l++q.rest)))=L by
  rw[List.getElem?_eq_some_iff]at U
  obtain⟨U,e⟩:=U
  rw[<-e,List.set_getElem_self]]
 exact j
end Go.Ab
namespace Go.Ab
open Go.RowKit
variable [P3][Ar]
def Gh.lend (g:Gh)(w:Is):Gh:={g with fz:=λb o=>∃v,w.cell? ⟨b,o,none⟩=some v,base:=w.heap.size}
def VR.lend {g:Gh}{w:Is}{B:Nat}{F:Nat->Nat->Prop}(hB:g.base<=B)(Y:∀b o,g.fz b o->F b o){v:HO}{x:V}(h:VR g w v x):VR {g with fz:=F,base:=B} w v x:=by
 induction h with
 |bad v=>exact .bad v
 |bool b=>exact .bool b
 |int k n=>exact .int k n
 |str s=>exact .str s
 |nilp=>exact .nilp
 |nilf=>exact .nilf
 |nili=>exact .nili
 |nilmap=>exact .nilmap
 |map h=>exact .map h
 |fmap A z W M a N ih=>exact VR.fmap (g:={g with fz:=F,base:=B}) (NL A hB) z W M a ih
 |ref h=>exact .ref h
 |own h h0 O Z hp=>exact VR.own (g:={g with fz:=F,base:=B}) h h0 O Z hp
 |elem h C=>exact VR.elem (g:={g with fz:=F,base:=B}) h C
 |eref vs G z O N ih=>exact .eref vs (λj u=>Y _ _ (G j u)) z O ih
 |sl0 y=>exact .sl0 y
 |sle y=>exact .sle y
 |sl vs M hc hz G z O N y ih=>exact .sl vs M hc hz (λi j U u=>Y _ _ (G i j U u)) z O ih (y.mono λ_ _ e=>e)
 |func a N J aa ih Q=>exact .func a ih J Q
 |yield h=>exact .yield h
 |iface h ih=>exact .iface ih
 |agg a O N ih=>exact .agg a O ih
 |tup a N ih=>exact .tup a ih
def Rl.lend {g:Gh}{H:A6}{w:Is}(h:Rl g H w):Rl (g.lend w) (λ_=>none) w:=by
 refine⟨λid b A=>(by cases A),λid e b O _=>(by simp[Gh.at]at O),λb o a=>a,λid U=>⟨(h.nxt id U).1,(h.nxt id U).2.1,rfl⟩,B1 _,λn=>(h.glb n).lend h.bnd λb o a=>h.frz b o a⟩
def Rl.lendOwn {g:Gh} {H:A6} {w:Is} (h:Rl g H w) {id sz:Nat} {xs:Up V} (W:H id=some (.arr sz xs)) {v:HO} {lo n:Int} (x:VR g w v (.own id lo n)):VR (g.lend w) w v (.sl (W1 xs lo n) .ro):=by
 have⟨g',⟨N,e2,j⟩,s,a,y⟩:=h.freezeArr' W;have:=(y v lo n (x.mono s)).lend (F:=λb o=>∃v,w.cell? ⟨b,o,none⟩=some v) (B:=w.heap.size) a.bnd λb o i=>a.frz b o i
 have e:({g' with fz:=λb o=>∃v,w.cell? ⟨b,o,none⟩=some v,base:=w.heap.size}:Gh)={(g.lend w)with nx:=g'.nx}:=by
  simp_all[Gh.lend]
 rw[e]at this
 exact VR.nxt this
where
 VR.nxt {g:Gh} {w:World} {n:Nat} {v:Value} {x:V} (h:VR {g with nx:=n} w v x):VR g w v x:=by
  generalize hg:({g with nx:=n}:Gh)=g1 at h
  have hmu:g1.mu=g.mu:=by rw[<-hg]
  have htk:g1.tk=g.tk:=by rw[<-hg]
  have hfz:g1.fz=g.fz:=by rw[<-hg]
  have how:g1.ow=g.ow:=by rw[<-hg]
  have hba:g1.base=g.base:=by rw[<-hg]
  clear hg
  induction h with
  |bad v=>exact .bad v
  |bool b=>exact .bool b
  |int k n=>exact .int k n
  |str s=>exact .str s
  |nilp=>exact .nilp
  |nilf=>exact .nilf
  |nili=>exact .nili
  |nilmap=>exact .nilmap
  |map h=>exact .map (hmu▸h)
  |fmap hb hw hk hn hl hv ih=>exact .fmap (hba▸hb) hw hk hn hl ih
  |ref h=>exact .ref (hmu▸h)
  |own h h0 h1 h2 hp=>rw[how]at h2 hp ⊢;exact VR.own (hmu▸h) h0 h1 h2 hp
  |elem h hs=>rw[how]at hs ⊢;exact VR.elem (hmu▸h) hs
  |eref vs hf hw h1 hv ih=>exact .eref vs (λj hj=>hfz▸hf j hj) hw h1 ih
  |sl0 ht=>exact .sl0 ht
  |sle ht=>exact .sle ht
  |sl vs hn hc hz hf hw h1 hv ht ih=>exact .sl vs hn hc hz (λi j hi hj=>hfz▸hf i j hi hj) hw h1 ih (ht.mono λ_ _ e=>htk▸e)
  |func hl hv hl' hv' ih ih'=>exact .func hl ih hl' ih'
  |yield h=>exact .yield (hmu▸h)
  |iface h ih=>exact .iface ih
  |agg hl h1 hv ih=>exact .agg hl h1 ih
  |tup hl hv ih=>exact .tup hl ih
def AV2:V->Bool
 | .bool _=>true
 | .int _ _=>true
 | .str _=>true
 |_=>false
inductive QJ :V->Prop
 |bool (b:Bool):QJ (.bool b)
 |int (k:IntKind) (n:Int):QJ (.int k n)
 |str (s:ByteArray):QJ (.str s)
 |agg {cs:List V} (h:cs.all AV2=true):QJ (.agg cs)
 |tup2 {x y:V} (h:QJ x) (k:QJ y):QJ (.tup [x,y])
 |tup3 {x y z:V} (h:QJ x) (k:QJ y) (m:QJ z):QJ (.tup [x,y,z])
def QJ.any {x:V} (h:QJ x):∀{g g':Gh} {w w':Is} {v:HO},VR g w v x->VR g' w' v x:=by
 induction h with
 |bool b=>intro g g' w w' v h;cases h;exact .bool b
 |int k n=>intro g g' w w' v h;cases h;exact .int k n
 |str s=>intro g g' w w' v h;cases h;exact .str s
 | @agg cs z=>
  intro g g' w w' v h
  cases h with
  |agg B O e=>
   refine .agg B O λi U=>?_;have a:=e i U;have j:=List.all_eq_true.1 z _ (F4 U)
   rw[show cs.getD i .bad=cs[i] by rw[AD,C8 U];rfl]at a ⊢
   generalize cs[i]=c at a j ⊢
   generalize Array.getD _ i undef=u at a ⊢
   cases c<;>simp only[AV2,L6]at j<;>cases a<;>constructor
 | tup2 _ _ y N=>
  intro g g' w w' v h
  cases h with
  |tup B e=>
   refine .tup B λi U=>?_
   match i with
   |0=>grind
   |1=>grind
   |i+2=>grind
 | tup3 _ _ _ y N A=>
  intro g g' w w' v h
  cases h with
  |tup B e=>
   refine .tup B λi U=>?_
   match i with
   |0=>grind
   |1=>grind
   |2=>grind
   |i+3=>grind
inductive PM (H:A6):List V->List V->Prop
 |nil:PM H [] []
 |le {x y:V} {xs ys:List V} (h:DK x y) (k:PM H xs ys):PM H (x::xs) (y::ys)
 |fm {id:Nat} {ks:List Int} {zs xs ys:List V} (h:H id=some (.fm ks zs)) (k:PM H xs ys):PM H (.map id::xs) (.fmap ks zs::ys)
 |agg {us ws xs ys:List V} (h:PM H us ws) (k:PM H xs ys):PM H (.agg us::xs) (.agg ws::ys)
 |own {id sz:Nat} {zs:List V} {lo n:Int} {xs ys:List V} (h:H id=some (.arr sz zs)) (k:PM H xs ys):PM H (.own id lo n::xs) (.sl (W1 zs lo n) .ro::ys)
def PM.length {H:A6}{xs ys:Up V}(h:PM H xs ys):xs.length=ys.length:=by
 induction h with
 |nil=>rfl
 |le _ _ ih=>simp[ih]
 |fm _ _ ih=>simp[ih]
 |agg _ _ _ ih=>simp[ih]
 |own _ _ ih=>simp[ih]
theorem PM.at {g:Gh} {H:A6} {w:Is} (y:Rl g H w) {xs ys:Up V} (h:PM H xs ys):∀(vals:Nat->HO),(∀i,i<xs.length->VR g w (vals i) (xs.getD i .bad))->∀i,i<ys.length->VR (g.lend w) w (vals i) (ys.getD i .bad):=by
 induction h with
 |nil=>simp_all
 |le h k ih=>
  intro vals x i U
  cases i with
  |zero=>exact((x 0 za4).le h).lend y.bnd λb o N=>y.frz b o N
  |succ i=>exact ih (λi=>vals (i+1)) (λi U=>za7) i za7
 | fm h k ih=>
  intro vals x i U
  cases i with
  | zero=>
   have a:=x 0 za4
   simp only[NP]at a ⊢
   generalize vals 0=u at a
   cases a with
   |map A=>
    have⟨b,Q,clock,v,W,z,C,G,J,M⟩:=y.blk _ _ h
    rw[A]at v;cases v
    exact VR.fmap (g:=Gh.lend _ _) (Zj z) z C G J λi e U=>(M i e U).lend y.bnd λb o N=>y.frz b o N
  |succ i=>exact ih (λi=>vals (i+1)) (λi U=>za7) i za7
 | agg h k s ih=>
  intro vals x i U
  cases i with
  | zero=>
   have a:=x 0 za4
   simp only[NP]at a ⊢
   generalize vals 0=u at a
   cases a with
   |agg B O j=>
    have e:=h.length;exact .agg (B.trans e) (λi U=>O i za2) λi U=>s (λi=>Array.getD _ i undef) j i U
  |succ i=>exact ih (λi=>vals (i+1)) (λi U=>za7) i za7
 |own h k ih=>
  intro vals x i U
  cases i with
  |zero=>exact y.lendOwn h (x 0 za4)
  |succ i=>exact ih (λi=>vals (i+1)) (λi U=>za7) i za7
def B8.lent {P:If}{f:FuncId}{ys:Up V}{r:V}(c:B8 P f ys r)(M:QJ r){H:A6}{xs:Up V}(B:PM H xs ys):O7 P f xs H λx H'=>x=r/\H'=H:=by
 intro g w vals a C;have N:Args (g.lend w) w vals ys:=⟨C.1.trans B.length,B.at a (λi=>vals.getD i undef) C.2⟩;refine(c _ _ w vals a.lend N).mono λv w' ⟨g',x,H',s,J,Q,G,e2⟩=>?_;subst G;have A:Below w.heap.size w w':=s.low;have j:Aw g w g w':=⟨λ_ _ e=>e,λ_ _ e=>e,λ_ _ e=>e,rfl,λb o h=>A.cell (a.fz_lt h),A.mono a.bnd,λ_ _ _=>rfl,s.dr⟩;refine⟨g,x,H,j,⟨λid b W=>(a.blk id b W).mono W j λy U=>⟨A.block _ (a.lt U),λ_ z=>z⟩,a.inj,λb o h=>?_,a.nxt,P8 a.bnd A.size,λn=>(a.glb n).mono j⟩,M.any Q,rfl,rfl⟩;have⟨u,O⟩:=a.frz b o h;exact⟨u,(A.cell (a.fz_lt h)).trans O⟩
section
variable {P:Program}{nt:Nat}{rd:Option Nat}{T:JI}{E:Hj}
variable (hE:E=J3 P nt rd)
include hE
theorem Bj6 {R S:Type}{m:OS S}{F:S->OS R}{r:R}{f:FuncId}{args args':Up V}{g:S->V}{H:A6}{k:V->A6->Prop}(h:m.bind F=some r)(a:∀x,m=some x->B8 P f args' (g x))(e:∀x,QJ (g x))(B:PM H args args')
 (W:∀x,F x=some r->k (g x) H):E.call (.func (.func f) [] []) args H k:=by
 subst hE;have⟨x,O,Z⟩:=bind_some h;refine O7.value (F:=[]) (C:=[]) ?_;simp only[I1,E5]
 exact((a x O).lent (e x) B).mono λv H' ⟨i,e2⟩=>za8
end
def Ay5 (P:If)(f:FuncId)(args:Up V)(ks:Up Int)(xs:Up V):Prop:=∀H,O7 P f args H λv H'=>∃id,H id=none/\v= .map id/\H'=upd H id (some (.fm ks xs))
def FG (E:Hj)(n:Int)(K:V->Prop)(z:V):Up Int->Up V->Prop
 |k::ks,x::xs=>E.br (Ar.cmp .eql n k) (λ_=>K x) (λ_=>FG E n K z ks xs)
 |_,_=>K z
def AG (E:Hj)(i:Int)(K:Nat->Prop):Up Int->Prop
 |m::a=>E.br (Ar.cmp .eql i m) (λ_=>K m.toNat) (λ_=>AG E i K a)
 |[]=>False
section
variable {P:Program}{nt:Nat}{rd:Option Nat}{T:JI}{E:Hj}
variable (hE:E=J3 P nt rd)
include hE
variable {Φ:A6->A6->Prop}{H0 H:A6}{L:List En}{t kt et id:Nat}{ks:List Int}{xs:List V}
theorem BB2 (e:B9 Φ H0 L H){k:V->A6->Prop}(W:∀id H',B9 Φ H0 (.blk id (.fm [] [])::L) H'->k (.map id) H'):E.mmk H k:=by
 subst hE;exact .inr (.inl λid a=>W id _ (e.push a rfl))
theorem Qt (e:P.underlying t=some (.map kt et))(hd:P.underlying kt=some (.int .i64))(a:B9 Φ H0 L H)(i:Nat)(U:L[i]? =some (.blk id (.fm ks xs))){n:Int}{v:V}(h:ks.all (λk=> !(k==n))=true)
 {k:A6->Prop} (W:∀H',B9 Φ H0 (L.set i (.blk id (.fm (ks++[n]) (xs++[v])))) H'->k H'):E.mset t H (.map id) (.int .i64 n) v k:=by
 subst hE;exact .inr (.inl ⟨kt,et,ks,xs,n,id,e,hd,rfl,a.get i U,rfl,(λx M=>by have:=List.all_eq_true.1 h x M;simp_all),W _ (a.set i U)⟩)
theorem AE2 {n:Int} {K:V->Prop} {z:V}:∀(ks:Up Int) (xs:Up V),xs.length=ks.length->FG E n K z ks xs->∃v,((∃i:Nat,ks[i]? =some n/\v=xs.getD i .bad)\/((∀k∈ks,k≠n)/\z=v))/\K v
 |[],[],_,h=>⟨z,.inr ⟨(λ_ h=>by cases h),rfl⟩,h⟩
 |[],_::_,B,_=>by simp at B
 |_::_,[],B,_=>by simp at B
 | k::ks,x::xs,B,h=>by
  have ih:=AE2 (n:=n) (K:=K) (z:=z) ks xs za7
  unfold FG at h
  subst hE;have⟨O,Z⟩:=h
  rw[Ar.cmp_eq]at O Z
  cases A:RG .eql n k with
  |true=>
   have e:n=k:=by grind[RG]
   exact⟨x,.inl ⟨0,by simp[e],za4⟩,O A⟩
  |false=>
   have e:n≠k:=by grind[RG]
   have⟨v,a,W⟩:=ih (Z A);refine⟨v,?_,W⟩
   rcases a with⟨i,y,N⟩|⟨y,N⟩
   ·exact .inl ⟨i+1,za7,za7⟩
   grind
theorem AG3 {i:Int} {K:Nat->Prop}:∀a:Up Int,AG E i K a->∃m∈a,i=m/\K i.toNat
 |[],h=>h.elim
 |m::a,h=>by
  have ih:=AG3 (i:=i) (K:=K) a
  unfold AG at h
  subst hE;have⟨O,Z⟩:=h
  rw[Ar.cmp_eq]at O Z
  grind[RG]
theorem Bu5 (a:P.underlying t=some (.map kt et))(hd:P.underlying kt=some (.int .i64)){z:V}(i:KC P et=some z)(B:xs.length=ks.length){n:Int}{k:V->Prop}(h:FG E n k z ks xs):E.mget t H (.fmap ks xs) (.int .i64 n) false k:=by
 have⟨v,e,W⟩:=AE2 hE ks xs B h;subst hE;exact⟨v,.inr (.inl ⟨kt,et,ks,xs,n,a,hd,rfl,rfl,rfl,e.imp (λh=>h) λ⟨O,Z⟩=>⟨O,Z▸i⟩⟩),W⟩
theorem Bq6 (a:B9 Φ H0 L H)(i:Nat){cs ds:Up V}{k:A6->Prop}(U:L[i]? =some (.blk id (.cells cs)))(B:M2 cs ds)(W:∀H',B9 Φ H0 (L.set i (.blk id (.cells ds))) H'->k H'):E.wkB H id k:=by
 subst hE;exact⟨cs,ds,a.get i U,B,W _ (a.set i U)⟩
theorem Bj8 {n:Nat}{i:Int}{K:Nat->Prop}(e:Up Int)(x:(e.map Int.toNat==List.range n&&e.all (λm=>decide (0<=m)))=true)(h:AG E i K e):E.aidx i n K:=by
 have⟨m,O,Z,J⟩:=AG3 hE e h;subst hE;subst Z
 simp only[K0,EY,ET,H5]at x
 have a:i.toNat∈List.range n:=by rw[<-x.1];grind
 have y:=x.2 _ O
 rw[CX]at a
 grind[J3]
theorem AX2 {fid:FuncId}{args args':Up V}(i:Ay5 P fid args' ks xs)(B:M2 args args')(h:B9 Φ H0 L H){k:V->A6->Prop}(W:∀id H',B9 Φ H0 (.blk id (.fm ks xs)::L) H'->k (.map id) H'):E.call (.func (.func fid) [] []) args H k:=by
 subst hE;refine O7.value (F:=[]) (C:=[]) ?_;simp only[I1,E5]
 exact((i H).args B).mono λv H' ⟨id,a,e2,e⟩=>by subst e2;subst e;exact W id _ (h.push a rfl)
end
def Ax5 {P:If}{T:JI}{f:FuncId}{fn:Func}{c:Code}{n:Nat}{rs:Up ResultVar}{args:Up V}{ks:Up Int}{xs:Up V}(e:Cf)(u:Yv P T)(z:P.funcs[f]? =some fn)(A:fn.body=some c)(hd:N8 e c=true)
 (a:∀vals w,(callFunc f vals).run P w= .ok (.enter f vals) w) (N:fn.ntmps=n) (j:fn.results.toList=rs) (B:Nat.ble args.length n=true)
 (h:∀(E:Hj) (H:A6) (k:V->A6->Prop),E=J3 P n none->(∀id (L:Up En) (i:Nat) H',L[i]? =some (.blk id (.fm ks xs))->B9 Eq H L H'->k (.map id) H')->run E T n e c ⟨FA args 0,[]⟩ H (SI E T rs k)):Ay5 P f args ks xs:=λH=>by
 refine O7.le (Bp (K:=λx H'=>∃y s,DK x y/\KA s H'/\∃id,H id=none/\y= .map id/\s=upd H id (some (.fm ks xs))) e u.1 u.2 z A hd a N j B λE hE=>?_);refine h E H _ hE λid L i H' U v=>?_;have⟨O,Z⟩:=(v.only i U).last;exact⟨_,_,.refl _,Z,id,O,rfl,rfl⟩
def S3 {α:Type}{m:OS α}{x:α}(h:m=some x):(m.bind λy=>some y)=some x:=by rw[h];rfl
inductive Ao6 {α β:Type} (R:α->β->Prop):List α->List β->Prop
 |nil:Ao6 R [] []
 |cons {x:α} {y:β} {xs:List α} {ys:List β} (h:R x y) (k:Ao6 R xs ys):Ao6 R (x::xs) (y::ys)
def Ao6.get {α β:Type}{R:α->β->Prop}:∀{xs:Up α} {ys:Up β},Ao6 R xs ys->∀{i:Nat} {y:β},ys[i]? =some y->∃x,xs[i]? =some x/\R x y
 |_,_,.nil,i,y,h=>by simp at h
 |_,_,.cons h k,0,y,e=>by simp at e;subst e;exact⟨_,rfl,h⟩
 |_,_,.cons h k,i+1,y,e=>by simp at e ⊢;exact k.get e
def Ao6.len {α β:Type}{R:α->β->Prop}:∀{xs:Up α} {ys:Up β},Ao6 R xs ys->xs.length=ys.length
 |_,_,.nil=>rfl
 |_,_,.cons _ k=>by simp[k.len]
def Ay4 (P:If)(a:V)(args:Up V)(Q:V->Prop):Prop:=∀H,EN P a args H λx H'=>Q x/\H'=H
def DC.value {P:If}{f:FuncId}{F C args:Up V}{Q:V->Prop}(h:DC P f (F++args++C) Q):Ay4 P (.func (.func f) F C) args Q:=λH=>(h H).value
section
variable {P:Program}{nt:Nat}{rd:Option Nat}{E:Hj}(hE:E=J3 P nt rd)
include hE
theorem Bj7 {a R:Type} {Good:V->a->Prop} {xs:Up V} {fs:Up a} (s:Ao6 Good xs fs) {i:Int} {F:a->OS R} {r:R} (h:(C7 fs i).bind F=some r) {x:Bool} {sz n:Nat} {k:V->Prop}
 (W:∀v f,Good v f->F f=some r->k v) (y:x=false:=by rfl) (C:sz=1:=by rfl) (j:n=fs.length:=by rfl):E.aidx i n λm=>LQ (HT x sz xs (m*sz)) k:=by
 subst hE;subst y;subst C;subst j;have⟨f,O,Z⟩:=bind_some h
 unfold C7 at O
 split at O
 ·rename_i u;have⟨v,e,z⟩:=s.get O
  have N:i.toNat<fs.length:=by
   grind
  grind[J3,LQ,HT]
 cases O
theorem AX1 {R S:Type}{m:OS S}{F:S->OS R}{r:R}{a:V}{args:Up V}{args':Up V}{Q:S->V->Prop}{H:A6}{k:V->A6->Prop}(h:m.bind F=some r)(N:∀x,m=some x->Ay4 P a args' (Q x))(B:M2 args args')
 (W:∀x v,Q x v->F x=some r->k v H):E.call a args H k:=by
 subst hE;have⟨x,O,Z⟩:=bind_some h;intro g w v vals y s e;exact J1.mono (λ_ _ p=>P0.mono (λv H' ⟨j,i⟩=>by subst i;exact W x v j Z) p) (N x O H g w v vals y s (e.le B))
end
end Go.Ab
namespace Go.Ab
open Go.RowKit Go.Sort Go.Shelf Go.Proofs
structure WG (P:Program) (f:FuncId) (k:Nat):Prop where
 zero:∀p cap fv w,Calls P f #[.slice p 0 cap,fv] w λe w'=>e= .returned (.tuple #[])/\w'=w
 pos:∀(α:Type) [Inhabited α] (enc:α->List Value) (_:∀x,(enc x).length=k) (_:∀x,∀v∈enc x,v.oneCell'=true) (cf:α->α->Int) (_:SWO (ltOf cf)) (g:Nat) (cb:Array Value) (blk off cap:Nat) (d:Array α) (w:World)
  (_:∀args w,(callFunc g args).run P w= .ok (.enter g args) w) (_:CmpLays P g cb enc k cf blk off d.size w) (_:HoldsK enc k w blk off d) (_:blk<w.heap.size) (_:d.size<4611686018427387904) (_:∀x y,(ltOf cf) x y=false->(ltOf cf) y x=false->x=y),
  Calls P f #[.slice (some ⟨blk,off,none⟩) d.size cap,.func (.func g) #[] cb] w λe w'=>e= .returned (.tuple #[])/\∃n os,w'=sortWorldK enc k w blk off n (d.toList.mergeSort λx y=> !(ltOf cf) y x).toArray os
def Xs {P:If}{a:Ren}(e:SlLaysF0.n6 P a){k:Nat}(h:∀w,(isAgg (a.t 24)).run P w= .ok true w)(zE:∀w,(Go.sizeOf (a.t 24)).run P w= .ok k w):WG P (a.f 6) k:=
 ⟨λp cap y w=>AnyF.slices_SortFunc_none e p cap y w,λα _ enc W O i j g cb blk off cap d w x u N A C s=>AnyQ.slices_SortFunc_total e k h zE enc W O i j g cb blk off cap d w x u N A C s⟩
variable [P3]
def Zi {pre ds rest:Up V}{j:Nat}(u:j<ds.length):(pre++ds++rest).getD (pre.length+j) .bad=ds.getD j .bad:=by
 rw[D2,AD,HW za2,Nat.add_sub_cancel_left,Lg u,AD]
def AB0 {pre a ds rest:Up V} (B:ds.length=a.length) {i:Nat} (U:i<pre.length\/pre.length+ds.length<=i):(pre++ds++rest).getD i .bad=(pre++a++rest).getD i .bad:=by
 simp only[D2,AD]
 rcases U with U|U
 ·rw[Lg U,Lg U]
 have key:∀l:Up V,l.length=a.length->(pre++(l++rest))[i]? =rest[i-pre.length-a.length]? :=λl h=>by
  rw[HW za2,HW za2,h]
 rw[key _ B,key _ rfl]
def AV0 {off:Nat}{d c:za1 HO}{t:Nat}(j:t<c.size):(putCells (λv=>v) off d c).getD t undef=if off<=t/\t<off+d.size then d[t-off]! else c.getD t undef:=by
 unfold putCells;simp only[Array.getD,Array.size_mapIdx,j,dif_pos,Array.getInternal_eq_getElem,Array.getElem_mapIdx]
def Ve {g:Gh} {H:A6} {w:Is} (hR:Rl g H w) {y b k:Nat} {pre h ds rest:Up V} {c:za1 HO} {T:Do} (W:H y=some (.arr k (pre++h++rest))) (e1:g.mu y=some b) (B:ds.length=h.length) (ah:0<h.length)
 (k2:w.heap[b]? =some (.cells c T (0,0))) (k3:(g.ow y).o+(pre++h++rest).length*k<=c.size)
 (k4:∀i j,i<(pre++h++rest).length->j<k->(c.getD ((g.ow y).o+i*k+j) undef).oneCell'=true/\VR g w (c.getD ((g.ow y).o+i*k+j) undef) (((pre++h++rest).getD i .bad).cells.getD j .bad))
 (e9:∀i,i<(pre++h++rest).length->((pre++h++rest).getD i .bad).cells.length=k)
 (d:za1 HO) (hd:d.size=h.length*k) (af:∀i,i<ds.length->(ds.getD i .bad).cells.length=k)
 (ag:∀i j,i<ds.length->j<k->(d[i*k+j]!).oneCell'=true/\VR g w d[i*k+j]! ((ds.getD i .bad).cells.getD j .bad)) (m:Nat) (Q:za1 Obj):
 Aw g w g (grow (putRow (λv=>v) (Sort.ahead w m) b ((g.ow y).o+pre.length*k) d) Q)/\
  Rl g (upd H y (some (.arr k (pre++ds++rest)))) (grow (putRow (λv=>v) (Sort.ahead w m) b ((g.ow y).o+pre.length*k) d) Q):=by
 have ae:(pre++h++rest).length=pre.length+h.length+rest.length:=by simp;omega
 have ac:(pre++ds++rest).length=pre.length+h.length+rest.length:=by simp;omega
 have C:=Rl.setArr hR (ys:=pre++ds++rest) (c':=putCells (λv=>v) ((g.ow y).o+pre.length*k) d c) W e1 za2 k2 (by simp[putCells])
  (λo z=>by
   simp only[putCells,Tb]
   grind)
  za2
  (λi U=>by
   grind)
  (λi j U hj=>by
   have A:(i+1)*k<=(pre++h++rest).length*k:=G7 k za2
   rw[E2,W3]at A
   rw[AV0 za2]
   by_cases O:i<pre.length
   ·have Y:(i+1)*k<=pre.length*k:=G7 k O
    rw[E2,W3]at Y
    rw[A1 za2,AB0 B (.inl O)]
    grind
   by_cases Z:pre.length+ds.length<=i
   ·have aa:(pre.length+ds.length)*k<=i*k:=G7 k Z
    rw[E2]at aa
    rw[A1 (by rw[hd,<-B];omega),AB0 B (.inr Z)]
    grind
   obtain⟨u,rfl⟩:∃u,i=pre.length+u:=⟨i-pre.length,za2⟩
   have hu:u<ds.length:=za2
   have ab:(u+1)*k<=h.length*k:=G7 k za2
   rw[E2,W3]at ab
   rw[A2 (by rw[hd,E2];omega),Zi hu,show(g.ow y).o+(pre.length+u)*k+j-((g.ow y).o+pre.length*k)=u*k+j by rw[E2];omega]
   simp_all)
 have⟨s1,R1⟩:=C
 generalize a:w.setRow b (putCells (λv=>v) ((g.ow y).o+pre.length*k) d c)=w1 at s1 R1
 have J:w1.heap.size=w.heap.size:=by rw[<-a];simp
 have N:∀x,x<w1.heap.size->(grow (putRow (λv=>v) (Sort.ahead w m) b ((g.ow y).o+pre.length*k) d) Q).heap[x]? =w1.heap[x]? :=λx M=>by
  have ad:x<w.heap.size:=za2
  simp only[grow,putRow,mapBlock,Sort.ahead];rw[Th (by simpa using ad),IP]
  by_cases s:b=x
  ·subst s;rw[A2 rfl,k2,<-a,setRow_heap w b c _ T (0,0) k2];rfl
  rw[A1 s,<-a,S7 w b _ x (λe=>s e.symm)]
 have G:Below g.base w1 (grow (putRow (λv=>v) (Sort.ahead w m) b ((g.ow y).o+pre.length*k) d) Q):=by
  refine⟨by rw[<-a];rfl,by rw[<-a];rfl,by rw[<-a];rfl,?_,λk ai=>?_⟩
  ·rw[J];simp
  exact N k (by have:=hR.bnd;omega)
 have⟨s2,R2⟩:=R1.more G N (by rw[<-a];exact KV _ _);exact⟨s1.trans s2,R2⟩
def AZ9 {w w':Is} (h:Below w.heap.size w w') (hd:w.drawn<=w'.drawn):∃q os',w'=grow (w.drewN q) os':=by
 refine⟨w'.drawn-w.drawn,w'.heap.extract w.heap.size w'.heap.size,?_⟩;have⟨O,Z,J,s,x⟩:=h
 cases w' with
 |mk heap y e N a=>
  simp only at O Z J s x hd ⊢
  subst O;subst Z;subst J;simp only[grow,World.drewN,KM,true_and,P7];refine⟨?_,za2⟩;apply Array.ext_getElem?;intro i;rw[HV]
  split
  ·rename_i U;exact x i U
  rename_i U;rw[NW]
  split
  ·rename_i h;rw[show w.heap.size+(i-w.heap.size)=i by omega]
  rename_i h;rw[NT za2]
def VR.base_up {g:Gh}{w:Is}{B:Nat}(J:g.base<=B){v:HO}{x:V}(h:VR g w v x):VR {g with base:=B} w v x:=by
 induction h with
 |bad v=>exact .bad v
 |bool b=>exact .bool b
 |int k n=>exact .int k n
 |str s=>exact .str s
 |nilp=>exact .nilp
 |nilf=>exact .nilf
 |nili=>exact .nili
 |nilmap=>exact .nilmap
 |map h=>exact .map h
 |fmap A i W u a e ih=>exact .fmap (NL A J) i W u a ih
 |ref h=>exact .ref h
 |own h G O Z Q=>exact .own h G O Z Q
 |elem h C=>exact .elem h C
 |eref vs y i O e ih=>exact .eref vs y i O ih
 |sl0 j=>exact .sl0 j
 |sle j=>exact .sle j
 |sl vs u M Y y i O e j ih=>exact .sl vs u M Y y i O ih (by cases ‹J8› <;>exact j)
 |func a e N U ih z=>exact .func a ih N z
 |yield h=>exact .yield h
 |iface h ih=>exact .iface ih
 |agg a O e ih=>exact .agg a O ih
 |tup a e ih=>exact .tup a ih
def AC6 {P:If}{f:FuncId}{args:Up V}{n:Int}(z:B8 P f args (.int .i64 n))(y:∀vals w,(callFunc f vals).run P w= .ok (.enter f vals) w){g:Gh}{H:A6}{w:Is}(a:Rl g H w){vals:za1 HO}(u:Args g w vals args):
 Calls P f vals w λe w'=>e= .returned (.int .i64 n)/\∃q os',w'=grow (w.drewN q) os':=by
 let N:Gh:={g with base:=w.heap.size,nx:=g.nx}
 have j:Rl N (λ_=>none) w:=⟨λ_ _ h=>(by cases h),λid B b O Z=>(by simp[Gh.at]at O),a.frz,λid h=>⟨(a.nxt id h).1,(a.nxt id h).2.1,rfl⟩,B1 _,λn=>(a.glb n).base_up a.bnd⟩;have h:=z (λ_=>none) N w vals j ⟨u.1,λi U=>(u.2 i U).base_up a.bnd⟩
 rw[y]at h
 have h:CallsIn Fence.wide 0 P f vals w λe w'=>∃v,e= .returned v/\P0 N w (λx H'=>x= .int .i64 n/\H'=λ_=>none) v w':=h
 rw[callsIn_wide]at h
 refine h.mono ?_;rintro e w' ⟨v,rfl,g',x,H',s,C,A,rfl,rfl⟩;exact⟨by rw[A.int_inv],AZ9 s.low s.dr⟩
def QL (P:If)(f:FuncId)(a:V)(k:Nat)(xs ys:Up V):Prop:=
 (∀H (q:OG),An q (xs.length:Nat)->H q.id=some (.arr k (q.pre++xs++q.rest))->O7 P f [.own q.id q.lo q.n,a] H λx H'=>x= .tup []/\H'=upd H q.id (some (.arr k (q.pre++ys++q.rest))))/\ys.length=xs.length
def VR.funcN {g:Gh} {w:Is} {v:HO} {fn:Fn} {C:Up V} (h:VR g w v (.func fn [] C)):∃cb,v= .func fn #[] cb/\Args g w cb C:=by
 cases h with
 |@func _ fs cs _ _ B x a e=>
  have i:fs= #[]:=Tl B
  simp_all[Args]
def Ak2 {α:Type}[Inhabited α]{enc:α->Up HO}{k:Nat}{d:za1 α}{i j:Nat}(U:i<d.size)(u:j<k):(flatK enc k d)[i*k+j]! =(enc d[i]!)[j]! :=by
 have O:(i+1)*k<=d.size*k:=G7 k U
 rw[E2,W3]at O
 rw[get_flatK _ _ _ _ za2]
 have W:0<k:=za2
 rw[show(i*k+j) / k=i by rw[EZ,Nat.mul_add_div W,KS u];rfl,show(i*k+j) % k=j by rw[EZ,Nat.mul_add_mod,NG u]]
def OO [Ar] {P:If} {sf:FuncId} {k:Nat} (hS:WG P sf k)
 (az:∀vals w,(callFunc sf vals).run P w= .ok (.enter sf vals) w) {α:Type} {f:α->V} {va:α->Up V} (hf:∀x,f x= .agg (va x)) (ae:∀x,(va x).length=k)
 {cmp:α->α->OS Int} {gf:FuncId} {C:Up V} (eg:∀vals w,(callFunc gf vals).run P w= .ok (.enter gf vals) w) (hc:∀a b n,cmp a b=some n->B8 P gf ([.agg (va a),.agg (va b)]++C) (.int .i64 n))
 {l r:Up α} (h:Ll cmp l=some r):QL P sf (.func (.func gf) [] C) k (lst f l) (lst f r):=by
 have⟨hp,ac,ax⟩:=Ar0 h;refine⟨?_,by rw[M7,M7];exact hp.length_eq⟩;rw[lst_eq,lst_eq];intro H q Q W g w vals hR hA;have⟨aw,hv⟩:=hA;have⟨vals⟩:=vals
 match vals,aw with
 | [v,a5],_=>
  have bd:VR g w v (.own q.id q.lo q.n):=by have:=hv 0 za4;simpa using this
  have be:VR g w a5 (.func (.func gf) [] C):=by have:=hv 1 za4;simpa using this
  obtain⟨cb,rfl,ap⟩:=be.funcN;rw[az]
  show CallsIn Fence.wide 0 P sf #[v,.func (.func gf) #[] cb] w _
  rw[callsIn_wide];have⟨b,p,e1,e2,e3,e4,e5,e6,e7,e8,e9,am⟩:=Gr hR W bd
  have bf:(q.pre++l.map f++q.rest).length=q.pre.length+l.length+q.rest.length:=by simp;omega
  have a8:=Q.2
  rw[E1]at a8
  have ay:q.n.toNat=l.length:=za2
  by_cases hz:l=[]
  ·subst hz
   have hr:r=[]:=by simpa using hp.length_eq
   subst hr;subst e2;rw[ay];refine(hS.zero p _ _ w).mono ?_;rintro e w' ⟨rfl,rfl⟩;refine⟨_,rfl,g,.tup [],H,Aw.refl _ _,hR,VR.und _ _,rfl,?_⟩
   funext x
   simp_all[upd]
  have hn:0<l.length:=List.length_pos_iff.2 hz
  rcases am with am|⟨c,T,k1,k2,k3,k4,k5,k6⟩
  ·omega
  have a9:=e8 (by rw[Q.1];omega);subst a9;subst e2
  haveI:Inhabited (Fin l.length):=⟨⟨0,hn⟩⟩
  have a7:q.lo.toNat=q.pre.length:=by rw[Q.1];simp
  let enc:Fin l.length->Up Value:=λi=>(List.range k).map λj=>c.getD ((g.ow q.id).o+(q.pre.length+i.val)*k+j) undef
  have G:∀x,(enc x).length=k:=λx=>by simp[enc]
  have ab:∀(x:Fin l.length) (j:Nat),j<k->(enc x)[j]! =c.getD ((g.ow q.id).o+(q.pre.length+x.val)*k+j) undef:=λx j u=>by simp[enc,u]
  have ad:∀(x:Fin l.length) (j:Nat),((q.pre++l.map f++q.rest).getD (q.pre.length+x.val) .bad).cells.getD j .bad=(va l[x.val]).getD j .bad:=λx j=>by
   have e:(l.map f).getD x.val .bad=f l[x.val]:=by rw[AD,Az,C8 x.isLt];rfl
   rw[Zi za4,e,hf];rfl
  have M:∀(x:Fin l.length) (j:Nat),j<k->((enc x)[j]!).oneCell'=true/\VR g w (enc x)[j]! ((va l[x.val]).getD j .bad):=λx j u=>by
   rw[ab x j u,<-ad]
   grind
  have O:∀x,∀v∈enc x,v.oneCell'=true:=λx v hv=>by
   obtain⟨j,u,rfl⟩:=K1 hv
   rw[G]at u
   have:=(M x j u).1
   rwa[getElem!_pos _ _ (by rw[G];exact u)]at this
  have ah:∀i j:Fin l.length,∃n,cmp l[i.val] l[j.val]=some n:=λi j=>UQ ac (hp.mem_iff.2 (F4 _)) (hp.mem_iff.2 (F4 _))
  let cf:Fin l.length->Fin l.length->Int:=λi j=>(cmp l[i.val] l[j.val]).getD 0
  have aj:∀i:Fin l.length,∃p:Nat,∃hh:p<r.length,r[p]=l[i.val]:=λi=>by
   have⟨p,hh,e⟩:=K1 (hp.mem_iff.2 (F4 i.isLt));exact⟨p,hh,e⟩
  let pos:Fin l.length->Nat:=λi=>Classical.choose (aj i)
  have B:∀i:Fin l.length,∃hh:pos i<r.length,r[pos i]=l[i.val]:=λi=>SZ (aj i)
  have N:∀i j,ltOf cf i j=decide (pos i<pos j):=λi j=>by
   have⟨n,hn⟩:=ah i j;have⟨a1,a2⟩:=B i;have⟨b1,b2⟩:=B j;rw[<-Ao ac a1 b1,a2,b2];simp[ltOf,cf,Nm,hn]
  have al:=hp.nodup_iff.1 (YJ ac)
  have au:∀i j:Fin l.length,pos i=pos j->i=j:=λi j e=>by
   have⟨a1,a2⟩:=B i;have⟨b1,b2⟩:=B j
   have e2:l[i.val]=l[j.val]:=by rw[<-a2,<-b2];simp only[e]
   rw[List.Nodup,AC]at al
   apply Fin.ext
   rcases Fg i.val j.val with h'|h'|h'
   ·exact absurd e2 (al _ _ i.isLt j.isLt h')
   ·exact h'
   exact absurd e2.symm (al _ _ j.isLt i.isLt h')
  have hO:SWO (ltOf cf):=⟨λx=>by rw[N];simp,λx y z=>by rw[N,N,N];simp;omega,λx y z=>by rw[N,N,N];simp;omega⟩
  have hT:∀x y,ltOf cf x y=false->ltOf cf y x=false->x=y:=λx y=>by
   rw[N,N];intro a b;simp at a b;exact au _ _ za2
  let d0:za1 (Fin l.length):=(List.finRange l.length).toArray
  have aa:d0.size=l.length:=by simp[d0]
  have hW:∀(Y:za1 (Fin l.length)),Y.size=l.length->∀(m:Nat) (os:za1 Obj),
   Aw g w g (sortWorldK enc k w b ((g.ow q.id).o+q.pre.length*k) m Y os)/\Rl g (upd H q.id (some (.arr k (q.pre++Y.toList.map (λi=>f l[i.val])++q.rest)))) (sortWorldK enc k w b ((g.ow q.id).o+q.pre.length*k) m Y os):=by
   intro Y aq m os
   have ar:∀i (U:i<Y.size),(Y.toList.map (λi=>f l[i.val])).getD i .bad=f l[(Y[i]!).val]:=λi U=>by
    have e:Y[i]! =Y[i]:=getElem!_pos Y i U;rw[AD,Az,DQ,Dd U];simp only[e,K5,O2]
   have ak:(Y.toList.map (λi=>f l[i.val])).length=Y.size:=za4
   exact Ve hR W e1 (by rw[ak,E1,aq]) (by simpa using hn) k2 k3 k4 e9 (flatK enc k Y) (by rw[size_flatK,aq,E1])
    (λi U=>by rw[ak]at U;rw[ar i U,hf];exact ae _)
    (λi j U u=>by
     rw[ak]at U
     rw[Ak2 U u,ar i U,hf]
     exact M _ j u) m os
  have hH:HoldsK enc k w b ((g.ow q.id).o+q.pre.length*k) d0:=by
   intro t ht
   rw[size_flatK,aa]at ht
   have av:0<k:=by
    rcases KY k with h0|h0
    ·rw[h0,Nat.mul_zero]at ht;omega
    exact h0
   have U:t / k<l.length:=(Mv av).2 ht;have u:t % k<k:=DH _ av
   have e3:t=t / k*k+t % k:=by have:=KZ t k;rw[EZ]at this;omega
   have A:(t / k+1)*k<=l.length*k:=G7 k U
   rw[E2,W3]at A
   have a6:(q.pre.length+l.length)*k<=(q.pre++l.map f++q.rest).length*k:=G7 k (by rw[bf];omega)
   rw[E2]at a6
   have a0:(flatK enc k d0)[t]! =c.getD ((g.ow q.id).o+q.pre.length*k+t) undef:=by
    have hg:d0[t / k]! =⟨t / k,U⟩:=by rw[getElem!_pos _ _ (by rw[aa];exact U)];simp[d0]
    rw[get_flatK _ _ _ _ (by rw[aa];exact ht),hg,ab _ _ u]
    congr 1
    rw[E2];show _+(_+t / k*k)+t % k=_;omega
   refine⟨?_,by simp[World.frozen?,k2]⟩
   have ax:(g.ow q.id).o+q.pre.length*k+t<c.size:=za2
   rw[show(id (flatK enc k d0)[t]! :Value)=(flatK enc k d0)[t]! from rfl,a0];simp[World.cell?,k2,Array.getD,ax]
  have ag:CmpLays P gf cb enc k cf b ((g.ow q.id).o+q.pre.length*k) d0.size w:=by
   intro m os Y hs x y;have⟨s,R⟩:=hW Y (hs.trans aa) m os;have⟨n,a3⟩:=ah x y
   have a4:cf x y=n:=by simp[cf,a3]
   rw[a4]
   have af:∀z:Fin l.length,VR g (sortWorldK enc k w b ((g.ow q.id).o+q.pre.length*k) m Y os) (.agg (enc z).toArray) (.agg (va l[z.val])):=λz=>by
    have hg:∀i,i<k->(enc z).toArray.getD i undef=(enc z)[i]! :=λi U=>by
     rw[getElem!_pos _ _ (by rw[G];exact U)];simp[Array.getD,G,U]
    refine VR.agg (by simp[G,ae]) (λi U=>?_) (λi U=>?_)
    ·rw[ae]at U;rw[hg i U];exact(M z i U).1
    rw[ae]at U;rw[hg i U];exact(M z i U).2.mono s
   refine AC6 (hc _ _ _ a3) eg R (Args.append (x:=[.agg (va l[x.val]),.agg (va l[y.val])]) ⟨rfl,λi U=>?_⟩ ⟨ap.1,λi U=>(ap.2 i U).mono s⟩)
   match i,U with
   |0,_=>exact af x
   |1,_=>exact af y
  have ao:b<w.heap.size:=by
   rcases R9 b w.heap.size with h'|h'
   ·exact h'
   rw[NT h']at k2;cases k2
  have ai:=hS.pos _ enc G O cf hO gf cb b ((g.ow q.id).o+q.pre.length*k) ((q.pre++l.map f++q.rest).length-q.pre.length) d0 w eg ag hH ao za2 hT;clear ag hH hO hT
  rw[aa]at ai
  rw[ay,a7];refine ai.mono ?_;rintro e w' ⟨rfl,n',os,rfl⟩
  let s:=d0.toList.mergeSort λx y=> !(ltOf cf) y x
  have ba:s.toArray.size=l.length:=by simp[s,Ta,d0]
  have⟨st,R⟩:=hW s.toArray ba n' os;refine⟨_,rfl,g,.tup [],_,st,R,VR.und _ _,rfl,?_⟩
  have bb:s.Perm (List.finRange l.length):=by simpa[d0]using List.mergeSort_perm d0.toList λx y=> !(ltOf cf) y x
  have bc:s.map (λi=>l[i.val])=r:=by
   refine PQ ac ?_ ?_
   ·have Z:=bb.map (λi:Fin l.length=>l[i.val])
    have J:(List.finRange l.length).map (λi:Fin l.length=>l[i.val])=l:=by
     apply ES
     ·simp
     intro i O Z;simp
    rw[J]at Z
    exact Z.trans hp.symm
   rw[O3];have Z:=NX (le:=λx y=> !(ltOf cf) y x) (λa b c=>by simp only[N];simp;omega) (λa b=>by simp only[N];simp;omega) d0.toList;refine Z.imp λ{a b} an=>?_;have⟨a1,a2⟩:=B a;have⟨b1,b2⟩:=B b
   rw[N]at an
   rw[<-a2,<-b2,Ao ac b1 a1]
   simpa using an
  have:s.toArray.toList.map (λi=>f l[i.val])=r.map f:=by rw[<-bc,M3];rfl
  rw[this]
section
variable [Ar]{P:Program}{nt:Nat}{rd:Option Nat}{E:Hj}(hE:E=J3 P nt rd)
include hE
theorem Ox {Φ:A6->A6->Prop}{H0 H:A6}{L:Up En}{fid:FuncId}{a:V}{q:OG}{sz:Nat}{α:Type}{f:α->V}{l:Up α}{k:V->A6->Prop}{R:Type}{m:OS (Up α)}{F:Up α->OS R}{r:R}
 (e:B9 Φ H0 L H) (Q:An q (Ar.len l)) (i:Nat) (U:L[i]? =some (.blk q.id (.arr sz (q.pre++lst f l++q.rest)))) (h:m.bind F=some r) (s:∀x,m=some x->QL P fid a sz (lst f l) (lst f x))
 (W:∀x H',An q (Ar.len x)->B9 Φ H0 (L.set i (.blk q.id (.arr sz (q.pre++lst f x++q.rest)))) H'->F x=some r->k (.tup []) H'):
 E.call (.func (.func fid) [] []) [.own q.id q.lo q.n,a] H k:=by
 subst hE;have⟨x,O,Z⟩:=bind_some h;have⟨y,N⟩:=s x O;refine O7.value (F:=[]) (C:=[]) ?_;simp only[I1,E5];refine(y H q ⟨Q.1,by rw[Q.2,len_eq,M7]⟩ (e.get i U)).mono λv H' ⟨j,e2⟩=>?_;subst j;subst e2;refine W x _ ⟨Q.1,?_⟩ (e.set i U) Z;rw[Q.2,len_eq,len_eq]
 rw[M7,M7]at N
 omega
end
end Go.Ab
open Go.Ab.Ar (len_eq lst lst_eq)
namespace Go.Ab
open Go.RowKit Go.Sort Go.Shelf Go.Proofs
structure Ay1 (P:Program) (f:FuncId) (k:Nat):Prop where
 zero:∀p cap fv w,Calls P f #[.slice p 0 cap,fv] w λe w'=>e= .returned (.tuple #[])/\w'=w
 pos:∀(α:Type) [Inhabited α] (enc:α->List Value) (_:∀x,(enc x).length=k) (_:∀x,∀v∈enc x,v.oneCell'=true) (cf:α->α->Int) (_:SWO (ltOf cf)) (g:Nat) (cb:Array Value) (blk off cap:Nat) (d:Array α) (w:World)
  (_:∀args w,(callFunc g args).run P w= .ok (.enter g args) w) (_:CmpLays P g cb enc k cf blk off d.size w) (_:HoldsK enc k w blk off d) (_:blk<w.heap.size) (_:d.size<4611686018427387904),
  Calls P f #[.slice (some ⟨blk,off,none⟩) d.size cap,.func (.func g) #[] cb] w λe w'=>e= .returned (.tuple #[])/\∃d' n os,PermIn 0 d.size d d'/\SortedIn (ltOf cf) 0 d.size d'/\w'=sortWorldK enc k w blk off n d' os
def AH8 {P:If}{a:Ren}(e:SlLaysF0.n6 P a){k:Nat}(h:∀w,(isAgg (a.t 24)).run P w= .ok true w)(zE:∀w,(Go.sizeOf (a.t 24)).run P w= .ok k w):Ay1 P (a.f 6) k:=
 ⟨λp cap y w=>AnyF.slices_SortFunc_none e p cap y w,λα _ enc W O i j g cb blk off cap d w x s N A C=>AnyQ.slices_SortFunc e k h zE enc W O i j g cb blk off cap d w x s N A C⟩
variable [P3]
def ZL [Ar] {P:If} {sf:FuncId} {k:Nat} (hS:Ay1 P sf k)
 (az:∀vals w,(callFunc sf vals).run P w= .ok (.enter sf vals) w) {α:Type} [DecidableEq α] {f:α->V} {va:α->Up V} (hf:∀x,f x= .agg (va x)) (af:∀x,(va x).length=k)
 {cmp:α->α->OS Int} {gf:FuncId} {C:Up V} (eg:∀vals w,(callFunc gf vals).run P w= .ok (.enter gf vals) w) (hc:∀a b n,cmp a b=some n->B8 P gf ([.agg (va a),.agg (va b)]++C) (.int .i64 n))
 {l r:Up α} (h:PS cmp l=some r):QL P sf (.func (.func gf) [] C) k (lst f l) (lst f r):=by
 obtain⟨hp,aw,bc,r0,ae,ad⟩:=Aq8 h;refine⟨?_,by rw[M7,M7];exact hp.length_eq⟩;rw[lst_eq,lst_eq];intro H q Q W g w vals hR hA;obtain⟨av,hv⟩:=hA;obtain⟨vals⟩:=vals
 match vals,av with
 | [v,a6],_=>
  have bg:VR g w v (.own q.id q.lo q.n):=by have:=hv 0 za4;simpa using this
  have bh:VR g w a6 (.func (.func gf) [] C):=by have:=hv 1 za4;simpa using this
  obtain⟨cb,rfl,ap⟩:=bh.funcN;rw[az]
  show CallsIn Fence.wide 0 P sf #[v,.func (.func gf) #[] cb] w _
  rw[callsIn_wide];obtain⟨b,p,e1,e2,e3,e4,e5,e6,e7,e8,e9,am⟩:=Gr hR W bg
  have bi:(q.pre++l.map f++q.rest).length=q.pre.length+l.length+q.rest.length:=by simp;omega
  have ba:=Q.2
  rw[E1]at ba
  have ax:q.n.toNat=l.length:=za2
  by_cases hz:l=[]
  ·subst hz
   have hr:r=[]:=by simpa using hp.length_eq
   subst hr;subst e2;rw[ax];refine(hS.zero p _ _ w).mono ?_;rintro e w' ⟨rfl,rfl⟩;refine⟨_,rfl,g,.tup [],H,Aw.refl _ _,hR,VR.und _ _,rfl,?_⟩
   funext x
   simp_all[upd]
  have hn:0<l.length:=List.length_pos_iff.2 hz
  rcases am with am|⟨c,T,k1,k2,k3,k4,k5,k6⟩
  ·omega
  have bb:=e8 (by rw[Q.1];omega);subst bb;subst e2
  haveI:Inhabited (Fin l.length):=⟨⟨0,hn⟩⟩
  have a9:q.lo.toNat=q.pre.length:=by rw[Q.1];simp
  let enc:Fin l.length->Up Value:=λi=>(List.range k).map λj=>c.getD ((g.ow q.id).o+(q.pre.length+i.val)*k+j) undef
  have B:∀x,(enc x).length=k:=λx=>by simp[enc]
  have ab:∀(x:Fin l.length) (j:Nat),j<k->(enc x)[j]! =c.getD ((g.ow q.id).o+(q.pre.length+x.val)*k+j) undef:=λx j u=>by simp[enc,u]
  have ac:∀(x:Fin l.length) (j:Nat),((q.pre++l.map f++q.rest).getD (q.pre.length+x.val) .bad).cells.getD j .bad=(va l[x.val]).getD j .bad:=λx j=>by
   have e:(l.map f).getD x.val .bad=f l[x.val]:=by rw[AD,Az,C8 x.isLt];rfl
   rw[Zi za4,e,hf];rfl
  have G:∀(x:Fin l.length) (j:Nat),j<k->((enc x)[j]!).oneCell'=true/\VR g w (enc x)[j]! ((va l[x.val]).getD j .bad):=λx j u=>by
   rw[ab x j u,<-ac]
   grind
  have O:∀x,∀v∈enc x,v.oneCell'=true:=λx v hv=>by
   obtain⟨j,u,rfl⟩:=K1 hv
   rw[B]at u
   have:=(G x j u).1
   rwa[getElem!_pos _ _ (by rw[B];exact u)]at this
  have ai:∀i j:Fin l.length,∃n,cmp l[i.val] l[j.val]=some n:=λi j=>UQ ae (ad _ (F4 _)) (ad _ (F4 _))
  let cf:Fin l.length->Fin l.length->Int:=λi j=>(cmp l[i.val] l[j.val]).getD 0
  have ak:∀i:Fin l.length,∃p:Nat,∃hh:p<r0.length,r0[p]=l[i.val]:=λi=>by
   obtain⟨p,hh,e⟩:=K1 (ad _ (F4 i.isLt));exact⟨p,hh,e⟩
  let pos:Fin l.length->Nat:=λi=>Classical.choose (ak i)
  have Y:∀i:Fin l.length,∃hh:pos i<r0.length,r0[pos i]=l[i.val]:=λi=>SZ (ak i)
  have N:∀i j,ltOf cf i j=decide (pos i<pos j):=λi j=>by
   obtain⟨n,hn⟩:=ai i j;obtain⟨a1,a2⟩:=Y i;obtain⟨b1,b2⟩:=Y j;rw[<-Ao ae a1 b1,a2,b2];simp[ltOf,cf,Nm,hn]
  have hO:SWO (ltOf cf):=⟨λx=>by rw[N];simp,λx y z=>by rw[N,N,N];simp;omega,λx y z=>by rw[N,N,N];simp;omega⟩
  let d0:za1 (Fin l.length):=(List.finRange l.length).toArray
  have aa:d0.size=l.length:=by simp[d0]
  have hW:∀(dk:za1 (Fin l.length)),dk.size=l.length->∀(m:Nat) (os:za1 Obj),
   Aw g w g (sortWorldK enc k w b ((g.ow q.id).o+q.pre.length*k) m dk os)/\Rl g (upd H q.id (some (.arr k (q.pre++dk.toList.map (λi=>f l[i.val])++q.rest)))) (sortWorldK enc k w b ((g.ow q.id).o+q.pre.length*k) m dk os):=by
   intro dk aq m os
   have ar:∀i (U:i<dk.size),(dk.toList.map (λi=>f l[i.val])).getD i .bad=f l[(dk[i]!).val]:=λi U=>by
    have e:dk[i]! =dk[i]:=getElem!_pos dk i U;rw[AD,Az,DQ,Dd U];simp only[e,K5,O2]
   have al:(dk.toList.map (λi=>f l[i.val])).length=dk.size:=za4
   exact Ve hR W e1 (by rw[al,E1,aq]) (by simpa using hn) k2 k3 k4 e9 (flatK enc k dk) (by rw[size_flatK,aq,E1])
    (λi U=>by rw[al]at U;rw[ar i U,hf];exact af _)
    (λi j U u=>by
     rw[al]at U
     rw[Ak2 U u,ar i U,hf]
     exact G _ j u) m os
  have hH:HoldsK enc k w b ((g.ow q.id).o+q.pre.length*k) d0:=by
   intro t ht
   rw[size_flatK,aa]at ht
   have au:0<k:=by
    rcases KY k with h0|h0
    ·rw[h0,Nat.mul_zero]at ht;omega
    exact h0
   have U:t / k<l.length:=(Mv au).2 ht;have u:t % k<k:=DH _ au
   have e3:t=t / k*k+t % k:=by have:=KZ t k;rw[EZ]at this;omega
   have A:(t / k+1)*k<=l.length*k:=G7 k U
   rw[E2,W3]at A
   have a7:(q.pre.length+l.length)*k<=(q.pre++l.map f++q.rest).length*k:=G7 k (by rw[bi];omega)
   rw[E2]at a7
   have a3:(flatK enc k d0)[t]! =c.getD ((g.ow q.id).o+q.pre.length*k+t) undef:=by
    have hg:d0[t / k]! =⟨t / k,U⟩:=by rw[getElem!_pos _ _ (by rw[aa];exact U)];simp[d0]
    rw[get_flatK _ _ _ _ (by rw[aa];exact ht),hg,ab _ _ u]
    congr 1
    rw[E2];show _+(_+t / k*k)+t % k=_;omega
   refine⟨?_,by simp[World.frozen?,k2]⟩
   have aw:(g.ow q.id).o+q.pre.length*k+t<c.size:=za2
   rw[show(id (flatK enc k d0)[t]! :Value)=(flatK enc k d0)[t]! from rfl,a3];simp[World.cell?,k2,Array.getD,aw]
  have ah:CmpLays P gf cb enc k cf b ((g.ow q.id).o+q.pre.length*k) d0.size w:=by
   intro m os dk hs x y;obtain⟨s,R⟩:=hW dk (hs.trans aa) m os;obtain⟨n,a4⟩:=ai x y
   have a5:cf x y=n:=by simp[cf,a4]
   rw[a5]
   have ag:∀z:Fin l.length,VR g (sortWorldK enc k w b ((g.ow q.id).o+q.pre.length*k) m dk os) (.agg (enc z).toArray) (.agg (va l[z.val])):=λz=>by
    have hg:∀i,i<k->(enc z).toArray.getD i undef=(enc z)[i]! :=λi U=>by
     rw[getElem!_pos _ _ (by rw[B];exact U)];simp[Array.getD,B,U]
    refine VR.agg (by simp[B,af]) (λi U=>?_) (λi U=>?_)
    ·rw[af]at U;rw[hg i U];exact(G z i U).1
    rw[af]at U;rw[hg i U];exact(G z i U).2.mono s
   refine AC6 (hc _ _ _ a4) eg R (Args.append (x:=[.agg (va l[x.val]),.agg (va l[y.val])]) ⟨rfl,λi U=>?_⟩ ⟨ap.1,λi U=>(ap.2 i U).mono s⟩)
   match i,U with
   |0,_=>exact ag x
   |1,_=>exact ag y
  have ao:b<w.heap.size:=by
   rcases R9 b w.heap.size with h'|h'
   ·exact h'
   rw[NT h']at k2;cases k2
  have aj:=hS.pos _ enc B O cf hO gf cb b ((g.ow q.id).o+q.pre.length*k) ((q.pre++l.map f++q.rest).length-q.pre.length) d0 w eg ah hH ao za2;clear ah hH hO
  rw[aa]at aj
  rw[ax,a9];refine aj.mono ?_;rintro e w' ⟨rfl,d',n',os,ay,bd,rfl⟩;have a0:d'.size=l.length:=ay.1.trans aa;obtain⟨st,R⟩:=hW d' a0 n' os;refine⟨_,rfl,g,.tup [],_,st,R,VR.und _ _,rfl,?_⟩
  have be:d'.toList.Perm (List.finRange l.length):=by
   have:=ay.2.2
   have e1:d'.extract 0 l.length=d':=by rw[show d'.extract 0 l.length=d'.extract 0 d'.size from G2 (λn=>d'.extract 0 n) a0.symm];simp
   have e2:d0.extract 0 l.length=d0:=by rw[show d0.extract 0 l.length=d0.extract 0 d0.size from G2 (λn=>d0.extract 0 n) aa.symm];simp
   rw[e1,e2]at this
   simpa[d0]using this
  have bf:d'.toList.map (λi=>l[i.val])=r:=by
   have Z:=be.map (λi:Fin l.length=>l[i.val])
   have J:(List.finRange l.length).map (λi:Fin l.length=>l[i.val])=l:=by
    apply ES
    ·simp
    intro i O Z;simp
   rw[J]at Z
   refine Tq ae (λx M=>ad x (Z.mem_iff.1 M)) (Z.trans hp.symm) ?_ bc;rw[O3,AC];intro i j U u a8
   simp only[IL]at U u
   have an:=bd i j (Cd _) a8 za2
   rw[getElem!_pos d' i U,getElem!_pos d' j u,N]at an
   obtain⟨a1,a2⟩:=Y d'[i];obtain⟨b1,b2⟩:=Y d'[j];simp only[Lc];rw[<-a2,<-b2,Ao ae b1 a1];exact an
  have:d'.toList.map (λi=>f l[i.val])=r.map f:=by rw[<-bf,M3];rfl
  rw[this]
end Go.Ab
namespace Go.Ab
open Go.RowKit
variable [P3][Ar]
section
variable {P:Program}{nt:Nat}{rd:Option Nat}{T:JI}{E:Hj}{I:List (List V)->A6->A6->Prop}{D:A6->A6->Prop}
def Kk {α:Type}{c:Bool}{x:OS α}{r:α}(h:(if c=true then x else none)=some r):c=true/\x=some r:=by
 simp_all
def G9.exL {D:A6->A6->Prop}(a:G9 D):G9 λF H=>∃L,B9 D F L H:=
 ⟨λ⟨L,h⟩=>(B9.stable a L).le h,λid b ⟨L,h⟩ e=>⟨L,(B9.stable a L).chg id b h e⟩⟩
def B9.hle {Φ:A6->A6->Prop}{F H H':A6}{L:Up En}(h:B9 Φ F L H)(B:KA H H'):B9 Φ F L H':=by
 grind[B9,KA]
def AW4 (hE:E=J3 P nt rd) {α R:Type} {f:α->V} {sz:Nat} (i:∀x,(f x).cells.length=sz) {l:Up α} {tl:J8} {lo:OS Int} {m:Int} {k:V->Prop} {F:Up α->OS R} {r:R} (h:(R6 l lo (some m) (some m)).bind F=some r)
 (W:∀x,F x=some r->k (.sl (lst f x) .full)):E.slice sz (lst f l) tl lo (some m) (some m) k:=by
 subst hE;have⟨x,O,Z⟩:=bind_some h
 unfold R6 at O
 split at O
 ·rename_i a;have⟨y,N,c3,c4,c5⟩:=a;cases O;refine⟨?_,?_⟩
  ·rw[M7]
   simp_all[Qv]
  have e:m=(m.toNat:Int):=za7
  have a:LL (lo.getD 0).toNat m.toNat l.length (some m) tl= .full:=A2 e;rw[M7,lst_eq,<-List.map_drop,<-List.map_take]
  grind[lst_eq]
 cases O
def Ww {f:FuncId} {args:Up V} {sz:Nat} {xs:Up V} (h:WH P f args sz xs):B8 P f args (.sl xs .ro):=λH=>
 (h H).thaw λx H' ⟨q,e,Q,a,e2⟩=>by
  refine .inr ⟨q.id,sz,_,q.lo,q.n,e,by rw[e2,G4],?_,?_⟩
  ·rw[Aq6 rfl Q.1 Q.2]
  grind[FI,Ab2]
def Al1 {f:FuncId}{fn:Func}{c:Code}{n:Nat}{rs:Up ResultVar}{args:Up V}(i:Cf)(s:Yv P T)(B:P.funcs[f]? =some fn)(v:fn.body=some c)(hd:N8 i c=true)
 (a:∀vals w,(callFunc f vals).run P w= .ok (.enter f vals) w) (N:fn.ntmps=n) (j:fn.results.toList=rs) (C:Nat.ble args.length n=true) {A:A6->Prop} {F H:A6}
 (h:∀(E:Hj) (K:V->A6->Prop),E=J3 P n none->(∀x H',A H'->x= .bool true->K x H')->(∀x L H',B9 D F L H'->x= .bool false->K x H')->run E T n i c ⟨FA args 0,[]⟩ H (SI E T rs K)):
 O7 P f args H λr H'=>(r= .bool true/\A H')\/(r= .bool false/\∃L,B9 D F L H'):=by
 refine(Bp (K:=λx H'=>∃y e,DK x y/\KA e H'/\((y= .bool true/\A e)\/(y= .bool false/\∃L,B9 D F L e))) i s.1 s.2 B v hd a N j C λE hE=>?_).le.mono λr H' G=>G;exact h E _ hE (λx H' u M=>⟨x,H',.refl _,.refl _,.inl ⟨M,u⟩⟩) λx L H' z M=>⟨x,H',.refl _,.refl _,.inr ⟨M,L,z⟩⟩
variable {α β σ:Type}
def ECI (enc:α->Up V)(step:σ->α->OS (Up β×(σ⊕Unit)))(a:σ)(Inv:σ->Up β->A6->A6->Prop)(w':Up β)(l:Up (Up V))(F H:A6):Prop:=
 ∃q:σ×Up α×Up β,(l=q.2.1.map enc/\AS step q.2.1 q.1=some (q.2.2,.inl a))/\Inv q.1 (q.2.2++w') F H
def Bj4 (hE:E=J3 P nt rd) (hI:∀l,G9 (I l)) (hD:G9 D) {f:FuncId} {args':V->Up V} {rb:V->Bool->Prop} {enc:α->Up V} {a:β->Up V} {step:σ->α->OS (Up β×(σ⊕Unit))} {Ls:σ->Up En} {cv:V}
 {xs:Up α} {w w':Up β} {tl:Up (Up V)} {s0 Q:σ} {F H:A6} {args:Up V} {k:V->A6->Prop} (Y:cv.one=true/\cv.cells=[cv]) (hc:Jl P f args' (xs.map enc) rb) (h:AS step xs s0=some (w,.inl Q)) (hO:B9 (I (List.map a (w++w')++tl)) F (Ls s0) H)
 (B:M2 args (args' cv))
 (N:∀s y G W F H o,step s y=some (G,o)->B9 (I (List.map a (G++W)++tl)) F (Ls s) H->EN P cv (enc y) H λr H'=>(r= .bool true/\∃j,o= .inl j/\B9 (I (List.map a W++tl)) F (Ls j) H')\/(r= .bool false/\∃L,B9 D F L H'))
 (O:∀v H',rb v true->B9 (I (List.map a w'++tl)) F (Ls Q) H'->k v H') (Z:∀v L H',rb v false->B9 D F L H'->k v H'):E.call (.func (.func f) [] []) args H k:=by
 subst hE
 let Inv:σ->Up β->A6->A6->Prop:=λs w F H=>B9 (I (List.map a w++tl)) F (Ls s) H
 have sI:∀l,G9 (ECI enc step Q Inv w' l):=λl=>G9.ex λq=>B9.stable (hI _) _;have sD:G9 λF H=>∃L,B9 D F L H:=G9.exL hD
 have hy:RX P cv (ECI enc step Q Inv w') λF H=>∃L,B9 D F L H:=by
  refine⟨Y,λx l F H ⟨⟨s,ys,W⟩,⟨B,i⟩,U⟩=>?_⟩
  cases ys with
  |nil=>cases B
  | cons y ys=>
   simp only[D9,V0]at B
   obtain⟨rfl,rfl⟩:=B
   simp only[AS]at i
   cases z:step s y with
   |none=>rw[z]at i;cases i
   | some p=>
    have⟨G,o⟩:=p
    rw[z]at i
    cases o with
    |inr u=>cases i
    | inl j=>
     simp only at i
     cases M:AS step ys j with
     |none=>rw[M]at i;cases i
     |some p=>
      have⟨w3,x⟩:=p
      rw[M]at i
      cases i
      have aa:B9 (I (List.map a (G++(w3++w'))++tl)) F (Ls s) H:=by rw[<-D2];exact U
      refine(N s y G (w3++w') F H _ z aa).mono λr H' i=>?_
      rcases i with⟨rfl,s2,e,ab⟩|⟨rfl,hd⟩
      ·cases e;exact .inl ⟨rfl,⟨j,ys,w3⟩,⟨rfl,M⟩,ab⟩
      simp_all
 have J:O7 P f args H k:=((hc cv _ _ sI sD hy [] F H ⟨⟨s0,xs,w⟩,⟨E5 _,h⟩,hO⟩).args B).mono λv H' i=>by
  rcases i with⟨A,⟨s,ys,W⟩,⟨B,i⟩,U⟩|⟨A,L,z⟩
  ·cases ys with
   |cons _ _=>cases B
   |nil=>cases i;grind
  grind
 exact O7.value (F:=[]) (C:=[]) za7
end
end Go.Ab
namespace Go.Ab
open Go.RowKit Go.MapKept
variable [P3][Ar]
section
variable {K X:Type}
end
section
variable {P:Program}{nt:Nat}{rd:Option Nat}{T:JI}{E:Hj}
variable (hE:E=J3 P nt rd)
include hE
variable {K X R S:Type}{kf:K->V}{vf:X->V}{d:TypeDesc}{Φ:A6->A6->Prop}{H0 H:A6}{L:List En}{r:R}{fid:FuncId}{args args':List V}{k:V->A6->Prop}
end
def B9.ne {Φ:A6->A6->Prop}{F H:A6}{L:Up En}{a b:Nat}{x y:KB}(h:B9 Φ F L H)(i j:Nat)(U:L[i]? =some (.blk a x))(u:L[j]? =some (.blk b y))(N:i≠j):a≠b:=λe=>by
 have⟨C,v,G,s,O,Z⟩:=h;subst e;exact N (s.inj i j _ _ a x y U u rfl rfl)
section
variable {P:Program}{T:JI}{f:FuncId}{fn:Func}{c:Code}{n:Nat}{rs:List ResultVar}{args:List V}{K X:Type}{kf:K->V}{vf:X->V}{d:TypeDesc}
end
section
variable {K X:Type}
end
section
variable {P:Program}{nt:Nat}{rd:Option Nat}{T:JI}{E:Hj}
variable (hE:E=J3 P nt rd)
include hE
variable {K X:Type}{kf:K->V}{vf:X->V}{d:TypeDesc}{Φ:A6->A6->Prop}{H0 H:A6}{L:List En}{k:V->A6->Prop}{m left:List (K×X)}{o:Obj}{mid it:Nat}{b:KB}{p:K×X}
end
end Go.Ab
namespace Go.Ab
variable [P3]
def At5 {E:Hj}{t:Nat}{H:A6}{m y a:V}{ok:Bool}{k:V->Prop}(e:a=y)(h:E.mget t H m a ok k):E.mget t H m y ok k:=e▸h
def Ze {E:Hj}{t:Nat}{H:A6}{m y a v:V}{k:A6->Prop}(e:a=y)(h:E.mset t H m a v k):E.mset t H m y v k:=e▸h
end Go.Ab
namespace Go.Ab
open Go.RowKit
variable [P3][Ar]
section
variable {K X:Type}{P:Program}{d:TypeDesc}{kf:K->V}{vf:X->V}{o:List Value×List V}{m:List (K×X)}
def TY (kf:K->V)(vf:X->V)(o:Up HO×Up V)(m:Up (K×X)):Prop:=
 o.1.map some=m.map (λp=>DY (kf p.1))/\o.2=m.map (λp=>vf p.2)/\o.1.Nodup
theorem TY.at (h:TY kf vf o m){i:Nat}{kv:HO}:o.1[i]? =some kv<->∃p,m[i]? =some p/\DY (kf p.1)=some kv:=by
 have:=G2 (λl=>l[i]?) h.1
 grind
def TY.keys (h:TY kf vf o m)(x:Ui P d kf):∀k∈o.1,HK d k:=by
 intro k W;obtain⟨i,U,e⟩:=K1 W
 obtain⟨p,_,e2⟩:=h.at.1 (List.getElem?_eq_some_iff.2 ⟨U,e⟩)
 obtain⟨v,a,e4⟩:=x.raw p.1
 rw[e2]at a;simp_all
def TY.find (h:TY kf vf o m) (A:Ui P d kf) {key:K} {N:HO} (a:DY (kf key)=some N):
 ((∀k∈o.1,k≠N)/\∀p∈m,p.1≠key)\/∃(i:Nat) (p:K×X),o.1[i]? =some N/\m[i]? =some p/\p.1=key/\∀(j:Nat) q,m[j]? =some q->q.1=key->j=i:=by
 by_cases M:∃p∈m,p.1=key
 ·obtain⟨p,y,x⟩:=M;obtain⟨i,U,e⟩:=K1 y;have s:m[i]? =some p:=List.getElem?_eq_some_iff.2 ⟨U,e⟩
  have e2:=h.at.2 ⟨p,s,by rw[x];exact a⟩
  refine .inr ⟨i,p,e2,s,x,λj q u Q=>?_⟩
  have z:=h.at.2 ⟨q,u,by rw[Q];exact a⟩
  exact Ap9 h.2.2 z e2
 refine .inl ⟨λk W Y=>?_,λp y Y=>M ⟨p,y,Y⟩⟩;obtain⟨i,U,e⟩:=K1 W
 obtain⟨p,v,e2⟩:=h.at.1 (List.getElem?_eq_some_iff.2 ⟨U,e⟩)
 refine M ⟨p,DO v,A.inj _ _ (Vj e2 ?_)⟩
 rw[<-Y]at a;exact a
def AE1 [DecidableEq K] {key:K}:∀{m:Up (K×X)} {i:Nat} {p:K×X},m[i]? =some p->p.1=key->(∀(j:Nat) q,m[j]? =some q->q.1=key->j=i)->m.find? (λp=>decide (p.1=key))=some p
 |[],_,_,h,_,_=>by simp at h
 |q::m,0,p,h,W,_=>za8
 |q::m,i+1,p,h,W,a=>by
  have Q:q.1≠key:=λe=>by have:=a 0 q rfl e;omega
  simp only[NB,Q,KI]
  exact AE1 (by simpa using h) W λj r u x=>by have:=a (j+1) r za7 x;omega
def Bm1 [DecidableEq K]{key:K}{m:Up (K×X)}(h:∀p∈m,p.1≠key):m.find? (λp=>decide (p.1=key))=none:=
 List.find?_eq_none.2 λp a=>za7
variable {E:Hj}{nt:Nat}{rd:Option Nat}{Φ:A6->A6->Prop}{H0 H:A6}{L:List En}{t kt et mid:Nat}
def BB0 (hE:E=J3 P nt rd)(kf:K->V)(vf:X->V)(e:B9 Φ H0 L H){k:V->A6->Prop}(W:∀id o H',TY kf vf o []->B9 Φ H0 (.blk id (.vm o.1 o.2)::L) H'->k (.map id) H'):E.mmk H k:=by
 subst hE;exact .inr (.inr λid a=>W id ([],[]) _ ⟨rfl,rfl,Ny⟩ (e.push a rfl))
def Bj1 [DecidableEq K] {R:Type} {r:R} {g:X->V} (hE:E=J3 P nt rd) (B:∀x,vf x=g x) (C:P.underlying t=some (.map kt et)) (hd:P.underlying kt=some d) (y:Ui P d kf) {z:V} (z0:X) (J:KC P et=some z) (G:DK z (vf z0)) (A:B9 Φ H0 L H) (Q:TY kf vf o m) (i:Nat) (U:L[i]? =some (.blk mid (.vm o.1 o.2)))
 {key:K} {k:V->Prop} {F:X×Bool->OS R} (h:(Nn m key z0).bind F=some r) (W:∀x,F x=some r->k (.tup [g x.1,.bool x.2])) (N:AH6 P kt d=true:=by kernel_rfl):E.mget t H (.map mid) (kf key) true k:=by
 subst hE;obtain⟨x,O,Z⟩:=bind_some h;obtain⟨v,e,s⟩:=y.raw key;refine⟨_,.inr (.inr ⟨kt,et,_,v,mid,o.1,o.2,C,y.kg _ hd N,e,s,rfl,A.get i U,Q.keys y,?_⟩),W x Z⟩
 unfold Nn at O
 rw[<-B]
 rcases Q.find y e with⟨a,b⟩|⟨j,p,a,b,c,u⟩
 ·rw[Bm1 b]at O
  grind
 rw[AE1 b c u]at O
 cases O;refine .inr ⟨j,a,?_⟩;rw[Q.2.1]
 simp_all
def Bu2 [DecidableEq K] {R:Type} {r:R} {y:V} {v:X} (hE:E=J3 P nt rd) (s:y=vf v) (J:P.underlying t=some (.map kt et)) (hd:P.underlying kt=some d) (N:Ui P d kf) (z:B9 Φ H0 L H) (Q:TY kf vf o m) (i:Nat) (U:L[i]? =some (.blk mid (.vm o.1 o.2)))
 {key:K} {k:A6->Prop} {F:Up (K×X)->OS R} (h:(MC m key v).bind F=some r) (W:∀C o' H',TY kf vf o' C->F C=some r->B9 Φ H0 (L.set i (.blk mid (.vm o'.1 o'.2))) H'->k H') (A:AH6 P kt d=true:=by kernel_rfl):E.mset t H (.map mid) (kf key) y k:=by
 subst hE;subst s;obtain⟨C,O,Z⟩:=bind_some h;obtain⟨G,e,B⟩:=N.raw key;refine .inr (.inr ⟨kt,et,_,G,mid,o.1,o.2,J,N.kg _ hd A,e,B,rfl,z.get i U,Q.keys N,?_⟩)
 unfold MC at O
 rcases Q.find N e with⟨a,b⟩|⟨j,p,a,b,c,u⟩
 ·have Y:m.any (λp=>decide (p.1=key))=false:=by
   rw[IH];grind
  rw[Y]at O
  cases O;refine .inl ⟨a,W _ (o.1++[G],o.2++[vf v]) _ ⟨?_,?_,?_⟩ Z (z.set i U)⟩
  ·simp[Q.1,e]
  ·simp[Q.2.1]
  rw[II];exact⟨Q.2.2,za4,λx M y s=>za8⟩
 have s:m.any (λp=>decide (p.1=key))=true:=List.any_eq_true.2 ⟨p,DO b,za7⟩
 rw[s]at O
 cases O;refine .inr ⟨j,a,W _ (o.1,o.2.set j (vf v)) _ ⟨?_,?_,Q.2.2⟩ Z (z.set i U)⟩
 ·show o.1.map some=_
  rw[Q.1,A2 rfl,M3];refine Y0 λq _=>?_
  grind
 show o.2.set j (vf v)=_
 rw[Q.2.1,A2 rfl];apply CZ
 grind
def OT (P:If)(f:FuncId)(args:Nat->Up V)(kf:K->V)(vf:X->V)(m:Up (K×X))(x:V)(a:Up (K×X)):Prop:=
 ∀H id o,TY kf vf o m->H id=some (.vm o.1 o.2)->O7 P f (args id) H λv H'=>v=x/\∃o',TY kf vf o' a/\H'=upd H id (some (.vm o'.1 o'.2))
def Hs {fid:FuncId}{args:Up V}{args':Nat->Up V}{S R:Type}{r:R}{k:V->A6->Prop}{m:OS (S×Up (K×X))}{F:S×Up (K×X)->OS R}{g:S->V}{l:Up (K×X)}{id:Nat}(hE:E=J3 P nt rd)(a:B9 Φ H0 L H)(Q:TY kf vf o l)(i:Nat)(U:L[i]? =some (.blk id (.vm o.1 o.2)))(h:m.bind F=some r)
 (y:∀x,m=some x->OT P fid args' kf vf l (g x.1) x.2) (B:M2 args (args' id))
 (W:∀x o' H',TY kf vf o' x.2->B9 Φ H0 (L.set i (.blk id (.vm o'.1 o'.2))) H'->F x=some r->k (g x.1) H'):E.call (.func (.func fid) [] []) args H k:=by
 subst hE;obtain⟨x,O,Z⟩:=bind_some h;refine O7.value (F:=[]) (C:=[]) ?_;simp only[I1,E5]
 exact((y x O H id o Q (a.get i U)).args B).mono λv H' ⟨e,o',e2,e4⟩=>by subst e;subst e4;exact W x o' _ e2 (a.set i U) Z
def Kt {f:FuncId}{fn:Func}{c:Code}{n:Nat}{rs:Up ResultVar}{T:JI}{args:Nat->Up V}{m':Up (K×X)}{x:V}(e:Cf)(u:Yv P T)(B:P.funcs[f]? =some fn)(A:fn.body=some c)(hd:N8 e c=true)
 (a:∀vals w,(callFunc f vals).run P w= .ok (.enter f vals) w) (N:fn.ntmps=n) (j:fn.results.toList=rs) (C:∀id,Nat.ble (args id).length n=true)
 (h:∀(E:Hj) (H:A6) (id:Nat) (o:Up HO×Up V) (k:V->A6->Prop),E=J3 P n none->TY kf vf o m->B9 Eq (upd H id none) [.blk id (.vm o.1 o.2)] H->(∀v o' (L:Up En) (i:Nat) H',TY kf vf o' m'->L[i]? =some (.blk id (.vm o'.1 o'.2))->B9 Eq (upd H id none) L H'->DK v x->k v H')->run E T n e c ⟨FA (args id) 0,[]⟩ H (SI E T rs k)):OT P f args kf vf m x m':=λH id o Q W=>by
 refine O7.le (Bp (K:=λv H'=>∃y s,DK v y/\KA s H'/\y=x/\∃o',TY kf vf o' m'/\s=upd H id (some (.vm o'.1 o'.2))) e u.1 u.2 B A hd a N j (C id) λE hE=>?_);refine h E H id o _ hE Q (B9.startO W) λv o' L i H' G U z J=>?_;obtain⟨O,Z⟩:=(z.only i U).last
 rw[FI]at Z
 grind
end
def Mk {α:Type}(w:Rw α):Up En:=w.row.map λc=>.tl c.2
structure Gf {α:Type} (w:Rw α) (l:List (List α)):Prop where
 ok:An w.q (Ar.len w.row)
 ap:RwA w
 eq:w.row.map (·.1)=l
section
variable {α:Type}{f:α->V}{w:Rw α}{l:List (List α)}
def Gf.len (h:Gf w l):Ar.len l=Ar.len w.row:=by rw[len_eq,len_eq,<-h.eq,List.length_map]
theorem Gf.at (h:Gf w l) {i:Int} {x:Up α} (M:C7 l i=some x):(0<=i/\i<(w.row.length:Nat))/\∃t,w.row[i.toNat]? =some (x,t)/\Ed t:=by
 have⟨O,Z⟩:=Bl9 M
 rw[<-h.eq]at O Z
 rw[E1]at O
 rw[Az]at Z
 cases a:w.row[i.toNat]? with
 |none=>rw[a]at Z;cases Z
 |some c=>
  rw[a]at Z
  simp only[K5,E7]at Z
  refine⟨O,c.2,by rw[<-Z],h.ap c (DO a)⟩
theorem Gf.put (h:Gf w l) (i:Nat) {y:Up α} {t:J8} (j:Ed t):Gf ⟨w.q,w.row.set i (y,t)⟩ (l.set i y):=by
 refine⟨?_,λc a=>?_,?_⟩
 ·have:=h.ok
  rw[len_eq]at this ⊢
  rw[List.length_set];exact this
 ·rcases List.mem_or_eq_of_mem_set a with a|rfl
  ·exact h.ap c a
  exact j
 rw[List.map_set,h.eq]
def As0 {i:Nat}{c:Up α×J8}(U:w.row[i]? =some c):∃R,(Mk w).Perm (.tl c.2::R)/\∀c',(Mk ⟨w.q,w.row.set i c'⟩).Perm (.tl c'.2::R):=Sj U
def B9.rtake {Φ:A6->A6->Prop} {H0 H:A6} {L T1 T2:Up En} (a:B9 Φ H0 L H) (n:Nat) (e:L=L.take n++(T1++(Mk w++T2))) {i:Nat} {c:Up α×J8} (U:w.row[i]? =some c):
 ∃R,B9 Φ H0 (.tl c.2::(L.take n++R)) H/\∀c' H' (L2:Up En),B9 Φ H0 (.tl c'.2::(L2++R)) H'->B9 Φ H0 (L2++(T1++(Mk ⟨w.q,w.row.set i c'⟩++T2))) H':=by
 have⟨R,O,Z⟩:=As0 U
 have key:∀(L2 X:Up En) (t:En),X.Perm (t::R)->(L2++(T1++(X++T2))).Perm (t::(L2++(T1++(R++T2)))):=λL2 X t h=>
  ((((h.append_right T2).append_left T1).append_left L2).trans ((KQ (l₁:=T1)).append_left L2)).trans KQ
 refine⟨T1++(R++T2),?_,λc' H' L2 h=>h.perm (key _ _ _ (Z c')).symm⟩
 rw[e]at a
 exact a.perm (key _ _ _ O)
def B9.radd {Φ:A6->A6->Prop} {H0 H:A6} {L:Up En} (i:B9 Φ H0 L H) (n:Nat) (w:Rw α) (y:∀c∈w.row,(En.tl c.2).id=none):B9 Φ H0 (L.take n++(Mk w++L.drop n)) H:=by
 have O:∀(row:Up (Up α×J8)) (M:Up En),(∀c∈row,(En.tl c.2).id=none)->B9 Φ H0 M H->B9 Φ H0 ((row.map λc=>.tl c.2)++M) H:=by
  intro row
  induction row with
  |nil=>simp
  |cons c row ih=>exact λM a h=>(ih M (λc x=>a c (by simp[x])) h).tl0 (a c za4)
 refine(O w.row L y i).perm ?_
 show(Mk w++L).Perm _
 have e:Mk w++L=Mk w++(L.take n++L.drop n):=by rw[EW]
 rw[e,<-D2,<-D2];exact List.perm_append_comm.append_right _
def B9.drops {Φ:A6->A6->Prop}{H0 H:A6}:∀{X L:Up En},B9 Φ H0 (X++L) H->B9 Φ H0 L H
 |[],_,h=>h
 |_::X,_,h=>B9.drops (X:=X) h.tail
def B9.rdrop {Φ:A6->A6->Prop}{H0 H:A6}{L T1 T2:Up En}(a:B9 Φ H0 L H)(n:Nat)(e:L=L.take n++(T1++(Mk w++T2))):B9 Φ H0 (L.take n++(T1++T2)) H:=by
 rw[e]at a
 refine(a.perm (L':=Mk w++(L.take n++(T1++T2))) ?_).drops;refine(((Ti T1 (Mk w) T2).append_left _)).trans ?_;exact Ti _ _ _
def Ab4 {α:Type}{l r:Up α}{i:Int}{y:α}(h:Ev l i (λ_=>y)=some r):r=l.set i.toNat y:=by
 simp_all[Ev]
def Bg8 {e:Up α->V} (Y:∀x,e x= .sl (lst f x) .ro) (h:Gf w l):M2 (lst (Ei f) w.row) (lst e l):=by
 rw[lst_eq,lst_eq,<-h.eq]
 have:∀row:Up (Up α×J8),M2 (row.map (Ei f)) ((row.map (·.1)).map e):=by
  intro row
  induction row with
  |nil=>exact .nil
  |cons c row ih=>exact .cons (by rw[Y];exact .ro _ _) ih
 exact this _
end
section
variable {P:Program}{nt:Nat}{rd:Option Nat}{T:JI}{E:Hj}
variable (hE:E=J3 P nt rd)
include hE
variable {α R:Type}{f:α->V}{Φ:A6->A6->Prop}{H0 H:A6}{L:List En}{w:Rw α}{l:List (List α)}{r:R}
theorem Bq7 {by_:Nat} (e:by_<=131072) (x:B9 Φ H0 L H) (c:Nat) {n m:Int} {k:V->A6->Prop} {F:Up (Up α)->OS R} (h:(ZW n m ([]:Up α)).bind F=some r)
 (W:∀l (w:Rw α) H',Gf w l->F l=some r->B9 Φ H0 (.blk w.q.id (.arr 1 (w.q.pre++lst (Ei f) w.row++w.q.rest))::(L.take c++(Mk w++L.drop c))) H'->k (.own w.q.id w.q.lo w.q.n) H'):E.omk 1 by_ (.sl [] .nil) n m H k:=by
 have⟨l,O,Z⟩:=bind_some h;have B:=AX4 O
 have J:ZW n m (([]:Up α),J8.nil)=some (List.replicate n.toNat (([]:Up α),J8.nil)):=by
  simp_all[ZW]
 refine Ah4 hE (f:=Ei f) e (z0:=(([]:Up α),J8.nil)) (.slt _ .lst0) x (F:=λl=>some l) (r:=List.replicate n.toNat (([]:Up α),J8.nil)) (by rw[J];rfl) λrow q H' Q y a=>?_;cases y;refine W l ⟨q,List.replicate n.toNat (([]:Up α),J8.nil)⟩ H' ⟨Q,λc i=>by rw[Tf i];trivial,by rw[B];simp⟩ Z ?_
 exact a.radd (c+1) ⟨q,List.replicate n.toNat (([]:Up α),J8.nil)⟩ λc i=>by rw[Tf i];rfl
theorem Ah2 {e:Up α->V}(Y:∀x,e x= .sl (lst f x) .ro)(a:B9 Φ H0 L H)(N:Gf w l)(i m:Nat){id j:Nat}{cs:Up V}{k:A6->Prop}(U:L[i]? =some (.blk id (.cells cs)))(s:L[m]? =some (.blk w.q.id (.arr 1 (w.q.pre++lst (Ei f) w.row++w.q.rest))))(u:cs[j]? =some (.own w.q.id w.q.lo w.q.n))(h:i≠m)
 (W:∀H',B9 Φ H0 ((L.set i (.blk id (.cells (cs.set j (.sl (lst e l) .ro))))).eraseIdx m) H'->k H'):E.frzIn H id j k:=by
 subst hE;have O:=a.get i U;have Z:=a.get m s
 have y:w.q.id≠id:=λe=>by rw[e,O]at Z;cases Z
 refine⟨cs,w.q.id,w.q.lo,w.q.n,1,_,lst e l,O,u,Z,?_,?_⟩
 ·rw[Ul N.ok.1 (by rw[N.ok.2,len_eq,M7])];exact Bg8 Y N
 have J:=(a.set i (b':=.cells (cs.set j (.sl (lst e l) .ro))) U).del m (id:=w.q.id) (b:=.arr 1 (w.q.pre++lst (Ei f) w.row++w.q.rest)) (by rw[BJ,A1 h];exact s);rw[UH _ _ _ y];exact W _ J
end
section
variable {P:Program}{nt:Nat}{rd:Option Nat}{T:JI}{E:Hj}
variable (hE:E=J3 P nt rd)
include hE
end
def Ub (P:If)(f:FuncId)(A:OG->Up V)(sz:Nat)(xs ys:Up V):Prop:=
 ∀H (q:OG),An q (xs.length:Nat)->H q.id=some (.arr sz (q.pre++xs++q.rest))->O7 P f (A q) H λv H'=>v= .tup []/\An q (ys.length:Nat)/\H'=upd H q.id (some (.arr sz (q.pre++ys++q.rest)))
structure SV (q:OG) extends OG where
 eq:toOG=q
instance {q:OG}:CoeOut (SV q) OG:=⟨SV.toOG⟩
instance {q:OG}:CoeDep OG q (SV q):=⟨⟨q,rfl⟩⟩
section
variable {P:Program}{nt:Nat}{rd:Option Nat}{T:JI}{E:Hj}
variable (hE:E=J3 P nt rd)
include hE
theorem Gt {α R:Type} {f:α->V} {Φ:A6->A6->Prop} {H0 H:A6} {L:Up En} {sz:Nat} {q:OG} {l:Up α} {r:R} {m:OS (Up α)} {F:Up α->OS R} {fid:FuncId} {args:Up V} {A:OG->Up V} {k:V->A6->Prop}
 (a:B9 Φ H0 L H) (Q:An q (Ar.len l)) (i:Nat) (U:L[i]? =some (.blk q.id (.arr sz (q.pre++lst f l++q.rest)))) (h:m.bind F=some r) (y:∀x,m=some x->Ub P fid A sz (lst f l) (lst f x)) (B:M2 args (A q))
 (W:∀x H',An q (Ar.len x)->B9 Φ H0 (L.set i (.blk q.id (.arr sz (q.pre++lst f x++q.rest)))) H'->F x=some r->k (.tup []) H'):E.call (.func (.func fid) [] []) args H k:=by
 subst hE;have⟨x,O,Z⟩:=bind_some h;refine O7.value (F:=[]) (C:=[]) ?_;simp only[I1,E5]
 exact((y x O H q (by rw[M7,<-len_eq];exact Q) (a.get i U)).args B).mono λv H' ⟨e,e0,e2⟩=>by
  subst e;subst e2;exact W x _ (Ph e0) (a.set i U) Z
end
def JT {P:If} {T:JI} {f:FuncId} {fn:Func} {c:Code} {n m:Nat} {rs:Up ResultVar} {α:Type} {e:α->V} {l r:Up α} {sz:Nat} {A:OG->Up V} (x:Cf) (u:Yv P T) (C:P.funcs[f]? =some fn) (B:fn.body=some c) (hd:N8 x c=true)
 (a:∀vals w,(callFunc f vals).run P w= .ok (.enter f vals) w) (N:fn.ntmps=n) (j:fn.results.toList=rs) (G:∀q,(A q).length=m) (J:Nat.ble m n=true)
 (h:∀(E:Hj) (H:A6) (q:OG) (k:V->A6->Prop),E=J3 P n none->An q (Ar.len l)->B9 Eq (upd H q.id none) [.blk q.id (.arr sz (q.pre++lst e l++q.rest))] H->
  (∀(L:Up En) (i:Nat) H',An q (Ar.len r)->L[i]? =some (.blk q.id (.arr sz (q.pre++lst e r++q.rest)))->B9 Eq (upd H q.id none) L H'->k (.tup []) H')->run E T n x c ⟨FA (A q) 0,[]⟩ H (SI E T rs k)):Ub P f A sz (lst e l) (lst e r):=by
 intro H q Q W;refine O7.le (Bp (K:=λv H'=>∃y s,DK v y/\KA s H'/\y= .tup []/\An q ((lst e r).length:Nat)/\s=upd H q.id (some (.arr sz (q.pre++lst e r++q.rest)))) x u.1 u.2 C B hd a N j (by rw[G];exact J) λE hE=>?_);refine h E H q _ hE (Ph Q) (B9.startO W) λL i H' M U z=>?_;have⟨O,Z⟩:=(z.only i U).last
 rw[FI]at Z
 exact⟨_,_,.refl _,Z,rfl,by rw[M7,<-len_eq];exact M,rfl⟩
end Go.Ab
namespace Go.Ab
open Go.RowKit
variable [P3]
def O7.thawG {P:If} {f:FuncId} {args:Up V} {H:A6} {K K':V->A6->Prop} (h:O7 P f args H K)
 (W:∀x H',K x H'->K' x H'\/∃(mk:V->V) (id sz:Nat) (row:Up V) (lo n:Int),GL mk/\x=mk (.own id lo n)/\H' id=some (.arr sz row)/\K' (mk (.sl (W1 row lo n) .ro)) (upd H' id none)):O7 P f args H K':=
 λg w vals B z=>(h g w vals B z).mono λv w' ⟨g',x,H',s,a,G,N⟩=>by
  rcases W x H' N with N|⟨mk,id,sz,row,lo,n,C,rfl,O,Z⟩
  ·grind[P0]
  obtain⟨u,y,j,i⟩:=a.freezeArr O;obtain⟨J,e,A⟩:=C g' w' v _ G;exact⟨u,_,_,s.trans y,j,A _ _ _ y (i _ _ _ (e.mono y)),Z⟩
section
variable [Ar]{P:Program}{T:JI}
def Wv {f:FuncId} {fn:Func} {c:Code} {n:Nat} {rs:Up ResultVar} {args:Up V} {r:V} (N:Cf) (B:Yv P T) (C:P.funcs[f]? =some fn) (A:fn.body=some c) (hd:N8 N c=true)
 (a:∀vals w,(callFunc f vals).run P w= .ok (.enter f vals) w) (s:fn.ntmps=n) (v:fn.results.toList=rs) (G:Nat.ble args.length n=true)
 (h:∀(E:Hj) (H:A6) (K:V->A6->Prop),E=J3 P n none->(∀x L H',B9 Eq H L H'->DK x r->K x H')->
  (∀(mk:V->V) (_:GL mk) (q:OG) (sz:Nat) (xs:Up V) (i:Nat) (L:Up En) H',B9 Eq H L H'->L[i]? =some (.blk q.id (.arr sz (q.pre++xs++q.rest)))->An q (xs.length:Nat)->DK (mk (.sl xs .ro)) r->K (mk (.own q.id q.lo q.n)) H')->run E T n N c ⟨FA args 0,[]⟩ H (SI E T rs K)):B8 P f args r:=λH=>by
 refine O7.le ?_
 refine(Bp (K:=λx H'=>(∃y z,DK x y/\KA z H'/\y=r/\z=H)\/∃(mk:V->V) (q:OG) (sz:Nat) (xs:Up V) (i:Nat) (L:Up En),GL mk/\x=mk (.own q.id q.lo q.n)/\B9 Eq H L H'/\L[i]? =some (.blk q.id (.arr sz (q.pre++xs++q.rest)))/\An q (xs.length:Nat)/\DK (mk (.sl xs .ro)) r)
  N B.1 B.2 C A hd a s v G λE hE=>?_).thawG ?_
 ·exact h E H _ hE (λx L H' e M=>.inl ⟨r,H,M,e.ext,rfl,rfl⟩) λmk j q sz xs i L H' e U Q u=>.inr ⟨mk,q,sz,xs,i,L,j,rfl,e,U,Q,u⟩
 rintro x H' (h|⟨mk,q,sz,xs,i,L,j,rfl,e,U,Q,u⟩)
 ·exact .inl h
 refine .inr ⟨mk,q.id,sz,_,q.lo,q.n,j,rfl,e.get i U,r,H,?_,(e.del i U).ext,rfl,rfl⟩;rw[Aq6 rfl Q.1 Q.2];exact u
end
end Go.Ab
open Go.Ab.Ar (lst)
namespace Go.Ab
open Go.RowKit Go.Proofs
set_option maxRecDepth 100000
def tk {t:Nat}{I:Ao5}(a:HL Tryz.prog t=some I.sz:=by kernel_rfl)(b:SN Tryz.prog t=some I.by_:=by kernel_rfl)(c:agO Tryz.prog t=some I.ag:=by kernel_rfl)(d:HS Tryz.prog t=I.sl:=by kernel_rfl)(e:arO Tryz.prog t=I.ar:=by kernel_rfl)
 (f:AO0 Tryz.prog t 0 I.fs:=by repeat' (first|refine⟨?_,?_⟩|exact True.intro|kernel_rfl)) (g:Ef I.pl (λl=>Rh Tryz.prog t=some l):=by first|exact True.intro|(show Rh Tryz.prog _=some _;kernel_rfl))
 (h:Ef I.ze (λz=>KC Tryz.prog t=some z):=by first|exact True.intro|(show KC Tryz.prog _=some _;kernel_rfl)) (i:Ef I.ek (λk=>Jn Tryz.prog 9 t=some k):=by first|exact True.intro|(show Jn Tryz.prog 9 _=some _;kernel_rfl)) (j:YM Tryz.prog t=I.st:=by kernel_rfl)
 (k:I.bo=true->AF7 ((Tryz.prog).underlying t)=true:=by intro h;first|(cases h;done)|kernel_rfl) (l:Ef I.ik (λk=>(Tryz.prog).underlying t=some (.int k)):=by first|exact True.intro|(show(Tryz.prog).underlying _=some (.int _);kernel_rfl))
 (m:I.nif=true->ifO Tryz.prog t=false:=by intro h;first|(cases h;done)|kernel_rfl):Bw9 Tryz.prog t I:=⟨a,b,c,d,e,f,g,h,i,j,k,l,m⟩
def Gi:V:=.int .i64 0
def ty1:V:=.sl [] .nil
def ty2:V:=.str ⟨#[]⟩
def YI (k e:Nat):Nat×Ao5:=(k,⟨1,24,false,some e,none,[],none,some (.sl [] .nil),none,false,false,none,true⟩)
def WN (k s b:Nat)(f:Up (OS (Nat×Nat)))(p:Up (Nat×Nat))(z:Up V)(e:OS (Up Nat)):Nat×Ao5:=(k,⟨s,b,true,none,none,f,some p,some (.agg z),e,false,false,none,true⟩)
def TT:JI:=[(2,⟨1,8,false,none,none,[],none,some (.int .i64 0),some [0],false,false,some .i64,true⟩),
 (3,⟨1,8,false,none,none,[],none,some (.int .i64 0),some [0],false,false,some .i64,true⟩),
 (4,⟨1,1,false,none,none,[],none,some (.bool false),some [1],false,true,none,true⟩),
 (5,⟨1,1,false,none,none,[],none,some (.int .u8 0),some [0],false,false,some .u8,true⟩),
 (9,⟨1,16,false,none,none,[],none,some (.str ⟨#[]⟩),some [2],true,false,none,true⟩),
 YI 22 29,
 YI 23 27,
 WN 25 3 32 [some (0,3),some (1,3),some (2,9)] [(0,1),(1,1),(2,1)] [Gi,Gi,ty2] (some [0,0,2]),
 WN 27 8 88 [some (0,3),some (1,23),some (2,3),some (3,3),some (4,3),some (5,25)] [(0,1),(1,1),(2,1),(3,1),(4,1),(5,3)] [Gi,ty1,Gi,Gi,Gi,Gi,Gi,ty2] none,
 WN 29 14 152 [some (0,3),some (1,22),some (2,3),some (3,3),some (4,3),some (5,3),some (6,27)] [(0,1),(1,1),(2,1),(3,1),(4,1),(5,1),(6,8)] [Gi,ty1,Gi,Gi,Gi,Gi,Gi,ty1,Gi,Gi,Gi,Gi,Gi,ty2] none,
 YI 30 61,
 YI 36 46,
 (37,⟨1,8,false,none,none,[],none,some (.int .i64 0),some [0],false,false,some .i64,true⟩),
 YI 40 51,
 WN 44 3 24 [some (0,3),some (1,3),some (2,3)] [(0,1),(1,1),(2,1)] [Gi,Gi,Gi] (some [0,0,0]),
 WN 46 5 56 [some (0,44),some (3,3),some (4,36)] [(0,3),(3,1),(4,1)] [Gi,Gi,Gi,Gi,ty1] none,
 YI 49 100,
 WN 51 1 24 [some (0,49)] [(0,1)] [ty1] none,
 YI 59 25,
 WN 61 5 56 [some (0,3),some (1,3),some (2,3),some (3,3),some (4,59)] [(0,1),(1,1),(2,1),(3,1),(4,1)] [Gi,Gi,Gi,Gi,ty1] none,
 (78,⟨1,8,false,none,none,[],none,some (.nilp),none,false,false,none,true⟩),
 WN 80 2 32 [some (0,30),some (1,3)] [(0,1),(1,1)] [ty1,Gi] none,
 YI 84 114,
 WN 86 6 80 [some (0,46),some (5,84)] [(0,5),(5,1)] [Gi,Gi,Gi,Gi,ty1,ty1] none,
 YI 89 44,
 WN 100 4 32 [some (0,3),some (1,44)] [(0,1),(1,3)] [Gi,Gi,Gi,Gi] (some [0,0,0,0]),
 WN 114 2 16 [some (0,3),some (1,3)] [(0,1),(1,1)] [Gi,Gi] (some [0,0]),
 (116,⟨1,8,false,none,none,[],none,some (.nilmap),none,false,false,none,true⟩),
 WN 118 3 40 [some (0,80),some (2,116)] [(0,2),(2,1)] [ty1,Gi,.nilmap] none,
 WN 120 6 64 [some (0,46),some (5,4)] [(0,5),(5,1)] [Gi,Gi,Gi,Gi,ty1,.bool false] none,
 (124,⟨1,8,false,none,none,[],none,some (.nilmap),none,false,false,none,true⟩),
 WN 126 2 16 [some (0,3),some (1,3)] [(0,1),(1,1)] [Gi,Gi] (some [0,0]),
 (128,⟨1,8,false,none,none,[],none,some (.nilf),none,false,false,none,true⟩),
 (132,⟨1,8,false,none,none,[],none,some (.int .u64 0),some [0],false,false,some .u64,true⟩),
 (133,⟨1,8,false,none,none,[],none,some (.nilp),none,false,false,none,true⟩),
 WN 135 2 32 [some (0,30),some (1,4)] [(0,1),(1,1)] [ty1,.bool false] none,
 YI 136 139,
 YI 138 141,
 YI 139 141,
 WN 141 2 16 [some (0,3),some (1,3)] [(0,1),(1,1)] [Gi,Gi] (some [0,0]),
 YI 153 3,
 WN 160 4 32 [some (0,3),some (1,3),some (2,3),some (3,3)] [(0,1),(1,1),(2,1),(3,1)] [Gi,Gi,Gi,Gi] (some [0,0,0,0]),
 WN 166 6 24 [some (0,3),some (1,3),some (2,4),some (3,4),some (4,4),some (5,4)] [(0,1),(1,1),(2,1),(3,1),(4,1),(5,1)] [Gi,Gi,.bool false,.bool false,.bool false,.bool false] (some [0,0,1,1,1,1]),
 (167,⟨66,264,true,none,some (11,166),[],none,none,none,false,false,none,true⟩),
 (170,⟨1,8,false,none,none,[],none,some (.int .i64 0),some [0],false,false,some .i64,true⟩),
 (177,⟨1,4,false,none,none,[],none,some (.int .u32 0),some [0],false,false,some .u32,true⟩),
 (179,⟨1,8,false,none,none,[],none,some (.int .u64 0),some [0],false,false,some .u64,true⟩),
 (180,⟨1,8,false,none,none,[],none,some (.nilmap),none,false,false,none,true⟩),
 (182,⟨1,8,false,none,none,[],none,some (.nilf),none,false,false,none,true⟩),
 (183,⟨8,64,true,none,some (8,182),[],none,some (.agg [.nilf,.nilf,.nilf,.nilf,.nilf,.nilf,.nilf,.nilf]),none,false,false,none,true⟩),
 YI 190 30,
 WN 192 1 24 [some (0,190)] [(0,1)] [ty1] none,
 (213,⟨1,8,false,none,none,[],none,some (.int .u64 0),some [0],false,false,some .u64,true⟩),
 YI 220 5,
 YI 227 84,
 YI 233 36,
 YI 234 4,
 (240,⟨1,8,false,none,none,[],none,some (.nilf),none,false,false,none,true⟩),
 (244,⟨1,8,false,none,none,[],none,some (.nilf),none,false,false,none,true⟩),
 YI 245 136,
 (252,⟨1,8,false,none,none,[],none,some (.nilmap),none,false,false,none,true⟩),
 WN 255 8 96 [some (0,192),some (1,3),some (2,61),some (7,252)] [(0,1),(1,1),(2,5),(7,1)] [ty1,Gi,Gi,Gi,Gi,Gi,ty1,.nilmap] none,
 (277,⟨1,8,false,none,none,[],none,some (.nilf),none,false,false,none,true⟩),
 (291,⟨24,24,true,none,some (24,5),[],none,some (.agg [.int .u8 0,.int .u8 0,.int .u8 0,.int .u8 0,.int .u8 0,.int .u8 0,.int .u8 0,.int .u8 0,.int .u8 0,.int .u8 0,.int .u8 0,.int .u8 0,.int .u8 0,.int .u8 0,.int .u8 0,.int .u8 0,.int .u8 0,.int .u8 0,.int .u8 0,.int .u8 0,.int .u8 0,.int .u8 0,.int .u8 0,.int .u8 0]),none,false,false,none,true⟩),
 (303,⟨20,160,true,none,some (20,179),[],none,some (.agg [.int .u64 0,.int .u64 0,.int .u64 0,.int .u64 0,.int .u64 0,.int .u64 0,.int .u64 0,.int .u64 0,.int .u64 0,.int .u64 0,.int .u64 0,.int .u64 0,.int .u64 0,.int .u64 0,.int .u64 0,.int .u64 0,.int .u64 0,.int .u64 0,.int .u64 0,.int .u64 0]),none,false,false,none,true⟩),
 (304,⟨65,65,true,none,some (65,5),[],none,none,none,false,false,none,true⟩),
 WN 318 5 48 [some (0,3),some (1,3),some (2,25)] [(0,1),(1,1),(2,3)] [Gi,Gi,Gi,Gi,ty2] (some [0,0,0,0,2]),
 (328,⟨32,32,true,none,some (32,5),[],none,some (.agg [.int .u8 0,.int .u8 0,.int .u8 0,.int .u8 0,.int .u8 0,.int .u8 0,.int .u8 0,.int .u8 0,.int .u8 0,.int .u8 0,.int .u8 0,.int .u8 0,.int .u8 0,.int .u8 0,.int .u8 0,.int .u8 0,.int .u8 0,.int .u8 0,.int .u8 0,.int .u8 0,.int .u8 0,.int .u8 0,.int .u8 0,.int .u8 0,.int .u8 0,.int .u8 0,.int .u8 0,.int .u8 0,.int .u8 0,.int .u8 0,.int .u8 0,.int .u8 0]),none,false,false,none,true⟩),
 (329,⟨64,64,true,none,some (64,5),[],none,none,none,false,false,none,true⟩),
 (334,⟨1,8,false,none,none,[],none,some (.nilf),none,false,false,none,true⟩),
 (335,⟨6,48,true,none,some (6,334),[],none,some (.agg [.nilf,.nilf,.nilf,.nilf,.nilf,.nilf]),none,false,false,none,true⟩)]
def okT:Nk Tryz.prog TT:=⟨tk,tk,tk,tk,tk,tk,tk,tk,tk,tk,tk,tk,tk,tk,tk,tk,tk,tk,tk,tk,tk,tk,tk,tk,tk,tk,tk,tk,tk,tk,tk,tk,tk,tk,tk,tk,tk,tk,tk,tk,tk,tk,tk,tk,tk,tk,tk,tk,tk,tk,tk,tk,tk,tk,tk,tk,tk,tk,tk,tk,tk,tk,tk,tk,tk,tk,tk,tk,tk,tk,tk,trivial⟩
end Go.Ab
namespace Go.Ab
structure B5 where
 Kind:Int
 Num:Int
 Text:ByteArray
structure B6 where
 Op:Int
 dD:List B6
 Var:Int
 Field:Int
 Kind:Int
 Value:B5
structure A0 where
 Op:Int
 dD:List A0
 Typ:Int
 Var:Int
 dI:Int
 Span:Int
 dF:B6
structure A9 where
 Source:Int
 Seq:Int
 Typ:Int
 Time:Int
 Values:List B5
structure Bb where
 Time:Int
 Source:Int
 Seq:Int
structure A5 where
 Ref:Bb
 Choice:Int
 Kids:List A5
structure B0 where
 Var:Int
 Ref:Bb
structure D6 where
 dE:List B0
structure F2 where
 dH:List A9
 count:Int
structure A7 where
 v:Int
 at_:Int
structure A8 where
 d:A5
 s:List A7
structure L9 where
 prover:F2
structure B2 where
 d:A5
 ok:Bool
structure J5 where
 source:Int
 seq:Int
structure C1 where
 dH:List A9
 full:Bool
structure A3 where
 dJ:Int
 at_:Int
structure D1 where
 node:Int
 first:Int
 last:Int
 outer:Int
structure U0 where
 dK:Int
 most:Int
 dG:Bool
 cond:Bool
 scope:Bool
 span:Bool
structure JJ where
 dL:List (List A9)
structure X3 where
 env:JJ
 own:Int
 event:A9
 apply:Unit
structure G5 where
 Kind:Int
 Count:Int
 Value:B5
def O4:Up U0:=[⟨0,0,true,true,false,false⟩,⟨2,64,false,false,false,false⟩,⟨2,64,false,false,false,false⟩,⟨2,64,false,false,false,false⟩,⟨1,1,false,false,false,false⟩,⟨1,1,true,true,true,false⟩,⟨1,1,false,false,true,true⟩,⟨1,1,false,true,false,false⟩,⟨2,2,false,false,false,false⟩,⟨1,1,true,true,true,false⟩,⟨1,1,false,false,true,true⟩]
end Go.Ab
namespace Go.Ab
variable [Ar]
def Zz:Up Int:=[5,6,7,8,10,11,12]
def Zy:Up V:=[.func (.func 230) [] [.eref [.func (.func 229) [] []] 0],.func (.func 231) [] [.eref [.func (.func 229) [] []] 0],.func (.func 232) [] [],.func (.func 233) [] [],.func (.func 234) [] [],.func (.func 235) [] [],.func (.func 236) [] []]
class P4 where
 eBF4:B5->V
 eBF9:B6->V
 eBE7:A0->V
 eBE3:A9->V
 eBG6:Bb->V
 eBE5:A5->V
 eBE4:B0->V
 eBE8:D6->V
 eBH8:F2->V
 eBE2:A7->V
 eBH9:A8->V
 eBF7:B2->V
 eBG7:J5->V
 eBI0:C1->V
 eBE1:A3->V
 eBF6:D1->V
 eBH7:U0->V
 eBI1:JJ->V
 eBI2:X3->V
 eBI3:G5->V
 eBG4:List A9->V
 eBG3:List A5->V
 eBG0:List A7->V
 eBG5:List (List A3)->V
 eBF0:List A3->V
 eBF3:∀x,eBF4 x= .agg [.int .i64 x.Kind,.int .i64 x.Num,.str x.Text]
 eBH0:∀x,eBF9 x= .agg [.int .i64 x.Op,.sl (lst eBF9 x.dD) .ro,.int .i64 x.Var,.int .i64 x.Field,.int .i64 x.Kind,.int .i64 x.Value.Kind,.int .i64 x.Value.Num,.str x.Value.Text]
 eBF1:∀x,eBE7 x= .agg [.int .i64 x.Op,.sl (lst eBE7 x.dD) .ro,.int .i64 x.Typ,.int .i64 x.Var,.int .i64 x.dI,.int .i64 x.Span,.int .i64 x.dF.Op,.sl (lst eBF9 x.dF.dD) .ro,.int .i64 x.dF.Var,.int .i64 x.dF.Field,.int .i64 x.dF.Kind,.int .i64 x.dF.Value.Kind,.int .i64 x.dF.Value.Num,.str x.dF.Value.Text]
 eBF2:∀x,eBE3 x= .agg [.int .i64 x.Source,.int .i64 x.Seq,.int .i64 x.Typ,.int .i64 x.Time,.sl (lst eBF4 x.Values) .ro]
 eBH2:∀x,eBG6 x= .agg [.int .i64 x.Time,.int .i64 x.Source,.int .i64 x.Seq]
 eBE6:∀x,eBE5 x= .agg [.int .i64 x.Ref.Time,.int .i64 x.Ref.Source,.int .i64 x.Ref.Seq,.int .i64 x.Choice,.sl (lst eBE5 x.Kids) .ro]
 eBE9:∀x,eBE4 x= .agg [.int .i64 x.Var,.int .i64 x.Ref.Time,.int .i64 x.Ref.Source,.int .i64 x.Ref.Seq]
 eBF8:∀x,eBE8 x= .agg [.sl (lst eBE4 x.dE) .ro]
 eBI5:∀x,eBH8 x= .agg [.sl (lst eBE3 x.dH) .ro,.int .i64 x.count]
 eBF5:∀x,eBE2 x= .agg [.int .i64 x.v,.int .i64 x.at_]
 eBI6:∀x,eBH9 x= .agg [.int .i64 x.d.Ref.Time,.int .i64 x.d.Ref.Source,.int .i64 x.d.Ref.Seq,.int .i64 x.d.Choice,.sl (lst eBE5 x.d.Kids) .ro,.sl (lst eBE2 x.s) .ro]
 eBH5:∀x,eBF7 x= .agg [.int .i64 x.d.Ref.Time,.int .i64 x.d.Ref.Source,.int .i64 x.d.Ref.Seq,.int .i64 x.d.Choice,.sl (lst eBE5 x.d.Kids) .ro,.bool x.ok]
 eBH1:∀x,eBG7 x= .agg [.int .i64 x.source,.int .i64 x.seq]
 eBI7:∀x,eBI0 x= .agg [.sl (lst eBE3 x.dH) .ro,.bool x.full]
 eBG1:∀x,eBE1 x= .agg [.int .i64 x.dJ,.int .i64 x.at_]
 eBH6:∀x,eBF6 x= .agg [.int .i64 x.node,.int .i64 x.first,.int .i64 x.last,.int .i64 x.outer]
 eBI4:∀x,eBH7 x= .agg [.int .i64 x.dK,.int .i64 x.most,.bool x.dG,.bool x.cond,.bool x.scope,.bool x.span]
 eBI8:∀x,eBI1 x= .agg [.sl (lst eBG4 x.dL) .ro]
 eBI9:∀x,eBI2 x= .agg [.sl (lst eBG4 x.env.dL) .ro,.int .i64 x.own,.int .i64 x.event.Source,.int .i64 x.event.Seq,.int .i64 x.event.Typ,.int .i64 x.event.Time,.sl (lst eBF4 x.event.Values) .ro,.fmap Zz Zy]
 eBJ0:∀x,eBI3 x= .agg [.int .i64 x.Kind,.int .i64 x.Count,.int .i64 x.Value.Kind,.int .i64 x.Value.Num,.str x.Value.Text]
 eBH3:∀x,eBG4 x= .sl (lst eBE3 x) .ro
 eBG8:∀x,eBG3 x= .sl (lst eBE5 x) .ro
 eBG9:∀x,eBG0 x= .sl (lst eBE2 x) .ro
 eBH4:∀x,eBG5 x= .sl (lst eBF0 x) .ro
 eBG2:∀x,eBF0 x= .sl (lst eBE1 x) .ro
def Xp [P4](x:B5):(P4.eBF4 x).cells.length=3:=by rw[P4.eBF3];rfl
def Lk [P4](x:A0):(P4.eBE7 x).cells.length=14:=by rw[P4.eBF1];rfl
def Se [P4](x:A9):(P4.eBE3 x).cells.length=5:=by rw[P4.eBF2];rfl
def Bf6 [P4](x:Bb):(P4.eBG6 x).cells.length=3:=by rw[P4.eBH2];rfl
def Z6 [P4](x:A5):(P4.eBE5 x).cells.length=5:=by rw[P4.eBE6];rfl
def Y8 [P4](x:B0):(P4.eBE4 x).cells.length=4:=by rw[P4.eBE9];rfl
def HY [P4](x:D6):(P4.eBE8 x).cells.length=1:=by rw[P4.eBF8];rfl
def U7 [P4](x:A7):(P4.eBE2 x).cells.length=2:=by rw[P4.eBF5];rfl
def Dk [P4](x:A3):(P4.eBE1 x).cells.length=2:=by rw[P4.eBG1];rfl
def Uc [P4](x:Up A5):(P4.eBG3 x).cells.length=1:=by rw[P4.eBG8];rfl
def HQ [P4](x:Up (Up A3)):(P4.eBG5 x).cells.length=1:=by rw[P4.eBH4];rfl
def Oe [P4](x:Up A3):(P4.eBF0 x).cells.length=1:=by rw[P4.eBG2];rfl
variable [P4]
abbrev D5 (x:A0):Up V:=[.int .i64 x.Op,.sl (lst P4.eBE7 x.dD) .ro,.int .i64 x.Typ,.int .i64 x.Var,.int .i64 x.dI,.int .i64 x.Span,.int .i64 x.dF.Op,.sl (lst P4.eBF9 x.dF.dD) .ro,.int .i64 x.dF.Var,.int .i64 x.dF.Field,.int .i64 x.dF.Kind,.int .i64 x.dF.Value.Kind,.int .i64 x.dF.Value.Num,.str x.dF.Value.Text]
abbrev D0 (x:A0):V:=.agg (D5 x)
abbrev Il (x:X3):Up V:=[.sl (lst P4.eBG4 x.env.dL) .ro,.int .i64 x.own,.int .i64 x.event.Source,.int .i64 x.event.Seq,.int .i64 x.event.Typ,.int .i64 x.event.Time,.sl (lst P4.eBF4 x.event.Values) .ro,.fmap Zz Zy]
abbrev FH (x:X3):V:=.agg (Il x)
abbrev Am (x:A8):Up V:=[.int .i64 x.d.Ref.Time,.int .i64 x.d.Ref.Source,.int .i64 x.d.Ref.Seq,.int .i64 x.d.Choice,.sl (lst P4.eBE5 x.d.Kids) .ro,.sl (lst P4.eBE2 x.s) .ro]
abbrev C9 (x:A8):V:=.agg (Am x)
abbrev GK (x:B6):Up V:=[.int .i64 x.Op,.sl (lst P4.eBF9 x.dD) .ro,.int .i64 x.Var,.int .i64 x.Field,.int .i64 x.Kind,.int .i64 x.Value.Kind,.int .i64 x.Value.Num,.str x.Value.Text]
abbrev Cr (x:B6):V:=.agg (GK x)
abbrev Y5 (x:B2):Up V:=[.int .i64 x.d.Ref.Time,.int .i64 x.d.Ref.Source,.int .i64 x.d.Ref.Seq,.int .i64 x.d.Choice,.sl (lst P4.eBE5 x.d.Kids) .ro,.bool x.ok]
abbrev L4 (x:B2):V:=.agg (Y5 x)
abbrev Bq (x:A5):Up V:=[.int .i64 x.Ref.Time,.int .i64 x.Ref.Source,.int .i64 x.Ref.Seq,.int .i64 x.Choice,.sl (lst P4.eBE5 x.Kids) .ro]
abbrev G8 (x:A5):V:=.agg (Bq x)
abbrev Uy (x:A9):Up V:=[.int .i64 x.Source,.int .i64 x.Seq,.int .i64 x.Typ,.int .i64 x.Time,.sl (lst P4.eBF4 x.Values) .ro]
abbrev DW (x:A9):V:=.agg (Uy x)
abbrev Md (x:G5):Up V:=[.int .i64 x.Kind,.int .i64 x.Count,.int .i64 x.Value.Kind,.int .i64 x.Value.Num,.str x.Value.Text]
abbrev U3 (x:G5):V:=.agg (Md x)
abbrev Jo (x:U0):Up V:=[.int .i64 x.dK,.int .i64 x.most,.bool x.dG,.bool x.cond,.bool x.scope,.bool x.span]
abbrev Nc (x:U0):V:=.agg (Jo x)
abbrev AP4 (x:B0):Up V:=[.int .i64 x.Var,.int .i64 x.Ref.Time,.int .i64 x.Ref.Source,.int .i64 x.Ref.Seq]
abbrev V8 (x:B0):V:=.agg (AP4 x)
abbrev E0 (x:F2):Up V:=[.sl (lst P4.eBE3 x.dH) .ro,.int .i64 x.count]
abbrev Bc1 (x:Bb):Up V:=[.int .i64 x.Time,.int .i64 x.Source,.int .i64 x.Seq]
abbrev Gg (x:Bb):V:=.agg (Bc1 x)
abbrev C4 (x:C1):Up V:=[.sl (lst P4.eBE3 x.dH) .ro,.bool x.full]
abbrev AV (x:B5):Up V:=[.int .i64 x.Kind,.int .i64 x.Num,.str x.Text]
abbrev J2 (x:B5):V:=.agg (AV x)
abbrev MW (x:D6):Up V:=[.sl (lst P4.eBE4 x.dE) .ro]
abbrev BX (x:D6):V:=.agg (MW x)
abbrev LM (x:A3):Up V:=[.int .i64 x.dJ,.int .i64 x.at_]
abbrev Y7 (x:A3):V:=.agg (LM x)
abbrev BD0 (x:JJ):Up V:=[.sl (lst P4.eBG4 x.dL) .ro]
abbrev Tu (x:JJ):V:=.agg (BD0 x)
abbrev RM (x:J5):Up V:=[.int .i64 x.source,.int .i64 x.seq]
abbrev QW (x:J5):V:=.agg (RM x)
abbrev CU (x:A7):Up V:=[.int .i64 x.v,.int .i64 x.at_]
abbrev V4 (x:A7):V:=.agg (CU x)
end Go.Ab
