/- . -/
import Derived.Test.YtaoapcidgbaagaaGreatDoorM05
import Derived.Laws.Externs
import Derived.Sort.Grow
import Derived.Shelf.Strconv.Itoa1
import Derived.Shelf.Sort.Plain
import Derived.Shelf.Slices.In.SortNone
import Derived.Shelf.Slices.CompactI
import Derived.KernelRfl
import Derived.Shelf.SlSortCmp.NoneTotal
set_option linter.all false
open Go.Ab.Ar (len_eq lst lst_eq ofs ofs_eq)
namespace Go.Ab
open Go.RowKit
variable [O7][Ar]
variable{A L:Up En}{F H0:A5}{N:Nat}{S γ:Type}{c:Code}{cs vs ys:Up V}{f:FuncId}{fn:Func}{k:V->A5->Prop}{rs:Up ResultVar}{x y:Unit->Prop}{Φ:A5->A5->Prop}
def Jc (l:Fl):Fl->Prop
 |[]=>True
 |(k,s)::r=>DI (EJ l k) s.V/\(∀j w x,s≠ .g j w x)/\Jc l r
def Jc.wk {l:Fl}:∀{r:Fl},Jc l r->∀t,Wk (EJ l t) (EJ r t)
 |[],_,t=>Wk.bad _
 | (k,s)::r,h,t=>by
  simp only[EJ]
  cases W:Nat.beq t k with
  |true=>
   have:=DW W;subst this
   cases s with
   |v x=>exact h.1.wk
   |b c=>exact h.1.wk
   |g j w x=>exact absurd rfl (h.2.1 j w x)
  |false=>exact Jc.wk h.2.2 t
def Jc.v {l r:Fl}{k:Nat}{x:V}(h:DI (EJ l k) x)(Q:Jc l r):Jc l ((k,.v x)::r):=⟨h,λ_ _ _ h=>(by cases h),Q⟩
def Jc.b {l r:Fl}{k:Nat}{c:Bool}(h:EJ l k= .bool c)(Q:Jc l r):Jc l ((k,.b c)::r):=⟨h▸ .refl _,λ_ _ _ h=>(by cases h),Q⟩
def Jc.e{l r:Fl}{k:Nat}{x:V}(h:EJ l k=x)(Q:Jc l r):Jc l ((k,.v x)::r):=⟨h▸ .refl _,λ_ _ _ h=>(by cases h),Q⟩
def Jc.z{l:Fl}:Jc l []:=trivial
def Wk.trans{x y z:V}(h:Wk x y)(k:Wk y z):Wk x z:=λg w v j=>k g w v (h g w v j)
theorem Ib.le{fr:Fr}{l a:Fl}{df:Up Nat}(h:Ib fr ⟨l,df⟩)(k:Jc l a):Ib fr ⟨a,df⟩:=⟨λt=>(h.s t).trans (k.wk t),h.df⟩
def E4{α:Type}{f:α->V}:([]:Up V)=lst f []:=by rw[lst_eq];rfl
def G1{α:Type}{f:α->V}{v:V}{x:α}{l:Up α}(h:v=f x)(k:vs=lst f l):v::vs=lst f (x::l):=by
 rw[h,k,lst_eq,lst_eq];rfl
theorem QH{α:Type}{f:α->V}(l m:Up α):lst f l++lst f m=lst f (l++m):=by simp[lst_eq]
def N4{α:Type}{f:α->V}(l:Up α):(lst f l).length=l.length:=by simp[lst_eq]
def PX{α:Type}{f:α->V}{sz:Nat}(h:∀x,(f x).cells.length=sz)(l:Up α):(lst f l).all (λx=>x.cells.length==sz)=true:=by
 rw[lst_eq];simp[h]
def M7.lst0{α:Type}{f:α->V}:M7 [] (lst f []):=by rw[<-E4];exact .nil
def M7.lstc{α:Type}{f:α->V}{v:V}{x:α}{l:Up α}(h:DI v (f x))(k:M7 vs (lst f l)):M7 (v::vs) (lst f (x::l)):=by
 rw[<-G1 rfl rfl];exact .cons h k
def DI.eq{v x y:V}(h:y=x)(k:DI v x):DI v y:=h▸k
def DI.lit{xs:Up V}(t:G5)(h:xs=ys):DI (.sl xs t) (.sl ys .ro):=h▸ .ro _ _
section
variable {P:Program}{nt:Nat}{rd:Option Nat}{T:JV}{E:Hj}
variable (hE:E=J1 P nt rd)
include hE
theorem E3{R:Type}{c:Bool}{a b:OS R}{r:R}(h:(if c=true then a else b)=some r)(O:c=true->a=some r->x ())(Z:c=false->b=some r->y ()):E.br c x y:=by
 grind[J1]
theorem SU{c:Bool}(O:c=true->x ())(Z:c=false->y ()):E.br c x y:=by simp_all[J1]
theorem FQ{p:Prop}{k:Unit->Prop}(h:p)(a:k ()):E.need p k:=by simp_all[J1]
theorem QF{R:Type}{b:Bool}{k:Unit->Prop}{F:Unit->OS R}{r:R}(h:(IS b).bind F=some r)(a:F ()=some r->k ()):E.needB b k:=by
 grind[J1,IS]
theorem AV9{b:Bool}{k:Unit->Prop}(W:b=true)(a:k ()):E.needB b k:=by simp_all[J1]
theorem AC3{e:BinOp}{a b:Int}(h:JG e a b=true):Ar.cmp e a b=true:=by rw[Ar.cmp_eq];exact h
theorem L6{α:Type}{f:α->V}{l:Up α}{k:Int->Prop}(h:k (Ar.len l)):E.ln (lst f l) k:=by
 subst hE
 show k _
 rw[N4,<-len_eq];exact h
theorem Ch3{xs:Up V}{k:Int->Prop}{n:Int}(a:(xs.length:Int)=n)(h:k n):E.ln xs k:=by
 simp_all[J1]
theorem G0{α R:Type}{f g:α->V}(v:∀x,f x=g x){l:Up α}{i:Int}{k:V->Prop}{F:α->OS R}{r:R}(h:(C4 l i).bind F=some r)(y:∀x,F x=some r->k (g x)):E.idx (lst f l) i k:=by
 subst hE;have⟨x,O,Z⟩:=bind_some h
 unfold C4 at O
 split at O
 ·rename_i a
  have e:i.toNat<l.length:=by
   grind
  refine⟨⟨a,by rw[N4];omega⟩,?_⟩;rw[lst_eq,U2,Y1,O]
  simp_all
 cases O
theorem Aj4{α R:Type}{f:α->V}{sz:Nat}(v:∀x,(f x).cells.length=sz){l:Up α}{tl:G5}{lo U a:OS Int}{k:V->Prop}{F:Up α->OS R}{r:R}(h:(Dc l lo U a).bind F=some r)
 (i:∀x t,F x=some r->k (.sl (lst f x) t)):E.slice sz (lst f l) tl lo U a k:=by
 subst hE;have⟨x,O,Z⟩:=bind_some h
 unfold Dc at O
 split at O
 ·rename_i e;have⟨y,N,c3,c4,c5⟩:=e;cases O;refine⟨?_,?_⟩
  ·rw[N4]
   simp_all[PX]
  rw[N4,lst_eq,<-LJ,<-LI];have:=i _ (ME (lo.getD 0).toNat (U.getD l.length).toNat l.length a tl) Z
  rwa[lst_eq]at this
 cases O
theorem C1{R:Type}{m:OS S}{F:S->OS R}{r:R}{args args':Up V}{g:S->V}{H:A5}(h:m.bind F=some r)(a:∀x,m=some x->B1 P f args' (g x))(B:M7 args args')
 (e:∀x,F x=some r->k (g x) H):E.call (.func (.func f) [] []) args H k:=by
 subst hE;have⟨x,O,Z⟩:=bind_some h
 exact U9.at (B1.value (F:=[]) (C:=[]) (by simpa using(a x O).args B)) (e x Z)
theorem U8{R:Type}{m:OS S}{F:S->OS R}{r:R}{args args':Up V}{g:S->V}{H:A5}{k:V->Prop}(h:m.bind F=some r)(a:∀x,m=some x->B1 P f args' (g x))(B:M7 args args')
 (e:∀x,F x=some r->k (g x)):E.pcall H (.func (.func f) [] []) args k:=by
 subst hE;have⟨x,O,Z⟩:=bind_some h;exact⟨g x,(B1.value (F:=[]) (C:=[]) (by simpa using(a x O).args B)).toH H,e x Z⟩
theorem X3{R:Type}{m:OS S}{F:S->OS R}{r:R}{a:V}{args args':Up V}{g:S->V}{H:A5}(h:m.bind F=some r)(e:∀x,m=some x->U9 P a args' (g x))(B:M7 args args')
 (i:∀x,F x=some r->k (g x) H):E.call a args H k:=by
 subst hE;have⟨x,O,Z⟩:=bind_some h
 exact U9.at ((e x O).args B) (i x Z)
theorem Bv7{R:Type}{m:OS S}{F:S->OS R}{r:R}{a:V}{args args':Up V}{g:S->V}{H:A5}{k:V->Prop}(h:m.bind F=some r)(e:∀x,m=some x->U9 P a args' (g x))(B:M7 args args')
 (i:∀x,F x=some r->k (g x)):E.pcall H a args k:=by
 subst hE;have⟨x,O,Z⟩:=bind_some h;exact⟨g x,((e x O).args B).toH H,i x Z⟩
theorem E0{H:A5}(a:C3 Φ H0 L H)(i:Nat){id:Nat}{k:Up V->Prop}(U:L[i]? =some (.blk id (.cells cs)))(e:k cs):E.load H id k:=by
 subst hE;exact⟨cs,a.get i U,e⟩
theorem D6{H:A5}(a:C3 Φ H0 L H)(i:Nat){id off sz:Nat}{k:A5->Prop}(U:L[i]? =some (.blk id (.cells cs)))(W:Nat.ble (off+sz) cs.length=true)
 (e:∀H',C3 Φ H0 (L.set i (.blk id (.cells (Z7 cs off vs)))) H'->k H'):E.store H id off sz vs k:=by
 subst hE;exact⟨cs,vs,.refl _,a.get i U,W,e _ (a.set i U)⟩
theorem Aw1{H:A5}(a:C3 Φ H0 L H)(i:Nat){id off sz:Nat}{k:A5->Prop}(U:L[i]? =some (.blk id (.cells cs)))(W:Nat.ble (off+sz) cs.length=true)
 (e:∀H',C3 Φ H0 (L.set i (.blk id (.cells (Z7 cs off vs)))) H'->k H'):E.storeP H id off sz vs k:=by
 subst hE;exact⟨cs,a.get i U,W,e _ (a.set i U)⟩
theorem G3{H:A5}(e:C3 Φ H0 L H){k:Nat->A5->Prop}(h:∀id H',C3 Φ H0 (.blk id (.cells cs)::L) H'->k id H'):E.alloc H cs k:=by
 subst hE;exact λid a=>h id _ (e.push a rfl)
theorem BT8{H:A5}(a:C3 Φ H0 L H)(i:Nat){id:Nat}{k:Up V->A5->Prop}(U:L[i]? =some (.blk id (.cells cs)))(e:∀H',C3 Φ H0 (L.eraseIdx i) H'->k cs H'):E.frzL H id k:=by
 subst hE;exact⟨cs,cs,a.get i U,.refl _,e _ (a.del i U)⟩
theorem BY4{H:A5}(a:C3 Φ H0 L H)(i:Nat){id:Nat}{ds:Up V}{k:Up V->A5->Prop}(U:L[i]? =some (.blk id (.cells cs)))(B:M7 cs ds)(e:∀H',C3 Φ H0 (L.eraseIdx i) H'->k ds H'):E.frzL H id k:=by
 subst hE;exact⟨cs,ds,a.get i U,B,e _ (a.del i U)⟩
theorem XK{H:A5}(a:C3 Φ H0 L H)(i:Nat){id:Nat}{k:Up V->A5->Prop}(U:L[i]? =some (.blk id (.cells cs)))
 (e:∀H',H'=upd H id none->C3 Φ H0 (L.eraseIdx i) H'->k cs H'):E.frz H id k:=by
 subst hE;exact⟨cs,a.get i U,e _ rfl (a.del i U)⟩
theorem XM{H J:A5}(a:C3 Φ H0 L H)(i:Nat){id:Nat}{cs':Up V}{k:A5->Prop}(U:L[i]? =some (.blk id (.cells cs)))(h:J=upd H id none)
 (v:∀H',C3 Φ H0 (L.set i (.blk id (.cells cs'))) H'->k H'):E.give J id cs' k:=by
 subst hE;subst h;refine v _ ?_
 have e:upd (upd H id none) id (some (.cells cs'))=upd H id (some (.cells cs')):=by
  funext x;simp_all[upd]
 rw[e];exact a.set i U
theorem Bw1{α R:Type}{g:α->V}{off sz n:Nat}{l:Up α}{i:Int}{k:V->Prop}{F:α->OS R}{r:R}(v:cs=l.flatMap λx=>(g x).cells)(e:∀x,(g x).cells.length=sz)(u:l.length=n)(N:off=0)
 (h:(C4 l i).bind F=some r)(s:∀x,F x=some r->k (.eref (g x).cells 0)):E.elem cs off sz n i k:=by
 subst hE;subst N;have⟨x,O,Z⟩:=bind_some h
 unfold C4 at O
 split at O
 ·rename_i j
  have key:∀(l:Up α) (m:Nat) (x:α),l[m]? =some x->(((l.flatMap λx=>(g x).cells).drop (m*sz)).take sz)=(g x).cells/\m<l.length/\(l.flatMap λx=>(g x).cells).length=l.length*sz:=by
   intro l
   induction l with
   |nil=>simp_all
   | cons y l ih=>
    intro m x h
    have a:∀l:Up α,(l.flatMap λx=>(g x).cells).length=l.length*sz:=by
     intro l
     induction l with
     |nil=>simp
     |cons z l ih=>grind
    refine⟨?_,?_,a _⟩
    ·cases m with
     |zero=>
      simp_all
     |succ m=>
      have:=(ih m x Pw).1;rw[DT,show(m+1)*sz=(g y).cells.length+m*sz by rw[e,F9,Z2];omega,List.drop_append,];rw[DU AY,K3,show(g y).cells.length+m*sz-(g y).cells.length=m*sz by omega];exact this
    grind
  grind[J1]
 cases O
theorem Bw5{α R:Type}{f:α->V}{sz by_:Nat}(a:∀x,(f x).cells.length=sz)(e:by_<=131072){xs:Up V}{l m:Up α}{k:V->Prop}{F:Up α->OS R}{r:R}(M:M7 xs (lst f l))(v:M7 ys (lst f m))(h:(K2 l m).bind F=some r)
 (y:∀x,F x=some r->k (.sl (lst f x) .ro)):E.appq sz by_ xs ys k:=by
 subst hE;have⟨x,O,Z⟩:=bind_some h
 unfold K2 at O
 split at O
 ·rename_i i;cases O;refine⟨_,_,M,v,PX a l,PX a m,?_,?_⟩
  ·rw[N4,N4];exact U0 (Z3 i e) Sz
  grind[QH]
 cases O
theorem Br{α R:Type}{f:α->V}{sz by_:Nat}(v:∀x,(f x).cells.length=sz)(N:by_<=131072){H:A5}(y:C3 Φ H0 L H)(i:Nat){tl:G5}(U:L[i]? =some (.tl tl))(u:T3 tl)
 {xs:Up V}{l m:Up α}{F:Up α->OS R}{r:R}(M:M7 xs (lst f l))(C:M7 ys (lst f m))(h:(K2 l m).bind F=some r)
 (s:∀x a H',C3 Φ H0 (L.set i (.tl a)) H'->T3 a->F x=some r->k (.sl (lst f x) a) H'):E.appn sz by_ H tl xs ys k:=by
 subst hE;have⟨x,O,Z⟩:=bind_some h
 unfold K2 at O
 split at O
 ·rename_i z;cases O;refine⟨_,_,M,C,y.appOk i U u,PX v l,PX v m,?_,λA=>?_,λt G B=>?_⟩
  ·rw[N4,N4];exact U0 (Z3 z N) Sz
  ·have j:m=[]:=by
    have:=J8 List.length A
    rw[N4]at this
    simp_all
   subst j
   have:=s _ tl H (by
    have e:L.set i (.tl tl)=L:=by
     apply CX
     grind
    rw[e];exact y) u Z
   rwa[F2]at this
  rw[QH];exact s _ _ _ (y.tok i U B) trivial Z
 cases O
end
section
variable {P:Program}{nt:Nat}{rd:Option Nat}{T:JV}{E:Hj}
abbrev YV (P:If)(T:JV):Prop:=Oz P T/\P.follows .mixedOrders=true
def S8(x:Cf)(hE:E=J1 P nt rd)(y:YV P T){st:St}{H:A5}{K:Exit->St->A5->Prop}(X:Exit->Fl->A5->Prop)(hd:M4 x c=true)
 (h:Bs5 E T nt x c st H λe v H'=>∃l,X e l H'/\Jc v.l l/\v.df=st.df)(i:∀e l H',X e l H'->K e ⟨l,st.df⟩ H'):E.sim c st H K:=by
 subst hE;refine(AI5 y.1 y.2 c _ _ _ hd h).mono λe N s ⟨v,a,l,j,O,Z⟩=>?_;exact⟨⟨l,st.df⟩,⟨λt=>(a.s t).trans (O.wk t),a.df.trans Z⟩,i _ _ _ j⟩
def J2(C:Cf)(hE:E=J1 P nt rd)(J:YV P T){σ R:Type}{step:σ->OS (σ⊕R)}{st:St}{H:A5}{K:Exit->St->A5->Prop}(fm:σ->Fl)(Inv:σ->A5->Prop)(X:R->Exit->Fl->A5->Prop)(hd:M4 C c=true)
 (y:∀s H o,Inv s H->step s=some o->run E T nt C c ⟨fm s,st.df⟩ H λe i H'=>match e with
  | .normal=>∃u,o= .inl u/\Jc i.l (fm u)/\i.df=st.df/\Inv u H'
  |e=>∃x l,o= .inr x/\X x e l H'/\Jc i.l l/\i.df=st.df)
 {s0:σ}{r:R}(h:loopN step N s0=some r)(Y:Jc st.l (fm s0))(W:Inv s0 H)(v:∀e l H',X r e l H'->K e ⟨l,st.df⟩ H'):E.sim (.loop c) st H K:=by
 subst hE;refine AB.loopN (λn j H'=>∃s,loopN step n s=some r/\Ib j ⟨fm s,st.df⟩/\Inv s H') N ⟨s0,h,⟨λt=>Y.wk t,rfl⟩,W⟩ λn j H' ⟨s,G,hle,U⟩=>?_
 cases n with
 |zero=>cases G
 | succ n=>
  simp only[loopN]at G
  cases B:step s with
  |none=>rw[B]at G;cases G
  | some o=>
   rw[B]at G
   refine AB.frLe hle ((Q6 J.1 J.2 c _ _ _ hd (y s H' o U B)).mono λe Q H2 ⟨i,a,M⟩=>?_)
   cases e with
   |normal=>
    have⟨u,O,Z,z,A⟩:=M;subst O;exact⟨n,Jj n,u,G,⟨λt=>(a.s t).trans (Z.wk t),a.df.trans z⟩,A⟩
   |_=>
    exact zag
def S0(C:Cf)(hE:E=J1 P nt rd)(J:YV P T){σ R:Type}{step:σ->OS (σ⊕R)}{st:St}{H:A5}{K:Exit->St->A5->Prop}(fm:σ->γ->Fl)(Inv:σ->γ->A5->Prop)(X:R->Exit->Fl->A5->Prop)(hd:M4 C c=true)
 (y:∀s g H o,Inv s g H->step s=some o->run E T nt C c ⟨fm s g,st.df⟩ H λe i H'=>match e with
  | .normal=>∃u g',o= .inl u/\Jc i.l (fm u g')/\i.df=st.df/\Inv u g' H'
  |e=>∃x l,o= .inr x/\X x e l H'/\Jc i.l l/\i.df=st.df)
 {s0:σ}(g0:γ){r:R}(h:loopN step N s0=some r)(Y:Jc st.l (fm s0 g0))(W:Inv s0 g0 H)(v:∀e l H',X r e l H'->K e ⟨l,st.df⟩ H'):E.sim (.loop c) st H K:=by
 subst hE;refine AB.loopN (λn j H'=>∃s g,loopN step n s=some r/\Ib j ⟨fm s g,st.df⟩/\Inv s g H') N ⟨s0,g0,h,⟨λt=>Y.wk t,rfl⟩,W⟩ λn j H' ⟨s,g,G,hle,U⟩=>?_
 cases n with
 |zero=>cases G
 | succ n=>
  simp only[loopN]at G
  cases B:step s with
  |none=>rw[B]at G;cases G
  | some o=>
   rw[B]at G
   refine AB.frLe hle ((Q6 J.1 J.2 c _ _ _ hd (y s g H' o U B)).mono λe Q H2 ⟨i,a,M⟩=>?_)
   cases e with
   |normal=>
    have⟨u,g',O,Z,z,A⟩:=M;subst O;exact⟨n,Jj n,u,g',G,⟨λt=>(a.s t).trans (Z.wk t),a.df.trans z⟩,A⟩
   |_=>
    exact zag
def Bnd{n:Nat}{args:Up V}{r:V}(e:Cf)(j:YV P T)(u:P.funcs[f]? =some fn)(W:fn.body=some c)(hd:M4 e c=true)
 (a:∀vals w,(callFunc f vals).run P w= .ok (.enter f vals) w)(i:fn.ntmps=n)(v:fn.results.toList=rs)(z:Nat.ble args.length n=true)
 (h:∀(E:Hj) (H:A5) (K:V->A5->Prop),E=J1 P n none->(∀x L H',C3 Eq H L H'->DI x r->K x H')->run E T n e c ⟨EA args 0,[]⟩ H (Tj E T rs K)):B1 P f args r:=λH=>by
 refine(Ai (K:=λx H'=>∃y N,DI x y/\JI N H'/\y=r/\N=H) e j.1 j.2 u W hd a i v z λE hE=>?_).le;exact h E H _ hE λx L H' s M=>⟨r,H,M,s.ext,rfl,rfl⟩
end
abbrev DB:FV:=.obj (.deferred (some []))
section
variable {P:Program}{nt:Nat}{rd:Option Nat}{T:JV}{E:Hj}
def Ei(hE:E=J1 P nt rd){H:A5}(a:C3 Φ H0 L H)(i:Nat){d:Nat}{k:A5->Prop}(U:L[i]? =some (.blk d DB))(v:∀H',C3 Φ H0 (L.eraseIdx i) H'->k H'):E.fin [d] H k:=by
 subst hE;have hd:=a.get i U;refine⟨⟨OC,λid h=>?_⟩,?_⟩
 ·simp_all
 have e:clear H [d]=upd H d none:=by
  funext x;simp[clear,upd]
 rw[e];exact v _ (a.del i U)
def Bj (P:If)(f:FuncId)(args:Up V)(Q:V->Prop):Prop:=∀H,L5 P f args H λx H'=>Q x/\H'=H
def Bj.args {f:FuncId}{xs ys:Up V}{Q:V->Prop}(h:Bj P f ys Q)(k:M7 xs ys):Bj P f xs Q:=λH=>(h H).args k
def B1.q{args:Up V}{r:V}{Q:V->Prop}(h:B1 P f args r)(e:Q r):Bj P f args Q:=λH=>(h H).mono λx H' ⟨a,e2⟩=>⟨a▸e,e2⟩
def Au(hE:E=J1 P nt rd){R:Type}{m:OS S}{F:S->OS R}{r:R}{args args':Up V}{Q:S->V->Prop}{H:A5}(h:m.bind F=some r)(a:∀x,m=some x->Bj P f args' (Q x))(B:M7 args args')
 (y:∀x v,Q x v->F x=some r->k v H):E.call (.func (.func f) [] []) args H k:=by
 subst hE;have⟨x,O,Z⟩:=bind_some h
 have e:L5 P f args H k:=((a x O).args B H).mono λv H' ⟨N,i⟩=>Pw
 exact L5.value (F:=[]) (C:=[]) Pw
def N7{n:Nat}{args:Up V}{Q:V->Prop}(e:Cf)(j:YV P T)(u:P.funcs[f]? =some fn)(W:fn.body=some c)(hd:M4 e c=true)
 (a:∀vals w,(callFunc f vals).run P w= .ok (.enter f vals) w)(i:fn.ntmps=n)(v:fn.results.toList=rs)(z:Nat.ble args.length n=true)
 (h:∀(E:Hj) (H:A5) (K:V->A5->Prop),E=J1 P n none->(∀x L H',C3 Eq H L H'->Q x->K x H')->run E T n e c ⟨EA args 0,[]⟩ H (Tj E T rs K)):Bj P f args Q:=λH=>by
 refine(Ai (K:=λx H'=>∃y N,DI x y/\JI N H'/\Q y/\N=H) e j.1 j.2 u W hd a i v z λE hE=>?_).le;exact h E H _ hE λx L H' s M=>⟨x,H,.refl _,s.ext,M,rfl⟩
def Rc:Up Nat->Up V->Fl->Fl
 |p::ps,x::xs,l=>Rc ps xs ((p,.v x)::l)
 |_,_,l=>l
theorem Aj1:∀(ps:Up Nat) (xs:Up V) (l:Fl) (t:Nat),KT (λt=>EJ l t) ps xs t=EJ (Rc ps xs l) t
 |[],xs,l,t=>by cases xs<;>rfl
 |p::ps,[],l,t=>rfl
 |p::ps,x::xs,l,t=>by
  simp only[KT,Rc];rw[<-Aj1 ps xs]
  congr 1
  funext q
  rw[AX8];rfl
def Ka:Exit->OS Code
 | .ret=>some .ret
 | .exit k=>some (.exit k)
 |_=>none
variable {α σ R ι:Type}
def RgI (enc:α->Up V)(step:σ->α->OS (σ⊕R))(o:σ⊕R)(Inv:σ->A5->A5->Prop)(l:Up (Up V))(F H:A5):Prop:=
 ∃q:σ×Up α,(l=q.2.map enc/\E8 step q.2 q.1=some o)/\Inv q.1 F H
def RgD (o:σ⊕R)(X:R->Exit->A5->A5->Prop)(c:Code)(F H:A5):Prop:=∃q:R×Exit,(o= .inr q.1/\Ka q.2=some c)/\X q.1 q.2 F H
def RgJ (enc:α->Up V)(step:σ->α->OS (σ⊕R))(o:σ⊕R)(a:ι->σ->α->Fl)(J:ι->σ->α->A5->A5->Prop)(x:Up V)(l:Up (Up V))(fr:Fr)(F H:A5):Prop:=
 ∃q:ι×σ×α×Up α,(x=enc q.2.2.1/\l=q.2.2.2.map enc/\E8 step (q.2.2.1::q.2.2.2) q.2.1=some o/\Ib fr ⟨a q.1 q.2.1 q.2.2.1,[]⟩)/\J q.1 q.2.1 q.2.2.1 F H
section
variable {enc:α->List V}{step:σ->α->Option (σ⊕R)}{g:Operand}{ps:Array Tmp}{asg body:Code}{st:St}{H:A5}{K:Exit->St->A5->Prop}
 {xs:List α} {s0:σ} {o:σ⊕R}
def Bg8(A:Cf)(G:YV P T){Inv:σ->A5->A5->Prop}{C:ι->σ->α->Fl}{J:ι->σ->α->A5->A5->Prop}(N:M4 A asg=true)
 (h:∀(u:Hj) (id:Nat) y s F H,u=J1 P nt (some id)->Inv s F H->run u T nt A asg ⟨Rc ps.toList (enc y) st.l,[]⟩ H λe a H'=>match e with| .normal=>∃i,J i s y F H'/\Jc a.l (C i s y)/\a.df=[]|_=>False):
 ∀(id:Nat) (L:LpI) x l F H,RgI enc step o Inv (x::l) F H->F id=some (.loop L)->x.length=ps.size->AB P nt (some id) asg ⟨KT (J7 st).s ps.toList x,[]⟩ H λe v H1=>e= .normal/\RgJ enc step o C J x l v F H1:=by
 intro id L x l F H ⟨⟨s,ys⟩,⟨B,Q⟩,U⟩ _ _
 cases ys with
 |nil=>cases B
 | cons y ys=>
  simp only[D2,U1]at B
  obtain⟨rfl,rfl⟩:=B
  have e:(⟨KT (J7 st).s ps.toList (enc y),[]⟩:Fr)=J7 ⟨Rc ps.toList (enc y) st.l,[]⟩:=by
   simp only[J7,Fr.mk.injEq,P7]
   funext t
   grind[Aj1]
  rw[e];refine(Q6 G.1 G.2 asg _ _ _ N (h _ id y s F H rfl U)).mono λe v H1 ⟨a,hle,M⟩=>?_
  cases e with
  |normal=>
   have⟨i,z,B,j⟩:=M;exact⟨rfl,⟨i,s,y,ys⟩,⟨rfl,rfl,Q,λt=>(hle.s t).trans (B.wk t),hle.df.trans j⟩,z⟩
  |_=>exact M.elim
def Bs6(G:Cf)(W:YV P T){Inv:σ->A5->A5->Prop}{X:R->Exit->A5->A5->Prop}{U:ι->σ->α->Fl}{J:ι->σ->α->A5->A5->Prop}(u:M4 G body=true)
 (a:∀(C:Hj) (id:Nat) i y s F H o',C=J1 P nt (some id)->(∃L,F id=some (.loop L))->step s y=some o'->J i s y F H->run C T nt G body ⟨U i s y,[]⟩ H λe _ H'=>match e with
  | .normal=>∃j,o'= .inl j/\Inv j F H'
  |e=>∃r,o'= .inr r/\(Ka e).isSome=true/\X r e F H'):
 ∀(id:Nat) (L:LpI) x l h F H,RgJ enc step o U J x l h F H->F id=some (.loop L)->AB P nt (some id) body h H λe _ H'=>AA5 (RgI enc step o Inv l) (RgD o X) F e H':=by
 intro id L x l h F H ⟨⟨i,s,y,ys⟩,⟨M,B,Q,hf⟩,z⟩ hL;subst M;subst B
 simp only[E8]at Q
 cases A:step s y with
 |none=>rw[A]at Q;cases Q
 | some o'=>
  rw[A]at Q
  refine AB.frLe hf ((Q6 W.1 W.2 body _ _ _ u (a _ id i y s F H o' rfl ⟨L,hL⟩ A z)).mono λe Y H2 ⟨aa,hle,N⟩=>?_)
  cases e with
  |normal=>
   have⟨j,O,Z⟩:=N;subst O;exact⟨⟨j,ys⟩,⟨rfl,Q⟩,Z⟩
  |ret=>
   have⟨r,O,Z,v⟩:=N;subst O;exact⟨⟨r,.ret⟩,⟨Pw,rfl⟩,v⟩
  |exit k=>
   have⟨r,O,Z,v⟩:=N;subst O;exact⟨⟨r,.exit k⟩,⟨Pw,rfl⟩,v⟩
  |_=>
   have⟨r,O,Z,v⟩:=N;cases Z
def FA(v:Cf)(hE:E=J1 P nt none)(hP:YV P T)(Inv:σ->A5->A5->Prop)(X:R->Exit->A5->A5->Prop)(G:ι->σ->α->Fl)(J:ι->σ->α->A5->A5->Prop)
 (hI:∀s,G7 (Inv s))(hX:∀r e,G7 (X r e))(hJ:∀i s y,G7 (J i s y))(u:Fs P ((Y4 [] st.l g).V) (xs.map enc))(h:E8 step xs s0=some o)(h0:Inv s0 F H)
 (Z:∀p∈ps,p<nt)(ab:∀x,(enc x).length=ps.size)(O:M4 v asg=true)(W:M4 v body=true)
 (j:∀(N:Hj) (id:Nat) y s F H,N=J1 P nt (some id)->Inv s F H->run N T nt v asg ⟨Rc ps.toList (enc y) st.l,[]⟩ H λe A H'=>match e with| .normal=>∃i,J i s y F H'/\Jc A.l (G i s y)/\A.df=[]|_=>False)
 (a:∀(N:Hj) (id:Nat) i y s F H o',N=J1 P nt (some id)->(∃L,F id=some (.loop L))->step s y=some o'->J i s y F H->run N T nt v body ⟨G i s y,[]⟩ H λe _ H'=>match e with
  | .normal=>∃s',o'= .inl s'/\Inv s' F H'
  |e=>∃r,o'= .inr r/\(Ka e).isSome=true/\X r e F H')
 (done:∀d s H',o= .inl s->F d=none->Inv s (upd F d (some DB)) H'->K .normal ⟨st.l,d::st.df⟩ H')
 (C:∀d r e H',o= .inr r->F d=none->X r e (upd F d (some DB)) H'->K e ⟨st.l,d::st.df⟩ H'):E.sim (.rangeFunc g ps asg body) st H K:=by
 subst hE;have Y:ev (J7 st) g=(Y4 [] st.l g).V:=(HS (df:=st.df) OF.nil g).symm
 rw[<-Y]at u
 have sI:∀l,G7 (RgI enc step o Inv l):=λl=>G7.ex λq=>hI q.1;have sD:∀c,G7 (RgD o X c):=λc=>G7.ex λq=>hX q.1 q.2;have sJ:∀x l fr,G7 (RgJ enc step o G J x l fr):=λx l fr=>G7.ex λq=>hJ q.1 q.2.1 q.2.2.1;refine AB.rangeOuter (nt:=nt) Z (λx M=>?_) u (RgI enc step o Inv) (RgD o X) sI sD (RgJ enc step o G J) sJ ⟨⟨s0,xs⟩,⟨rfl,h⟩,h0⟩ (Bg8 v hP O j) (Bs6 v hP W a) (λd H' hd ⟨⟨s,ys⟩,⟨B,Q⟩,U⟩=>?_) λc d H' hd ⟨⟨r,e⟩,⟨ho,z⟩,M⟩=>?_
 ·grind
 ·have aa:ys=[]:=by
   simp_all
  subst aa;exact zaw
 have hk:=C d r e H' ho hd M
 cases e with
 |ret=>cases z;exact AB.ret ⟨⟨st.l,d::st.df⟩,⟨λt=>Wk.refl _,rfl⟩,hk⟩
 |exit k=>cases z;exact AB.exit ⟨⟨st.l,d::st.df⟩,⟨λt=>Wk.refl _,rfl⟩,hk⟩
 |_=>cases z
end
end
def C3.dblk{H:A5}{d:Nat}(hd:H0 d=none)(h:C3 Φ (upd H0 d (some DB)) L H):C3 Φ H0 (L++[.blk d DB]) H:=by
 have⟨G,Y,J,v,O,Z⟩:=h;refine⟨G,Y,J,⟨λx b M=>v.ext x b ?_,λi e x b U a=>?_,λi j e C x b b' U z a N=>?_,λx b M=>?_⟩,O,Z⟩
 rotate_right
 ·rcases v.only x b M with h|⟨i,e,U,a⟩
  ·by_cases B:x=d
   ·subst B;rw[E7]at h;cases h;exact .inr ⟨L.length,.blk x DB,OC,rfl⟩
   simp_all[upd]
  refine .inr ⟨i,e,?_,a⟩
  grind
 ·rw[C8 _ _ (Ce hd M)];exact M
 ·rcases R3 i L.length with A|u
  ·rw[GA A]at U
   have:=v.has i e x b U a
   grind[C8]
  rw[GB u]at U
  cases s:i-L.length with
  |zero=>rw[s]at U;simp at U;subst U;cases a;exact⟨hd,v.ext _ _ (E7 _ _ _)⟩
  |succ m=>rw[s]at U;simp at U
 have y:∀(i:Nat) e,(L++[.blk d DB])[i]? =some e->(i<L.length/\L[i]? =some e)\/(i=L.length/\e= .blk d DB):=λi e U=>by
  grind
 have nd:∀(i:Nat) e x b,L[i]? =some e->e.id=some (x,b)->x≠d:=λm e x b s a eq=>by
  have:=(v.has m e x b s a).1
  rw[eq,E7]at this;cases this
 rcases y i e U with⟨_,Q⟩|⟨Q,rfl⟩<;>rcases y j C z with⟨_,W⟩|⟨W,rfl⟩
 ·exact v.inj i j e C x b b' Q W a N
 ·cases N;grind
 ·cases a;grind
 omega
def WC (P:If)(a:V)(I:Up (Up V)->A5->A5->Prop)(D:A5->A5->Prop):Prop:=
 (a.one=true/\a.cells=[a])/\∀x l F H,I (x::l) F H->Ft P a x H λr H'=>(r= .bool true/\I l F H')\/(r= .bool false/\D F H')
def Gj (P:If)(f:FuncId)(args:V->Up V)(xs:Up (Up V))(a:V->Bool->Prop):Prop:=
 ∀e I D,(∀l,G7 (I l))->G7 D->WC P e I D->∀tl F H,I (xs++tl) F H->L5 P f (args e) H λv H'=>(a v true/\I tl F H')\/(a v false/\D F H')
def rbB (v:V)(b:Bool):Prop:=v= .bool b
def Zc (_:V)(_:Bool):Prop:=True
section
variable {P:Program}{nt:Nat}{rd:Option Nat}{T:JV}{E:Hj}{I:List (List V)->A5->A5->Prop}{D:A5->A5->Prop}
def Ft.heap{a:V}{args:Up V}{H J:A5}{K:V->A5->Prop}(h:Ft P a args J K)(B:JI J H):Ft P a args H K:=
 λg w v vals C j e=>h g w v vals (C.less B) j e
def L5.heap{args:Up V}{H J:A5}{K:V->A5->Prop}(h:L5 P f args J K)(B:JI J H):L5 P f args H K:=
 λg w vals C a=>h g w vals (C.less B) a
def Be(hE:E=J1 P nt rd)(v:∀l,G7 (I l))(i:G7 D){h:V}(N:WC P h I D){H:A5}{args x:Up V}{l:Up (Up V)}(y:C3 (I (x::l)) F L H)(B:M7 args x)
 (O:∀H',C3 (I l) F L H'->k (.bool true) H')(Z:∀H',C3 D F L H'->k (.bool false) H'):E.call h args H k:=by
 subst hE;have⟨G,a,J,e,U,hle⟩:=y;refine(Ft.mono (((N.2 x l a J U).heap hle).args B) λr H' Q=>?_)
 rcases Q with⟨rfl,Q⟩|⟨rfl,Q⟩
 ·exact O H' ⟨v l,a,H',e,Q,JI.refl _⟩
 exact Z H' ⟨i,a,H',e,Q,JI.refl _⟩
def Aj6(hE:E=J1 P nt rd)(y:∀l,G7 (I l))(x:G7 D){h:V}(s:WC P h I D){args':V->Up V}{xs tl:Up (Up V)}{e:V->Bool->Prop}(j:Gj P f args' xs e){H:A5}{args:Up V}(N:C3 (I (xs++tl)) F L H)
 (B:M7 args (args' h))(O:∀v H',e v true->C3 (I tl) F L H'->k v H')(Z:∀v H',e v false->C3 D F L H'->k v H'):E.call (.func (.func f) [] []) args H k:=by
 subst hE;have⟨G,a,J,i,U,hle⟩:=N
 have u:L5 P f args H k:=(((j h I D y x s tl a J U).heap hle).args B).mono λv H' Q=>by
  rcases Q with⟨W,Q⟩|⟨W,Q⟩
  ·exact O v H' W ⟨y tl,a,H',i,Q,JI.refl _⟩
  exact Z v H' W ⟨x,a,H',i,Q,JI.refl _⟩
 exact L5.value (F:=[]) (C:=[]) Pw
def HB(hE:E=J1 P nt rd){c:Bool}(a:c=true)(h:x ()):E.br c x y:=by simp_all[J1]
def HC(hE:E=J1 P nt rd){c:Bool}(a:c=false)(h:y ()):E.br c x y:=by simp_all[J1]
def M9{n:Nat}{args:V->Up V}{xs:Up (Up V)}{rb:V->Bool->Prop}(v:Cf)(z:YV P T)(B:P.funcs[f]? =some fn)(W:fn.body=some c)(hd:M4 v c=true)
 (e:∀vals w,(callFunc f vals).run P w= .ok (.enter f vals) w)(j:fn.ntmps=n)(s:fn.results.toList=rs)(C:∀i,Nat.ble (args i).length n=true)
 (h:∀(i:V) (I:Up (Up V)->A5->A5->Prop) (D:A5->A5->Prop),(∀l,G7 (I l))->G7 D->WC P i I D->∀(tl:Up (Up V)) (F:A5) (E:Hj) (H:A5) (K:V->A5->Prop),E=J1 P n none->C3 (I (xs++tl)) F [] H->
  (∀x L H',C3 (I tl) F L H'->rb x true->K x H')->(∀x L H',C3 D F L H'->rb x false->K x H')->run E T n v c ⟨EA (args i) 0,[]⟩ H (Tj E T rs K)):Gj P f args xs rb:=by
 intro i I D u A G tl F H U;refine(Ai (K:=λx H'=>∃y a,DI x y/\JI a H'/\((rb y true/\I tl F a)\/(rb y false/\D F a))) v z.1 z.2 B W hd e j s (C i) λE hE=>?_).le;refine h i I D u A G tl F E H _ hE (C3.start (u _) U) (λx L H' N M=>?_) λx L H' N M=>?_
 ·have⟨a,O,Z⟩:=N.out;exact⟨x,a,.refl _,Z,.inl ⟨M,O⟩⟩
 have⟨a,O,Z⟩:=N.out;exact⟨x,a,.refl _,Z,.inr ⟨M,O⟩⟩
def O9{C:Up V}{xs:Up (Up V)}{N:V->Bool->Prop}(a:∀vals w,(callFunc f vals).run P w= .ok (.enter f vals) w)(h:Gj P f (λe=>e::C) xs N):Fs P (.func (.func f) [] C) xs:=
 ⟨f,C,rfl,a,λe I D x i y F H U=>(h e I D x i y [] F H (by rwa[F2])).mono λv H' Q=>Q.imp (λh=>h.2) λh=>h.2⟩
def C3.cast{H:A5}{L':Up En}(h:C3 Φ H0 L H)(e:L=L'):C3 Φ H0 L' H:=e▸h
noncomputable def KJ (ds:Up Nat):Up En:=List.rec (motive:=λ_=>Up En) [] (λd _ l=>l++[.blk d DB]) ds
def AB6 (d:Nat)(ds:Up Nat):KJ (d::ds)=KJ ds++[.blk d DB]:=rfl
def C3.dbs1{H:A5}{d:Nat}{ds:Up Nat}(h:C3 Φ H0 ((A++KJ ds)++[.blk d DB]) H):C3 Φ H0 (A++KJ (d::ds)) H:=by
 rw[AB6,<-E1];exact h
def BP4:∀{ds:Up Nat} {H:A5},C3 Φ H0 (A++KJ ds) H->ds.Nodup/\(∀id,id∈ds->H id=some DB)/\C3 Φ H0 A (clear H ds):=by
 intro ds
 induction ds with
 |nil=>
  intro H h
  have e:clear H []=H:=by funext x;simp[clear]
  rw[e]
  grind[KJ]
 | cons d ds ih=>
  intro H h
  rw[AB6,<-E1]at h
  have U:((A++KJ ds)++[En.blk d DB])[(A++KJ ds).length]? =some (.blk d DB):=OC
  have hd:=h.get _ U;have O:=h.del _ U
  have e:((A++KJ ds)++[En.blk d DB]).eraseIdx (A++KJ ds).length=A++KJ ds:=by
   rw[List.eraseIdx_append_of_length_le (C6 _)];simp
  rw[e]at O
  have⟨a,i,v⟩:=ih O;refine⟨List.nodup_cons.2 ⟨λN=>?_,a⟩,λid y=>?_,?_⟩
  ·have:=i d N;rw[E7]at this;cases this
  ·grind[C8]
  have e2:clear (upd H d none) ds=clear H (d::ds):=by
   funext x
   grind[clear,upd]
  rwa[e2]at v
def Uo(hE:E=J1 P nt rd){H:A5}{ds:Up Nat}(i:C3 Φ H0 (A++KJ ds) H){k:A5->Prop}(v:∀H',C3 Φ H0 A H'->k H'):E.fin ds H k:=by
 subst hE;have⟨a,e,h⟩:=BP4 i;exact⟨⟨a,e⟩,v _ h⟩
def Bw0(cf:Cf)(hE:E=J1 P nt rd)(hP:YV P T){β σ R:Type}{step:σ->OS (Up β×(σ⊕R))}{st:St}{H:A5}{K:Exit->St->A5->Prop}(fm:σ->γ->Fl)(Inv:σ->γ->Up Nat->Up β->A5->Prop)(X:R->Exit->Fl->Up Nat->Up β->A5->Prop)(Xa:Exit->Fl->Up Nat->A5->Prop)(hd:M4 cf c=true)
 (J:∀s g ds Y j H o,Inv s g ds (Y++j) H->step s=some (Y,o)->run E T nt cf c ⟨fm s g,ds⟩ H λe i H'=>match e with
  | .normal=>∃z g' a,o= .inl z/\Jc i.l (fm z g')/\i.df=a/\Inv z g' a j H'
  |e=>(∃x l a,o= .inr x/\X x e l a j H'/\Jc i.l l/\i.df=a)\/∃l a,Xa e l a H'/\Jc i.l l/\i.df=a)
 {s0:σ}(g0:γ){w w':Up β}{r:R}(h:R7 step N s0=some (w,r))(ab:st.df=[])(hf:Jc st.l (fm s0 g0))(hI:Inv s0 g0 [] (w++w') H)(B:∀e l ds H',X r e l ds w' H'->K e ⟨l,ds⟩ H')(u:∀e l ds H',Xa e l ds H'->K e ⟨l,ds⟩ H'):E.sim (.loop c) st H K:=by
 subst hE;refine AB.loopN (λn M H'=>∃s g ds w,R7 step n s=some (w,r)/\Ib M ⟨fm s g,ds⟩/\Inv s g ds (w++w') H') N ⟨s0,g0,[],w,h,⟨λt=>hf.wk t,ab⟩,hI⟩ λn M H' ⟨s,g,ds,w,G,hle,U⟩=>?_
 cases n with
 |zero=>cases G
 | succ n=>
  simp only[R7]at G
  cases ho:step s with
  |none=>rw[ho]at G;cases G
  | some p=>
   have⟨Y,o⟩:=p
   rw[ho]at G
   have⟨j,hw,y⟩:∃j,w=Y++j/\match o with| .inl z=>R7 step n z=some (j,r)| .inr x=>x=r/\j=[]:=by
    cases o with
    |inl z=>
     grind
    |inr x=>grind
   subst hw
   rw[E1]at U
   refine AB.frLe hle ((Q6 hP.1 hP.2 c _ _ _ hd (J s g ds Y (j++w') H' o U ho)).mono λe aa H2 ⟨i,v,hq⟩=>?_)
   have C:∀e,((∃x l a,o= .inr x/\X x e l a (j++w') H2/\Jc i.l l/\i.df=a)\/∃l a,Xa e l a H2/\Jc i.l l/\i.df=a)->∃A,Ib aa A/\K e A H2:=by
    intro e hq
    rcases hq with⟨x,l,a,O,W,Z,Q⟩|⟨l,a,W,Z,Q⟩
    ·subst O;obtain⟨rfl,rfl⟩:=y;exact⟨⟨l,a⟩,⟨λt=>(v.s t).trans (Z.wk t),v.df.trans Q⟩,B _ _ _ _ W⟩
    exact⟨⟨l,a⟩,⟨λt=>(v.s t).trans (Z.wk t),v.df.trans Q⟩,u _ _ _ _ W⟩
   cases e with
   |normal=>
    have⟨z,g',a,O,Z,Q,W⟩:=hq;subst O;exact⟨n,Jj n,z,g',a,j,y,⟨λt=>(v.s t).trans (Z.wk t),v.df.trans Q⟩,W⟩
   |_=>exact C _ hq
def Dj(cf:Cf)(hE:E=J1 P nt rd)(hP:YV P T){β σ R:Type}{step:σ->OS (Up β×(σ⊕R))}{st:St}{H:A5}{K:Exit->St->A5->Prop}(fm:σ->γ->Fl)(Inv:σ->γ->Up β->A5->Prop)(X:R->Exit->Fl->Up β->A5->Prop)(Xa:Exit->Fl->A5->Prop)(hd:M4 cf c=true)
 (C:∀s g W y H o,Inv s g (W++y) H->step s=some (W,o)->run E T nt cf c ⟨fm s g,st.df⟩ H λe a H'=>match e with
  | .normal=>∃u g',o= .inl u/\Jc a.l (fm u g')/\a.df=st.df/\Inv u g' y H'
  |e=>(∃x l,o= .inr x/\X x e l y H'/\Jc a.l l/\a.df=st.df)\/∃l,Xa e l H'/\Jc a.l l/\a.df=st.df)
 {s0:σ}(g0:γ){w w':Up β}{r:R}(h:R7 step N s0=some (w,r))(hf:Jc st.l (fm s0 g0))(hI:Inv s0 g0 (w++w') H)(A:∀e l H',X r e l w' H'->K e ⟨l,st.df⟩ H')(j:∀e l H',Xa e l H'->K e ⟨l,st.df⟩ H'):E.sim (.loop c) st H K:=by
 subst hE;refine AB.loopN (λn J H'=>∃s g w,R7 step n s=some (w,r)/\Ib J ⟨fm s g,st.df⟩/\Inv s g (w++w') H') N ⟨s0,g0,w,h,⟨λt=>hf.wk t,rfl⟩,hI⟩ λn J H' ⟨s,g,w,G,hle,U⟩=>?_
 cases n with
 |zero=>cases G
 | succ n=>
  simp only[R7]at G
  cases ho:step s with
  |none=>rw[ho]at G;cases G
  | some p=>
   have⟨W,o⟩:=p
   rw[ho]at G
   have⟨y,hw,v⟩:∃y,w=W++y/\match o with| .inl u=>R7 step n u=some (y,r)| .inr x=>x=r/\y=[]:=by
    cases o with
    |inl u=>
     grind
    |inr x=>grind
   subst hw
   rw[E1]at U
   refine AB.frLe hle ((Q6 hP.1 hP.2 c _ _ _ hd (C s g W (y++w') H' o U ho)).mono λe aa H2 ⟨a,i,Y⟩=>?_)
   have B:∀e,((∃x l,o= .inr x/\X x e l (y++w') H2/\Jc a.l l/\a.df=st.df)\/∃l,Xa e l H2/\Jc a.l l/\a.df=st.df)->∃z,Ib aa z/\K e z H2:=by
    intro e Y
    rcases Y with⟨x,l,O,Q,Z,M⟩|⟨l,Q,Z,M⟩
    ·subst O;obtain⟨rfl,rfl⟩:=v;exact⟨⟨l,st.df⟩,⟨λt=>(i.s t).trans (Z.wk t),i.df.trans M⟩,A _ _ _ Q⟩
    exact⟨⟨l,st.df⟩,⟨λt=>(i.s t).trans (Z.wk t),i.df.trans M⟩,j _ _ _ Q⟩
   cases e with
   |normal=>
    have⟨u,g',O,Z,M,Q⟩:=Y;subst O;exact⟨n,Jj n,u,g',y,v,⟨λt=>(i.s t).trans (Z.wk t),i.df.trans M⟩,Q⟩
   |_=>exact B _ Y
end
section
variable {P:Program}{nt:Nat}{T:JV}{E:Hj}{α β σ R ι:Type}
def REI (enc:α->Up V)(step:σ->α->OS (Up β×(σ⊕R)))(o:σ⊕R)(w':Up β)(Inv:σ->Up β->A5->A5->Prop)(l:Up (Up V))(F H:A5):Prop:=
 ∃q:σ×Up α×Up β,(l=q.2.1.map enc/\Ca step q.2.1 q.1=some (q.2.2,o))/\Inv q.1 (q.2.2++w') F H
def RED (o:σ⊕R)(w':Up β)(X:R->Exit->Up β->A5->A5->Prop)(a:Exit->A5->A5->Prop)(c:Code)(F H:A5):Prop:=
 (∃q:R×Exit,(o= .inr q.1/\Ka q.2=some c)/\X q.1 q.2 w' F H)\/∃q:Exit,Ka q=some c/\a q F H
def REJ (enc:α->Up V)(step:σ->α->OS (Up β×(σ⊕R)))(o:σ⊕R)(w':Up β)(a:ι->σ->α->Fl)(J:ι->σ->α->Up β->A5->A5->Prop)(x:Up V)(l:Up (Up V))(fr:Fr)(F H:A5):Prop:=
 ∃q:ι×σ×α×Up α×Up β,(x=enc q.2.2.1/\l=q.2.2.2.1.map enc/\Ca step (q.2.2.1::q.2.2.2.1) q.2.1=some (q.2.2.2.2,o)/\Ib fr ⟨a q.1 q.2.1 q.2.2.1,[]⟩)/\J q.1 q.2.1 q.2.2.1 (q.2.2.2.2++w') F H
def G7.or{I J:A5->A5->Prop}(h:G7 I)(k:G7 J):G7 λF H=>I F H\/J F H:=
 ⟨λa=>a.elim (λx=>h.le x) λx=>k.le x,λid b a e=>a.imp (λx=>h.chg id b x e) λx=>k.chg id b x e⟩
variable {enc:α->List V}{step:σ->α->Option (List β×(σ⊕R))}{g:Operand}{ps:Array Tmp}{asg body:Code}{st:St}{H:A5}{K:Exit->St->A5->Prop}
 {xs:List α} {s0:σ} {o:σ⊕R} {w w':List β}
def SR(cf:Cf)(hE:E=J1 P nt none)(hP:YV P T)(Inv:σ->Up β->A5->A5->Prop)(X:R->Exit->Up β->A5->A5->Prop)(u:Exit->A5->A5->Prop)(fJ:ι->σ->α->Fl)(J:ι->σ->α->Up β->A5->A5->Prop)
 (hI:∀s w,G7 (Inv s w))(hX:∀r e w,G7 (X r e w))(ac:∀e,G7 (u e))(hJ:∀i s y w,G7 (J i s y w))(ab:Fs P ((Y4 [] st.l g).V) (xs.map enc))(h:Ca step xs s0=some (w,o))(h0:Inv s0 (w++w') F H)
 (ah:∀p∈ps,p<nt)(am:∀x,(enc x).length=ps.size)(ad:M4 cf asg=true)(ae:M4 cf body=true)
 (aa:∀(Y:Hj) (id:Nat) y s w F H,Y=J1 P nt (some id)->Inv s w F H->run Y T nt cf asg ⟨Rc ps.toList (enc y) st.l,[]⟩ H λe a H'=>match e with| .normal=>∃i,J i s y w F H'/\Jc a.l (fJ i s y)/\a.df=[]|_=>False)
 (A:∀(Y:Hj) (id:Nat) i y s w1 j F H o',Y=J1 P nt (some id)->(∃L,F id=some (.loop L))->step s y=some (w1,o')->J i s y (w1++j) F H->run Y T nt cf body ⟨fJ i s y,[]⟩ H λe _ H'=>match e with
  | .normal=>∃G,o'= .inl G/\Inv G j F H'
  |e=>(∃r,o'= .inr r/\(Ka e).isSome=true/\X r e j F H')\/((Ka e).isSome=true/\u e F H'))
 (done:∀d s H',o= .inl s->F d=none->Inv s w' (upd F d (some DB)) H'->K .normal ⟨st.l,d::st.df⟩ H')
 (ak:∀d r e H',o= .inr r->F d=none->X r e w' (upd F d (some DB)) H'->K e ⟨st.l,d::st.df⟩ H')
 (aj:∀d e H',F d=none->u e (upd F d (some DB)) H'->K e ⟨st.l,d::st.df⟩ H'):E.sim (.rangeFunc g ps asg body) st H K:=by
 subst hE;have ag:ev (J7 st) g=(Y4 [] st.l g).V:=(HS (df:=st.df) OF.nil g).symm
 rw[<-ag]at ab
 have sI:∀l,G7 (REI enc step o w' Inv l):=λl=>G7.ex λq=>hI q.1 _;have sD:∀c,G7 (RED o w' X u c):=λc=>G7.or (G7.ex λq=>hX q.1 q.2 w') (G7.ex λq=>ac q);have sJ:∀x l fr,G7 (REJ enc step o w' fJ J x l fr):=λx l fr=>G7.ex λq=>hJ q.1 q.2.1 q.2.2.1 _;refine AB.rangeOuter (nt:=nt) ah (λx M=>?_) ab (REI enc step o w' Inv) (RED o w' X u) sI sD (REJ enc step o w' fJ J) sJ ⟨⟨s0,xs,w⟩,⟨rfl,h⟩,h0⟩ ?_ ?_ (λd H' hd ⟨⟨s,ys,j⟩,⟨B,Q⟩,U⟩=>?_) λc d H' hd M=>?_
 ·grind
 ·intro id L x l F H ⟨⟨s,ys,j⟩,⟨B,Q⟩,U⟩ _ _
  cases ys with
  |nil=>cases B
  | cons y ys=>
   simp only[D2,U1]at B
   obtain⟨rfl,rfl⟩:=B
   have e:(⟨KT (J7 st).s ps.toList (enc y),[]⟩:Fr)=J7 ⟨Rc ps.toList (enc y) st.l,[]⟩:=by
    simp only[J7,Fr.mk.injEq,P7]
    funext t
    grind[Aj1]
   rw[e];refine(Q6 hP.1 hP.2 asg _ _ _ ad (aa _ id y s _ F H rfl U)).mono λe C H1 ⟨a,hle,N⟩=>?_
   cases e with
   |normal=>
    have⟨i,z,B,af⟩:=N;exact⟨rfl,⟨i,s,y,ys,j⟩,⟨rfl,rfl,Q,λt=>(hle.s t).trans (B.wk t),hle.df.trans af⟩,z⟩
   |_=>exact N.elim
 ·intro id L x l C F H ⟨⟨i,s,y,ys,j⟩,⟨M,B,Q,hf⟩,z⟩ hL;subst M;subst B
  simp only[Ca]at Q
  cases ho:step s y with
  |none=>rw[ho]at Q;cases Q
  | some p=>
   have⟨w1,o'⟩:=p
   rw[ho]at Q
   have⟨W,hw,v⟩:∃W,j=w1++W/\match o' with| .inl G=>Ca step ys G=some (W,o)| .inr x=>o= .inr x/\W=[]:=by
    cases o' with
    |inl G=>
     grind
    |inr x=>grind
   subst hw
   dsimp only at z
   rw[E1]at z
   refine AB.frLe hf ((Q6 hP.1 hP.2 body _ _ _ ae (A _ id i y s w1 (W++w') F H o' rfl ⟨L,hL⟩ ho z)).mono λe al H2 ⟨a,hle,N⟩=>?_)
   have out:∀e c,Ka e=some c->((∃r,o'= .inr r/\(Ka e).isSome=true/\X r e (W++w') F H2)\/((Ka e).isSome=true/\u e F H2))->RED o w' X u c F H2:=by
    intro e c hc N
    rcases N with⟨r,O,_,h3⟩|⟨_,h3⟩
    ·subst O;obtain⟨rfl,rfl⟩:=v;exact .inl ⟨⟨r,e⟩,⟨rfl,hc⟩,h3⟩
    grind[RED]
   cases e with
   |normal=>
    have⟨G,O,Z⟩:=N;subst O;exact⟨⟨G,ys,W⟩,⟨rfl,v⟩,Z⟩
   |ret=>exact out .ret _ rfl N
   |exit k=>exact out (.exit k) _ rfl N
   |_=>rcases N with⟨_,_,h,_⟩|⟨h,_⟩<;>cases h
 ·have ai:ys=[]:=by
   simp_all
  subst ai;exact zaw
 have fin:∀e,Ka e=some c->K e ⟨st.l,d::st.df⟩ H'->AB P nt none c {J7 st with df:=d::(J7 st).df} H' λe C H'=>∃a,Ib C a/\K e a H':=by
  intro e z hk
  cases e with
  |ret=>cases z;exact AB.ret ⟨⟨st.l,d::st.df⟩,⟨λt=>Wk.refl _,rfl⟩,hk⟩
  |exit k=>cases z;exact AB.exit ⟨⟨st.l,d::st.df⟩,⟨λt=>Wk.refl _,rfl⟩,hk⟩
  |_=>cases z
 rcases M with⟨⟨r,e⟩,⟨ho,z⟩,M⟩|⟨e,z,M⟩
 ·grind
 grind
end
end Go.Ab
namespace Go.Ab
variable{α:Type}
def OB(l:Up α)(i:Int):Bool:=decide (0<=i/\i<(l.length:Nat))
def Ex(l:Up α)(i:Int)(u:α->α):OS (Up α):=(C4 l i).map λx=>l.set i.toNat (u x)
def YZ(n m:Int)(z:α):OS (Up α):=if 0<=n/\n<=m/\m<=1073741824 then some (List.replicate n.toNat z)else none
def Tw(l:Up α)(i j:Int):OS (Up α):=if 0<=i/\i<=j/\j<=(l.length:Nat)then some (l.take i.toNat++l.drop j.toNat)else none
def Tb(l:Up α)(i:Int)(m:Up α):OS (Up α):=if 0<=i/\i<=(l.length:Nat)/\l.length+m.length<=1073741824 then some (l.take i.toNat++m++l.drop i.toNat)else none
def Tg(_:Up α)(n:Int):OS (Up α):=if 0<=n/\n<=1073741824 then some []else none
end Go.Ab
namespace Go.Ab
open Go.RowKit
variable [O7][Ar]
variable{K:V->A5->Prop}{i t:Nat}{xs:Up V}{y:V}
def DK.swap{H0 H:A5}{L:Up En}(h:DK H0 L H)(i:Nat){en a:En}{id:Nat}{b b':FV}(U:L[i]? =some en)(he:en.id=some (id,b))(N:a.id=some (t,b'))(ht:upd H id none t=none):
 DK H0 (L.set i a) (upd (upd H id none) t (some b')):=by
 have ac:i<L.length:=by
  grind
 have QU:∀(j:Nat) e,(L.set i a)[j]? =some e->(j=i/\e=a)\/(j≠i/\L[j]? =some e):=λj e z=>by
  rw[Z4]at z
  grind
 have C:=h.has i _ id b U he
 have h0:∀x c,H0 x=some c->upd H id none x=some c:=λx c M=>by
  rw[C8 _ _ (Ce C.1 M)];exact h.ext x c M
 have ab:∀(j:Nat) e x c,j≠i->L[j]? =some e->e.id=some (x,c)->H0 x=none/\upd H id none x=some c:=λj e x c u z M=>by
  have:=h.has j e x c z M
  have v:x≠id:=λeq=>by subst eq;exact u (h.inj j i e _ x c b z U M he)
  simp_all[upd]
 have s:H0 t=none:=by
  cases e:H0 t with
  |none=>rfl
  |some c=>rw[h0 t c e]at ht;cases ht
 refine⟨λx y M=>?_,λj e x y z M=>?_,λj k e e' x y B z hk M A=>?_,λx y M=>?_⟩
 rotate_right
 ·by_cases Y:x=t
  ·grind[upd]
  rw[C8 _ _ Y]at M
  have v:x≠id:=λeq=>by simp_all[upd]
  rw[C8 _ _ v]at M
  refine(h.only x y M).imp (λh=>h) λ⟨j,e,O,Z⟩=>⟨j,e,?_,Z⟩;rw[Z4]
  grind
 ·rw[C8 _ _ (Ce s M)];simp_all
 ·grind[upd]
 rcases QU j e z with⟨J,rfl⟩|⟨u,G⟩<;>rcases QU k e' hk with⟨W,rfl⟩|⟨aa,Q⟩
 ·rw[J,W]
 ·rw[N]at M;grind
 ·rw[N]at A;grind
 exact h.inj j k e e' x y B G Q M A
def C3.swap {Φ:A5->A5->Prop}{F H:A5}{L:Up En}(h:C3 Φ F L H)(i:Nat){id t:Nat}{b b':FV}(U:L[i]? =some (.blk id b))(j:upd H id none t=none):C3 Φ F (L.set i (.blk t b')) (upd (upd H id none) t (some b')):=by
 have⟨G,s,J,x,O,Z⟩:=h;have e:=x.get i U;have N:=G.le O _ _ e;have y:=G.chg id none O (by rw[e,N]);have hle:JI (upd J id none) (upd H id none):=Z.upd id none;have v:=hle.none j;have a:=G.fresh y v;exact⟨G,_,_,x.swap i U rfl rfl a,G.chg t (some b') y (by rw[v,a]),hle.upd t _⟩
def C3.swap'{Φ:A5->A5->Prop}{F H:A5}{L:Up En}(h:C3 Φ F L H)(i:Nat){id:Nat}{b b':FV}(U:L[i]? =some (.blk id b))(x:H t=none):C3 Φ F (L.set i (.blk t b')) (upd H t (some b')):=by
 have v:=h.get i U
 have a:t≠id:=λe=>TQ
 have⟨G,y,J,N,O,Z⟩:=h.swap (b':=b') i U (t:=t) (by rw[C8 _ _ a];exact x)
 grind[C3,upd,JI]
structure OG where
 id:Nat
 lo:Int
 n:Int
 pre:List V
 rest:List V
def Cj (q:OG)(m:Int):Prop:=q.lo=(q.pre.length:Nat)/\q.n=m
def Ak3{α:Type}{f:α->V}(l:Up α):Ar.len l=((lst f l).length:Nat):=by rw[len_eq,N4]
def Ay0{α:Type}{f:α->V}(l:Up α):Ar.len l=By5 (lst f l):=by rw[AY2,Ak3 (f:=f) l]
def NG{pre rest:Up V}{lo n:Int}(a:lo=(pre.length:Nat))(O:n=(xs.length:Nat)):P2 (pre++xs++rest) lo n=xs:=by
 simp_all[P2]
theorem Au8{pre rest ys:Up V}(U:i=pre.length+xs.length):Cp (pre++xs++rest) i ys=pre++(xs++ys)++rest.drop ys.length:=by
 subst U;simp only[Cp,E1];rw[show pre++(xs++rest)=(pre++xs)++rest by simp,<-N1,List.take_left,List.drop_append];simp
def Az4{pre rest:Up V}(h:i<xs.length):(pre++xs++rest).getD (pre.length+i) .bad=xs.getD i .bad:=by
 grind
def BI4{pre rest:Up V}{v:V}(h:i<xs.length):(pre++xs++rest).set (pre.length+i) v=pre++xs.set i v++rest:=by
 simp_all
theorem C3.set_self{L:Up En}(i:Nat){e:En}(U:L[i]? =some e):L.set i e=L:=by
 apply CX
 grind
section
variable {P:Program}{nt:Nat}{rd:Option Nat}{T:JV}{E:Hj}
variable (hE:E=J1 P nt rd)
include hE
variable {α R:Type}{f:α->V}{Φ:A5->A5->Prop}{H0 H:A5}{L:List En}{sz:Nat}{q:OG}{l:List α}{r:R}
theorem RI(a:Cj q (Ar.len l)){k:Int->Prop}(h:k (Ar.len l)):E.olen q.n k:=by
 grind[J1,Cj]
theorem Hz(a:C3 Φ H0 L H)(v:Cj q (Ar.len l))(i:Nat){j:Int}{k:Int->Prop}{F:Unit->OS R}(U:L[i]? =some (.blk q.id (.arr sz (q.pre++lst f l++q.rest))))(h:(IS (OB l j)).bind F=some r)(e:F ()=some r->k (ofs q.lo j)):
 E.oidx H q.id sz q.lo q.n j k:=by
 subst hE;have⟨x,O,Z⟩:=bind_some h
 unfold IS at O
 split at O
 ·rename_i y;refine⟨⟨_,a.get i U⟩,?_,e Z⟩;rw[v.2,len_eq];grind[OB]
 cases O
theorem Ac5{l:Up α}{i:Int}{x:α}(h:C4 l i=some x):(0<=i/\i<(l.length:Nat))/\l[i.toNat]? =some x:=by
 grind[C4]
theorem Ax2{l:Up α}{x:α}(h:l[i]? =some x):(lst f l).getD i .bad=f x:=by
 rw[lst_eq];simp_all
theorem Kr{g:α->V}(s:∀x,f x=g x)(N:C3 Φ H0 L H)(a:Cj q (Ar.len l))(i:Nat){j:Int}{k:V->Prop}{F:α->OS R}(U:L[i]? =some (.blk q.id (.arr sz (q.pre++lst f l++q.rest))))(h:(C4 l j).bind F=some r)(u:∀x,F x=some r->k (g x)):
 E.oload H q.id (ofs q.lo j) k:=by
 have⟨x,O,Z⟩:=bind_some h;have⟨W,v⟩:=Ac5 hE O;have y:=Ax2 hE (f:=f) v;subst hE;have e:=N4 (f:=f) l;refine⟨_,_,N.get i U,?_,?_⟩
 ·rw[ofs_eq,a.1];grind
 rw[ofs_eq,a.1,show((q.pre.length:Nat)+j:Int).toNat=q.pre.length+j.toNat by omega,Az4 (by rw[e];omega),y,s]
 grind
theorem Aw4{β:Type}{f0:β->V}{esz:Nat}(i:C3 Φ H0 L H){k:Nat->A5->Prop}(v:∀(q:OG) id H',Cj q (Ar.len ([]:Up β))->C3 Φ H0 (.blk id (.cells [.own q.id q.lo q.n]):: .blk q.id (.arr esz (q.pre++lst f0 []++q.rest))::L) H'->k id H'):E.oalloc esz H k:=by
 subst hE;intro t id x a
 have e:([]:Up V)++lst f0 []++[]=[]:=by rw[<-E4 (f:=f0)];rfl
 have h:C3 Φ H0 (.blk t (.arr esz [])::L) (upd H t (some (.arr esz []))):=i.push x rfl;have O:C3 Φ H0 (.blk id (.cells [.own t 0 0]):: .blk t (.arr esz [])::L) (upd (upd H t (some (.arr esz []))) id (some (.cells [.own t 0 0]))):=h.push a rfl;refine v ⟨t,0,0,[],[]⟩ id _ ⟨rfl,by rw[len_eq];rfl⟩ ?_
 simp_all
theorem AW5(a:C3 Φ H0 L H)(y:Cj q (Ar.len l))(i m:Nat){id j:Nat}{cs:Up V}{k:A5->Prop}(U:L[i]? =some (.blk id (.cells cs)))(x:L[m]? =some (.blk q.id (.arr sz (q.pre++lst f l++q.rest))))(z:cs[j]? =some (.own q.id q.lo q.n))(h:i≠m)
 (s:∀H',C3 Φ H0 ((L.set i (.blk id (.cells (cs.set j (.sl (lst f l) .ro))))).eraseIdx m) H'->k H'):E.frzIn H id j k:=by
 subst hE;have O:=a.get i U;have Z:=a.get m x
 have v:q.id≠id:=λe=>by rw[e,O]at Z;cases Z
 refine⟨cs,q.id,q.lo,q.n,sz,_,_,O,z,Z,.refl _,?_⟩;have N:=(a.set i (b':=.cells (cs.set j (.sl (lst f l) .ro))) U).del m (id:=q.id) (b:=.arr sz (q.pre++lst f l++q.rest)) (by rw[Z4,A1 h];exact x);rw[NG y.1 (by rw[y.2,len_eq,N4]),SC _ _ _ v]
 grind
theorem Hy{u:α->α}{esz tz off:Nat}(C:∀x,∃a,DI y a/\a.one=true/\a.cells.length=tz/\Ox (f x) esz tz off a=f (u x))(hle:off+tz<=esz)(N:C3 Φ H0 L H)(e:Cj q (Ar.len l))(i:Nat){j:Int}{k:A5->Prop}{F:Up α->OS R}
 (U:L[i]? =some (.blk q.id (.arr esz (q.pre++lst f l++q.rest))))(h:(Ex l j u).bind F=some r)
 (B:∀l' H',Cj q (Ar.len l')->F l'=some r->C3 Φ H0 (L.set i (.blk q.id (.arr esz (q.pre++lst f l'++q.rest)))) H'->k H'):E.ostore H q.id (ofs q.lo j) esz tz off y k:=by
 have⟨l',O,Z⟩:=bind_some h
 unfold Ex at O
 cases M:C4 l j with
 |none=>rw[M]at O;cases O
 | some x=>
  rw[M]at O
  simp only[K1,E5]at O
  have⟨W,A⟩:=Ac5 hE M;have⟨a,G,J,Q,Y⟩:=C x;have s:=Ax2 hE (f:=f) A
  have e2:(lst f l).set j.toNat (f (u x))=lst f l':=by
   rw[<-O,lst_eq,lst_eq,OP]
  subst hE;have v:=N4 (f:=f) l
  have z:(ofs q.lo j).toNat=q.pre.length+j.toNat:=by rw[ofs_eq,e.1];omega
  refine⟨_,a,G,J,Q,hle,N.get i U,?_,?_⟩
  ·rw[ofs_eq,e.1];grind
  rw[z,Az4 (by rw[v];omega),BI4 (by rw[v];omega),s,Y,e2];refine B l' _ ⟨e.1,?_⟩ Z (N.set i U);rw[e.2,len_eq,len_eq,<-O,OK]
theorem XL{by_:Nat}(y:by_<=131072){z:V}{z0:α}(Y:DI z (f z0))(x:C3 Φ H0 L H){n m:Int}{k:V->A5->Prop}{F:Up α->OS R}(h:(YZ n m z0).bind F=some r)
 (N:∀a (q:OG) H',Cj q (Ar.len a)->F a=some r->C3 Φ H0 (.blk q.id (.arr sz (q.pre++lst f a++q.rest))::L) H'->k (.own q.id q.lo q.n) H'):E.omk sz by_ z n m H k:=by
 subst hE;have⟨a,O,Z⟩:=bind_some h
 unfold YZ at O
 split at O
 ·rename_i i;cases O;refine⟨⟨i.1,i.2.1,?_⟩,List.replicate m.toNat (f z0),?_,λid v=>?_⟩
  ·have:m*(by_:Nat)<=1073741824*131072:=Int.mul_le_mul i.2.2 AY AY AY;omega
  ·have:∀k:Nat,M7 (List.replicate k z) (List.replicate k (f z0)):=λk=>by
    induction k with
    |zero=>exact .nil
    |succ k ih=>rw[List.replicate_succ,List.replicate_succ];exact .cons Y ih
   exact this _
  have e:List.replicate m.toNat (f z0)=[]++lst f (List.replicate n.toNat z0)++List.replicate (m.toNat-n.toNat) (f z0):=by
   rw[lst_eq,List.map_replicate,K3,Vi];grind
  rw[e];exact N _ ⟨id,0,n,[],List.replicate (m.toNat-n.toNat) (f z0)⟩ _ ⟨rfl,by rw[len_eq];simp;omega⟩ Z (x.push v rfl)
 cases O
theorem Ff{by_:Nat}{z:V}(J:∀x,(f x).cells.length=sz)(s:by_<=131072)(N:C3 Φ H0 L H)(v:Cj q (Ar.len l))(i:Nat)(U:L[i]? =some (.blk q.id (.arr sz (q.pre++lst f l++q.rest)))){m:Up α}{k:V->A5->Prop}{F:Up α->OS R}
 (G:Wb sz H y (lst f m))(h:(K2 l m).bind F=some r)
 (B:∀x (q:OG) H',Cj q (Ar.len x)->C3 Φ H0 (L.set i (.blk q.id (.arr sz (q.pre++lst f x++q.rest)))) H'->F x=some r->k (.own q.id q.lo q.n) H'):E.oapp sz by_ z H (.own q.id q.lo q.n) y k:=by
 subst hE;have⟨x,O,Z⟩:=bind_some h;have u:=N4 (f:=f) l;have em:=N4 (f:=f) m
 have a:q.n=(l.length:Nat):=by rw[v.2,len_eq]
 unfold K2 at O
 split at O
 ·rename_i C;cases O;refine⟨_,G,_,N.get i U,λA=>?_,λ_=>⟨?_,λt j M=>?_⟩⟩
  rotate_left
  ·rw[em,a,Z5];exact U0 (Z3 C s) Sz
  rotate_left
  ·have e:Cp (q.pre++lst f l++q.rest) (q.lo+q.n).toNat (lst f m)=q.pre++lst f (l++m)++q.rest.drop m.length:=by
    rw[Au8 (by rw[v.1,a,u];omega),QH,em]
   rw[e];refine B _ ⟨q.id,q.lo,q.n+((lst f m).length:Nat),q.pre,q.rest.drop m.length⟩ _ ⟨v.1,?_⟩ (N.set i U) Z;rw[len_eq,a,em];simp
  have e:P2 (q.pre++lst f l++q.rest) q.lo q.n++lst f m++List.replicate j z=[]++lst f (l++m)++List.replicate j z:=by
   rw[NG v.1 (by rw[u];exact a),QH,K3]
  rw[e];refine B _ ⟨t,0,q.n+((lst f m).length:Nat),[],List.replicate j z⟩ _ ⟨rfl,?_⟩ (N.swap' i U M) Z;rw[len_eq,a,em];simp
 cases O
theorem AV8{by_:Nat}{z:V}(N:∀x,(f x).cells.length=sz)(a:by_<=131072)(e:C3 Φ H0 L H){x:V}(M:x= .sl [] .nil\/x= .sl [] .full){m:Up α}{k:V->A5->Prop}{F:Up α->OS R}
 (G:Wb sz H y (lst f m))(h:(K2 [] m).bind F=some r)
 (v:∀x (q:OG) H',Cj q (Ar.len x)->C3 Φ H0 (.blk q.id (.arr sz (q.pre++lst f x++q.rest))::L) H'->F x=some r->k (.own q.id q.lo q.n) H'):E.oapp sz by_ z H x y k:=by
 subst hE;have⟨x',O,Z⟩:=bind_some h;have em:=N4 (f:=f) m
 unfold K2 at O
 split at O
 ·rename_i i;cases O;refine⟨_,G,?_⟩
  have key:(lst f m).length*by_<=140737488355328/\∀t j,H t=none->k (.own t 0 ((lst f m).length:Nat)) (upd H t (some (.arr sz (lst f m++List.replicate j z)))):=by
   refine⟨?_,λt j s=>?_⟩
   ·rw[em];exact U0 (Z3 (by simpa using i) a) Sz
   refine v m ⟨t,0,((lst f m).length:Nat),[],List.replicate j z⟩ _ ⟨rfl,by rw[len_eq,em]⟩ ?_ Pw;exact e.push s rfl
  grind[Kg]
 cases O
theorem BH (h:Cj q (Ar.len l)):Cj q ((lst f l).length:Nat):=⟨h.1,by rw[h.2,len_eq,N4]⟩
theorem AT3 (e:C3 Φ H0 L H)(a:Cj q (Ar.len l))(i:Nat)(U:L[i]? =some (.blk q.id (.arr sz (q.pre++lst f l++q.rest)))):Wb sz H (.own q.id q.lo q.n) (lst f l):=by
 refine⟨_,e.get i U,?_⟩;rw[NG a.1 (by rw[a.2,len_eq,N4])];exact .refl _
theorem Dr(a:∀x,(f x).cells.length=sz){ys:Up V}{tl:G5}(h:M7 ys (lst f l)):Wb sz H (.sl ys tl) (lst f l):=⟨h,PX a l⟩
theorem Aw2(u:C3 Φ H0 L H)(y:Cj q (Ar.len l))(i:Nat)(U:L[i]? =some (.blk q.id (.arr sz (q.pre++lst f l++q.rest)))){lo v:OS Int}{k:V->Prop}{F:Up α->OS R}
 (h:(Dc l lo v none).bind F=some r)(A:∀x (q:OG),Cj q (Ar.len x)->C3 Φ H0 (L.set i (.blk q.id (.arr sz (q.pre++lst f x++q.rest)))) H->F x=some r->k (.own q.id q.lo q.n)):
 E.oslice sz H q.id q.lo q.n lo v none k:=by
 subst hE;have⟨x,O,Z⟩:=bind_some h;have J:=N4 (f:=f) l
 have N:q.n=(l.length:Nat):=by rw[y.2,len_eq]
 unfold Dc at O
 split at O
 ·rename_i z;cases O;have⟨C,G,c3,c4,c5⟩:=z
  simp only[LR]at c3
  refine⟨_,u.get i U,?_,?_⟩
  ·rw[N,y.1]
   grind
  rw[N]
  generalize M:lo.getD 0=a at *
  generalize Q:v.getD (l.length:Nat)=b at *
  have B:((l.drop a.toNat).take (b.toNat-a.toNat)).length=b.toNat-a.toNat:=by simp;omega
  refine A _ ⟨q.id,q.lo+a,b-a,q.pre++lst f (l.take a.toNat),lst f (l.drop b.toNat)++q.rest⟩ ⟨?_,?_⟩ ?_ Z
  ·simp only[N1,N4,EV,y.1];omega
  ·rw[len_eq,B];grind
  have e:q.pre++lst f (l.take a.toNat)++lst f ((l.drop a.toNat).take (b.toNat-a.toNat))++(lst f (l.drop b.toNat)++q.rest)=q.pre++lst f l++q.rest:=by
   have j:l=l.take a.toNat++((l.drop a.toNat).take (b.toNat-a.toNat)++l.drop b.toNat):=by
    have e2:l.drop b.toNat=(l.drop a.toNat).drop (b.toNat-a.toNat):=by rw[Jh];grind
    rw[e2,Da,Da]
   have s:lst f l=lst f (l.take a.toNat)++(lst f ((l.drop a.toNat).take (b.toNat-a.toNat))++lst f (l.drop b.toNat)):=by
    rw[QH,QH,<-j]
   rw[s];grind
  grind[C3.set_self]
 cases O
theorem Bh9(N:C3 Φ H0 L H)(s:Cj q (Ar.len l))(i:Nat)(U:L[i]? =some (.blk q.id (.arr sz (q.pre++lst f l++q.rest)))){lo e:OS Int}{k:V->Prop}{F:Up α->OS R}
 (h:(Dc l lo e none).bind F=some r)(j:∀x (a:OG),Wb sz H (.own a.id a.lo a.n) (lst f x)->F x=some r->k (.own a.id a.lo a.n)):
 E.oslice sz H q.id q.lo q.n lo e none k:=
 Aw2 hE N s i U h λx a y v Z=>j x a (AT3 hE v y i (by rw[Z4];grind)) Z
theorem RJ(a:C3 Φ H0 L H)(e:Cj q (Ar.len l))(i:Nat){k:Up V->A5->Prop}(U:L[i]? =some (.blk q.id (.arr sz (q.pre++lst f l++q.rest))))(h:∀H',C3 Φ H0 (L.eraseIdx i) H'->k (lst f l) H'):E.ofrz H q.id q.lo q.n k:=by
 subst hE;have:=h _ (a.del i U);refine⟨_,_,_,a.get i U,.refl _,?_⟩;rw[NG e.1 (by rw[e.2,len_eq,N4])];exact this
end
def Ax1{α:Type}{f:α->V}{l:Up α}(h:lst f l=[]):l=[]:=by
 rw[lst_eq]at h;simp_all
def AE1{α:Type}{f:α->V}{l r:Up α}(M:lst f l=[])(h:(K2 [] l).bind (λx=>some x)=some r):lst f r=[]:=by
 rw[Ax1 M]at h
 grind[K2,lst_eq]
def AQ2 (F:A5)(sz:Nat)(xs:Up V)(v:V)(H':A5):Prop:=∃q:OG,v= .own q.id q.lo q.n/\Cj q (xs.length:Nat)/\F q.id=none/\H'=upd F q.id (some (.arr sz (q.pre++xs++q.rest)))
def YX (P:If)(f:FuncId)(args:Up V)(sz:Nat)(xs:Up V):Prop:=∀H,L5 P f args H (AQ2 H sz xs)
def Ok (P:If)(f:FuncId)(args:Up V)(sz:Nat)(xs a:Up V):Prop:=
 ∀H (q:OG),Cj q (xs.length:Nat)->H q.id=some (.arr sz (q.pre++xs++q.rest))->L5 P f (.own q.id q.lo q.n::args) H (AQ2 (upd H q.id none) sz a)
def Na (mk:V->V):Prop:=∀(g:Gh) (w:Is) (u:HO) (x:V),VR g w u (mk x)->∃v,VR g w v x/\∀(g':Gh) (w':Is) (y:V),Al g w g' w'->VR g' w' v y->VR g' w' u (mk y)
theorem Na.id:Na λx=>x:=λ_ _ u _ h=>⟨u,h,λ_ _ _ _ k=>k⟩
def Na.agg (cs:Up V) (i:Nat) (U:i<cs.length):Na λx=>.agg (cs.set i x):=λg w u x h=>by
 cases h with
 |agg B O v=>
  rename_i vs
  have a:i<(cs.set i x).length:=Pw
  refine⟨vs.getD i undef,by have:=v i a;rwa[Hg U,A2 rfl]at this,λg' w' y s k=>?_⟩;refine .agg Pw (λj z=>O j Pw) λj z=>?_;rw[Hg U]
  split
  ·simp_all
  rename_i e;have:=v j Pw
  rw[Hg U,A1 e]at this
  exact this.mono s
def Na.tup (cs:Up V) (i:Nat) (U:i<cs.length):Na λx=>.tup (cs.set i x):=λg w u x h=>by
 cases h with
 |tup B v=>
  rename_i vs
  have a:i<(cs.set i x).length:=Pw
  refine⟨vs.getD i undef,by have:=v i a;rwa[Hg U,A2 rfl]at this,λg' w' y s k=>?_⟩;refine .tup Pw λj z=>?_;rw[Hg U]
  split
  ·simp_all
  rename_i e;have:=v j Pw
  rw[Hg U,A1 e]at this
  exact this.mono s
def L5.adopt{P:If}{f:FuncId}{args:Up V}{H:A5}{sz:Nat}(h:L5 P f args H λx H'=>K x H'\/(x= .sl [] .nil/\∀t,H' t=none->K (.own t 0 0) (upd H' t (some (.arr sz []))))):L5 P f args H K:=
 λg w vals C u=>(h g w vals C u).mono λv w' ⟨g',x,H',s,e,j,a⟩=>by
  rcases a with a|⟨rfl,a⟩
  ·grind[O6]
  have⟨N,A,i,z,y⟩:=Hc e sz (.inl rfl) j;exact⟨N,_,_,s.trans A,i,y,a _ z⟩
def BR8 (F:A5)(sz:Nat)(xs:Up V)(mk:V->V)(v:V)(H':A5):Prop:=∃q:OG,v=mk (.own q.id q.lo q.n)/\Cj q (xs.length:Nat)/\F q.id=none/\H'=upd F q.id (some (.arr sz (q.pre++xs++q.rest)))
def BF9 (P:If)(f:FuncId)(args:Up V)(sz:Nat)(xs:Up V)(mk:V->V):Prop:=∀H,L5 P f args H (BR8 H sz xs mk)
def L5.adoptG{P:If}{f:FuncId}{args:Up V}{H:A5}{sz:Nat}{mk:V->V}(B:Na mk)(h:L5 P f args H λx H'=>K x H'\/(x=mk (.sl [] .nil)/\∀t,H' t=none->K (mk (.own t 0 0)) (upd H' t (some (.arr sz []))))):L5 P f args H K:=
 λg w vals C A=>(h g w vals C A).mono λv w' ⟨g',x,H',s,e,j,a⟩=>by
  rcases a with a|⟨rfl,a⟩
  ·grind[O6]
  have⟨u,J,W⟩:=B g' w' v _ j;have⟨z,N,i,G,y⟩:=Hc e sz (.inl rfl) J;exact⟨z,_,_,s.trans N,i,W _ _ _ N y,a _ G⟩
def C3.last{F H:A5}{b:FV}(h:C3 Eq F [.blk t b] H):F t=none/\JI (upd F t (some b)) H:=by
 have⟨G,v,J,a,O,Z⟩:=h;subst O;have i:=a.has 0 _ t b rfl rfl;refine⟨i.1,λx c M=>?_⟩
 by_cases e:x=t
 ·grind[JI,upd]
 exact zbx
def C3.only{F H:A5}{L:Up En}{b:FV}(h:C3 Eq F L H)(i:Nat)(U:L[i]? =some (.blk t b)):C3 Eq F [.blk t b] H:=by
 have⟨G,y,J,a,O,Z⟩:=h;subst O;have v:=a.has i _ t b U rfl;refine⟨G,upd F t (some b),upd F t (some b),(DK.start F).push v.1 rfl,rfl,λx c M=>?_⟩
 by_cases e:x=t
 ·grind[JI,upd]
 exact zbx
def C3.only1{F H:A5}{L:Up En}{b:FV}(h:C3 Eq F (.blk t b::L) H):C3 Eq F [.blk t b] H:=by
 have⟨G,v,J,a,O,Z⟩:=h;subst O;have i:=a.has 0 _ t b rfl rfl;refine⟨G,upd F t (some b),upd F t (some b),(DK.start F).push i.1 rfl,rfl,λx c M=>?_⟩
 by_cases e:x=t
 ·grind[JI,upd]
 exact zbx
section
variable {P:Program}{T:JV}{f:FuncId}{fn:Func}{c:Code}{n:Nat}{rs:List ResultVar}{args:List V}
def Ew{F H:A5}{sz:Nat}(i:Cf)(s:YV P T)(u:P.funcs[f]? =some fn)(W:fn.body=some c)(hd:M4 i c=true)
 (a:∀vals w,(callFunc f vals).run P w= .ok (.enter f vals) w)(N:fn.ntmps=n)(j:fn.results.toList=rs)(z:Nat.ble args.length n=true)
 (h:∀(E:Hj) (K:V->A5->Prop),E=J1 P n none->(∀(q:OG) L H',Cj q (xs.length:Nat)->C3 Eq F (.blk q.id (.arr sz (q.pre++xs++q.rest))::L) H'->K (.own q.id q.lo q.n) H')->(xs=[]->∀L H',C3 Eq F L H'->K (.sl [] .nil) H')->run E T n i c ⟨EA args 0,[]⟩ H (Tj E T rs K)):
 L5 P f args H (AQ2 F sz xs):=by
 refine L5.adopt (sz:=sz) (L5.le (Ai (K:=λx H'=>∃y e,DI x y/\JI e H'/\(AQ2 F sz xs y e\/(y= .sl [] .nil/\∀t,e t=none->AQ2 F sz xs (.own t 0 0) (upd e t (some (.arr sz [])))))) i s.1 s.2 u W hd a N j z λE hE=>?_));refine h E _ hE (λq L H' A v=>?_) λM L H' v=>?_
 ·have⟨O,Z⟩:=v.only1.last;exact⟨_,_,.refl _,Z,.inl ⟨q,rfl,A,O,rfl⟩⟩
 exact⟨_,F,.refl _,v.ext,.inr ⟨rfl,λt B=>⟨⟨t,0,0,[],[]⟩,rfl,⟨rfl,by rw[M];rfl⟩,B,by rw[M];rfl⟩⟩⟩
end
section
variable {P:Program}{nt:Nat}{rd:Option Nat}{T:JV}{E:Hj}
variable (hE:E=J1 P nt rd)
include hE
theorem AW6{α β R:Type}{f:α->V}{Φ:A5->A5->Prop}{H0 H:A5}{L:Up En}{sz:Nat}{r:R}{m:OS β}{F:β->OS R}{g:β->Up α}{mk:β->V->V}{fid:FuncId}{args args':Up V}{k:V->A5->Prop}
 (h:m.bind F=some r)(y:∀x,m=some x->BF9 P fid args' sz (lst f (g x)) (mk x))(B:M7 args args')(i:C3 Φ H0 L H)
 (N:∀x (q:OG) H',Cj q (Ar.len (g x))->C3 Φ H0 (.blk q.id (.arr sz (q.pre++lst f (g x)++q.rest))::L) H'->F x=some r->k (mk x (.own q.id q.lo q.n)) H'):
 E.call (.func (.func fid) [] []) args H k:=by
 subst hE;have⟨x,O,Z⟩:=bind_some h;refine L5.value (F:=[]) (C:=[]) ?_;have:=((y x O) H).args B;simp only[K3,F2]
 exact this.mono λv H' ⟨q,a,e0,e2,e⟩=>by
  exact zb4
variable {α R S:Type}{f:α->V}{Φ:A5->A5->Prop}{H0 H:A5}{L:List En}{sz:Nat}{q:OG}{r:R}{m:Option (List α)}{F:List α->Option R}{fid:FuncId}{args args':List V}{k:V->A5->Prop}
theorem NQ (h:m.bind F=some r) (y:∀x,m=some x->YX P fid args' sz (lst f x)) (B:M7 args args') (i:C3 Φ H0 L H)
 (N:∀x (q:OG) H',Cj q (Ar.len x)->C3 Φ H0 (.blk q.id (.arr sz (q.pre++lst f x++q.rest))::L) H'->F x=some r->k (.own q.id q.lo q.n) H'):
 E.call (.func (.func fid) [] []) args H k:=by
 subst hE;have⟨x,O,Z⟩:=bind_some h;refine L5.value (F:=[]) (C:=[]) ?_;have:=((y x O) H).args B;simp only[K3,F2]
 exact this.mono λv H' ⟨q,a,e0,e2,e⟩=>by
  exact zb4
theorem HA{l:Up α}(a:C3 Φ H0 L H)(s:Cj q (Ar.len l))(i:Nat)(U:L[i]? =some (.blk q.id (.arr sz (q.pre++lst f l++q.rest))))(h:m.bind F=some r)(N:∀x,m=some x->Ok P fid args' sz (lst f l) (lst f x))(B:M7 args args')
 (j:∀x (q:OG) H',Cj q (Ar.len x)->C3 Φ H0 (L.set i (.blk q.id (.arr sz (q.pre++lst f x++q.rest)))) H'->F x=some r->k (.own q.id q.lo q.n) H'):
 E.call (.func (.func fid) [] []) (.own q.id q.lo q.n::args) H k:=by
 subst hE;have⟨x,O,Z⟩:=bind_some h;refine L5.value (F:=[]) (C:=[]) ?_;have:=((N x O) H q (by rw[N4,<-len_eq];exact s) (a.get i U)).args (.cons (.refl _) B);simp only[K3,F2]
 exact this.mono λv H' ⟨u,e,e0,e2,y⟩=>by
  subst e;subst y;exact j x u _ (by rw[len_eq];rwa[N4]at e0) (a.swap i U e2) Z
theorem Bv8{p:Prop}{v:V}{a b:Unit->Prop}(j:Bh8 v=some p)(O:p->a ())(e:b ()):E.nilc v a b:=by grind[J1]
end
section
variable {P:Program}{T:JV}{f:FuncId}{fn:Func}{c:Code}{n:Nat}{rs:List ResultVar}{args:List V}
def YG{H:A5}{sz:Nat}{q:OG}{a:Up V}(i:Cf)(s:YV P T)(B:P.funcs[f]? =some fn)(W:fn.body=some c)(hd:M4 i c=true)
 (e:∀vals w,(callFunc f vals).run P w= .ok (.enter f vals) w)(v:fn.ntmps=n)(N:fn.results.toList=rs)(C:Nat.ble (args.length+1) n=true)
 (h:∀(E:Hj) (K:V->A5->Prop),E=J1 P n none->
  (∀(t:Nat) (lo m:Int) (row pre rest:Up V) H',row=pre++a++rest->lo=(pre.length:Nat)->m=(a.length:Nat)->(t=q.id\/H t=none)->JI (upd (upd H q.id none) t (some (.arr sz row))) H'->K (.own t lo m) H')->
  run E T n i c ⟨EA (.own q.id q.lo q.n::args) 0,[]⟩ H (Tj E T rs K)):
 L5 P f (.own q.id q.lo q.n::args) H (AQ2 (upd H q.id none) sz a):=by
 refine L5.le (Ai (K:=λx H'=>∃y j,DI x y/\JI j H'/\AQ2 (upd H q.id none) sz a y j) i s.1 s.2 B W hd e v N C λE hE=>?_);refine h E _ hE λt lo m row pre rest H' u e2 z e4 A=>?_;subst u;refine⟨_,_,.refl _,A,⟨t,lo,m,pre,rest⟩,rfl,⟨e2,z⟩,?_,rfl⟩
 grind[upd]
end
section
variable {P:Program}{nt:Nat}{rd:Option Nat}{T:JV}{E:Hj}
variable (hE:E=J1 P nt rd)
include hE
variable {H:A5}{sz id:Nat}{l n RL:Int}{row:List V}
theorem AS(x:H id=some (.arr sz row))(B:RL=(row.length:Nat)){lo U:OS Int}{k:V->Prop}(a b:Int)(u:lo.getD 0=a)(W:U.getD n=b)(O:0<=a)(Z:a<=b)(v:l+b<=RL)(h:∀e i,e=l+a->i=b-a->k (.own id e i)):
 E.oslice sz H id l n lo U none k:=by
 grind[J1]
theorem Bh0(x:H id=some (.arr sz row))(B:RL=(row.length:Nat)){lo U:OS Int}{m:Int}{k:V->Prop}(a b:Int)(u:lo.getD 0=a)(W:U.getD n=b)(O:0<=a)(Z:a<=b)(e:b<=m)(i:l+m<=RL)(v:U.isSome=true)(h:k .bad):
 E.oslice sz H id l n lo U (some m) k:=by
 grind[J1]
theorem BX5(a:H id=some (.arr sz row))(B:RL=(row.length:Nat)){k:Int->Prop}(h:∀c,c=RL-l->k c):E.ocap H id l k:=by
 grind[J1]
theorem Ai5{k:Int->Prop}(h:k n):E.olen n k:=by grind[J1]
theorem Ui{c:Bool}{x y:Unit->Prop}(O:c=true->x ())(Z:c=false->y ()):E.br c x y:=by simp_all[J1]
theorem Oy(B:RL=(xs.length:Nat)){k:Int->Prop}(h:k RL):E.ln xs k:=by simp_all[J1]
theorem Wo{k:V->Prop}(h:k (.sl [] .nil)):E.slice sz [] .nil none (some 0) none k:=by
 subst hE;exact⟨⟨Sz,Sz,Sz,Sz,λh=>(by cases h),.inl Sz⟩,h⟩
theorem Ag8 (a:H id=some (.arr sz row)):Wb sz H (.own id l n) (P2 row l n):=⟨_,a,.refl _⟩
theorem SL(e:H id=some (.arr sz row)){ys':Up V}(G:Wb sz H y ys'){YL:Int}(i:YL=(ys'.length:Nat)){k:V->A5->Prop}
 (h:∀m a,m=(if n<YL then n else YL)->a=Cp row l.toNat (ys'.take n.toNat)->k (.int .i64 m) (upd H id (some (.arr sz a)))):E.ocopy sz H (.own id l n) y k:=by
 grind[J1]
theorem Bt5{z:V}(e:H id=some (.arr sz row)){k:A5->Prop}(h:∀a,a=Cp row l.toNat (List.replicate n.toNat z)->k (upd H id (some (.arr sz a)))):E.oclear sz z H (.own id l n) k:=by
 simp_all[J1]
theorem Bt6{by_:Nat}{z:V}(v:H id=some (.arr sz row))(B:RL=(row.length:Nat)){ys':Up V}(G:Wb sz H y ys'){YL:Int}(N:YL=(ys'.length:Nat)){k:V->A5->Prop}
 (i:l+n+YL<=RL->∀m a,m=n+YL->a=Cp row (l+n).toNat ys'->k (.own id l m) (upd H id (some (.arr sz a))))
 (h:RL<l+n+YL->(n.toNat+ys'.length)*by_<=140737488355328/\∀t m a j,H t=none->m=n+YL->a=P2 row l n++ys'++List.replicate j z->k (.own t 0 m) (upd H t (some (.arr sz a)))):
 E.oapp sz by_ z H (.own id l n) y k:=by
 subst hE;subst B;subst N;exact⟨_,G,_,v,λe=>i e _ _ rfl rfl,λe=>⟨(h e).1,λt j x=>(h e).2 t _ _ j x rfl rfl⟩⟩
theorem BJ6{by_:Nat}{z:V}{i0:Int}(i:Int)(U:i0=i)(s:H id=some (.arr sz row))(B:RL=(row.length:Nat))(x:0<=i)(W:(n.toNat+i.toNat)*by_<=140737488355328){k:V->A5->Prop}
 (N:l+n+i<=RL->∀m a,m=n+i->a=Cp row (l+n).toNat (List.replicate i.toNat z)->k (.own id l m) (upd H id (some (.arr sz a))))
 (v:RL<l+n+i->∀t m a j,H t=none->m=n+i->a=P2 row l n++List.replicate i.toNat z++List.replicate j z->k (.own t 0 m) (upd H t (some (.arr sz a)))):
 E.oappz sz by_ z H (.own id l n) i0 k:=by
 subst hE;subst B;subst U
 generalize i0=i at *
 have e:((i.toNat:Nat):Int)=i:=AY
 have y:n.toNat+i.toNat<=(n.toNat+i.toNat)*by_\/by_=0:=by
  rcases OX by_ with h|h
  ·exact .inr h
  simp_all[Pm]
 refine⟨⟨x,W⟩,_,s,λhle=>?_,λu=>⟨?_,λt j A=>?_⟩⟩
 ·simp_all
 ·grind
 simp_all
theorem SM{by_:Nat}{z x:V}{i0:Int}(i:Int)(U:i0=i)(M:x= .sl [] .nil\/x= .sl [] .full)(v:0<=i)(W:i.toNat*by_<=140737488355328){k:V->A5->Prop}
 (h:∀t m a j,H t=none->m=i->a=List.replicate i.toNat z++List.replicate j z->k (.own t 0 m) (upd H t (some (.arr sz a)))):
 E.oappz sz by_ z H x i0 k:=by
 subst hE;subst U
 generalize i0=i at *
 have e:((i.toNat:Nat):Int)=i:=AY
 have key:Kg H k sz by_ z x (List.replicate i.toNat z):=by
  have Z:(List.replicate i.toNat z).length*by_<=140737488355328/\∀t j,H t=none->k (.own t 0 ((List.replicate i.toNat z).length:Nat)) (upd H t (some (.arr sz (List.replicate i.toNat z++List.replicate j z)))):=by
   simp_all
  grind[Kg]
 refine⟨⟨v,?_⟩,key⟩
 rcases M with rfl|rfl<;>simpa[ownN]using W
end
end Go.Ab
namespace Go.Ab
open Go.RowKit
variable{α:Type}
def WT{A B C row:Up V}{lo n:Int}(Q:row=A++B++C)(a:lo=(A.length:Nat))(O:n=(B.length:Nat)):P2 row lo n=B:=by
 simp_all[P2]
def NK{A B C ys row:Up V}{i:Nat}(Q:row=A++B++C)(U:i=A.length)(a:ys.length=B.length):Cp row i ys=A++ys++C:=by
 simp_all[Cp]
def BH4{row ys:Up V}{l n m RL:Int}(a:RL=(row.length:Nat))(i:m=(ys.length:Nat))(e:0<=l)(O:0<=n)(h:l+n+m<=RL):(l+n).toNat+ys.length<=row.length:=AY
def BQ2{pre xs rest row a e:Up V}{z:V}{lo i j n u J x y m G N:Int}(Q:row=pre++xs++rest)(Y:lo=(pre.length:Nat))(e2:n=(xs.length:Nat))(h0:0<=i)(O:i<=j)(Z:j<=(xs.length:Nat))
 (q1:u=lo)(q2:J=i)(q3:x=lo+j)(q4:y=n-j)(h:a=Cp row (u+J).toNat (P2 row x y))(W:m=J+((P2 row x y).length:Nat))(q6:G=u+m)(q7:N=n-m)(s:e=Cp a G.toNat (List.replicate N.toNat z)):
 e=pre++(xs.take i.toNat++xs.drop j.toNat)++(List.replicate (j-i).toNat z++rest)/\m=((xs.take i.toNat++xs.drop j.toNat).length:Nat):=by
 have M:P2 row x y=xs.drop j.toNat:=by
  refine WT (A:=pre++xs.take j.toNat) (C:=rest) ?_ ?_ ?_
  ·rw[Q];simp_all
  ·simp;omega
  grind
 rw[M]at h W
 have U:m=((xs.take i.toNat++xs.drop j.toNat).length:Nat):=Pw
 refine⟨?_,U⟩
 have v:a=(pre++xs.take i.toNat)++xs.drop j.toNat++((xs.drop i.toNat).drop (xs.length-j.toNat)++rest):=by
  rw[h];refine NK (B:=(xs.drop i.toNat).take (xs.length-j.toNat)) ?_ ?_ ?_
  ·rw[Q]
   grind[List.take_append_drop]
  ·simp;omega
  grind
 rw[s];have:=NK (row:=a) (A:=pre++xs.take i.toNat++xs.drop j.toNat) (B:=(xs.drop i.toNat).drop (xs.length-j.toNat)) (C:=rest) (ys:=List.replicate N.toNat z) (i:=G.toNat) (by rw[v];simp_all) Pw Pw;rw[this,show N.toNat=(j-i).toNat by grind]
 simp_all
def BW1[O7]{H:A5}{id:Nat}{b:FV}(h:H id=some b):JI (Go.Ab.upd H id (some b)) H:=λy c a=>by
 grind[upd]
def AZ4[O7]{H:A5}{id t:Nat}{b:OS FV}:JI (Go.Ab.upd (Go.Ab.upd H id none) t b) (Go.Ab.upd H t b):=λx d M=>by
 grind[upd]
def QG{a b by_:Nat}(h:a+b<=1073741824)(W:by_<=131072):(a+b)*by_<=140737488355328:=U0 (Z3 h W) Sz
def BM8[Ar]{f:α->V}{l r:Up α}{i j:Int}(h:Tw l i j=some r):0<=i/\i<=j/\j<=((lst f l).length:Nat)/\lst f r=(lst f l).take i.toNat++(lst f l).drop j.toNat:=by
 unfold Tw at h
 split at h
 ·rename_i a;cases h
  simp_all[lst_eq]
 cases h
def BM7[Ar]{f:α->V}{l r m:Up α}{i:Int}(h:Tb l i m=some r):0<=i/\i<=((lst f l).length:Nat)/\(lst f l).length+(lst f m).length<=1073741824/\lst f r=(lst f l).take i.toNat++lst f m++(lst f l).drop i.toNat:=by
 unfold Tb at h
 split at h
 ·rename_i a;cases h
  simp_all[lst_eq]
 cases h
def SX[O7][Ar]{f:α->V}{l r:Up α}{n:Int}(h:Tg l n=some r):0<=n/\n<=1073741824/\lst f r=[]:=by
 grind[Tg,lst_eq]
end Go.Ab
namespace Go.Ab
open Go.RowKit
variable [O7]
def Ai3 {P:If} {g:Gh} {H:A5} {w:Is} (C:Rl g H w) {tS tR e:Do} {sz id:Nat} {lo n:Int} {xs row:Up V} {t:G5} {v u:HO} (hu:Ic P tS=some e) (G:Hk P e=some sz) (hk:H id=some (.arr sz row))
 (N:xs.all (λx=>x.cells.length==sz)=true) (j:VR g w v (.sl xs t)) (hw:VR g w u (.own id lo n)):(Extern.SlicesOverlaps.overlaps #[tS,tS] #[tR] #[v,u]).run P w= .ok (.bool false) w:=by
 have⟨b,p,O,Z,h3,h4,h5,h6,h7,h8,h9,y⟩:=Gm C hk hw;have⟨base,cap,vs,f1,f2,f3,f4,f5⟩:=GZ (P:=P) j N;have ht:=U7 hu;have Y:=T5 G;subst f1;subst Z;have⟨i,h⟩:∃i,i=xs.length:=⟨_,rfl⟩;have⟨B,ac⟩:∃B,B=n.toNat:=⟨_,rfl⟩;rw[<-h,<-ac]
 change Sem.run P (α:=HO) (do
  let some t:=(#[tS,tS]:SI Do)[0]? |stuck "slices.overlaps: no parameter types"
  let .slice elem <-underlying t|stuck "slices.overlaps: slice type expected"
  let size <-sizeOf elem
  match base,p with
  | some a,some b=>
   if i=0\/B=0\/size=0 then pure (Value.bool false)
   else if a.block !=b.block&&(<-frozen a)&&(<-frozen b)then unsupported .addressObserved
   else do
    if a.block !=b.block then do
     noView a;noView b
     if <-mayBeOne a b then return Value.bool ((<-choose (.extern "sameAddr.stringBytes" 2))==1)
    pure (Value.bool (a.block==b.block&&a.off<b.off+B*size&&b.off<a.off+i*size))
  |_,_=>pure (Value.bool false)) w=_
 rcases f5 with⟨M,_⟩|⟨J,Q,rfl,f6,f7,_⟩
 ·have s:i=0:=by rw[h,M];rfl
  cases base<;>cases p<;>simp[run_underlying ht,Y,s]
 cases p with
 |none=>simp_all[run_underlying]
 | some q=>
  by_cases h0:i=0\/B=0\/sz=0
  ·simp[run_underlying ht,Y,h0]
  have aj:0<xs.length:=AY
  have am:0<n.toNat:=AY
  have ag:0<sz:=AY
  have hq:=h8 AY;cases hq
  rcases y with y|⟨c,T,k1,k2,k3,k4,k5,k6⟩
  ·omega
  have al:0<c.size:=by
   have:=J0 sz (show 1<=row.length by omega);omega
  have U:∀o,w.frozen? ⟨b,o,none⟩=false:=λo=>by simp[World.frozen?,k2]
  have A:w.shape? b=some (T,c.size):=by simp[World.shape?,k2]
  have ai:=f6 0 0 aj ag
  have⟨tA,kA,ah⟩:∃tA kA,w.shape? J=some (tA,kA+1):=by
   have:=ai.2
   simp only[World.cell?]at this
   split at this
   ·rename_i c' e' _ W
    simp at this
    have ad:Q+0*sz+0<c'.size:=by
     grind
    exact⟨e',c'.size-1,by simp[World.shape?,W];omega⟩
   grind
  by_cases af:J=b
  ·subst af;have ab:=(f6 (xs.length-1) (sz-1) AY AY).1
   have ad:Q+xs.length*sz<=(g.ow id).o:=by
    rcases R3 (Q+(xs.length-1)*sz+(sz-1)) (g.ow id).o with W|W
    ·have:xs.length*sz=(xs.length-1)*sz+sz:=by rw[<-LE];grind
     omega
    simp_all
   have ak:¬((g.ow id).o+lo.toNat*sz<Q+i*sz):=by rw[h];omega
   simp_all[run_underlying]
  have ae:(J !=b)=true:=Pw
  have z:(J==b)=false:=Pw
  have⟨kB,aa⟩:∃kB,c.size=kB+1:=⟨c.size-1,AY⟩
  rw[aa]at A
  simp[run_underlying ht,Y,h0,ae,z,frozen,noView,viewAt,mayBeOne,stringish,shape,Sem.run,ah,A,U]
def pck {P:If} {f:FuncId} {tS tR e:Do} {sz id:Nat} {lo n:Int} {xs row:Up V} {t:G5} {H:A5} (h:∀vals w,(callFunc f vals).run P w=((Extern.SlicesOverlaps.overlaps #[tS,tS] #[tR] vals).run P w).andThen λv w=>.ok (.value v) w)
 (N:Ic P tS=some e) (G:Hk P e=some sz) (y:H id=some (.arr sz row)) (a:xs.all (λx=>x.cells.length==sz)=true):L5 P f [.sl xs t,.own id lo n] H λx H'=>x= .bool false/\H'=H:=by
 intro g w vals C i;have⟨B,j⟩:=i;have⟨vals⟩:=vals
 match vals,B with
 |[v,u],_=>
  have O:=j 0 OC;have Z:=j 1 OC
  simp at O Z
  rw[h,Ai3 C N G y a O Z];exact O6.here C (.bool _) ⟨rfl,rfl⟩
def BJ7 [Ar]{P:If}{nt:Nat}{rd:OS Nat}{E:Hj}(hE:E=J1 P nt rd){fid:FuncId}{args:Up V}{r:V}{H:A5}{k:V->A5->Prop}(h:L5 P fid args H λx H'=>x=r/\H'=H)(e:k r H):E.call (.func (.func fid) [] []) args H k:=by
 subst hE;refine L5.value (F:=[]) (C:=[]) ?_;simp only[K3,F2]
 exact h.mono λx H' ⟨a,e2⟩=>by rw[a,e2];exact e
end Go.Ab
namespace Go.Ab
open Go.RowKit
variable{a vs xs:Up V}{m:Int}
def BO4[O7][Ar]{pre rest row:Up V}{lo n e:Int}(Q:row=pre++xs++rest)(i:lo=(pre.length:Nat))(e2:n=(xs.length:Nat))(v:e=(vs.length:Nat))(x:m=n+e)(h:a=Cp row (lo+n).toNat vs):
 a=pre++(xs++vs)++rest.drop vs.length/\m=((xs++vs).length:Nat):=by
 grind[Au8]
def Bz3{pre rest row:Up V}{z:V}{j:Nat}{lo n e:Int}(Q:row=pre++xs++rest)(i:lo=(pre.length:Nat))(e2:n=(xs.length:Nat))(v:e=(vs.length:Nat))(x:m=n+e)(h:a=P2 row lo n++vs++List.replicate j z):
 a=[]++(xs++vs)++List.replicate j z/\m=((xs++vs).length:Nat):=by
 simp_all[P2]
def BO3{pre rest row e h:Up V}{z:V}{j:Nat}{lo n i u d l1 U l2 W M Z:Int}(Q:row=pre++xs++rest)(e1:lo=(pre.length:Nat))(e2:n=(xs.length:Nat))(e3:u=(vs.length:Nat))(h0:0<=i)(O:i<=(xs.length:Nat))
 (qd:d=n+u-i)(qm:m=i+d)(v:e=P2 row lo i++List.replicate d.toNat z++List.replicate j z)(q1:l1=i)(q2:U=m-i)(x:a=Cp e l1.toNat (vs.take U.toNat))(q3:l2=i+u)(q4:W=m-(i+u))
 (q5:M=lo+i)(q6:Z=n-i)(N:h=Cp a l2.toNat ((P2 row M Z).take W.toNat)):
 h=[]++(xs.take i.toNat++vs++xs.drop i.toNat)++List.replicate j z/\m=((xs.take i.toNat++vs++xs.drop i.toNat).length:Nat):=by
 have s1:P2 row lo i=xs.take i.toNat:=WT (A:=pre) (C:=xs.drop i.toNat++rest) (by rw[Q];grind[List.take_append_drop]) e1 Ts;have s:P2 row M Z=xs.drop i.toNat:=WT (A:=pre++xs.take i.toNat) (C:=rest) (by rw[Q];simp_all) Ts Ts;have G:vs.take U.toNat=vs:=W4 AY;have J:(xs.drop i.toNat).take W.toNat=xs.drop i.toNat:=W4 Ts
 rw[s1]at v
 rw[G]at x
 rw[s,J]at N
 have Y:List.replicate d.toNat z=List.replicate vs.length z++List.replicate (xs.drop i.toNat).length z:=by
  rw[Vi];grind
 rw[Y]at v
 have y:a=xs.take i.toNat++vs++(List.replicate (xs.drop i.toNat).length z++List.replicate j z):=by
  rw[x];exact NK (B:=List.replicate vs.length z) (by rw[v];grind) Ts OC
 refine⟨?_,by simp;omega⟩;rw[N,K3];rw[NK (A:=xs.take i.toNat++vs) (B:=List.replicate (xs.drop i.toNat).length z) (C:=List.replicate j z) (by rw[y];simp_all) Ts OC]
def BZ8{pre rest row e:Up V}{lo n i y N U G j u W J:Int}(Q:row=pre++xs++rest)(e1:lo=(pre.length:Nat))(e2:n=(xs.length:Nat))(e3:y=(vs.length:Nat))(h0:0<=i)(O:i<=(xs.length:Nat)){RL:Int}(Y:RL=(row.length:Nat))(M:lo+n+y<=RL)
 (qm:m=n+y)(ql:N=lo)(q1:U=N+(i+y))(q2:G=m-(i+y))(q3:j=N+i)(q4:u=m-i)(h:a=Cp row U.toNat ((P2 row j u).take G.toNat))(q5:W=N+i)(q6:J=m-i)(x:e=Cp a W.toNat (vs.take J.toNat)):
 e=pre++(xs.take i.toNat++vs++xs.drop i.toNat)++rest.drop vs.length/\m=((xs.take i.toNat++vs++xs.drop i.toNat).length:Nat):=by
 have Z:vs.length<=rest.length:=Pw
 have z:vs.take J.toNat=vs:=W4 AY
 have s:(P2 row j u).take G.toNat=xs.drop i.toNat:=by
  have:P2 row j u=xs.drop i.toNat++rest.take vs.length:=WT (A:=pre++xs.take i.toNat) (C:=rest.drop vs.length) (by
   rw[Q];grind[List.take_append_drop]) Ts Ts
  rw[this];rw[Me Ts,W4 Ts]
 rw[s]at h
 rw[z]at x
 have v:a=(pre++xs.take i.toNat++(xs.drop i.toNat++rest.take vs.length).take vs.length)++xs.drop i.toNat++rest.drop vs.length:=by
  rw[h];refine NK (B:=(xs.drop i.toNat++rest.take vs.length).drop vs.length) ?_ ?_ ?_
  ·rw[Q]
   grind[List.take_append_drop]
  ·simp;omega
  grind
 refine⟨?_,by simp;omega⟩;rw[x];rw[NK (A:=pre++xs.take i.toNat) (B:=(xs.drop i.toNat++rest.take vs.length).take vs.length) (C:=xs.drop i.toNat++rest.drop vs.length) (by rw[v];simp_all) Ts Ts]
 simp_all
end Go.Ab
namespace Go.Ab
def AT0 (l:Up Int):OS ByteArray:=some (Rg l)
def Gf {K X:Type}[DecidableEq K](m:Up (K×X))(k:K)(z:X):OS (X×Bool):=some (match m.find? (λp=>decide (p.1=k))with|some p=>(p.2,true)|none=>(z,false))
def FX {K X:Type}[DecidableEq K](m:Up (K×X))(k:K)(v:X):OS (Up (K×X)):=some (if m.any (λp=>decide (p.1=k))=true then m.map (λp=>if p.1=k then(k,v)else p)else m++[(k,v)])
def AC0 {α:Type}(l:Up α)(a:Int)(m:Up α):OS (Up α×Int):=
 if 0<=a/\a<=(l.length:Nat)then some (l.take a.toNat++m.take (l.length-a.toNat)++l.drop (a.toNat+m.length),if(l.length:Int)-a<(m.length:Nat)then(l.length:Int)-a else(m.length:Nat))else none
end Go.Ab
namespace Go.Ab
variable {α:Type}
def Xc (cmp:α->α->OS Int)(a b:α):Bool:=match cmp a b with|some c=>decide (c<0)|none=>false
def Kh (cmp:α->α->OS Int)(a b:α):Bool:=match cmp a b with|some c=>decide (0<=c)|none=>false
def AL9 (lt:α->α->Bool)(x:α):Up α->Up α
 |[]=>[x]
 |y::l=>if lt x y then x::y::l else y::AL9 lt x l
def RY (lt:α->α->Bool):Up α->Up α
 |[]=>[]
 |x::l=>AL9 lt x (RY lt l)
def EB (cmp:α->α->OS Int):Up α->Bool
 |[]=>true
 |a::r=>Kh cmp a a&&r.all (λb=>Xc cmp a b&&Kh cmp b a)&&EB cmp r
def Pz (cmp:α->α->OS Int)(l:Up α):OS (Up α):=
 if decide (l.length<4611686018427387904)&&EB cmp (RY (Xc cmp) l)then some (RY (Xc cmp) l)else none
def Ux (lt:α->α->Bool) (x:α):∀l,(AL9 lt x l).Perm (x::l)
 |[]=>.refl _
 |y::l=>by
  unfold AL9
  split
  ·exact .refl _
  exact((Ux lt x l).cons y).trans (.swap _ _ _)
def Mw (lt:α->α->Bool):∀l,(RY lt l).Perm l
 |[]=>.refl _
 |x::l=>(Ux lt x _).trans ((Mw lt l).cons x)
variable {cmp:α->α->Option Int}
def AH4 {l r:Up α} (h:Pz cmp l=some r):r.Perm l/\EB cmp r=true/\l.length<4611686018427387904:=by
 unfold Pz at h
 split at h
 ·rename_i a;cases h
  simp only[G9,B3]at a
  exact⟨Mw _ l,a.2,a.1⟩
 cases h
def Rel (cmp:α->α->OS Int)(a b:α):Prop:=Xc cmp a b=true/\Kh cmp b a=true
def GY:∀{r:Up α},EB cmp r=true<->(∀a∈r,Kh cmp a a=true)/\r.Pairwise (Rel cmp)
 |[]=>by simp[EB]
 |a::r=>by
  simp only[EB,G9,EL,KM,Cx,GY (r:=r),Rel]
  grind
def Ci5 {a b:α}(h:Kh cmp a b=true):Xc cmp a b=false:=by
 unfold Kh at h;grind[Xc]
def BZ0 {a b:α}(h:Xc cmp a b=true):∃c,cmp a b=some c:=by
 grind[Xc]
def Dq {r:Up α}(h:EB cmp r=true){i j:Nat}(U:i<r.length)(z:j<r.length):Xc cmp r[i] r[j]=decide (i<j):=by
 have⟨O,Z⟩:=GY.1 h
 rw[Ir]at Z
 grind[Xc,Kh,Rel]
def AH2 {r:Up α}(h:EB cmp r=true){a b:α}(u:a∈r)(W:b∈r):∃c,cmp a b=some c:=by
 have⟨O,Z⟩:=GY.1 h
 rw[Ir]at Z
 obtain⟨i,U,rfl⟩:=R4 u;obtain⟨j,z,rfl⟩:=R4 W
 rcases OT i j with e|e|e
 ·exact BZ0 (Z i j U z e).1
 ·grind[Kh]
 grind[Kh,Rel]
def WU {r:Up α}(h:EB cmp r=true){i j:Nat}(U:i<r.length)(z:j<r.length)(e:r[i]=r[j]):i=j:=by
 have a:=Dq h U z;have b:=Dq h z U;have c:=Dq h U U
 rw[e]at a b c
 rw[Dq h z z]at a b c
 grind
def Ag4 {r:Up α}(h:EB cmp r=true):r.Nodup:=by
 rw[List.Nodup,Ir];intro i j U z a e;have:=WU h U z e;omega
def Av1 {r s:Up α} (h:EB cmp r=true) (e:s.Perm r) (G:s.Pairwise λa b=>Xc cmp b a=false):s=r:=by
 refine List.Perm.eq_of_pairwise (le:=λa b=>Xc cmp b a=false) (λa b u W O Z=>?_) G ?_ e
 ·obtain⟨i,U,rfl⟩:=R4 (e.mem_iff.1 u);obtain⟨j,z,rfl⟩:=R4 W
  rw[Dq h z U]at O
  rw[Dq h U z]at Z
  grind
 exact(GY.1 h).2.imp λh=>Ci5 h.2
def AZ2 {r:Up α} (h:EB cmp r=true) {x:α} (M:x∈r):∀{l:Up α},(∀y∈l,y∈r)->l.Pairwise (λa b=>Xc cmp b a=false)->(AL9 (Xc cmp) x l).Pairwise (λa b=>Xc cmp b a=false)
 |[],_,_=>by simp[AL9]
 | y::l,A,N=>by
  rw[KM]at N
  unfold AL9;obtain⟨i,U,rfl⟩:=R4 M;have⟨j,s,e⟩:=R4 (A y OC)
  split
  ·rename_i v;refine List.pairwise_cons.2 ⟨λz Y=>?_,List.pairwise_cons.2 N⟩;obtain⟨k,u,rfl⟩:=R4 (A z Y)
   rw[<-e,Dq h U s]at v
   rw[Dq h u U]
   rcases List.mem_cons.1 Y with Y|Y
   ·have:=WU h u s (Y.trans e.symm)
    grind
   have:=N.1 _ Y
   rw[<-e,Dq h u s]at this
   grind
  rename_i v;refine List.pairwise_cons.2 ⟨λz Y=>?_,AZ2 h M (λz Y=>A z (by simp[Y])) N.2⟩
  rcases List.mem_cons.1 ((Ux _ _ _).mem_iff.1 Y)with Y|Y
  ·simp_all
  simp_all
def Ac2 {r:Up α}(h:EB cmp r=true):∀{l:Up α},(∀y∈l,y∈r)->(RY (Xc cmp) l).Pairwise (λa b=>Xc cmp b a=false)
 |[],_=>by simp[RY]
 |x::l,e=>AZ2 h (e x OC) (λy i=>e y (by simp[(Mw _ l).mem_iff.1 i])) (Ac2 h λy i=>e y (by simp[i]))
def Aq4 {l r:Up α}(a:r.Perm l)(h:EB cmp r=true)(B:l.length<4611686018427387904):Pz cmp l=some r:=by
 have e:RY (Xc cmp) l=r:=Av1 h ((Mw _ l).trans a.symm) (Ac2 h λy i=>a.mem_iff.2 i)
 simp_all[Pz]
end Go.Ab
namespace Go.Ab
open Go.RowKit Go.Sort
variable [O7]
variable{ds:Up Int}
def Rl.more {g:Gh}{H:A5}{w w':Is}(h:Rl g H w)(W:Below g.base w w')(G:∀b,b<w.heap.size->w'.heap[b]? =w.heap[b]?)(hd:w.drawn<=w'.drawn:=by first|exact Nat.le_refl _|exact Nat.le_succ _|exact Nat.le_add_right _ _):Al g w g w'/\Rl g H w':=by
 have s:Al g w g w':=⟨λ_ _ e=>e,λ_ _ e=>e,λ_ _ e=>e,rfl,λb o a=>by simp only[World.cell?,G b (h.fz_lt a)],W,λ_ _ _=>rfl,hd⟩;exact⟨s,λx k M=>(h.blk x k M).mono M s λy N=>⟨G y (h.lt N),λ_ i=>i⟩,h.inj,λb o a=>by have⟨v,j⟩:=h.frz b o a;exact⟨v,(s.cell b o a).trans j⟩,h.nxt,U0 h.bnd W.size,λn=>(h.glb n).mono s⟩
def RB (q:OG)(a:Up Int):Up V:=q.pre++a.map (V.int .i64)++q.rest
def Nm (q:OG)(a:Up Int):(RB q a).length=q.pre.length+a.length+q.rest.length:=by grind[RB]
def As5{q:OG}{a:Up Int}{j:Nat}(z:j<a.length):(RB q a).getD (q.pre.length+j) .bad= .int .i64 a[j]:=by
 grind[RB]
def As4{q:OG}{a:Up Int}(B:ds.length=a.length){i:Nat}(U:i<q.pre.length\/q.pre.length+ds.length<=i):(RB q ds).getD i .bad=(RB q a).getD i .bad:=by
 grind[RB]
def BK1{off:Nat}{c:SI HO}{k:Nat}(a:k<c.size):(putCells (Value.int .i64) off ds.toArray c).getD k undef=if off<=k/\k<off+ds.length then .int .i64 (ds.toArray[k-off]!)else c.getD k undef:=by
 unfold putCells
 simp_all
def BF8 (P:If)(f:FuncId)(a ds:Up Int)(r:OG->V):Prop:=
 ∀H (q:OG),Cj q (a.length:Nat)->H q.id=some (.arr 1 (RB q a))->L5 P f [.own q.id q.lo q.n] H λx H'=>x=r q/\H'=upd H q.id (some (.arr 1 (RB q ds)))
def AC9{P:If}{f:FuncId}{N:Up Int}{r:OG->V}{m:Nat}(B:ds.length=N.length)
 (ah:∀vals w,(callFunc f vals).run P w= .ok (.enter f vals) w)
 (h0:N=[]->∀p cap w,Calls P f #[.slice p 0 cap] w λe w'=>∃v,e= .returned v/\w'=w/\(v= .slice p 0 cap/\(∀q,Cj q (N.length:Nat)->r q= .own q.id q.lo q.n)\/v= .tuple #[]/\∀q,r q= .tup []))
 (O:∀blk off cap w,0<N.length->N.length<=cap->Holds (Value.int .i64) w blk off N.toArray->blk<w.heap.size->
  Calls P f #[.slice (some ⟨blk,off,none⟩) N.length cap] w λe w'=>∃v,e= .returned v/\(v= .slice (some ⟨blk,off,none⟩) m cap/\m<=N.length/\(∀q,r q= .own q.id q.lo (m:Nat))\/v= .tuple #[]/\∀q,r q= .tup [])/\
   ∃n os,w'=grow (putRow (Value.int .i64) (Sort.ahead w n) blk off ds.toArray) os):BF8 P f N ds r:=by
 intro H q hq hk g w vals C hA;have⟨ag,hv⟩:=hA;have⟨vals⟩:=vals
 match vals,ag with
 | [v],_=>
  have u:=hv 0 OC
  simp at u
  rw[ah]
  show CallsIn Fence.wide 0 P f #[v] w _
  rw[callsIn_wide];have am:=hq;have⟨al,hn⟩:=hq;have⟨b,p,e1,e2,e3,e4,e5,e6,e7,e8,e9,W⟩:=Gm C hk u
  rw[Nm]at e2 e5 e7 e8 W
  subst e2
  have ab:q.n.toNat=N.length:=AY
  by_cases Y:N=[]
  ·subst Y;have hd:ds=[]:=List.length_eq_zero_iff.1 B;subst hd;rw[ab];refine(h0 rfl p _ w).mono ?_;rintro e w' ⟨v,rfl,rfl,a⟩;refine⟨v,rfl,g,r q,H,Al.refl _ _,C,?_,rfl,?_⟩
   ·rcases a with⟨rfl,Q⟩|⟨rfl,Q⟩
    ·rw[Q q am];rw[ab]at u;exact u
    rw[Q];exact VR.und g w'
   grind[upd]
  have an:0<N.length:=List.length_pos_iff.2 Y
  rcases W with W|⟨c,T,k1,k2,k3,k4,k5,k6⟩
  ·omega
  have hp:=e8 AY;subst hp
  have J:(g.ow q.id).o+q.lo.toNat*1=(g.ow q.id).o+q.pre.length:=by rw[al];simp
  rw[ab,J]
  have ae:b<w.heap.size:=by
   grind
  have Z:∀o,w.cell? ⟨b,o,none⟩=c[o]? :=λo=>by simp[World.cell?,k2]
  have hH:Holds (Value.int .i64) w b ((g.ow q.id).o+q.pre.length) N.toArray:=λj z=>by
   have aj:j<N.length:=AY
   refine⟨?_,by simp[World.frozen?,k2]⟩;have h:=(k4 (q.pre.length+j) 0 AY AY).2
   rw[As5 aj]at h
   have h:=VR.int_inv h;rw[Z]
   have ap:(g.ow q.id).o+q.pre.length+j<c.size:=AY
   rw[show(g.ow q.id).o+(q.pre.length+j)*1+0=(g.ow q.id).o+q.pre.length+j by omega]at h
   simp_all
  refine(O b _ _ w an AY hH ae).mono ?_;rintro e w' ⟨v,rfl,a,n,os,rfl⟩
  have G:=Rl.setArr C (ys:=RB q ds) (c':=putCells (Value.int .i64) ((g.ow q.id).o+q.pre.length) ds.toArray c) hk e1 (by rw[Nm];omega) k2 (by simp[putCells])
   (λo ho=>by
    simp only[putCells,UU]
    grind)
   (by rw[Nm,Nm,B])
   (λi U=>by
    rw[Nm]at U
    by_cases hm:i<q.pre.length\/q.pre.length+ds.length<=i
    ·rw[As4 B hm];grind[RB]
    grind[V.cells,RB])
   (λi j U z=>by
    rw[Nm]at U
    have ak:j=0:=AY
    subst ak;rw[BK1 AY]
    by_cases hm:i<q.pre.length\/q.pre.length+ds.length<=i
    ·rw[A1 AY,As4 B hm]
     simp_all
    obtain⟨j,rfl⟩:∃j,i=q.pre.length+j:=⟨i-q.pre.length,AY⟩
    have z:j<ds.length:=AY
    rw[A2 AY,As5 z,show(g.ow q.id).o+(q.pre.length+j)*1+0-((g.ow q.id).o+q.pre.length)=j by omega]
    have:ds.toArray[j]! =ds[j]:=by simp[z]
    rw[this]
    exact⟨rfl,VR.int _ _⟩)
  have⟨A,R1⟩:=G
  generalize y:w.setRow b (putCells (Value.int .i64) ((g.ow q.id).o+q.pre.length) ds.toArray c)=w1 at A R1
  have ai:w1.heap.size=w.heap.size:=by rw[<-y];simp[World.setRow]
  have aa:∀x,x<w1.heap.size->(grow (putRow (Value.int .i64) (Sort.ahead w n) b ((g.ow q.id).o+q.pre.length) ds.toArray) os).heap[x]? =w1.heap[x]? :=λx M=>by
   have aq:x<w.heap.size:=AY
   simp only[grow,putRow,mapBlock,Sort.ahead];rw[Ve Pw,Jt]
   by_cases ac:b=x
   ·subst ac;rw[A2 rfl,k2,<-y,setRow_heap w b c _ T (0,0) k2];rfl
   rw[A1 ac,<-y,S3 w b _ x (λe=>ac e.symm)]
  have ad:Below g.base w1 (grow (putRow (Value.int .i64) (Sort.ahead w n) b ((g.ow q.id).o+q.pre.length) ds.toArray) os):=by
   refine⟨by rw[<-y];rfl,by rw[<-y];rfl,by rw[<-y];rfl,?_,λk ao=>?_⟩
   ·rw[ai];simp_all
   grind
  have⟨s,R2⟩:=R1.more ad aa (by rw[<-y];exact Jm _ _);refine⟨v,rfl,g,r q,_,A.trans s,R2,?_,rfl,rfl⟩
  rcases a with⟨rfl,hm,Q⟩|⟨rfl,Q⟩
  ·rw[Q]
   have af:(g.ow q.id).cap=q.pre.length+N.length+q.rest.length:=by rw[e7]
   have:=VR.own (g:=g) (w:=grow (putRow (Value.int .i64) (Sort.ahead w n) b ((g.ow q.id).o+q.pre.length) ds.toArray) os) (id:=q.id) (b:=b) (lo:=q.lo) (n:=(m:Nat)) (p:=some ⟨b,(g.ow q.id).o+q.pre.length,none⟩) e1 e3 AY AY (λ_=>by rw[e6,J])
   rw[af]at this
   simp_all
  rw[Q];exact VR.und _ _
end Go.Ab
open Go.Ab.Ar (len_eq lst lst_eq)
namespace Go.Ab
open Go.RowKit Go.Shelf
variable [O7]
def BX (i:Nat):Up UInt8:=if i<10 then[UInt8.ofNat (48+i)]else[UInt8.ofNat (48+i / 10),UInt8.ofNat (48+i % 10)]
def WY (i:Int):OS ByteArray:=if decide (0<=i)&&decide (i<100)then some ⟨(BX i.toNat).toArray⟩else none
def Bd8 {i:Nat}(h:i<100):Lib.decDigits i=BX i:=by
 unfold BX;rw[Lib.decDigits]
 split
 ·rfl
 rw[Lib.decDigits,dif_pos AY];rfl
def AC8 {P:If} {N:Ren} (L:Go.Proofs.Lays.n283 P N) (x:∀vals w,(callFunc (N.f 283) vals).run P w= .ok (.enter (N.f 283) vals) w) {i:Int} {r:Uf} (h:WY i=some r):B1 P (N.f 283) [.int .i64 i] (.str r):=by
 intro H g w vals C z;have⟨a,j⟩:=z;have⟨vals⟩:=vals
 match vals,a with
 | [v],_=>
  have y:=j 0 OC
  simp at y
  rw[y.int_inv,x]
  show CallsIn Fence.wide 0 P (N.f 283) #[.int .i64 i] w _
  rw[callsIn_wide]
  unfold WY at h
  split at h
  ·rename_i A
   simp only[G9,B3]at A
   cases h;obtain⟨u,rfl⟩:∃u:Nat,i=u:=⟨i.toNat,AY⟩
   have s:u<100:=AY
   refine(Go.Proofs.Any.internal_strconv_small L u s w).mono ?_;rintro e w' ⟨rfl,rfl⟩;refine⟨_,rfl,g,_,H,Al.refl _ _,C,VR.str _,?_,rfl⟩;rw[Bd8 s];rfl
  cases h
def UH (s:Uf):Up Int:=s.data.toList.map λb=>(b.toNat:Int)
def Ag5 (s:Uf):Id s=(UH s).map (V.int .u8):=by simp[Id,UH]
def Ab7 {k:IntKind}:∀{l:Up Int} {ys:Up V},M7 (l.map (V.int k)) ys->ys=l.map (V.int k)
 |[],_,h=>by cases h;rfl
 |x::l,_,h=>by
  cases h with
  |cons a b=>cases a;rw[Ab7 b];rfl
section
variable [Ar]{P:Program}{nt:Nat}{rd:Option Nat}{E:Hj}(hE:E=J1 P nt rd){Φ:A5->A5->Prop}{H0 H:A5}{L:List En}{R:Type}{r:R}
include hE
theorem BM0 {by_:Nat}{z:V}(a:by_<=131072){q:OG}{l:Up Int}(v:C3 Φ H0 L H)(j:Cj q (Ar.len l))(i:Nat)(U:L[i]? =some (.blk q.id (.arr 1 (q.pre++lst (V.int .u8) l++q.rest)))){s:Uf}{k:V->A5->Prop}{F:Up Int->OS R}
 (h:(K2 l (UH s)).bind F=some r)
 (N:∀x (q:OG) H',Cj q (Ar.len x)->C3 Φ H0 (L.set i (.blk q.id (.arr 1 (q.pre++lst (V.int .u8) x++q.rest)))) H'->F x=some r->k (.own q.id q.lo q.n) H'):E.oapps by_ z H (.own q.id q.lo q.n) s k:=by
 have e:=Ff (z:=z) (f:=V.int .u8) hE (λ_=>rfl) a v j i U (y:=.sl (Id s) .ro) (m:=UH s) (Dr (f:=V.int .u8) hE (λ_=>rfl) (by rw[lst_eq,Ag5];exact .refl _)) h N;subst hE;have⟨ys',O,Z⟩:=e;have O:=O.1
 rw[Ag5]at O
 rw[Ab7 O,<-Ag5]at Z
 exact Z
end
end Go.Ab
namespace Go.Ab
variable{R α σ:Type}
def NW {α:Type}(x:α):Up α->Up (Up α)
 |[]=>[[x]]
 |y::l=>(x::y::l)::(NW x l).map (y:: ·)
def PS {α:Type}:Up α->Up (Up α)
 |[]=>[[]]
 |x::l=>(PS l).flatMap (NW x)
def Ye {α:Type} (x:α):∀(a b:Up α),a++x::b∈NW x (a++b)
 |[],[]=>by simp[NW]
 |[],y::b=>by simp[NW]
 |y::a,b=>by
  simp only[CW,NW,Cx,BT];exact .inr ⟨_,Ye x a b,rfl⟩
def XD {α:Type}:∀{l m:Up α},m.Perm l->m∈PS l
 |[],m,h=>by simp[PS,h.eq_nil]
 |x::l,m,h=>by
  have M:x∈m:=h.mem_iff.2 OC;obtain⟨a,b,rfl⟩:=OY M;have Z:(a++b).Perm l:=(List.perm_cons x).1 (List.perm_middle.symm.trans h);simp only[PS,List.mem_flatMap];exact⟨a++b,XD Z,Ye x a b⟩
def Bl4(fin:σ->R):σ⊕R->R
 | .inl s=>fin s
 | .inr y=>y
def GF{ρ:Type}[DecidableEq ρ](step:σ->α->OS (σ⊕R))(fin:σ->R)(a:R->ρ)(l:Up α)(s:σ):OS ρ:=
 match(E8 step l s).map λq=>a (Bl4 fin q)with
 |none=>none
 |some r=>if(PS l).all (λm=>decide ((E8 step m s).map (λq=>a (Bl4 fin q))=some r))=true then some r else none
def At8{i:Type}[DecidableEq i]{step:σ->α->OS (σ⊕R)}{fin:σ->R}{e:R->i}{l:Up α}{s:σ}{r:i}(h:GF step fin e l s=some r){m:Up α}(x:m.Perm l):
 ∃q,E8 step m s=some q/\e (Bl4 fin q)=r:=by
 unfold GF at h
 split at h
 ·cases h
 split at h
 ·rename_i y _ a;cases h;have:=List.all_eq_true.1 a m (XD x);have:=Jn this
  cases v:E8 step m s with
  |none=>rw[v]at this;cases this
  |some q=>rw[v]at this;exact⟨q,rfl,by simpa using this⟩
 cases h
def Vw {α:Type}:∀{l m:Up α},m∈PS l->m.Perm l
 |[],m,h=>by simp only[PS,Bm]at h;rw[h]
 | x::l,m,h=>by
  simp only[PS,List.mem_flatMap]at h
  have⟨n,O,Z⟩:=h
  have key:∀(n m:Up α),m∈NW x n->m.Perm (x::n):=by
   intro n
   induction n with
   |nil=>intro m h;simp only[NW,Bm]at h;rw[h]
   |cons y n ih=>
    intro m h
    simp only[NW,Cx,BT]at h
    rcases h with rfl|⟨q,a,rfl⟩
    ·exact .refl _
    exact((ih q a).cons y).trans (List.Perm.swap x y n)
  exact(key n m Z).trans ((Vw O).cons x)
def Uh{e:Type}[DecidableEq e]{step:σ->α->OS (σ⊕R)}{fin:σ->R}{a:R->e}{l:Up α}{s:σ}{r:e}(h:∀m,m.Perm l->(E8 step m s).map (λq=>a (Bl4 fin q))=some r):GF step fin a l s=some r:=by
 unfold GF;rw[h l (.refl _)]
 simp only
 rw[A2];exact List.all_eq_true.2 λm i=>I8 (h m (Vw i))
def Tc {X:Type}(p:Int×X):Up (Int×X)->Up (Int×X)
 |[]=>[p]
 |q::l=>if p.1<=q.1 then p::q::l else q::Tc p l
def Ik {X:Type}:Up (Int×X)->Up (Int×X)
 |[]=>[]
 |p::l=>Tc p (Ik l)
def Ac3 {X:Type} (p:Int×X):∀l,(Tc p l).Perm (p::l)
 |[]=>.refl _
 |q::l=>by
  unfold Tc
  split
  ·exact .refl _
  exact((Ac3 p l).cons q).trans (List.Perm.swap p q l)
def KQ {X:Type}:∀l:Up (Int×X),(Ik l).Perm l
 |[]=>.refl _
 |p::l=>(Ac3 p _).trans ((KQ l).cons p)
def Bz4 (x:Int):Up Int->Up Int
 |[]=>[x]
 |y::r=>if x<=y then x::y::r else y::Bz4 x r
def Yc:Up Int->Up Int
 |[]=>[]
 |x::r=>Bz4 x (Yc r)
theorem AZ1 (a:Int):∀(l m:Up Int),(∀b∈l,¬a<=b)->(∀b∈m,a<=b)->Bz4 a (l++m)=l++a::m
 |[],[],_,_=>rfl
 |[],y::m,_,h=>by simp_all[Bz4]
 |y::l,m,h,k=>by
  simp only[CW,Bz4];rw[A1 (h y OC),AZ1 a l m (λb W=>h b (by simp[W])) k]
theorem Ac1:∀l:Up Int,Yc l=l.mergeSort λx y=>decide (x<=y)
 |[]=>by simp[Yc]
 |a::l=>by
  have i:∀x y z:Int,decide (x<=y)=true->decide (y<=z)=true->decide (x<=z)=true:=λx y z h k=>Pw
  have e:∀x y:Int,(decide (x<=y)||decide (y<=x))=true:=λx y=>by simp;omega
  have⟨N,j,O,Z,v⟩:=List.mergeSort_cons i e a l;have G:=Mc i e (a::l)
  rw[O]at G
  rw[Yc,Ac1 l,O,Z]
  grind[AZ1,List.pairwise_cons]
def Vp (l:Up Int):OS (Up Int):=if l.length<4611686018427387904 then some (Yc l)else none
def Ry{l r:Up Int}(h:Vp l=some r):l.length<4611686018427387904/\r=l.mergeSort λx y=>decide (x<=y):=by
 grind[Vp,Ac1]
end Go.Ab
namespace Go.Ab
open Go.RowKit
variable [O7]
def BF7 (P:If)(f:FuncId)(a ds:Up Int):Prop:=BF8 P f a ds (λ_=>.tup [])/\ds.length=a.length
def As6 [Ar](q:OG)(zs:Up Int):q.pre++lst (V.int .i64) zs++q.rest=RB q zs:=by rw[lst_eq];rfl
section
variable [Ar]{P:Program}{nt:Nat}{rd:Option Nat}{E:Hj}(hE:E=J1 P nt rd)
include hE
theorem BM1 {Φ:A5->A5->Prop}{H0 H:A5}{L:Up En}{fid:FuncId}{q:OG}{k:V->A5->Prop}{R:Type}{m:OS (Up Int)}{F:Up Int->OS R}{r:R}
 {l:Up Int} (e:C3 Φ H0 L H) (a:Cj q (Ar.len l)) (i:Nat) (U:L[i]? =some (.blk q.id (.arr 1 (q.pre++lst (V.int .i64) l++q.rest)))) (h:m.bind F=some r) (s:∀x,m=some x->BF7 P fid l x)
 (u:∀x H',Cj q (Ar.len x)->C3 Φ H0 (L.set i (.blk q.id (.arr 1 (q.pre++lst (V.int .i64) x++q.rest)))) H'->F x=some r->k (.tup []) H'):
 E.call (.func (.func fid) [] []) [.own q.id q.lo q.n] H k:=by
 subst hE;have⟨x,O,Z⟩:=bind_some h;have⟨y,N⟩:=s x O;refine L5.value (F:=[]) (C:=[]) ?_;simp only[K3,F2]
 rw[As6]at U
 refine(y H q (by rw[<-len_eq];exact a) (e.get i U)).mono λv H' ⟨j,e2⟩=>?_;subst j;subst e2;refine u x _ ?_ ?_ Z
 ·rw[len_eq]at a ⊢;rw[N];exact a
 rw[As6];exact e.set i U
end
end Go.Ab
namespace Go.Ab
open Go.RowKit Go.Shelf Go.Sort
variable [O7]
def AP4 {P:If}{N:Ren}(s:Go.Proofs.Lays.n189 P N)(i:∀vals w,(callFunc (N.f 189) vals).run P w= .ok (.enter (N.f 189) vals) w){v r:Up Int}(h:Vp v=some r):BF7 P (N.f 189) v r:=by
 obtain⟨j,rfl⟩:=Ry h;have B:(v.mergeSort λx y=>decide (x<=y)).length=v.length:=UT ..;refine⟨AC9 (m:=0) B i ?_ ?_,B⟩
 ·intro _ p cap w;exact(Go.Proofs.Any.slices_Sort_int_none s p cap w).mono λe w' ⟨a,b⟩=>⟨_,a,b,.inr ⟨rfl,λ_=>rfl⟩⟩
 intro blk off cap w _ _ u W;exact(Go.Proofs.Any.slices_Sort_int s blk off cap v w u W j).mono λe w' ⟨a,n,z,b⟩=>⟨_,a,.inr ⟨rfl,λ_=>rfl⟩,n,z,b⟩
def Qp (l:Up Int):OS (Up Int):=if l.length<=9223372036854775807 then some (Lib.compact l)else none
def VM (a:Up Int):(Lib.compact a).length<=a.length:=by
 unfold Lib.compact Lib.compactUpTo;rw[H9]
 grind
def sck [Ar] {P:If} {N:Ren} (u:Go.Proofs.Lays2.n20 P N) (y:∀vals w,(callFunc (N.f 20) vals).run P w= .ok (.enter (N.f 20) vals) w) {i r:Up Int} (h:Qp i=some r):
 Ok P (N.f 20) [] 1 (lst (V.int .i64) i) (lst (V.int .i64) r):=by
 unfold Qp at h
 split at h
 case isFalse=>cases h
 rename_i s;cases h;have hle:(Lib.compact i).length<=i.length:=VM i
 have key:BF8 P (N.f 20) i (Lib.compact i++List.replicate (i.length-(Lib.compact i).length) 0) (λq=>.own q.id q.lo ((Lib.compact i).length:Nat)):=by
  refine AC9 (m:=(Lib.compact i).length) Ts y ?_ ?_
  ·rintro rfl p cap w;refine(Go.Proofs.Any.slices_Compact_int_empty u p cap w).mono λe w' ⟨a,b⟩=>⟨_,a,b,.inl ⟨rfl,λq j=>?_⟩⟩;rw[j.2]
   have:(Lib.compact ([]:Up Int)).length=0:=by have:=VM [];simp_all
   rw[this];rfl
  intro blk off cap w _ B A W;refine(Go.Proofs.Any.slices_Compact_int u blk off cap i w A s B).mono λe w' ⟨a,n,b⟩=>⟨_,a,.inl ⟨rfl,hle,λ_=>rfl⟩,n, #[],by rw[b,grow_empty]⟩
 intro H q j C
 rw[lst_eq]at C j
 refine(key H q Pw (by simp_all[RB])).mono λv H' ⟨z,e2⟩=>?_;subst z;subst e2;refine⟨⟨q.id,q.lo,((Lib.compact i).length:Nat),q.pre,(List.replicate (i.length-(Lib.compact i).length) 0).map (V.int .i64)++q.rest⟩,rfl,⟨j.1,by rw[lst_eq];simp⟩,by rw[E7],?_⟩
 funext x
 rw[lst_eq]
 grind[upd,RB]
end Go.Ab
namespace Go.Ab
open Go.RowKit
variable [O7][Ar]
variable{xs:Up V}
def Nk{L:Up En}{i j:Nat}{a e:En}(z:(L.set i a)[j]? =some e):(j=i/\e=a)\/(j≠i/\L[j]? =some e):=by
 rw[Z4]at z
 grind
def ZQ{L:Up En}{i j:Nat}{a:En}(h:j≠i):(L.set i a)[j]? =L[j]? :=by
 rw[Z4,A1 (λe=>h e.symm)]
def DK.setNone{H0 H:A5}{L:Up En}(h:DK H0 L H)(i:Nat){e s:En}(U:L[i]? =some e)(u:e.id=none)(a:s.id=none):DK H0 (L.set i s) H:=by
 refine⟨h.ext,λj x id b z M=>?_,λj k x x' id b b' z N M v=>?_,λx b M=>?_⟩
 ·rcases Nk z with⟨_,rfl⟩|⟨_,z⟩
  ·rw[a]at M;cases M
  exact h.has j x id b z M
 ·rcases Nk z with⟨_,rfl⟩|⟨_,z⟩
  ·rw[a]at M;cases M
  rcases Nk N with⟨_,rfl⟩|⟨_,N⟩
  ·rw[a]at v;cases v
  exact h.inj j k x x' id b b' z N M v
 refine(h.only x b M).imp (λh=>h) λ⟨j,y,O,Z⟩=>⟨j,y,?_,Z⟩;rw[ZQ λe=>TQ];exact O
def DK.drop{H0 H:A5}{L:Up En}(h:DK H0 L H)(i:Nat){e C:En}{id:Nat}{N:FV}(U:L[i]? =some e)(G:e.id=some (id,N))(a:C.id=none):DK H0 (L.set i C) (upd H id none):=by
 have s:=h.has i e id N U G;refine⟨λx b M=>?_,λj x y b z M=>?_,λj k x x' y b b' z u M v=>?_,λx b M=>?_⟩
 ·rw[C8 _ _ (Ce s.1 M)];exact h.ext x b M
 ·rcases Nk z with⟨_,rfl⟩|⟨A,z⟩
  ·rw[a]at M;cases M
  have:=h.has j x y b z M;refine⟨this.1,?_⟩;rw[C8 _ _ (λeq=>by subst eq;exact A (h.inj j i x e y b N z U M G))];exact this.2
 ·rcases Nk z with⟨_,rfl⟩|⟨_,z⟩
  ·rw[a]at M;cases M
  rcases Nk u with⟨_,rfl⟩|⟨_,u⟩
  ·rw[a]at v;cases v
  exact h.inj j k x x' y b b' z u M v
 by_cases B:x=id
 ·simp_all[upd]
 rw[C8 _ _ B]at M
 refine(h.only x b M).imp (λh=>h) λ⟨j,y,O,Z⟩=>⟨j,y,?_,Z⟩;rw[ZQ λJ=>TQ];exact O
def C3.untok{Φ:A5->A5->Prop}{F H:A5}{L:Up En}(h:C3 Φ F L H)(i:Nat){tl v:G5}(U:L[i]? =some (.tl tl))(x:(En.tl v).id=none):C3 Φ F (L.set i (.tl v)) (H5 H tl):=by
 have⟨G,y,J,a,O,Z⟩:=h
 cases tl with
 |tok t=>
  have e:=(a.has i _ t _ U rfl).2;exact⟨G,_,_,a.drop i U rfl x,G.chg t none O (by rw[e,G.le O _ _ e]),Z.upd t none⟩
 |nil=>exact⟨G,_,_,a.setNone i U rfl x,O,Z⟩
 |full=>exact⟨G,_,_,a.setNone i U rfl x,O,Z⟩
 |ro=>exact⟨G,_,_,a.setNone i U rfl x,O,Z⟩
section
variable {P:Program}{T:JV}{f:FuncId}{fn:Func}{c:Code}{n:Nat}{rs:List ResultVar}{args:List V}
end
section
variable {P:Program}{nt:Nat}{rd:Option Nat}{T:JV}{E:Hj}
variable (hE:E=J1 P nt rd)
include hE
variable {α R:Type}{f:α->V}{Φ:A5->A5->Prop}{H0 H:A5}{L:List En}{r:R}{m:Option (List α)}{F:List α->Option R}{fid:FuncId}{args args':List V}{k:V->A5->Prop}
end
def Gh.lend (g:Gh)(w:Is):Gh:={g with fz:=λb o=>∃v,w.cell? ⟨b,o,none⟩=some v,base:=w.heap.size}
def VR.lend{g:Gh}{w:Is}{B:Nat}{F:Nat->Nat->Prop}(hB:g.base<=B)(Q:∀b o,g.fz b o->F b o){v:HO}{x:V}(h:VR g w v x):VR {g with fz:=F,base:=B} w v x:=by
 induction h with
 |bad v=>exact .bad v
 |bool b=>exact .bool b
 |int k n=>exact .int k n
 |str s=>exact .str s
 |nilp=>exact .nilp
 |nilf=>exact .nilf
 |nili=>exact .nili
 |nilmap=>exact .nilmap
 |map h=>exact .map h
 |fmap W u hk J a N ih=>exact VR.fmap (g:={g with fz:=F,base:=B}) (OZ W hB) u hk J a ih
 |ref h=>exact .ref h
 |own h h0 O Z hp=>exact VR.own (g:={g with fz:=F,base:=B}) h h0 O Z hp
 |elem h G=>exact VR.elem (g:={g with fz:=F,base:=B}) h G
 |eref vs A u O N ih=>exact .eref vs (λj z=>Q _ _ (A j z)) u O ih
 |sl0 y=>exact .sl0 y
 |sle y=>exact .sle y
 |sl vs J hc Y A u O N y ih=>exact .sl vs J hc Y (λi j U z=>Q _ _ (A i j U z)) u O ih (y.mono λ_ _ e=>e)
 |func a N C aa ih M=>exact .func a ih C M
 |yield h=>exact .yield h
 |iface h ih=>exact .iface ih
 |agg a O N ih=>exact .agg a O ih
 |tup a N ih=>exact .tup a ih
def Rl.lend {g:Gh}{H:A5}{w:Is}(h:Rl g H w):Rl (g.lend w) (λ_=>none) w:=by
 refine⟨λid b W=>(by cases W),λid e b O _=>(by simp[Gh.at]at O),λb o a=>a,λid U=>⟨(h.nxt id U).1,(h.nxt id U).2.1,rfl⟩,C6 _,λn=>(h.glb n).lend h.bnd λb o a=>h.frz b o a⟩
def Rl.lendOwn{g:Gh}{H:A5}{w:Is}(h:Rl g H w){id sz:Nat}(i:H id=some (.arr sz xs)){v:HO}{lo n:Int}(j:VR g w v (.own id lo n)):VR (g.lend w) w v (.sl (P2 xs lo n) .ro):=by
 have⟨g',⟨y,e2,N⟩,s,C,x⟩:=h.freezeArr' i;have:=(x v lo n (j.mono s)).lend (F:=λb o=>∃v,w.cell? ⟨b,o,none⟩=some v) (B:=w.heap.size) C.bnd λb o a=>C.frz b o a
 have e:({g' with fz:=λb o=>∃v,w.cell? ⟨b,o,none⟩=some v,base:=w.heap.size}:Gh)={(g.lend w)with nx:=g'.nx}:=by
  simp_all[Gh.lend]
 rw[e]at this
 exact VR.nxt this
where
 VR.nxt {g:Gh} {w:World} {n:Nat} {v:Value} {x:V} (h:VR {g with nx:=n} w v x):VR g w v x:=by
  generalize hg:({g with nx:=n}:Gh)=g1 at h
  have hmu:g1.mu=g.mu:=by rw[<-hg]
  have htk:g1.tk=g.tk:=by rw[<-hg]
  have hfz:g1.fz=g.fz:=by rw[<-hg]
  have how:g1.ow=g.ow:=by rw[<-hg]
  have hba:g1.base=g.base:=by rw[<-hg]
  clear hg
  induction h with
  |bad v=>exact .bad v
  |bool b=>exact .bool b
  |int k n=>exact .int k n
  |str s=>exact .str s
  |nilp=>exact .nilp
  |nilf=>exact .nilf
  |nili=>exact .nili
  |nilmap=>exact .nilmap
  |map h=>exact .map (hmu▸h)
  |fmap hb hw hk hn hl hv ih=>exact .fmap (hba▸hb) hw hk hn hl ih
  |ref h=>exact .ref (hmu▸h)
  |own h h0 h1 h2 hp=>rw[how]at h2 hp ⊢;exact VR.own (hmu▸h) h0 h1 h2 hp
  |elem h hs=>rw[how]at hs ⊢;exact VR.elem (hmu▸h) hs
  |eref vs hf hw h1 hv ih=>exact .eref vs (λj hj=>hfz▸hf j hj) hw h1 ih
  |sl0 ht=>exact .sl0 ht
  |sle ht=>exact .sle ht
  |sl vs hn hc hz hf hw h1 hv ht ih=>exact .sl vs hn hc hz (λi j hi hj=>hfz▸hf i j hi hj) hw h1 ih (ht.mono λ_ _ e=>htk▸e)
  |func hl hv hl' hv' ih ih'=>exact .func hl ih hl' ih'
  |yield h=>exact .yield (hmu▸h)
  |iface h ih=>exact .iface ih
  |agg hl h1 hv ih=>exact .agg hl h1 ih
  |tup hl hv ih=>exact .tup hl ih
def Bu1:V->Bool
 | .bool _=>true
 | .int _ _=>true
 | .str _=>true
 |_=>false
inductive Sj :V->Prop
 |bool (b:Bool):Sj (.bool b)
 |int (k:IntKind) (n:Int):Sj (.int k n)
 |str (s:ByteArray):Sj (.str s)
 |agg {cs:List V} (h:cs.all Bu1=true):Sj (.agg cs)
 |tup2 {x y:V} (h:Sj x) (k:Sj y):Sj (.tup [x,y])
 |tup3 {x y z:V} (h:Sj x) (k:Sj y) (m:Sj z):Sj (.tup [x,y,z])
def Sj.any{x:V}(h:Sj x):∀{g g':Gh} {w w':Is} {v:HO},VR g w v x->VR g' w' v x:=by
 induction h with
 |bool b=>intro g g' w w' v h;cases h;exact .bool b
 |int k n=>intro g g' w w' v h;cases h;exact .int k n
 |str s=>intro g g' w w' v h;cases h;exact .str s
 | @agg cs z=>
  intro g g' w w' v h
  cases h with
  |agg B O j=>
   refine .agg B O λi U=>?_;have a:=j i U;have N:=List.all_eq_true.1 z _ (I9 U)
   rw[show cs.getD i .bad=cs[i] by rw[U2,D9 U];rfl]at a ⊢
   generalize cs[i]=c at a N ⊢
   generalize Array.getD _ i undef=u at a ⊢
   cases c<;>simp only[Bu1,D4]at N<;>cases a<;>constructor
 | tup2 _ _ e y=>
  intro g g' w w' v h
  cases h with
  |tup B j=>
   refine .tup B λi U=>?_
   match i with
   |0=>grind
   |1=>grind
   |i+2=>grind
 | tup3 _ _ _ e y A=>
  intro g g' w w' v h
  cases h with
  |tup B j=>
   refine .tup B λi U=>?_
   match i with
   |0=>grind
   |1=>grind
   |2=>grind
   |i+3=>grind
inductive Oi (H:A5):List V->List V->Prop
 |nil:Oi H [] []
 |le {x y:V} {xs ys:List V} (h:DI x y) (k:Oi H xs ys):Oi H (x::xs) (y::ys)
 |fm {id:Nat} {ks:List Int} {zs xs ys:List V} (h:H id=some (.fm ks zs)) (k:Oi H xs ys):Oi H (.map id::xs) (.fmap ks zs::ys)
 |agg {us ws xs ys:List V} (h:Oi H us ws) (k:Oi H xs ys):Oi H (.agg us::xs) (.agg ws::ys)
 |own {id sz:Nat} {zs:List V} {lo n:Int} {xs ys:List V} (h:H id=some (.arr sz zs)) (k:Oi H xs ys):Oi H (.own id lo n::xs) (.sl (P2 zs lo n) .ro::ys)
def Oi.length {H:A5}{xs ys:Up V}(h:Oi H xs ys):xs.length=ys.length:=by
 induction h with
 |nil=>rfl
 |le _ _ ih=>simp[ih]
 |fm _ _ ih=>simp[ih]
 |agg _ _ _ ih=>simp[ih]
 |own _ _ ih=>simp[ih]
theorem Oi.at {g:Gh} {H:A5} {w:Is} (C:Rl g H w) {xs ys:Up V} (h:Oi H xs ys):∀(vals:Nat->HO),(∀i,i<xs.length->VR g w (vals i) (xs.getD i .bad))->∀i,i<ys.length->VR (g.lend w) w (vals i) (ys.getD i .bad):=by
 induction h with
 |nil=>simp_all
 |le h k ih=>
  intro vals j i U
  cases i with
  |zero=>exact((j 0 OC).le h).lend C.bnd λb o v=>C.frz b o v
  |succ i=>exact ih (λi=>vals (i+1)) (λi U=>Pw) i Pw
 | fm h k ih=>
  intro vals j i U
  cases i with
  | zero=>
   have a:=j 0 OC
   simp only[Pa]at a ⊢
   generalize vals 0=u at a
   cases a with
   |map z=>
    have⟨b,Q,clock,N,W,s,A,G,J,M⟩:=C.blk _ _ h
    rw[z]at N;cases N
    exact VR.fmap (g:=Gh.lend _ _) (Aj7 s) s A G J λi e U=>(M i e U).lend C.bnd λb o v=>C.frz b o v
  |succ i=>exact ih (λi=>vals (i+1)) (λi U=>Pw) i Pw
 | agg h k y ih=>
  intro vals j i U
  cases i with
  | zero=>
   have a:=j 0 OC
   simp only[Pa]at a ⊢
   generalize vals 0=u at a
   cases a with
   |agg B O x=>
    have e:=h.length;exact .agg (B.trans e) (λi U=>O i AY) λi U=>y (λi=>Array.getD _ i undef) x i U
  |succ i=>exact ih (λi=>vals (i+1)) (λi U=>Pw) i Pw
 |own h k ih=>
  intro vals j i U
  cases i with
  |zero=>exact C.lendOwn h (j 0 OC)
  |succ i=>exact ih (λi=>vals (i+1)) (λi U=>Pw) i Pw
def B1.lent{P:If}{f:FuncId}{ys:Up V}{r:V}(c:B1 P f ys r)(Q:Sj r){H:A5}(B:Oi H xs ys):L5 P f xs H λx H'=>x=r/\H'=H:=by
 intro g w vals C N;have h:Args (g.lend w) w vals ys:=⟨N.1.trans B.length,B.at C (λi=>vals.getD i undef) N.2⟩;refine(c _ _ w vals C.lend h).mono λv w' ⟨g',x,H',s,G,j,A,e2⟩=>?_;subst A;have W:Below w.heap.size w w':=s.low;have sg:Al g w g w':=⟨λ_ _ e=>e,λ_ _ e=>e,λ_ _ e=>e,rfl,λb o a=>W.cell (C.fz_lt a),W.mono C.bnd,λ_ _ _=>rfl,s.dr⟩;refine⟨g,x,H,sg,⟨λid b z=>(C.blk id b z).mono z sg λy O=>⟨W.block _ (C.lt O),λ_ J=>J⟩,C.inj,λb o a=>?_,C.nxt,U0 C.bnd W.size,λn=>(C.glb n).mono sg⟩,Q.any j,rfl,rfl⟩;have⟨u,M⟩:=C.frz b o a;exact⟨u,(W.cell (C.fz_lt a)).trans M⟩
section
variable {P:Program}{nt:Nat}{rd:Option Nat}{T:JV}{E:Hj}
variable (hE:E=J1 P nt rd)
include hE
theorem AW7{R S:Type}{m:OS S}{F:S->OS R}{r:R}{f:FuncId}{args args':Up V}{g:S->V}{H:A5}{k:V->A5->Prop}(h:m.bind F=some r)(a:∀x,m=some x->B1 P f args' (g x))(G:∀x,Sj (g x))(B:Oi H args args')
 (i:∀x,F x=some r->k (g x) H):E.call (.func (.func f) [] []) args H k:=by
 subst hE;have⟨x,O,Z⟩:=bind_some h;refine L5.value (F:=[]) (C:=[]) ?_;simp only[K3,F2]
 exact((a x O).lent (G x) B).mono λv H' ⟨e,e2⟩=>TQ
theorem By4{α:Type}{f:α->V}{Φ:A5->A5->Prop}{H0 H:A5}{L:Up En}{sz:Nat}{q:OG}{l:Up α}(e:C3 Φ H0 L H)(a:Cj q (Ar.len l))(i:Nat)(U:L[i]? =some (.blk q.id (.arr sz (q.pre++lst f l++q.rest)))){ys:Up V}(k:Oi H xs ys):
 Oi H (.own q.id q.lo q.n::xs) (.sl (lst f l) .ro::ys):=by
 have:=Oi.own (lo:=q.lo) (n:=q.n) (e.get i U) k
 rwa[NG a.1 (by rw[a.2,len_eq,N4])]at this
end
end Go.Ab
namespace Go.Ab
open Go.RowKit Go.MapKept
variable [O7][Ar]
variable{k:V->Prop}
def KL{K X:Type}(d:TypeDesc)(kf:K->V)(vf:X->V)(o:Obj)(m:Up (K×X)):Prop:=∃a:Up (K×X),DH d o (a.map λp=>(kf p.1,vf p.2))/\a.Perm m
def KL.perm{K X:Type}{d:TypeDesc}{kf:K->V}{vf:X->V}{o:Obj}{m l:Up (K×X)}(h:KL d kf vf o m)(a:m.Perm l):KL d kf vf o l:=
 let⟨e,O,Z⟩:=h;⟨e,O,Z.trans a⟩
theorem BN5{K X:Type}{m:Up (K×X)}(a:(m.map (·.1)).Nodup){p q:K×X}(h:p∈m)(v:q∈m)(e:p.1=q.1):p=q:=by
 obtain⟨i,U,rfl⟩:=R4 h;obtain⟨j,z,rfl⟩:=R4 v;have:i=j:=QE a Pw Pw Pw
 grind
def Ac8{K X:Type}[DecidableEq K]{m a:Up (K×X)}(h:a.Perm m)(e:(a.map (·.1)).Nodup)(k:K)(z:X):Gf a k z=Gf m k z:=by
 grind[Gf,BN5]
def Bg0{K X:Type}[DecidableEq K]{m a r:Up (K×X)}(x:a.Perm m){k:K}{v:X}(h:FX m k v=some r):∃i,FX a k v=some i/\i.Perm r:=by
 unfold FX at h
 cases h;refine⟨_,rfl,?_⟩
 have e:a.any (λp=>decide (p.1=k))=m.any (λp=>decide (p.1=k)):=by
  rw[AE,DS,DS]
  grind
 rw[e]
 split
 ·grind
 exact x.append_right _
def Yb{K X:Type}{d:TypeDesc}{kf:K->V}{vf:X->V}{o:Obj}{m:Up (K×X)}(h:DH d o (m.map λp=>(kf p.1,vf p.2))):(m.map (·.1)).Nodup:=by
 have:=h.nodup
 rw[Bk]at this
 have e:(m.map ((·.1)∘λp=>(kf p.1,vf p.2)))=(m.map (·.1)).map kf:=by rw[Bk];rfl
 rw[e]at this
 grind
def Bq9 (P:If)(kt:Do)(d:TypeDesc):Bool:=match d with| .struct _=> !P.stoodInHeld kt|_=>true
structure An3 {K:Type} (P:Program) (d:TypeDesc) (kf:K->V):Prop where
 raw:∀x,∃v,DJ (kf x)=some v/\IP d v
 inj:∀x y,kf x=kf y->x=y
 kg:∀kt,P.underlying kt=some d->Bq9 P kt d=true->KG P kt (IP d)
def Fg{P:If}(k:IntKind):An3 P (.int k) (V.int k):=⟨λ_=>⟨_,rfl,rfl⟩,λx y h=>by cases h;rfl,λ_ h _=>KG.scalar h⟩
def Nq{P:If}:An3 P .string V.str:=⟨λ_=>⟨_,rfl,trivial⟩,λx y h=>by cases h;rfl,λ_ h _=>KG.scalar h⟩
theorem ZW:∀l:Up Int,NJ (l.map (V.int .i64))=some (l.map (Value.int .i64))
 |[]=>rfl
 |x::l=>by simp[NJ,PL,ZW l]
def BU1 (P:If)(fs:SI Field):Bool:=
 fs.toList.all (λf=>f.name != "_" &&(match P.underlying f.type with|some (.int .i64)=>true|_=>false)&&decide (f.offset<fs.size))&&(List.range fs.size).all (λi=>fs.toList.any λf=>f.offset==i)
def Bi1{K:Type}{P:If}{fs:SI Field}{g:K->Up Int}{kf:K->V}(v:∀x,kf x= .agg ((g x).map (V.int .i64)))(j:∀x,(g x).length=fs.size)(N:∀x y,g x=g y->x=y)
 (a:BU1 P fs=true):An3 P (.struct fs) kf where
 raw:=λx=>⟨.agg ((g x).map (Value.int .i64)).toArray,by rw[v];grind[DJ,ZW],g x,j x,rfl⟩
 inj:=λx y h=>N x y (by
  rw[v,v]at h
  have Z:=V.agg.inj h
  grind[List.map_inj_right])
 kg:=λkt h G=>by
  unfold BU1 at a
  simp only[G9,EL,DS,B3,bne_iff_ne,DL,ET]at a
  have⟨O,Z⟩:=a
  have e:P.fieldsOf kt=fs:=by simp[Program.fieldsOf,h]
  refine KG.flds (by rw[e];exact h) (by grind[Bq9]) ⟨λf a=>?_,λi U=>?_⟩
  ·rw[e]at a
   grind
  simp_all
def Cc8{X:Type}(vf:X->V):Prop:=∀x,∃v,DJ (vf x)=some v
def Aw8 (k:IntKind):Cc8 (V.int k):=λ_=>⟨_,rfl⟩
def FB:Cc8 V.bool:=λ_=>⟨_,rfl⟩
abbrev OneV (v:V):Prop:=v.one=true/\v.cells=[v]
def C3.startO{H0:A5}{id:Nat}{b:FV}(a:H0 id=some b):C3 Eq (upd H0 id none) [.blk id b] H0:=by
 have h:C3 Eq (upd H0 id none) [.blk id b] (upd (upd H0 id none) id (some b)):=(C3.start D7 rfl).push (E7 _ _ _) rfl
 rwa[BA,Bp8 H0 id (some b) a]at h
def Wq{α:Type}{f:α->V}{q:OG}{l:Up α}(h:Cj q ((lst f l).length:Nat)):Cj q (Ar.len l):=⟨h.1,by rw[h.2,len_eq,N4]⟩
section
variable {P:Program}{nt:Nat}{rd:Option Nat}{T:JV}{E:Hj}
variable (hE:E=J1 P nt rd)
include hE
variable {α R:Type}{f:α->V}{Φ:A5->A5->Prop}{H0 H:A5}{L:List En}{sz:Nat}{q:OG}{l:List α}{r:R}
theorem RH(a:C3 Φ H0 L H){k:V->A5->Prop}(h:∀(q:OG) H',Cj q (Ar.len ([]:Up α))->C3 Φ H0 (.blk q.id (.arr sz (q.pre++lst f []++q.rest))::L) H'->k (.own q.id q.lo q.n) H'):E.onil sz H k:=by
 subst hE;intro t i
 have e:([]:Up V)++lst f []++[]=[]:=by rw[<-E4 (f:=f)];rfl
 refine h ⟨t,0,0,[],[]⟩ _ ⟨rfl,by rw[len_eq];rfl⟩ ?_
 show C3 Φ H0 (.blk t (.arr sz (([]:Up V)++lst f []++[]))::L) _
 rw[e];exact a.push i rfl
theorem BY2{s d e:Nat}{l:Up Int}(G:Ic P s=some e)(x:P.underlying e=some (.int .u8))(hd:P.underlying d=some .string)(v:C3 Φ H0 L H)(N:Cj q (Ar.len l))(i:Nat)(U:L[i]? =some (.blk q.id (.arr 1 (q.pre++lst (V.int .u8) l++q.rest))))
 {F:Uf->OS R}(h:(AT0 l).bind F=some r)(y:∀b,F b=some r->k (.str b)):E.ostr s d H (.own q.id q.lo q.n) k:=by
 have a:=AT3 hE v N i U;subst hE;exact⟨_,⟨e,l,G,x,hd,by rw[<-lst_eq];exact a,rfl⟩,y _ h⟩
section
variable {K X:Type}{kf:K->V}{vf:X->V}{t kt et:Nat}{d:TypeDesc}{m:List (K×X)}{o:Obj}{id:Nat}
theorem ST(d:TypeDesc)(kf:K->V)(vf:X->V)(e:C3 Φ H0 L H){k:V->A5->Prop}(h:∀id o H',KL d kf vf o []->C3 Φ H0 (.blk id (.obj o)::L) H'->k (.map id) H'):E.mmk H k:=by
 subst hE;exact .inl λid a=>h id _ _ ⟨[],DH.empty d,.refl _⟩ (e.push a rfl)
theorem BU6[DecidableEq K](h:An3 P d kf){z:V}{z0:X}(Y:Lr P et=some z)(y:z=vf z0){key:K}{x:X×Bool}(M:Gf m key z0=some x)(ok:Bool):
 BV0 P et (m.map λp=>(kf p.1,vf p.2)) (kf key) ok (if ok=true then .tup [vf x.1,.bool x.2]else vf x.1):=by
 unfold Gf at M
 cases M
 cases a:m.find? (λp=>decide (p.1=key))with
 |none=>
  refine .inl ⟨λp i=>?_,z,Y,Pw⟩;obtain⟨q,v,rfl⟩:=List.mem_map.1 i;have:=List.find?_eq_none.1 a q v;exact λe=>this (by simpa using h.inj _ _ e)
 |some p=>
  have O:=List.find?_some a;have Z:=Pp a;refine .inr ⟨vf p.2,List.mem_map.2 ⟨p,Z,?_⟩,rfl⟩;rw[show p.1=key by grind]
theorem RK[DecidableEq K](C:P.underlying t=some (.map kt et))(hd:P.underlying kt=some d)(e:An3 P d kf){z:V}(z0:X)(Y:Lr P et=some z)(s:z=vf z0)(A:C3 Φ H0 L H)(a:KL d kf vf o m)(i:Nat)(U:L[i]? =some (.blk id (.obj o)))
 {key:K}{F:X×Bool->OS R}(h:(Gf m key z0).bind F=some r)(B:∀x,F x=some r->k (vf x.1))(y:Bq9 P kt d=true:=by kernel_rfl):E.mget t H (.map id) (kf key) false k:=by
 have⟨x,O,Z⟩:=bind_some h;have⟨J,a,G⟩:=a
 rw[<-Ac8 G (Yb a)]at O
 have u:=BU6 (P:=P) (vf:=vf) hE e Y s O false;exact zak
theorem Aj5[DecidableEq K](C:P.underlying t=some (.map kt et))(hd:P.underlying kt=some d)(e:An3 P d kf){z:V}(z0:X)(Y:Lr P et=some z)(s:z=vf z0)(A:C3 Φ H0 L H)(a:KL d kf vf o m)(i:Nat)(U:L[i]? =some (.blk id (.obj o)))
 {key:K}{F:X×Bool->OS R}(h:(Gf m key z0).bind F=some r)(B:∀x,F x=some r->k (.tup [vf x.1,.bool x.2]))(y:Bq9 P kt d=true:=by kernel_rfl):E.mget t H (.map id) (kf key) true k:=by
 have⟨x,O,Z⟩:=bind_some h;have⟨J,a,G⟩:=a
 rw[<-Ac8 G (Yb a)]at O
 have u:=BU6 (P:=P) (vf:=vf) hE e Y s O true;exact zak
theorem BI5[DecidableEq K](G:An3 P d kf)(z:((m.map λp=>(kf p.1,vf p.2)).map (·.1)).Nodup){key:K}{v:X}{A:Up (K×X)}(M:FX m key v=some A):Cc6 (m.map λp=>(kf p.1,vf p.2)) (kf key) (vf v) (A.map λp=>(kf p.1,vf p.2)):=by
 unfold FX at M
 cases M
 split
 ·rename_i h;have⟨p,s,x⟩:=List.any_eq_true.1 h
  have x:p.1=key:=Pw
  have⟨a,b,j⟩:=OY s;subst j;refine .inr ⟨a.map λp=>(kf p.1,vf p.2),vf p.2,b.map λp=>(kf p.1,vf p.2),by simp[x],?_⟩
  have N:∀l:Up (K×X),(∀q∈l,q.1≠key)->(l.map (λp=>if p.1=key then(key,v)else p))=l:=λl B=>by
   induction l with
   |nil=>rfl
   |cons y l ih=>rw[D2,A1 (B y OC),ih λq i=>B q (by simp[i])]
  rw[Bk,P8,D2,Jo]at z
  have⟨_,C,J⟩:=z
  rw[List.nodup_cons]at C
  have u:∀q∈a,q.1≠key:=λq i e=>J (kf q.1) (List.mem_map.2 ⟨q,i,rfl⟩) (kf p.1) OC (by rw[e,x]);have W:∀q∈b,q.1≠key:=λq i e=>C.1 (List.mem_map.2 ⟨q,i,by simp[e,x]⟩);rw[P8,D2,N a u,N b W,A2 x];simp
 rename_i h;refine .inl ⟨λp s=>?_,OC⟩;obtain⟨q,i,rfl⟩:=List.mem_map.1 s;exact λe=>h (List.any_eq_true.2 ⟨q,i,by simpa using G.inj _ _ e⟩)
theorem KW[DecidableEq K](J:P.underlying t=some (.map kt et))(hd:P.underlying kt=some d)(x:An3 P d kf)(B:Cc8 vf)(z:C3 Φ H0 L H)(a:KL d kf vf o m)(i:Nat)(U:L[i]? =some (.blk id (.obj o)))
 {key:K}{v:X}{k:A5->Prop}{F:Up (K×X)->OS R}(h:(FX m key v).bind F=some r)(C:∀e o' H',KL d kf vf o' e->F e=some r->C3 Φ H0 (L.set i (.blk id (.obj o'))) H'->k H')(N:Bq9 P kt d=true:=by kernel_rfl):E.mset t H (.map id) (kf key) (vf v) k:=by
 have⟨e,O,Z⟩:=bind_some h;have⟨m0,a,Q⟩:=a;have⟨Y,A,y⟩:=Bg0 Q O;have G:=BI5 (d:=d) hE x a.nodup A;subst hE;have⟨W,j,s⟩:=x.raw key;have⟨vv,u⟩:=B v;exact .inl ⟨kt,et,d,W,vv,id,o,_,_,J,x.kg _ hd N,j,s,u,rfl,z.get i U,a,G,λo' M=>C e o' _ ⟨Y,M,y⟩ Z (z.set i U)⟩
end
end
end Go.Ab
namespace Go.Ab
open Go.RowKit
variable [O7][Ar]
variable{k:V->A5->Prop}
def AQ8 (P:If)(f:FuncId)(args:Up V)(ks:Up Int)(xs:Up V):Prop:=∀H,L5 P f args H λv H'=>∃id,H id=none/\v= .map id/\H'=upd H id (some (.fm ks xs))
def FG (E:Hj)(n:Int)(K:V->Prop)(z:V):Up Int->Up V->Prop
 |k::ks,x::xs=>E.br (Ar.cmp .eql n k) (λ_=>K x) (λ_=>FG E n K z ks xs)
 |_,_=>K z
def AG (E:Hj)(i:Int)(K:Nat->Prop):Up Int->Prop
 |m::a=>E.br (Ar.cmp .eql i m) (λ_=>K m.toNat) (λ_=>AG E i K a)
 |[]=>False
section
variable {P:Program}{nt:Nat}{rd:Option Nat}{T:JV}{E:Hj}
variable (hE:E=J1 P nt rd)
include hE
variable {Φ:A5->A5->Prop}{H0 H:A5}{L:List En}{t kt et id:Nat}{ks:List Int}{xs:List V}
theorem Ch4(e:C3 Φ H0 L H)(h:∀id H',C3 Φ H0 (.blk id (.fm [] [])::L) H'->k (.map id) H'):E.mmk H k:=by
 subst hE;exact .inr (.inl λid a=>h id _ (e.push a rfl))
theorem BY3(h:P.underlying t=some (.map kt et))(hd:P.underlying kt=some (.int .i64))(a:C3 Φ H0 L H)(i:Nat)(U:L[i]? =some (.blk id (.fm ks xs))){n:Int}{v:V}(y:ks.all (λk=> !(k==n))=true)
 {k:A5->Prop}(e:∀H',C3 Φ H0 (L.set i (.blk id (.fm (ks++[n]) (xs++[v])))) H'->k H'):E.mset t H (.map id) (.int .i64 n) v k:=by
 subst hE;exact .inr (.inl ⟨kt,et,ks,xs,n,id,h,hd,rfl,a.get i U,rfl,(λx M=>by have:=List.all_eq_true.1 y x M;simp_all),e _ (a.set i U)⟩)
theorem AZ9 {n:Int} {K:V->Prop} {z:V}:∀(ks:Up Int) (xs:Up V),xs.length=ks.length->FG E n K z ks xs->∃v,((∃i:Nat,ks[i]? =some n/\v=xs.getD i .bad)\/((∀k∈ks,k≠n)/\z=v))/\K v
 |[],[],_,h=>⟨z,.inr ⟨(λ_ h=>by cases h),rfl⟩,h⟩
 |[],_::_,B,_=>by simp at B
 |_::_,[],B,_=>by simp at B
 | k::ks,x::xs,B,h=>by
  have ih:=AZ9 (n:=n) (K:=K) (z:=z) ks xs Pw
  unfold FG at h
  subst hE;have⟨O,Z⟩:=h
  rw[Ar.cmp_eq]at O Z
  cases W:JG .eql n k with
  |true=>
   have e:n=k:=by grind[JG]
   exact⟨x,.inl ⟨0,by simp[e],OC⟩,O W⟩
  |false=>
   have e:n≠k:=by grind[JG]
   have⟨v,j,a⟩:=ih (Z W);refine⟨v,?_,a⟩
   rcases j with⟨i,y,N⟩|⟨y,N⟩
   ·exact .inl ⟨i+1,Pw,Pw⟩
   grind
theorem Bb6 {i:Int} {K:Nat->Prop}:∀a:Up Int,AG E i K a->∃m∈a,i=m/\K i.toNat
 |[],h=>h.elim
 |m::a,h=>by
  have ih:=Bb6 (i:=i) (K:=K) a
  unfold AG at h
  subst hE;have⟨O,Z⟩:=h
  rw[Ar.cmp_eq]at O Z
  grind[JG]
theorem BY5(e:P.underlying t=some (.map kt et))(hd:P.underlying kt=some (.int .i64)){z:V}(Y:Lr P et=some z)(B:xs.length=ks.length){n:Int}{k:V->Prop}(h:FG E n k z ks xs):E.mget t H (.fmap ks xs) (.int .i64 n) false k:=by
 have⟨v,j,a⟩:=AZ9 hE ks xs B h;subst hE;exact⟨v,.inr (.inl ⟨kt,et,ks,xs,n,e,hd,rfl,rfl,rfl,j.imp (λh=>h) λ⟨O,Z⟩=>⟨O,Z▸Y⟩⟩),a⟩
theorem BM3{n:Nat}{i:Int}{K:Nat->Prop}(e:Up Int)(v:(e.map Int.toNat==List.range n&&e.all (λm=>decide (0<=m)))=true)(h:AG E i K e):E.aidx i n K:=by
 have⟨m,O,Z,y⟩:=Bb6 hE e h;subst hE;subst Z
 simp only[G9,DL,EL,B3]at v
 have a:i.toNat∈List.range n:=by rw[<-v.1];grind
 have x:=v.2 _ O
 rw[ET]at a
 grind[J1]
theorem Bw4{fid:FuncId}{args args':Up V}(i:AQ8 P fid args' ks xs)(B:M7 args args')(h:C3 Φ H0 L H)(x:∀id H',C3 Φ H0 (.blk id (.fm ks xs)::L) H'->k (.map id) H'):E.call (.func (.func fid) [] []) args H k:=by
 subst hE;refine L5.value (F:=[]) (C:=[]) ?_;simp only[K3,F2]
 exact((i H).args B).mono λv H' ⟨id,a,e2,e⟩=>by subst e2;subst e;exact x id _ (h.push a rfl)
end
def AP6{P:If}{T:JV}{f:FuncId}{fn:Func}{c:Code}{n:Nat}{rs:Up ResultVar}{args:Up V}{ks:Up Int}{xs:Up V}(e:Cf)(s:YV P T)(z:P.funcs[f]? =some fn)(W:fn.body=some c)(hd:M4 e c=true)
 (a:∀vals w,(callFunc f vals).run P w= .ok (.enter f vals) w)(v:fn.ntmps=n)(N:fn.results.toList=rs)(A:Nat.ble args.length n=true)
 (h:∀(E:Hj) (H:A5) (k:V->A5->Prop),E=J1 P n none->(∀id (L:Up En) (i:Nat) H',L[i]? =some (.blk id (.fm ks xs))->C3 Eq H L H'->k (.map id) H')->run E T n e c ⟨EA args 0,[]⟩ H (Tj E T rs k)):AQ8 P f args ks xs:=λH=>by
 refine L5.le (Ai (K:=λx H'=>∃y j,DI x y/\JI j H'/\∃id,H id=none/\y= .map id/\j=upd H id (some (.fm ks xs))) e s.1 s.2 z W hd a v N A λE hE=>?_);refine h E H _ hE λid L i H' U u=>?_;have⟨O,Z⟩:=(u.only i U).last;exact⟨_,_,.refl _,Z,id,O,rfl,rfl⟩
def Kf{α:Type}{m:OS α}{x:α}(h:m=some x):(m.bind λy=>some y)=some x:=by rw[h];rfl
inductive AF4 {α β:Type} (R:α->β->Prop):List α->List β->Prop
 |nil:AF4 R [] []
 |cons {x:α} {y:β} {xs:List α} {ys:List β} (h:R x y) (k:AF4 R xs ys):AF4 R (x::xs) (y::ys)
def AF4.get {α β:Type}{R:α->β->Prop}:∀{xs:Up α} {ys:Up β},AF4 R xs ys->∀{i:Nat} {y:β},ys[i]? =some y->∃x,xs[i]? =some x/\R x y
 |_,_,.nil,i,y,h=>by simp at h
 |_,_,.cons h k,0,y,e=>by simp at e;subst e;exact⟨_,rfl,h⟩
 |_,_,.cons h k,i+1,y,e=>by simp at e ⊢;exact k.get e
def AF4.len {α β:Type}{R:α->β->Prop}:∀{xs:Up α} {ys:Up β},AF4 R xs ys->xs.length=ys.length
 |_,_,.nil=>rfl
 |_,_,.cons _ k=>by simp[k.len]
def AQ6 (P:If)(a:V)(args:Up V)(Q:V->Prop):Prop:=∀H,Ft P a args H λx H'=>Q x/\H'=H
def Bj.value {P:If}{f:FuncId}{F C args:Up V}{Q:V->Prop}(h:Bj P f (F++args++C) Q):AQ6 P (.func (.func f) F C) args Q:=λH=>(h H).value
section
variable {P:Program}{nt:Nat}{rd:Option Nat}{E:Hj}(hE:E=J1 P nt rd)
include hE
theorem BM2{a R:Type}{Good:V->a->Prop}{xs:Up V}{fs:Up a}(j:AF4 Good xs fs){i:Int}{F:a->OS R}{r:R}(h:(C4 fs i).bind F=some r){x:Bool}{sz n:Nat}{k:V->Prop}
 (A:∀v f,Good v f->F f=some r->k v)(u:x=false:=by rfl)(G:sz=1:=by rfl)(N:n=fs.length:=by rfl):E.aidx i n λm=>MI (Im x sz xs (m*sz)) k:=by
 subst hE;subst u;subst G;subst N;have⟨f,O,Z⟩:=bind_some h
 unfold C4 at O
 split at O
 ·rename_i s;have⟨v,e,z⟩:=j.get O
  have y:i.toNat<fs.length:=by
   grind
  grind[J1,MI,Im]
 cases O
theorem Bw2{R S:Type}{m:OS S}{F:S->OS R}{r:R}{a:V}{args:Up V}{args':Up V}{Q:S->V->Prop}{H:A5}(h:m.bind F=some r)(y:∀x,m=some x->AQ6 P a args' (Q x))(B:M7 args args')
 (N:∀x v,Q x v->F x=some r->k v H):E.call a args H k:=by
 subst hE;have⟨x,O,Z⟩:=bind_some h;intro g w v vals C j e;exact J3.mono (λ_ _ p=>O6.mono (λv H' ⟨s,i⟩=>by subst i;exact N x v s Z) p) (y x O H g w v vals C j (e.le B))
end
end Go.Ab
namespace Go.Ab
open Go.RowKit Go.Sort Go.Shelf Go.Proofs
variable{ds:Up V}{g:Gh}{k:Nat}{w:Is}{α:Type}
structure An2 (P:Program) (f:FuncId) (k:Nat):Prop where
 zero:∀p cap fv w,Calls P f #[.slice p 0 cap,fv] w λe w'=>e= .returned (.tuple #[])/\w'=w
 pos:∀(α:Type) [Inhabited α] (enc:α->List Value) (_:∀x,(enc x).length=k) (_:∀x,∀v∈enc x,v.oneCell'=true) (cf:α->α->Int) (_:SWO (ltOf cf)) (g:Nat) (cb:Array Value) (blk off cap:Nat) (d:Array α) (w:World)
  (_:∀args w,(callFunc g args).run P w= .ok (.enter g args) w) (_:CmpLays P g cb enc k cf blk off d.size w) (_:HoldsK enc k w blk off d) (_:blk<w.heap.size) (_:d.size<4611686018427387904) (_:∀x y,(ltOf cf) x y=false->(ltOf cf) y x=false->x=y),
  Calls P f #[.slice (some ⟨blk,off,none⟩) d.size cap,.func (.func g) #[] cb] w λe w'=>e= .returned (.tuple #[])/\∃n os,w'=sortWorldK enc k w blk off n (d.toList.mergeSort λx y=> !(ltOf cf) y x).toArray os
def Bd6{P:If}{a:Ren}(e:SlLaysF0.n6 P a)(h:∀w,(isAgg (a.t 24)).run P w= .ok true w)(zE:∀w,(Go.sizeOf (a.t 24)).run P w= .ok k w):An2 P (a.f 6) k:=
 ⟨λp cap v w=>AnyF.slices_SortFunc_none e p cap v w,λα _ enc s O i y g cb blk off cap d w eg j x W G N=>AnyQ.slices_SortFunc_total e k h zE enc s O i y g cb blk off cap d w eg j x W G N⟩
variable [O7]
def AX2{pre rest:Up V}{j:Nat}(z:j<ds.length):(pre++ds++rest).getD (pre.length+j) .bad=ds.getD j .bad:=by
 rw[E1,U2,GB AY,Nat.add_sub_cancel_left,GA z,U2]
def AV0{pre a rest:Up V}(B:ds.length=a.length){i:Nat}(U:i<pre.length\/pre.length+ds.length<=i):(pre++ds++rest).getD i .bad=(pre++a++rest).getD i .bad:=by
 simp only[E1,U2]
 rcases U with U|U
 ·rw[GA U,GA U]
 have key:∀l:Up V,l.length=a.length->(pre++(l++rest))[i]? =rest[i-pre.length-a.length]? :=λl h=>by
  rw[GB AY,GB AY,h]
 rw[key _ B,key _ rfl]
def Bt7{off:Nat}{d c:SI HO}{t:Nat}(a:t<c.size):(putCells (λv=>v) off d c).getD t undef=if off<=t/\t<off+d.size then d[t-off]! else c.getD t undef:=by
 unfold putCells;simp only[Array.getD,Array.size_mapIdx,a,dif_pos,Array.getInternal_eq_getElem,Array.getElem_mapIdx]
def AI8{H:A5}(C:Rl g H w){y b:Nat}{pre h rest:Up V}{c:SI HO}{T:Do}(hk:H y=some (.arr k (pre++h++rest)))(e1:g.mu y=some b)(B:ds.length=h.length)(ai:0<h.length)
 (k2:w.heap[b]? =some (.cells c T (0,0)))(k3:(g.ow y).o+(pre++h++rest).length*k<=c.size)
 (k4:∀i j,i<(pre++h++rest).length->j<k->(c.getD ((g.ow y).o+i*k+j) undef).oneCell'=true/\VR g w (c.getD ((g.ow y).o+i*k+j) undef) (((pre++h++rest).getD i .bad).cells.getD j .bad))
 (e9:∀i,i<(pre++h++rest).length->((pre++h++rest).getD i .bad).cells.length=k)
 (d:SI HO)(hd:d.size=h.length*k)(ag:∀i,i<ds.length->(ds.getD i .bad).cells.length=k)
 (ah:∀i j,i<ds.length->j<k->(d[i*k+j]!).oneCell'=true/\VR g w d[i*k+j]! ((ds.getD i .bad).cells.getD j .bad))(m:Nat)(os:SI Obj):
 Al g w g (grow (putRow (λv=>v) (Sort.ahead w m) b ((g.ow y).o+pre.length*k) d) os)/\
  Rl g (upd H y (some (.arr k (pre++ds++rest)))) (grow (putRow (λv=>v) (Sort.ahead w m) b ((g.ow y).o+pre.length*k) d) os):=by
 have af:(pre++h++rest).length=pre.length+h.length+rest.length:=by simp;omega
 have ad:(pre++ds++rest).length=pre.length+h.length+rest.length:=by simp;omega
 have G:=Rl.setArr C (ys:=pre++ds++rest) (c':=putCells (λv=>v) ((g.ow y).o+pre.length*k) d c) hk e1 AY k2 (by simp[putCells])
  (λo ho=>by
   simp only[putCells,UU]
   grind)
  AY
  (λi U=>by
   grind)
  (λi j U z=>by
   have W:(i+1)*k<=(pre++h++rest).length*k:=J0 k AY
   rw[F9,Z2]at W
   rw[Bt7 AY]
   by_cases O:i<pre.length
   ·have aa:(i+1)*k<=pre.length*k:=J0 k O
    rw[F9,Z2]at aa
    rw[A1 AY,AV0 B (.inl O)]
    grind
   by_cases Z:pre.length+ds.length<=i
   ·have ab:(pre.length+ds.length)*k<=i*k:=J0 k Z
    rw[F9]at ab
    rw[A1 (by rw[hd,<-B];omega),AV0 B (.inr Z)]
    grind
   obtain⟨u,rfl⟩:∃u,i=pre.length+u:=⟨i-pre.length,AY⟩
   have hu:u<ds.length:=AY
   have ac:(u+1)*k<=h.length*k:=J0 k AY
   rw[F9,Z2]at ac
   rw[A2 (by rw[hd,F9];omega),AX2 hu,show(g.ow y).o+(pre.length+u)*k+j-((g.ow y).o+pre.length*k)=u*k+j by rw[F9];omega]
   simp_all)
 have⟨A,R1⟩:=G
 generalize a:w.setRow b (putCells (λv=>v) ((g.ow y).o+pre.length*k) d c)=w1 at A R1
 have Y:w1.heap.size=w.heap.size:=by rw[<-a];simp
 have N:∀x,x<w1.heap.size->(grow (putRow (λv=>v) (Sort.ahead w m) b ((g.ow y).o+pre.length*k) d) os).heap[x]? =w1.heap[x]? :=λx M=>by
  have ae:x<w.heap.size:=AY
  simp only[grow,putRow,mapBlock,Sort.ahead];rw[Ve (by simpa using ae),Jt]
  by_cases J:b=x
  ·subst J;rw[A2 rfl,k2,<-a,setRow_heap w b c _ T (0,0) k2];rfl
  rw[A1 J,<-a,S3 w b _ x (λe=>J e.symm)]
 have Q:Below g.base w1 (grow (putRow (λv=>v) (Sort.ahead w m) b ((g.ow y).o+pre.length*k) d) os):=by
  refine⟨by rw[<-a];rfl,by rw[<-a];rfl,by rw[<-a];rfl,?_,λk aj=>?_⟩
  ·rw[Y];simp
  exact N k (by have:=C.bnd;omega)
 have⟨s,R2⟩:=R1.more Q N (by rw[<-a];exact Jm _ _);exact⟨A.trans s,R2⟩
def BA1{w':Is}(h:Below w.heap.size w w')(hd:w.drawn<=w'.drawn):∃q os',w'=grow (w.drewN q) os':=by
 refine⟨w'.drawn-w.drawn,w'.heap.extract w.heap.size w'.heap.size,?_⟩;have⟨O,Z,v,N,x⟩:=h
 cases w' with
 |mk heap y e j a=>
  simp only at O Z v N x hd ⊢
  subst O;subst Z;subst v;simp only[grow,World.drewN,LM,true_and,P7];refine⟨?_,AY⟩;apply Array.ext_getElem?;intro i;rw[GX]
  split
  ·rename_i U;exact x i U
  rename_i U;rw[Pl]
  split
  ·rename_i h;rw[show w.heap.size+(i-w.heap.size)=i by omega]
  rename_i h;rw[UY AY]
def VR.base_up{B:Nat}(C:g.base<=B){v:HO}{x:V}(h:VR g w v x):VR {g with base:=B} w v x:=by
 induction h with
 |bad v=>exact .bad v
 |bool b=>exact .bool b
 |int k n=>exact .int k n
 |str s=>exact .str s
 |nilp=>exact .nilp
 |nilf=>exact .nilf
 |nili=>exact .nili
 |nilmap=>exact .nilmap
 |map h=>exact .map h
 |fmap W i M u a j ih=>exact .fmap (OZ W C) i M u a ih
 |ref h=>exact .ref h
 |own h A O Z Q=>exact .own h A O Z Q
 |elem h G=>exact .elem h G
 |eref vs y i O j ih=>exact .eref vs y i O ih
 |sl0 e=>exact .sl0 e
 |sle e=>exact .sle e
 |sl vs u J Y y i O j e ih=>exact .sl vs u J Y y i O ih (by cases ‹G5› <;>exact e)
 |func a j N U ih z=>exact .func a ih N z
 |yield h=>exact .yield h
 |iface h ih=>exact .iface ih
 |agg a O j ih=>exact .agg a O ih
 |tup a j ih=>exact .tup a ih
def BN2{P:If}{f:FuncId}{args:Up V}{n:Int}(z:B1 P f args (.int .i64 n))(a:∀vals w,(callFunc f vals).run P w= .ok (.enter f vals) w){H:A5}(C:Rl g H w){vals:SI HO}(u:Args g w vals args):
 Calls P f vals w λe w'=>e= .returned (.int .i64 n)/\∃q os',w'=grow (w.drewN q) os':=by
 let y:Gh:={g with base:=w.heap.size,nx:=g.nx}
 have N:Rl y (λ_=>none) w:=⟨λ_ _ h=>(by cases h),λid A b O Z=>(by simp[Gh.at]at O),C.frz,λid h=>⟨(C.nxt id h).1,(C.nxt id h).2.1,rfl⟩,C6 _,λn=>(C.glb n).base_up C.bnd⟩;have h:=z (λ_=>none) y w vals N ⟨u.1,λi U=>(u.2 i U).base_up C.bnd⟩
 rw[a]at h
 have h:CallsIn Fence.wide 0 P f vals w λe w'=>∃v,e= .returned v/\O6 y w (λx H'=>x= .int .i64 n/\H'=λ_=>none) v w':=h
 rw[callsIn_wide]at h
 refine h.mono ?_;rintro e w' ⟨v,rfl,g',x,H',s,R',j,rfl,rfl⟩;exact⟨by rw[j.int_inv],BA1 s.low s.dr⟩
def An6 (P:If)(f:FuncId)(a:V)(k:Nat)(xs ys:Up V):Prop:=
 (∀H (q:OG),Cj q (xs.length:Nat)->H q.id=some (.arr k (q.pre++xs++q.rest))->L5 P f [.own q.id q.lo q.n,a] H λx H'=>x= .tup []/\H'=upd H q.id (some (.arr k (q.pre++ys++q.rest))))/\ys.length=xs.length
def VR.funcN{v:HO}{fn:Fn}{C:Up V}(h:VR g w v (.func fn [] C)):∃cb,v= .func fn #[] cb/\Args g w cb C:=by
 cases h with
 |@func _ fs cs _ _ B j a e=>
  have i:fs= #[]:=Vh B
  simp_all[Args]
def BA9[Inhabited α]{enc:α->Up HO}{d:SI α}{i j:Nat}(U:i<d.size)(z:j<k):(flatK enc k d)[i*k+j]! =(enc d[i]!)[j]! :=by
 have O:(i+1)*k<=d.size*k:=J0 k U
 rw[F9,Z2]at O
 rw[get_flatK _ _ _ _ AY]
 have a:0<k:=AY
 rw[show(i*k+j) / k=i by rw[GO,Nat.mul_add_div a,Nat.div_eq_of_lt z];rfl,show(i*k+j) % k=j by rw[GO,Nat.mul_add_mod,OQ z]]
def VP[Ar]{P:If}{sf:FuncId}(hS:An2 P sf k)
 (az:∀vals w,(callFunc sf vals).run P w= .ok (.enter sf vals) w){f:α->V}{va:α->Up V}(hf:∀x,f x= .agg (va x))(ae:∀x,(va x).length=k)
 {cmp:α->α->OS Int}{gf:FuncId}{C:Up V}(eg:∀vals w,(callFunc gf vals).run P w= .ok (.enter gf vals) w)(hc:∀a b n,cmp a b=some n->B1 P gf ([.agg (va a),.agg (va b)]++C) (.int .i64 n))
 {l r:Up α}(h:Pz cmp l=some r):An6 P sf (.func (.func gf) [] C) k (lst f l) (lst f r):=by
 have⟨hp,ac,ax⟩:=AH4 h;refine⟨?_,by rw[N4,N4];exact hp.length_eq⟩;rw[lst_eq,lst_eq];intro H q hq hk g w vals hR hA;have⟨aw,hv⟩:=hA;have⟨vals⟩:=vals
 match vals,aw with
 | [v,a5],_=>
  have bd:VR g w v (.own q.id q.lo q.n):=by have:=hv 0 OC;simpa using this
  have be:VR g w a5 (.func (.func gf) [] C):=by have:=hv 1 OC;simpa using this
  obtain⟨cb,rfl,ap⟩:=be.funcN;rw[az]
  show CallsIn Fence.wide 0 P sf #[v,.func (.func gf) #[] cb] w _
  rw[callsIn_wide];have⟨b,p,e1,e2,e3,e4,e5,e6,e7,e8,e9,am⟩:=Gm hR hk bd
  have bf:(q.pre++l.map f++q.rest).length=q.pre.length+l.length+q.rest.length:=by simp;omega
  have a8:=hq.2
  rw[H9]at a8
  have ay:q.n.toNat=l.length:=AY
  by_cases Y:l=[]
  ·subst Y
   have Q:r=[]:=by simpa using hp.length_eq
   subst Q;subst e2;rw[ay];refine(hS.zero p _ _ w).mono ?_;rintro e w' ⟨rfl,rfl⟩;refine⟨_,rfl,g,.tup [],H,Al.refl _ _,hR,VR.und _ _,rfl,?_⟩
   funext x
   simp_all[upd]
  have hn:0<l.length:=List.length_pos_iff.2 Y
  rcases am with am|⟨c,T,k1,k2,k3,k4,k5,k6⟩
  ·omega
  have a9:=e8 (by rw[hq.1];omega);subst a9;subst e2
  haveI:Inhabited (Fin l.length):=⟨⟨0,hn⟩⟩
  have a7:q.lo.toNat=q.pre.length:=by rw[hq.1];simp
  let enc:Fin l.length->Up Value:=λi=>(List.range k).map λj=>c.getD ((g.ow q.id).o+(q.pre.length+i.val)*k+j) undef
  have A:∀x,(enc x).length=k:=λx=>by simp[enc]
  have ab:∀(x:Fin l.length) (j:Nat),j<k->(enc x)[j]! =c.getD ((g.ow q.id).o+(q.pre.length+x.val)*k+j) undef:=λx j hj=>by simp[enc,hj]
  have ad:∀(x:Fin l.length) (j:Nat),((q.pre++l.map f++q.rest).getD (q.pre.length+x.val) .bad).cells.getD j .bad=(va l[x.val]).getD j .bad:=λx j=>by
   have e:(l.map f).getD x.val .bad=f l[x.val]:=by rw[U2,Y1,D9 x.isLt];rfl
   rw[AX2 OC,e,hf];rfl
  have B:∀(x:Fin l.length) (j:Nat),j<k->((enc x)[j]!).oneCell'=true/\VR g w (enc x)[j]! ((va l[x.val]).getD j .bad):=λx j hj=>by
   rw[ab x j hj,<-ad]
   grind
  have O:∀x,∀v∈enc x,v.oneCell'=true:=λx v hv=>by
   obtain⟨j,hj,rfl⟩:=R4 hv
   rw[A]at hj
   have:=(B x j hj).1
   rwa[getElem!_pos _ _ (by rw[A];exact hj)]at this
  have ah:∀i j:Fin l.length,∃n,cmp l[i.val] l[j.val]=some n:=λi j=>AH2 ac (hp.mem_iff.2 (I9 _)) (hp.mem_iff.2 (I9 _))
  let cf:Fin l.length->Fin l.length->Int:=λi j=>(cmp l[i.val] l[j.val]).getD 0
  have aj:∀i:Fin l.length,∃p:Nat,∃hh:p<r.length,r[p]=l[i.val]:=λi=>by
   have⟨p,hh,e⟩:=R4 (hp.mem_iff.2 (I9 i.isLt));exact⟨p,hh,e⟩
  let M:Fin l.length->Nat:=λi=>Classical.choose (aj i)
  have u:∀i:Fin l.length,∃hh:M i<r.length,r[M i]=l[i.val]:=λi=>US (aj i)
  have N:∀i j,ltOf cf i j=decide (M i<M j):=λi j=>by
   have⟨n,hn⟩:=ah i j;have⟨a1,a2⟩:=u i;have⟨b1,b2⟩:=u j;rw[<-Dq ac a1 b1,a2,b2];simp[ltOf,cf,Xc,hn]
  have al:=hp.nodup_iff.1 (Ag4 ac)
  have au:∀i j:Fin l.length,M i=M j->i=j:=λi j e=>by
   have⟨a1,a2⟩:=u i;have⟨b1,b2⟩:=u j
   have e2:l[i.val]=l[j.val]:=by rw[<-a2,<-b2];simp only[e]
   rw[List.Nodup,Ir]at al
   apply Fin.ext
   rcases OT i.val j.val with h'|h'|h'
   ·exact absurd e2 (al _ _ i.isLt j.isLt h')
   ·exact h'
   exact absurd e2.symm (al _ _ j.isLt i.isLt h')
  have hO:SWO (ltOf cf):=⟨λx=>by rw[N];simp,λx y z=>by rw[N,N,N];simp;omega,λx y z=>by rw[N,N,N];simp;omega⟩
  have hT:∀x y,ltOf cf x y=false->ltOf cf y x=false->x=y:=λx y=>by
   rw[N,N];intro a b;simp at a b;exact au _ _ AY
  let d0:SI (Fin l.length):=(List.finRange l.length).toArray
  have aa:d0.size=l.length:=by simp[d0]
  have hW:∀(J:SI (Fin l.length)),J.size=l.length->∀(m:Nat) (os:SI Obj),
   Al g w g (sortWorldK enc k w b ((g.ow q.id).o+q.pre.length*k) m J os)/\Rl g (upd H q.id (some (.arr k (q.pre++J.toList.map (λi=>f l[i.val])++q.rest)))) (sortWorldK enc k w b ((g.ow q.id).o+q.pre.length*k) m J os):=by
   intro J aq m os
   have ar:∀i (U:i<J.size),(J.toList.map (λi=>f l[i.val])).getD i .bad=f l[(J[i]!).val]:=λi U=>by
    have e:J[i]! =J[i]:=getElem!_pos J i U;rw[U2,Y1,EP,DX U];simp only[e,K1,CV]
   have ak:(J.toList.map (λi=>f l[i.val])).length=J.size:=OC
   exact AI8 hR hk e1 (by rw[ak,H9,aq]) (by simpa using hn) k2 k3 k4 e9 (flatK enc k J) (by rw[size_flatK,aq,H9])
    (λi U=>by rw[ak]at U;rw[ar i U,hf];exact ae _)
    (λi j U hj=>by
     rw[ak]at U
     rw[BA9 U hj,ar i U,hf]
     exact B _ j hj) m os
  have hH:HoldsK enc k w b ((g.ow q.id).o+q.pre.length*k) d0:=by
   intro t ht
   rw[size_flatK,aa]at ht
   have av:0<k:=by
    rcases OX k with h0|h0
    ·rw[h0,Nat.mul_zero]at ht;omega
    exact h0
   have U:t / k<l.length:=(Pq av).2 ht;have hj:t % k<k:=Cz _ av
   have e3:t=t / k*k+t % k:=by have:=Pf t k;rw[GO]at this;omega
   have W:(t / k+1)*k<=l.length*k:=J0 k U
   rw[F9,Z2]at W
   have a6:(q.pre.length+l.length)*k<=(q.pre++l.map f++q.rest).length*k:=J0 k (by rw[bf];omega)
   rw[F9]at a6
   have a0:(flatK enc k d0)[t]! =c.getD ((g.ow q.id).o+q.pre.length*k+t) undef:=by
    have hg:d0[t / k]! =⟨t / k,U⟩:=by rw[getElem!_pos _ _ (by rw[aa];exact U)];simp[d0]
    rw[get_flatK _ _ _ _ (by rw[aa];exact ht),hg,ab _ _ hj]
    congr 1
    rw[F9];show _+(_+t / k*k)+t % k=_;omega
   refine⟨?_,by simp[World.frozen?,k2]⟩
   have ax:(g.ow q.id).o+q.pre.length*k+t<c.size:=AY
   rw[show(id (flatK enc k d0)[t]! :Value)=(flatK enc k d0)[t]! from rfl,a0];simp[World.cell?,k2,Array.getD,ax]
  have ag:CmpLays P gf cb enc k cf b ((g.ow q.id).o+q.pre.length*k) d0.size w:=by
   intro m os J G x y;have⟨s,R⟩:=hW J (G.trans aa) m os;have⟨n,a3⟩:=ah x y
   have a4:cf x y=n:=by simp[cf,a3]
   rw[a4]
   have af:∀z:Fin l.length,VR g (sortWorldK enc k w b ((g.ow q.id).o+q.pre.length*k) m J os) (.agg (enc z).toArray) (.agg (va l[z.val])):=λz=>by
    have hg:∀i,i<k->(enc z).toArray.getD i undef=(enc z)[i]! :=λi U=>by
     rw[getElem!_pos _ _ (by rw[A];exact U)];simp[Array.getD,A,U]
    refine VR.agg (by simp[A,ae]) (λi U=>?_) (λi U=>?_)
    ·rw[ae]at U;rw[hg i U];exact(B z i U).1
    rw[ae]at U;rw[hg i U];exact(B z i U).2.mono s
   refine BN2 (hc _ _ _ a3) eg R (Args.append (x:=[.agg (va l[x.val]),.agg (va l[y.val])]) ⟨rfl,λi U=>?_⟩ ⟨ap.1,λi U=>(ap.2 i U).mono s⟩)
   match i,U with
   |0,_=>exact af x
   |1,_=>exact af y
  have ao:b<w.heap.size:=by
   rcases R3 b w.heap.size with h'|h'
   ·exact h'
   rw[UY h']at k2;cases k2
  have ai:=hS.pos _ enc A O cf hO gf cb b ((g.ow q.id).o+q.pre.length*k) ((q.pre++l.map f++q.rest).length-q.pre.length) d0 w eg ag hH ao AY hT;clear ag hH hO hT
  rw[aa]at ai
  rw[ay,a7];refine ai.mono ?_;rintro e w' ⟨rfl,n',os,rfl⟩
  let s:=d0.toList.mergeSort λx y=> !(ltOf cf) y x
  have ba:s.toArray.size=l.length:=by simp[s,UT,d0]
  have⟨st,R⟩:=hW s.toArray ba n' os;refine⟨_,rfl,g,.tup [],_,st,R,VR.und _ _,rfl,?_⟩
  have bb:s.Perm (List.finRange l.length):=by simpa[d0]using List.mergeSort_perm d0.toList λx y=> !(ltOf cf) y x
  have bc:s.map (λi=>l[i.val])=r:=by
   refine Av1 ac ?_ ?_
   ·have Z:=bb.map (λi:Fin l.length=>l[i.val])
    have h3:(List.finRange l.length).map (λi:Fin l.length=>l[i.val])=l:=by
     apply Jk
     ·simp
     intro i O Z;simp
    rw[h3]at Z
    exact Z.trans hp.symm
   rw[GU];have Z:=Mc (le:=λx y=> !(ltOf cf) y x) (λa b c=>by simp only[N];simp;omega) (λa b=>by simp only[N];simp;omega) d0.toList;refine Z.imp λ{a b} an=>?_;have⟨a1,a2⟩:=u a;have⟨b1,b2⟩:=u b
   rw[N]at an
   rw[<-a2,<-b2,Dq ac b1 a1]
   simpa using an
  have:s.toArray.toList.map (λi=>f l[i.val])=r.map f:=by rw[<-bc,Bk];rfl
  rw[this]
section
variable [Ar]{P:Program}{nt:Nat}{rd:Option Nat}{E:Hj}(hE:E=J1 P nt rd)
include hE
theorem Aw7{Φ:A5->A5->Prop}{H0 H:A5}{L:Up En}{fid:FuncId}{e:V}{q:OG}{sz:Nat}{f:α->V}{l:Up α}{k:V->A5->Prop}{R:Type}{m:OS (Up α)}{F:Up α->OS R}{r:R}
 (y:C3 Φ H0 L H)(a:Cj q (Ar.len l))(i:Nat)(U:L[i]? =some (.blk q.id (.arr sz (q.pre++lst f l++q.rest))))(h:m.bind F=some r)(u:∀x,m=some x->An6 P fid e sz (lst f l) (lst f x))
 (z:∀x H',Cj q (Ar.len x)->C3 Φ H0 (L.set i (.blk q.id (.arr sz (q.pre++lst f x++q.rest)))) H'->F x=some r->k (.tup []) H'):
 E.call (.func (.func fid) [] []) [.own q.id q.lo q.n,e] H k:=by
 subst hE;have⟨x,O,Z⟩:=bind_some h;have⟨N,j⟩:=u x O;refine L5.value (F:=[]) (C:=[]) ?_;simp only[K3,F2];refine(N H q ⟨a.1,by rw[a.2,len_eq,N4]⟩ (y.get i U)).mono λv H' ⟨s,e2⟩=>?_;subst s;subst e2;refine z x _ ⟨a.1,?_⟩ (y.set i U) Z;rw[a.2,len_eq,len_eq]
 rw[N4,N4]at j
 omega
end
end Go.Ab
namespace Go.Ab
open Go.RowKit
variable [O7]
def L5.thaw {P:If} {f:FuncId} {args:Up V} {H:A5} {K K':V->A5->Prop} (h:L5 P f args H K)
 (A:∀x H',K x H'->K' x H'\/∃id sz row lo n,x= .own id lo n/\H' id=some (.arr sz row)/\K' (.sl (P2 row lo n) .ro) (upd H' id none)):L5 P f args H K':=
 λg w vals C z=>(h g w vals C z).mono λv w' ⟨g',x,H',s,a,j,i⟩=>by
  rcases A x H' i with i|⟨id,sz,row,lo,n,rfl,O,Z⟩
  ·grind[O6]
  have⟨u,y,N,e⟩:=a.freezeArr O;exact⟨u,_,_,s.trans y,N,e _ _ _ (j.mono y),Z⟩
section
variable [Ar]{P:Program}{T:JV}
def Ch {f:FuncId} {fn:Func} {c:Code} {n:Nat} {rs:Up ResultVar} {args:Up V} {r:V} (N:Cf) (z:YV P T) (A:P.funcs[f]? =some fn) (W:fn.body=some c) (hd:M4 N c=true)
 (a:∀vals w,(callFunc f vals).run P w= .ok (.enter f vals) w) (j:fn.ntmps=n) (s:fn.results.toList=rs) (B:Nat.ble args.length n=true)
 (h:∀(E:Hj) (H:A5) (K:V->A5->Prop),E=J1 P n none->(∀x L H',C3 Eq H L H'->DI x r->K x H')->
  (∀(q:OG) (sz:Nat) (xs:Up V) (i:Nat) (L:Up En) H',C3 Eq H L H'->L[i]? =some (.blk q.id (.arr sz (q.pre++xs++q.rest)))->Cj q (xs.length:Nat)->DI (.sl xs .ro) r->K (.own q.id q.lo q.n) H')->run E T n N c ⟨EA args 0,[]⟩ H (Tj E T rs K)):B1 P f args r:=λH=>by
 refine L5.le ?_
 refine(Ai (K:=λx H'=>(∃y u,DI x y/\JI u H'/\y=r/\u=H)\/∃(q:OG) (sz:Nat) (xs:Up V) (i:Nat) (L:Up En),x= .own q.id q.lo q.n/\C3 Eq H L H'/\L[i]? =some (.blk q.id (.arr sz (q.pre++xs++q.rest)))/\Cj q (xs.length:Nat)/\DI (.sl xs .ro) r)
  N z.1 z.2 A W hd a j s B λE hE=>?_).thaw ?_
 ·exact h E H _ hE (λx L H' e M=>.inl ⟨r,H,M,e.ext,rfl,rfl⟩) λq sz xs i L H' e U v Q=>.inr ⟨q,sz,xs,i,L,rfl,e,U,v,Q⟩
 rintro x H' (h|⟨q,sz,xs,i,L,rfl,e,U,v,Q⟩)
 ·exact .inl h
 refine .inr ⟨q.id,sz,_,q.lo,q.n,rfl,e.get i U,r,H,?_,(e.del i U).ext,rfl,rfl⟩;rw[WT rfl v.1 v.2];exact Q
end
end Go.Ab
namespace Go.Ab
open Go.RowKit
variable [O7][Ar]
section
variable {P:Program}{nt:Nat}{rd:Option Nat}{T:JV}{E:Hj}{I:List (List V)->A5->A5->Prop}{D:A5->A5->Prop}
def C3.hle {Φ:A5->A5->Prop}{F H H':A5}{L:Up En}(h:C3 Φ F L H)(B:JI H H'):C3 Φ F L H':=by
 grind[C3,JI]
def Bv5 (hE:E=J1 P nt rd) {α R:Type} {f:α->V} {sz:Nat} (i:∀x,(f x).cells.length=sz) {l:Up α} {tl:G5} {lo:OS Int} {m:Int} {k:V->Prop} {F:Up α->OS R} {r:R} (h:(Dc l lo (some m) (some m)).bind F=some r)
 (N:∀x,F x=some r->k (.sl (lst f x) .full)):E.slice sz (lst f l) tl lo (some m) (some m) k:=by
 subst hE;have⟨x,O,Z⟩:=bind_some h
 unfold Dc at O
 split at O
 ·rename_i a;have⟨v,y,c3,c4,c5⟩:=a;cases O;refine⟨?_,?_⟩
  ·rw[N4]
   simp_all[PX]
  have e:m=(m.toNat:Int):=Pw
  have a:ME (lo.getD 0).toNat m.toNat l.length (some m) tl= .full:=A2 e;rw[N4,lst_eq,<-LJ,<-LI]
  grind[lst_eq]
 cases O
variable {α β σ:Type}
end
end Go.Ab
namespace Go.Ab
open Go.RowKit Go.MapKept
variable [O7][Ar]
section
variable {K X:Type}
def AQ7 (P:If)(f:FuncId)(args:Up V)(d:TypeDesc)(kf:K->V)(vf:X->V)(m:Up (K×X)):Prop:=
 ∀H,L5 P f args H λv H'=>∃id o,H id=none/\KL d kf vf o m/\v= .map id/\H'=upd H id (some (.obj o))
end
section
variable {P:Program}{nt:Nat}{rd:Option Nat}{T:JV}{E:Hj}
variable (hE:E=J1 P nt rd)
include hE
variable {K X R S:Type}{kf:K->V}{vf:X->V}{d:TypeDesc}{Φ:A5->A5->Prop}{H0 H:A5}{L:List En}{r:R}{fid:FuncId}{args args':List V}{k:V->A5->Prop}
theorem Bw3 {m:OS (Up (K×X))}{F:Up (K×X)->OS R}(h:m.bind F=some r)(y:∀x,m=some x->AQ7 P fid args' d kf vf x)(B:M7 args args')(i:C3 Φ H0 L H)
 (N:∀x id o H',KL d kf vf o x->C3 Φ H0 (.blk id (.obj o)::L) H'->F x=some r->k (.map id) H'):E.call (.func (.func fid) [] []) args H k:=by
 subst hE;have⟨x,O,Z⟩:=bind_some h;refine L5.value (F:=[]) (C:=[]) ?_;simp only[K3,F2]
 exact((y x O H).args B).mono λv H' ⟨id,o,a,e2,e,e4⟩=>by subst e;subst e4;exact N x id o _ e2 (i.push a rfl) Z
end
def C3.ne {Φ:A5->A5->Prop}{F H:A5}{L:Up En}{a b:Nat}{x y:FV}(h:C3 Φ F L H)(i j:Nat)(U:L[i]? =some (.blk a x))(z:L[j]? =some (.blk b y))(v:i≠j):a≠b:=λe=>by
 have⟨G,s,J,N,O,Z⟩:=h;subst e;exact v (N.inj i j _ _ a x y U z rfl rfl)
section
variable {P:Program}{T:JV}{f:FuncId}{fn:Func}{c:Code}{n:Nat}{rs:List ResultVar}{args:List V}{K X:Type}{kf:K->V}{vf:X->V}{d:TypeDesc}
def AP5 {m:Up (K×X)}(e:Cf)(s:YV P T)(z:P.funcs[f]? =some fn)(W:fn.body=some c)(hd:M4 e c=true)
 (a:∀vals w,(callFunc f vals).run P w= .ok (.enter f vals) w) (v:fn.ntmps=n) (N:fn.results.toList=rs) (A:Nat.ble args.length n=true)
 (h:∀(E:Hj) (H:A5) (k:V->A5->Prop),E=J1 P n none->(∀id o (L:Up En) (i:Nat) H',KL d kf vf o m->L[i]? =some (.blk id (.obj o))->C3 Eq H L H'->k (.map id) H')->run E T n e c ⟨EA args 0,[]⟩ H (Tj E T rs k)):AQ7 P f args d kf vf m:=λH=>by
 refine L5.le (Ai (K:=λx H'=>∃y j,DI x y/\JI j H'/\∃id o,H id=none/\KL d kf vf o m/\y= .map id/\j=upd H id (some (.obj o))) e s.1 s.2 z W hd a v N A λE hE=>?_);refine h E H _ hE λid o L i H' B U u=>?_;have⟨O,Z⟩:=(u.only i U).last;exact⟨_,_,.refl _,Z,id,o,O,B,rfl,rfl⟩
end
section
variable {K X:Type}
def Ri (kf:K->V) (vf:X->V) (o:Obj) (mid:Nat) (b:FV) (left:Up (K×X)):Prop:=
 ∃(a:SI MapEntry) (clock:Nat) (seen:SI Nat) (e:Up (MapEntry×(K×X))),o= .map a clock/\b= .iter mid clock seen clock/\OD a clock/\e.map (·.1)=(leftOf a seen).toList/\
  (∀z∈e,DJ (kf z.2.1)=some z.1.key/\DJ (vf z.2.2)=some z.1.val)/\(e.map (·.2)).Perm left
def ItAt (kf:K->V)(vf:X->V)(o:Obj)(mid:Nat)(b:FV)(left:Up (K×X))(p:K×X):Prop:=
 Ri kf vf o mid b left/\∃(a:SI MapEntry) (clock:Nat) (seen:SI Nat) (e:MapEntry),o= .map a clock/\b= .iter mid clock (seen.push e.born) clock/\e∈a.toList/\DJ (kf p.1)=some e.key/\DJ (vf p.2)=some e.val
def Aa1 {α:Type} (key:α->Nat):∀{l:Up α} {x:α},(l.map key).Nodup->x∈l->l.Perm (x::l.filter λy=> !(key y==key x))
 | a::l,x,h,M=>by
  rw[D2,List.nodup_cons]at h
  rcases List.mem_cons.1 M with rfl|M
  ·have:l.filter (λy=> !(key y==key x))=l:=List.filter_eq_self.2 λy v=>by
    have:key y≠key x:=λe=>h.1 (List.mem_map.2 ⟨y,v,e⟩);simp[this]
   rw[List.filter_cons,A1 OC,this]
  have i:key a≠key x:=λe=>h.1 (List.mem_map.2 ⟨x,M,e.symm⟩);rw[List.filter_cons,A2 (by simp[i])];exact((Aa1 key h.2 M).cons a).trans (List.Perm.swap _ _ _)
def Bi7 (a:SI MapEntry)(seen:SI Nat)(b:Nat):(leftOf a (seen.push b)).toList=(leftOf a seen).toList.filter λy=> !(y.born==b):=by
 unfold leftOf;rw[LX,LX,List.filter_filter]
 grind
def AL4 {d:TypeDesc} {kf:K->V} {vf:X->V} {a:SI MapEntry} {clock:Nat} {m:Up (K×X)} (h:KL d kf vf (.map a clock) m) (mid:Nat):Ri kf vf (.map a clock) mid (.iter mid clock #[] clock) m:=by
 have⟨v,⟨⟨j,c',N,e2⟩,u,A,x⟩,B⟩:=h;cases N
 have y:a.toList.length=v.length:=by have:=J8 List.length e2;grind
 refine⟨a,clock, #[],a.toList.zip v,rfl,rfl,x _ _ rfl,?_,λz Y=>?_,?_⟩
 ·have:(leftOf a #[]).toList=a.toList:=by
   unfold leftOf;rw[LX]
   simp_all
  rw[this,List.map_fst_zip AY]
 ·have⟨i,U,e⟩:=R4 Y
  have s:i<min a.toList.length v.length:=Pw
  have O:i<a.toList.length:=AY
  have Z:i<v.length:=AY
  have:=J8 (λl=>l[i]?) e2
  grind
 grind[List.map_snd_zip]
end
section
variable {P:Program}{nt:Nat}{rd:Option Nat}{T:JV}{E:Hj}
variable (hE:E=J1 P nt rd)
include hE
variable {K X:Type}{kf:K->V}{vf:X->V}{d:TypeDesc}{Φ:A5->A5->Prop}{H0 H:A5}{L:List En}{k:V->A5->Prop}{m left:List (K×X)}{o:Obj}{mid it:Nat}{b:FV}{p:K×X}
theorem AW2 {t kt et:Nat}(y:P.underlying t=some (.map kt et))(v:C3 Φ H0 L H)(O:H mid=some (.obj o))(i:KL d kf vf o m)
 (x:∀it b H',Ri kf vf o mid b m->C3 Φ H0 (.blk it b::L) H'->k (.ref it 0) H'):E.mrg t H (.map mid) k:=by
 subst hE
 obtain⟨a,clock,e⟩:∃a clock,o= .map a clock:=by obtain⟨_,⟨⟨a,c,e,_⟩,_⟩,_⟩:=i;simp_all
 subst e;exact⟨kt,et,mid,a,clock,y,rfl,O,λid h=>x id _ _ (AL4 i mid) (v.push h rfl)⟩
theorem AW3 (A:C3 Φ H0 L H) (M:Ri kf vf o mid b left) (i:Nat) (U:L[i]? =some (.blk it b)) (O:H mid=some (.obj o)) (J:left=[]->k (.tup [.bool false]) H)
 (Q:∀p a b' H',left.Perm (p::a)->ItAt kf vf o mid b' a p->C3 Φ H0 (L.set i (.blk it b')) H'->k (.tup [.bool true,.bad,.bad]) H'):E.mnx H (.ref it 0) k:=by
 subst hE;obtain⟨h,clock,seen,x,rfl,rfl,v,N,u,z3⟩:=M
 have C:x.length=(leftOf h seen).size:=by have:=J8 List.length N;grind
 refine⟨it,mid,clock,seen,clock,h,clock,rfl,A.get i U,O,v.1,C6 _,λG=>J ?_,λe B=>?_⟩
 ·have:x=[]:=GC AY
  simp_all
 have j:e∈x.map (·.1):=by rw[N];exact B
 obtain⟨z,Y,rfl⟩:=List.mem_map.1 j
 have s:(x.map λz=>z.1.born).Nodup:=by
  have e0:(x.map λz=>z.1.born)=(leftOf h seen).toList.map (·.born):=by rw[<-N,Bk];rfl
  rw[e0]
  have G:(leftOf h seen).toList.Sublist h.toList:=by unfold leftOf;rw[LX];simp_all
  exact(G.map _).nodup v.2
 have W:=Aa1 (λz:MapEntry×(K×X)=>z.1.born) s Y;refine Q z.2 ((x.filter λy=> !(y.1.born==z.1.born)).map (·.2)) _ _ (z3.symm.trans (W.map (·.2))) ⟨⟨h,clock,_,x.filter λy=> !(y.1.born==z.1.born),rfl,rfl,v,?_,λy Z=>u y (List.mem_filter.1 Z).1,.refl _⟩,h,clock,seen,z.1,rfl,rfl,?_,(u z Y).1,(u z Y).2⟩ (A.set i U)
 ·rw[Bi7,<-N,List.filter_map];rfl
 exact(mem_left B).1
theorem AW4 (j:C3 Φ H0 L H)(N:ItAt kf vf o mid b left p)(i:Nat)(U:L[i]? =some (.blk it b))(O:H mid=some (.obj o))(u:k (.tup [kf p.1,vf p.2]) H):E.men H (.ref it 0) k:=by
 subst hE;obtain⟨⟨h,a,_,_,e0,_,v,_⟩,z,clock,seen,e,rfl,rfl,s,x,y⟩:=N;cases e0;exact⟨it,mid,a,seen,a,h,a,e,_,_,rfl,j.get i U,rfl,O,s,v.2,x,y,u⟩
end
end Go.Ab
namespace Go.Ab
variable [O7]
def Bv9 {E:Hj}{t:Nat}{H:A5}{m y a:V}{ok:Bool}{k:V->Prop}(e:a=y)(h:E.mget t H m a ok k):E.mget t H m y ok k:=e▸h
def AW1 {E:Hj}{t:Nat}{H:A5}{m y a v:V}{k:A5->Prop}(e:a=y)(h:E.mset t H m a v k):E.mset t H m y v k:=e▸h
end Go.Ab
namespace Go.Ab
open Go.RowKit
variable [O7][Ar]
variable{H:A5}{R:Type}{a:Nat}{bs:Up (Nat×FV)}
def KL.srt{X:Type}{d:TypeDesc}{kf:Int->V}{vf:X->V}{o:Obj}{m:Up (Int×X)}(h:KL d kf vf o m):KL d kf vf o (Ik m):=h.perm (KQ m).symm
section
variable {P:Program}{nt:Nat}{rd:Option Nat}{T:JV}{E:Hj}
def Wr(cf:Cf)(hE:E=J1 P nt rd)(hP:YV P T){K X σ γ J:Type}[DecidableEq J]{kf:K->V}{vf:X->V}{o:Obj}{mid:Nat}{step:σ->K×X->OS (σ⊕R)}{fin:σ->R}{N:R->J}{c:Code}{st:St}{Kc:Exit->St->A5->Prop}
 (fm:σ->γ->Fl)(Inv:σ->γ->Up Nat->FV->A5->Prop)(Xr:J->Exit->Fl->Up Nat->A5->Prop)(hd:M4 cf c=true)
 (z:∀s g ds left b H,Ri kf vf o mid b left->Inv s g ds b H->(∀p a,left.Perm (p::a)->∃o,step s p=some o)->run E T nt cf c ⟨fm s g,ds⟩ H λe y H'=>match e with
  | .normal=>∃p a G g' b' i,left.Perm (p::a)/\step s p=some (.inl G)/\Jc y.l (fm G g')/\y.df=i/\Ri kf vf o mid b' a/\Inv G g' i b' H'
  |e=>∃x l i,(left=[]/\x=fin s\/∃p a,left.Perm (p::a)/\step s p=some (.inr x))/\Xr (N x) e l i H'/\Jc y.l l/\y.df=i)
 {m:Up (K×X)}{s0:σ}(g0:γ){M:FV}{r:J}(h:GF step fin N m s0=some r)(hf:Jc st.l (fm s0 g0))(W:Ri kf vf o mid M m)(hI:Inv s0 g0 st.df M H)(u:∀e l ds H',Xr r e l ds H'->Kc e ⟨l,ds⟩ H'):E.sim (.loop c) st H Kc:=by
 subst hE
 refine AB.loopN (λn A H'=>∃s g left b ds,left.length=n/\(∀B,B.Perm left->∃q,E8 step B s=some q/\N (Bl4 fin q)=r)/\Ib A ⟨fm s g,ds⟩/\Ri kf vf o mid b left/\Inv s g ds b H') m.length
  ⟨s0,g0,m,M,st.df,rfl,λB Y=>At8 h Y,⟨λt=>hf.wk t,rfl⟩,W,hI⟩ λn A H' ⟨s,g,left,b,ds,hn,hr,hle,hit,hi⟩=>?_
 have aa:∀p a,left.Perm (p::a)->∃o,step s p=some o:=λp a hp=>by
  have⟨q,O,_⟩:=hr _ hp.symm
  simp only[E8]at O
  cases ho:step s p with
  |none=>rw[ho]at O;cases O
  |some o=>exact⟨o,rfl⟩
 refine AB.frLe hle ((Q6 hP.1 hP.2 c _ _ _ hd (z s g ds left b H' hit hi aa)).mono λe ab H2 ⟨y,v,hq⟩=>?_)
 cases e with
 | normal=>
  have⟨p,a,G,g',b',i,h0,O,Z,Q,U,h5⟩:=hq;refine⟨a.length,?_,G,g',a,b',i,rfl,λB Y=>?_,⟨λt=>(v.s t).trans (Z.wk t),v.df.trans Q⟩,U,h5⟩
  ·have:=h0.length_eq
   simp only[K8]at this
   omega
  have⟨q,j,C⟩:=hr (p::B) ((Y.cons p).trans h0.symm)
  simp only[E8,O]at j
  exact⟨q,j,C⟩
 | _=>
  have⟨x,l,i,O,U,Z,Q⟩:=hq;refine⟨⟨l,i⟩,⟨λt=>(v.s t).trans (Z.wk t),v.df.trans Q⟩,u _ _ _ _ ?_⟩
  have:N x=r:=by
   rcases O with⟨e1,e2⟩|⟨p,a,hp,e2⟩
   ·subst e1;subst e2;have⟨q,j,C⟩:=hr [] (.refl _)
    simp only[E8,E5]at j
    subst j;exact C
   have⟨q,j,C⟩:=hr _ hp.symm
   simp only[E8,e2,E5]at j
   subst j;exact C
  rw[<-this];exact U
def Aw5(J:Cf)(hE:E=J1 P nt rd)(M:YV P T){σ γ:Type}{step:σ->OS (σ⊕R)}{c:Code}{st:St}{K:Exit->St->A5->Prop}(fm:σ->γ->Fl)(Inv:σ->γ->Up Nat->A5->Prop)(X:R->Exit->Fl->Up Nat->A5->Prop)(hd:M4 J c=true)
 (j:∀s g ds H o,Inv s g ds H->step s=some o->run E T nt J c ⟨fm s g,ds⟩ H λe v H'=>match e with
  | .normal=>∃z g' a,o= .inl z/\Jc v.l (fm z g')/\v.df=a/\Inv z g' a H'
  |e=>∃x l a,o= .inr x/\X x e l a H'/\Jc v.l l/\v.df=a)
 {N:Nat}{s0:σ}(g0:γ){r:R}(h:loopN step N s0=some r)(hf:Jc st.l (fm s0 g0))(Y:Inv s0 g0 st.df H)(y:∀e l ds H',X r e l ds H'->K e ⟨l,ds⟩ H'):E.sim (.loop c) st H K:=by
 subst hE;refine AB.loopN (λn u H'=>∃s g ds,loopN step n s=some r/\Ib u ⟨fm s g,ds⟩/\Inv s g ds H') N ⟨s0,g0,st.df,h,⟨λt=>hf.wk t,rfl⟩,Y⟩ λn u H' ⟨s,g,ds,G,hle,U⟩=>?_
 cases n with
 |zero=>cases G
 | succ n=>
  simp only[loopN]at G
  cases C:step s with
  |none=>rw[C]at G;cases G
  | some o=>
   rw[C]at G
   refine AB.frLe hle ((Q6 M.1 M.2 c _ _ _ hd (j s g ds H' o U C)).mono λe W H2 ⟨v,i,Q⟩=>?_)
   cases e with
   |normal=>
    have⟨z,g',a,O,Z,A,B⟩:=Q;subst O;exact⟨n,Jj n,z,g',a,G,⟨λt=>(i.s t).trans (Z.wk t),i.df.trans A⟩,B⟩
   |_=>
    have⟨x,l,a,O,B,Z,A⟩:=Q;subst O;cases G;exact⟨⟨l,a⟩,⟨λt=>(i.s t).trans (Z.wk t),i.df.trans A⟩,y _ _ _ _ B⟩
end
def MX (H:A5):Up (Nat×FV)->A5
 |[]=>H
 |p::r=>upd (MX H r) p.1 none
def Sg:Up (Nat×FV)->Up En
 |[]=>[]
 |p::r=>.blk p.1 p.2::Sg r
def apart:Up Nat->Prop
 |[]=>True
 |a::l=>(∀b∈l,a≠b)/\apart l
def BE4 (a:Nat):apart [a]:=⟨λ_ h=>(nomatch h),trivial⟩
def BE3{l:Up Nat}(h:∀b∈l,a≠b)(k:apart l):apart (a::l):=⟨h,k⟩
def ne0:∀b∈([]:Up Nat),a≠b:=λ_ h=>(nomatch h)
def neC{b:Nat}{l:Up Nat}(h:a≠b)(k:∀c∈l,a≠c):∀c∈b::l,a≠c:=λc e=>by
 rcases List.mem_cons.1 e with rfl|e
 ·exact h
 exact k c e
def at0:∀p∈([]:Up (Nat×FV)),H p.1=some p.2:=λ_ h=>(nomatch h)
def atC{b:FV}{l:Up (Nat×FV)}(h:H a=some b)(k:∀p∈l,H p.1=some p.2):∀p∈(a,b)::l,H p.1=some p.2:=λp e=>by
 rcases List.mem_cons.1 e with rfl|e
 ·exact h
 exact k p e
def AQ5 (P:If)(f:FuncId)(args:Up V)(bs:Up (Nat×FV))(x:V):Prop:=
 ∀H,apart (bs.map (·.1))->(∀p∈bs,H p.1=some p.2)->L5 P f args H λv H'=>v=x/\H'=H
def VN {H:A5}:∀{bs:Up (Nat×FV)} {p:Nat×FV},p∈bs->MX H bs p.1=none
 |q::bs,p,h=>by
  unfold MX
  by_cases e:p.1=q.1
  ·rw[e,E7]
  rw[C8 _ _ e]
  rcases List.mem_cons.1 h with rfl|h
  ·exact absurd rfl e
  exact VN h
def XG {F:A5}:∀{bs:Up (Nat×FV)},apart (bs.map (·.1))->(∀p∈bs,F p.1=none)->∃H,C3 Eq F (Sg bs) H/\(∀p∈bs,H p.1=some p.2)/\∀x,(∀p∈bs,p.1≠x)->H x=F x
 |[],_,_=>⟨F,C3.start D7 rfl,λ_ h=>(nomatch h),λ_ _=>rfl⟩
 | p::bs,u,v=>by
  have⟨H,O,Z,i⟩:=XG (F:=F) (bs:=bs) u.2 λq a=>v q (M1 _ a)
  have y:H p.1=none:=by
   rw[i p.1 λq a e=>u.1 q.1 (List.mem_map.2 ⟨q,a,rfl⟩) e.symm];exact v p OC
  refine⟨upd H p.1 (some p.2),O.push y rfl,λq a=>?_,λx M=>?_⟩
  ·rcases List.mem_cons.1 a with rfl|a
   ·exact E7 _ _ _
   rw[C8 _ _ λe=>u.1 q.1 (List.mem_map.2 ⟨q,a,rfl⟩) e.symm];exact Z q a
  rw[C8 _ _ λe=>M p OC e.symm];exact i x λq a=>M q (M1 _ a)
def BK7(u:apart (bs.map (·.1)))(v:∀p∈bs,H p.1=some p.2):C3 Eq (MX H bs) (Sg bs) H:=by
 have⟨H',O,Z,i⟩:=XG (F:=MX H bs) u λp a=>VN a
 have:H'=H:=by
  funext x
  by_cases M:∃p∈bs,p.1=x
  ·obtain⟨p,a,rfl⟩:=M;rw[Z p a,v p a]
  have h:∀p∈bs,p.1≠x:=λp a e=>M ⟨p,a,e⟩;rw[i x h];clear O Z i u v M
  induction bs with
  |nil=>rfl
  |cons q bs ih=>
   unfold MX;rw[C8 _ _ λe=>h q OC e.symm];exact ih λp a=>h p (M1 _ a)
 rwa[this]at O
def Af1:∀{bs:Up (Nat×FV)} {p:Nat×FV},p∈bs->∃i:Nat,(Sg bs)[i]? =some (En.blk p.1 p.2)
 |q::bs,p,h=>by
  rcases List.mem_cons.1 h with rfl|h
  ·exact⟨0,rfl⟩
  have⟨i,U⟩:=Af1 h;exact⟨i+1,by simpa[Sg]using U⟩
section
variable {P:Program}{T:JV}{f:FuncId}{fn:Func}{c:Code}{n:Nat}{rs:List ResultVar}{args:List V}
def AP3{x:V}(A:Cf)(Q:YV P T)(Y:P.funcs[f]? =some fn)(W:fn.body=some c)(hd:M4 A c=true)
 (a:∀vals w,(callFunc f vals).run P w= .ok (.enter f vals) w)(G:fn.ntmps=n)(J:fn.results.toList=rs)(Z:Nat.ble args.length n=true)
 (h:∀(E:Hj) (H:A5) (k:V->A5->Prop),E=J1 P n none->C3 Eq (MX H bs) (Sg bs) H->(∀v H',C3 Eq (MX H bs) (Sg bs) H'->DI v x->k v H')->run E T n A c ⟨EA args 0,[]⟩ H (Tj E T rs k)):AQ5 P f args bs x:=λH u B=>by
 refine L5.le (Ai (K:=λv H'=>∃y O,DI v y/\JI O H'/\y=x/\O=H) A Q.1 Q.2 Y W hd a G J Z λE hE=>?_);refine h E H _ hE (BK7 u B) λv H' C j=>⟨_,_,j,?_,rfl,rfl⟩;intro y b z
 by_cases M:∃p∈bs,p.1=y
 ·obtain⟨p,N,rfl⟩:=M;have⟨i,U⟩:=Af1 N
  rw[B p N]at z;cases z
  exact C.get i U
 refine C.ext _ _ ?_;rw[<-z];have s:∀p∈bs,p.1≠y:=λp N e=>M ⟨p,N,e⟩;clear z C B u M h
 induction bs with
 |nil=>rfl
 |cons q bs ih=>
  unfold MX;rw[C8 _ _ λe=>s q OC e.symm];exact ih λp N=>s p (M1 _ N)
end
section
variable {P:Program}{nt:Nat}{rd:Option Nat}{T:JV}{E:Hj}
def Aw6(hE:E=J1 P nt rd){α:Type}{fid:FuncId}{F0 C0 args args':Up V}{m:OS α}{g:α->V}{F:α->OS R}{r:R}{k:V->A5->Prop}(h:m.bind F=some r)(y:∀x,m=some x->AQ5 P fid (F0++args'++C0) bs (g x))(B:M7 (F0++args++C0) (F0++args'++C0))
 (u:apart (bs.map (·.1)))(i:∀p∈bs,H p.1=some p.2)(N:∀x,F x=some r->k (g x) H):E.call (.func (.func fid) F0 C0) args H k:=by
 subst hE;have⟨x,Z,e⟩:=bind_some h;refine L5.value (F:=F0) (C:=C0) ?_
 refine L5.mono (L5.args (y x Z H u i) B) λv H' ⟨a,e2⟩=>by subst a;subst e2;exact N x e
end
end Go.Ab
namespace Go.Ab
variable [O7][Ar]
variable{k:G5->A5->Prop}
section
variable {P:Program}{nt:Nat}{rd:Option Nat}{E:Hj}(hE:E=J1 P nt rd){Φ:A5->A5->Prop}{H0 H:A5}{L:List En}
include hE
theorem AV7(a:C3 Φ H0 L H)(i:Nat){tl:G5}(U:L[i]? =some (.tl tl))(u:T3 tl)
 (e:∀H',C3 Φ H0 (L.set i (.tl .nil)) H'->k tl H'):E.takeT H k:=by
 subst hE;exact⟨tl,a.appOk i U u,e _ (a.untok i U rfl)⟩
theorem AW0(a:C3 Φ H0 L H)(i:Nat)(U:L[i]? =some (.tl .nil))
 (e:∀tl H',C3 Φ H0 (L.set i (.tl tl)) H'->T3 tl->k tl H'):E.nameT H k:=by
 subst hE;refine⟨λtl h=>?_,λt v=>e _ _ (a.tok i U v) trivial⟩
 rcases h with rfl|rfl
 ·exact e _ _ (a.untok i U rfl) trivial
 exact e _ _ (a.untok i U rfl) trivial
end
end Go.Ab
open Go.Ab.Ar (len_eq lst lst_eq ofs)
namespace Go.Ab
open Go.RowKit
variable [O7][Ar]
def BS1 (e a:En):Prop:=∀id b b',e.id=some (id,b)->a.id=some (id,b')->False
def DK.perm {H0 H:A5} {L L':Up En} (h:DK H0 L H) (p:L.Perm L'):DK H0 L' H:=by
 have A:L.Pairwise BS1:=by
  rw[Ir];intro i j U z u id b b' a e2;have:=h.inj i j _ _ id b b' (D9 U) (D9 z) a e2;omega
 have v:L'.Pairwise BS1:=(p.pairwise_iff (λ{x y} (h:BS1 x y) id b b' a e2=>h id b' b e2 a)).1 A
 rw[Ir]at v
 refine⟨h.ext,λi e id b U N=>?_,λi j e B id b b' U z N s=>?_,λx b M=>(h.only x b M).imp (λh=>h) λ⟨i,e,O,Z⟩=>?_⟩
 ·have⟨j,z⟩:=AF (p.mem_iff.2 (K4 U));exact h.has j e id b z N
 ·grind[BS1]
 have⟨j,z⟩:=AF (p.mem_iff.1 (K4 O))
 grind
def C3.perm {Φ:A5->A5->Prop}{F H:A5}{L L':Up En}(h:C3 Φ F L H)(p:L.Perm L'):C3 Φ F L' H:=
 let⟨G,a,J,e,O,Z⟩:=h;⟨G,a,J,e.perm p,O,Z⟩
structure Rw (α:Type) where
 q:OG
 row:List (List α×G5)
variable {α:Type}(f:α->V)
def Ke (c:Up α×G5):V:=.sl (lst f c.1) c.2
def Zl (w:Rw α):En:=.blk w.q.id (.arr 1 (w.q.pre++lst (Ke f) w.row++w.q.rest))
def rwL (w:Rw α):Up En:=Zl f w::w.row.map λc=>.tl c.2
def fo:Up (Rw α)->Up En
 |[]=>[]
 |w::F=>rwL f w++fo F
def RwA (w:Rw α):Prop:=∀c∈w.row,T3 c.2
variable {f}
def BA5:∀(F G:Up (Rw α)),fo f (F++G)=fo f F++fo f G
 |[],_=>rfl
 |w::F,G=>by rw[CW,fo,fo,BA5 F G,E1]
def Az7:∀{F:Up (Rw α)} {c:Nat} {w:Rw α},F[c]? =some w->∃R,(fo f F).Perm (rwL f w++R)/\∀w',(fo f (F.set c w')).Perm (rwL f w'++R)
 |[],_,_,h=>by simp at h
 |v::F,0,w,h=>by
  simp at h;subst h
  exact⟨fo f F,.refl _,λw'=>.refl _⟩
 | v::F,c+1,w,h=>by
  have⟨R,O,Z⟩:=Az7 (F:=F) (c:=c) (w:=w) Pw
  have key:∀(X Y:Up En),X.Perm (Y++R)->(rwL f v++X).Perm (Y++(rwL f v++R)):=λX Y a=>
   (a.append_left _).trans (by
    rw[<-E1,<-E1]
    exact List.perm_append_comm.append_right R)
  grind[fo]
def Ue:∀{row:Up (Up α×G5)} {i:Nat} {c:Up α×G5},row[i]? =some c->∃R,(row.map λc=>En.tl c.2).Perm (.tl c.2::R)/\∀c',((row.set i c').map λc=>En.tl c.2).Perm (.tl c'.2::R)
 |[],_,_,h=>by simp at h
 |v::F,0,w,h=>by
  simp at h;subst h
  exact⟨F.map λc=>.tl c.2,.refl _,λw'=>.refl _⟩
 |v::F,i+1,w,h=>by
  have⟨R,O,Z⟩:=Ue (row:=F) (i:=i) (c:=w) Pw;exact⟨.tl v.2::R,(O.cons _).trans (.swap ..),λw'=>((Z w').cons _).trans (.swap ..)⟩
def AP1 {F:Up (Rw α)} {c i:Nat} {w:Rw α} {x:Up α×G5} (e:F[c]? =some w) (U:w.row[i]? =some x):
 ∃R,(fo f F).Perm (.tl x.2::Zl f w::R)/\∀x',(fo f (F.set c ⟨w.q,w.row.set i x'⟩)).Perm (.tl x'.2::Zl f ⟨w.q,w.row.set i x'⟩::R):=by
 have⟨R,O,Z⟩:=Az7 (f:=f) e;have⟨S,h,v⟩:=Ue U
 have key:∀(b:En) (X:Up En) (t:En),X.Perm (t::S)->(b::(X++R)).Perm (t::b::(S++R)):=λb X t a=>
  ((a.append_right R).cons b).trans (.swap ..)
 exact⟨S++R,O.trans (key _ _ _ h),λx'=>(Z _).trans (key _ _ _ (v x'))⟩
def C3.cell {Φ:A5->A5->Prop} {H0 H:A5} {b:En} {L:Up En} {F:Up (Rw α)} {c i:Nat} {w:Rw α} {x:Up α×G5} (a:C3 Φ H0 (b::(fo f F++L)) H) (e:F[c]? =some w) (U:w.row[i]? =some x):
 ∃R,C3 Φ H0 (.tl x.2::Zl f w::b::R) H/\∀x' H',C3 Φ H0 (.tl x'.2::Zl f ⟨w.q,w.row.set i x'⟩::b::R) H'->C3 Φ H0 (b::(fo f (F.set c ⟨w.q,w.row.set i x'⟩)++L)) H':=by
 have⟨R,O,Z⟩:=AP1 (f:=f) e U
 have key:∀(X:Up En) (t r:En),X.Perm (t::r::R)->(b::(X++L)).Perm (t::r::b::(R++L)):=λX t r h=>
  ((h.append_right L).cons b).trans ((List.Perm.swap t b _).trans ((List.Perm.swap r b _).cons t))
 exact⟨R++L,a.perm (key _ _ _ O),λx' H' h=>h.perm (key _ _ _ (Z x')).symm⟩
def C3.row {Φ:A5->A5->Prop} {H0 H:A5} {b b':En} {L:Up En} {F:Up (Rw α)} {w:Rw α} (a:C3 Φ H0 (Zl f w::b::b'::(fo f F++L)) H) (e:∀c∈w.row,(En.tl c.2).id=none):C3 Φ H0 (b'::(fo f (F++[w])++(b::L))) H:=by
 have O:∀(row:Up (Up α×G5)) (M:Up En),(∀c∈row,(En.tl c.2).id=none)->C3 Φ H0 M H->C3 Φ H0 ((row.map λc=>.tl c.2)++M) H:=by
  intro row
  induction row with
  |nil=>simp_all
  |cons c row ih=>grind[tl0]
 have Z:=O w.row _ e a;refine Z.perm ?_;rw[BA5];simp only[fo,rwL,F2];generalize w.row.map (λc=>En.tl c.2)=X;generalize fo f F=Y;have h:(X++Zl f w::b::b'::(Y++L)).Perm (Zl f w::X++(b::b'::(Y++L))):=LP
 have i:(Zl f w::X++(b::b'::(Y++L))).Perm (b'::(Zl f w::X++(b::(Y++L)))):=
  ((List.Perm.swap b' b (Y++L)).append_left (Zl f w::X)).trans LP
 refine h.trans (i.trans (.cons b' ?_));have v:(Zl f w::X++(b::(Y++L))).Perm (Zl f w::X++(Y++b::L)):=(List.perm_middle.symm).append_left _;refine v.trans ?_;rw[<-E1];exact(List.perm_append_comm (l₁:=Zl f w::X) (l₂:=Y)).append_right _
end Go.Ab
namespace Go.Ab
open Go.RowKit
variable [O7]
variable{H:A5}
def Gst (H:A5)(v:V)(H':A5)(a:V):Prop:=∀g w,Rl g H w->∃g',Al g w g' w/\Rl g' H' w/\∀u,VR g w u v->VR g' w u a
theorem Gst.refl (H:A5)(v:V):Gst H v H v:=λg w h=>⟨g,Al.refl _ _,h,λ_ h=>h⟩
def Gst.trans {H J e:A5}{v i v2:V}(a:Gst H v J i)(b:Gst J i e v2):Gst H v e v2:=λg w h=>by
 have⟨N,A,x,B⟩:=a g w h;have⟨j,s,y,C⟩:=b N w x;exact⟨j,A.trans s,y,λu z=>C u (B u z)⟩
def Gst.tup2{H':A5}{v e c:V}(a:Gst H v H' e):Gst H (.tup [v,c]) H' (.tup [e,c]):=λg w h=>by
 have⟨y,A,x,s⟩:=a g w h;refine⟨y,A,x,λu N=>?_⟩
 cases N with
 |tup B j=>
  refine .tup B λi U=>?_;have:=j i U
  match i,U with
  |0,_=>grind
  |1,_=>exact this.mono A
def Gst.agg1{H':A5}{v e:V}(a:Gst H v H' e):Gst H (.agg [v]) H' (.agg [e]):=λg w h=>by
 have⟨y,A,x,s⟩:=a g w h;refine⟨y,A,x,λu N=>?_⟩
 cases N with
 |agg B O j=>
  refine .agg B O λi U=>?_;have:=j i U
  match i,U with
  |0,_=>grind
def L5.ghost{P:If}{f:FuncId}{args:Up V}{K K':V->A5->Prop}(h:L5 P f args H K)(B:∀x H',K x H'->∃x' a,Gst H' x a x'/\K' x' a):L5 P f args H K':=
 λg w vals C u=>(h g w vals C u).mono λv w' ⟨g',x,H',s,i,j,z⟩=>by
  have⟨x',a,A,e⟩:=B x H' z;have⟨N,J,y,G⟩:=A g' w' i;exact⟨N,x',a,s.trans J,y,G v j,e⟩
section
variable [Ar]{α:Type}{f:α->V}
def C3.frzG{H0:A5}{L:Up En}{q:OG}{l:Up α}{sz:Nat}(a:C3 Eq H0 L H)(i:Nat)(U:L[i]? =some (.blk q.id (.arr sz (q.pre++lst f l++q.rest))))(e:Cj q (Ar.len l)):
 ∃H',Gst H (.own q.id q.lo q.n) H' (.sl (lst f l) .ro)/\JI H0 H':=by
 refine⟨_,λg w C=>?_,(a.del i U).ext⟩;have⟨g',h,R',j⟩:=C.freezeArr (a.get i U);refine⟨g',h,R',λu v=>?_⟩;have:=j u q.lo q.n (v.mono h)
 rwa[NG e.1 (by rw[e.2,len_eq,N4])]at this
def Pvl{P:If}{T:JV}{f:FuncId}{fn:Func}{c:Code}{n:Nat}{rs:Up ResultVar}{args:Up V}{r:V}(i:Cf)(j:YV P T)(u:P.funcs[f]? =some fn)(W:fn.body=some c)(hd:M4 i c=true)
 (e:∀vals w,(callFunc f vals).run P w= .ok (.enter f vals) w)(v:fn.ntmps=n)(N:fn.results.toList=rs)(A:Nat.ble args.length n=true)
 (h:∀(E:Hj) (H:A5) (K:V->A5->Prop),E=J1 P n none->(∀x L H',C3 Eq H L H'->DI x r->K x H')->(∀x H' x' a,Gst H' x a x'->JI H a->DI x' r->K x H')->run E T n i c ⟨EA args 0,[]⟩ H (Tj E T rs K)):B1 P f args r:=λH=>by
 refine L5.le (L5.ghost (Ai (K:=λx H'=>(∃y a,DI x y/\JI a H'/\y=r/\a=H)\/∃x' a,Gst H' x a x'/\JI H a/\DI x' r) i j.1 j.2 u W hd e v N A λE hE=>?_) ?_)
 ·exact h E H _ hE (λx L H' s M=>.inl ⟨r,H,M,s.ext,rfl,rfl⟩) λx H' x' a z hle M=>.inr ⟨x',a,z,hle,M⟩
 grind[Gst.refl]
end
end Go.Ab
namespace Go.Ab
open Go.RowKit
variable [O7][Ar]
variable{k:V->A5->Prop}
section
variable {P:Program}{nt:Nat}{rd:Option Nat}{E:Hj}(hE:E=J1 P nt rd)
include hE
variable {α:Type}{f:α->V}{Φ:A5->A5->Prop}{H0 H:A5}{L:List En}{sz:Nat}{q:OG}{l:List α}
theorem AM9(a:C3 Φ H0 L H)(h:Cj q (Ar.len l))(i:Nat){j:Int}{k:Int->Prop}(U:L[i]? =some (.blk q.id (.arr sz (q.pre++lst f l++q.rest))))(z:0<=j/\j<(l.length:Nat))(e:k (ofs q.lo j)):E.oidx H q.id sz q.lo q.n j k:=
 Hz hE a h i U (F:=λ_=>some ()) (r:=()) (by grind[IS,OB]) λ_=>e
theorem BP5{g:α->V}(e:∀x,f x=g x)(a:C3 Φ H0 L H)(v:Cj q (Ar.len l))(i:Nat){j:Int}{x:α}{k:V->Prop}(U:L[i]? =some (.blk q.id (.arr sz (q.pre++lst f l++q.rest))))(z:0<=j)(M:l[j.toNat]? =some x)(N:k (g x)):
 E.oload H q.id (ofs q.lo j) k:=by
 have h:j<(l.length:Nat):=by
  grind
 exact Kr hE e a v i U (F:=λy=>some y) (r:=x) (by simp_all[C4]) λy s=>TQ
theorem AA1{esz tz off:Nat}{y:V}{x':α}(A:∀x,∃a,DI y a/\a.one=true/\a.cells.length=tz/\Ox (f x) esz tz off a=f x')(hle:off+tz<=esz)(h:C3 Φ H0 L H)(N:Cj q (Ar.len l))(i:Nat){j:Int}{k:A5->Prop}
 (U:L[i]? =some (.blk q.id (.arr esz (q.pre++lst f l++q.rest))))(z:0<=j/\j<(l.length:Nat))
 (B:∀H',C3 Φ H0 (L.set i (.blk q.id (.arr esz (q.pre++lst f (l.set j.toNat x')++q.rest)))) H'->k H'):E.ostore H q.id (ofs q.lo j) esz tz off y k:=by
 have⟨x,M⟩:∃x,l[j.toNat]? =some x:=⟨l[j.toNat],D9 AY⟩
 exact Hy hE (u:=λ_=>x') A hle h N i U (F:=λl=>some l) (r:=l.set j.toNat x') (by simp_all[Ex,C4]) λC H' s e v=>TQ
end
def Bw8{α:Type}{n m:Int}{z:α}{l:Up α}(h:YZ n m z=some l):l=List.replicate n.toNat z:=by
 simp_all[YZ]
def BO8{α:Type}{l:Up α}{i:Int}{x:α}(h:C4 l i=some x):(0<=i/\i<(l.length:Nat))/\l[i.toNat]? =some x:=by
 grind[C4]
def C3.swp{Φ:A5->A5->Prop}{F H:A5}{L:Up En}(h:C3 Φ F L H)(a b:Nat){x y:En}(u:L[a]? =some x)(W:L[b]? =some y):C3 Φ F ((L.set a y).set b x) H:=by
 have⟨O,e⟩:=List.getElem?_eq_some_iff.1 u;have⟨Z,e2⟩:=List.getElem?_eq_some_iff.1 W;subst e;subst e2;exact h.perm (List.set_set_perm O Z).symm
def QT{α:Type}(w:Rw α):Up En:=w.row.map λc=>.tl c.2
structure IM {α:Type} (w:Rw α) (l:List (List α)):Prop where
 ok:Cj w.q (Ar.len w.row)
 ap:RwA w
 eq:w.row.map (·.1)=l
section
variable {α:Type}{f:α->V}{w:Rw α}{l:List (List α)}
def IM.len (h:IM w l):Ar.len l=Ar.len w.row:=by rw[len_eq,len_eq,<-h.eq,List.length_map]
theorem IM.at (h:IM w l) {i:Int} {x:Up α} (M:C4 l i=some x):(0<=i/\i<(w.row.length:Nat))/\∃t,w.row[i.toNat]? =some (x,t)/\T3 t:=by
 have⟨O,Z⟩:=BO8 M
 rw[<-h.eq]at O Z
 rw[H9]at O
 rw[Y1]at Z
 cases Q:w.row[i.toNat]? with
 |none=>rw[Q]at Z;cases Z
 |some c=>
  rw[Q]at Z
  simp only[K1,E5]at Z
  refine⟨O,c.2,by rw[<-Z],h.ap c (K4 Q)⟩
theorem IM.put(h:IM w l)(i:Nat){y:Up α}{t:G5}(e:T3 t):IM ⟨w.q,w.row.set i (y,t)⟩ (l.set i y):=by
 refine⟨?_,λc a=>?_,?_⟩
 ·have:=h.ok
  rw[len_eq]at this ⊢
  rw[OK];exact this
 ·rcases Po a with a|rfl
  ·exact h.ap c a
  exact e
 rw[OP,h.eq]
def AI6{i:Nat}{c:Up α×G5}(U:w.row[i]? =some c):∃R,(QT w).Perm (.tl c.2::R)/\∀c',(QT ⟨w.q,w.row.set i c'⟩).Perm (.tl c'.2::R):=Ue U
def C3.rtake{Φ:A5->A5->Prop}{H0 H:A5}{L T1 T2:Up En}(e:C3 Φ H0 L H)(n:Nat)(v:L=L.take n++(T1++(QT w++T2))){i:Nat}{c:Up α×G5}(U:w.row[i]? =some c):
 ∃R,C3 Φ H0 (.tl c.2::(L.take n++R)) H/\∀c' H' (a:Up En),C3 Φ H0 (.tl c'.2::(a++R)) H'->C3 Φ H0 (a++(T1++(QT ⟨w.q,w.row.set i c'⟩++T2))) H':=by
 have⟨R,O,Z⟩:=AI6 U
 have key:∀(a X:Up En) (t:En),X.Perm (t::R)->(a++(T1++(X++T2))).Perm (t::(a++(T1++(R++T2)))):=λa X t h=>
  ((((h.append_right T2).append_left T1).append_left a).trans ((LP (l₁:=T1)).append_left a)).trans LP
 refine⟨T1++(R++T2),?_,λc' H' a h=>h.perm (key _ _ _ (Z c')).symm⟩
 rw[v]at e
 exact e.perm (key _ _ _ O)
def C3.radd{Φ:A5->A5->Prop}{H0 H:A5}{L:Up En}(a:C3 Φ H0 L H)(n:Nat)(w:Rw α)(v:∀c∈w.row,(En.tl c.2).id=none):C3 Φ H0 (L.take n++(QT w++L.drop n)) H:=by
 have O:∀(row:Up (Up α×G5)) (M:Up En),(∀c∈row,(En.tl c.2).id=none)->C3 Φ H0 M H->C3 Φ H0 ((row.map λc=>.tl c.2)++M) H:=by
  intro row
  induction row with
  |nil=>simp
  |cons c row ih=>exact λM Q h=>(ih M (λc i=>Q c (by simp[i])) h).tl0 (Q c OC)
 refine(O w.row L v a).perm ?_
 show(QT w++L).Perm _
 have e:QT w++L=QT w++(L.take n++L.drop n):=by rw[Da]
 rw[e,<-E1,<-E1];exact List.perm_append_comm.append_right _
def C3.drops {Φ:A5->A5->Prop}{H0 H:A5}:∀{X L:Up En},C3 Φ H0 (X++L) H->C3 Φ H0 L H
 |[],_,h=>h
 |_::X,_,h=>C3.drops (X:=X) h.tail
def C3.rdrop{Φ:A5->A5->Prop}{H0 H:A5}{L T1 T2:Up En}(a:C3 Φ H0 L H)(n:Nat)(e:L=L.take n++(T1++(QT w++T2))):C3 Φ H0 (L.take n++(T1++T2)) H:=by
 rw[e]at a
 refine(a.perm (L':=QT w++(L.take n++(T1++T2))) ?_).drops;refine(((Vf T1 (QT w) T2).append_left _)).trans ?_;exact Vf _ _ _
def Bq1{α:Type}{l r:Up α}{i:Int}{y:α}(h:Ex l i (λ_=>y)=some r):r=l.set i.toNat y:=by
 simp_all[Ex]
def BI7{e:Up α->V}(a:∀x,e x= .sl (lst f x) .ro)(h:IM w l):M7 (lst (Ke f) w.row) (lst e l):=by
 rw[lst_eq,lst_eq,<-h.eq]
 have:∀row:Up (Up α×G5),M7 (row.map (Ke f)) ((row.map (·.1)).map e):=by
  intro row
  induction row with
  |nil=>exact .nil
  |cons c row ih=>exact .cons (by rw[a];exact .ro _ _) ih
 exact this _
end
section
variable {P:Program}{nt:Nat}{rd:Option Nat}{T:JV}{E:Hj}
variable (hE:E=J1 P nt rd)
include hE
variable {α R:Type}{f:α->V}{Φ:A5->A5->Prop}{H0 H:A5}{L:List En}{w:Rw α}{l:List (List α)}{r:R}
theorem Ch2{by_:Nat}(e:by_<=131072)(x:C3 Φ H0 L H)(c:Nat){n m:Int}{F:Up (Up α)->OS R}(h:(YZ n m ([]:Up α)).bind F=some r)
 (y:∀l (w:Rw α) H',IM w l->F l=some r->C3 Φ H0 (.blk w.q.id (.arr 1 (w.q.pre++lst (Ke f) w.row++w.q.rest))::(L.take c++(QT w++L.drop c))) H'->k (.own w.q.id w.q.lo w.q.n) H'):E.omk 1 by_ (.sl [] .nil) n m H k:=by
 have⟨l,O,Z⟩:=bind_some h;have B:=Bw8 O
 have v:YZ n m (([]:Up α),G5.nil)=some (List.replicate n.toNat (([]:Up α),G5.nil)):=by
  simp_all[YZ]
 refine XL hE (f:=Ke f) e (z0:=(([]:Up α),G5.nil)) (.slt _ .lst0) x (F:=λl=>some l) (r:=List.replicate n.toNat (([]:Up α),G5.nil)) (by rw[v];rfl) λrow q H' N Q a=>?_;cases Q;refine y l ⟨q,List.replicate n.toNat (([]:Up α),G5.nil)⟩ H' ⟨N,λc i=>by rw[Vd i];trivial,by rw[B];simp⟩ Z ?_
 exact a.radd (c+1) ⟨q,List.replicate n.toNat (([]:Up α),G5.nil)⟩ λc i=>by rw[Vd i];rfl
theorem Bv6{e:Up α->V}(u:∀x,e x= .sl (lst f x) .ro)(a:C3 Φ H0 L H)(y:IM w l)(i m:Nat){id j:Nat}{cs:Up V}{k:A5->Prop}(U:L[i]? =some (.blk id (.cells cs)))(N:L[m]? =some (.blk w.q.id (.arr 1 (w.q.pre++lst (Ke f) w.row++w.q.rest))))(z:cs[j]? =some (.own w.q.id w.q.lo w.q.n))(h:i≠m)
 (A:∀H',C3 Φ H0 ((L.set i (.blk id (.cells (cs.set j (.sl (lst e l) .ro))))).eraseIdx m) H'->k H'):E.frzIn H id j k:=by
 subst hE;have O:=a.get i U;have Z:=a.get m N
 have v:w.q.id≠id:=λe=>by rw[e,O]at Z;cases Z
 refine⟨cs,w.q.id,w.q.lo,w.q.n,1,_,lst e l,O,z,Z,?_,?_⟩
 ·rw[NG y.ok.1 (by rw[y.ok.2,len_eq,N4])];exact BI7 u y
 have s:=(a.set i (b':=.cells (cs.set j (.sl (lst e l) .ro))) U).del m (id:=w.q.id) (b:=.arr 1 (w.q.pre++lst (Ke f) w.row++w.q.rest)) (by rw[Z4,A1 h];exact N);rw[SC _ _ _ v];exact A _ s
end
section
variable {P:Program}{nt:Nat}{rd:Option Nat}{E:Hj}(hE:E=J1 P nt rd)
include hE
variable {α R:Type}{f:α->V}{Φ:A5->A5->Prop}{H0 H:A5}{L:List En}{sz:Nat}{q:OG}{l:List α}{r:R}
theorem Bi0(N:C3 Φ H0 L H)(e:Cj q (Ar.len l))(i:Nat)(U:L[i]? =some (.blk q.id (.arr sz (q.pre++lst f l++q.rest)))){lo:OS Int}{k:V->Prop}{F:Up α->OS R}
 (h:(Dc l lo none none).bind F=some r)(s:∀x (a:OG),a.id=q.id/\a.lo=q.lo+lo.getD 0/\a.n=q.n-lo.getD 0->F x=some r->k (.own a.id a.lo a.n)):
 E.oslice sz H q.id q.lo q.n lo none none k:=by
 have y:=hE;subst hE;have⟨x,O,Z⟩:=bind_some h
 have u:q.n=(l.length:Nat):=by rw[e.2,len_eq]
 have A:=N4 (f:=f) l
 unfold Dc at O
 split at O
 ·rename_i j;cases O;have⟨z,v,c3,c4,c5⟩:=j
  simp only[LR]at v c3 c4
  refine⟨_,N.get i U,?_,?_⟩
  ·rw[u,e.1]
   grind
  exact s _ ⟨q.id,q.lo+lo.getD 0,q.n-lo.getD 0,[],[]⟩ ⟨rfl,rfl,rfl⟩ Z
 cases O
theorem Aw3(s:C3 Φ H0 L H)(j:Cj q (Ar.len l))(i:Nat)(U:L[i]? =some (.blk q.id (.arr sz (q.pre++lst f l++q.rest)))){e:OG}{a:Int}(hd:e.id=q.id/\e.lo=q.lo+a/\e.n=q.n-a){y:V}{m:Up α}{F:Up α×Int->OS R}
 (G:Wb sz H y (lst f m))(h:(AC0 l a m).bind F=some r)(M:∀p H',Cj q (Ar.len p.1)->C3 Φ H0 (L.set i (.blk q.id (.arr sz (q.pre++lst f p.1++q.rest)))) H'->F p=some r->k (.int .i64 p.2) H'):E.ocopy sz H (.own e.id e.lo e.n) y k:=by
 have N:q.n=(l.length:Nat):=by rw[j.2,len_eq]
 have W:=N4 (f:=f) l;have em:=N4 (f:=f) m;have⟨p,O,Z⟩:=bind_some h
 unfold AC0 at O
 split at O
 ·rename_i Y;cases O;rw[hd.1,hd.2.1,hd.2.2];refine SL hE (s.get i U) G (YL:=(m.length:Nat)) (by rw[em]) λn x Q v=>?_
  have u:n=(if(l.length:Int)-a<(m.length:Nat)then(l.length:Int)-a else(m.length:Nat)):=by rw[Q,N]
  have z:(q.lo+a).toNat=q.pre.length+a.toNat:=by rw[j.1];omega
  have J:(q.n-a).toNat=l.length-a.toNat:=by rw[N];omega
  have e2:x=q.pre++lst f (l.take a.toNat++m.take (l.length-a.toNat)++l.drop (a.toNat+m.length))++q.rest:=by
   rw[v,z,J,lst_eq,lst_eq,lst_eq];rw[NK (A:=q.pre++(l.take a.toNat).map f) (B:=((l.drop a.toNat).take m.length).map f) (C:=(l.drop (a.toNat+m.length)).map f++q.rest) ?_ ?_ ?_]
   ·simp_all
   ·have:l=l.take a.toNat++((l.drop a.toNat).take m.length++l.drop (a.toNat+m.length)):=by
     rw[<-Jh,Da,Da]
    grind
   ·simp;omega
   grind
  rw[u,e2];refine M _ _ ⟨j.1,?_⟩ (s.set i U) Z;rw[N,len_eq]
  grind
 cases O
theorem BL9(e:C3 Φ H0 L H)(x:Cj q (Ar.len l))(i:Nat)(U:L[i]? =some (.blk q.id (.arr sz (q.pre++lst f l++q.rest)))){y:V}{m:Up α}{F:Up α×Int->OS R}
 (G:Wb sz H y (lst f m))(h:(AC0 l 0 m).bind F=some r)(v:∀p H',Cj q (Ar.len p.1)->C3 Φ H0 (L.set i (.blk q.id (.arr sz (q.pre++lst f p.1++q.rest)))) H'->F p=some r->k (.int .i64 p.2) H'):E.ocopy sz H (.own q.id q.lo q.n) y k:=
 Aw3 hE e x i U (a:=0) ⟨rfl,AY,AY⟩ G h v
end
def YI{P:If}{T:JV}{f:FuncId}{fn:Func}{c:Code}{n:Nat}{rs:Up ResultVar}{args:Up V}{F H:A5}{sz:Nat}{xs:Up V}{mk:V->V}(j:Na mk)(v:Cf)(z:YV P T)(A:P.funcs[f]? =some fn)(W:fn.body=some c)(hd:M4 v c=true)
 (a:∀vals w,(callFunc f vals).run P w= .ok (.enter f vals) w)(s:fn.ntmps=n)(u:fn.results.toList=rs)(C:Nat.ble args.length n=true)
 (h:∀(E:Hj) (K:V->A5->Prop),E=J1 P n none->(∀(q:OG) (L:Up En) (i:Nat) H' x,Cj q (xs.length:Nat)->L[i]? =some (.blk q.id (.arr sz (q.pre++xs++q.rest)))->C3 Eq F L H'->DI x (mk (.own q.id q.lo q.n))->K x H')->(xs=[]->∀L H' x,C3 Eq F L H'->DI x (mk (.sl [] .nil))->K x H')->run E T n v c ⟨EA args 0,[]⟩ H (Tj E T rs K)):
 L5 P f args H (BR8 F sz xs mk):=by
 refine L5.adoptG (sz:=sz) j (L5.le (Ai (K:=λx H'=>∃y e,DI x y/\JI e H'/\(BR8 F sz xs mk y e\/(y=mk (.sl [] .nil)/\∀t,e t=none->BR8 F sz xs mk (mk (.own t 0 0)) (upd e t (some (.arr sz [])))))) v z.1 z.2 A W hd a s u C λE hE=>?_));refine h E _ hE (λq L i H' x G U N M=>?_) λM L H' x N B=>?_
 ·have⟨O,Z⟩:=(N.only i U).last;exact⟨_,_,M,Z,.inl ⟨q,rfl,G,O,rfl⟩⟩
 exact⟨_,F,B,N.ext,.inr ⟨rfl,λt J=>⟨⟨t,0,0,[],[]⟩,rfl,⟨rfl,by rw[M];rfl⟩,J,by rw[M];rfl⟩⟩⟩
section
variable {P:Program}{nt:Nat}{rd:Option Nat}{T:JV}{E:Hj}
variable (hE:E=J1 P nt rd)
include hE
end
structure OGq (q:OG) extends OG where
 eq:toOG=q
instance {q:OG}:CoeOut (OGq q) OG:=⟨OGq.toOG⟩
instance {q:OG}:CoeDep OG q (OGq q):=⟨⟨q,rfl⟩⟩
section
variable {P:Program}{nt:Nat}{rd:Option Nat}{T:JV}{E:Hj}
variable (hE:E=J1 P nt rd)
include hE
end
end Go.Ab
