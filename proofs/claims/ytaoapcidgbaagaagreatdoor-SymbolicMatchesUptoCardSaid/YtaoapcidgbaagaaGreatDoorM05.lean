/- . -/
import Derived.Test.YtaoapcidgbaagaaGreatDoorM03
set_option linter.all false
open Go.Ab.Ar (an_eq cmp_eq nt_eq)
namespace Go.Ab
open Go.RowKit
variable [O7][Ar]
variable{G:Up (Nat×Bool)}{a:Int}{d t:Nat}{i:IntKind}{k:V->Prop}{o:Oper}{vs:Up V}
section
variable {P:Program}{nt:Nat}{rd:Option Nat}{T:JV}{l:Fl}{df:List Nat}{H:A5}
def OF (G:Up (Nat×Bool))(l:Fl):Prop:=∀j w,BA0 G j w=true->Zm (EJ l j) w=true
def OF.nil:OF [] l:=λj w h=>by simp[BA0]at h
def OF.add(h:OF G l){w:Bool}(hd:Zm (EJ l d) w=true):OF ((d,w)::G) l:=by
 intro j w' a
 simp only[BA0]at a
 split at a
 ·simp_all
 exact h j w' a
theorem PZ:∀(l:Fl) (t:Nat) (s:Sl),lk l t=s->(∀j w x,s≠ .g j w x)->EJ l t=s.V
 |[],t,s,h,_=>by grind[EJ,Sl.V,lk]
 | (k,x)::l,t,s,h,a=>by
  simp only[lk]at h
  simp only[EJ]
  cases W:Nat.beq t k with
  |true=>
   simp only[W]at h
   subst h
   cases x with
   |v x=>rfl
   |b c=>rfl
   |g j w x=>simp_all
  |false=>simp only[W]at h;exact PZ l t s h a
def Al1:∀(l:Fl) (t j:Nat) (w:Bool) (x:V),lk l t= .g j w x->Bk3 l t j=true->EJ l t=bif Zm (EJ l j) w then x else .tup []
 |[],_,_,_,_,_,h=>by simp[Bk3]at h
 | (k,s)::l,t,j,w,x,h,q=>by
  simp only[Bk3]at q
  simp only[lk]at h
  cases z:Nat.beq k j with
  |true=>grind
  | false=>
   simp only[z]at q
   have i:Nat.beq j k=false:=by
    cases e:Nat.beq j k with
    |false=>rfl
    |true=>simp_all
   have b:EJ ((k,s)::l) j=EJ l j:=by simp_all[EJ]
   rw[b];simp only[EJ]
   cases o:Nat.beq t k with
   |true=>
    simp_all
   | false=>
    have a:Nat.beq k t=false:=by
     cases e:Nat.beq k t with
     |false=>rfl
     |true=>simp_all
    simp only[a,o]at q h ⊢
    exact Al1 l t j w x h q
theorem PT(b:OF G l){s:Sl}(h:Av2 G l t=some s):s.V=EJ l t/\∀j w x,s≠ .g j w x:=by
 unfold Av2 at h
 split at h
 ·rename_i j w x B
  split at h
  ·rename_i q;have e:=Al1 l t j w x B q
   split at h
   ·rename_i i;cases h;rw[e,b j w i];simp[Sl.V]
   split at h
   ·rename_i c d;have a:=PZ l j _ d (λ_ _ _ h=>by cases h)
    rw[a]at e
    grind[Sl.V,Zm]
   cases h
  cases h
 grind[PZ]
def AV2(a:OF G l)(t:Nat):(BK9 G l t).V=EJ l t:=by
 unfold BK9
 split
 ·grind[PT]
 rfl
def HS(a:OF G l)(x:By):(Y4 G l x).V=ev (J7 ⟨l,df⟩) x:=by
 cases x with
 |tmp t=>exact AV2 a t
 |const v=>
  cases v<;>first|rfl|skip
 |global n=>rfl
 |func f=>rfl
def Wj:∀(l:Fl) (d:Nat) (c:Bool),EJ l d= .bool c->∀t,EJ (Ub l d c) t=EJ l t
 |[],_,_,_,_=>rfl
 | (k,s)::l,d,c,h,t=>by
  simp only[Ub]
  cases hd:Nat.beq d k with
  |true=>
   have e:=DW hd
   simp_all[EJ]
  |false=>
   have B:EJ l d= .bool c:=by simp_all[EJ]
   have ih:=Wj l d c B
   simp_all[EJ]
theorem UB{c:Bool}(h:EJ l d= .bool c):J7 ⟨Ub l d c,df⟩=J7 ⟨l,df⟩:=by
 simp_all[J7,Wj]
theorem Hl{o:OS V}(h:MI o k):∃y,o=some y/\k y:=by
 unfold MI at h
 grind
theorem Ps(e:Oz P T){v:V}(h:AR4 (J1 P nt rd) T t v H k):∃y,(Mu P H t v=some y\/Rh P H t v=some y)/\k y:=by
 unfold AR4 at h
 split at h
 ·exact h.elim
 rename_i I b;have ok:=I7 e b
 split at h
 ·rename_i cs off
  split at h
  ·rename_i y a;exact⟨y,.inl (by simp only[Mu,ok.ag,ok.sz];exact a),h⟩
  grind
 ·rename_i id off;obtain⟨cs,S,h⟩:=h
  split at h
  ·rename_i y a;exact⟨y,.inl (by simp only[Mu,ok.ag,ok.sz,S];exact a),h⟩
  grind
 ·rename_i id i esz off;obtain⟨sz,xs,S,W,h⟩:=h
  split at h
  ·rename_i y a;exact⟨y,.inr (by simp only[Rh,ok.ag,ok.sz,Lp,S];rw[A2 W];exact a),h⟩
  grind
 grind
theorem BU3(b:Oz P T){f:Nat}{I:AF1}{p:Nat×Nat}(a:tg T t=some I)(q:I.fs[f]? =some (some p)):fdO P t f=some p:=by
 have:=Al0 I.fs 0 f p (I7 b a).fs q
 rwa[P0]at this
theorem stE(a:Oz P T){f:Nat}{v:V}(h:Rr T t v f k):∃y,Li P t v f=some y/\k y:=by
 unfold Rr at h
 grind[Hl,Li,BU3]
theorem cf243(a:Oz P T){f:Nat}{v:V}(h:AG3 T t v f k):∃y,Yr P t v f=some y/\k y:=by
 unfold AG3 at h
 split at h
 ·exact h.elim
 rename_i I i
 split at h
 ·rename_i p n
  split at h
  ·exact h.elim
  rename_i J b
  split at h
  ·have⟨y,O,e⟩:=Hl h;exact⟨y,by simp only[Yr,BU3 a i n,(I7 a b).ag,(I7 a b).sz];exact O,e⟩
  grind
 grind
def za8(w:Oz P T){v i:V}(h:Rq (J1 P nt rd) T t v i k):∃f j u y,i= .int f j/\GJ P t v j=some u/\DI u y/\k y:=by
 unfold Rq at h
 split at h
 ·rename_i f j
  split at h
  ·exact h.elim
  rename_i I m;have ok:=I7 w m;refine⟨f,j,?_⟩
  split at h
  ·rename_i e R
   split at h
   ·exact h.elim
   rename_i J b;have g:=I7 w b
   split at h
   ·rename_i xs tl;obtain⟨W,h⟩:=h
    split at h
    ·rename_i d;refine⟨_,_,rfl,?_,.refl _,h⟩;simp only[GJ,ok.sl,R,g.sz];rw[A2 ⟨W,by rw[DW d]⟩]
    grind
   grind
  rename_i R
  split at h
  ·rename_i n e a
   split at h
   ·exact h.elim
   rename_i J b
   split at h
   ·obtain⟨⟨N,c,o⟩,h⟩:=h;rename_i cs off
    have hle:off+j.toNat*J.sz+J.sz<=cs.length:=by
     have O:j.toNat+1<=n:=AY
     have x:=J0 J.sz O
     rw[F9,Z2]at x
     omega
    refine⟨_,_,rfl,?_,.sub hle,h⟩;simp only[GJ,ok.sl,R,ok.ar,a,(I7 w b).sz];rw[A2 ⟨N,c⟩];rfl
   obtain⟨W,h⟩:=h;obtain⟨y,O,x⟩:=Hl h;refine⟨y,y,rfl,?_,.refl _,x⟩;simp only[GJ,ok.sl,R,ok.ar,a,(I7 w b).sz];rw[A2 W];exact O
  grind
 grind
def Ag2(b:Oz P T){v i:V}(h:AG2 (J1 P nt rd) T t v i k):∃x j y,i= .int x j/\Uy P t v j=some y/\k y:=by
 unfold AG2 at h
 split at h
 ·rename_i x j
  split at h
  ·exact h.elim
  rename_i I d;have ok:=I7 b d;refine⟨x,j,?_⟩
  split at h
  ·rename_i n e a
   split at h
   ·exact h.elim
   rename_i J N
   split at h
   ·obtain⟨W,h⟩:=h;obtain⟨y,O,c⟩:=Hl h;refine⟨y,rfl,?_,c⟩;simp only[Uy,ok.ar,a,(I7 b N).ag,(I7 b N).sz];rw[A2 W];exact O
   grind
  rename_i a
  split at h
  ·split at h
   ·rename_i G;obtain⟨W,h⟩:=h;refine⟨_,rfl,?_,h⟩;rename_i str _
    have W:0<=j/\j<(str.size:Nat):=by
     rw[an_eq,cmp_eq,cmp_eq,Ar.slen_eq]at W
     grind[JG]
    simp only[Uy,ok.ar,a,ok.st];rw[A2 ⟨G,W.1⟩,Ar.sat_eq]
    have w:j.toNat<str.size:=AY
    simp[w]
   grind
  grind
 grind
def AG4:∀xs ys:Up V,Km xs ys=Co xs ys
 |[],[]=>rfl
 |[],_::_=>rfl
 |x::xs,[]=>by grind[Km,Co]
 | x::xs,y::ys=>by
  have ih:=AG4 xs ys
  have e:(Ar.an:Bool->Bool->Bool)=λa b=>a&&b:=by funext a b;simp[an_eq]
  unfold Km Co;rw[ih,e]
  cases x<;>cases y<;>simp only[Nl,cmp_eq,Ar.scmp_eq,Ar.beq_eq,JG,Cb5]<;>first
   |rfl
   |(cases Co xs ys<;>rfl)
   |(split<;>cases Co xs ys<;>rfl)
theorem AL8{e:BinOp}{b:Int}(h:Yd e=true):Qe e i a b=some (.bool (Ar.cmp e a b)):=by
 rw[cmp_eq]
 cases e<;>simp[Yd]at h<;>rfl
theorem Bj0{e:BinOp}{b:Int}(h:BO1 e=true):Qe e i a b=some (.int i (Ar.ar e i a b)):=by
 rw[Ar.ar_eq]
 cases e<;>simp[BO1]at h<;>rfl
theorem AL7{e:BinOp}{b:Int}(h:Bz2 e=true)(W:b≠0):Qe e i a b=some (.int i (Ar.ar e i a b)):=by
 rw[Ar.ar_eq]
 cases e<;>simp[Bz2]at h<;>simp[Qe,arI,W]
def AH3{e:BinOp}{a b:Uf}(h:Yd e=true):WW e a b=some (.bool (Ar.scmp e a b)):=by
 rw[Ar.scmp_eq]
 cases e<;>simp[Yd]at h<;>rfl
def Bf6{e:BinOp}{b:Int}(h:Mx e=true)(W:0<=b):Xf e i a b=some (.int i (Ar.sh e i a b)):=by
 rw[Ar.sh_eq]
 cases e<;>simp[Mx]at h<;>simp only[Xf,shI]<;>rw[A1 AY]
theorem WI(f:Oz P T){i:BinOp}{x y:V}(h:BV6 (J1 P nt rd) T i t x y k):∃v,Wa P i t x y=some v/\k v:=by
 unfold BV6 at h
 split at h
 ·rename_i j a p b
  split at h
  ·rename_i G;have⟨W,h⟩:=h
   have W:0<=b:=by rw[cmp_eq]at W;grind[JG]
   simp_all[Wa,Bf6]
  rename_i G
  split at h
  ·rename_i S
   have e:Wa P i t (.int j a) (.int p b)=Qe i j a b:=by simp[Wa,G,S]
   split at h
   ·grind[AL8]
   split at h
   ·grind[Bj0]
   split at h
   ·rename_i d;have⟨W,h⟩:=h
    have W:b≠0:=by rw[cmp_eq]at W;grind[JG]
    grind[AL7]
   grind
  grind
 ·rename_i a b
  split at h
  ·rename_i d;exact⟨_,AH3 d,h⟩
  split at h
  ·have⟨W,h⟩:=h
   have W:((a.size+b.size:Nat):Int)<=9223372036854775807:=by
    rw[cmp_eq,Ar.slen_eq,Ar.cat_eq]at W
    have e:(a++b).size=a.size+b.size:=OC
    rw[e]at W
    grind[JG]
   simp_all[Wa,WW,Ar.cat_eq]
  grind
 ·rename_i a b
  split at h
  ·exact h.elim
  rename_i I n
  split at h
  ·rename_i w;have g:=(I7 f n).bo w
   split at h
   ·simp_all[Wa,Ar.beq_eq]
   ·simp_all[Wa,Ar.beq_eq,nt_eq]
   grind
  grind
 ·rename_i xs ys
  split at h
  ·exact h.elim
  rename_i I n;have ok:=I7 f n
  split at h
  ·rename_i d;have⟨O,m,o⟩:=d
   have c:JR P 9 t=some (xs.map kd):=by
    have:=ok.ek
    rw[m]at this
    exact this
   have N:ZC P t=some true/\JR P 9 t=some (xs.map kd)/\ys.map kd=xs.map kd:=⟨by rw[ok.ag,O],c,o⟩;cases i<;>try exact h.elim
   ·cases M:Km xs ys with
    |none=>simp_all
    |some b=>
     simp_all[AG4,Wa]
   cases M:Km xs ys with
   |none=>simp_all
   |some b=>
    simp_all[AG4,Wa,nt_eq]
  grind
 grind
theorem ZF{a:UnOp}{x:Sl}{k:Sl->Prop}(h:xun a x k):∃s:Sl,unV a x.V=some s.V/\k s:=by
 unfold xun at h
 grind[unV,Sl.V,nt_eq,Ar.neg_eq]
def Ao2(w:Oz P T){s:Nat}{x:V}{H:A5}(h:Bo9 (J1 P nt rd) T s d x H k):∃v,(Ae4 P s d x=some v\/Ae5 P H s d x v)/\k v:=by
 unfold Bo9 at h
 split at h
 ·rename_i I J y N;have a:=I7 w y;have e:=I7 w N
  split at h
  ·rename_i c f n U z
   have t:=a.ik;rw[U]at t
   have e2:=e.ik;rw[z]at e2
   simp_all[Eh,Ae4,Ar.wr_eq]
  ·rename_i b _
   split at h
   ·rename_i O i;have t:=Qy (a.st.trans O);have e2:=Qy (e.st.trans i)
    simp_all[Ae4]
   grind
  ·have⟨v,O,i⟩:=h;grind
  ·have⟨v,O,i⟩:=h;grind
  grind
 grind
theorem c233(y:Oz P T){a:Up (Nat×V)}(h:AG5 T t a k):∃v,UK P t a=some v/\k v:=by
 unfold AG5 at h
 split at h
 ·exact h.elim
 rename_i I N;have ok:=I7 y N
 split at h
 ·rename_i cs Y
  have b:=ok.ze;rw[Y]at b;simp only[Eh]at b
  split at h
  ·rename_i n e u
   split at h
   ·exact h.elim
   rename_i J f
   split at h
   ·rename_i c d;exact⟨_,by simp only[UK,ok.ar,u,b,(I7 y f).sz,d];rfl,h⟩
   grind
  rename_i u
  split at h
  ·rename_i pl x
   have i:=ok.pl;rw[x]at i;simp only[Eh]at i
   split at h
   ·rename_i c d;have w:Qk (pl[·]?) cs a=some c:=d;exact⟨_,by simp only[UK,ok.ar,u,b,i,w];rfl,h⟩
   grind
  grind
 grind
def K69(i:Oz P T){n:Nat}{a:Up (Nat×V)}(h:Mg T t n a k):∃v,CR P t n a=some v/\k v:=by
 unfold Mg at h
 split at h
 ·exact h.elim
 rename_i I x
 split at h
 ·exact h.elim
 rename_i e R
 split at h
 ·exact h.elim
 rename_i J w
 split at h
 ·exact h.elim
 rename_i z Y
 have b:=(I7 i w).ze;rw[Y]at b;simp only[Eh]at b
 split at h
 ·rename_i d;refine⟨_,?_,h⟩;simp only[CR,(I7 i x).sl,R,(I7 i w).sz,b];rw[A2 d]
 grind
def Ag1(a:Oz P T){l c:V}(h:AG1 T t l c k):∃v,Bx1 P t l c v/\k v:=by
 unfold AG1 at h
 split at h
 ·split at h
  ·exact h.elim
  rename_i I f
  split at h
  ·exact h.elim
  rename_i e R
  split at h
  ·exact h.elim
  rename_i J i
  split at h
  ·exact h.elim
  rename_i z Y
  have b:=(I7 a i).ze;rw[Y]at b;simp only[Eh]at b
  split at h
  ·rename_i d;obtain⟨O,n,w,x,rfl,y,N⟩:=d;exact⟨_,⟨_,_,_,e,J.sz,J.by_,z,rfl,rfl,by rw[(I7 a f).sl,R],(I7 a i).sz,O,(I7 a i).by_,n,b,w,x,y,N,rfl⟩,h⟩
  grind
 grind
def Af7(i:Oz P T){v:V}{lo U n:OS (OS Int)}(h:AF8 (J1 P nt rd) T t v lo U n k):
 ∃a b c y,lo=some a/\U=some b/\n=some c/\WZ P t v a b c=some y/\k y:=by
 unfold AF8 at h
 split at h
 ·rename_i a b c;refine⟨a,b,c,?_⟩
  split at h
  ·exact h.elim
  rename_i I w
  split at h
  ·rename_i e R
   split at h
   ·exact h.elim
   rename_i J x
   split at h
   ·have⟨d,h⟩:=h;refine⟨_,rfl,rfl,rfl,?_,h⟩;simp only[WZ,(I7 i w).sl,R,(I7 i x).sz];rw[A2 d]
   grind
  grind
 grind
def rbN(i:Oz P T){id:Nat}{v n:Int}{lo U w:OS (OS Int)}(h:Af8 (J1 P nt rd) T t H id v n lo U w k):
 ∃a b c y,lo=some a/\U=some b/\w=some c/\PA P H t (.own id v n) a b c=some y/\k y:=by
 unfold Af8 at h
 split at h
 ·rename_i a b c;refine⟨a,b,c,?_⟩
  split at h
  ·exact h.elim
  rename_i I x
  split at h
  ·rename_i e R
   split at h
   ·exact h.elim
   rename_i J N;have⟨xs,S,d,h⟩:=h;refine⟨_,rfl,rfl,rfl,?_,h⟩;simp only[PA,(I7 i x).sl,R,(I7 i N).sz,Lp,S];rw[A2 ⟨trivial,d⟩];rfl
  grind
 grind
theorem Am1(a:Oz P T){b:Builtin}{g:Up Do}(h:TR (J1 P nt rd) T b g vs k):∃v,Fq P b g vs v/\k v:=by
 unfold TR at h
 split at h
 ·rename_i t x
  split at h
  ·exact h.elim
  rename_i I w;have ok:=I7 a w
  split at h
  ·rename_i e R
   split at h
   ·exact⟨_,by simp only[Fq,Bi5,ok.sl,R],h⟩
   grind
  rename_i R
  split at h
  ·rename_i n e u;exact⟨_,by simp only[Fq,Bi5,ok.sl,R,ok.ar,u,Ar.ofN_eq],h⟩
  rename_i u
  split at h
  ·split at h
   ·rename_i G;exact⟨_,by simp only[Fq,Bi5,ok.sl,R,ok.ar,u,ok.st,G,B4,Ar.slen_eq],h⟩
   grind
  grind
 ·grind[Ar.mx_eq,Fq]
 ·grind[Ar.mn_eq,Fq]
 ·rename_i O S xs tl ys D
  split at h
  ·rename_i I M w y
   split at h
   ·rename_i e e2 R c
    split at h
    ·rename_i J N
     split at h
     ·rename_i z Y
      have i:=(I7 a N).ze;rw[Y]at i;simp only[Eh]at i
      split at h
      ·rename_i d;have⟨j,m,c3,c4,c5⟩:=d;have⟨f,ys',B,C,o,p,q,s⟩:=h;refine⟨_,⟨?_,e,J.sz,J.by_,z,f,ys',(I7 a w).sl.trans R,by rw[(I7 a y).sl,c];rfl,(I7 a N).sz,j,(I7 a N).by_,m,i,c3,c4,B,C,o,p,q,rfl⟩,s⟩;cases tl<;>first|exact .inl rfl|exact .inr rfl|cases c5
      grind
     grind
    grind
   grind
  grind
 grind
theorem Vm{t:Bool}{x y:Sl}{k:Sl->Prop}(h:Bo3 (J1 P nt rd) t x y k):∃s:Sl,(t=true->s.V=x.V)/\(t=false->s.V=y.V)/\k s:=by
 unfold Bo3 at h
 split at h
 ·grind
 ·exact⟨_,λe=>(by simp[Sl.V,e]),λe=>(by simp[Sl.V,e]),h⟩
 ·grind[Sl.V,Ar.or_eq]
 ·grind[Sl.V,nt_eq]
 ·grind
 ·grind[Sl.V,nt_eq,an_eq]
 ·grind[Sl.V,nt_eq,Ar.or_eq]
 ·grind[Sl.V,an_eq]
 ·grind[Ar.pk_eq]
 have⟨O,a⟩:=h;cases t
 ·grind
 grind
def OF.arm(a:OF G l){c:By}{w:Bool}(h:ev (J7 ⟨l,df⟩) c= .bool w):OF (Cc2 c w G) l:=by
 cases c with
 |tmp d=>
  refine a.add ?_;have:EJ l d= .bool w:=h;rw[this];simp[Zm]
 |const _=>exact a
 |global _=>exact a
 |func _=>exact a
theorem Vn(n:Oz P T){b:Builtin}{x:Up Do}{w:V}(a:AK0 b vs=some w)(h:Bo6 (J1 P nt rd) T b x H w k):∃v,RU P H b x vs v/\k v:=by
 unfold AK0 at a
 unfold Bo6 at h
 split at a
 ·cases a
  split at h
  ·split at h
   ·exact h.elim
   rename_i I i
   split at h
   ·rename_i e R;exact⟨_,by simp only[RU,BN1,(I7 n i).sl,R],h⟩
   grind
  grind
 ·cases a
  split at h
  ·split at h
   ·exact h.elim
   rename_i I i
   split at h
   ·rename_i e R
    split at h
    ·simp_all
    ·have⟨sz,xs,S,h⟩:=h;exact⟨_,by simp only[RU,AP2,(I7 n i).sl,R,Lp,S];rfl,h⟩
    ·exact⟨_,by simp only[RU,AP2,(I7 n i).sl,R],h⟩
    ·exact⟨_,by simp only[RU,AP2,(I7 n i).sl,R],h⟩
    grind
   grind
  grind
 cases a
def Sr(V:Oz P T)(t:OF G l){k:Sl->Prop}(h:xq (J1 P nt rd) T G o l H k):∃s:Sl,Sq P o (ev (J7 ⟨l,df⟩)) H s.V/\k s:=by
 have E:∀x,(Y4 G l x).V=ev (J7 ⟨l,df⟩) x:=λx=>HS t x;have C:∀xs:Up By,(xs.map λx=>(Y4 G l x).V)=xs.map (ev (J7 ⟨l,df⟩)):=λxs=>BW λp _=>E p
 have D:∀x:OS By,(x.map λx=>(Y4 G l x).V)=x.map (ev (J7 ⟨l,df⟩)):=λx=>by cases x<;>simp[E]
 have Y:∀B:Up (Nat×By),(B.map λp=>(p.1,(Y4 G l p.2).V))=B.map λp=>(p.1,ev (J7 ⟨l,df⟩) p.2):=λB=>BW λp _=>by rw[E]
 unfold xq at h
 unfold Sq
 split at h<;>rename_i X<;>try simp only[X]
 ·grind
 ·grind
 ·rename_i c x y
  split at h
  ·rename_i d
   have:ev (J7 ⟨l,df⟩) c= .bool true:=by rw[<-E,d];rfl
   grind
  ·rename_i d
   have:ev (J7 ⟨l,df⟩) c= .bool false:=by rw[<-E,d];rfl
   grind
  ·rename_i b d
   have W:ev (J7 ⟨l,df⟩) c= .bool b:=by rw[<-E,d];rfl
   have⟨s,O,N,f⟩:=Vm h;refine⟨s,?_,f⟩;simp only[W];cases b
   ·simp only[D4,B6];rw[N rfl];exact HS (t.arm W) _
   simp only[B4];rw[O rfl];exact HS (t.arm W) _
  grind
 ·split at h
  ·rename_i O;rw[E]at O;exact⟨_,⟨O,by rw[E];rfl⟩,h⟩
  grind
 ·have⟨v,O,N⟩:=c233 V h
  rw[Y]at O;exact Mr
 ·have⟨v,O,N⟩:=K69 V h
  rw[Y]at O;exact Mr
 ·have⟨v,O,N⟩:=Ag1 V h
  rw[E,E]at O;exact Mr
 ·have⟨v,O,N⟩:=Ps V h
  rw[E]at O;exact Mr
 ·grind
 ·have⟨v,O,N⟩:=WI V h
  rw[E,E]at O;exact Mr
 ·grind[ZF]
 ·have⟨v,O,N⟩:=Ao2 V h
  rw[E]at O;exact Mr
 ·have⟨v,O,N⟩:=h
  rw[E,E]at O;exact Mr
 ·split at h
  ·rename_i I z
   split at h
   ·rename_i hn;exact⟨_,⟨(I7 V z).nif hn,by rw[E];rfl⟩,h⟩
   grind
  grind
 ·grind[Sl.V]
 ·split at h
  ·rename_i id l0 n M;have⟨a,b,c,y,O,N,f,g,q⟩:=rbN V h
   rw[D]at O N f
   rw[E]at M
   exact⟨.v y,by simp only[O,N,f,M];exact .inr g,q⟩
  have⟨a,b,c,y,O,N,f,g,q⟩:=Af7 V h
  rw[D]at O N f
  rw[E]at g
  exact⟨.v y,by simp only[O,N,f];exact .inl g,q⟩
 ·have⟨v,O,N⟩:=stE V h
  rw[E]at O;exact Mr
 ·have⟨v,O,N⟩:=cf243 V h
  rw[E]at O;exact Mr
 ·split at h
  ·rename_i id lo n M
   unfold BS6 at h
   split at h
   ·rename_i i U
    split at h
    ·exact h.elim
    rename_i I z
    split at h
    ·rename_i e R
     split at h
     ·exact h.elim
     rename_i J hJ;have⟨⟨xs,S⟩,W,h⟩:=h
     rw[E]at M U
     refine⟨.v _,?_,h⟩;simp only[U,M];refine .inr ?_;simp only[AM2,(I7 V z).sl,R,Lp,S,(I7 V hJ).sz,Ar.ofs_eq];rw[A2 ⟨W,trivial⟩];rfl
    grind
   grind
  have⟨ki,j,u,y,O,N,g,f⟩:=za8 V h
  rw[E]at O N
  exact⟨.v y,by simp only[O];exact .inl ⟨u,N,g⟩,f⟩
 ·have⟨ki,j,y,O,N,f⟩:=Ag2 V h
  rw[E]at O N
  exact⟨.v y,by simp only[O];exact N,f⟩
 ·split at h
  ·rename_i cs d
   rw[E]at d
   have⟨y,O,N⟩:=Hl h;exact⟨.v y,by simp only[d];exact O,N⟩
  grind
 ·rename_i c
  split at h
  ·rename_i b W
   split at h
   ·rename_i w m
    rw[C]at m
    have⟨v,O,N⟩:=Vn V m h;exact⟨.v v,by simp only[W];exact .inr O,N⟩
   have⟨v,O,N⟩:=Am1 V h
   rw[C]at O
   exact⟨.v v,by simp only[W];exact .inl O,N⟩
  grind
 grind
end
def FY (d:OS Tmp)(s:Sl)(l:Fl):Fl:=
 match d with
 |some d=>(d,s)::l
 |none=>l
section
variable (E:Hj)(T:JV)(nt:Nat)(A:Nat->Bool)(Z:Nat->List Nat)
def AR5 (H:A5) (k:V->A5->Prop) (h:Up Do) (vs:Up V):Prop:=
 match h,vs with
 | [b,  i],[.sl xs tl,.sl ys _]=>
  (match tg T b,tg T i with
   | some I,some a=>
    (match I.sl,a.sl with
     | some e,some _=>
      (match tg T e with
       | some J=>
        (match J.ze with
         |some z=>if 0<J.sz/\0<J.by_/\z.one=true/\z.cells.length=J.sz then E.appn J.sz J.by_ H tl xs ys k else False
         |none=>False)
       |none=>False)
     |_,_=>False)
   |_,_=>False)
 |_,_=>False
def Ao3 (H:A5) (k:V->A5->Prop) (h:Up Do) (vs:Up V):Prop:=
 match h,vs with
 | [b,  i],[.sl xs tl,.sl ys _]=>
  (match tg T b,tg T i with
   | some I,some a=>
    (match I.sl,a.sl with
     | some e,some _=>
      (match tg T e with
       | some J=>
        (match J.ze with
         |some z=>if 0<J.sz/\0<J.by_/\z.one=true/\z.cells.length=J.sz then E.appw J.sz J.by_ H tl xs ys k else False
         |none=>False)
       |none=>False)
     |_,_=>False)
   |_,_=>False)
 |_,_=>False
def Bu3 (a:Bool)(vs:Up V):Bool:=
 match vs with
 | .own _ _ _::_=>true
 |_=>a
def Ao4 (H :A5) (k:V->A5->Prop) (h:Up Do) (vs:Up V):Prop:=
 match h,vs with
 | [b,  i] ,[x,y]=>
  (match tg T b,tg T i with
   | some I,some a=>
    (match I.sl with
     | some e=>
      (match tg T e with
       | some J=>
        (match J.ze with
         | some z=>
          if 0<J.sz/\0<J.by_/\z.one=true/\z.cells.length=J.sz then
           (match a.sl,a.ik,y with
            |some _,_,y=>E.oapp J.sz J.by_ z H x y k
            |none,some _,.int _ m=>E.oappz J.sz J.by_ z H x m k
            |none,none,.str s=>(match a.st,J.sz with|true,1=>E.oapps J.by_ z H x s k|_,_=>False)
            |_,_,_=>False)
          else False
         |none=>False)
       |none=>False)
     |_=>False)
   |_,_=>False)
 |_,_=>False
def BS9 (H:A5) (k:V->A5->Prop) (b:Up Do) (vs:Up V):Prop:=
 match b,vs with
 | [a,_],[.own id lo n,y]=>
  (match tg T a with
   | some I=>
    (match I.sl with
     |some e=>(match tg T e with|some J=>if 0<J.sz then E.ocopy J.sz H (.own id lo n) y k else False|none=>False)
     |_=>False)
   |_=>False)
 |_,_=>False
def Bp0 (H:A5) (k:V->A5->Prop) (b:Up Do) (vs:Up V):Prop:=
 match b,vs with
 | [a] ,[.own id lo n]=>
  (match tg T a with
   | some I=>
    (match I.sl with
     | some e=>
      (match tg T e with
       |some J=>(match J.ze with|some z=>if 0<J.sz/\z.one=true/\z.cells.length=J.sz then E.oclear J.sz z H (.own id lo n) λH'=>k (.tup []) H' else False|none=>False)
       |none=>False)
     |_=>False)
   |_=>False)
 |_,_=>False
def BS7 (t:Nat) (H:A5) (k:V->A5->Prop) (l c:V):Prop:=
 match l,c with
 | .int _ n,.int _ m=>
  (match tg T t with
   | some I=>
    (match I.sl with
     | some e=>
      (match tg T e with
       | some J=>
        (match J.ze with
         |some z=>if 0<J.sz/\0<J.by_/\z.one=true/\z.cells.length=J.sz then E.omk J.sz J.by_ z n m H k else False
         |none=>False)
       |none=>False)
     |none=>False)
   |none=>False)
 |_,_=>False
def BG8 (t:Nat)(H:A5)(k:Sl->A5->Prop):Prop:=
 match tg T t with
 |some I=>(match I.sl with|some e=>(match tg T e with|some J=>E.onil J.sz H λv H'=>k (.v v) H'|none=>False)|none=>False)
 |none=>False
def xlit (t n:Nat) (H:A5) (a:Up (Nat×V)) (k:Sl->A5->Prop):Prop:=
 match tg T t with
 |none=>False
 | some I=>
  match I.sl with
  |none=>False
  | some e=>
   match tg T e with
   |none=>False
   |some J=>
    match J.ze with
    |none=>False
    |some _=>if n*J.sz<=16777216/\a.length=n/\Fa J.sz 0 a=true then E.olit J.sz H (a.map λq=>q.2) λv H'=>k (.v v) H' else False
def JF (G:Up (Nat×Bool)) (o:Oper) (l:Fl) (H:A5) (k:Sl->A5->Prop):Prop:=
 match o.op with
 | .alloc t=>
  (match tg T t with
   | some I=>
    (match I.ze with
     | some z=>
      (match A (o.dst.getD 0+5000000),Qd z with
       |true,true=>(match I.sl with|some e=>(match tg T e with|some J=>E.oalloc J.sz H λid H'=>k (.v (.ref id 0)) H'|none=>False)|none=>False)
       |_,_=>(match z.one with|true=>E.alloc H z.cells λid H'=>(match A (o.dst.getD 0+10000000)with|true=>E.wkB H' id λb=>k (.v (.ref id 0)) b|false=>k (.v (.ref id 0)) H')|false=>False))
     |none=>False)
   |none=>False)
 | .box _ x=>
  match A (o.dst.getD 0+1000000)with
  |true=>E.need ((Y4 G l x).V.one=true/\(Y4 G l x).V.cells=[(Y4 G l x).V]) λ_=>(match A (o.dst.getD 0)with|true=>E.alloc H [(Y4 G l x).V] λid H'=>k (.v (.ref id 0)) H'|false=>k (.v (.eref [(Y4 G l x).V] 0)) H)
  |false=>
  (match(Y4 G l x).V.one with
   |true=>(match A (o.dst.getD 0)with|true=>E.alloc H (Y4 G l x).V.cells λid H'=>k (.v (.ref id 0)) H'|false=>k (.v (.eref (Y4 G l x).V.cells 0)) H)
   |false=>False)
 | .store t x y=>
  (match tg T t with
   | some I=>
    (match(Y4 G l x).V with
     | .ref id off=>
      (match(Y4 G l y).V.one with
       | true=>
        (match Nat.beq (Y4 G l y).V.cells.length I.sz with
         |true=>E.store H id off I.sz (Y4 G l y).V.cells λH'=>k (.v .bad) H'
         |false=>False)
       |false=>False)
     | .elem id i esz off=>E.ostore H id i esz I.sz off (Y4 G l y).V λH'=>k (.v .bad) H'
     |_=>False)
   |none=>False)
 | .binOp h t x y _=>
  (match Ba1 h,Qd (Y4 G l y).V with
   |some q,true=>(match tg T t with|some I=>(match I.sl with|some _=>E.nilc (Y4 G l x).V (λ_=>k (.b q) H) (λ_=>k (.b (!q)) H)|none=>xq E T G o l H λs=>k s H)|none=>False)
   |_,_=>xq E T G o l H λs=>k s H)
 | .makeSlice t x y=>BS7 E T t H (λv H'=>k (.v v) H') (Y4 G l x).V (Y4 G l y).V
 | .assign x=>(match A (o.dst.getD 0+6000000),BO0 x with|true,true=>(match Qd (Y4 G l x).V with|true=>BG8 E T o.type H k|false=>k (Y4 G l x) H)|_,_=>k (Y4 G l x) H)
 | .move x=>(match A (o.dst.getD 0+6000000),BO0 x with|true,true=>(match Qd (Y4 G l x).V with|true=>BG8 E T o.type H k|false=>k (Y4 G l x) H)|_,_=>k (Y4 G l x) H)
 | .buildSlice t n a=>
  (match A (o.dst.getD 0+6000000)with
   |true=>xlit E T t n H (a.toList.map λp=>(p.1,(Y4 G l p.2).V)) k
   |false=>Mg T t n (a.toList.map λp=>(p.1,(Y4 G l p.2).V)) λv=>k (.v v) H)
 | .makeMap _ r=>(match r with|none=>E.mmk H λv H'=>k (.v v) H'|some _=>False)
 | .mapUpdate t x y z=>E.mset t H (Y4 G l x).V (Y4 G l y).V (Y4 G l z).V λH'=>k (.v .bad) H'
 | .insert t x y z=>E.mset t H (Y4 G l x).V (Y4 G l y).V (Y4 G l z).V λH'=>k (.v .bad) H'
 | .range t x=>E.mrg t H (Y4 G l x).V λv H'=>k (.v v) H'
 | .next x s=>(match s with|false=>E.mnx H (Y4 G l x).V λv H'=>k (.v v) H'|true=>False)
 | .entry x=>E.men H (Y4 G l x).V λv H'=>k (.v v) H'
 | .call c=>
  (match c.callee with
   | .value x=>E.call (Y4 G l x).V (c.args.toList.map λx=>(Y4 G l x).V) H λv H'=>k (.v v) H'
   | .builtin .append=>
    (match Bu3 (A (o.dst.getD 0)) (c.args.toList.map λx=>(Y4 G l x).V)with
     |true=>Ao4 E T H (λv H'=>k (.v v) H') c.argTypes.toList (c.args.toList.map λx=>(Y4 G l x).V)
     | false=>
      (match A (o.dst.getD 0+4000000)with
       |true=>Ao3 E T H (λv H'=>k (.v v) H') c.argTypes.toList (c.args.toList.map λx=>(Y4 G l x).V)
       |false=>AR5 E T H (λv H'=>k (.v v) H') c.argTypes.toList (c.args.toList.map λx=>(Y4 G l x).V)))
   | .builtin .copy=>BS9 E T H (λv H'=>k (.v v) H') c.argTypes.toList (c.args.toList.map λx=>(Y4 G l x).V)
   | .builtin .clear=>Bp0 E T H (λv H'=>k (.v v) H') c.argTypes.toList (c.args.toList.map λx=>(Y4 G l x).V)
   | .builtin _=>xq E T G o l H λs=>k s H
   |_=>False)
 |_=>xq E T G o l H λs=>k s H
def AL6 (o o2:Oper):OS (Nat×Do×Do×By):=
 match o.op,o.dst,o.guard with
 | .alloc t,some d,none=>
  (match o2.op,o2.dst,o2.guard with
   | .store a (.tmp b) x,none,none=>
    (match A d,Nat.beq d b with
     |false,true=>(match x with| .tmp e=>(match Nat.beq d e with|true=>none|false=>some (d,t,a,x))|_=>some (d,t,a,x))
     |_,_=>none)
   |_,_,_=>none)
 |_,_,_=>none
def BT6 (l:Fl) (t b:Do) (x:By):OS (Up V):=
 match tg T t,tg T b with
 | some I,some a=>
  (match I.ze with
   |some z=>if z.one=true/\(Y4 [] l x).V.one=true/\(Y4 [] l x).V.cells.length=a.sz/\a.sz<=z.cells.length then some (Z7 z.cells 0 (Y4 [] l x).V.cells)else none
   |none=>none)
 |_,_=>none
def KO (ops : SI Oper) (o:Oper):Nat->Fl->(Up (Nat×Bool)->Fl->(Sl->Sl)->Prop)->(Fl->Prop)->Prop
 | n, l, go, skip=>
  match o.guard with
  |none=>go [] l Sl.n
  | some (j, a)=>
   (match (ops[j]?).bind (·.dst)with
    |none=>False
    | some d =>
     (match Av2 [] l d with
      |some (.b c)=>(match c==a with|true=>go [] l Sl.n|false=>skip l)
      | some (.v (.bool c))=>
       (match Qc [(d,a)] o l with
        |true=>go [(d,a)] l λs=>.g d a s.V
        | false=>
         E.br c (λ_=>match a with|true=>go [] (Ub l d true) Sl.n|false=>skip (Ub l d true))
          (λ_=>match a with|false=>go [] (Ub l d false) Sl.n|true=>skip (Ub l d false)))
      |some (.v (.tup _))=>skip l
      |some _=>False
      | none =>
       (match lk l d with
        | .g b _ (.bool _)=>
         (match Bk3 l d b with
          | true=>
           (match Qc [(d,a)] o l with
            |true=>go [(d,a)] l λs=>.g d a s.V
            | false=>
             (match lk l b,n with
              | .v (.bool c),n+1=>E.br c (λ_=>KO ops o n (Ub l b true) go skip) (λ_=>KO ops o n (Ub l b false) go skip)
              |_,_=>False))
          |false=>False)
        |_=>False)))
def Su:OS (Nat×Int×Int×Up V)->Up Nat->Fl->A5->(Fl->A5->Prop)->Prop
 |_,[],l,H,k=>k l H
 | some (id,lo,n,xs),d::ds,l,H,k=>
  (match lk l d with
   | .v (.own a b e)=>E.need (a=id/\b=lo/\e=n) λ_=>Su (some (id,lo,n,xs)) ds ((d,.v (.sl xs .ro))::l) H k
   |_=>Su none ds l H k)
 | none,d::ds,l,H,k=>
  match decide (1000000<=d)with
  | true=>
   (match lk l (d % 1000000)with
    | .v (.ref id 0)=>
     (match decide (100000000<=d)with
      |true=>E.adoptIn H id ((d-100000000) / 1000000) λH'=>Su none ds l H' k
      |false=>E.frzIn H id (d / 1000000-1) λH'=>Su none ds l H' k)
    |_=>False)
  |false=>
   match lk l d with
   | .v (.ref id 0)=>E.frzL H id λcs H'=>Su none ds ((d,.v (.eref cs 0))::l) H' k
   | .v (.own id lo n)=>E.ofrz H id lo n λxs H'=>Su (some (id,lo,n,xs)) ds ((d,.v (.sl xs .ro))::l) H' k
   | .v (.sl _ _)=>Su none ds l H k
   |_=>False
def Ci6 (o:Oper):Up Nat:=
 match o.dst with
 |some q=>Z q
 |none=>[]
def Ss (ops:SI Oper):Up Oper->Fl->A5->(Fl->A5->Prop)->Prop
 |[],l,H,K=>K l H
 | o ::rest,l,H,K=>
  match Kb nt o.dst with
  |false=>False
  | true=>
   Su E none (Ci6 Z o) l H λl H=>
   match rest with
   |[]=>KO E ops o 4 l (λG b e=>JF E T A G o b H λs H'=>K (FY o.dst (e s) b) H') λb=>K (FY o.dst (.v (.tup [])) b) H
   | o2::a=>
    (match AL6 A o o2 with
     | some (d,t,h,x)=>
      (match BT6 T l t h x with
       |some cs=>Ss ops a ((d,.v (.eref cs 0))::l) H K
       |none=>False)
     |none=>KO E ops o 4 l (λG b e=>JF E T A G o b H λs H'=>Ss ops (o2::a) (FY o.dst (e s) b) H' K) λb=>Ss ops (o2::a) (FY o.dst (.v (.tup [])) b) H K)
end
section
variable {P:Program}{nt:Nat}{rd:Option Nat}{T:JV}{A:Nat->Bool}{df:List Nat}
def AX8 (l:Fl) (d t:Nat) (s:Sl):EJ ((d,s)::l) t=if t=d then Zz l s else EJ l t:=by
 simp only[EJ]
 by_cases h:t=d
 ·subst h;simp only[Nat.beq_refl,B4];cases s<;>rfl
 have:Nat.beq t d=false:=by
  cases W:Nat.beq t d with
  |false=>rfl
  |true=>simp_all
 grind
def R8 (l:Fl) (d:OS Tmp) (s:Sl):J7 ⟨FY d s l,df⟩=(J7 ⟨l,df⟩).put d (Zz l s):=by
 cases d with
 |none=>rfl
 |some d=>
  simp_all[J7,FY,Fr.put,AX8]
def Hm {ops:SI Oper} {o:Oper} {y:Up (Nat×Bool)->Fl->(Sl->Sl)->Prop} {skip:Fl->Prop}:∀(n:Nat) (l:Fl),KO (J1 P nt rd) ops o n l y skip->
 ∃i,(∀t,EJ i t=EJ l t)/\((DC ops (J7 ⟨l,df⟩) o=some true/\∃G N,OF G i/\(∀s,Zz i (N s)=s.V)/\y G i N)\/
  (DC ops (J7 ⟨l,df⟩) o=some false/\(skip i\/∃G d a,Qc G o i=true/\Zm (EJ i d) a=false/\y G i λs=>.g d a s.V)))
 | n, l,h=>by
  unfold KO at h
  split at h
  ·rename_i u;exact⟨l,λ_=>rfl,.inl ⟨by simp[DC,u],[],_,OF.nil,λs=>by cases s<;>rfl,h⟩⟩
  rename_i j a u
  split at h
  ·exact h.elim
  rename_i d z
  have p:∀x,EJ l d=x->DC ops (J7 ⟨l,df⟩) o=match x with| .bool c=>some (c==a)| .tup _=>some false|_=>none:=λx M=>by
   simp only[DC,u,z,J7,M]
   grind
  have w:∀(i:Fl) (s:Sl),Zz i s.n=s.V:=λi s=>by cases s<;>rfl
  have J:∀c,EJ l d= .bool c->Qc [(d,a)] o l=true->y [(d,a)] l (λs=>.g d a s.V)->∃i,(∀t,EJ i t=EJ l t)/\((DC ops (J7 ⟨l,df⟩) o=some true/\∃G N,OF G i/\(∀s,Zz i (N s)=s.V)/\y G i N)\/
   (DC ops (J7 ⟨l,df⟩) o=some false/\(skip i\/∃G d a,Qc G o i=true/\Zm (EJ i d) a=false/\y G i λs=>.g d a s.V))):=by
   intro c v C h;have:=p _ v
   simp only at this
   cases f:c==a with
   |true=>exact⟨l,λ_=>rfl,.inl ⟨by rw[this,f],_,_,OF.nil.add (by rw[v];simp_all[Zm]),λs=>by simp_all[Zz,Zm],h⟩⟩
   |false=>exact⟨l,λ_=>rfl,.inr ⟨by rw[this,f],.inr ⟨_,d,a,C,by rw[v];simp_all[Zm],h⟩⟩⟩
  split at h
  ·rename_i c v;have k:EJ l d= .bool c:=(PT OF.nil v).1.symm;have:=p _ k
   split at h
   ·rename_i e;exact⟨l,λ_=>rfl,.inl ⟨by rw[this];grind,[],_,OF.nil,w l,h⟩⟩
   grind
  ·rename_i c v;have k:EJ l d= .bool c:=(PT OF.nil v).1.symm;have g:=p _ k
   split at h
   ·simp_all
   have e:=Wj l d c k;obtain⟨O,I⟩:=h;cases c
   ·have h:=I rfl;cases a
    ·exact⟨_,e,.inl ⟨g,[],_,OF.nil,w _,h⟩⟩
    grind
   have h:=O rfl;cases a
   ·grind
   exact⟨_,e,.inl ⟨g,[],_,OF.nil,w _,h⟩⟩
  ·rename_i vs v;have k:EJ l d= .tup vs:=(PT OF.nil v).1.symm
   grind
  ·exact h.elim
  split at h
  ·rename_i V w' R B
   split at h
   ·rename_i q;have k:=Al1 l d V w' _ B q
    split at h
    ·rename_i C
     cases W:Zm (EJ l V) w' with
     |true=>
      rw[W]at k
      simp_all
     |false=>
      rw[W]at k
      have k:EJ l d= .tup []:=k;exact⟨l,λ_=>rfl,.inr ⟨p _ k,.inr ⟨_,d,a,C,by rw[k];rfl,h⟩⟩⟩
    split at h
    ·rename_i c m v;have D:=PZ l V _ v (λ_ _ _ h=>by cases h);obtain⟨O,I⟩:=h
     have key:∀b,c=b->KO (J1 P nt rd) ops o m (Ub l V b) y skip->∃i,(∀t,EJ i t=EJ l t)/\((DC ops (J7 ⟨l,df⟩) o=some true/\∃G N,OF G i/\(∀s,Zz i (N s)=s.V)/\y G i N)\/
      (DC ops (J7 ⟨l,df⟩) o=some false/\(skip i\/∃G d a,Qc G o i=true/\Zm (EJ i d) a=false/\y G i λs=>.g d a s.V))):=by
      intro b W h
      have S:EJ l V= .bool b:=by rw[D,W];rfl
      have e:=Wj l V b S;obtain⟨i,U,h⟩:=Hm m _ h
      rw[UB S]at h
      grind
     cases c
     ·simp_all
     simp_all
    grind
   grind
  grind
def M7.whole{y:V}(h:M7 y.cells vs)(O:y.one=true):∃z,DI y z/\z.cells=vs:=by
 have one:∀{y:V} {vs:Up V},M7 [y] vs->(∀z,DI y z->z.cells=[z])->∃z,DI y z/\z.cells=vs:=by
  intro y vs h Y
  cases h with
  |cons q r=>cases r;grind
 cases y with
 |agg cs=>exact⟨.agg vs,.agg h,rfl⟩
 |tup vs=>cases O
 |_=>exact one h λz Y=>by cases Y<;>rfl
def TP(a: Oz P T){l:Fl}(hG:OF G l){H:A5}{k:Sl->A5->Prop}(h:JF (J1 P nt rd) T A G o l H k):Lv P A o (ev (J7 ⟨l,df⟩)) H λv H'=>∃s:Sl,v=s.V/\k s H':=by
 have E:∀x,(Y4 G l x).V=ev (J7 ⟨l,df⟩) x:=λx=>HS hG x;have Em:∀xs:Up By,(xs.map λx=>(Y4 G l x).V)=xs.map (ev (J7 ⟨l,df⟩)):=λxs=>BW λp _=>E p
 have aa:xq (J1 P nt rd) T G o l H (λs=>k s H)->∃v,Sq P o (ev (J7 ⟨l,df⟩)) H v/\∃s:Sl,v=s.V/\k s H:=λh=>by
  obtain⟨s,O,u⟩:=Sr (df:=df) a hG h
  grind
 unfold JF at h
 split at h
 ·rename_i t X;simp only[Lv,X]
  split at h
  ·rename_i I V
   split at h
   ·rename_i z Y
    have w:=(I7 a V).ze;rw[Y]at w;simp only[Eh]at w
    split at h
    ·rename_i hA hn
     split at h
     ·split at h
      ·rename_i J _
       have e2:z= .sl [] .nil:=by
        grind[Qd]
       rw[e2]at w
       exact .inr ⟨w,J.sz,λq id hq j=>⟨.v (.ref id 0),rfl,h q id hq j⟩⟩
      grind
     grind
    split at h
    ·rename_i O;refine .inl ⟨z,w,O,λid j=>?_⟩;have h:=h id j
     split at h
     ·obtain⟨cs,ds,C,q2,q3⟩:=h
      rw[E7]at C;grind[BA,Sl.V]
     exact⟨_,.refl _,.v (.ref id 0),rfl,h⟩
    grind
   grind
  grind
 ·rename_i t x X;simp only[Lv,X]
  split at h
  ·rw[E]at h
   obtain⟨⟨O,u⟩,h⟩:=h;refine⟨O,?_⟩;rw[u]
   split at h
   ·rename_i hA;rw[A2 hA];exact λid j=>⟨.v (.ref id 0),rfl,h id j⟩
   grind[Sl.V]
  split at h
  ·rename_i O
   rw[E]at O
   refine⟨O,?_⟩
   split at h
   ·rename_i hA;rw[A2 hA];intro id j;have:=h id j
    rw[E]at this
    exact⟨.v (.ref id 0),rfl,this⟩
   rename_i hA;rw[A1 (by rw[hA];simp)]
   rw[E]at h
   grind[Sl.V]
  grind
 ·rename_i t x y X;simp only[Lv,X]
  split at h
  ·rename_i I V
   split at h
   ·rename_i id off M
    split at h
    ·rename_i O
     split at h
     ·rename_i u;obtain⟨cs,aq,hle,S,h3,h⟩:=h
      rw[E]at M O u hle
      obtain⟨z,Y,ah⟩:=hle.whole O;subst ah;refine .inl ⟨z,_,Y,?_,.v .bad,rfl,h⟩;simp only[Rx,(I7 a V).sz,M,S];rw[A2 ⟨Y.one O,by rw[<-Y.cells.length];simp_all,Js h3⟩]
     grind
    grind
   ·rename_i id i esz off M;obtain⟨xs,y',C,q2,q3,q4,q5,q6,h⟩:=h
    rw[E]at M C
    refine .inr ⟨y',_,C,?_,.v .bad,rfl,h⟩;simp only[Ag7,(I7 a V).sz,M,Lp,q5];rw[A2 ⟨q6,trivial,q2,q3,q4⟩]
   grind
  grind
 ·rename_i op t x y ty X
  have ap:xq (J1 P nt rd) T G o l H (λs=>k s H)->Lv P A o (ev (J7 ⟨l,df⟩)) H λv H'=>∃s:Sl,v=s.V/\k s H':=λh=>by
   grind[Lv]
  split at h
  ·rename_i q hq hn
   split at h
   ·rename_i I V
    split at h
    ·rename_i e R;obtain⟨p,O,u,h3⟩:=h
     rw[E]at O hn
     simp only[Lv,X];refine .inr ⟨q,e,p,hq,(I7 a V).sl.trans R,O,?_,λM=>⟨.b q,rfl,u M⟩,⟨.b (!q),rfl,h3⟩⟩
     grind[Qd]
    grind
   grind
  grind
 ·rename_i t x y X;simp only[Lv,X]
  rw[E,E]at h
  refine .inr ?_
  unfold BS7 at h
  unfold Vy
  split at h
  ·rename_i k1 n k2 m e1 e2;rw[e1,e2]
   simp only
   split at h
   ·rename_i I V
    split at h
    ·rename_i e R
     split at h
     ·rename_i J N
      split at h
      ·rename_i z Y
       have w:=(I7 a N).ze;rw[Y]at w;simp only[Eh]at w
       split at h
       ·rename_i d;obtain⟨D,c2,c3,c4⟩:=d;obtain⟨⟨C,q2,q3⟩,ys,hle,h⟩:=h;exact⟨e,J.sz,J.by_,z,(I7 a V).sl.trans R,(I7 a N).sz,D,(I7 a N).by_,c2,w,c3,c4,C,q2,q3,λid j=>⟨id,J.sz,_,ys,E7 _ _ _,hle,.v _,rfl,by rw[BA];grind⟩⟩
       grind
      grind
     grind
    grind
   grind
  grind
 ·rename_i x X;simp only[Lv,X]
  split at h
  ·split at h
   ·rename_i hn
    rw[E]at hn
    unfold BG8 at h
    split at h
    ·split at h
     ·split at h
      ·rename_i J _;refine .inr ⟨?_,J.sz,λq hq=>⟨.v _,rfl,h q hq⟩⟩
       unfold Qd at hn
       split at hn
       ·assumption
       cases hn
      exact h.elim
     exact h.elim
    exact h.elim
   exact zc6
  exact zc6
 ·rename_i x X;simp only[Lv,X]
  split at h
  ·split at h
   ·rename_i hn
    rw[E]at hn
    unfold BG8 at h
    split at h
    ·split at h
     ·split at h
      ·rename_i J _;refine .inr ⟨?_,J.sz,λq hq=>⟨.v _,rfl,h q hq⟩⟩
       unfold Qd at hn
       split at hn
       ·assumption
       cases hn
      exact h.elim
     exact h.elim
    exact h.elim
   exact zc6
  exact zc6
 ·rename_i t n ps X
  have Ep:∀ps:Up (Nat×By),(ps.map λp=>(p.1,(Y4 G l p.2).V))=ps.map λp=>(p.1,ev (J7 ⟨l,df⟩) p.2):=λps=>BW λp _=>by rw[E]
  split at h
  ·simp only[Lv,X];refine .inr ?_
   rw[Ep]at h
   unfold xlit at h
   split at h
   ·exact h.elim
   rename_i I V
   split at h
   ·exact h.elim
   rename_i e R
   split at h
   ·exact h.elim
   rename_i J N
   split at h
   ·exact h.elim
   rename_i z Y
   have w:=(I7 a N).ze;rw[Y]at w;simp only[Eh]at w
   split at h
   ·rename_i d;obtain⟨ys,hle,h⟩:=h;refine⟨e,J.sz,_,ys,?_,(I7 a V).sl.trans R,(I7 a N).sz,hle,λq hq=>⟨.v _,rfl,h q hq⟩⟩;simp only[CR,(I7 a V).sl,R,(I7 a N).sz,w];rw[A2 d]
   grind
  obtain⟨v,O,u⟩:=K69 a h
  rw[Ep]at O
  simp only[Lv,X];exact .inl ⟨v,by simp_all[Sq],.v v,rfl,u⟩
 ·rename_i t r X;simp only[Lv,X]
  split at h
  ·exact⟨rfl,Bi3 (K:=λv H'=>k (.v v) H') h λv H' S=>⟨.v v,rfl,S⟩⟩
  grind
 ·rename_i t x y z X;simp only[Lv,X]
  rw[E,E,E]at h
  exact zbf
 ·rename_i t x y z X;simp only[Lv,X]
  rw[E,E,E]at h
  exact zbf
 ·rename_i t x X;simp only[Lv,X]
  rw[E]at h
  exact At9 (K:=λv H'=>k (.v v) H') h λv H' S=>⟨.v v,rfl,S⟩
 ·rename_i x s X;simp only[Lv,X]
  cases s with
  |true=>exact h.elim
  |false=>
   rw[E]at h
   exact⟨rfl,AK5 (K:=λv H'=>k (.v v) H') h λv H' S=>⟨.v v,rfl,S⟩⟩
 ·rename_i x X;simp only[Lv,X]
  rw[E]at h
  exact AA3 (K:=λv H'=>k (.v v) H') h λv H' S=>⟨.v v,rfl,S⟩
 ·rename_i c X
  split at h
  ·rename_i x d;simp only[Lv,X,d]
   rw[E,Em]at h
   exact Ft.mono h λv H' S=>⟨.v v,rfl,S⟩
  ·rename_i d;simp only[Lv,X,d]
   rw[Em]at h
   split at h
   ·refine .inr (.inl ?_)
    unfold Ao4 at h
    unfold TI
    split at h
    ·rename_i sT yT x y f g;rw[f,g]
     simp only
     split at h
     ·rename_i I I2 V B
      split at h
      ·rename_i e R
       split at h
       ·rename_i J N
        split at h
        ·rename_i z Y
         have w:=(I7 a N).ze;rw[Y]at w;simp only[Eh]at w
         split at h
         ·rename_i d;obtain⟨D,c2,c3,c4⟩:=d;refine⟨e,J.sz,J.by_,z,(I7 a V).sl.trans R,(I7 a N).sz,D,(I7 a N).by_,c2,w,c3,c4,?_⟩
          split at h
          ·rename_i U;obtain⟨ys',C,h⟩:=h;exact .inl ⟨by rw[(I7 a B).sl,U];rfl,ys',C,Of h λv H' S=>⟨.v _,rfl,S⟩⟩
          ·rename_i k0 U af;have ac:=(I7 a B).ik
           rw[af]at ac
           obtain⟨C,h⟩:=h;exact .inr (.inl ⟨⟨_,ac⟩,_,_,rfl,C.1,C.2,Of h λv H' S=>⟨.v _,rfl,S⟩⟩)
          ·split at h
           ·rename_i ag ae;have ad:=(I7 a B).st
            rw[ag]at ad
            have h:Kg H (λv H'=>k (.v v) H') 1 J.by_ z x (Id _):=h
            rw[<-ae]at h
            exact .inr (.inr ⟨Qy ad,_,rfl,ae,Of h λv H' S=>⟨.v _,rfl,S⟩⟩)
           grind
          grind
         grind
        grind
       grind
      grind
     grind
    grind
   split at h
   ·refine .inr (.inr ?_)
    unfold Ao3 at h
    unfold Ky
    split at h
    ·rename_i sT yT xs tl ys ai f g;rw[f,g]
     simp only
     split at h
     ·rename_i I I2 V B
      split at h
      ·rename_i e e2 R U
       split at h
       ·rename_i J N
        split at h
        ·rename_i z Y
         have w:=(I7 a N).ze;rw[Y]at w;simp only[Eh]at w
         split at h
         ·rename_i d;obtain⟨D,c2,c3,c4⟩:=d;obtain⟨ab,ys',l1,l2,k1,k2,k3,k4,k5⟩:=h;exact⟨e,J.sz,J.by_,z,(I7 a V).sl.trans R,by rw[(I7 a B).sl,U];rfl,(I7 a N).sz,D,(I7 a N).by_,c2,w,c3,c4,ab,ys',l1,l2,k1,k2,k3,k4,λe=>⟨_,_,by subst e;rw[F2];exact .ro _ _,λ_ _ M=>HW M,⟨.v _,rfl,k5⟩⟩,λt O u=>⟨_,_,.ro _ _,λid b M=>by rw[C8 _ _ λe=>TQ];exact M,⟨.v _,rfl,k5⟩⟩⟩
         grind
        grind
       grind
      grind
     grind
    grind
   refine .inl ?_
   unfold AR5 at h
   unfold Ky
   split at h
   ·rename_i sT yT xs tl ys ai f g;rw[f,g]
    simp only
    split at h
    ·rename_i I I2 V B
     split at h
     ·rename_i e e2 R U
      split at h
      ·rename_i J N
       split at h
       ·rename_i z Y
        have w:=(I7 a N).ze;rw[Y]at w;simp only[Eh]at w
        split at h
        ·rename_i d;obtain⟨D,c2,c3,c4⟩:=d;obtain⟨ab,ys',l1,l2,k1,k2,k3,k4,k5,k6⟩:=h;exact⟨e,J.sz,J.by_,z,(I7 a V).sl.trans R,by rw[(I7 a B).sl,U];rfl,(I7 a N).sz,D,(I7 a N).by_,c2,w,c3,c4,ab,ys',l1,l2,k1,k2,k3,k4,λe=>⟨.v _,rfl,k5 e⟩,λt O u=>⟨.v _,rfl,k6 t O u⟩⟩
        grind
       grind
      grind
     grind
    grind
   grind
  ·rename_i d;simp only[Lv,X,d]
   rw[Em]at h
   unfold BS9 at h
   unfold AB9
   split at h
   ·rename_i sT yT id lo n y f g;rw[f,g]
    simp only
    split at h
    ·rename_i I V
     split at h
     ·rename_i e R
      split at h
      ·rename_i J N
       split at h
       ·rename_i D;obtain⟨xs,ys',C,q2,h⟩:=h;exact⟨e,J.sz,xs,ys',(I7 a V).sl.trans R,(I7 a N).sz,D,C,q2,.v _,rfl,h⟩
       grind
      grind
     grind
    grind
   grind
  ·rename_i d;simp only[Lv,X,d]
   rw[Em]at h
   unfold Bp0 at h
   unfold YD
   split at h
   ·rename_i sT id lo n f g;rw[f,g]
    simp only
    split at h
    ·rename_i I V
     split at h
     ·rename_i e R
      split at h
      ·rename_i J N
       split at h
       ·rename_i z Y
        have w:=(I7 a N).ze;rw[Y]at w;simp only[Eh]at w
        split at h
        ·rename_i D;obtain⟨xs,C,h⟩:=h;exact⟨e,J.sz,z,xs,(I7 a V).sl.trans R,(I7 a N).sz,D.1,w,D.2.1,D.2.2,C,.v _,rfl,h⟩
        grind
       grind
      grind
     grind
    grind
   grind
  ·rename_i b W _ _ d;obtain⟨v,O,u⟩:=aa h
   simp only[Sq,X,d]at O
   simp only[Lv,X,d];exact⟨v,O,u⟩
  exact h.elim
 rename_i n1 n2 n3 n4 n5 n6 n7 n8 n9 aj ak al am an ao;obtain⟨v,O,u⟩:=aa h;unfold Lv
 split<;>rename_i X<;>first|exact⟨v,O,u⟩|grind
theorem VR.nil_inv{g:Gh}{w:Is}{u:HO}(h:VR g w u (.sl [] .nil)):u= .slice none 0 0:=by
 cases h with
 |sl0 _=>rfl
 |sle o=>rcases o with h|⟨h,_⟩<;>cases h
 |sl _ _ _ _ _ _ _ _ o=>exact o.elim
def Hg{cs:Up V}{i j:Nat}{x:V}(U:i<cs.length):(cs.set i x).getD j .bad=if j=i then x else cs.getD j .bad:=by
 grind
def VR.erefLe{g:Gh}{w:Is}{v:HO}{cs ds:Up V}{off:Nat}(h:VR g w v (.eref cs off))(B:M7 cs ds):VR g w v (.eref ds off):=by
 have e:=B.length
 cases h with
 |eref vs q m O a=>
  exact .eref vs (λj z=>q j AY) (λj z=>m j AY) (λj z=>O j AY) λj z=>(a j AY).le (B.at j)
def DY {w:Is} {a:Act}:∀(q:OS (Nat×Int×Int×Up V)) (ds:Up Nat) (l:Fl) (H:A5) (g:Gh) (k:Fl->A5->Prop),(∀id lo n xs,q=some (id,lo,n,xs)->∀v,VR g w v (.own id lo n)->VR g w v (.sl xs .ro))->Rl g H w->FR nt g w a (J7 ⟨l,df⟩)->Su (J1 P nt rd) q ds l H k->∃g' l' H',Al g w g' w/\Rl g' H' w/\FR nt g' w a (J7 ⟨l',df⟩)/\k l' H'
 |q,[],l,H,g,k,_,C,i,h=>⟨g,l,H,Al.refl _ _,C,i,by simp_all[Su]⟩
 | some (id,lo,n,xs),d::ds,l,H,g,k,c,C,i,h=>by
  unfold Su at h
  split at h
  ·rename_i W Y n' B;obtain⟨⟨e,e2,e3⟩,h⟩:=h;subst e;subst e2;subst e3
   have y:FR nt g w a (J7 ⟨(d,.v (.sl xs .ro))::l,df⟩):=by
    have e:=R8 (df:=df) l (some d) (.v (.sl xs .ro))
    rw[show FY (some d) (.v (.sl xs .ro)) l=(d,Sl.v (.sl xs .ro))::l from rfl]at e
    rw[e];refine⟨i.size,λt=>?_,i.df⟩;simp only[Fr.put]
    split
    ·rename_i o;subst o;have D:=i.s t;have e0:(J7 ⟨l,df⟩).s t= .own W Y n':=PZ l t _ B (λ_ _ _ h=>by cases h)
     rw[e0]at D
     simp_all[Zz]
    exact i.s t
   exact DY _ ds _ _ g k c C y h
  exact zc3
 | none,d::ds,l,H,g,k,_,C,i,h=>by
  unfold Su at h
  split at h
  ·split at h
   ·rename_i id B
    split at h
    ·obtain⟨cs,sz,S,z,h⟩:=h;obtain⟨X,_⟩:=List.getElem?_eq_some_iff.1 z;obtain⟨x,N,b,hn,j⟩:=Hc C sz (.inl rfl) (.sl0 rfl:VR g w (.slice none 0 0) (.sl [] .nil))
     have I:upd H g.nx (some (.arr sz [])) id=some (.cells cs):=by
      rw[C8 _ _ (λe=>by rw[e]at S;rw[hn]at S;cases S)];exact S
     have G:=b.chgCells I (ds:=cs.set ((d-100000000) / 1000000) (.own g.nx 0 0)) OC λj' u O M=>by
      rw[Hg X]
      grind[VR.nil_inv]
     obtain⟨m,J,f,s,r⟩:=DY none ds _ _ x k (λ_ _ _ _ h=>by cases h) G (i.mono N) (h _ hn);exact zcj
    obtain⟨cs,q,lo,n,sz,xs,ys,S,z,c,hle,h⟩:=h;obtain⟨X,_⟩:=List.getElem?_eq_some_iff.1 z;obtain⟨x,N,b,j⟩:=C.freezeArr c
    have I:upd H q none id=some (.cells cs):=by
     rw[C8 _ _ (λe=>TQ)];exact S
    have G:=b.chgCells I (ds:=cs.set (d / 1000000-1) (.sl ys .ro)) OC λj' u O M=>by
     rw[Hg X]
     split
     ·rename_i e;subst e
      rw[U2,z]at M
      exact(j _ _ _ M).le (.sl _ hle)
     exact M
    obtain⟨m,J,f,s,r⟩:=DY none ds _ _ x k (λ_ _ _ _ h=>by cases h) G (i.mono N) h;exact zcj
   grind
  split at h
  ·rename_i id B;obtain⟨aa,cs,S,hle,h⟩:=h;obtain⟨x,N,b,j⟩:=C.freeze S
   have y:FR nt x w a (J7 ⟨(d,.v (.eref cs 0))::l,df⟩):=by
    have e:=R8 (df:=df) l (some d) (.v (.eref cs 0))
    rw[show FY (some d) (.v (.eref cs 0)) l=(d,Sl.v (.eref cs 0))::l from rfl]at e
    rw[e];have p:=i.mono N;refine⟨p.size,λt=>?_,p.df⟩;simp only[Fr.put]
    split
    ·rename_i o;subst o;have D:=i.s t;have e0:(J7 ⟨l,df⟩).s t= .ref id 0:=PZ l t _ B (λ_ _ _ h=>by cases h)
     rw[e0]at D
     exact(j _ _ D).erefLe hle
    exact p.s t
   obtain⟨m,J,f,s,r⟩:=DY none ds _ _ x k (λ_ _ _ _ h=>by cases h) b y h;exact zcj
  ·rename_i id lo n B;obtain⟨sz,xs,ys,S,hle,h⟩:=h;obtain⟨x,N,b,R⟩:=C.freezeArr S;have j:∀v,VR x w v (.own id lo n)->VR x w v (.sl ys .ro):=λv U=>(R v lo n U).le (.sl _ hle)
   have y:FR nt x w a (J7 ⟨(d,.v (.sl ys .ro))::l,df⟩):=by
    have e:=R8 (df:=df) l (some d) (.v (.sl ys .ro))
    rw[show FY (some d) (.v (.sl ys .ro)) l=(d,Sl.v (.sl ys .ro))::l from rfl]at e
    rw[e];have p:=i.mono N;refine⟨p.size,λt=>?_,p.df⟩;simp only[Fr.put]
    split
    ·rename_i o;subst o;have D:=p.s t;have e0:(J7 ⟨l,df⟩).s t= .own id lo n:=PZ l t _ B (λ_ _ _ h=>by cases h)
     rw[e0]at D
     exact j _ D
    exact p.s t
   obtain⟨m,J,f,s,r⟩:=DY (some (id,lo,n,ys)) ds _ _ x k (λ_ _ _ _ h=>TQ) b y h;exact zcj
  ·exact zc3
  grind
def AF9(b:Oz P T){l:Fl}{H:A5}{k:Sl->Prop}(a:Qc G o l=true)(h:xq (J1 P nt rd) T G o l H k):∃s,k s:=by
 unfold Qc at a
 unfold xq at h
 split at a<;>rename_i X<;>try simp only[X]at h
 ·grind
 ·grind
 ·grind[Vm]
 ·grind[Ps]
 ·grind[stE]
 ·grind[cf243]
 ·grind[c233]
 ·grind[WI]
 ·grind[ZF]
 ·grind[MI]
 ·grind[Vn,Am1]
 cases a
def Af9(b:Oz P T){l:Fl}{H:A5}{k:Sl->A5->Prop}(a:Qc G o l=true)(h:JF (J1 P nt rd) T A G o l H k):∃s,k s H:=by
 have key:xq (J1 P nt rd) T G o l H (λs=>k s H)->∃s,k s H:=λh=>AF9 b a h
 unfold Qc at a
 unfold JF at h
 split at a<;>rename_i X<;>try simp only[X]at h
 all_goals try exact key h
 ·grind
 ·grind
 ·split at h
  ·split at h
   ·split at h
    ·obtain⟨_,_,_,h⟩:=h;grind
    grind
   grind
  grind
 ·grind
 cases a
end
section
variable {P:Program}{nt:Nat}{rd:Option Nat}{T:JV}{A:Nat->Bool}{Z:Nat->List Nat}{df:List Nat}
def AL5{o2:Oper}{t a:Do}{x:By}(h:AL6 A o o2=some (d,t,a,x)):
 o.op= .alloc t/\o.dst=some d/\o.guard=none/\o2.op= .store a (.tmp d) x/\o2.dst=none/\o2.guard=none/\x≠ .tmp d:=by
 unfold AL6 at h
 grind[Nat.eq_of_beq_eq_true]
def AG0(hT:Oz P T){ops:SI Oper}{r:OS Nat}{K:Fl->A5->Prop}{Q:Exit->Act->Is->Prop}{g0:Gh}{w0:Is}
 (hQ:∀g w a l H,Al g0 w0 g w->Rl g H w->FR nt g w a (J7 ⟨l,df⟩)->K l H->Q .normal a w):
 ∀(m i:Nat) (l:Fl) (H:A5),i+m=ops.size->Ss (J1 P nt rd) T nt A Z ops (ops.toList.drop i) l H K->∀g w a,Al g0 w0 g w->Rl g H w->FR nt g w a (J7 ⟨l,df⟩)->wpOpsIn (Fw r) 0 P ops Q (List.range' i m) a w:=by
 intro m
 induction m using Nat.strongRecOn with
 |_ m ih=>
 intro i l H U h g w a s C B
 cases m with
 |zero=>
  have:ops.toList.drop i=[]:=by simp;omega
  rw[this]at h
  unfold Ss at h
  exact hQ g w a l H s C B h
 | succ m=>
  have ap:i<ops.toList.length:=by simp;omega
  have ah:i<ops.size:=AY
  have R:=P1 ap
  rw[R]at h
  simp only[Pd]at h
  generalize X:ops[i]=o at h
  simp only[Ip,wpOpsIn,DX ah,X]
  unfold Ss at h
  split at h
  ·exact h.elim
  rename_i hd;have⟨g1,l1,J,s1,O,D,h⟩:=DY (df:=df) none _ _ _ _ _ (λ_ _ _ _ h=>by cases h) C B h;replace s:=s.trans s1;clear s1 C B
  revert h D O s
  generalize l1=l,J=H,g1=g;intro C B h s
  have V:∀{rest:Up Oper},Kb nt o.dst=true->rest=ops.toList.drop (i+1)->
   KO (J1 P nt rd) ops o 4 l (λG k u=>JF (J1 P nt rd) T A G o k H λs H'=>Ss (J1 P nt rd) T nt A Z ops rest (FY o.dst (u s) k) H' K) (λk=>Ss (J1 P nt rd) T nt A Z ops rest (FY o.dst (.v (.tup [])) k) H K)->
   if Region.wanted o (yielded ops a.tmps)then o.wpIn (Fw r) 0 P a w (wpOpsIn (Fw r) 0 P ops Q (List.range' (i+1) m)) Q else(∀f,o.about P w a.eval=some f->(Fw r).fn f)/\wpOpsIn (Fw r) 0 P ops Q (List.range' (i+1) m) (a.put o.dst undef) w:=by
   intro rest hd b h;subst b;have⟨k,e,h⟩:=Hm (df:=df) 4 l h
   have ef:J7 ⟨k,df⟩=J7 ⟨l,df⟩:=by simp_all[J7]
   have ad:FR nt g w a (J7 ⟨k,df⟩):=ef▸B
   rcases h with⟨S,G,u,hG,aw,h⟩|⟨S,h⟩
   ·have hw:Region.wanted o (yielded ops a.tmps)=true:=AL B.s S;rw[A2 hw];refine ZH (A:=A) C ad hd (TP (df:=df) hT hG h) λg' w' a' v H' s' am N ⟨sl,j,hK⟩=>?_;subst j
    rw[<-aw sl,<-R8]at N
    exact ih m AY (i+1) _ _ AY hK g' w' a' (s.trans s') am N
   have hw:Region.wanted o (yielded ops a.tmps)=false:=AL B.s S;rw[A1 (by rw[hw];simp)];refine⟨λ_ _=>trivial,?_⟩;have ai:FR nt g w (a.put o.dst undef) ((J7 ⟨k,df⟩).put o.dst (.tup [])):=ad.put (HV hd) (VR.und _ _)
   rcases h with h|⟨G,d,ax,ht,W,h⟩
   ·refine ih m AY (i+1) _ _ AY h g w _ s C ?_;rw[R8];exact ai
   have⟨sl,h⟩:=Af9 hT ht h;refine ih m AY (i+1) _ _ AY h g w _ s C ?_;rw[R8]
   simp_all[Zz]
  split at h
  ·rename_i b;refine V hd b.symm ?_
   have e:(λ(G:Up (Nat×Bool)) (k:Fl) (u:Sl->Sl)=>JF (J1 P nt rd) T A G o k H λs H'=>Ss (J1 P nt rd) T nt A Z ops [] (FY o.dst (u s) k) H' K)=λG k u=>JF (J1 P nt rd) T A G o k H λs H'=>K (FY o.dst (u s) k) H':=by
    funext G k u
    have:(λs H'=>Ss (J1 P nt rd) T nt A Z ops [] (FY o.dst (u s) k) H' K)=λs H'=>K (FY o.dst (u s) k) H':=by
     funext s H';unfold Ss;rfl
    rw[this]
   have e2:(λk=>Ss (J1 P nt rd) T nt A Z ops [] (FY o.dst (.v (.tup [])) k) H K)=λk=>K (FY o.dst (.v (.tup [])) k) H:=by
    funext k;unfold Ss;rfl
   rw[e,e2];exact h
  rename_i o2 ac b
  split at h
  ·rename_i d t t2 x hp;have⟨p1,p2,p3,p4,p5,p6,p7⟩:=AL5 hp
   have hw:∀y,Region.wanted o y=true:=λy=>by simp[Region.wanted,p3]
   rw[A2 (hw _)]
   split at h
   ·rename_i cs n
    unfold BT6 at n
    split at n
    ·rename_i I I2 hI aj
     split at n
     ·rename_i z Y
      have ez:=(I7 hT hI).ze;rw[Y]at ez;simp only[Eh]at ez
      split at n
      ·rename_i hc;have⟨c1,c2,c3,c4⟩:=hc;cases n
       have ag:i+1<ops.toList.length:=by
        grind
       have ab:i+1<ops.size:=AY
       have p:=P1 ag
       rw[b,Pd]at p
       have aq:ops[i+1]=o2:=TQ
       have au:ac=ops.toList.drop (i+2):=TQ
       rw[au]at h
       obtain⟨m',rfl⟩:∃m',m=m'+1:=⟨m-1,AY⟩
       refine ZH (A:=A) (K:=λv H'=>∃id,v= .ref id 0/\H id=none/\H'=upd H id (some (.cells z.cells))) C B hd (by
        simp only[Lv,p1]
        exact .inl ⟨z,ez,c1,λid aa=>⟨_,.refl _,id,rfl,aa,rfl⟩⟩) λg1 w1 a1 v J s1 O D ak=>?_
       obtain⟨id,rfl,aa,rfl⟩:=ak;simp only[Ip,wpOpsIn,DX ab,aq];rw[A2 (by simp[Region.wanted,p6])]
       have ao:ev ((J7 ⟨l,df⟩).put o.dst (.ref id 0)) x=(Y4 [] l x).V:=by
        rw[HS (df:=df) OF.nil,p2]
        cases x with
        |tmp t=>
         have:t≠d:=λe=>p7 (by rw[e])
         grind[ev,Fr.put]
        |const _=>rfl
        |global _=>rfl
        |func _=>rfl
       have af:ev ((J7 ⟨l,df⟩).put o.dst (.ref id 0)) (.tmp d)= .ref id 0:=by rw[p2];simp[ev,Fr.put]
       refine ZH (A:=A) (K:=λv H'=>H'=upd (upd H id (some (.cells z.cells))) id (some (.cells (Z7 z.cells 0 (Y4 [] l x).V.cells)))) O D (by rw[p5];rfl) (by
        simp only[Lv,p4];refine .inl ⟨_,_,.refl _,?_,rfl⟩;simp only[Rx,(I7 hT aj).sz,ao,af,E7]
        rw[A2 ⟨c2,c3,AY⟩]) λg2 w2 a2 v2 H2 s2 an N al=>?_
       subst al;have⟨g3,s3,ae,av⟩:=an.freeze (E7 _ _ _)
       rw[BA,Ap3 _ _ _ aa]at ae
       refine ih m' AY (i+2) _ H AY h g3 w2 a2 (((s.trans s1).trans s2).trans s3) ae ?_
       rw[p5,p2]at N
       have M:=N.mono s3;have e1:=R8 (df:=df) l (some d) (.v (.eref (Z7 z.cells 0 (Y4 [] l x).V.cells) 0))
       rw[show FY (some d) (.v (.eref (Z7 z.cells 0 (Y4 [] l x).V.cells) 0)) l=(d,.v (.eref (Z7 z.cells 0 (Y4 [] l x).V.cells) 0))::l from rfl]at e1
       rw[e1];refine⟨M.size,λq=>?_,M.df⟩;have c:=N.s q;have ar:=M.s q
       simp only[Fr.put]at c ar ⊢
       split
       ·rename_i e;rw[A2 e]at c;exact av _ _ c
       simp_all
      cases n
     cases n
    cases n
   grind
  simp_all
end
end Go.Ab
namespace Go.Ab
open Go.RowKit
variable [O7]
variable{A:Nat}{c:SI HO}{f:Nat->HO}
def VB (c:SI HO)(A sz:Nat)(f:Nat->HO):SI Value:=(c.toList.take A++(List.range sz).map f++c.toList.drop (A+sz)).toArray
def XW{sz:Nat}(h:A+sz<=c.size):(VB c A sz f).size=c.size:=by simp[VB];omega
def BN3{sz:Nat}{f':Nat->HO}(h:A+sz<=c.size):VB (VB c A sz f) A sz f'=VB c A sz f':=by
 have t:(VB c A sz f).toList.take A=c.toList.take A:=by
  simp only[VB,E1];rw[Me Ts,List.take_take];simp
 have e2:(VB c A sz f).toList.drop (A+sz)=c.toList.drop (A+sz):=by
  simp only[VB];rw[List.drop_append_of_le_length Ts];rw[Va Ts];simp
 unfold VB at t e2 ⊢
 rw[t,e2]
def AY5{sz:Nat}(h:A+sz<=c.size){k:Nat}(S:k<c.size):(VB c A sz f)[k]? =if A<=k/\k<A+sz then some (f (k-A))else c[k]? :=by
 have:=(AY3 (vs:=(List.range sz).map f) (m:=sz) (A:=A) (c:=c) OC h rfl).2 k S;rw[show VB c A sz f=(c.toList.take A++(List.range sz).map f++c.toList.drop (A+sz)).toArray from rfl,this]
 split
 ·rename_i d;rw[Y1,Gx AY];rfl
 rfl
def isB (w:Is)(b:Nat)(c c':SI HO):(w.setRow b c).setRow b c'=w.setRow b c':=by
 simp only[World.setRow,LM,P7];apply Jd
 ·simp
 intro i O a;simp only[Pc]
 split
 ·cases w.heap[i]'(by simpa using O)<;>rfl
 rfl
def Ar8(w:Is){b b':Nat}(c c':SI HO)(h:b≠b'):(w.setRow b c).setRow b' c'=(w.setRow b' c').setRow b c:=by
 simp only[World.setRow,LM,P7];apply Jd
 ·simp
 intro i O a;simp only[Pc]
 by_cases t:b=i<;>by_cases e2:b'=i
 ·omega
 ·simp[t,e2]
 ·simp[t,e2]
 simp[t,e2]
def Am9 (w:Is)(C a:SI HO)(e:Do):(w.alloc (.cells C e)).setRow w.heap.size a=w.alloc (.cells a e):=by
 simp only[World.alloc,World.setRow,LM,P7];apply Jd
 ·simp
 intro i O b;simp only[Pc,Array.getElem_push]
 have:i<w.heap.size+1:=by simpa using b
 by_cases e:w.heap.size=i
 ·subst e;simp
 rw[A1 e]
 have:i<w.heap.size:=AY
 simp[this]
section
variable {P:Program}{H:A5}
def tri{w:Is}{b sz:Nat}{T:Do}(m:w.heap[b]? =some (.cells c T (0,0)))(h:A+sz<=c.size)(q:∀j,j<sz->(f j).oneCell'=true):
 (storeCells ⟨b,A,none⟩ ((List.range sz).map f)).run P w= .ok () (w.setRow b (VB c A sz f)):=by
 have:=run_storeCells_at P b A T ((List.range sz).map f) 0 c w m Ts (by
  intro v a;obtain⟨k,S,rfl⟩:=List.mem_map.1 a
  exact q k (List.mem_range.1 S))
 simpa[VB]using this
def AP9{g:Gh}{w:Is}(hR:Rl g H w){sT yT e ty:Do}{sz by_:Nat}{z:V}{xs:Up V}{tl:G5}{vs:HO}(bq:VR g w vs (.sl xs tl))(R:Ic P sT=some e)(bt:(Ic P yT).isSome=true)(a8:Hk P e=some sz)(b1:0<sz)(ao:UI P e=some by_)(b4:0<by_)
 (Y:Lr P e=some z)(bu:z.one=true)(bv:z.cells.length=sz)(hA:Kn H tl)(a2:xs.all (λx=>x.cells.length==sz)=true)(an:(xs.length+1)*by_<=140737488355328):
 ∃ (b off G:Nat) (W:(Nat->HO)->Is) (C:(Nat->HO)->SI HO) (T:Do),
  (∀(y0:V) (aa:G5) (vy:HO),VR g w vy (.sl [y0] aa)->y0.cells.length=sz->∃f0,(∀j,j<sz->(f0 j).oneCell'=true)/\(Builtin.append_ #[sT,yT] ty #[vs,vy]).run P w= .ok (.slice (some ⟨b,off,none⟩) (xs.length+1) G) (W f0))/\
  xs.length+1<=G/\
  (∀f,(W f).heap[b]? =some (.cells (C f) T (0,0))/\off+xs.length*sz+sz<=(C f).size)/\
  (∀f f',(W f).setRow b (VB (C f) (off+xs.length*sz) sz f')=W f')/\
  (∀x,x≠b->x<w.heap.size->∀f,(W f).heap[x]? =w.heap[x]?)/\
  (∀id x,g.at (H5 H tl) id=some x->x≠b)/\
  (∀(u:V) (f:Nat->HO),u.cells.length=sz->(∀j,j<sz->(f j).oneCell'=true/\VR g w (f j) (u.cells.getD j .bad))->
   ∃g' t,Al g w g' (W f)/\H5 H tl t=none/\Rl g' (upd (H5 H tl) t (some .spare)) (W f)/\VR g' (W f) (.slice (some ⟨b,off,none⟩) (xs.length+1) G) (.sl (xs++[u]) (.tok t))):=by
 have⟨base,cap,fs,es,b0,a5,bo,bj⟩:=GZ (P:=P) bq a2;have hu:=U7 R;have⟨e',bc⟩:=Option.isSome_iff_exists.1 bt;have bb:=U7 bc;have⟨zv,ez,bz⟩:=Fu Y
 have bw:VR g w zv z:=by rw[ez];exact GL g w zv
 have bx:zv.cells.size=sz:=by rw[(bw.cells bu).1,bv]
 have ad:∀w,(typeInfo e).run P w= .ok ((P.info? e).getD default) w/\((P.info? e).getD default).bytes=by_:=by
  intro w
  unfold UI at ao
  cases U:P.info? e with
  |none=>simp[U]at ao
  |some i=>simp[U]at ao;simp[typeInfo,U,ao]
 have bi:∀w,(typeInfo e).run P w= .ok ((P.info? e).getD default) w:=λw=>(ad w).1;have bh:=(ad w).2;have B:Rl g (H5 H tl) w:=hR.less λid b hb=>HW hb;have ay:=JC a2
 have ae:∀(u:V),u.cells.length=sz->∀i,i<xs.length+1->((xs++[u]).getD i .bad).cells.length=sz:=λu hv i U=>by
  rw[JD];split
  ·exact ay i Xb
  rw[show i-xs.length=0 by omega];exact hv
 have ar:∀(y0:V) (aa:G5) (vy:HO),VR g w vy (.sl [y0] aa)->y0.cells.length=sz->∃y ab f0,vy= .slice y 1 ab/\(∀j,j<sz->(f0 j).oneCell'=true)/\
  ∀w':Is,(∀b o,w'.cell? ⟨b,o,none⟩=w.cell? ⟨b,o,none⟩)->(Builtin.firstCells sz 1 vy).run P w'= .ok ((List.range sz).map f0).toArray w':=λy0 aa vy aj al=>by
  have⟨y,ab,fy,ey,_,bl,ai,_⟩:=GZ (P:=P) (sz:=sz) aj (by simp[al]);refine⟨y,ab,λj=>fy 0 j,ey,λj n=>(bl 0 j OC n).1,λw' ak=>?_⟩;have:=ai w' ak
  simp only[Mb,Z2]at this
  rw[this];refine J8 (λl:Up HO=>Result.ok l.toArray w') (BW λk S=>?_);have a6:=List.mem_range.1 S;rw[Nat.div_eq_of_lt a6,OQ a6]
 have s:∀(u:V) (f:Nat->HO),(∀j,j<sz->(f j).oneCell'=true/\VR g w (f j) (u.cells.getD j .bad))->∀(g':Gh) (w':Is),Al g w g' w'->∀i j,i<xs.length+1->j<sz->(if i<xs.length then fs i j else f j).oneCell'=true/\
  VR g' w' (if i<xs.length then fs i j else f j) (((xs++[u]).getD i .bad).cells.getD j .bad):=by
  intro u f hf g' w' st i j U n;rw[JD]
  split
  ·rename_i af;exact⟨(a5 i j af n).1,(a5 i j af n).2.mono st⟩
  rw[show i-xs.length=0 by omega];exact⟨(hf j n).1,(hf j n).2.mono st⟩
 have a7:¬(IntKind.i64.max<((xs.length+1:Nat):Int)/\(False\/by_=0)):=by
  rintro⟨_,hF|hF⟩
  ·exact hF
  omega
 by_cases d:xs.length+1<=cap
 ·
  rcases bj with⟨br,a3|a3,_⟩|⟨b,q,ax,ac,_,sz',a9,az⟩
  ·subst br;simp at d;omega
  ·subst a3;exact hA.elim
  cases tl with
  |nil=>exact az.elim
  |ro=>exact hA.elim
  |full=>simp only[JW]at az;omega
  | tok t=>
   have⟨bm,lim,ba,b5⟩:=az;have:=a9 bm;subst this;have a0:H t=some .spare:=hA;have⟨b2,e2,b3,c,T,k1,k2,k3,k4,k5,k6⟩:=hR.blk t _ a0
   rw[ba]at k1
   simp only[E5,LL]at k1
   obtain⟨rfl,rfl,rfl⟩:=k1;have bd:(xs.length+1)*sz'<=cap*sz':=J0 _ d
   have a1:(xs.length+1)*sz'=xs.length*sz'+sz':=by rw[F9,Z2]
   have m:q+xs.length*sz'+sz'<=c.size:=AY
   have p:∀id x,g.at (H5 H (.tok t)) id=some x->x≠b:=by
    rintro id x I rfl
    have bg:g.at H t=some x:=by simp[Gh.at,a0,ba]
    by_cases ah:id=t
    ·subst ah;simp[Gh.at,H5,E7]at I
    have:g.at H id=some x:=by simpa only[Gh.at,H5,C8 _ _ ah]using I
    exact ah (hR.inj _ _ _ this bg)
   refine⟨b,q,cap,λf=>w.setRow b (VB c (q+xs.length*sz') sz' f),λf=>VB c (q+xs.length*sz') sz' f,T,λy0 aa vy aj al=>?_,d,λf=>?_,λf f'=>?_,λx M _ f=>S3 w b _ x M,p,λu f hv hf=>?_⟩
   ·have⟨y,ab,f0,ey,ap,ai⟩:=ar y0 aa vy aj al;refine⟨f0,ap,?_⟩;have bp:=tri (P:=P) (f:=f0) k3 m ap;have J:=ai w λ_ _=>rfl
    rw[ey]at J ⊢
    rw[es,ax]
    simp only[Builtin.append_,B9,run_underlying hu,B5,T5 a8,run_underlying bb,C7,Builtin.lenOf,AD,Z6,
     CZ,DV,D4,B6,CS,B4,A2 d,J,Bz,bp]
   ·exact⟨setRow_heap w b c _ T (0,0) k3,by rw[XW m];exact m⟩
   ·rw[isB,BN3 m]
   dsimp only
   have ag:∀k,k<c.size->(VB c (q+xs.length*sz') sz' f)[k]? =if q+xs.length*sz'<=k/\k<q+xs.length*sz'+sz' then some (f (k-(q+xs.length*sz')))else c[k]? :=λk S=>AY5 m S
   generalize hC:VB c (q+xs.length*sz') sz' f=C at ag
   have am:C.size=c.size:=by rw[<-hC];exact XW m
   have a:∀x o,g.fz x o->(w.setRow b C).cell? ⟨x,o,none⟩=w.cell? ⟨x,o,none⟩:=by
    intro x o hf
    by_cases M:x=b
    ·subst M
     have X:o<q+xs.length*sz':=by
      rcases R3 o (q+xs.length*sz')with h|h
      ·exact h
      exact absurd hf (k6 o h)
     have ak:(w.setRow x C).heap[x]? =some (.cells C T (0,0)):=setRow_heap w x c C T (0,0) k3;simp only[World.cell?,ak,k3,GV,D4,B6];rw[ag o AY,A1 AY]
    exact EG w b C x o M
   have D:Below g.base w (w.setRow b C):=Kw w b C k2
   have aw:=Rl.tok (e0:=q+xs.length*sz') (e:=q+(xs.length+1)*sz') (lim:=c.size) B k2 (setRow_heap w b c C T (0,0) k3) am AY k6 AY a D
    (λx M _=>S3 w b C x M) (λid I=>p id _ I rfl)
   have v:=Al.tok B b (q+xs.length*sz') (q+(xs.length+1)*sz') c.size a D;refine⟨_,g.nx,v,(B.nxt _ (C6 _)).2.2,aw,?_⟩
   refine .sl (sz:=sz') (λi j=>if i<xs.length then fs i j else f j) OC d (λi U=>ae u hv i U) (λi j U n=>?_) (λi j U n=>?_)
    (λi j U n=>(s u f hf _ _ v i j U n).1) (λi j U n=>(s u f hf _ _ v i j U n).2) ?_
   ·by_cases N:i<xs.length
    ·exact .inl (ac i j N n).1
    have h2:=Gi U n;have h1:xs.length*sz'<=i*sz':=J0 _ AY;exact .inr ⟨rfl,AY,AY⟩
   ·have h2:=Gi U n;have ak:(w.setRow b C).heap[b]? =some (.cells C T (0,0)):=setRow_heap w b c C T (0,0) k3
    by_cases N:i<xs.length
    ·rw[A2 N];exact(a b _ (ac i j N n).1).trans (ac i j N n).2
    rw[A1 N]
    have h1:i=xs.length:=AY
    subst h1;simp only[World.cell?,ak,GV,D4,B6];rw[ag _ AY,A2 AY,show q+xs.length*sz'+j-(q+xs.length*sz')=j by omega]
   refine⟨AY,c.size,?_,AY⟩;simp[Gh.tok]
 have bn:¬(2 ^ 48<Builtin.nextslicecap (xs.length+1) cap*by_):=by
  have:=growslice_fits (LS d) an;omega
 have a4:∀b o,w.drew.cell? ⟨b,o,none⟩=w.cell? ⟨b,o,none⟩:=λ_ _=>rfl;generalize hG:grownCap w (xs.length+1) cap e=G
 have au:xs.length+1<=G:=by rw[<-hG];exact grownCap_ge w _ _ _
 have be:(xs.length+1)*sz<=G*sz:=J0 _ au
 have a1:(xs.length+1)*sz=xs.length*sz+sz:=by rw[F9,Z2]
 generalize hO:((List.range (xs.length*sz)).map λk=>fs (k / sz) (k % sz))=O at *
 have av:O.length=xs.length*sz:=by rw[<-hO];simp
 generalize hZ:Builtin.zeroCells zv.cells (G-(xs.length+1))=Z at *
 have bf:Z.size=G*sz-(xs.length+1)*sz:=by rw[<-hZ,size_zeroCells,bx,DM]
 have am:∀f:Nat->HO,(O.toArray++((List.range sz).map f).toArray++Z).size=G*sz:=λf=>by
  simp only[OW,Jp,H9,CY,av,bf];omega
 have ag:∀(f:Nat->HO) k,k<(xs.length+1)*sz->(O.toArray++((List.range sz).map f).toArray++Z)[k]? =some (if k<xs.length*sz then fs (k / sz) (k % sz)else f (k-xs.length*sz)):=by
  intro f k S;rw[GX,A2 (by simp[av];omega),GX];simp only[Jp,av,Z6,Y1]
  split
  ·rw[<-hO,Y1,Gx Xb];rfl
  rw[Gx AY];rfl
 refine⟨w.heap.size,0,G,λf=>w.drew.alloc (.cells (O.toArray++((List.range sz).map f).toArray++Z) e),λf=>O.toArray++((List.range sz).map f).toArray++Z,e,λy0 aa vy aj al=>?_,au,λf=>⟨DA (w:=w.drew),by rw[am];omega⟩,λf f'=>?_,
  λx M af f=>heap_alloc (w:=w.drew) af,λid x I e=>absurd (e▸B.lt I) (Y0 _),λu f hv hf=>?_⟩
 ·have⟨y,ab,f0,ey,ap,ai⟩:=ar y0 aa vy aj al;refine⟨f0,ap,?_⟩;have QW:(Question.appendCap (xs.length+1) cap e).cut (w.tape w.drawn (.appendCap (xs.length+1) cap e))=G:=hG;have hf:(Question.appendCap (xs.length+1) cap e).forced=false:=rfl;have aq:=bo w.drew a4;have J:=ai w.drew a4
  rw[es]at aq ⊢;rw[ey]at J ⊢
  simp only[Builtin.append_,B9,run_underlying hu,B5,T5 a8,run_underlying bb,C7,Builtin.lenOf,AD,bi,bh,Z6,
   CZ,DV,D4,B6,CS,B4,gt_iff_lt,false_or,A1 d,A1 bn,run_choose,hf,QW,LK,run_askRoom,aq,J,bz,newRow,run_newObj,
   GR,LN,hO,hZ]
  rw[A1 (by simpa using a7)]
 ·rw[show w.heap.size=w.drew.heap.size from rfl,Am9]
  congr 2
  apply Array.ext';simp only[VB,P0,Array.toList_append,List.toList_toArray,E1];rw[Me AY,W4 AY,show xs.length*sz+sz=O.length+sz by omega,<-Jh,List.drop_left]
  congr 1
  congr 1
  exact List.drop_left' OC
 have a:∀x o,g.fz x o->(w.drew.alloc (.cells (O.toArray++((List.range sz).map f).toArray++Z) e)).cell? ⟨x,o,none⟩=w.cell? ⟨x,o,none⟩:=λx o hf=>Fo (w:=w.drew) (hR.fz_lt hf);have D:Below g.base w (w.drew.alloc (.cells (O.toArray++((List.range sz).map f).toArray++Z) e)):=(AC _ _).drew.alloc hR.bnd _
 have p:∀id,g.at (H5 H tl) id≠some w.heap.size:=λid I=>absurd (B.lt I) (Y0 _)
 have aw:=Rl.tok (e0:=0) (e:=(xs.length+1)*sz) (lim:=G*sz) B hR.bnd (DA (w:=w.drew) (o:=.cells (O.toArray++((List.range sz).map f).toArray++Z) e)) (am f) be (λo _ hf=>absurd (hR.fz_lt hf) (Y0 _)) (BK _) a D
  (λx M af=>heap_alloc (w:=w.drew) af) p
 have v:=Al.tok B w.heap.size 0 ((xs.length+1)*sz) (G*sz) a D;refine⟨_,g.nx,v,(B.nxt _ (C6 _)).2.2,aw,?_⟩
 refine .sl (sz:=sz) (λi j=>if i<xs.length then fs i j else f j) OC au (λi U=>ae u hv i U) (λi j U n=>.inr ⟨rfl,BK _,by have:=Gi U n;omega⟩) (λi j U n=>?_)
  (λi j U n=>(s u f hf _ _ v i j U n).1) (λi j U n=>(s u f hf _ _ v i j U n).2) ?_
 ·have h2:=Gi U n;rw[show(⟨w.heap.size,0+i*sz+j,none⟩:Addr)=⟨w.drew.heap.size,i*sz+j,none⟩ by simp];rw[Tz (w:=w.drew),ag f _ h2]
  congr 1
  by_cases N:i<xs.length
  ·have h3:=Gi N n;rw[A2 h3,A2 N,(W9 n).1,(W9 n).2]
  have h1:i=xs.length:=AY
  subst h1;rw[A1 AY,A1 N,show xs.length*sz+j-xs.length*sz=j by omega]
 refine⟨AY,G*sz,?_,OC⟩;simp[Gh.tok]
end
end Go.Ab
namespace Go.Ab
open Go.RowKit
variable [O7][Ar]
variable{Q:Exit->Fr->A5->Prop}
section
variable {P:Program}{nt:Nat}{ops:Array Oper}{H0:A5}
def No (A:Nat->Bool):Up Nat->Pv->Fr->A5->(Fr->A5->Prop)->Prop
 |[],_,fr,H,K=>K fr H
 |d::ds,pv,fr,H,K=>
  match pv (.inl d)with
  |some cs=>if A d then∀id,H id=none->No A ds pv (fr.put (some d) (.ref id 0)) (upd H id (some (.cells cs))) K else No A ds pv (fr.put (some d) (.eref cs 0)) H K
  |none=>False
def XJ {A:Nat->Bool} {w:Is} {a:Act} {i:Pk->Nat} {pv:Pv} {K:Fr->A5->Prop} (v:∀d k cs cs',pv d=some cs->pv k=some cs'->d.var=true->k.var=true->i d=i k->d=k):
 ∀(ds:Up Nat) (fr:Fr) (g:Gh) (H J:A5),Rl g H w->ds.Nodup->(∀d∈ds,∀cs,pv (.inl d)=some cs->H (i (.inl d))=some (.cells cs)/\∃b,g.mu (i (.inl d))=some b/\a.tmps.getD d undef= .pointer (some ⟨b,0,none⟩))->
  (∀id b,J id=some b->H id=some b)->(∀d∈ds,∀cs,pv (.inl d)=some cs->J (i (.inl d))=none)->FR nt g w a fr->No A ds pv fr J K->∃g' p H',Al g w g' w/\Rl g' H' w/\FR nt g' w a p/\K p H'
 |[],fr,g,H,J,C,_,_,B,_,o,h=>⟨g,fr,J,Al.refl _ _,C.less B,o,h⟩
 | d::ds,fr,g,H,J,C,D,m,B,q,o,h=>by
  simp only[No]at h
  have y:=List.nodup_cons.1 D
  split at h
  ·rename_i cs V;have⟨U,b,G,I⟩:=m d OC cs V
   split at h
   ·refine XJ v ds _ g H _ C y.2 (λk n=>m k (by simp[n])) (λid bk W=>?_) (λk n cs' f=>?_) ?_ (h (i (.inl d)) (q d OC cs V))
    ·grind[upd]
    ·grind[upd,Pk.var]
    refine⟨o.size,λt=>?_,o.df⟩;simp only[Fr.put]
    split
    ·rename_i e;subst e;rw[I];exact .ref G
    exact o.s t
   have⟨g',s,z,j⟩:=C.freeze U;have N:=o.mono s
   have O:∀k∈ds,∀cs',pv (.inl k)=some cs'->(upd H (i (.inl d)) none) (i (.inl k))=some (.cells cs')/\∃b,g'.mu (i (.inl k))=some b/\a.tmps.getD k undef= .pointer (some ⟨b,0,none⟩):=λk n cs' f=>by
    have⟨X,b',Y,q3⟩:=m k (by simp[n]) cs' f;have c:i (.inl k)≠i (.inl d):=λe=>absurd (v _ _ _ _ f V rfl rfl e) λx=>y.1 TQ;exact⟨by rw[C8 _ _ c];exact X,b',s.mu _ _ Y,q3⟩
   have e2:∀id bk,J id=some bk->(upd H (i (.inl d)) none) id=some bk:=λid bk W=>by
    have c:id≠i (.inl d):=λe=>TQ
    rw[C8 _ _ c];grind
   have R:FR nt g' w a (fr.put (some d) (.eref cs 0)):=by
    refine⟨N.size,λt=>?_,N.df⟩;simp only[Fr.put]
    split
    ·rename_i e;subst e;rw[I];exact j _ _ (.ref G)
    exact N.s t
   have⟨S,u,M,s2,r⟩:=XJ v ds _ g' _ J z y.2 O e2 (λk n=>q k (by simp[n])) R h;exact⟨S,u,M,s.trans s2,r⟩
  grind
abbrev Tk:=Up (Nat×Up V)
def pvW (W:Tk)(ex:OS G5):Pv
 | .inl _=>none
 | .inr id=>(W.find? λp=>p.1==id).map (·.2)
 | .tk _=>none
 | .ex=>ex.map λa=>[.sl [] a]
def MW (H:A5):OS G5->A5
 |some a=>H5 H a
 |none=>H
def NP (dx:OS Nat)(pv:Pv)(fr:Fr)(H:A5)(K:Fr->A5->Prop):Prop:=
 match dx with
 |none=>K fr H
 |some d=>∃xs,(pv (.tk d)).isSome=true/\fr.s d= .sl xs .ro/\(∀tl,tl= .nil\/tl= .full->K (fr.put (some d) (.sl xs tl)) H)/\∀t,H t=none->K (fr.put (some d) (.sl xs (.tok t))) (upd H t (some .spare))
theorem Sd{H:A5}{ex:OS G5}{id:Nat}{b:FV}(h:MW H ex id=some b):H id=some b/\∀t,ex=some (.tok t)->id≠t:=by
 cases ex with
 |none=>simp_all[MW]
 | some a=>
  cases a with
  |tok t=>
   simp_all[MW,H5,upd]
  |_=>exact⟨h,λt o=>by cases o⟩
def IQ (H:A5):Tk->A5
 |[]=>H
 |(id,_)::W=>upd (IQ H W) id none
def Ac7:Tk->Pv->A5->(A5->Prop)->Prop
 |[],_,H,K=>K H
 |(id,_)::W,pv,H,K=>Ac7 W pv H λH'=>match pv (.inr id)with|some cs=>K (upd H' id (some (.cells cs)))|none=>False
theorem Pt {H:A5}:∀{W:Tk} {id:Nat} {b:FV},IQ H W id=some b->H id=some b/\∀p∈W,p.1≠id
 |[],id,b,h=>⟨h,λp f=>by simp at f⟩
 |(i,c)::W,id,b,h=>by
  simp only[IQ]at h
  by_cases e:id=i
  ·simp_all[upd]
  rw[C8 _ _ e]at h
  have⟨O,a⟩:=Pt h
  grind
def c135 {H:A5}:∀{W:Tk} {p:Nat×Up V},p∈W->IQ H W p.1=none
 |(i,c)::W,p,h=>by
  simp only[IQ]
  by_cases e:p.1=i
  ·rw[e,E7]
  rw[C8 _ _ e]
  rcases List.mem_cons.1 h with rfl|h
  ·omega
  exact c135 h
def Az2 {a:A5} {pv:Pv} (e:∀id cs,pv (.inr id)=some cs->a id=some (.cells cs)):∀(W:Tk) (H:A5) (K:A5->Prop),(∀id b,H id=some b->a id=some b)->Ac7 W pv H K->∃H',(∀id b,H' id=some b->a id=some b)/\(∀id,H' id≠none->H id≠none\/∃cs,pv (.inr id)=some cs)/\K H'
 |[],H,K,B,h=>⟨H,B,λid k=>.inl k,h⟩
 |(i,c)::W,H,K,B,h=>by
  simp only[Ac7]at h
  have⟨H',O,n,v⟩:=Az2 e W H _ B h
  grind[upd]
end
def Og (P:If)(nt:Nat)(rd:OS Nat)(ops:SI Oper)(fr:Fr)(H:A5)(Q:Exit->Fr->A5->Prop):Prop:=
 ∀r g w a,Bn2 g rd r->Rl g H w->FR nt g w a fr->wpAnyIn (Fw r) 0 P .any ops (End nt g w Q) ops.size (Array.replicate ops.size false) a w.drew
def AB.of_any{P:If}{nt id:Nat}{rd:OS Nat}{ops:SI Oper}{fr:Fr}{H:A5}(p:P.follows .mixedOrders=true)(h:Og P nt rd ops fr H Q):AB P nt rd (.region id ops true) fr H Q:=
 λr g w a e C b=>wpIn_region_any p (h r g w a e C b)
section
variable {P:Program}{nt:Nat}{ops:Array Oper}{H0:A5}
def Og.drawF{A:Zb}{rd:OS Nat}{k:Nat}{al:Up Nat}{W:Tk}{ex:OS G5}{dx:OS Nat}{fr:Fr}(a0:Yz ops k=true)(ay:al.Nodup)
 (hX:∀τ,ex=some τ->Kn H0 τ)(hW:∀p∈W,MW H0 ex p.1=some (.cells p.2))
 (h:Nz P nt ops (IQ (MW H0 ex) W) (ops.toList.take k) fr (pvW W ex) λN pv=>Ac7 W pv (IQ (MW H0 ex) W) λJ=>NP dx pv N J λx H2=>No A al pv x H2 λv H=>MN P A nt ops (ops.toList.drop k) v H (Q .normal)):Og P nt rd ops fr H0 Q:=by
 intro r g w a _ C hF;have⟨S,G⟩:=Bl9 a0;have sd:Al g w g w.drew:=⟨λ_ _ e=>e,λ_ _ e=>e,λ_ _ e=>e,rfl,λ_ _ _=>rfl,(AC _ _).drew,λ_ _ _=>rfl,GN _⟩
 have av:Rl g H0 w.drew:=by
  refine⟨λid b Y=>(C.blk id b Y).mono Y sd λ_ _=>⟨rfl,λ_ X=>X⟩,C.inj,C.frz,C.nxt,C.bnd,λn=>(C.glb n).mono sd⟩
 have hI:AQ4 nt (IQ (MW H0 ex) W) g w.drew fr (pvW W ex) g w.drew a:=by
  refine⟨H0,λk=>match k with| .inl _=>0| .inr n=>n| .tk _=>0| .ex=>0,Al.refl _ _,av,hF.mono sd,λid b Y=>(Sd (Pt Y).1).1,λd cs h hv=>?_,λd d' cs cs' h h' hv a4 e=>?_,λ_=>none,λd cs h=>(by cases h),λd d' cs cs' t h=>(by cases h),λcs h=>?_⟩
  ·cases d with
   |inl d=>cases h
   | inr n=>
    simp only[pvW]at h
    cases hf:W.find? λp=>p.1==n with
    |none=>rw[hf]at h;cases h
    |some p=>
     rw[hf]at h
     simp only[K1,E5]at h
     have f:=Pp hf
     have hn:p.1=n:=by have:=List.find?_some hf;simp_all
     subst h;subst hn;exact⟨(Sd (hW p f)).1,c135 f,rfl⟩
   |tk d=>cases h
   |ex=>cases hv
  ·cases d with
   |inl d=>cases h
   |tk d=>cases h
   |ex=>cases hv
   |inr n=>
    cases d' with
    |inl d'=>cases h'
    |tk d'=>cases h'
    |ex=>cases a4
    |inr n'=>simp_all
  cases M:ex with
  |none=>rw[M]at h;cases h
  | some τ=>
   rw[M]at h
   cases h;refine⟨τ,rfl,?_⟩;have hA:=hX τ M
   cases τ with
   |nil=>simp_all
   |full=>simp_all
   |ro=>exact hA.elim
   |tok t=>
    refine .inr ⟨t,rfl,hA,?_,λd cs' h=>by cases h⟩
    cases hn:IQ (MW H0 (some (.tok t))) W t with
    |none=>rfl
    |some b=>grind[Sd,Pt]
 have ad:(List.range k).map (λi=>ops.getD i default)=ops.toList.take k:=by
  apply Jk
  ·simp;omega
  intro i O h2
  simp at O
  simp[Array.getD,show i<ops.size by omega]
 have Y:=YP (r:=r) (Q:=End nt g w Q) S (λi U=>⟨(G i U).1,λj z=>((G i U).2 j z).imp (λh=>h) .inl⟩) (K:=λN pv=>Ac7 W pv (IQ (MW H0 ex) W) λJ=>NP dx pv N J λx H2=>No A al pv x H2 λv H=>MN P A nt ops (ops.toList.drop k) v H (Q .normal)) (g0:=g) (w0:=w.drew)
  (λg' w' a' N pv R a1 B an hK=>?_) k (List.range k) (Array.replicate ops.size false) fr (pvW W ex) OC (UZ) (λi U=>Pw) OC (λi b U=>TQ) (λm j hm _=>by simp[Array.getD]at hm) (by rw[ad];exact h) g w.drew a hI
 ·rw[show k+(ops.size-k)=ops.size by omega]at Y
  exact Y
 have⟨H,y,s,aq,D,ac,u,aa,a6,a2,_⟩:=an
 have ax:∀n cs,pv (.inr n)=some cs->H n=some (.cells cs):=λn cs hn=>by
  have⟨k1,_,k3⟩:=u _ cs hn rfl;have k3:y (.inr n)=n:=k3
  rwa[k3]at k1
 have⟨J,g1,g2,hK⟩:=Az2 ax W _ _ ac hK
 have ab:∀d cs,pv (.inl d)=some cs->J (y (.inl d))=none:=λd cs hd=>by
  have⟨k1,k2,_⟩:=u _ cs hd rfl
  cases hn:J (y (.inl d))with
  |none=>rfl
  |some b=>
   exfalso
   rcases g2 _ (by rw[hn];simp)with h|⟨cs',f⟩
   ·exact h k2
   have k3:y (.inr (y (.inl d)))=y (.inl d):=(u _ cs' f rfl).2.2;cases aa _ _ _ _ f hd rfl rfl k3
 have ae:∃x V,FR nt g' w' a' x/\(∀id b,V id=some b->H id=some b)/\(∀d cs,pv (.inl d)=some cs->V (y (.inl d))=none)/\No A al pv x V λv H=>MN P A nt ops (ops.toList.drop k) v H (Q .normal):=by
  rcases dx with _|d
  ·exact⟨N,J,D,g1,ab,hK⟩
  simp only[NP]at hK
  have⟨xs,e1,e2,e3,e4⟩:=hK;have⟨c,hc⟩:=Option.isSome_iff_exists.1 e1;have⟨a7,tl,q1,q2,q3⟩:=a2 d c hc
  rw[e2]at q1
  cases q1
  have am:FR nt g' w' a' (N.put (some d) (.sl xs tl)):=by
   refine⟨D.size,λt=>?_,D.df⟩;simp only[Fr.put]
   split
   ·simp_all
   exact D.s t
  rcases q3 with⟨_,q⟩|⟨t,_,q,q4,q5⟩
  ·grind
  subst q
  have o:J t=none:=by
   grind
  refine⟨_,_,am,λid b Y=>?_,λd' cs aw=>?_,e4 t o⟩
  ·grind[E7,C8]
  have az:y (.inl d')≠t:=λe=>by
   have:=(u _ cs aw rfl).1
   rw[e,q4]at this;cases this
  rw[C8 _ _ az];simp_all
 have⟨x,V,ai,ah,I,hK⟩:=ae
 have⟨g3,af,H2,s2,ar,aj,ao⟩:=XJ aa al x g' H V aq ay (λd _ cs hd=>by
  have⟨k1,_,_,b,k4,k5⟩:=u _ cs hd rfl
  simp_all) ah (λd _ cs hd=>I d cs hd) ai hK
 exact WP (A:=A) (r:=r) (K:=Q .normal) (k:=k) (λi U=>⟨(G i U).1,λj z a5=>((G i U).2 j z).elim (λh=>h) λh=>absurd h.1 AY⟩) (g0:=g) (w0:=w) (λg3 w3 a3 ag H3 s3 au ak ap=>⟨g3,ag,H3,s3,au,ak,ap⟩) (ops.size-k) k R af H2 AY AY a1 B ao g3 w' a' ((sd.trans s).trans s2) ar aj
end
end Go.Ab
namespace Go.Ab
open Go.RowKit
variable [O7]
variable{Q:Exit->Act->Is->Prop}{S:Nat->Bool}{a:Act}
structure YY where
 sx:Operand
 sy:Operand
 nn:Operand
 zz:Operand
 sT:TypeId
 yT:TypeId
 t2:TypeId
 eT:TypeId
 t3:TypeId
 tA:Nat
 tI:Nat
 tp:Nat
structure Ce8 (ops:Array Oper) (nt k:Nat) (p:YY):Prop where
 lt:k+3<ops.size
 a1:(ops.getD k default).op= .call {callee:=.builtin .append,args:= #[p.sx,p.sy],argTypes:= #[p.sT,p.yT]}
 a2:(ops.getD k default).dst=some p.tA
 a3:(ops.getD k default).guard=none
 i1:(ops.getD (k+1) default).op= .indexAddr p.t2 (.tmp p.tA) p.nn
 i2:(ops.getD (k+1) default).dst=some p.tI
 i3:(ops.getD (k+1) default).guard=none
 s1:(ops.getD (k+2) default).op= .store p.eT (.tmp p.tI) p.zz
 s2:(ops.getD (k+2) default).dst=none
 s3:(ops.getD (k+2) default).guard=none
 u1:(ops.getD (k+3) default).op= .store p.t3 (.tmp p.tp) (.tmp p.tA)
 u2:(ops.getD (k+3) default).dst=none
 u3:(ops.getD (k+3) default).guard=none
 n1:p.tA≠p.tI
 n2:p.tp≠p.tA
 n3:p.tp≠p.tI
 n4:p.nn≠ .tmp p.tA
 n5:p.zz≠ .tmp p.tA
 n6:p.zz≠ .tmp p.tI
 n7:p.tA<nt
 n8:p.tI<nt
section
variable {P:Program}{nt:Nat}{ops:Array Oper}
structure LC (ops:Array Oper) (listed:Array Bool) (S:Nat->Bool):Prop where
 size:listed.size=ops.size
 get:∀i b,i<ops.size->listed.getD i b=S i
 cl:∀m j,listed.getD m false=true->HU (ops.getD m default) j=true->listed.getD j false=true
def LC.step{a:SI Bool}{i:Nat}(h:LC ops a S)(U:i∈Region.ready .any ops a):LC ops (a.setIfInBounds i true) λj=>j==i||S j:=by
 have⟨O,v,n⟩:=FC U;refine⟨by simpa using h.size,λj b z=>?_,λm j p z=>?_⟩
 ·rw[Qi (by rw[h.size];exact O),h.get j b z]
  by_cases e:j=i
  ·subst e;simp
  rw[A1 e];simp[e]
 rw[Qi (by rw[h.size];exact O)]at p ⊢
 by_cases k:j=i
 ·rw[A2 k]
 rw[A1 k]
 by_cases em:m=i
 ·subst em;exact n j z
 rw[A1 em]at p;exact h.cl m j p z
def LC.not{a:SI Bool}{i:Nat}(h:LC ops a S)(U:i∈Region.ready .any ops a):i<ops.size/\S i=false/\∀j,j<ops.size->Ou ops Ug i j=true->S j=true:=by
 have⟨O,b,e⟩:=FC U;refine⟨O,by rw[<-h.get i true O];exact b,λj z k=>?_⟩;rw[<-h.get j false z];exact Hv h.cl Ug i j e k
def LC.ready {listed:SI Bool}{S:Nat->Bool}{i:Nat}(h:LC ops listed S)(O:i<ops.size)(a:S i=false)(W:DF (ops.getD i default) i=true)(b:∀j,j<i->S j=true):i∈Region.ready .any ops listed:=
 Xt O (by rw[h.get i true O];exact a) W λj z=>by rw[h.get j false AY];exact b j z
def LC.eq{a:SI Bool}{S':Nat->Bool}(h:LC ops a S)(e:∀i,S i=S' i):LC ops a S':=⟨h.size,λi b U=>(h.get i b U).trans (e i),h.cl⟩
def Ao9{o:Oper}{w:Is}{r:OS Nat}{next:Act->Is->Prop}{e:HO->Is->Prop}(b:∀c,o.op≠ .defer c)(h:J3 P e ((execOp a.eval o).run P w))(S:∀v w',e v w'->next (a.put o.dst v) w'):o.wpIn (Fw r) 0 P a w next Q:=by
 refine⟨λ_ _=>trivial,?_⟩;rw[GQ _ _ _ b];exact KV h S
def MG{r:OS Nat}{e i:Nat}{b:SI Bool}{w:Is}{n:HO->Is->Prop}(O:i<ops.size)(x:(ops.getD i default).guard=none)(k:∀c,(ops.getD i default).op≠ .defer c)
 (h:J3 P n ((execOp a.eval (ops.getD i default)).run P w))(S:∀v w',n v w'->wpAnyIn (Fw r) 0 P .any ops Q e (b.setIfInBounds i true) (a.put (ops.getD i default).dst v) w'):
 wpOpIn (Fw r) 0 P ops Q i (wpAnyIn (Fw r) 0 P .any ops Q e (b.setIfInBounds i true)) a w:=by
 rw[Wx O]at *
 simp only[wpOpIn,DX O];rw[A2 (by simp[Region.wanted,x])];exact Ao9 k h S
def Hh{d:Nat}{v:HO}{x:By}(h:x≠ .tmp d):(a.put (some d) v).eval x=a.eval x:=by
 cases x with
 |tmp t=>
  have:d≠t:=λe=>h (by rw[e]);simp[Act.eval,Act.put,Iq,this]
 |_=>rfl
def VG{d:Nat}{v:HO}(h:d<a.tmps.size):(a.put (some d) v).eval (.tmp d)=v:=by
 simp[Act.eval,Act.put,h]
def AC6{v:HO}{n:Nat}(h:v.cells.size=n):(List.range n).map (λj=>v.cells.getD j undef)=v.cells.toList:=by
 subst h;apply Jk
 ·simp
 intro i O a
 have:i<v.cells.size:=by simpa using a
 simp[Array.getD,this]
def Vr{W:Is}{B q n:Nat}{c:SI HO}{T t:Do}{x y:By}{o:Oper}(X:o.op= .store t x y)(G:Hk P t=some n)(M:a.eval x= .pointer (some ⟨B,q,none⟩))(d:W.heap[B]? =some (.cells c T (0,0)))(h:(a.eval y).cells.size=n)(b:q+n<=c.size)
 (O:∀j,j<n->((a.eval y).cells.getD j undef).oneCell'=true):J3 P (λ_ w'=>w'=W.setRow B (VB c q n λj=>(a.eval y).cells.getD j undef)) ((execOp a.eval o).run P W):=by
 have e:=tri (P:=P) (f:=λj=>(a.eval y).cells.getD j undef) d b O
 rw[AC6 h]at e
 unfold execOp;rw[X];simp only[M,Instr.storeAt,Instr.sureAddr,storeVar,B9,C7,B5,T5 G W,h,ne_eq,Y2,B6,e,J3]
def BE1{A:Zb}{r:OS Nat}{k:Nat}{p:YY}{K:Fr->A5->Prop}{g0:Gh}{w0:Is}(y:Ce8 ops nt k p)
 (an:∀i,i<ops.size->DF (ops.getD i default) i=true/\∀j,j<i->Ou ops Ug i j=true\/i<k\/(i=k+3/\k<j))
 (hQ:∀g w a fr H,Al g0 w0 g w->Rl g H w->FR nt g w a fr->K fr H->Q .normal a w)
 {listed:SI Bool}(hL:LC ops listed λi=>decide (i<k)){fr:Fr}{H:A5}{xs cs:Up V}{tl ca:G5}{y0 vV z:V}{kk:IntKind}{e:Do}{sz by_ N n:Nat}
 (M:DI (ev fr p.sx) (.sl xs tl))(I:ev fr p.sy= .sl [y0] ca)(cz:y0.cells.length=sz)(hn:ev fr p.nn= .int kk (xs.length:Nat))(dc:DI (ev fr p.zz) vV)(cw:vV.one=true)(b4:vV.cells.length=sz)
 (R:Ic P p.sT=some e)(c0:(Ic P p.yT).isSome=true)(cn:Ic P p.t2=some e)(b3:Hk P e=some sz)(cu:Hk P p.eT=some sz)(b0:0<sz)(cl:UI P e=some by_)(cj:0<by_)
 (Y:Lr P e=some z)(da:z.one=true)(db:z.cells.length=sz)(hA:Kn H tl)(ch:xs.all (λx=>x.cells.length==sz)=true)(ao:(xs.length+1)*by_<=140737488355328)
 (hU:fr.s p.tp= .ref N n)(am:H N=some (.cells cs))(cg:Hk P p.t3=some 1)(a9:n+1<=cs.length)
 (hK:∀t,H5 H tl t=none->MN P A nt ops (ops.toList.drop (k+4)) ((fr.put (some p.tA) (.sl (xs++[vV]) (.tok t))).put (some p.tI) .bad)
  (upd (upd (H5 H tl) t (some .spare)) N (some (.cells (Z7 cs n [.sl (xs++[vV]) (.tok t)])))) K):
 ∀g w a,Al g0 w0 g w->Rl g H w->FR nt g w a fr->wpAnyIn (Fw r) 0 P .any ops Q (ops.size-k) listed a w:=by
 intro g w a st hR hF;have cx:=(G2 hR hF.s p.sx).le M;have b6:=G2 hR hF.s p.sy
 rw[I]at b6
 have ar:=G2 hR hF.s p.nn
 rw[hn]at ar
 have ar:=ar.int_inv;have cy:=(G2 hR hF.s p.zz).le dc;have⟨b7,ax⟩:=cy.cells cw
 have b8:(a.eval p.zz).cells.size=sz:=by rw[b7,b4]
 have b1:VR g w (a.eval (.tmp p.tp)) (.ref N n):=by have:=G2 hR hF.s (.tmp p.tp);rwa[show ev fr (.tmp p.tp)= .ref N n from hU]at this
 have⟨bp,bc,co⟩:∃bp,g.mu N=some bp/\a.eval (.tmp p.tp)= .pointer (some ⟨bp,n,none⟩):=by
  generalize a.eval (.tmp p.tp)=v at b1
  cases b1 with
  |ref hm=>exact⟨_,hm,rfl⟩
 have⟨b,off,G,W,C,T,r1,r2,r3,r4,r5,r6,r7⟩:=AP9 (P:=P) (ty:=(ops.getD k default).type) hR cx R c0 b3 b0 cl cj Y da db hA ch ao;have⟨f0,dh,cr⟩:=r1 y0 ca _ b6 cz;have⟨dg,cp,Tp,q1,q2,q3,q4,q5,q6⟩:=hR.blk N _ am
 rw[bc]at q1;cases q1
 have ba:H5 H tl N=some (.cells cs):=by
  cases tl with
  |tok t=>
   have bh:H t=some .spare:=hA
   have:N≠t:=λe=>by subst e;rw[am]at bh;cases bh
   simp only[H5,C8 _ _ this];exact am
  |_=>exact am
 have bo:g.at (H5 H tl) N=some bp:=by simp only[Gh.at,ba,bc]
 have bd:bp≠b:=r6 _ _ bo;have bz:bp<w.heap.size:=(Array.getElem?_eq_some_iff.1 q3).1
 have aa:n+1<=cp.size:=AY
 generalize ah:(Value.slice (some ⟨b,off,none⟩) (xs.length+1) G)=s' at *
 generalize bq:(λj=>(a.eval p.zz).cells.getD j undef)=fv
 have br:∀j,j<sz->(fv j).oneCell'=true/\VR g w (fv j) (vV.cells.getD j .bad):=λj s=>by rw[<-bq];exact ax j AY
 have ap:s'.cells= #[s']:=by rw[<-ah];rfl
 have ct:∀j,j<1->(s'.cells.getD j undef).oneCell'=true:=λj s=>by
  rw[show j=0 by omega,ap,<-ah];rfl
 have dl:(λj=>s'.cells.getD j undef)=λj=>(#[s']:SI HO).getD j undef:=by rw[ap]
 generalize J:a.put (some p.tA) s'=a1;generalize bi:(Value.pointer (some ⟨b,off+xs.length*sz,none⟩))=pA;generalize S:a1.put (some p.tI) pA=a2
 have aq:a1.tmps.size=nt:=by rw[<-J];simp[Act.put,hF.size]
 have a6:a1.eval (.tmp p.tA)=s':=by rw[<-J];exact VG (by rw[hF.size];exact y.n7)
 have cc:a1.eval p.nn= .int kk (xs.length:Nat):=by rw[<-J,Hh y.n4];exact ar
 have be:a1.eval (.tmp p.tp)= .pointer (some ⟨bp,n,none⟩):=by rw[<-J,Hh (λh=>y.n2 (OL h))];exact co
 have bf:a2.eval (.tmp p.tA)=s':=by rw[<-S,Hh (λh=>y.n1 (OL h))];exact a6
 have bg:a2.eval (.tmp p.tp)= .pointer (some ⟨bp,n,none⟩):=by rw[<-S,Hh (λh=>y.n3 (OL h))];exact be
 have cd:a2.eval (.tmp p.tI)=pA:=by rw[<-S];exact VG (by rw[aq];exact y.n8)
 have a7:a2.eval p.zz=a.eval p.zz:=by rw[<-S,Hh y.n6,<-J,Hh y.n5]
 have bv:∀c,(ops.getD k default).op≠ .defer c:=λc h=>by rw[y.a1]at h;cases h
 have av:∀c,(ops.getD (k+1) default).op≠ .defer c:=λc h=>by rw[y.i1]at h;cases h
 have aw:∀c,(ops.getD (k+2) default).op≠ .defer c:=λc h=>by rw[y.s1]at h;cases h
 have ag:∀c,(ops.getD (k+3) default).op≠ .defer c:=λc h=>by rw[y.u1]at h;cases h
 have b9:J3 P (λv w'=>v=s'/\w'=W f0) ((execOp a.eval (ops.getD k default)).run P w):=by
  rw[V3 y.a1];simp only[builtin,Bl,D2,G8,B9,cr,B5,C7,J3]
  trivial
 have a4:∀W':Is,J3 P (λv w'=>v=pA/\w'=W') ((execOp a1.eval (ops.getD (k+1) default)).run P W'):=λW'=>by
  have hu:=U7 cn;unfold execOp;rw[y.i1]
  have c1:(0:Int)<=(xs.length:Nat):=AY
  have c2:((xs.length:Nat):Int)<((xs.length+1:Nat):Int):=AY
  simp only[a6,<-ah,cc,Instr.indexAt,asIntOf,B9,C7,B5,run_underlying hu,c1,c2,and_self,B4,T5 b3,J3,K1,Bz,Z5,bi]
 have a5:∀(W':Is) (c':SI HO),W'.heap[b]? =some (.cells c' T (0,0))->off+xs.length*sz+sz<=c'.size->J3 P (λ_ w'=>w'=W'.setRow b (VB c' (off+xs.length*sz) sz fv)) ((execOp a2.eval (ops.getD (k+2) default)).run P W'):=λW' c' O D=>by
  have:=Vr (P:=P) (a:=a2) y.s1 cu (by rw[cd,<-bi]) O (by rw[a7];exact b8) D (λj s=>by rw[a7];exact(ax j AY).1)
  rw[a7,bq]at this
  exact this
 have ac:∀(a':Act) (W':Is),a'.eval (.tmp p.tA)=s'->a'.eval (.tmp p.tp)= .pointer (some ⟨bp,n,none⟩)->W'.heap[bp]? =some (.cells cp Tp (0,0))->J3 P (λ_ w'=>w'=W'.setRow bp (VB cp n 1 λj=>s'.cells.getD j undef)) ((execOp a'.eval (ops.getD (k+3) default)).run P W'):=λa' W' O D h3=>by
  have:=Vr (P:=P) (a:=a') y.u1 cg D h3 (by rw[O,ap];rfl) aa (λj s=>by rw[O];exact ct j s)
  rw[O]at this
  exact this
 generalize bn:(VB cp n 1 λj=>s'.cells.getD j undef)=U at ac
 have af:∀f,(W f).heap[bp]? =some (.cells cp Tp (0,0)):=λf=>(r5 bp bd bz f).trans q3
 have fin:∀{l:SI Bool},LC ops l (λi=>decide (i<k+4))->wpAnyIn (Fw r) 0 P .any ops Q (ops.size-(k+4)) l a2 ((W fv).setRow bp U):=by
  intro l B;have⟨g',t,s1,X,bm,b5⟩:=r7 vV fv b4 br
  have bx:N≠t:=λe=>by subst e;rw[ba]at X;cases X
  have bu:upd (H5 H tl) t (some .spare) N=some (.cells cs):=by rw[C8 _ _ bx];exact ba
  have au:g'.mu N=some bp:=s1.mu _ _ bc;have⟨b2,c2,T2,z1,z2,z3,z4,z5,z6⟩:=bm.blk N _ bu
  rw[au]at z1;cases z1
  rw[af fv]at z3
  have ec:c2=cp:=by cases z3;rfl
  subst ec
  have ai:=bm.setNamed (cs':=Z7 cs n [.sl (xs++[vV]) (.tok t)]) (c':=U) bu au (af fv) (by rw[<-bn];exact XW aa) (Dd (by simpa using a9)) (λj s=>by
   rw[Dd (by simpa using a9)]at s
   have cq:j<c2.size:=AY
   have hg:=AY5 (c:=c2) (A:=n) (sz:=1) (f:=λj=>s'.cells.getD j undef) aa cq
   rw[bn]at hg
   rw[My (by simpa using a9)];simp only[Q0,hg,Mb]
   by_cases q:n<=j/\j<n+1
   ·rw[A2 q,A2 q];rw[show j-n=0 by omega,ap,<-ah];refine⟨rfl,?_⟩;rw[ah]
    simpa using b5
   rw[A1 q,A1 q];have:=z5 j s
   simpa only[Q0]using this)
  have bj:=(hF.mono s1).put (d:=some p.tA) (λt o=>by cases o;exact y.n7) b5
  rw[J]at bj
  have bl:=bj.put (d:=some p.tI) (v:=pA) (V:=.bad) (λt o=>by cases o;exact y.n8) (.bad _)
  rw[S]at bl
  have hm:k+4<=ops.size:=y.lt
  exact WP (A:=A) (r:=r) (K:=K) (k:=k+4) (λi hi=>⟨(an i hi).1,λj s dj=>((an i hi).2 j s).elim (λh=>h) λh=>absurd h AY⟩) hQ (ops.size-(k+4)) (k+4) l _ _ AY (C6 _) B.size
   B.get (hK t X) g' _ a2 (st.trans (s1.trans ai.1)) ai.2 (bl.mono ai.1)
 have dk:=y.lt;rw[show ops.size-k=(ops.size-(k+4))+1+1+1+1 by omega];have bw:∀i,i<ops.size->DF (ops.getD i default) i=true:=λi hi=>(an i hi).1;have ab:∀i j,i<ops.size->k<=i->j<i->¬(i=k+3/\k<j)->Ou ops Ug i j=true:=λi j hi di s hn=>((an i hi).2 j s).elim (λh=>h) λh=>absurd h AY
 have ay:k∈Region.ready .any ops listed:=hL.ready AY OC (bw _ AY) λj s=>by simpa using s
 refine⟨λe=>(by rw[e]at ay;cases ay),λi hi=>?_⟩;have⟨O,D,h3⟩:=hL.not hi
 have ik:i=k:=by
  have:k<=i:=by simpa using D
  rcases R3 k i with h|h
  ·have:=h3 k AY (ab i k O AY h AY);exact absurd this OC
  omega
 subst ik;refine MG O y.a3 bv b9 λv w1 ⟨ad,ae⟩=>?_;subst ad;subst ae;rw[y.a2,J];have al:=hL.step hi
 have az:i+1∈Region.ready .any ops (listed.setIfInBounds i true):=al.ready AY OC (bw _ AY) λj s=>by simp;omega
 refine⟨λe=>(by rw[e]at az;cases az),λi2 bb=>?_⟩;have⟨O,D,h3⟩:=al.not bb
 have ik:i2=i+1\/i2=i+3:=by
  simp at D
  rcases R3 (i+1) i2 with h|h
  ·rcases R3 i2 (i+3)with h'|h'
   ·have:=h3 (i+1) AY (ab i2 (i+1) O AY h AY);exact zau
   rcases R3 (i+3) i2 with ce|ce
   ·have:=h3 (i+1) AY (ab i2 (i+1) O AY h AY);exact zau
   omega
  omega
 have de:((W f0).setRow b (VB (C f0) (off+xs.length*sz) sz fv)).setRow bp U=(W fv).setRow bp U:=by rw[r4]
 have cm:((W f0).setRow bp U).setRow b (VB (C f0) (off+xs.length*sz) sz fv)=(W fv).setRow bp U:=by rw[Ar8 _ _ _ bd,r4]
 have ci:((W f0).setRow bp U).heap[b]? =some (.cells (C f0) T (0,0)):=(S3 _ _ _ _ bd.symm).trans (r3 f0).1
 have aj:∀{l:SI Bool},LC ops l (λj=>decide (j<i+2)||j==i+3)->wpAnyIn (Fw r) 0 P .any ops Q (ops.size-(i+4)+1) l a2 ((W f0).setRow bp U):=λ{l} B=>by
  have ak:i+2∈Region.ready .any ops l:=B.ready AY OC (bw _ AY) λj s=>by simp;omega
  refine⟨λe=>(by rw[e]at ak;cases ak),λi3 m=>?_⟩;have⟨O,D,h3⟩:=B.not m
  have ik:i3=i+2:=by
   simp at D
   rcases R3 (i+2) i3 with h|h
   ·have:=h3 (i+2) AY (ab i3 (i+2) O AY h AY);exact zau
   omega
  subst ik;refine MG O y.s3 aw (a5 _ _ ci (r3 f0).2) λv w1 ew=>?_;rw[ew,cm,y.s2];exact fin ((B.step m).eq λj=>by rw[AE];simp;omega)
 rcases ik with rfl|rfl
 ·refine MG O y.i3 av (a4 _) λv w1 ⟨ad,ae⟩=>?_;subst ad;subst ae;rw[y.i2,S]
  have u:=(al.step bb).eq (S':=λj=>decide (j<i+2)) λj=>by rw[AE];simp;omega
  have a0:i+2∈Region.ready .any ops ((listed.setIfInBounds i true).setIfInBounds (i+1) true):=u.ready AY OC (bw _ AY) λj s=>by simp;omega
  refine⟨λe=>(by rw[e]at a0;cases a0),λi3 m=>?_⟩;have⟨O,D,h3⟩:=u.not m
  have ik:i3=i+2\/i3=i+3:=by
   simp at D
   rcases R3 (i+3) i3 with h|h
   ·have:=h3 (i+2) AY (ab i3 (i+2) O AY AY AY);exact zau
   omega
  rcases ik with rfl|rfl
  ·refine MG O y.s3 aw (a5 _ _ (r3 f0).1 (r3 f0).2) λv w1 ew=>?_;rw[ew,r4,y.s2]
   have a8:=(u.step m).eq (S':=λj=>decide (j<i+3)) λj=>by rw[AE];simp;omega
   have a3:i+3∈Region.ready .any ops (((listed.setIfInBounds i true).setIfInBounds (i+1) true).setIfInBounds (i+2) true):=a8.ready AY OC (bw _ AY) λj s=>by simp;omega
   refine⟨λe=>(by rw[e]at a3;cases a3),λi4 bt=>?_⟩;have⟨O,D,h3⟩:=a8.not bt
   have ik:i4=i+3:=by
    simp at D
    rcases R3 (i+3) i4 with h|h
    ·have:=h3 (i+3) AY (ab i4 (i+3) O AY h AY);exact zau
    omega
   subst ik;refine MG O y.u3 ag (ac a2 _ bf bg (af fv)) λv w1 ew=>?_;rw[ew,y.u2];exact fin ((a8.step bt).eq λj=>by rw[AE];simp;omega)
  refine MG O y.u3 ag (ac a2 _ bf bg (af f0)) λv w1 ew=>?_;rw[ew,y.u2];exact aj ((u.step m).eq λj=>by rw[AE];simp;omega)
 refine MG O y.u3 ag (ac a1 _ a6 be (af f0)) λv w1 ew=>?_;rw[ew,y.u2]
 have u:=(al.step bb).eq (S':=λj=>decide (j<i+1)||j==i+3) λj=>by rw[AE];simp;omega
 have ak:i+1∈Region.ready .any ops ((listed.setIfInBounds i true).setIfInBounds (i+3) true):=u.ready AY OC (bw _ AY) λj s=>by simp;omega
 refine⟨λe=>(by rw[e]at ak;cases ak),λi3 m=>?_⟩;have⟨O,D,h3⟩:=u.not m
 have ik:i3=i+1:=by
  simp at D
  rcases R3 (i+1) i3 with h|h
  ·have:=h3 (i+1) AY (ab i3 (i+1) O AY h AY);exact zau
  omega
 subst ik;refine MG O y.i3 av (a4 _) λv w1 ⟨ad,ae⟩=>?_;subst ad;subst ae;rw[y.i2];have:=aj ((u.step m).eq λj=>by rw[AE];simp;omega)
 rw[<-S]at this
 exact this
end
end Go.Ab
namespace Go.Ab
open Go.RowKit
variable [O7][Ar]
variable{G:Up (Nat×Bool)}{H:A5}{K:Fl->A5->Prop}{cs:Up V}{d k:Nat}{l:Fl}{o:Oper}
def QV:Up Nat->Nat->Bool
 |[],_=>false
 |x::l,n=>match Nat.beq n x with|true=>true|false=>QV l n
abbrev YF:=Up (Nat×Up V)
def QY:YF->Nat->OS (Up V)
 |[],_=>none
 |(k,x)::l,t=>match Nat.beq t k with|true=>some x|false=>QY l t
section
variable (E:Hj)(T:JV)(nt:Nat)(A:Nat->Bool)
def xqd (G:Up (Nat×Bool)) (o:Oper) (l:Fl) (H:A5) (k:Sl->Prop):Prop:=
 match o.op with
 | .call c=>
  (match c.callee with
   | .value x=>E.pcall H (Y4 G l x).V (c.args.toList.map λx=>(Y4 G l x).V) λv=>k (.v v)
   |_=>xq E T G o l H k)
 |_=>xq E T G o l H k
def AJ4 (pv:YF)(d:OS Tmp):Bool:=
 match d with
 |some d=>(match QY pv d with|none=>true|some _=>false)
 |none=>true
abbrev Pe:=OS (Nat×Nat×Up V)
def AH1 (tk:Up Nat)(d:OS Tmp):Bool:=
 match d with
 |some d=> !QV tk d
 |none=>true
def Ae0:Up Nat->Nat->Up Nat
 |[],_=>[]
 |x::l,n=>match Nat.beq n x with|true=>Ae0 l n|false=>x::Ae0 l n
def VI (s:OS Nat)(tk:Up Nat):Up Nat:=
 match s with
 |some d=>Ae0 tk d
 |none=>tk
def BV5 (tk:Up Nat)(a:By)(tl:G5):OS (OS Nat):=
 match tl with
 | .nil=>some none
 | .full=>some none
 | .ro=>(match a with| .tmp d=>(match QV tk d with|true=>some (some d)|false=>none)|_=>none)
 |_=>none
def Bo2 (x:Bool)(ex:OS G5)(tk:Up Nat)(a:By)(tl:G5)(k:OS Nat->OS G5->Prop):Prop:=
 match x with
 |true=>(match ex with|some b=>E.need (tl=b) λ_=>k none none|none=>False)
 |false=>(match BV5 tk a tl with|some s=>k s ex|none=>False)
def NY (A:Nat->Bool)(n:Nat):Up Oper->OS Nat
 |[]=>none
 |o::l=>match o.dst with|some d=>(match A (d+n)with|true=>some d|false=>NY A n l)|none=>NY A n l
def Bo4 (x :Bool) (ex:OS G5) (o:Oper) (l:Fl) (tk:Up Nat) (k:Nat->OS Nat->OS G5->V->Prop):Prop:=
 match o.op,o.dst,o.guard with
 | .call { callee:=.builtin .append,args:=⟨[sx,sy]⟩,argTypes:=⟨[sT,yT]⟩},some dd,none=>
  (match (Y4 [] l sx).V,(Y4 [] l sy).V with
   | .sl xs h,.sl ys _=>
    Bo2 E x ex tk sx h λb a=>
     (match tg T sT,tg T yT with
      | some I,some i=>
       (match I.sl,i.sl with
        | some e,some _=>
         (match tg T e with
          | some J=>
           (match J.ze with
            |some z=>if 0<J.sz/\0<J.by_/\z.one=true/\z.cells.length=J.sz then E.appq J.sz J.by_ xs ys λv=>k dd b a v else False
            |none=>False)
          |none=>False)
        |_,_=>False)
      |_,_=>False)
   |_,_=>False)
 |_,_,_=>False
def Jx (a   :Up Nat) (ops:SI Oper):Up Oper->Fl->YF->Pe->Up Nat->OS G5->A5->(Fl->YF->Pe->Up Nat->Prop)->Prop
 |[],l,pv,pe,tk,_,_,K=>K l pv pe tk
 | o :: rest,l,pv,pe,tk,ex,H,K=>
  match Kb nt o.dst,AJ4 pv o.dst,AH1 tk o.dst with
  | true, true,true=>
   (match A (o.dst.getD 0+3000000)with
    |true=>Bo4 E T (A (o.dst.getD 0+8000000)) ex o l tk λdd i h v=>Jx a ops rest ((dd,.v v)::l) pv pe (dd::VI i tk) h H K
    | false =>
     (match o.op with
      | .alloc t=>
       (match o.guard,o.dst,tg T t with
        | none,some d,some I=>
         (match I.ze with
          |some z=>(match z.one with|true=>Jx a ops rest ((d,.v .bad)::l) ((d,z.cells)::pv) pe tk ex H K|false=>False)
          |none=>False)
        |_,_,_=>False)
      | .store t (.tmp d) y=>
       (match o.guard,tg T t with
        | none,some I=>
         (match QY pv d with
          |some cs=>if(Y4 [] l y).V.one=true/\(Y4 [] l y).V.cells.length=I.sz/\I.sz<=cs.length then Jx a ops rest (FY o.dst (.v .bad) l) ((d,Z7 cs 0 (Y4 [] l y).V.cells)::pv) pe tk ex H K else False
          | none=>
           (match QV a d,Av2 [] l d,pe with
            |true,some (.v (.ref id off)),some (ds,b,cs)=>
             if(Y4 [] l y).V.one=true/\(Y4 [] l y).V.cells.length=I.sz/\off+I.sz<=cs.length then E.need (id=b) λ_=>Jx a ops rest (FY o.dst (.v .bad) l) pv (some (ds,b,Z7 cs off (Y4 [] l y).V.cells)) tk ex H K else False
            |_,_,_=>False))
        |_,_=>False)
      | .store _ _ _=>False
      |_=>KO E ops o 4 l (λG e k=>xqd E T G o e H λs=>Jx a ops rest (FY o.dst (k s) e) pv pe tk ex H K) λe=>Jx a ops rest (FY o.dst (.v (.tup [])) e) pv pe tk ex H K))
  |_,_,_=>False
def Rp:Up Nat->YF->Fl->A5->(Fl->A5->Prop)->Prop
 |[],_,l,H,K=>K l H
 |d::ds,pv,l,H,K=>
  match QY pv d with
  |some cs=>(match A d with|true=>E.alloc H cs λid H'=>Rp ds pv ((d,.v (.ref id 0))::l) H' K|false=>Rp ds pv ((d,.v (.eref cs 0))::l) H K)
  |none=>False
def WH (dx:OS Nat)(tk:Up Nat)(l:Fl)(H:A5)(K:Fl->A5->Prop):Prop:=
 match dx with
 |none=>K l H
 |some d=>(match QV tk d,lk l d with|true,.v (.sl xs .ro)=>E.nameT H λtl H'=>K ((d,.v (.sl xs tl))::l) H'|_,_=>False)
def Vl (ops:SI Oper):Up Oper->Fl->A5->(Fl->A5->Prop)->Prop
 |[],l,H,K=>K l H
 |o::rest,l,H,K=>
  match Kb nt o.dst with
  |true=>KO E ops o 4 l (λG a b=>JF E T A G o a H λs H'=>Vl ops rest (FY o.dst (b s) a) H' K) λa=>Vl ops rest (FY o.dst (.v (.tup [])) a) H K
  |false=>False
def JH:Up Oper->Up Nat
 |[]=>[]
 |o::l=>match o.op,o.dst with| .alloc _,some d=>d::JH l|_,_=>JH l
def BS8 (pe:Pe)(H:A5)(K:A5->Prop):Prop:=
 match pe with
 |some (_,id,cs)=>E.give H id cs K
 |none=>K H
def Bo0 (w:OS (Nat×Up Nat))(l:Fl)(H:A5)(K:Up Nat->Pe->A5->Prop):Prop:=
 match w with
 |none=>K [] none H
 |some (d,a)=>(match lk l d with| .v (.ref id 0)=>E.frz H id λcs H'=>K a (some (d,id,cs)) H'|_=>False)
def Bn9 (x:OS Nat)(H:A5)(K:OS G5->A5->Prop):Prop:=
 match x with
 |none=>K none H
 |some _=>E.takeT H λa H'=>K (some a) H'
def Bo7 (w:OS (Nat×Up Nat))(k:Nat)(ops:SI Oper)(l:Fl)(H:A5)(K:Fl->A5->Prop):Prop:=
 Bn9 E (NY A 8000000 (ops.toList.take k)) H λex H0=>Bo0 E w l H0 λa pe J=>Jx E T nt A a ops (ops.toList.take k) l [] pe [] ex J λn pv e tk=>BS8 E e J λh=>WH E (NY A 9000000 (ops.toList.take k)) tk n h λv i=>Rp E A (JH (ops.toList.take k)) pv v i λb H'=>Vl E T nt A ops (ops.toList.drop k) b H' K
end
section
variable {P:Program}{nt:Nat}{rd:Option Nat}{T:JV}{A:Nat->Bool}{df:List Nat}
def Bc4(b:Oz P T)(a:OF G l){k:Sl->Prop}(h:xqd (J1 P nt rd) T G o l H k):∃s:Sl,Sq P o (ev (J7 ⟨l,df⟩)) H s.V/\k s:=by
 unfold xqd at h
 split at h
 ·rename_i c X
  split at h
  ·rename_i x d;have⟨v,O,e⟩:=h
   rw[HS (df:=df) a,show(c.args.toList.map λx=>(Y4 G l x).V)=c.args.toList.map (ev (J7 ⟨l,df⟩))from BW λp _=>HS a p]at O
   grind[Sq,Sl.V]
  exact Sr b a h
 exact Sr b a h
def BG7(a:Oz P T){k:Sl->Prop}(b:Qc G o l=true)(h:xqd (J1 P nt rd) T G o l H k):∃s,k s:=by
 unfold xqd at h
 split at h
 ·rename_i c X
  split at h
  ·have⟨v,O,e⟩:=h
   grind
  exact AF9 a b h
 exact AF9 a b h
theorem Jv (a:Oz P T) {ops:SI Oper} {K:Fl->A5->Prop}:∀(rest:Up Oper) (l:Fl) (H:A5),Vl (J1 P nt rd) T nt A ops rest l H K->MN P A nt ops rest (J7 ⟨l,df⟩) H λfr H'=>∃b,fr=J7 ⟨b,df⟩/\K b H'
 |[],l,H,h=>⟨l,rfl,h⟩
 | o::rest,l,H,h=>by
  unfold Vl at h
  split at h
  ·rename_i hd;simp only[MN];refine⟨hd,?_⟩;have⟨b,e,h⟩:=Hm (df:=df) 4 l h
   have e:J7 ⟨b,df⟩=J7 ⟨l,df⟩:=by simp_all[J7]
   rcases h with⟨i,G,y,w,k,h⟩|⟨i,h⟩
   ·rw[i];rw[<-e];refine PU (TP (df:=df) a w h) λv H' ⟨s,j,S⟩=>?_;subst j;rw[<-k s,<-R8];exact Jv a rest _ _ S
   rw[i];rw[<-e]
   rcases h with h|⟨G,d,n,x,W,h⟩
   ·have:=Jv a rest _ _ h
    rw[R8]at this
    exact this
   have⟨s,h⟩:=Af9 a x h;have:=Jv a rest _ _ h
   rw[R8]at this
   simp_all[Zz]
  grind
def BQ (pv:YF)(pe:Pe)(tk:Up Nat)(ex:OS G5):Pv
 | .inl d=>QY pv d
 | .inr x=>(match pe with|some (_,id,cs)=>if x=id then some cs else none|none=>none)
 | .tk d=>(match QV tk d with|true=>some []|false=>none)
 | .ex=>ex.map λa=>[.sl [] a]
def BD5{a b:Nat}:Nat.beq a b=true<->a=b:=⟨DW,λh=>TQ⟩
theorem Bx9{pv:YF}{t:Nat}:QY ((d,cs)::pv) t=if t=d then some cs else QY pv t:=by
 simp only[QY]
 by_cases h:t=d
 ·simp_all
 have:Nat.beq t d=false:=by
  cases W:Nat.beq t d with
  |false=>rfl
  |true=>simp_all
 grind
theorem KF{tk:Up Nat}{t:Nat}:QV (d::tk) t=(decide (t=d)||QV tk t):=by
 simp only[QV]
 by_cases h:t=d
 ·simp_all
 have:Nat.beq t d=false:=by
  cases W:Nat.beq t d with
  |false=>rfl
  |true=>simp_all
 grind
def UA {d t:Nat}:∀{tk:Up Nat},QV (Ae0 tk d) t=(!decide (t=d)&&QV tk t)
 |[]=>by simp[QV,Ae0]
 | x::l=>by
  simp only[Ae0]
  split
  ·rename_i h;have:=BD5.1 h;subst this;rw[UA (tk:=l),KF]
   by_cases e:t=d<;>simp[e]
  rename_i h
  have a:d≠x:=λe=>by rw[BD5.2 e]at h;cases h
  rw[KF,KF,UA (tk:=l)]
  grind
def Aa0{pv:YF}{pe:Pe}{tk:Up Nat}{ex:OS G5}:BQ ((d,cs)::pv) pe tk ex=T8 (BQ pv pe tk ex) (.inl d) cs:=by
 funext t
 cases t with
 |inl t=>
  grind[BQ,T8,Bx9]
 |inr x=>simp[BQ,T8]
 |tk x=>simp[BQ,T8]
 |ex=>simp[BQ,T8]
def BJ9{pv:YF}{tk:Up Nat}{ex:OS G5}{ds id:Nat}{cs':Up V}:BQ pv (some (ds,id,cs')) tk ex=T8 (BQ pv (some (ds,id,cs)) tk ex) (.inr id) cs':=by
 funext t
 cases t with
 |inl t=>simp[BQ,T8]
 |inr x=>
  grind[BQ,T8]
 |tk x=>simp[BQ,T8]
 |ex=>simp[BQ,T8]
def BK0{pv:YF}{pe:Pe}{tk:Up Nat}{ex:OS G5}:BQ pv pe (d::tk) none=T8 (Ay (BQ pv pe tk ex) (some .ex)) (.tk d) []:=by
 funext t
 cases t with
 |inl t=>rw[K5 OC,X2 OC];rfl
 |inr x=>rw[K5 OC,X2 OC];rfl
 |ex=>rw[K5 OC];simp[BQ,Ay]
 |tk x=>
  grind[KF,BQ,T8,X2]
def BJ8{pv:YF}{pe:Pe}{tk:Up Nat}{ex:OS G5}{a:OS Nat}:BQ pv pe (d::VI a tk) ex=T8 (Ay (BQ pv pe tk ex) (a.map .tk)) (.tk d) []:=by
 funext t
 cases t with
 |inl t=>rw[K5 OC,X2 (by cases a<;>simp)];rfl
 |inr x=>rw[K5 OC,X2 (by cases a<;>simp)];rfl
 |ex=>rw[K5 OC,X2 (by cases a<;>simp)];rfl
 | tk x=>
  by_cases h:x=d
  ·grind[KF,BQ,T8]
  rw[K5 (λe=>TQ)]
  have b:QV (d::VI a tk) x=QV (VI a tk) x:=by rw[KF];simp[h]
  cases a with
  |none=>simp_all[BQ,VI,Ay]
  |some c=>
   have e2:QV (VI (some c) tk) x=(!decide (x=c)&&QV tk x):=UA
   grind[BQ,Ay]
def Bh1{pv:YF}{pe:Pe}{tk:Up Nat}{ex:OS G5}{d:OS Tmp}(h:AJ4 pv d=true)(a:AH1 tk d=true):X9 (BQ pv pe tk ex) d:=by
 cases d with
 |none=>trivial
 |some d=>
  grind[X9,BQ,AJ4,AH1]
def BG6{l:Fl}{pv:YF}{pe:Pe}{tk:Up Nat}{ex:OS G5}{b:By}{tl:G5}{a:OS Nat}(h:BV5 tk b tl=some a):Oh (BQ pv pe tk ex) b tl (a.map .tk):=by
 unfold BV5 at h
 split at h
 ·grind[Oh]
 ·grind[Oh]
 ·grind[Oh,BQ]
 cases h
def Bo1{l:Fl}{pv:YF}{pe:Pe}{tk:Up Nat}{x:Bool}{ex:OS G5}{i:By}{tl:G5}{k:OS Nat->OS G5->Prop}(h:Bo2 (J1 P nt rd) x ex tk i tl k):
 ∃key,Oh (BQ pv pe tk ex) i tl key/\∃b a,k b a/\(ex=none->a=none)/\∀d,BQ pv pe (d::VI b tk) a=T8 (Ay (BQ pv pe tk ex) key) (.tk d) []:=by
 unfold Bo2 at h
 split at h
 ·split at h
  ·obtain⟨e,h⟩:=h;subst e;exact⟨some .ex,rfl,none,none,h,λ_=>rfl,λd=>BK0⟩
  grind
 split at h
 ·rename_i s G;exact⟨_,BG6 (l:=l) G,s,ex,h,id,λd=>BJ8⟩
 grind
def Ao1(i:Oz P T){x:Bool}{ex:OS G5}{pv:YF}{pe:Pe}{tk:Up Nat}{k:Nat->OS Nat->OS G5->V->Prop}(h:Bo4 (J1 P nt rd) T x ex o l tk k):∃dd key v,o.dst=some dd/\PApp P o (J7 ⟨l,df⟩) (BQ pv pe tk ex) key v/\∃b a,k dd b a v/\(ex=none->a=none)/\BQ pv pe (dd::VI b tk) a=T8 (Ay (BQ pv pe tk ex) key) (.tk dd) []:=by
 unfold Bo4 at h
 split at h
 ·rename_i sx sy sT yT dd X n C
  split at h
  ·rename_i xs j ys m t e2
   rw[HS (l:=l) (df:=df) OF.nil]at t e2
   have⟨key,G,b,a,h,f,g⟩:=Bo1 (l:=l) (pv:=pv) (pe:=pe) h
   split at h
   ·rename_i I I2 B y
    split at h
    ·rename_i e u R c
     split at h
     ·rename_i J N
      split at h
      ·rename_i z Y
       have w:=(I7 i N).ze;rw[Y]at w;simp only[Eh]at w
       split at h
       ·rename_i d;have⟨q,s,c3,c4⟩:=d;have⟨p,ys',U,W,D,M,O,S⟩:=h;exact⟨dd,key,_,n,⟨C,sx,sy,sT,yT,xs,j,ys,m,p,ys',X,t,e2,G,⟨e,J.sz,J.by_,z,(I7 i B).sl.trans R,by rw[(I7 i y).sl,c];rfl,(I7 i N).sz,q,(I7 i N).by_,s,w,c3,c4,U,W,D,M,O⟩,rfl⟩,b,a,S,f,g dd⟩
       grind
      grind
     grind
    grind
   grind
  grind
 grind
def Ln {ops:SI Oper}{H:A5}{K a:Fr->Pv->Prop}(S:∀fr pv,K fr pv->a fr pv):∀(l:Up Oper) (fr:Fr) (pv:Pv),Nz P nt ops H l fr pv K->Nz P nt ops H l fr pv a
 |[],_,_,h=>S _ _ h
 |_::l,_,_,h=>Yx h λfr pv h=>Ln S l fr pv h
def Er (k:Oz P T) {m:Up Nat} {ops:SI Oper} {H:A5} {K:Fl->YF->Pe->Up Nat->Prop}:∀(rest:Up Oper) (l:Fl) (pv:YF) (pe:Pe) (tk:Up Nat) (ex:OS G5),Jx (J1 P nt rd) T nt A m ops rest l pv pe tk ex H K->
 Nz P nt ops H rest (J7 ⟨l,df⟩) (BQ pv pe tk ex) λfr N=>∃n pl a tk' i,fr=J7 ⟨n,df⟩/\N=BQ pl a tk' i/\(ex=none->i=none)/\a.map (λp=>p.2.1)=pe.map (λp=>p.2.1)/\K n pl a tk'
 |[],l,pv,pe,tk,ex,h=>⟨l,pv,pe,tk,ex,rfl,rfl,id,rfl,h⟩
 | o ::rest,l,pv,pe,tk,ex,h=>by
  unfold Jx at h
  split at h
  ·rename_i hd q J;simp only[Nz];unfold Qo;refine⟨⟨hd,Bh1 q J⟩,?_⟩
   split at h
   ·have⟨dd,key,v,b,hP,ae,ac,h,D,U⟩:=Ao1 (df:=df) (pv:=pv) (pe:=pe) k h;refine⟨v,_,.inr (.inr (.inr ⟨dd,key,b,hP,rfl⟩)),?_⟩;have:=Er k rest _ _ _ _ _ h
    rw[U,show(dd,Sl.v v)::l=FY (some dd) (.v v) l from rfl,R8]at this
    rw[b];exact Ln (λfr pv ⟨n,pl,a,tk',i,e1,e2,e3,h⟩=>⟨n,pl,a,tk',i,e1,e2,λR=>e3 (D R),h⟩) _ _ _ this
   split at h
   ·rename_i t X
    split at h
    ·rename_i d I c b j
     split at h
     ·rename_i z Y
      have u:=(I7 k j).ze;rw[Y]at u;simp only[Eh]at u
      split at h
      ·rename_i O;refine⟨.bad,_,.inr (.inl ⟨t,z,d,X,c,b,u,O,rfl,rfl⟩),?_⟩;have:=Er k rest _ _ _ _ _ h
       rw[Aa0,show(d,Sl.v V.bad)::l=FY (some d) (.v .bad) l from rfl,R8]at this
       rw[b];exact this
      grind
     grind
    grind
   ·rename_i t d y X
    split at h
    ·rename_i I c j;have g:=HS (l:=l) (df:=df) OF.nil y
     split at h
     ·rename_i cs x
      split at h
      ·rename_i C;have⟨f,w,c3⟩:=C
       rw[g]at f w h
       refine⟨.bad,_,.inr (.inr (.inl ⟨t,d,y,.inl d,0,cs,X,c,.inl ⟨rfl,rfl,x⟩,f,by rw[w];exact(I7 k j).sz,by rw[w];omega,rfl,rfl⟩)),?_⟩;have:=Er k rest _ _ _ _ _ h
       rw[Aa0,R8]at this
       exact this
      grind
     rename_i x
     split at h
     ·rename_i id off ds ad cs _ S
      split at h
      ·rename_i C;have⟨f,w,c3⟩:=C;have⟨R,h⟩:=h;subst R
       rw[g]at f w h
       have hd:(J7 ⟨l,df⟩).s d= .ref id off:=(PT OF.nil S).1.symm;refine⟨.bad,_,.inr (.inr (.inl ⟨t,d,y,.inr id,off,cs,X,c,.inr ⟨id,rfl,hd,x,by simp[BQ]⟩,f,by rw[w];exact(I7 k j).sz,by rw[w];exact c3,rfl,rfl⟩)),?_⟩;have:=Er k rest _ _ _ _ _ h
       rw[BJ9 (cs:=cs),R8]at this
       exact this
      grind
     grind
    grind
   ·exact h.elim
   rename_i n1 n2 n3
   have key:∃v,VV P ops H o (J7 ⟨l,df⟩) v/\Nz P nt ops H rest ((J7 ⟨l,df⟩).put o.dst v) (BQ pv pe tk ex) λfr N=>∃n pl a tk' i,fr=J7 ⟨n,df⟩/\N=BQ pl a tk' i/\(ex=none->i=none)/\a.map (λp=>p.2.1)=pe.map (λp=>p.2.1)/\K n pl a tk':=by
    have⟨n,e,h⟩:=Hm (df:=df) 4 l h
    have e:J7 ⟨n,df⟩=J7 ⟨l,df⟩:=by simp_all[J7]
    rcases h with⟨c,G,wr,hG,aa,h⟩|⟨c,h⟩
    ·have⟨s,O,B⟩:=Bc4 (df:=df) k hG h;refine⟨s.V,by simp_all[VV],?_⟩;have:=Er k rest _ _ _ _ _ B
     rw[R8,aa s,e]at this
     exact this
    refine⟨.tup [],by grind[VV],?_⟩
    rcases h with h|⟨G,d,ab,ht,W,h⟩
    ·have:=Er k rest _ _ _ _ _ h
     rw[R8,e]at this
     exact this
    have⟨s,h⟩:=BG7 k ht h;have:=Er k rest _ _ _ _ _ h
    rw[R8,e]at this
    simp_all[Zz]
   have⟨v,O,B⟩:=key;refine⟨v,_,.inl ⟨?_,?_,O,rfl⟩,B⟩
   ·cases M:o.op<;>first|rfl|simp_all
   simp[Ta]
  grind
theorem NB {pe:Pe} {tk:Up Nat} {ex:OS G5} {K:Fl->A5->Prop}:∀(ds:Up Nat) (pv:YF) (l:Fl) (H:A5),Rp (J1 P nt rd) A ds pv l H K->No A ds (BQ pv pe tk ex) (J7 ⟨l,df⟩) H λfr H'=>∃k,fr=J7 ⟨k,df⟩/\K k H'
 |[],pv,l,H,h=>⟨l,rfl,h⟩
 | d::ds,pv,l,H,h=>by
  unfold Rp at h
  simp only[No]
  split at h
  ·rename_i cs e;have a:BQ pv pe tk ex (.inl d)=some cs:=e;rw[a]
   simp only
   split at h
   ·rename_i b;rw[A2 b];intro id i;have:=NB (pe:=pe) (tk:=tk) (ex:=ex) ds pv _ _ (h id i)
    rw[show(d,Sl.v (V.ref id 0))::l=FY (some d) (.v (.ref id 0)) l from rfl,R8]at this
    exact this
   rename_i b;rw[A1 (by rw[b];simp)];have:=NB (pe:=pe) (tk:=tk) (ex:=ex) ds pv _ _ h
   rw[show(d,Sl.v (V.eref cs 0))::l=FY (some d) (.v (.eref cs 0)) l from rfl,R8]at this
   exact this
  grind
theorem RG {A:Nat->Bool} {K e:Fr->A5->Prop} (S:∀fr H,K fr H->e fr H):∀(ds:Up Nat) (pv:Pv) (fr:Fr) (H:A5),No A ds pv fr H K->No A ds pv fr H e
 |[],_,_,_,h=>S _ _ h
 | d::ds,pv,fr,H,h=>by
  simp only[No]at h ⊢
  split at h
  ·split at h
   ·rename_i a;rw[A2 a];exact λid b=>RG S ds _ _ _ (h id b)
   rename_i a;rw[A1 a];exact RG S ds _ _ _ h
  omega
def Uj {ops:SI Oper} {K a:Fr->A5->Prop} (S:∀fr H,K fr H->a fr H):∀(l:Up Oper) (fr:Fr) (H:A5),MN P A nt ops l fr H K->MN P A nt ops l fr H a
 |[],_,_,h=>S _ _ h
 |o::l,fr,H,h=>by
  simp only[MN]at h ⊢
  refine⟨h.1,?_⟩;have⟨_,h⟩:=h
  split at h
  ·rename_i b;exact PU h λv H' h=>Uj S l _ _ h
  ·rename_i b;exact Uj S l _ _ h
  omega
theorem Aw0{dx:OS Nat}{pv:Pv}{fr:Fr}{K K':Fr->A5->Prop}(S:∀fr H,K fr H->K' fr H)(h:NP dx pv fr H K):NP dx pv fr H K':=by
 unfold NP at h ⊢
 grind
def By0 {d:Nat} {x:V}:∀{l:Fl},lk l d= .v x->EJ l d=x
 |[],h=>by cases h;rfl
 |(k,s)::l,h=>by
  simp only[lk]at h
  simp only[EJ]
  cases W:Nat.beq d k with
  |true=>rw[W]at h;subst h;rfl
  |false=>rw[W]at h;exact By0 h
theorem Ag0{dx:OS Nat}{pl:YF}{pe:Pe}{tk:Up Nat}{ex:OS G5}(h:WH (J1 P nt rd) dx tk l H K):NP dx (BQ pl pe tk ex) (J7 ⟨l,df⟩) H λfr H'=>∃b,fr=J7 ⟨b,df⟩/\K b H':=by
 unfold WH at h
 unfold NP
 split at h
 ·grind
 rename_i d
 split at h
 ·rename_i xs O e;have⟨i,k⟩:=h;refine⟨xs,by simp[BQ,O],By0 e,λtl a=>⟨_,?_,i tl a⟩,λt o=>⟨_,?_,k t o⟩⟩
  ·exact(R8 l (some d) (.v (.sl xs tl))).symm
  exact(R8 l (some d) (.v (.sl xs (.tok t)))).symm
 grind
def Bc5(D:Oz P T){w:OS (Nat×Up Nat)}{ops:SI Oper}(m:Yz ops k=true)(j:(JH (ops.toList.take k)).Nodup)
 (h:Bo7 (J1 P nt rd) T nt A w k ops l H K):Og P nt rd ops (J7 ⟨l,df⟩) H λe fr H'=>e= .normal/\∃a,fr=J7 ⟨a,df⟩/\K a H':=by
 have rest:∀(a:Fl) (pl:YF) (pe:Pe) (tk:Up Nat) (ex:OS G5) (y:A5),WH (J1 P nt rd) (NY A 9000000 (ops.toList.take k)) tk a y (λz N=>Rp (J1 P nt rd) A (JH (ops.toList.take k)) pl z N λv H'=>Vl (J1 P nt rd) T nt A ops (ops.toList.drop k) v H' K)->
  NP (NY A 9000000 (ops.toList.take k)) (BQ pl pe tk ex) (J7 ⟨a,df⟩) y λu N=>No A (JH (ops.toList.take k)) (BQ pl pe tk ex) u N λfr H'=>MN P A nt ops (ops.toList.drop k) fr H' λfr H'=>.normal=Exit.normal/\∃a,fr=J7 ⟨a,df⟩/\K a H':=λa pl pe tk ex y h=>by
  grind[Aw0,Ag0,RG,NB,Jv]
 unfold Bo7 at h
 have⟨ex,G,h⟩:∃ex,(∀s,ex=some s->Kn H s)/\Bo0 (J1 P nt rd) w l (MW H ex) λV pe J=>Jx (J1 P nt rd) T nt A V ops (ops.toList.take k) l [] pe [] ex J λa pv b tk=>BS8 (J1 P nt rd) b J λy=>WH (J1 P nt rd) (NY A 9000000 (ops.toList.take k)) tk a y λz N=>Rp (J1 P nt rd) A (JH (ops.toList.take k)) pv z N λv H'=>Vl (J1 P nt rd) T nt A ops (ops.toList.drop k) v H' K:=by
  unfold Bn9 at h
  split at h
  ·exact⟨none,λ_ h=>(by cases h),h⟩
  have⟨s,O,I⟩:=h;exact⟨some s,λ_ h=>TQ,I⟩
 unfold Bo0 at h
 cases w with
 |none=>
  refine Og.drawF (A:=A) (W:=[]) (dx:=NY A 9000000 (ops.toList.take k)) m j G (λp f=>by simp at f) ?_
  have e0:pvW [] ex=BQ [] none [] ex:=by funext x;cases x<;>rfl
  rw[e0];refine Ln (λfr pv ⟨a,pl,b,o,g,t,e2,_,c,h⟩=>?_) _ _ _ (Er (df:=df) D _ _ _ _ _ _ h);subst t;subst e2
  cases b with
  |some p=>cases c
  |none=>exact rest _ _ _ _ _ _ h
 | some p=>
  have⟨d,V⟩:=p
  simp only at h
  split at h
  ·rename_i i B;have⟨cs,S,h⟩:=h;refine Og.drawF (A:=A) (W:=[(i,cs)]) (dx:=NY A 9000000 (ops.toList.take k)) m j G (λp f=>TQ) ?_
   have e0:pvW [(i,cs)] ex=BQ [] (some (d,i,cs)) [] ex:=by
    funext x
    cases x with
    |inl x=>rfl
    |inr x=>
     grind[pvW,BQ]
    |tk x=>rfl
    |ex=>rfl
   rw[e0];refine Ln (λfr pv ⟨a,pl,b,o,g,t,e2,_,c,h⟩=>?_) _ _ _ (Er (df:=df) D _ _ _ _ _ _ h);subst t;subst e2
   cases b with
   |none=>cases c
   |some q=>
    have⟨C,n,cs'⟩:=q
    simp only[K1,E5]at c
    subst c
    have f:BQ pl (some (C,n,cs')) o g (.inr n)=some cs':=by simp[BQ]
    unfold Ac7;rw[f];exact rest _ _ (some (C,n,cs')) _ _ _ h
  grind
end
noncomputable def By5 (xs:Up V):Int:=List.rec (motive:=λ_=>Int) 0 (λ_ _ n=>n+1) xs
def AY2 (xs:Up V):By5 xs=(xs.length:Nat):=by
 induction xs with
 |nil=>rfl
 |cons x xs ih=>
  have e:By5 (x::xs)=By5 xs+1:=rfl;rw[e,ih];simp
def Tv (ops:SI Oper) (k:Nat):Bool:=
 k +3<ops.size&&(List.range ops.size).all λi=>
  DF (ops.getD i default) i&&
   (List.range i).all λj=>(i<k&&Qf ops (ops.getD j default) (ops.getD i default))||Ou ops Ug i j||(i==k+3&&decide (k<j))
def Yy{ops:SI Oper}(h:Tv ops k=true):k+3<ops.size/\∀i,i<ops.size->DF (ops.getD i default) i=true/\
 ∀j,j<i->(Ou ops Ug i j=true\/(i<k/\Qf ops (ops.getD j default) (ops.getD i default)=true))\/(i=k+3/\k<j):=by
 simp only[Tv,G9,B3,EL,ET,L7,DL]at h
 exact⟨h.1,λi U=>⟨(h.2 i U).1,λj z=>((h.2 i U).2 j z).imp Or.symm id⟩⟩
def neT (x:By)(t:Nat):Bool:=
 match x with
 | .tmp u=> !Nat.beq u t
 |_=>true
def AK6{x:By}{t:Nat}(h:neT x t=true):x≠ .tmp t:=by
 intro e;subst e;simp[neT]at h
def isNone{α:Type}:OS α->Bool
 |none=>true
 |some _=>false
def KE{α:Type}{o:OS α}(h:isNone o=true):o=none:=by
 cases o<;>simp[isNone]at h;rfl
def BE6 (nt k:Nat) (ops:SI Oper):OS YY:=
 match(ops.getD k default).op,(ops.getD k default).dst,(ops.getD (k+1) default).op,(ops.getD (k+1) default).dst,(ops.getD (k+2) default).op,(ops.getD (k+3) default).op with
 | .call {callee:=.builtin .append,args:=⟨[sx,sy]⟩,argTypes:=⟨[sT,yT]⟩},some tA,.indexAddr t2 (.tmp tA2) nn,some tI,.store eT (.tmp tI2) zz,.store t3 (.tmp tp) (.tmp tA3)=>
  if(Nat.beq tA2 tA&&Nat.beq tA3 tA&&Nat.beq tI2 tI&&isNone (ops.getD k default).guard&&isNone (ops.getD (k+1) default).guard&&isNone (ops.getD (k+2) default).guard&&isNone (ops.getD (k+3) default).guard&&
   isNone (ops.getD (k+2) default).dst&&isNone (ops.getD (k+3) default).dst&& !Nat.beq tA tI&& !Nat.beq tp tA&& !Nat.beq tp tI&&neT nn tA&&neT zz tA&&neT zz tI&&Nat.ble (tA+1) nt&&Nat.ble (tI+1) nt)=true then
   some ⟨sx,sy,nn,zz,sT,yT,t2,eT,t3,tA,tI,tp⟩else none
 |_,_,_,_,_,_=>none
def BE5{nt:Nat}{ops:SI Oper}{p:YY}(B:k+3<ops.size)(h:BE6 nt k ops=some p):Ce8 ops nt k p:=by
 unfold BE6 at h
 split at h
 ·rename_i q sy o G z s c m C j g I u D f t e2 v e4 w x
  rw[Option.ite_none_right_eq_some]at h
  have⟨d,h⟩:=h;cases h
  simp only[G9,P9]at d
  obtain⟨⟨⟨⟨⟨⟨⟨⟨⟨⟨⟨⟨⟨⟨⟨⟨i,n⟩,c3⟩,c4⟩,c5⟩,c6⟩,c7⟩,c8⟩,c9⟩,Nh⟩,c11⟩,c12⟩,c13⟩,c14⟩,c15⟩,c16⟩,c17⟩:=d;have y:=DW i;have N:=DW n;have V:=DW c3;subst y;subst N;subst V
  have ne:∀{a b:Nat},Nat.beq a b=false->a≠b:=λh e=>by subst e;rw[Nat.beq_refl]at h;cases h
  exact⟨B,t,e2,KE c4,v,e4,KE c5,w,KE c8,KE c6,x,KE c9,KE c7,ne Nh,ne c11,ne c12,AK6 c13,AK6 c14,AK6 c15,Js c16,Js c17⟩
 cases h
section
variable {P:Program}{nt:Nat}{ops:Array Oper}{H0:A5}
def AppT (P:If) (nt:Nat) (A:Zb) (ops:SI Oper) (k:Nat) (p:YY) (fr:Fr) (H:A5) (K:Fr->A5->Prop):Prop:=
 ∃ (xs:Up V) (tl i:G5) (n h z:V) (v:IntKind) (e:Do) (sz by_ b a:Nat),
  DI (ev fr p.sx) (.sl xs tl)/\ev fr p.sy= .sl [n] i/\n.cells.length=sz/\ev fr p.nn= .int v (xs.length:Nat)/\DI (ev fr p.zz) h/\h.one=true/\h.cells.length=sz/\
  Ic P p.sT=some e/\(Ic P p.yT).isSome=true/\Ic P p.t2=some e/\Hk P e=some sz/\Hk P p.eT=some sz/\0<sz/\UI P e=some by_/\0<by_/\Lr P e=some z/\z.one=true/\z.cells.length=sz/\Kn H tl/\
  xs.all (λx=>x.cells.length==sz)=true/\(xs.length+1)*by_<=140737488355328/\fr.s p.tp= .ref b a/\Hk P p.t3=some 1/\
  ∀t,H5 H tl t=none->∃cs,upd (H5 H tl) t (some .spare) b=some (.cells cs)/\a+1<=cs.length/\
   MN P A nt ops (ops.toList.drop (k+4)) ((fr.put (some p.tA) (.sl (xs++[h]) (.tok t))).put (some p.tI) .bad) (upd (upd (H5 H tl) t (some .spare)) b (some (.cells (Z7 cs a [.sl (xs++[h]) (.tok t)])))) K
def AB.appF{A:Zb}{rd:OS Nat}{id:Nat}{p:YY}{fr:Fr}{Q:Exit->Fr->A5->Prop}(q:P.follows .mixedOrders=true)(a2:Tv ops k=true)(f:Ce8 ops nt k p)
 (h:Nz P nt ops H0 (ops.toList.take k) fr (λ_=>none) λV pv=>(∀x,pv x=none)/\AppT P nt A ops k p V H0 (Q .normal)):AB P nt rd (.region id ops true) fr H0 Q:=by
 intro r g w a _ C hF;refine wpIn_region_any q ?_;have⟨a7,N⟩:=Yy a2
 have S:k<=ops.size:=AY
 have sd:Al g w g w.drew:=⟨λ_ _ e=>e,λ_ _ e=>e,λ_ _ e=>e,rfl,λ_ _ _=>rfl,(AC _ _).drew,λ_ _ _=>rfl,GN _⟩
 have az:Rl g H0 w.drew:=by
  refine⟨λid b W=>(C.blk id b W).mono W sd λ_ _=>⟨rfl,λ_ X=>X⟩,C.inj,C.frz,C.nxt,C.bnd,λn=>(C.glb n).mono sd⟩
 have hI:AQ4 nt H0 g w.drew fr (λ_=>none) g w.drew a:=
  ⟨H0,λ_=>0,Al.refl _ _,az,hF.mono sd,λ_ _ h=>h,λd cs h=>(by cases h),λd d' cs cs' h=>(by cases h),λ_=>none,λd cs h=>(by cases h),λd d' cs cs' t h=>(by cases h),λcs h=>(by cases h)⟩
 have aa:(List.range k).map (λi=>ops.getD i default)=ops.toList.take k:=by
  apply Jk
  ·simp;omega
  intro i O h2
  simp at O
  simp[Array.getD,show i<ops.size by omega]
 have W:=YP (r:=r) (Q:=End nt g w Q) S (λi U=>⟨(N i U).1,λj D=>by
  rcases(N i U).2 j D with h|h
  ·exact h.imp (λh=>h) .inl
  exact .inr (.inr AY)⟩) (K:=λV pv=>(∀x,pv x=none)/\AppT P nt A ops k p V H0 (Q .normal)) (g0:=g) (w0:=w.drew)
  (λg' w' a' V pv y a4 B av hK=>?_) k (List.range k) (Array.replicate ops.size false) fr (λ_=>none) OC (UZ) (λi U=>by simpa using U) OC (λi b U=>by simp[Array.getD,U]) (λm j q _=>by simp[Array.getD]at q) (by rw[aa];exact h) g w.drew a hI
 ·rw[show k+(ops.size-k)=ops.size by omega]at W
  exact W
 have⟨H,a9,s,ax,ar,Y,a8,a5,_⟩:=av;have⟨_,xs,tl,ba,y0,vV,z,kk,e,sz,by_,u,a6,b1,b2,b3,b4,b5,b6,b7,b8,b9,ac,ad,ae,af,ag,ah,ai,aj,ak,al,am,an,ao,ap,G⟩:=hK;have I:=ax.less Y
 have v:H5 H0 tl g'.nx=none:=by
  have:=(I.nxt _ (C6 _)).2.2
  cases hd:H5 H0 tl g'.nx with
  |none=>rfl
  |some b=>rw[HW hd]at this;cases this
 have⟨cs,c1,c2,_⟩:=G _ v
 have a1:LC ops y λi=>decide (i<k):=⟨a4,B,λm j q D=>by
  have ab:m<ops.size:=by
   rcases R3 m ops.size with h|h
   ·exact h
   simp[Array.getD,show¬m<y.size by omega]at q
  rw[B m false ab]at q
  simp only[B3]at q
  have R:=(N m ab).1
  simp only[DF,Array.all_eq_true]at R
  simp only[HU,OV,G9,DL]at D
  obtain⟨x,M,rfl,a0⟩:=D;have:=R x M
  simp only[a0,W3,Jg,B3]at this
  rw[B _ false AY]
  simp only[B3];omega⟩
 have c:∀t cs,H5 H0 tl t=none->upd (H5 H0 tl) t (some .spare) u=some (.cells cs)->H0 u=some (.cells cs):=λt cs o h=>by
  by_cases e:u=t
  ·subst e;rw[E7]at h;cases h
  rw[C8 _ _ e]at h;exact HW h
 have J:=c _ _ v c1
 exact BE1 (A:=A) (r:=r) (K:=Q .normal) (g0:=g) (w0:=w) f (λi U=>⟨(N i U).1,λj D=>by
  rcases(N i U).2 j D with(h|h)|h
  ·exact .inl h
  ·exact .inr (.inl h.1)
  exact .inr (.inr h)⟩)
  (λg3 w3 a3 aq H3 s3 ay au aw=>⟨g3,aq,H3,s3,ay,au,aw⟩) a1 b1 b2 b3 b4 b5 b6 b7 b8 b9 ac ad ae af ag ah ai aj ak al am an ao J ap c2
  (λt o=>by
   have⟨cs',d1,d2,d3⟩:=G t o;have:=c _ _ o d1
   rw[J]at this
   cases this
   exact d3) g' w' a' (sd.trans s) I ar
end
section
variable (E:Hj)(T:JV)(nt:Nat)(A:Nat->Bool)
def BT0 (k :Nat) (p:YY) (ops:SI Oper) (l:Fl) (H:A5) (K:Fl->A5->Prop):Prop:=
 match(Y4 [] l p.sx).V,(Y4 [] l p.sy).V,(Y4 [] l p.nn).V,lk l p.tp with
 | .sl xs tl,.sl [y] _,.int _ m,.v (.ref h a)=>
  (match tg T p.sT,tg T p.yT,tg T p.t2,tg T p.eT,tg T p.t3 with
   | some I,some i,some n,some v,some w=>
    (match I.sl,i.sl,n.sl with
     | some e,some _,some x=>
      (match tg T e with
       | some J=>
        (match J.ze with
         | some z=>
          if 0<J.sz/\0<J.by_/\z.one=true/\z.cells.length=J.sz/\x=e/\v.sz=J.sz/\w.sz=1/\y.cells.length=J.sz/\(Y4 [] l p.zz).V.one=true/\(Y4 [] l p.zz).V.cells.length=J.sz then
           E.need (m=By5 xs) λ_=>
           E.appn J.sz J.by_ H tl xs [(Y4 [] l p.zz).V] λr H'=>E.storeP H' h a 1 [r] λb=>Vl E T nt A ops (ops.toList.drop (k+4)) ((p.tI,.v .bad)::(p.tA,.v r)::l) b K
          else False
         |none=>False)
       |none=>False)
     |_,_,_=>False)
   |_,_,_,_,_=>False)
 |_,_,_,_=>False
def BV7 (k:Nat)(ops:SI Oper)(l:Fl)(H:A5)(K:Fl->A5->Prop):Prop:=
 match BE6 nt k ops with
 |some p=>Jx E T nt A [] ops (ops.toList.take k) l [] none [] none H λa pv pe tk=>(match pv,pe,tk with|[],none,[]=>BT0 E T nt A k p ops a H K|_,_,_=>False)
 |none=>False
end
section
variable {P:Program}{nt:Nat}{rd:Option Nat}{T:JV}{A:Nat->Bool}{df:List Nat}
def AG6(i:Oz P T){ops:SI Oper}{id:Nat}(hm:P.follows .mixedOrders=true)(n:Tv ops k=true)
 (h:BV7 (J1 P nt rd) T nt A k ops l H K):AB P nt rd (.region id ops true) (J7 ⟨l,df⟩) H λe fr H'=>e= .normal/\∃a,fr=J7 ⟨a,df⟩/\K a H':=by
 unfold BV7 at h
 split at h
 ·rename_i p v;have f:=BE5 (Yy n).1 v;refine AB.appF (A:=A) hm n f ?_
  have e0:(λ_=>none:Pv)=BQ [] none [] none:=by funext x;cases x<;>rfl
  rw[e0];refine Ln (λfr pv ⟨a,pl,ac,ad,ab,y,e2,e4,e3,h⟩=>?_) _ _ _ (Er (df:=df) i _ _ _ _ _ _ h);cases e4 rfl;subst y;subst e2
  split at h
  ·refine ⟨λx=>by cases x<;>rfl,?_⟩
   unfold BT0 at h
   split at h
   ·rename_i xs tl y0 u kk m j w M U R g
    split at h
    ·rename_i I I2 I3 I4 I5 O h2 h3 h4 h5
     split at h
     ·rename_i e e2 aa q1 q2 q3
      split at h
      ·rename_i J V
       split at h
       ·rename_i z Y
        have N:=(I7 i V).ze;rw[Y]at N;simp only[Eh]at N
        split at h
        ·rename_i d;have⟨c1,c2,c3,c4,c5,c6,c7,c8,c9,Nh⟩:=d;have⟨c,b,ys',D,G,W,X,a5,a6,a7,a8⟩:=h;have C:∀x,(Y4 [] a x).V=ev (J7 ⟨a,df⟩) x:=λx=>HS OF.nil x
         rw[C]at M U R c9 Nh
         rw[C]at G
         obtain⟨vV,rfl,hle⟩:∃vV,ys'=[vV]/\DI (ev (J7 ⟨a,df⟩) p.zz) vV:=by
          cases G with
          |cons q r=>cases r;exact⟨_,rfl,q⟩
         have B:=D.length
         refine⟨b,tl,u,y0,vV,z,kk,e,J.sz,J.by_,j,w,by rw[M];exact .slt _ D,U,c8,by rw[R,c,AY2,B],hle,hle.one c9,by rw[<-hle.cells.length];exact Nh,
          (I7 i O).sl.trans q1,by rw[(I7 i h2).sl,q2];rfl,by rw[(I7 i h3).sl,q3,c5],(I7 i V).sz,by rw[(I7 i h4).sz,c6],c1,(I7 i V).by_,c2,N,c3,c4,W,X,by simpa using a6,
          PZ a p.tp _ g (λ_ _ _ h=>by cases h),by rw[(I7 i h5).sz,c7],λt o=>?_⟩
         have⟨cs,g1,g2,g3⟩:=a8 t OC o;refine⟨cs,g1,Js g2,?_⟩;have:=Jv (df:=df) i _ _ _ g3
         have ef:J7 ⟨(p.tI,.v .bad)::(p.tA,.v (.sl (b++[vV]) (.tok t)))::a,df⟩=((J7 ⟨a,df⟩).put (some p.tA) (.sl (b++[vV]) (.tok t))).put (some p.tI) .bad:=by
          have y:=R8 (df:=df) ((p.tA,.v (.sl (b++[vV]) (.tok t)))::a) (some p.tI) (.v .bad);have e2:=R8 (df:=df) a (some p.tA) (.v (.sl (b++[vV]) (.tok t)))
          simp only[FY]at y e2
          rw[y,e2];rfl
         rw[ef]at this
         exact Uj (λfr H' ⟨s,e,S⟩=>⟨rfl,s,e,S⟩) _ _ _ this
        exact h.elim
       exact h.elim
      exact h.elim
     exact h.elim
    exact h.elim
   exact h.elim
  exact h.elim
 exact h.elim
end
end Go.Ab
namespace Go.Ab
open Go.RowKit
variable [O7]
section
variable (P:Program)(A:Zb)(nt:Nat)(ops:Array Oper)
def BT3 (o:Oper) (fr:Fr) (H:A5) (K:Fr->A5->Prop):Prop:=
 Kb nt o.dst=true/\
  match DC ops fr o with
  |some true=>Lv P A o (ev fr) H λv H'=>K (fr.put o.dst v) H'
  |some false=>K (fr.put o.dst (.tup [])) H
  |none=>False
def Rm:Nat->SI Bool->Fr->A5->(Fr->A5->Prop)->Prop
 |0,a,fr,H,K=>Region.ready .any ops a=[]/\K fr H
 | n +1,a,fr,H,K=>(Region.ready .any ops a=[]->K fr H)/\
     ∀i∈Region.ready .any ops a,BT3 P A nt ops (ops.getD i default) fr H λb H'=>Rm n (a.setIfInBounds i true) b H' K
end
section
variable {P:Program}{nt:Nat}{ops:Array Oper}{A:Zb}{r:Option Nat}{K:Fr->A5->Prop}{Q:Exit->Act->World->Prop}{g0:Gh}{w0:World}
def Bb5 (y:∀g w a fr H,Al g0 w0 g w->Rl g H w->FR nt g w a fr->K fr H->Q .normal a w):
 ∀(n:Nat) (b:SI Bool) (fr:Fr) (H:A5),Rm P A nt ops n b fr H K->
  ∀g w a,Al g0 w0 g w->Rl g H w->FR nt g w a fr->wpAnyIn (Fw r) 0 P .any ops Q n b a w
 |0,b,fr,H,h,g,w,a,s,C,k=>⟨h.1,y g w a fr H s C k h.2⟩
 |n+1,b,fr,H,h,g,w,a,s,C,k=>by
  refine⟨λe=>y g w a fr H s C k (h.1 e),λi U=>?_⟩;obtain⟨O,_,_⟩:=FC U;have G:=h.2 i U
  have d:ops.getD i default=ops[i]:=by simp[Array.getD,O]
  rw[d]at G
  obtain⟨hd,G⟩:=G;have ih:=Bb5 y n (b.setIfInBounds i true);simp only[wpOpIn,DX O]
  split at G
  ·rename_i V;rw[A2 (AL k.s V)];exact ZH C k hd G λg' w' c v H' j N x f=>ih _ _ f g' w' c (s.trans j) N x
  ·rename_i V;rw[A1 (by rw[AL k.s V];simp)];exact⟨λ_ _=>trivial,ih _ _ G g w _ s C (k.put (HV hd) (VR.und _ _))⟩
  exact G.elim
def Og.all {rd:OS Nat} {fr:Fr} {H0:A5} {Q:Exit->Fr->A5->Prop} (h:Rm P A nt ops ops.size (Array.replicate ops.size false) fr H0 (Q .normal)):Og P nt rd ops fr H0 Q:=by
 intro r g w a _ C N;have i:Al g w g w.drew:=⟨λ_ _ e=>e,λ_ _ e=>e,λ_ _ e=>e,rfl,λ_ _ _=>rfl,(AC _ _).drew,λ_ _ _=>rfl,GN _⟩
 have y:Rl g H0 w.drew:=by
  refine⟨λid b W=>(C.blk id b W).mono W i λ_ _=>⟨rfl,λ_ X=>X⟩,C.inj,C.frz,C.nxt,C.bnd,λn=>(C.glb n).mono i⟩
 exact Bb5 (r:=r) (g0:=g) (w0:=w) (λg' w' d k H' c x v V=>⟨g',k,H',c,x,v,V⟩) _ _ fr H0 h g w.drew a i y (N.mono i)
end
end Go.Ab
namespace Go.Ab
open Go.RowKit
variable [O7][Ar]
def Cb9:Up Nat->(Nat->Prop)->Prop
 |[],_=>True
 |[i],f=>f i
 |i::l,f=>f i/\Cb9 l f
def AE2:∀{l:Up Nat} {f:Nat->Prop},Cb9 l f->∀i∈l,f i
 |[],_,_,i,h=>by cases h
 |[a],f,h,i,U=>by rw[List.mem_singleton.1 U];exact h
 |a::b::l,f,h,i,U=>by
  rcases List.mem_cons.1 U with rfl|U
  ·exact h.1
  exact AE2 h.2 i U
section
variable (E:Hj)(T:JV)(nt:Nat)(A:Nat->Bool)(ops:Array Oper)
def BS5 (o:Oper)(l:Fl)(H:A5)(K:Fl->A5->Prop):Prop:=
 match Kb nt o.dst with
 |true=>KO E ops o 4 l (λG a b=>JF E T A G o a H λs H'=>K (FY o.dst (b s) a) H') λa=>K (FY o.dst (.v (.tup [])) a) H
 |false=>False
end
section
variable {P:Program}{nt:Nat}{rd:Option Nat}{T:JV}{A:Nat->Bool}{df:List Nat}
end
end Go.Ab
namespace Go.Ab
open Go.RowKit
variable [O7]
variable{K:V->A5->Prop}
section
variable {P:Program}
def Bh7{A:Zb}{o:Oper}{k ρ':By->V}{H:A5}(a:∀x∈o.op.operands,k x=ρ' x)(h:Lv P A o k H K):Lv P A o ρ' H K:=by
 have j:∀{v},Sq P o k H v->Sq P o ρ' H v:=Ul a
 unfold Lv at h ⊢
 cases X:o.op<;>simp only[X]at h ⊢ a<;>first
  |exact h
  |(have⟨v,O,N⟩:=h;exact⟨v,j O,N⟩)
  | (simp only[Op.operands,Jl,Cx,EU,or_false,forall_eq_or_imp,forall_eq]at a
     first
      |(rw[<-a];exact h)
      |(rw[<-a.1,<-a.2];exact h)
      |(rw[<-a.1,<-a.2.1,<-a.2.2];exact h))
  |skip
 ·rename_i t n w
  have e:w.toList.map (λp=>(p.1,k p.2))=w.toList.map (λp=>(p.1,ρ' p.2)):=AT λp g=>by rw[a p.2 (by simp only[Op.operands,Jl,BT];grind)]
  rw[<-e]
  grind
 ·rename_i m t x y _;rw[<-a x (by simp[Op.operands]),<-a y (by simp[Op.operands])]
  grind
 rename_i c;have i:c.args.toList.map k=c.args.toList.map ρ':=AT λp g=>a p (by simp only[Op.operands,Call.operands,LQ];simp_all);rw[<-i]
 cases d:c.callee with
 |value f=>
  simp only[d]at h ⊢
  exact zc1
 |builtin b=>rw[d]at h;cases b<;>exact h
 |_=>rw[d]at h;exact h.elim
def TY:Op->Bool
 | .move _=>true
 | .assign _=>true
 | .pick _ _ _=>true
 | .build _ _=>true
 | .binOp _ _ _ _ _=>true
 | .unOp _ _ _=>true
 | .fieldAddr _ _ _=>true
 | .field _ _ _=>true
 | .extract _ _=>true
 | .load _ _=>true
 | .call c=>match c.callee with| .builtin .len=>true|_=>false
 |_=>false
def Bu7{A:Zb}{o:Oper}{a:By->V}{H:A5}{v:V}(G:TY o.op=true)(h:Sq P o a H v)(S:K v H):Lv P A o a H K:=by
 grind[Lv,TY,Sq]
variable {A:Zb}{nt:Nat}{ops:Array Oper}
def Ym (ops:SI Oper)(i:Nat):Bool:=
 TY (ops.getD i default).op&&(ops.getD i default).guard.isNone&&(List.range ops.size).all λj=>j==i||HU (ops.getD j default) i||HU (ops.getD i default) j||(ops.getD i default).apart ops (ops.getD j default)
theorem Bm9{i:Nat}(U:i<ops.size)(q:Ym ops i=true)(w:Kb nt (ops.getD i default).dst=true){K:Fr->A5->Prop}{v:V}:∀(n:Nat) (a:SI Bool) (fr:Fr) (H:A5),i∈Region.ready .any ops a->(∀H',Sq P (ops.getD i default) (ev fr) H' v)->
 Rm P A nt ops n (a.setIfInBounds i true) (fr.put (ops.getD i default).dst v) H K->Rm P A nt ops (n+1) a fr H K:=by
 simp only[Ym,G9,EL,ET,L7,DL]at q
 have⟨⟨d,f⟩,N⟩:=q
 have f:(ops.getD i default).guard=none:=by simpa using f
 have first:∀(fr:Fr) (H:A5) (K':Fr->A5->Prop),(∀H',Sq P (ops.getD i default) (ev fr) H' v)->K' (fr.put (ops.getD i default).dst v) H->BT3 P A nt ops (ops.getD i default) fr H K':=λfr H K' c S=>by
  refine⟨w,?_⟩
  have:DC ops fr (ops.getD i default)=some true:=by simp_all[DC]
  rw[this];exact Bu7 d (c H) S
 intro n
 induction n with
 |zero=>
  intro a fr H k c h;refine⟨λe=>(by rw[e]at k;cases k),λj z=>?_⟩
  by_cases b:j=i
  ·simp_all
  have:=Go.ready_mono z b
  rw[h.1]at this;cases this
 | succ n ih=>
  intro a fr H k c h;refine⟨λe=>(by rw[e]at k;cases k),λj z=>?_⟩
  by_cases b:j=i
  ·simp_all
  have O:=h.2 j (Go.ready_mono z b);have⟨t,s,p⟩:=FC z;have⟨_,o,_⟩:=FC k
  have y:(ops.getD i default).apart ops (ops.getD j default)=true:=by
   grind
  have⟨g,C,D⟩:=Oper.apart_spec y
  have B:∀(u:V) (H':A5),Rm P A nt ops n ((a.setIfInBounds i true).setIfInBounds j true) ((fr.put (ops.getD i default).dst v).put (ops.getD j default).dst u) H' K->Rm P A nt ops (n+1) (a.setIfInBounds j true) (fr.put (ops.getD j default).dst u) H' K:=λu H' S=>by
   refine ih _ _ _ (Go.ready_mono k λe=>b e.symm) (λm=>Ul (λx M=>(PY D x M).symm) (c m)) ?_;rw[Array.setIfInBounds_comm _ _ b,<-Au2 C];exact S
  have⟨hd,G⟩:=O;refine⟨hd,?_⟩
  rw[Vz g]at G
  split at G
  ·exact PU (Bh7 (PY g) G) λu H' S=>B u H' S
  ·grind
  omega
end
end Go.Ab
namespace Go.Ab
open Go.RowKit
variable [O7][Ar]
variable{H0:A5}{K:V->A5->Prop}{Q:Exit->Fr->A5->Prop}{c:Code}{st:St}
def AM4:Up Nat->Nat->Bool
 |[],_=>false
 |a::l,n=>match n==a with|true=>true|false=>AM4 l n
def Ay9:∀{l:Up Nat} {n:Nat},AM4 l n=true->n∈l
 |[],_,h=>by cases h
 |a::l,n,h=>by
  unfold AM4 at h
  cases e:n==a with
  |true=>rw[beq_iff_eq.1 e];simp
  |false=>rw[e]at h;exact M1 _ (Ay9 h)
section
variable (E:Hj)(T:JV)(nt:Nat)(A:Nat->Bool)(ops:Array Oper)(fl:List Nat)
def Wh (o:Oper)(l:Fl):Bool:=
 match o.op with
 | .load _ x=>(match Y4 [] l x with| .v (.eref _ _)=>true|_=>false)
 |_=>true
def Nx (l:Fl):Up Nat->OS Nat
 |[]=>none
 |i::r=>match AM4 fl i with
  |true=>(match Wh (ops.getD i default) l with|true=>some i|false=>Nx l r)
  |false=>Nx l r
def ZG:Nat->SI Bool->Fl->A5->(Fl->A5->Prop)->Prop
 |0,a,l,H,K=>match Region.ready .any ops a with|[]=>K l H|_::_=>False
 | n +1,a,l,H,K=>
  match Region.ready .any ops a with
  |[]=>K l H
  | i::r=>
   match Nx ops fl l (i::r)with
   | some j=>
    (match Kb nt (ops.getD j default).dst with
     |true=>xq E T [] (ops.getD j default) l H λs=>ZG n (a.setIfInBounds j true) (FY (ops.getD j default).dst (Sl.n s) l) H K
     |false=>False)
   |none=>Cb9 (i::r) λi=>BS5 E T nt A ops (ops.getD i default) l H λb H'=>ZG n (a.setIfInBounds i true) b H' K
end
def Lf {ops:SI Oper} {fl:Up Nat} {l:Fl} {j:Nat}:∀{r:Up Nat},Nx ops fl l r=some j->j∈r/\AM4 fl j=true/\Wh (ops.getD j default) l=true
 |[],h=>by cases h
 | i::r,h=>by
  unfold Nx at h
  cases O:AM4 fl i with
  |true=>
   rw[O]at h
   cases a:Wh (ops.getD i default) l with
   |true=>rw[a]at h;simp_all
   |false=>rw[a]at h;have:=Lf h;simp_all
  |false=>rw[O]at h;have:=Lf h;simp_all
section
variable {P:Program}{nt:Nat}{rd:Option Nat}{T:JV}{A:Nat->Bool}{df:List Nat}
theorem Bh5{o:Oper}{n:By->V}{H:A5}{v:V}(G:TY o.op=true)(B:∀t x,o.op= .load t x->∃cs off,n x= .eref cs off)(h:Sq P o n H v)(H':A5):Sq P o n H' v:=by
 unfold Sq at h ⊢
 cases X:o.op<;>simp only[X,TY,D4]at G h ⊢ <;>first
  |exact h
  |skip
 ·rename_i t x;have⟨cs,off,e⟩:=B t x X
  rw[e]at h ⊢
  rcases h with h|h
  ·left
   unfold Mu at h ⊢
   grind
  simp_all[Rh]
 rename_i c
 cases a:c.callee with
 | builtin b=>
  rw[a]at G h
  cases b with
  | len=>
   have h:Fq P .len c.argTypes.toList (c.args.toList.map n) v\/RU P H .len c.argTypes.toList (c.args.toList.map n) v:=h
   have k:∀(i:Up Do) (vs:Up V),RU P H .len i vs v->RU P H' .len i vs v:=λi vs h=>by
    rcases i with _|⟨t,_|⟨w,i⟩⟩<;>rcases vs with _|⟨x,_|⟨y,vs⟩⟩<;>first
     |exact h
     |exact h.elim
   grind
  |_=>cases G
 |_=>rw[a]at G;cases G
def Jw (w:Oz P T) {ops:SI Oper} {fl:Up Nat} (b:∀i,AM4 fl i=true->Ym ops i=true) {K:Fl->A5->Prop}:∀(n:Nat) (a:SI Bool) (l:Fl) (H:A5),ZG (J1 P nt rd) T nt A ops fl n a l H K->Rm P A nt ops n a (J7 ⟨l,df⟩) H λfr H'=>∃y,fr=J7 ⟨y,df⟩/\K y H'
 |0,a,l,H,h=>by
  unfold ZG at h
  split at h
  ·rename_i e;exact⟨e,l,rfl,h⟩
  grind
 | n +1,a,l,H,h=>by
  unfold ZG at h
  split at h
  ·rename_i e;exact⟨λ_=>⟨l,rfl,h⟩,λi U=>by rw[e]at U;cases U⟩
  rename_i i0 D e
  split at h
  ·rename_i j z;have⟨j1,j2,j3⟩:=Lf z
   rw[<-e]at j1
   have⟨C,_,_⟩:=FC j1;have q:=b j j2
   split at h
   ·rename_i hd;have⟨s,c,S⟩:=Sr (df:=df) w OF.nil h
    have u:TY (ops.getD j default).op=true:=by
     have:=q
     simp_all[Ym]
    have B:∀t x,(ops.getD j default).op= .load t x->∃cs off,ev (J7 ⟨l,df⟩) x= .eref cs off:=λt x X=>by
     unfold Wh at j3
     rw[X]at j3
     dsimp only at j3
     split at j3
     ·rename_i cs off R;exact⟨cs,off,by rw[<-HS (df:=df) OF.nil x,R];rfl⟩
     cases j3
    have k:=Jw w b n _ _ _ S
    rw[R8]at k
    have V:Zz l (Sl.n s)=s.V:=by cases s<;>rfl
    rw[V]at k
    grind[Bm9,Bh5]
   grind
  refine⟨(λg=>by rw[e]at g;cases g),λi U=>?_⟩
  rw[e]at U
  have h:=AE2 h i U
  unfold BS5 at h
  split at h
  ·rename_i hd;refine⟨hd,?_⟩;have⟨y,e,h⟩:=Hm (df:=df) 4 l h
   have e:J7 ⟨y,df⟩=J7 ⟨l,df⟩:=by simp_all[J7]
   rcases h with⟨N,G,I,p,f,h⟩|⟨N,h⟩
   ·rw[N];rw[<-e];refine PU (TP (df:=df) w p h) λv H' ⟨s,V,S⟩=>?_;subst V;rw[<-f s,<-R8];exact Jw w b n _ _ _ S
   rw[N];rw[<-e]
   rcases h with h|⟨G,d,m,o,W,h⟩
   ·have:=Jw w b n _ _ _ h
    rw[R8]at this
    exact this
   have⟨s,h⟩:=Af9 w o h;have:=Jw w b n _ _ _ h
   rw[R8]at this
   simp_all[Zz]
  grind
end
def RN:Up Nat->Nat->Bool
 |[],_=>false
 |x::l,n=>match n==x with|true=>true|false=>RN l n
def Bk1:Up (Nat×Nat)->Nat->Nat
 |[],_=>0
 |(x,y)::l,n=>match Nat.beq n x with|true=>y|false=>Bk1 l n
def Ak9:Up (Nat×Nat)->Nat->Up Nat
 |[],_=>[]
 |(x,y)::l,n=>match n==x with|true=>y::Ak9 l n|false=>Ak9 l n
structure Cf where
 A:List Nat
 hk:List (Nat×Nat)
 J:List (Nat×Nat)
 JB:List Nat
 Z:List (Nat×Nat)
 W:List (Nat×Nat×List Nat)
def wAt:Up (Nat×Nat×Up Nat)->Nat->OS (Nat×Up Nat)
 |[],_=>none
 |(q,d)::l,n=>match Nat.beq n q with|true=>some d|false=>wAt l n
def zAt:Up (Nat×Nat)->Nat->Up Nat
 |[],_=>[]
 |(q,d)::l,n=>match n==q with|true=>d::zAt l n|false=>zAt l n
def BV4:Up (Nat×Nat)->Nat->Up Nat
 |[],_=>[]
 |(q,d)::l,n=>match n==q with|true=>d::BV4 l n|false=>BV4 l n
def memP:Up (Nat×Nat)->Nat->Nat->Bool
 |[],_,_=>false
 |(x,y)::l,a,b=>match Nat.beq a x&&Nat.beq b y with|true=>true|false=>memP l a b
def Zu:Code->Nat
 | .region id _ _=>id+1
 | .seq a b=>(match Zu a with|0=>Zu b|n+1=>n+1)
 | .cond _ a b=>(match Zu a with|0=>Zu b|n+1=>n+1)
 | .block _ c=>Zu c
 | .loop c=>Zu c
 | .rangeFunc _ _ a b=>(match Zu a with|0=>Zu b|n+1=>n+1)
 |_=>0
def M4 (cf:Cf):Code->Bool
 | .seq a b=>M4 cf a&&M4 cf b
 | .cond _ a b=>M4 cf a&&M4 cf b
 | .block _ c=>M4 cf c
 | .loop c=>M4 cf c
 | .rangeFunc _ _ a b=>M4 cf a&&M4 cf b
 | .region id ops true=>match RN cf.JB (id+2000000)with|true=>(Ak9 cf.hk (id+3000000)).all (Ym ops)|false=>match RN cf.JB (id+1000000)with|true=>Tv ops (Bk1 cf.hk id)|false=>Yz ops (Bk1 cf.hk id)&&decide (JH (ops.toList.take (Bk1 cf.hk id))).Nodup
 |_=>true
section
variable (E:Hj)(T:JV)(nt:Nat)(cf:Cf)
def Ba7 (c:By) (st:St) (a b:St->Prop):Prop:=
 match Y4 [] st.l c with
 | .b true=>a st
 | .b false=>b st
 | .v (.bool t)=>
  (match c with
   | .tmp d=>E.br t (λ_=>a ⟨Ub st.l d true,st.df⟩) (λ_=>b ⟨Ub st.l d false,st.df⟩)
   |_=>E.br t (λ_=>a st) (λ_=>b st))
 |_=>False
def Am4 (id:Nat)(K:Exit->St->A5->Prop)(e:Exit)(a:St)(H':A5):Prop:=
 match e with
 | .exit b=>(match Nat.beq b id with|true=>K .normal a H'|false=>K (.exit b) a H')
 |e=>K e a H'
def Ch6 (c:By)(a b:Code):Bool:=
 match c with
 | .tmp d=>memP cf.J d (match Zu a with|0=>Zu b|n+1=>n+1)
 |_=>false
def run:Code->St->A5->(Exit->St->A5->Prop)->Prop
 | .skip,st,H,K=>K .normal st H
 | .ret,st,H,K=>K .ret st H
 | .exit id,st,H,K=>K (.exit id) st H
 | .seq a b,st,H,K=>run a st H λe i H'=>match e with| .normal=>run b i H' K|e=>K e i H'
 | .cond c a b,st,H,K=>
  (match Ch6 cf c a b with
   |true=>E.sim (.cond c a b) st H K
   |false=>Ba7 E c st (λst=>run a st H K) (λst=>run b st H K))
 | .block id c,st,H,K=>
  (match RN cf.JB id with
   |true=>E.sim (.block id c) st H K
   |false=>run c st H (Am4 id K))
 | .region _ ops false,st,H,K=>Ss E T nt (RN cf.A) (zAt cf.Z) ops ops.toList st.l H λh H'=>K .normal ⟨h,st.df⟩ H'
 | .region id ops true,st,H,K=>
  (match RN cf.JB (id+2000000)with
   |true=>E.sim (.region id ops true) st H K
   | false=>
    (match RN cf.JB (id+1000000)with
     |true=>BV7 E T nt (RN cf.A) (Bk1 cf.hk id) ops st.l H λh H'=>K .normal ⟨h,st.df⟩ H'
     |false=>Su E none (BV4 cf.Z (id+400000000)) st.l H λl H=>Bo7 E T nt (RN cf.A) (wAt cf.W id) (Bk1 cf.hk id) ops l H λh H'=>K .normal ⟨h,st.df⟩ H'))
 |c,st,H,K=>E.sim c st H K
def Bs5:Code->St->A5->(Exit->St->A5->Prop)->Prop
 | .cond c a b,st,H,K=>Ba7 E c st (λst=>run E T nt cf a st H K) (λst=>run E T nt cf b st H K)
 | .block id c,st,H,K=>run E T nt cf c st H (Am4 id K)
 | .region id ops true,st,H,K=>
  (match RN cf.JB (id+2000000)with
   |true=>ZG E T nt (RN cf.A) ops (Ak9 cf.hk (id+3000000)) ops.size (Array.replicate ops.size false) st.l H λe H'=>K .normal ⟨e,st.df⟩ H'
   |false=>run E T nt cf (.region id ops true) st H K)
 |c,st,H,K=>run E T nt cf c st H K
end
section
variable {P:Program}{nt:Nat}{rd:Option Nat}{T:JV}{cf:Cf}
def AB.frLe{fr:Fr}{H:A5}(q:Ib fr st)(h:AB P nt rd c (J7 st) H Q):AB P nt rd c fr H Q:=
 h.less q.s q.df.symm λ_ _ h=>h
theorem Ib.refl (st:St):Ib (J7 st) st:=⟨λ_=>Wk.refl _,rfl⟩
def AB.of_frz{ds:Up Nat}{H:A5}{k:Fl->A5->Prop}(h:Su (J1 P nt rd) none ds st.l H k)(S:∀b H',k b H'->AB P nt rd c (J7 ⟨b,st.df⟩) H' Q):AB P nt rd c (J7 st) H Q:=
 λr g w a x C v=>by
  obtain⟨g',b,H',s,i,e,n⟩:=DY none ds st.l H g k (λ_ _ _ _ h=>by cases h) C v h;exact wpIn_mono (S b H' n r g' w a (Bn2.mono x s) i e) λ_ _ _=>End.later s
theorem VL{c:By}{a b:Code}{H:A5}{v w:St->Prop}(h:Ba7 (J1 P nt rd) c st v w)(u:∀i,J7 i=J7 st->v i->AB P nt rd a (J7 i) H Q)(W:∀i,J7 i=J7 st->w i->AB P nt rd b (J7 i) H Q):AB P nt rd (.cond c a b) (J7 st) H Q:=by
 have k:ev (J7 st) c=(Y4 [] st.l c).V:=(HS (df:=st.df) OF.nil c).symm
 unfold Ba7 at h
 split at h
 ·rename_i R;exact AB.cond (t:=true) (by rw[k,R];rfl) (λ_=>u st rfl h) (λe=>by cases e)
 ·rename_i R;exact AB.cond (t:=false) (by rw[k,R];rfl) (λe=>by cases e) (λ_=>W st rfl h)
 ·rename_i t R
  split at h
  ·rename_i d
   have x:EJ st.l d= .bool t:=by
    have:=AV2 (l:=st.l) OF.nil d
    rw[show BK9 [] st.l d= .v (.bool t)from R]at this
    exact this.symm
   obtain⟨O,n⟩:=h;refine AB.cond (t:=t) (by rw[k,R];rfl) (λe=>?_) (λe=>?_)
   ·grind[J7,UB]
   grind[J7,UB]
  obtain⟨O,n⟩:=h;exact AB.cond (t:=t) (by rw[k,R];rfl) (λe=>u st rfl (O e)) (λe=>W st rfl (n e))
 grind
theorem Q6 (v:Oz P T) (p:P.follows .mixedOrders=true):∀(c:Code) (st:St) (H:A5) (K:Exit->St->A5->Prop),M4 cf c=true->run (J1 P nt rd) T nt cf c st H K->AB P nt rd c (J7 st) H λe k H'=>∃i,Ib k i/\K e i H'
 | .skip,st,H,K,hd,h=>AB.skip ⟨st,Ib.refl _,h⟩
 | .ret,st,H,K,hd,h=>AB.ret ⟨st,Ib.refl _,h⟩
 | .exit id,st,H,K,hd,h=>AB.exit ⟨st,Ib.refl _,h⟩
 | .seq a b,st,H,K,hd,h=>by
  simp only[M4,G9]at hd
  refine AB.seq ((Q6 v p a st H _ hd.1 h).mono λe k H' ⟨i,q,S⟩=>?_)
  cases e with
  |normal=>exact AB.frLe q (Q6 v p b i H' K hd.2 S)
  |_=>exact⟨i,q,S⟩
 | .cond c a b,st,H,K,hd,h=>by
  simp only[M4,G9]at hd
  unfold run at h
  split at h
  ·exact h
  exact VL h (λi _ h=>Q6 v p a i H K hd.1 h) (λi _ h=>Q6 v p b i H K hd.2 h)
 | .block id c,st,H,K,hd,h=>by
  unfold run at h
  split at h
  ·exact h
  refine AB.block ((Q6 v p c st H _ hd h).mono λe k H' ⟨i,q,S⟩=>?_)
  cases e with
  |exit f=>
   unfold Am4 at S
   dsimp only at S ⊢
   split at S
   ·rename_i e;rw[A2 (DW e)];grind
   rename_i e;rw[A1 (λx=>TQ)];grind
  |_=>exact⟨i,q,S⟩
 | .region id ops false,st,H,K,hd,h=>by
  unfold run at h
  intro r g w a m C N;refine wpIn_region ?_
  have:=AG0 (P:=P) (nt:=nt) (rd:=rd) (T:=T) (A:=RN cf.A) (Z:=zAt cf.Z) (df:=st.df) v (ops:=ops) (r:=r) (K:=λy H'=>K .normal ⟨y,st.df⟩ H') (Q:=End nt g w λe k H'=>∃i,Ib k i/\K e i H') (g0:=g) (w0:=w)
   (λg' w' j y H' s C N d=>⟨g',_,H',s,C,N,⟨y,st.df⟩,Ib.refl _,d⟩) ops.size 0 st.l H AY Pw g w a (Al.refl _ _) C N
  rwa[<-Ju]at this
 | .region id ops true,st,H,K,hd,h=>by
  cases n:RN cf.JB (id+2000000)with
  |true=>
   unfold run at h
   rw[n]at h
   exact h
  |false=>
  cases z:RN cf.JB (id+1000000)with
  |true=>
   simp only[M4,n,z]at hd
   unfold run at h
   rw[n]at h
   simp only[z]at h
   refine(AG6 (df:=st.df) v p hd h).mono λe fr H' ⟨R,y,V,S⟩=>?_
   grind[Ib.refl]
  |false=>
   simp only[M4,n,z,G9,B3]at hd
   unfold run at h
   rw[n]at h
   simp only[z]at h
   refine AB.of_frz h λo J h=>?_;refine(AB.of_any p (Bc5 (df:=st.df) v hd.1 hd.2 h)).mono λe fr H' ⟨R,y,V,S⟩=>?_
   grind[Ib.refl]
 | .loop c,st,H,K,hd,h=>h
 | .rangeFunc g t a b,st,H,K,hd,h=>h
 | .scope c,st,H,K,hd,h=>h
 | .label l,st,H,K,hd,h=>h
 | .goto l,st,H,K,hd,h=>h
 | .refuse w,st,H,K,hd,h=>h
def AI5 (n:Oz P T) (p:P.follows .mixedOrders=true):∀(c:Code) (st:St) (H:A5) (K:Exit->St->A5->Prop),M4 cf c=true->Bs5 (J1 P nt rd) T nt cf c st H K->AB P nt rd c (J7 st) H λe y H'=>∃k,Ib y k/\K e k H'
 | .cond c a b,st,H,K,hd,h=>by
  simp only[M4,G9]at hd
  grind[Bs5,VL,Q6]
 | .block id c,st,H,K,hd,h=>by
  unfold Bs5 at h
  refine AB.block ((Q6 n p c st H _ hd h).mono λe y H' ⟨k,q,S⟩=>?_)
  cases e with
  |exit d=>
   unfold Am4 at S
   dsimp only at S ⊢
   split at S
   ·rename_i e;rw[A2 (DW e)];grind
   rename_i e;rw[A1 (λx=>TQ)];grind
  |_=>exact⟨k,q,S⟩
 | .skip,st,H,K,hd,h=>Q6 n p _ st H K hd h
 | .ret,st,H,K,hd,h=>Q6 n p _ st H K hd h
 | .exit id,st,H,K,hd,h=>Q6 n p _ st H K hd h
 | .seq a b,st,H,K,hd,h=>Q6 n p _ st H K hd h
 | .region id ops false,st,H,K,hd,h=>Q6 n p _ st H K hd h
 | .region id ops true,st,H,K,hd,h=>by
  unfold Bs5 at h
  dsimp only at h
  cases v:RN cf.JB (id+2000000)with
  |false=>rw[v]at h;grind[Q6]
  |true=>
   rw[v]at h
   simp only[M4,v]at hd
   have V:=Jw (df:=st.df) n (λi U=>List.all_eq_true.1 hd i (Ay9 U)) _ _ _ _ h;refine(AB.of_any p (Og.all (Q:=λe fr H'=>match e with| .normal=>∃N,fr=J7 ⟨N,st.df⟩/\K .normal ⟨N,st.df⟩ H'|_=>False) V)).mono λe fr H' f=>?_
   grind[Ib.refl]
 | .loop c,st,H,K,hd,h=>h
 | .rangeFunc g j a b,st,H,K,hd,h=>h
 | .scope c,st,H,K,hd,h=>h
 | .label l,st,H,K,hd,h=>h
 | .goto l,st,H,K,hd,h=>h
 | .refuse w,st,H,K,hd,h=>h
def Rf (K:V->A5->Prop)(H:A5)(vs:Up V):Prop:=
 match vs with
 |[x]=>K x H
 |l=>K (.tup l) H
theorem Xm{H:A5}{vs:Up V}(h:Rf K H vs):K (Vx vs) H:=by
 unfold Rf at h
 grind[Vx]
def Cj2 (v:V)(k:Up V->Prop)(vs:Up V):Prop:=k (v::vs)
def Zo (E:Hj)(T:JV)(l:Fl)(H:A5):Up ResultVar->(Up V->Prop)->Prop
 |[],k=>k []
 | .tmp t::r,k=>Zo E T l H r λvs=>Cj2 (EJ l t) k vs
 | .cell a t::r,k=>(match EJ l a with| .elem _ _ _ _=>False|x=>AR4 E T t x H λv=>Zo E T l H r λvs=>k (v::vs))
def NI (e:Oz P T) {l:Fl} {H:A5} {df:Up Nat}:∀(i:Up ResultVar) (k:Up V->Prop),Zo (J1 P nt rd) T l H i k->∃vs,ED P (J7 ⟨l,df⟩) H i=some vs/\k vs
 |[],k,h=>⟨[],rfl,h⟩
 | .tmp t::r,k,h=>by
  obtain⟨vs,O,b⟩:=NI (df:=df) e r _ h;exact⟨_,by grind[ED,J7],b⟩
 | .cell a t::r,k,h=>by
  unfold Zo at h
  split at h
  ·exact h.elim
  rename_i x n;obtain⟨v,O,b⟩:=Ps e h
  have O:Mu P H t (EJ l a)=some v:=O.elim (λh=>h) λh=>by
   simp_all[Rh]
  obtain⟨vs,w,y⟩:=NI (df:=df) e r _ b
  simp_all[ED,J7]
def AB.post_le{fr:Fr}{H:A5}{K:Exit->St->A5->Prop}(h:AB P nt rd c fr H λe i H'=>∃b,Ib i b/\K e b H'):AB P nt rd c fr H λe i H'=>∃b,i=J7 b/\K e b H':=by
 intro r g w a x C v;refine wpIn_mono (h r g w a x C v) λe y w' ⟨g',i,H',s,n,k,b,hle,S⟩=>⟨g',J7 b,H',s,n,⟨k.size,λt=>hle.s t _ _ _ (k.s t),?_⟩,b,rfl,S⟩;have:=k.df
 rw[hle.df]at this
 exact this
def EA:Up V->Nat->Fl
 |[],_=>[]
 |v::l,i=>(i,.v v)::EA l (i+1)
def Ab5:∀(args:Up V) (i t:Nat),EJ (EA args i) t=if i<=t then args.getD (t-i) .bad else .bad
 |[],i,t=>by simp[EJ,EA]
 | v::l,i,t=>by
  simp only[EA,EJ]
  by_cases h:t=i
  ·simp_all
  have W:Nat.beq t i=false:=by
   cases W:Nat.beq t i with
   |false=>rfl
   |true=>simp_all
  simp only[W];rw[Ab5 l (i+1) t]
  grind
def BB9 (args:Up V):entry args=J7 ⟨EA args 0,[]⟩:=by
 simp_all[entry,J7,Ab5]
def Tj (E:Hj)(T:JV)(a:Up ResultVar)(K:V->A5->Prop)(e:Exit)(st:St)(H:A5):Prop:=
 match e with
 | .normal=>(match st.df with|[]=>Zo E T st.l H a λvs=>Rf K H vs|df=>E.fin df H λH'=>Zo E T st.l H' a λvs=>Rf K H' vs)
 | .ret=>(match st.df with|[]=>Zo E T st.l H a λvs=>Rf K H vs|df=>E.fin df H λH'=>Zo E T st.l H' a λvs=>Rf K H' vs)
 |_=>False
theorem Bk8(i:Oz P T){fn:Func}{e:Exit}{H:A5}(h:Tj (J1 P nt rd) T fn.results.toList K e st H):Ret P fn K e (J7 st) H:=by
 have key:∀(h:match st.df with|[]=>Zo (J1 P nt rd) T st.l H fn.results.toList λvs=>Rf K H vs|df=>(J1 P nt rd).fin df H λH'=>Zo (J1 P nt rd) T st.l H' fn.results.toList λvs=>Rf K H' vs),
  BQ0 H (J7 st).df/\∃l,ED P (J7 st) (clear H (J7 st).df) fn.results.toList=some l/\K (Vx l) (clear H (J7 st).df):=by
  obtain⟨l,df⟩:=st;intro h
  cases df with
  |nil=>
   have a:clear H []=H:=by funext x;simp[clear]
   obtain⟨vs,O,b⟩:=NI (df:=[]) i _ _ h;refine⟨⟨by simp[J7],λid U=>by simp[J7]at U⟩,vs,?_,?_⟩
   ·simp_all[J7]
   show K _ (clear H [])
   rw[a];grind[Xm]
  |cons d ds=>
   obtain⟨hd,h⟩:=h;obtain⟨vs,O,b⟩:=NI (df:=d::ds) i _ _ h;exact⟨hd,vs,O,Xm b⟩
 cases e<;>first|exact h.elim|skip
 ·exact⟨.inl rfl,key h⟩
 exact⟨.inr rfl,key h⟩
def Ai{f:FuncId}{fn:Func}{n:Nat}{k:Up ResultVar}{args:Up V}{H:A5}(cf:Cf)(x:Oz P T)(p:P.follows .mixedOrders=true)(q:P.funcs[f]? =some fn)(W:fn.body=some c)(hd:M4 cf c=true)(a:∀vals w,(callFunc f vals).run P w= .ok (.enter f vals) w)
 (b:fn.ntmps=n)(i:fn.results.toList=k)(N:Nat.ble args.length n=true)(h:∀E:Hj,E=J1 P n none->run E T n cf c ⟨EA args 0,[]⟩ H (Tj E T k K)):L5 P f args H K:=by
 subst b;subst i;refine drv q W a (Js N) ?_;rw[BB9];refine(AB.post_le (Q6 x p c _ H _ hd (h _ rfl))).mono λe v H' ⟨d,y,g⟩=>?_
 grind[Bk8]
end
def DI.wk{x y:V}(h:DI x y):Wk x y:=λ_ _ _ j=>j.le h
theorem Args.le {g:Gh}{w:Is}{vals:SI HO}{xs ys:Up V}(h:Args g w vals xs)(k:M7 xs ys):Args g w vals ys:=
 ⟨h.1.trans k.length,λi U=>(h.2 i (k.length▸U)).le (k.at i)⟩
def L5.args{P:If}{f:FuncId}{xs ys:Up V}{H:A5}(h:L5 P f ys H K)(k:M7 xs ys):L5 P f xs H K:=
 λg w vals C a=>h g w vals C (a.le k)
def Ft.args{P:If}{a:V}{xs ys:Up V}{H:A5}(h:Ft P a ys H K)(k:M7 xs ys):Ft P a xs H K:=
 λg w v vals C j b=>h g w v vals C j (b.le k)
def B1.args {P:If}{f:FuncId}{xs ys:Up V}{r:V}(h:B1 P f ys r)(k:M7 xs ys):B1 P f xs r:=λH=>(h H).args k
def U9.args {P:If}{a:V}{xs ys:Up V}{r:V}(h:U9 P a ys r)(k:M7 xs ys):U9 P a xs r:=λH=>(h H).args k
def JI (H H':A5):Prop:=∀id b,H id=some b->H' id=some b
theorem JI.refl (H:A5):JI H H:=λ_ _ h=>h
def JI.trans{H H' H'':A5}(h:JI H H')(k:JI H' H''):JI H H'':=λid b e=>k id b (h id b e)
theorem L5.le {P:If}{f:FuncId}{args:Up V}{H:A5}{K:V->A5->Prop}(h:L5 P f args H λx H'=>∃y a,DI x y/\JI a H'/\K y a):L5 P f args H K:=
 λg w vals C i=>(h g w vals C i).mono λv w' ⟨g',x,H',s,b,j,y,a,e,k,n⟩=>⟨g',y,a,s,b.less k,j.le e,n⟩
inductive En where
 |tl (t:G5)
 |blk (id:Nat) (b:FV)
def En.id:En->OS (Nat×FV)
 | .tl (.tok t)=>some (t,.spare)
 | .tl _=>none
 | .blk id b=>some (id,b)
structure DK (H0:A5) (L:List En) (H:A5):Prop where
 ext:JI H0 H
 has:∀(i:Nat) e id b,L[i]? =some e->e.id=some (id,b)->H0 id=none/\H id=some b
 inj:∀(i j:Nat) e e' id b b',L[i]? =some e->L[j]? =some e'->e.id=some (id,b)->e'.id=some (id,b')->i=j
 only:∀x b,H x=some b->H0 x=some b\/∃(i:Nat) (e:En),L[i]? =some e/\e.id=some (x,b)
def DK.start (H:A5):DK H [] H:=⟨JI.refl H,λi e id b h=>by simp at h,λi j e a id b b' h=>by simp at h,λx b h=>.inl h⟩
def DK.free{H:A5}{L:Up En}(h:DK H0 L H){id:Nat}(a:H id=none):H0 id=none:=by
 cases e:H0 id with
 |none=>rfl
 |some b=>rw[h.ext id b e]at a;cases a
theorem DK.tl0{H:A5}{L:Up En}(h:DK H0 L H){t:G5}(o:(En.tl t).id=none):DK H0 (.tl t::L) H:=by
 refine⟨h.ext,λi e id b U R=>?_,λi j e k id b b' U z R a=>?_,λx b M=>(h.only x b M).imp (λh=>h) λ⟨i,e,O,n⟩=>⟨i+1,e,Pw,n⟩⟩
 ·cases i with
  |zero=>simp_all
  |succ i=>exact h.has i e id b Pw R
 cases i with
 |zero=>simp_all
 |succ i=>
  cases j with
  |zero=>simp_all
  |succ j=>rw[h.inj i j e k id b b' Pw Pw R a]
def DK.push{H:A5}{L:Up En}(h:DK H0 L H){y:En}{id:Nat}{b:FV}(w:H id=none)(R:y.id=some (id,b)):DK H0 (y::L) (upd H id (some b)):=by
 refine⟨λx k M=>?_,λi e x k U M=>?_,λi j e N x k n U z M a=>?_,λx k M=>?_⟩
 rotate_right
 ·by_cases v:x=id
  ·subst v;rw[E7]at M;cases M;exact .inr ⟨0,y,OC,R⟩
  rw[C8 _ _ v]at M
  exact(h.only x k M).imp (λh=>h) λ⟨i,e,O,V⟩=>⟨i+1,e,Pw,V⟩
 ·rw[C8 _ _ (Ce (h.free w) M)];exact h.ext x k M
 ·cases i with
  |zero=>simp at U;subst U;rw[R]at M;cases M;exact⟨h.free w,E7 _ _ _⟩
  |succ i=>
   have:=h.has i e x k Pw M
   grind[upd]
 cases i with
 | zero=>
  cases j with
  |zero=>rfl
  |succ j=>
   simp at U;subst U;rw[R]at M;cases M
   have:=(h.has j N _ n Pw a).2
   rw[w]at this;cases this
 | succ i=>
  cases j with
  |zero=>
   simp at z;subst z;rw[R]at a;cases a
   have:=(h.has i e _ k Pw M).2
   rw[w]at this;cases this
  |succ j=>rw[h.inj i j e N x k n Pw Pw M a]
def DK.get{H:A5}{L:Up En}(h:DK H0 L H)(i:Nat){id:Nat}{b:FV}(U:L[i]? =some (.blk id b)):H id=some b:=(h.has i _ id b U rfl).2
def DK.set {H0 H:A5} {L:Up En} (h:DK H0 L H) (i:Nat) {id:Nat} {b b':FV} (U:L[i]? =some (.blk id b)):DK H0 (L.set i (.blk id b')) (upd H id (some b')):=by
 have d:=h.has i _ id b U rfl
 have q:i<L.length:=by
  grind
 have QU:∀(j:Nat) e,(L.set i (.blk id b'))[j]? =some e->(j=i/\e= .blk id b')\/(j≠i/\L[j]? =some e):=λj e z=>by
  rw[Z4]at z
  grind
 refine⟨λx n M=>?_,λj e x n z M=>?_,λj k e c x n y z S M w=>?_,λx n M=>?_⟩
 rotate_right
 ·by_cases m:x=id
  ·grind[En.id,upd]
  rw[C8 _ _ m]at M
  refine(h.only x n M).imp (λh=>h) λ⟨j,e,O,p⟩=>⟨j,e,?_,p⟩;rw[Z4]
  grind[En.id]
 ·rw[C8 _ _ (Ce d.1 M)];exact h.ext x n M
 ·rcases QU j e z with⟨_,rfl⟩|⟨v,a⟩
  ·grind[upd,En.id]
  have:=h.has j e x n a M
  have o:x≠id:=λeq=>by subst eq;exact v (h.inj j i e _ x n b a U M rfl)
  simp_all[upd]
 rcases QU j e z with⟨f,rfl⟩|⟨v,a⟩<;>rcases QU k c S with⟨g,rfl⟩|⟨V,N⟩
 ·rw[f,g]
 ·cases M;exact absurd (h.inj k i c _ id y b N U w rfl) V
 ·cases w;exact absurd (h.inj j i e _ id n b a U M rfl) v
 exact h.inj j k e c x n y a N M w
theorem DK.tok {H0 H:A5} {L:Up En} (h:DK H0 L H) (i:Nat) {tl:G5} (U:L[i]? =some (.tl tl)) {t:Nat} (o:H5 H tl t=none):
 DK H0 (L.set i (.tl (.tok t))) (upd (H5 H tl) t (some .spare)):=by
 have C:i<L.length:=by
  grind
 have QU:∀(j:Nat) e,(L.set i (.tl (.tok t)))[j]? =some e->(j=i/\e= .tl (.tok t))\/(j≠i/\L[j]? =some e):=λj e z=>by
  rw[Z4]at z
  grind
 have left:∀x b,H x=some b->(∀t',tl= .tok t'->x≠t')->H5 H tl x=some b:=λx b M a=>by
  cases tl with
  |tok t'=>simp_all[H5,C8]
  |_=>exact M
 have B:∀x b,H0 x=some b->H5 H tl x=some b:=λx b M=>left x b (h.ext x b M) λt' e eq=>by
  subst e;subst eq
  rw[(h.has i _ x _ U rfl).1]at M;cases M
 have u:∀(j:Nat) e x b,j≠i->L[j]? =some e->e.id=some (x,b)->H0 x=none/\H5 H tl x=some b:=λj e x b a z M=>by
  have:=h.has j e x b z M;refine⟨this.1,left x b this.2 λt' et eq=>?_⟩;subst et;subst eq;exact a (h.inj j i e _ x b _ z U M rfl)
 have v:H0 t=none:=by
  cases e:H0 t with
  |none=>rfl
  |some b=>rw[B t b e]at o;cases o
 refine⟨λx n M=>?_,λj e x n z M=>?_,λj k e w x n y z S M m=>?_,λx n M=>?_⟩
 rotate_right
 ·by_cases q:x=t
  ·grind[En.id,upd]
  rw[C8 _ _ q]at M
  have p:H x=some n/\∀t',tl= .tok t'->x≠t':=by
   cases tl with
   |tok t'=>
    simp_all[H5,upd]
   |_=>exact⟨M,λD w=>by cases w⟩
  refine(h.only x n p.1).imp (λh=>h) λ⟨j,e,O,N⟩=>⟨j,e,?_,N⟩;rw[Z4]
  split
  ·rename_i V;subst V;rw[U]at O;cases O
   cases tl with
   |tok t'=>cases N;simp_all
   |_=>cases N
  exact O
 ·rw[C8 _ _ (Ce v M)];simp_all
 ·grind[upd,En.id]
 rcases QU j e z with⟨d,rfl⟩|⟨a,c⟩<;>rcases QU k w S with⟨g,rfl⟩|⟨s,f⟩
 ·rw[d,g]
 ·grind[En.id]
 ·grind[En.id]
 exact h.inj j k e w x n y c f M m
def DK.del{H:A5}{L:Up En}(h:DK H0 L H)(i:Nat){id:Nat}{b:FV}(U:L[i]? =some (.blk id b)):DK H0 (L.eraseIdx i) (upd H id none):=by
 have N:=h.has i _ id b U rfl
 have QU:∀(j:Nat) e,(L.eraseIdx i)[j]? =some e->∃v,v≠i/\L[v]? =some e/\(v=if j<i then j else j+1):=λj e z=>by
  rw[Pj]at z
  grind
 refine⟨λx n M=>?_,λj e x n z M=>?_,λj k e g x n y z S M d=>?_,λx n M=>?_⟩
 rotate_right
 ·by_cases f:x=id
  ·simp_all[upd]
  rw[C8 _ _ f]at M
  refine(h.only x n M).imp (λh=>h) λ⟨j,e,O,m⟩=>?_
  have u:j≠i:=λeq=>by grind[En.id]
  rcases R3 j i with c|t
  ·exact⟨j,e,by rw[Pj,A2 c];exact O,m⟩
  exact⟨j-1,e,by rw[Pj,A1 AY,show j-1+1=j by omega];exact O,m⟩
 ·rw[C8 _ _ (Ce N.1 M)];exact h.ext x n M
 ·have⟨v,w,a,_⟩:=QU j e z;have:=h.has v e x n a M
  have p:x≠id:=λeq=>by subst eq;exact w (h.inj v i e _ x n b a U M rfl)
  simp_all[upd]
 have⟨v,w,a,q⟩:=QU j e z;have⟨k',o,V,s⟩:=QU k g S;have:=h.inj v k' e g x n y a V M d
 rw[q,s]at this
 split at this<;>split at this<;>omega
def Se (H:A5)(e:En):A5:=
 match e.id with
 |some (id,_)=>upd H id none
 |none=>H
def DK.tail{H:A5}{L:Up En}{e:En}(h:DK H0 (e::L) H):DK H0 L (Se H e):=by
 have N:∀(j:Nat) a x b b',L[j]? =some a->a.id=some (x,b)->e.id=some (x,b')->False:=λj a x b b' z M w=>by
  have:=h.inj (j+1) 0 a e x b b' Pw OC M w;omega
 cases R:e.id with
 |none=>
  have n:Se H e=H:=by simp_all[Se]
  rw[n];refine⟨h.ext,λi e id b U=>h.has (i+1) e id b Pw,λi j e a id b b' U z R k=>?_,λx b M=>(h.only x b M).imp (λh=>h) λ⟨i,a,O,c⟩=>?_⟩
  ·exact zc7
  grind
 | some p=>
  have⟨id,V⟩:=p
  have n:Se H e=upd H id none:=by grind[Se]
  rw[n];have v:=h.has 0 e id V OC R;refine⟨λx b M=>?_,λi a x b U M=>?_,λi j e a id b b' U z R k=>?_,λx b M=>?_⟩
  ·rw[C8 _ _ (Ce v.1 M)];exact h.ext x b M
  ·have:=h.has (i+1) a x b Pw M
   have d:x≠id:=λeq=>Pw
   simp_all[upd]
  ·exact zc7
  by_cases y:x=id
  ·simp_all[upd]
  rw[C8 _ _ y]at M
  refine(h.only x b M).imp (λh=>h) λ⟨i,a,O,c⟩=>?_
  grind
theorem JI.upd {H H':A5}(h:JI H H')(id:Nat)(b:OS FV):JI (upd H id b) (upd H' id b):=λx a M=>by
 by_cases e:x=id
 ·grind[E7]
 rw[C8 _ _ e]at M ⊢;exact h x a M
def JI.less{H H':A5}(h:JI H H')(id:Nat):JI (Go.Ab.upd H id none) H':=λx a M=>by
 by_cases e:x=id
 ·grind[E7]
 rw[C8 _ _ e]at M;exact h x a M
def JI.none {H H':A5}(h:JI H H'){id:Nat}(a:H' id=none):H id=none:=by
 cases e:H id with
 |none=>rfl
 |some b=>rw[h id b e]at a;cases a
def D7:G7 (Eq:A5->A5->Prop):=⟨λh id b W=>h▸W,λid b h _=>by subst h;rfl⟩
def C3 (Φ:A5->A5->Prop)(F:A5)(L:Up En)(H:A5):Prop:=G7 Φ/\∃a J,DK F L a/\Φ a J/\JI J H
section
variable {Φ:A5->A5->Prop}{F H:A5}{L:List En}
def C3.start (G:G7 Φ)(h:Φ F H):C3 Φ F [] H:=⟨G,F,H,DK.start F,h,JI.refl H⟩
def C3.ext (h:C3 Φ F L H):JI F H:=by
 have⟨G,i,J,a,O,e⟩:=h;exact a.ext.trans λid b W=>e _ _ (G.le O id b W)
theorem C3.tl0 (h:C3 Φ F L H){t:G5}(o:(En.tl t).id=none):C3 Φ F (.tl t::L) H:=by
 have⟨G,a,J,b,O,e⟩:=h;exact⟨G,a,J,b.tl0 o,O,e⟩
def C3.push (h:C3 Φ F L H){i:En}{id:Nat}{b:FV}(v:H id=none)(R:i.id=some (id,b)):C3 Φ F (i::L) (upd H id (some b)):=by
 have⟨G,w,J,n,O,k⟩:=h;have e:=k.none v;have a:=G.fresh O e;exact⟨G,_,_,n.push a R,G.chg id (some b) O (by rw[e,a]),k.upd id _⟩
def C3.get (h:C3 Φ F L H)(i:Nat){id:Nat}{b:FV}(U:L[i]? =some (.blk id b)):H id=some b:=by
 have⟨G,k,J,a,O,e⟩:=h;exact e _ _ (G.le O _ _ (a.get i U))
def C3.set (h:C3 Φ F L H)(i:Nat){id:Nat}{b b':FV}(U:L[i]? =some (.blk id b)):C3 Φ F (L.set i (.blk id b')) (upd H id (some b')):=by
 have⟨G,n,J,a,O,k⟩:=h;have e:=a.get i U;exact⟨G,_,_,a.set i U,G.chg id _ O (by rw[e,G.le O _ _ e]),k.upd id _⟩
def C3.del (h:C3 Φ F L H)(i:Nat){id:Nat}{b:FV}(U:L[i]? =some (.blk id b)):C3 Φ F (L.eraseIdx i) (upd H id none):=by
 have⟨G,n,J,a,O,k⟩:=h;have e:=a.get i U;exact⟨G,_,_,a.del i U,G.chg id _ O (by rw[e,G.le O _ _ e]),k.upd id _⟩
def C3.tail {e:En} (h:C3 Φ F (e::L) H):C3 Φ F L H:=by
 have⟨G,n,J,a,O,k⟩:=h
 cases R:e.id with
 |none=>
  have:=a.tail
  grind[C3,Se]
 |some p=>
  have⟨id,b⟩:=p;have i:=a.tail
  simp only[Se,R]at i
  have t:=(a.has 0 e id b OC R).2;exact⟨G,_,_,i,G.chg id none O (by rw[t,G.le O _ _ t]),k.less id⟩
theorem C3.tok (h:C3 Φ F L H) (i:Nat) {tl:G5} (U:L[i]? =some (.tl tl)) {t:Nat} (o:H5 H tl t=none):C3 Φ F (L.set i (.tl (.tok t))) (upd (H5 H tl) t (some .spare)):=by
 have⟨G,x,J,k,O,n⟩:=h
 have v:Φ (H5 x tl) (H5 J tl):=by
  cases tl with
  |tok t'=>
   have e:=(k.has i _ t' _ U rfl).2;exact G.chg t' none O (by rw[e,G.le O _ _ e])
  |_=>exact O
 have w:JI (H5 J tl) (H5 H tl):=by
  cases tl with
  |tok t'=>exact n.upd t' none
  |_=>exact n
 have b:=w.none o;have a:=G.fresh v b;exact⟨G,_,_,k.tok i U a,G.chg t _ v (by rw[b,a]),w.upd t _⟩
def C3.stable (G:G7 Φ) (L:Up En):G7 λF H=>C3 Φ F L H:=by
 refine⟨λh id b W=>h.ext id b W,λ{F H} id b h e=>?_⟩;have⟨G,y,J,v,O,N⟩:=h
 have d:∀(i:Nat) n x k,L[i]? =some n->n.id=some (x,k)->x≠id:=λi n x k U R eq=>by
  subst eq;have f:=v.has i n x k U R;have g:=N _ _ (G.le O _ _ f.2)
  rw[e,f.1]at g;cases g
 have w:y id=F id:=by
  cases q:F id with
  |some x=>exact v.ext id x q
  | none=>
   cases c:y id with
   |none=>rfl
   |some x=>
    rcases v.only id x c with h|⟨i,n,U,R⟩
    ·rw[q]at h;cases h
    grind
 have V:J id=F id:=by
  cases q:F id with
  |some x=>rw[<-w]at q;exact G.le O id x q
  |none=>rw[q]at e;exact N.none e
 refine⟨G,upd y id b,upd J id b,⟨λx k M=>?_,λi n x k U R=>?_,v.inj,λx k M=>?_⟩,G.chg id b O (by rw[w,V]),N.upd id b⟩
 ·by_cases a:x=id
  ·simp_all[upd]
  rw[C8 _ _ a]at M ⊢;exact v.ext x k M
 ·have:=v.has i n x k U R;have a:=d i n x k U R;rw[C8 _ _ a,C8 _ _ a];exact this
 by_cases a:x=id
 ·simp_all[upd]
 rw[C8 _ _ a]at M ⊢;exact v.only x k M
def C3.out:∀{L:Up En},C3 Φ F L H->∃J,Φ F J/\JI J H
 | [],h=>by
  have⟨G,a,J,k,O,n⟩:=h
  have:a=F:=by
   funext x
   cases q:a x with
   |some b=>
    rcases k.only x b q with h|⟨i,e,U,_⟩
    ·exact h.symm
    grind
   |none=>exact(k.free q).symm
  grind
 |_::L,h=>C3.out (L:=L) h.tail
end
def G7.ex{ι:Type}{p:ι->Prop}{I:ι->A5->A5->Prop}(h:∀i,G7 (I i)):G7 λF H=>∃i,p i/\I i F H:=
 ⟨λ⟨i,_,U⟩=>(h i).le U,λid b ⟨i,f,U⟩ e=>⟨i,f,(h i).chg id b U e⟩⟩
def G7.con{p:Prop}{I:A5->A5->Prop}(h:G7 I):G7 λF H=>p/\I F H:=
 ⟨λ⟨_,U⟩=>h.le U,λid b ⟨f,U⟩ e=>⟨f,h.chg id b U e⟩⟩
def T3:G5->Prop
 | .ro=>False
 |_=>True
def C3.appOk{Φ:A5->A5->Prop}{F H:A5}{L:Up En}(h:C3 Φ F L H)(i:Nat){tl:G5}(U:L[i]? =some (.tl tl))(u:T3 tl):Kn H tl:=by
 have⟨G,e,J,a,O,b⟩:=h
 cases tl with
 |tok t=>exact b _ _ (G.le O _ _ (a.has i _ t _ U rfl).2)
 |nil=>trivial
 |full=>trivial
 |ro=>exact u
end Go.Ab
namespace Go.Ab
variable{α β σ:Type}
def C4(l:Up α)(i:Int):OS α:=if 0<=i then l[i.toNat]? else none
def Dc(l:Up α)(lo U a:OS Int):OS (Up α):=
 if 0<=lo.getD 0/\lo.getD 0<=U.getD l.length/\U.getD l.length<=a.getD l.length/\a.getD l.length<=l.length/\(a.isSome=true->U.isSome=true)then
  some ((l.drop (lo.getD 0).toNat).take ((U.getD l.length).toNat-(lo.getD 0).toNat))
 else none
def K2(l m:Up α):OS (Up α):=if l.length+m.length<=1073741824 then some (l++m)else none
def IS (b:Bool):OS Unit:=if b=true then some ()else none
def loopN {σ R:Type} (step:σ->OS (σ⊕R)):Nat->σ->OS R
 |0,_=>none
 |n+1,s=>
  match step s with
  |none=>none
  |some (.inl a)=>loopN step n a
  |some (.inr r)=>some r
def E8 {α σ R:Type} (step:σ->α->OS (σ⊕R)):Up α->σ->OS (σ⊕R)
 |[],s=>some (.inl s)
 |x::l,s=>
  match step s x with
  |none=>none
  |some (.inl a)=>E8 step l a
  |some (.inr r)=>some (.inr r)
def R7 {β σ R:Type} (step:σ->OS (Up β×(σ⊕R))):Nat->σ->OS (Up β×R)
 |0,_=>none
 | n+1,s=>
  match step s with
  |none=>none
  | some (w,.inl a)=>
   (match R7 step n a with
    |none=>none
    |some (w',r)=>some (w++w',r))
  |some (w,.inr r)=>some (w,r)
def Ca {α β σ R:Type} (step:σ->α->OS (Up β×(σ⊕R))):Up α->σ->OS (Up β×(σ⊕R))
 |[],s=>some ([],.inl s)
 | x::l,s=>
  match step s x with
  |none=>none
  | some (w,.inl a)=>
   (match Ca step l a with
    |none=>none
    |some (w',o)=>some (w++w',o))
  |some (w,.inr r)=>some (w,.inr r)
def I1{a:Type}(m:OS (Up β×σ))(f:σ->OS (Up β×a)):OS (Up β×a):=
 m.bind λq=>(f q.2).bind λp=>some (q.1++p.1,p.2)
def M2{b:Type}{m:OS (Up β×σ)}{f:σ->OS (Up β×b)}{w:Up β}{o:b}(h:I1 m f=some (w,o)):∃a w2 x,m=some (a,x)/\f x=some (w2,o)/\w=a++w2:=by
 unfold I1 at h
 cases m with
 |none=>cases h
 | some p=>
  simp only[A4]at h
  cases q:f p.2 with
  |none=>rw[q]at h;cases h
  |some t=>
   rw[q]at h
   grind
def Q5{b:Type}{a:Up β}{x:σ}{f:σ->OS (Up β×b)}{w:Up β}{o:b}(h:I1 (some (a,x)) f=some (w,o)):∃w2,f x=some (w2,o)/\w=a++w2:=by
 have⟨k,w2,y,O,e,i⟩:=M2 h
 simp_all
def D0{a c:α}{b d:β}(h:some (a,b)=some (c,d)):a=c/\b=d:=TQ
def bind_some{m:OS α}{F:α->OS β}{r:β}(h:m.bind F=some r):∃x,m=some x/\F x=some r:=by
 cases m with
 |none=>cases h
 |some x=>simp_all
def J9{a b:α}(h:some a=some b):a=b:=CU h
end Go.Ab
