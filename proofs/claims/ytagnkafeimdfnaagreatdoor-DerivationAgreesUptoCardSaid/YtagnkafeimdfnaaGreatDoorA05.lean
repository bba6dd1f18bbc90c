/- . -/
import Derived.Test.YtagnkafeimdfnaaGreatDoorA03
set_option linter.all false
open Go.Ab.Ar (an_eq cmp_eq nt_eq)
namespace Go.Ab
open Go.RowKit
variable [P3][Ar]
section
variable {P:Program}{nt:Nat}{rd:Option Nat}{T:JI}{l:Fl}{df:List Nat}{H:A6}
def Nr (G:Up (Nat×Bool))(l:Fl):Prop:=∀j w,AZ8 G j w=true->isB (EQ l j) w=true
def Nr.nil:Nr [] l:=λj w h=>by simp[AZ8]at h
def Nr.add {G:Up (Nat×Bool)}(h:Nr G l){d:Nat}{w:Bool}(hd:isB (EQ l d) w=true):Nr ((d,w)::G) l:=by
 intro j w' a
 simp only[AZ8]at a
 split at a
 ·simp_all
 exact h j w' a
theorem Oz:∀(l:Fl) (t:Nat) (s:Sl),lk l t=s->(∀j w x,s≠ .g j w x)->EQ l t=s.V
 |[],t,s,h,_=>by grind[EQ,Sl.V,lk]
 | (k,x)::l,t,s,h,e=>by
  simp only[lk]at h
  simp only[EQ]
  cases a:Nat.beq t k with
  |true=>
   simp only[a]at h
   subst h
   cases x with
   |v x=>rfl
   |b c=>rfl
   |g j w x=>simp_all
  |false=>simp only[a]at h;exact Oz l t s h e
def Zx:∀(l:Fl) (t j:Nat) (w:Bool) (x:V),lk l t= .g j w x->AO1 l t j=true->EQ l t=bif isB (EQ l j) w then x else .tup []
 |[],_,_,_,_,_,h=>by simp[AO1]at h
 | (k,s)::l,t,j,w,x,h,o=>by
  simp only[AO1]at o
  simp only[lk]at h
  cases u:Nat.beq k j with
  |true=>grind
  | false=>
   simp only[u]at o
   have g:Nat.beq j k=false:=by
    cases e:Nat.beq j k with
    |false=>rfl
    |true=>simp_all
   have b:EQ ((k,s)::l) j=EQ l j:=by simp_all[EQ]
   rw[b];simp only[EQ]
   cases i:Nat.beq t k with
   |true=>
    simp_all
   | false=>
    have a:Nat.beq k t=false:=by
     cases e:Nat.beq k t with
     |false=>rfl
     |true=>simp_all
    simp only[a,i]at o h ⊢
    exact Zx l t j w x h o
theorem Ou {G:Up (Nat×Bool)} (b:Nr G l) {t:Nat} {s:Sl} (h:Ag5 G l t=some s):s.V=EQ l t/\∀j w x,s≠ .g j w x:=by
 unfold Ag5 at h
 split at h
 ·rename_i j w x B
  split at h
  ·rename_i o;have e:=Zx l t j w x B o
   split at h
   ·rename_i g;cases h;rw[e,b j w g];simp[Sl.V]
   split at h
   ·rename_i c X;have a:=Oz l j _ X (λ_ _ _ h=>by cases h)
    rw[a]at e
    grind[Sl.V,isB]
   cases h
  cases h
 grind[Oz]
def AB1 {G:Up (Nat×Bool)}(a:Nr G l)(t:Nat):(Bi5 G l t).V=EQ l t:=by
 unfold Bi5
 split
 ·grind[Ou]
 rfl
def HA {G:Up (Nat×Bool)} (a:Nr G l) (x:By):(Ak G l x).V=ev (J9 ⟨l,df⟩) x:=by
 cases x with
 |tmp t=>exact AB1 a t
 |const v=>
  cases v<;>first|rfl|skip
 |global n=>rfl
 |func f=>rfl
def Un:∀(l:Fl) (d:Nat) (c:Bool),EQ l d= .bool c->∀t,EQ (Sh l d c) t=EQ l t
 |[],_,_,_,_=>rfl
 | (k,s)::l,d,c,h,t=>by
  simp only[Sh]
  cases hd:Nat.beq d k with
  |true=>
   have e:=DS hd
   simp_all[EQ]
  |false=>
   have B:EQ l d= .bool c:=by simp_all[EQ]
   have ih:=Un l d c B
   simp_all[EQ]
theorem SF {d:Nat}{c:Bool}(h:EQ l d= .bool c):J9 ⟨Sh l d c,df⟩=J9 ⟨l,df⟩:=by
 simp_all[J9,Un]
theorem Hk {o:OS V}{k:V->Prop}(h:LQ o k):∃y,o=some y/\k y:=by
 unfold LQ at h
 grind
theorem Oa (b:Nk P T) {t:Nat} {v:V} {k:V->Prop} (h:Ay6 (J3 P nt rd) T t v H k):∃y,(LF P H t v=some y\/PW P H t v=some y)/\k y:=by
 unfold Ay6 at h
 split at h
 ·exact h.elim
 rename_i I a;have ok:=I7 b a
 split at h
 ·rename_i cs off
  split at h
  ·rename_i y m;exact⟨y,.inl (by simp only[LF,ok.ag,ok.sz];exact m),h⟩
  grind
 ·rename_i id off;obtain⟨cs,W,h⟩:=h
  split at h
  ·rename_i y m;exact⟨y,.inl (by simp only[LF,ok.ag,ok.sz,W];exact m),h⟩
  grind
 ·rename_i id i esz off;obtain⟨sz,xs,W,e,h⟩:=h
  split at h
  ·rename_i y m;exact⟨y,.inr (by simp only[PW,ok.ag,ok.sz,Ky,W];rw[A2 e];exact m),h⟩
  grind
 grind
theorem Br7 (b:Nk P T){t f:Nat}{I:Ao5}{p:Nat×Nat}(a:tg T t=some I)(o:I.fs[f]? =some (some p)):fdO P t f=some p:=by
 have:=Zu I.fs 0 f p (I7 b a).fs o
 rwa[K4]at this
theorem Me (a:Nk P T){t f:Nat}{v:V}{k:V->Prop}(h:Qc T t v f k):∃y,Ko P t v f=some y/\k y:=by
 unfold Qc at h
 grind[Hk,Ko,Br7]
theorem QR (a:Nk P T) {t f:Nat} {v:V} {k:V->Prop} (h:Ap4 T t v f k):∃y,Wa P t v f=some y/\k y:=by
 unfold Ap4 at h
 split at h
 ·exact h.elim
 rename_i I g
 split at h
 ·rename_i p i
  split at h
  ·exact h.elim
  rename_i J b
  split at h
  ·have⟨y,O,e⟩:=Hk h;exact⟨y,by simp only[Wa,Br7 a g i,(I7 a b).ag,(I7 a b).sz];exact O,e⟩
  grind
 grind
def Sb (g:Nk P T) {t:Nat} {v i:V} {k:V->Prop} (h:Qb (J3 P nt rd) T t v i k):∃m j u y,i= .int m j/\GF P t v j=some u/\DK u y/\k y:=by
 unfold Qb at h
 split at h
 ·rename_i m j
  split at h
  ·exact h.elim
  rename_i I p;have ok:=I7 g p;refine⟨m,j,?_⟩
  split at h
  ·rename_i e Y
   split at h
   ·exact h.elim
   rename_i J b;have o:=I7 g b
   split at h
   ·rename_i xs tl;obtain⟨N,h⟩:=h
    split at h
    ·rename_i f;refine⟨_,_,rfl,?_,.refl _,h⟩;simp only[GF,ok.sl,Y,o.sz];rw[A2 ⟨N,by rw[DS f]⟩]
    grind
   grind
  rename_i Y
  split at h
  ·rename_i n e a
   split at h
   ·exact h.elim
   rename_i J b
   split at h
   ·obtain⟨⟨c,d,q⟩,h⟩:=h;rename_i cs off
    have hle:off+j.toNat*J.sz+J.sz<=cs.length:=by
     have O:j.toNat+1<=n:=za2
     have x:=G7 J.sz O
     rw[E2,W3]at x
     omega
    refine⟨_,_,rfl,?_,.sub hle,h⟩;simp only[GF,ok.sl,Y,ok.ar,a,(I7 g b).sz];rw[A2 ⟨c,d⟩];rfl
   obtain⟨N,h⟩:=h;obtain⟨y,O,x⟩:=Hk h;refine⟨y,y,rfl,?_,.refl _,x⟩;simp only[GF,ok.sl,Y,ok.ar,a,(I7 g b).sz];rw[A2 N];exact O
  grind
 grind
def YD (g:Nk P T) {t:Nat} {v i:V} {k:V->Prop} (h:Ap3 (J3 P nt rd) T t v i k):∃N j y,i= .int N j/\SC P t v j=some y/\k y:=by
 unfold Ap3 at h
 split at h
 ·rename_i N j
  split at h
  ·exact h.elim
  rename_i I f;have ok:=I7 g f;refine⟨N,j,?_⟩
  split at h
  ·rename_i n e a
   split at h
   ·exact h.elim
   rename_i J c
   split at h
   ·obtain⟨b,h⟩:=h;obtain⟨y,O,d⟩:=Hk h;refine⟨y,rfl,?_,d⟩;simp only[SC,ok.ar,a,(I7 g c).ag,(I7 g c).sz];rw[A2 b];exact O
   grind
  rename_i a
  split at h
  ·split at h
   ·rename_i C;obtain⟨b,h⟩:=h;refine⟨_,rfl,?_,h⟩;rename_i str _
    have b:0<=j/\j<(str.size:Nat):=by
     rw[an_eq,cmp_eq,cmp_eq,Ar.slen_eq]at b
     grind[RG]
    simp only[SC,ok.ar,a,ok.st];rw[A2 ⟨C,b.1⟩,Ar.sat_eq]
    have x:j.toNat<str.size:=za2
    simp[x]
   grind
  grind
 grind
def Ap5:∀xs ys:Up V,xeq xs ys=Cx xs ys
 |[],[]=>rfl
 |[],_::_=>rfl
 |x::xs,[]=>by grind[xeq,Cx]
 | x::xs,y::ys=>by
  have ih:=Ap5 xs ys
  have e:(Ar.an:Bool->Bool->Bool)=λa b=>a&&b:=by funext a b;simp[an_eq]
  unfold xeq Cx;rw[ih,e]
  cases x<;>cases y<;>simp only[Mj,cmp_eq,Ar.scmp_eq,Ar.beq_eq,RG,Bw1]<;>first
   |rfl
   |(cases Cx xs ys<;>rfl)
   |(split<;>cases Cx xs ys<;>rfl)
theorem Au9 {e:BinOp}{g:IntKind}{a b:Int}(h:VQ e=true):OC e g a b=some (.bool (Ar.cmp e a b)):=by
 rw[cmp_eq]
 cases e<;>simp[VQ]at h<;>rfl
theorem AN0 {e:BinOp}{g:IntKind}{a b:Int}(h:Bl6 e=true):OC e g a b=some (.int g (Ar.ar e g a b)):=by
 rw[Ar.ar_eq]
 cases e<;>simp[Bl6]at h<;>rfl
theorem Au8 {e:BinOp}{g:IntKind}{a b:Int}(h:AZ5 e=true)(i:b≠0):OC e g a b=some (.int g (Ar.ar e g a b)):=by
 rw[Ar.ar_eq]
 cases e<;>simp[AZ5]at h<;>simp[OC,arI,i]
def Aq7 {e:BinOp}{a b:za0}(h:VQ e=true):US e a b=some (.bool (Ar.scmp e a b)):=by
 rw[Ar.scmp_eq]
 cases e<;>simp[VQ]at h<;>rfl
def AJ8 {e:BinOp}{g:IntKind}{a b:Int}(h:LG e=true)(i:0<=b):Va e g a b=some (.int g (Ar.sh e g a b)):=by
 rw[Ar.sh_eq]
 cases e<;>simp[LG]at h<;>simp only[Va,shI]<;>rw[A1 za2]
theorem UE (f:Nk P T) {i:BinOp} {t:Nat} {x y:V} {k:V->Prop} (h:Bs3 (J3 P nt rd) T i t x y k):∃v,Ug P i t x y=some v/\k v:=by
 unfold Bs3 at h
 split at h
 ·rename_i m a p b
  split at h
  ·rename_i C;have⟨g,h⟩:=h
   have g:0<=b:=by rw[cmp_eq]at g;grind[RG]
   simp_all[Ug,AJ8]
  rename_i C
  split at h
  ·rename_i W
   have e:Ug P i t (.int m a) (.int p b)=OC i m a b:=by simp[Ug,C,W]
   split at h
   ·grind[Au9]
   split at h
   ·grind[AN0]
   split at h
   ·rename_i X;have⟨g,h⟩:=h
    have g:b≠0:=by rw[cmp_eq]at g;grind[RG]
    grind[Au8]
   grind
  grind
 ·rename_i a b
  split at h
  ·rename_i X;exact⟨_,Aq7 X,h⟩
  split at h
  ·have⟨g,h⟩:=h
   have g:((a.size+b.size:Nat):Int)<=9223372036854775807:=by
    rw[cmp_eq,Ar.slen_eq,Ar.cat_eq]at g
    have e:(a++b).size=a.size+b.size:=za4
    rw[e]at g
    grind[RG]
   simp_all[Ug,US,Ar.cat_eq]
  grind
 ·rename_i a b
  split at h
  ·exact h.elim
  rename_i I n
  split at h
  ·rename_i N;have j:=(I7 f n).bo N
   split at h
   ·simp_all[Ug,Ar.beq_eq]
   ·simp_all[Ug,Ar.beq_eq,nt_eq]
   grind
  grind
 ·rename_i xs ys
  split at h
  ·exact h.elim
  rename_i I n;have ok:=I7 f n
  split at h
  ·rename_i X;have⟨O,o,J⟩:=X
   have d:Jn P 9 t=some (xs.map kd):=by
    have:=ok.ek
    rw[o]at this
    exact this
   have c:agO P t=some true/\Jn P 9 t=some (xs.map kd)/\ys.map kd=xs.map kd:=⟨by rw[ok.ag,O],d,J⟩;cases i<;>try exact h.elim
   ·cases M:xeq xs ys with
    |none=>simp_all
    |some b=>
     simp_all[Ap5,Ug]
   cases M:xeq xs ys with
   |none=>simp_all
   |some b=>
    simp_all[Ap5,Ug,nt_eq]
  grind
 grind
theorem Xl {a:UnOp}{x:Sl}{k:Sl->Prop}(h:xun a x k):∃s:Sl,unV a x.V=some s.V/\k s:=by
 unfold xun at h
 grind[unV,Sl.V,nt_eq,Ar.neg_eq]
def Aa0 (i:Nk P T) {s d:Nat} {x:V} {H:A6} {k:V->Prop} (h:AR2 (J3 P nt rd) T s d x H k):∃v,(Yj P s d x=some v\/Yk P H s d x v)/\k v:=by
 unfold AR2 at h
 split at h
 ·rename_i I J t y;have a:=I7 i t;have e:=I7 i y
  split at h
  ·rename_i N c n U u
   have w:=a.ik;rw[U]at w
   have e2:=e.ik;rw[u]at e2
   simp_all[Ef,Yj,Ar.wr_eq]
  ·rename_i b _
   split at h
   ·rename_i O g;have w:=OX (a.st.trans O);have e2:=OX (e.st.trans g)
    simp_all[Yj]
   grind
  ·have⟨v,O,g⟩:=h;grind
  ·have⟨v,O,g⟩:=h;grind
  grind
 grind
theorem QS (N:Nk P T) {t:Nat} {a:Up (Nat×V)} {k:V->Prop} (h:Ap6 T t a k):∃v,SO P t a=some v/\k v:=by
 unfold Ap6 at h
 split at h
 ·exact h.elim
 rename_i I d;have ok:=I7 N d
 split at h
 ·rename_i cs j
  have b:=ok.ze;rw[j]at b;simp only[Ef]at b
  split at h
  ·rename_i n e i
   split at h
   ·exact h.elim
   rename_i J f
   split at h
   ·rename_i c X;exact⟨_,by simp only[SO,ok.ar,i,b,(I7 N f).sz,X];rfl,h⟩
   grind
  rename_i i
  split at h
  ·rename_i pl y
   have g:=ok.pl;rw[y]at g;simp only[Ef]at g
   split at h
   ·rename_i c X;have x:OF (pl[·]?) cs a=some c:=X;exact⟨_,by simp only[SO,ok.ar,i,b,g,x];rfl,h⟩
   grind
  grind
 grind
def Lh (g:Nk P T){t n:Nat}{a:Up (Nat×V)}{k:V->Prop}(h:Li T t n a k):∃v,CV P t n a=some v/\k v:=by
 unfold Li at h
 split at h
 ·exact h.elim
 rename_i I x
 split at h
 ·exact h.elim
 rename_i e Y
 split at h
 ·exact h.elim
 rename_i J i
 split at h
 ·exact h.elim
 rename_i z y
 have b:=(I7 g i).ze;rw[y]at b;simp only[Ef]at b
 split at h
 ·rename_i X;refine⟨_,?_,h⟩;simp only[CV,(I7 g x).sl,Y,(I7 g i).sz,b];rw[A2 X]
 grind
def YC (a:Nk P T) {t:Nat} {l c:V} {k:V->Prop} (h:Ap2 T t l c k):∃v,AX8 P t l c v/\k v:=by
 unfold Ap2 at h
 split at h
 ·split at h
  ·exact h.elim
  rename_i I N
  split at h
  ·exact h.elim
  rename_i e Y
  split at h
  ·exact h.elim
  rename_i J g
  split at h
  ·exact h.elim
  rename_i z d
  have b:=(I7 a g).ze;rw[d]at b;simp only[Ef]at b
  split at h
  ·rename_i X;obtain⟨O,i,n,s,rfl,x,y⟩:=X;exact⟨_,⟨_,_,_,e,J.sz,J.by_,z,rfl,rfl,by rw[(I7 a N).sl,Y],(I7 a g).sz,O,(I7 a g).by_,i,b,n,s,x,y,rfl⟩,h⟩
  grind
 grind
def Yy (g:Nk P T) {t:Nat} {v:V} {lo U i:OS (OS Int)} {k:V->Prop} (h:Ao9 (J3 P nt rd) T t v lo U i k):
 ∃a b c y,lo=some a/\U=some b/\i=some c/\UV P t v a b c=some y/\k y:=by
 unfold Ao9 at h
 split at h
 ·rename_i a b c;refine⟨a,b,c,?_⟩
  split at h
  ·exact h.elim
  rename_i I n
  split at h
  ·rename_i e Y
   split at h
   ·exact h.elim
   rename_i J x
   split at h
   ·have⟨X,h⟩:=h;refine⟨_,rfl,rfl,rfl,?_,h⟩;simp only[UV,(I7 g n).sl,Y,(I7 g x).sz];rw[A2 X]
   grind
  grind
 grind
def WM (g:Nk P T) {t id:Nat} {i n:Int} {lo U x:OS (OS Int)} {k:V->Prop} (h:Yz (J3 P nt rd) T t H id i n lo U x k):
 ∃a b c y,lo=some a/\U=some b/\x=some c/\Og P H t (.own id i n) a b c=some y/\k y:=by
 unfold Yz at h
 split at h
 ·rename_i a b c;refine⟨a,b,c,?_⟩
  split at h
  ·exact h.elim
  rename_i I N
  split at h
  ·rename_i e Y
   split at h
   ·exact h.elim
   rename_i J d;have⟨xs,W,X,h⟩:=h;refine⟨_,rfl,rfl,rfl,?_,h⟩;simp only[Og,(I7 g N).sl,Y,(I7 g d).sz,Ky,W];rw[A2 ⟨trivial,X⟩];rfl
  grind
 grind
theorem Nb (a:Nk P T) {b:Builtin} {m:Up Do} {vs:Up V} {k:V->Prop} (h:Sc (J3 P nt rd) T b m vs k):∃v,FE P b m vs v/\k v:=by
 unfold Sc at h
 split at h
 ·rename_i t x
  split at h
  ·exact h.elim
  rename_i I i;have ok:=I7 a i
  split at h
  ·rename_i e Y
   split at h
   ·exact⟨_,by simp only[FE,AM6,ok.sl,Y],h⟩
   grind
  rename_i Y
  split at h
  ·rename_i n e c;exact⟨_,by simp only[FE,AM6,ok.sl,Y,ok.ar,c,Ar.ofN_eq],h⟩
  rename_i c
  split at h
  ·split at h
   ·rename_i C;exact⟨_,by simp only[FE,AM6,ok.sl,Y,ok.ar,c,ok.st,C,D8,Ar.slen_eq],h⟩
   grind
  grind
 ·grind[Ar.mx_eq,FE]
 ·grind[Ar.mn_eq,FE]
 ·rename_i O R xs tl ys G
  split at h
  ·rename_i I M i y
   split at h
   ·rename_i e e2 Y d
    split at h
    ·rename_i J N
     split at h
     ·rename_i z q
      have g:=(I7 a N).ze;rw[q]at g;simp only[Ef]at g
      split at h
      ·rename_i X;have⟨o,p,c3,c4,c5⟩:=X;have⟨f,j,l1,D,s,u,w,B⟩:=h;refine⟨_,⟨?_,e,J.sz,J.by_,z,f,j,(I7 a i).sl.trans Y,by rw[(I7 a y).sl,d];rfl,(I7 a N).sz,o,(I7 a N).by_,p,g,c3,c4,l1,D,s,u,w,rfl⟩,B⟩;cases tl<;>first|exact .inl rfl|exact .inr rfl|cases c5
      grind
     grind
    grind
   grind
  grind
 grind
theorem Tn {t:Bool}{x y:Sl}{k:Sl->Prop}(h:AQ6 (J3 P nt rd) t x y k):∃s:Sl,(t=true->s.V=x.V)/\(t=false->s.V=y.V)/\k s:=by
 unfold AQ6 at h
 split at h
 ·grind
 ·exact⟨_,λe=>(by simp[Sl.V,e]),λe=>(by simp[Sl.V,e]),h⟩
 ·grind[Sl.V,Ar.or_eq]
 ·grind[Sl.V,nt_eq]
 ·grind
 ·grind[Sl.V,nt_eq,an_eq]
 ·grind[Sl.V,nt_eq,Ar.or_eq]
 ·grind[Sl.V,an_eq]
 ·grind[Ar.pk_eq]
 have⟨O,a⟩:=h;cases t
 ·grind
 grind
def Nr.arm {G:Up (Nat×Bool)} (a:Nr G l) {c:By} {w:Bool} (h:ev (J9 ⟨l,df⟩) c= .bool w):Nr (Bw8 c w G) l:=by
 cases c with
 |tmp d=>
  refine a.add ?_;have:EQ l d= .bool w:=h;rw[this];simp[isB]
 |const _=>exact a
 |global _=>exact a
 |func _=>exact a
theorem To (i:Nk P T) {b:Builtin} {n:Up Do} {vs:Up V} {w:V} {k:V->Prop} (a:At0 b vs=some w) (h:AQ9 (J3 P nt rd) T b n H w k):∃v,Qx P H b n vs v/\k v:=by
 unfold At0 at a
 unfold AQ9 at h
 split at a
 ·cases a
  split at h
  ·split at h
   ·exact h.elim
   rename_i I g
   split at h
   ·rename_i e Y;exact⟨_,by simp only[Qx,Bl0,(I7 i g).sl,Y],h⟩
   grind
  grind
 ·cases a
  split at h
  ·split at h
   ·exact h.elim
   rename_i I g
   split at h
   ·rename_i e Y
    split at h
    ·simp_all
    ·have⟨sz,xs,W,h⟩:=h;exact⟨_,by simp only[Qx,Ax3,(I7 i g).sl,Y,Ky,W];rfl,h⟩
    ·exact⟨_,by simp only[Qx,Ax3,(I7 i g).sl,Y],h⟩
    ·exact⟨_,by simp only[Qx,Ax3,(I7 i g).sl,Y],h⟩
    grind
   grind
  grind
 cases a
def QO (t:Nk P T) {G:Up (Nat×Bool)} (q:Nr G l) {o:Oper} {k:Sl->Prop} (h:xq (J3 P nt rd) T G o l H k):∃s:Sl,QN P o (ev (J9 ⟨l,df⟩)) H s.V/\k s:=by
 have E:∀x,(Ak G l x).V=ev (J9 ⟨l,df⟩) x:=λx=>HA q x;have D:∀xs:Up By,(xs.map λx=>(Ak G l x).V)=xs.map (ev (J9 ⟨l,df⟩)):=λxs=>Y0 λp _=>E p
 have R:∀x:OS By,(x.map λx=>(Ak G l x).V)=x.map (ev (J9 ⟨l,df⟩)):=λx=>by cases x<;>simp[E]
 have S:∀C:Up (Nat×By),(C.map λp=>(p.1,(Ak G l p.2).V))=C.map λp=>(p.1,ev (J9 ⟨l,df⟩) p.2):=λC=>Y0 λp _=>by rw[E]
 unfold xq at h
 unfold QN
 split at h<;>rename_i z<;>try simp only[z]
 ·grind
 ·grind
 ·rename_i c x y
  split at h
  ·rename_i X
   have:ev (J9 ⟨l,df⟩) c= .bool true:=by rw[<-E,X];rfl
   grind
  ·rename_i X
   have:ev (J9 ⟨l,df⟩) c= .bool false:=by rw[<-E,X];rfl
   grind
  ·rename_i b X
   have V:ev (J9 ⟨l,df⟩) c= .bool b:=by rw[<-E,X];rfl
   have⟨s,O,g,N⟩:=Tn h;refine⟨s,?_,N⟩;simp only[V];cases b
   ·simp only[L6,H7];rw[g rfl];exact HA (q.arm V) _
   simp only[D8];rw[O rfl];exact HA (q.arm V) _
  grind
 ·split at h
  ·rename_i O;rw[E]at O;exact⟨_,⟨O,by rw[E];rfl⟩,h⟩
  grind
 ·have⟨v,O,g⟩:=QS t h
  rw[S]at O;exact⟨.v v,O,g⟩
 ·have⟨v,O,g⟩:=Lh t h
  rw[S]at O;exact⟨.v v,O,g⟩
 ·have⟨v,O,g⟩:=YC t h
  rw[E,E]at O;exact⟨.v v,O,g⟩
 ·have⟨v,O,g⟩:=Oa t h
  rw[E]at O;exact⟨.v v,O,g⟩
 ·grind
 ·have⟨v,O,g⟩:=UE t h
  rw[E,E]at O;exact⟨.v v,O,g⟩
 ·grind[Xl]
 ·have⟨v,O,g⟩:=Aa0 t h
  rw[E]at O;exact⟨.v v,O,g⟩
 ·have⟨v,O,g⟩:=h
  rw[E,E]at O;exact⟨.v v,O,g⟩
 ·split at h
  ·rename_i I B
   split at h
   ·rename_i hn;exact⟨_,⟨(I7 t B).nif hn,by rw[E];rfl⟩,h⟩
   grind
  grind
 ·grind[Sl.V]
 ·split at h
  ·rename_i id l0 n M;have⟨a,b,c,y,O,g,N,d,m⟩:=WM t h
   rw[R]at O g N
   rw[E]at M
   exact⟨.v y,by simp only[O,g,N,M];exact .inr d,m⟩
  have⟨a,b,c,y,O,g,N,d,m⟩:=Yy t h
  rw[R]at O g N
  rw[E]at d
  exact⟨.v y,by simp only[O,g,N];exact .inl d,m⟩
 ·have⟨v,O,g⟩:=Me t h
  rw[E]at O;exact⟨.v v,O,g⟩
 ·have⟨v,O,g⟩:=QR t h
  rw[E]at O;exact⟨.v v,O,g⟩
 ·split at h
  ·rename_i id lo n M
   unfold Bp2 at h
   split at h
   ·rename_i i U
    split at h
    ·exact h.elim
    rename_i I B
    split at h
    ·rename_i e Y
     split at h
     ·exact h.elim
     rename_i J hJ;have⟨⟨xs,W⟩,V,h⟩:=h
     rw[E]at M U
     refine⟨.v _,?_,h⟩;simp only[U,M];refine .inr ?_;simp only[Av2,(I7 t B).sl,Y,Ky,W,(I7 t hJ).sz,Ar.ofs_eq];rw[A2 ⟨V,trivial⟩];rfl
    grind
   grind
  have⟨ki,j,u,y,O,g,d,N⟩:=Sb t h
  rw[E]at O g
  exact⟨.v y,by simp only[O];exact .inl ⟨u,g,d⟩,N⟩
 ·have⟨ki,j,y,O,g,N⟩:=YD t h
  rw[E]at O g
  exact⟨.v y,by simp only[O];exact g,N⟩
 ·split at h
  ·rename_i cs X
   rw[E]at X
   have⟨y,O,g⟩:=Hk h;exact⟨.v y,by simp only[X];exact O,g⟩
  grind
 ·rename_i c
  split at h
  ·rename_i b V
   split at h
   ·rename_i w f
    rw[D]at f
    have⟨v,O,g⟩:=To t f h;exact⟨.v v,by simp only[V];exact .inr O,g⟩
   have⟨v,O,g⟩:=Nb t h
   rw[D]at O
   exact⟨.v v,by simp only[V];exact .inl O,g⟩
  grind
 grind
end
def Gk (d:OS Tmp)(s:Sl)(l:Fl):Fl:=
 match d with
 |some d=>(d,s)::l
 |none=>l
section
variable (E:Hj)(T:JI)(nt:Nat)(A:Nat->Bool)(Z:Nat->List Nat)
def Ay7 (H:A6) (k:V->A6->Prop) (g:Up Do) (vs:Up V):Prop:=
 match g,vs with
 | [b,  h],[.sl xs tl,.sl ys _]=>
  (match tg T b,tg T h with
   | some I,some a=>
    (match I.sl,a.sl with
     | some e,some _=>
      (match tg T e with
       | some J=>
        (match J.ze with
         |some z=>if 0<J.sz/\0<J.by_/\z.one=true/\z.cells.length=J.sz then E.appn J.sz J.by_ H tl xs ys k else False
         |none=>False)
       |none=>False)
     |_,_=>False)
   |_,_=>False)
 |_,_=>False
def Aa1 (H:A6) (k:V->A6->Prop) (g:Up Do) (vs:Up V):Prop:=
 match g,vs with
 | [b,  h],[.sl xs tl,.sl ys _]=>
  (match tg T b,tg T h with
   | some I,some a=>
    (match I.sl,a.sl with
     | some e,some _=>
      (match tg T e with
       | some J=>
        (match J.ze with
         |some z=>if 0<J.sz/\0<J.by_/\z.one=true/\z.cells.length=J.sz then E.appw J.sz J.by_ H tl xs ys k else False
         |none=>False)
       |none=>False)
     |_,_=>False)
   |_,_=>False)
 |_,_=>False
def AV4 (a:Bool)(vs:Up V):Bool:=
 match vs with
 | .own _ _ _::_=>true
 |_=>a
def Aa2 (H :A6) (k:V->A6->Prop) (g:Up Do) (vs:Up V):Prop:=
 match g,vs with
 | [b,  h] ,[x,y]=>
  (match tg T b,tg T h with
   | some I,some a=>
    (match I.sl with
     | some e=>
      (match tg T e with
       | some J=>
        (match J.ze with
         | some z=>
          if 0<J.sz/\0<J.by_/\z.one=true/\z.cells.length=J.sz then
           (match a.sl,a.ik,y with
            |some _,_,y=>E.oapp J.sz J.by_ z H x y k
            |none,some _,.int _ m=>E.oappz J.sz J.by_ z H x m k
            |none,none,.str s=>(match a.st,J.sz with|true,1=>E.oapps J.by_ z H x s k|_,_=>False)
            |_,_,_=>False)
          else False
         |none=>False)
       |none=>False)
     |_=>False)
   |_,_=>False)
 |_,_=>False
def Bp5 (H:A6) (k:V->A6->Prop) (b:Up Do) (vs:Up V):Prop:=
 match b,vs with
 | [a,_],[.own id lo n,y]=>
  (match tg T a with
   | some I=>
    (match I.sl with
     |some e=>(match tg T e with|some J=>if 0<J.sz then E.ocopy J.sz H (.own id lo n) y k else False|none=>False)
     |_=>False)
   |_=>False)
 |_,_=>False
def AR3 (H:A6) (k:V->A6->Prop) (b:Up Do) (vs:Up V):Prop:=
 match b,vs with
 | [a] ,[.own id lo n]=>
  (match tg T a with
   | some I=>
    (match I.sl with
     | some e=>
      (match tg T e with
       |some J=>(match J.ze with|some z=>if 0<J.sz/\z.one=true/\z.cells.length=J.sz then E.oclear J.sz z H (.own id lo n) λH'=>k (.tup []) H' else False|none=>False)
       |none=>False)
     |_=>False)
   |_=>False)
 |_,_=>False
def Bp3 (t:Nat) (H:A6) (k:V->A6->Prop) (l c:V):Prop:=
 match l,c with
 | .int _ n,.int _ m=>
  (match tg T t with
   | some I=>
    (match I.sl with
     | some e=>
      (match tg T e with
       | some J=>
        (match J.ze with
         |some z=>if 0<J.sz/\0<J.by_/\z.one=true/\z.cells.length=J.sz then E.omk J.sz J.by_ z n m H k else False
         |none=>False)
       |none=>False)
     |none=>False)
   |none=>False)
 |_,_=>False
def Bf2 (t:Nat)(H:A6)(k:Sl->A6->Prop):Prop:=
 match tg T t with
 |some I=>(match I.sl with|some e=>(match tg T e with|some J=>E.onil J.sz H λv H'=>k (.v v) H'|none=>False)|none=>False)
 |none=>False
def xlit (t n:Nat) (H:A6) (a:Up (Nat×V)) (k:Sl->A6->Prop):Prop:=
 match tg T t with
 |none=>False
 | some I=>
  match I.sl with
  |none=>False
  | some e=>
   match tg T e with
   |none=>False
   |some J=>
    match J.ze with
    |none=>False
    |some _=>if n*J.sz<=16777216/\a.length=n/\Fm J.sz 0 a=true then E.olit J.sz H (a.map λq=>q.2) λv H'=>k (.v v) H' else False
def xop (G:Up (Nat×Bool)) (o:Oper) (l:Fl) (H:A6) (k:Sl->A6->Prop):Prop:=
 match o.op with
 | .alloc t=>
  (match tg T t with
   | some I=>
    (match I.ze with
     | some z=>
      (match A (o.dst.getD 0+5000000),OB z with
       |true,true=>(match I.sl with|some e=>(match tg T e with|some J=>E.oalloc J.sz H λid H'=>k (.v (.ref id 0)) H'|none=>False)|none=>False)
       |_,_=>(match z.one with|true=>E.alloc H z.cells λid H'=>(match A (o.dst.getD 0+10000000)with|true=>E.wkB H' id λb=>k (.v (.ref id 0)) b|false=>k (.v (.ref id 0)) H')|false=>False))
     |none=>False)
   |none=>False)
 | .box _ x=>
  match A (o.dst.getD 0+1000000)with
  |true=>E.need ((Ak G l x).V.one=true/\(Ak G l x).V.cells=[(Ak G l x).V]) λ_=>(match A (o.dst.getD 0)with|true=>E.alloc H [(Ak G l x).V] λid H'=>k (.v (.ref id 0)) H'|false=>k (.v (.eref [(Ak G l x).V] 0)) H)
  |false=>
  (match(Ak G l x).V.one with
   |true=>(match A (o.dst.getD 0)with|true=>E.alloc H (Ak G l x).V.cells λid H'=>k (.v (.ref id 0)) H'|false=>k (.v (.eref (Ak G l x).V.cells 0)) H)
   |false=>False)
 | .store t x y=>
  (match tg T t with
   | some I=>
    (match(Ak G l x).V with
     | .ref id off=>
      (match(Ak G l y).V.one with
       | true=>
        (match Nat.beq (Ak G l y).V.cells.length I.sz with
         |true=>E.store H id off I.sz (Ak G l y).V.cells λH'=>k (.v .bad) H'
         |false=>False)
       |false=>False)
     | .elem id i esz off=>E.ostore H id i esz I.sz off (Ak G l y).V λH'=>k (.v .bad) H'
     |_=>False)
   |none=>False)
 | .binOp g t x y _=>
  (match AE5 g,OB (Ak G l y).V with
   |some q,true=>(match tg T t with|some I=>(match I.sl with|some _=>E.nilc (Ak G l x).V (λ_=>k (.b q) H) (λ_=>k (.b (!q)) H)|none=>xq E T G o l H λs=>k s H)|none=>False)
   |_,_=>xq E T G o l H λs=>k s H)
 | .makeSlice t x y=>Bp3 E T t H (λv H'=>k (.v v) H') (Ak G l x).V (Ak G l y).V
 | .assign x=>(match A (o.dst.getD 0+6000000),Bl5 x with|true,true=>(match OB (Ak G l x).V with|true=>Bf2 E T o.type H k|false=>k (Ak G l x) H)|_,_=>k (Ak G l x) H)
 | .move x=>(match A (o.dst.getD 0+6000000),Bl5 x with|true,true=>(match OB (Ak G l x).V with|true=>Bf2 E T o.type H k|false=>k (Ak G l x) H)|_,_=>k (Ak G l x) H)
 | .buildSlice t n a=>
  (match A (o.dst.getD 0+6000000)with
   |true=>xlit E T t n H (a.toList.map λp=>(p.1,(Ak G l p.2).V)) k
   |false=>Li T t n (a.toList.map λp=>(p.1,(Ak G l p.2).V)) λv=>k (.v v) H)
 | .makeMap _ r=>(match r with|none=>E.mmk H λv H'=>k (.v v) H'|some _=>False)
 | .mapUpdate t x y z=>E.mset t H (Ak G l x).V (Ak G l y).V (Ak G l z).V λH'=>k (.v .bad) H'
 | .insert t x y z=>E.mset t H (Ak G l x).V (Ak G l y).V (Ak G l z).V λH'=>k (.v .bad) H'
 | .range t x=>E.mrg t H (Ak G l x).V λv H'=>k (.v v) H'
 | .next x s=>(match s with|false=>E.mnx H (Ak G l x).V λv H'=>k (.v v) H'|true=>False)
 | .entry x=>E.men H (Ak G l x).V λv H'=>k (.v v) H'
 | .call c=>
  (match c.callee with
   | .value x=>E.call (Ak G l x).V (c.args.toList.map λx=>(Ak G l x).V) H λv H'=>k (.v v) H'
   | .builtin .append=>
    (match AV4 (A (o.dst.getD 0)) (c.args.toList.map λx=>(Ak G l x).V)with
     |true=>Aa2 E T H (λv H'=>k (.v v) H') c.argTypes.toList (c.args.toList.map λx=>(Ak G l x).V)
     | false=>
      (match A (o.dst.getD 0+4000000)with
       |true=>Aa1 E T H (λv H'=>k (.v v) H') c.argTypes.toList (c.args.toList.map λx=>(Ak G l x).V)
       |false=>Ay7 E T H (λv H'=>k (.v v) H') c.argTypes.toList (c.args.toList.map λx=>(Ak G l x).V)))
   | .builtin .copy=>Bp5 E T H (λv H'=>k (.v v) H') c.argTypes.toList (c.args.toList.map λx=>(Ak G l x).V)
   | .builtin .clear=>AR3 E T H (λv H'=>k (.v v) H') c.argTypes.toList (c.args.toList.map λx=>(Ak G l x).V)
   | .builtin _=>xq E T G o l H λs=>k s H
   |_=>False)
 |_=>xq E T G o l H λs=>k s H
def Au7 (o o2:Oper):OS (Nat×Do×Do×By):=
 match o.op,o.dst,o.guard with
 | .alloc t,some d,none=>
  (match o2.op,o2.dst,o2.guard with
   | .store a (.tmp b) x,none,none=>
    (match A d,Nat.beq d b with
     |false,true=>(match x with| .tmp e=>(match Nat.beq d e with|true=>none|false=>some (d,t,a,x))|_=>some (d,t,a,x))
     |_,_=>none)
   |_,_,_=>none)
 |_,_,_=>none
def Bq3 (l:Fl) (t b:Do) (x:By):OS (Up V):=
 match tg T t,tg T b with
 | some I,some a=>
  (match I.ze with
   |some z=>if z.one=true/\(Ak [] l x).V.one=true/\(Ak [] l x).V.cells.length=a.sz/\a.sz<=z.cells.length then some (AF z.cells 0 (Ak [] l x).V.cells)else none
   |none=>none)
 |_,_=>none
def JV (ops : za1 Oper) (o:Oper):Nat->Fl->(Up (Nat×Bool)->Fl->(Sl->Sl)->Prop)->(Fl->Prop)->Prop
 | n, l, go, skip=>
  match o.guard with
  |none=>go [] l Sl.n
  | some (j, a)=>
   (match (ops[j]?).bind (·.dst)with
    |none=>False
    | some d =>
     (match Ag5 [] l d with
      |some (.b c)=>(match c==a with|true=>go [] l Sl.n|false=>skip l)
      | some (.v (.bool c))=>
       (match OA [(d,a)] o l with
        |true=>go [(d,a)] l λs=>.g d a s.V
        | false=>
         E.br c (λ_=>match a with|true=>go [] (Sh l d true) Sl.n|false=>skip (Sh l d true))
          (λ_=>match a with|false=>go [] (Sh l d false) Sl.n|true=>skip (Sh l d false)))
      |some (.v (.tup _))=>skip l
      |some _=>False
      | none =>
       (match lk l d with
        | .g b _ (.bool _)=>
         (match AO1 l d b with
          | true=>
           (match OA [(d,a)] o l with
            |true=>go [(d,a)] l λs=>.g d a s.V
            | false=>
             (match lk l b,n with
              | .v (.bool c),n+1=>E.br c (λ_=>JV ops o n (Sh l b true) go skip) (λ_=>JV ops o n (Sh l b false) go skip)
              |_,_=>False))
          |false=>False)
        |_=>False)))
def QQ:OS (Nat×Int×Int×Up V)->Up Nat->Fl->A6->(Fl->A6->Prop)->Prop
 |_,[],l,H,k=>k l H
 | some (id,lo,n,xs),d::ds,l,H,k=>
  (match lk l d with
   | .v (.own a b e)=>E.need (a=id/\b=lo/\e=n) λ_=>QQ (some (id,lo,n,xs)) ds ((d,.v (.sl xs .ro))::l) H k
   |_=>QQ none ds l H k)
 | none,d::ds,l,H,k=>
  match decide (1000000<=d)with
  | true=>
   (match lk l (d % 1000000)with
    | .v (.ref id 0)=>
     (match decide (100000000<=d)with
      |true=>E.adoptIn H id ((d-100000000) / 1000000) λH'=>QQ none ds l H' k
      |false=>E.frzIn H id (d / 1000000-1) λH'=>QQ none ds l H' k)
    |_=>False)
  |false=>
   match lk l d with
   | .v (.ref id 0)=>E.frzL H id λcs H'=>QQ none ds ((d,.v (.eref cs 0))::l) H' k
   | .v (.own id lo n)=>E.ofrz H id lo n λxs H'=>QQ (some (id,lo,n,xs)) ds ((d,.v (.sl xs .ro))::l) H' k
   | .v (.sl _ _)=>QQ none ds l H k
   |_=>False
def BC5 (o:Oper):Up Nat:=
 match o.dst with
 |some q=>Z q
 |none=>[]
def QP (ops:za1 Oper):Up Oper->Fl->A6->(Fl->A6->Prop)->Prop
 |[],l,H,K=>K l H
 | o ::rest,l,H,K=>
  match Jt nt o.dst with
  |false=>False
  | true=>
   QQ E none (BC5 Z o) l H λl H=>
   match rest with
   |[]=>JV E ops o 4 l (λG b wr=>xop E T A G o b H λs H'=>K (Gk o.dst (wr s) b) H') λb=>K (Gk o.dst (.v (.tup [])) b) H
   | o2::a=>
    (match Au7 A o o2 with
     | some (d,t,e,x)=>
      (match Bq3 T l t e x with
       |some cs=>QP ops a ((d,.v (.eref cs 0))::l) H K
       |none=>False)
     |none=>JV E ops o 4 l (λG b wr=>xop E T A G o b H λs H'=>QP ops (o2::a) (Gk o.dst (wr s) b) H' K) λb=>QP ops (o2::a) (Gk o.dst (.v (.tup [])) b) H K)
end
section
variable {P:Program}{nt:Nat}{rd:Option Nat}{T:JI}{A:Nat->Bool}{df:List Nat}
def AC5 (l:Fl) (d t:Nat) (s:Sl):EQ ((d,s)::l) t=if t=d then slV l s else EQ l t:=by
 simp only[EQ]
 by_cases h:t=d
 ·subst h;simp only[Nat.beq_refl,D8];cases s<;>rfl
 have:Nat.beq t d=false:=by
  cases a:Nat.beq t d with
  |false=>rfl
  |true=>simp_all
 grind
def S1 (l:Fl) (d:OS Tmp) (s:Sl):J9 ⟨Gk d s l,df⟩=(J9 ⟨l,df⟩).put d (slV l s):=by
 cases d with
 |none=>rfl
 |some d=>
  simp_all[J9,Gk,Fr.put,AC5]
def Hl {ops:za1 Oper} {o:Oper} {k:Up (Nat×Bool)->Fl->(Sl->Sl)->Prop} {skip:Fl->Prop}:∀(n:Nat) (l:Fl),JV (J3 P nt rd) ops o n l k skip->
 ∃g,(∀t,EQ g t=EQ l t)/\((Du ops (J9 ⟨l,df⟩) o=some true/\∃G wr,Nr G g/\(∀s,slV g (wr s)=s.V)/\k G g wr)\/
  (Du ops (J9 ⟨l,df⟩) o=some false/\(skip g\/∃G d a,OA G o g=true/\isB (EQ g d) a=false/\k G g λs=>.g d a s.V)))
 | n, l,h=>by
  unfold JV at h
  split at h
  ·rename_i u;exact⟨l,λ_=>rfl,.inl ⟨by simp[Du,u],[],_,Nr.nil,λs=>by cases s<;>rfl,h⟩⟩
  rename_i j a u
  split at h
  ·exact h.elim
  rename_i d v
  have f:∀x,EQ l d=x->Du ops (J9 ⟨l,df⟩) o=match x with| .bool c=>some (c==a)| .tup _=>some false|_=>none:=λx M=>by
   simp only[Du,u,v,J9,M]
   grind
  have i:∀(g:Fl) (s:Sl),slV g s.n=s.V:=λg s=>by cases s<;>rfl
  have I:∀c,EQ l d= .bool c->OA [(d,a)] o l=true->k [(d,a)] l (λs=>.g d a s.V)->∃g,(∀t,EQ g t=EQ l t)/\((Du ops (J9 ⟨l,df⟩) o=some true/\∃G wr,Nr G g/\(∀s,slV g (wr s)=s.V)/\k G g wr)\/
   (Du ops (J9 ⟨l,df⟩) o=some false/\(skip g\/∃G d a,OA G o g=true/\isB (EQ g d) a=false/\k G g λs=>.g d a s.V))):=by
   intro c X w h;have:=f _ X
   simp only at this
   cases N:c==a with
   |true=>exact⟨l,λ_=>rfl,.inl ⟨by rw[this,N],_,_,Nr.nil.add (by rw[X];simp_all[isB]),λs=>by simp_all[slV,isB],h⟩⟩
   |false=>exact⟨l,λ_=>rfl,.inr ⟨by rw[this,N],.inr ⟨_,d,a,w,by rw[X];simp_all[isB],h⟩⟩⟩
  split at h
  ·rename_i c X;have q:EQ l d= .bool c:=(Ou Nr.nil X).1.symm;have:=f _ q
   split at h
   ·rename_i e;exact⟨l,λ_=>rfl,.inl ⟨by rw[this];grind,[],_,Nr.nil,i l,h⟩⟩
   grind
  ·rename_i c X;have q:EQ l d= .bool c:=(Ou Nr.nil X).1.symm;have V:=f _ q
   split at h
   ·simp_all
   have e:=Un l d c q;obtain⟨O,C⟩:=h;cases c
   ·have h:=C rfl;cases a
    ·exact⟨_,e,.inl ⟨V,[],_,Nr.nil,i _,h⟩⟩
    grind
   have h:=O rfl;cases a
   ·grind
   exact⟨_,e,.inl ⟨V,[],_,Nr.nil,i _,h⟩⟩
  ·rename_i vs X;have q:EQ l d= .tup vs:=(Ou Nr.nil X).1.symm
   grind
  ·exact h.elim
  split at h
  ·rename_i y w' J B
   split at h
   ·rename_i D;have q:=Zx l d y w' _ B D
    split at h
    ·rename_i w
     cases p:isB (EQ l y) w' with
     |true=>
      rw[p]at q
      simp_all
     |false=>
      rw[p]at q
      have q:EQ l d= .tup []:=q;exact⟨l,λ_=>rfl,.inr ⟨f _ q,.inr ⟨_,d,a,w,by rw[q];rfl,h⟩⟩⟩
    split at h
    ·rename_i c m X;have z:=Oz l y _ X (λ_ _ _ h=>by cases h);obtain⟨O,C⟩:=h
     have key:∀b,c=b->JV (J3 P nt rd) ops o m (Sh l y b) k skip->∃g,(∀t,EQ g t=EQ l t)/\((Du ops (J9 ⟨l,df⟩) o=some true/\∃G wr,Nr G g/\(∀s,slV g (wr s)=s.V)/\k G g wr)\/
      (Du ops (J9 ⟨l,df⟩) o=some false/\(skip g\/∃G d a,OA G o g=true/\isB (EQ g d) a=false/\k G g λs=>.g d a s.V))):=by
      intro b p h
      have W:EQ l y= .bool b:=by rw[z,p];rfl
      have e:=Un l y b W;obtain⟨g,R,h⟩:=Hl m _ h
      rw[SF W]at h
      grind
     cases c
     ·simp_all
     simp_all
    grind
   grind
  grind
def M2.whole {y:V} {vs:Up V} (h:M2 y.cells vs) (O:y.one=true):∃z,DK y z/\z.cells=vs:=by
 have one:∀{y:V} {vs:Up V},M2 [y] vs->(∀z,DK y z->z.cells=[z])->∃z,DK y z/\z.cells=vs:=by
  intro y vs h a
  cases h with
  |cons q r=>cases r;grind
 cases y with
 |agg cs=>exact⟨.agg vs,.agg h,rfl⟩
 |tup vs=>cases O
 |_=>exact one h λz a=>by cases a<;>rfl
def Sa (a: Nk P T) {G:Up (Nat×Bool)} {o:Oper} {l:Fl} (hG:Nr G l) {H:A6} {k:Sl->A6->Prop} (h:xop (J3 P nt rd) T A G o l H k):KD P A o (ev (J9 ⟨l,df⟩)) H λv H'=>∃s:Sl,v=s.V/\k s H':=by
 have E:∀x,(Ak G l x).V=ev (J9 ⟨l,df⟩) x:=λx=>HA hG x;have Em:∀xs:Up By,(xs.map λx=>(Ak G l x).V)=xs.map (ev (J9 ⟨l,df⟩)):=λxs=>Y0 λp _=>E p
 have ab:xq (J3 P nt rd) T G o l H (λs=>k s H)->∃v,QN P o (ev (J9 ⟨l,df⟩)) H v/\∃s:Sl,v=s.V/\k s H:=λh=>by
  obtain⟨s,O,C⟩:=QO (df:=df) a hG h
  grind
 unfold xop at h
 split at h
 ·rename_i t g;simp only[KD,g]
  split at h
  ·rename_i I d
   split at h
   ·rename_i z B
    have N:=(I7 a d).ze;rw[B]at N;simp only[Ef]at N
    split at h
    ·rename_i hA hn
     split at h
     ·split at h
      ·rename_i J _
       have e2:z= .sl [] .nil:=by
        grind[OB]
       rw[e2]at N
       exact .inr ⟨N,J.sz,λq id hq u=>⟨.v (.ref id 0),rfl,h q id hq u⟩⟩
      grind
     grind
    split at h
    ·rename_i O;refine .inl ⟨z,N,O,λid u=>?_⟩;have h:=h id u
     split at h
     ·obtain⟨cs,ds,R,q2,q3⟩:=h
      rw[G4]at R;grind[FI,Sl.V]
     exact⟨_,.refl _,.v (.ref id 0),rfl,h⟩
    grind
   grind
  grind
 ·rename_i t x g;simp only[KD,g]
  split at h
  ·rw[E]at h
   obtain⟨⟨O,C⟩,h⟩:=h;refine⟨O,?_⟩;rw[C]
   split at h
   ·rename_i hA;rw[A2 hA];exact λid u=>⟨.v (.ref id 0),rfl,h id u⟩
   grind[Sl.V]
  split at h
  ·rename_i O
   rw[E]at O
   refine⟨O,?_⟩
   split at h
   ·rename_i hA;rw[A2 hA];intro id u;have:=h id u
    rw[E]at this
    exact⟨.v (.ref id 0),rfl,this⟩
   rename_i hA;rw[A1 (by rw[hA];simp)]
   rw[E]at h
   grind[Sl.V]
  grind
 ·rename_i t x y g;simp only[KD,g]
  split at h
  ·rename_i I d
   split at h
   ·rename_i id off M
    split at h
    ·rename_i O
     split at h
     ·rename_i C;obtain⟨cs,vs',hle,W,h3,h⟩:=h
      rw[E]at M O C hle
      obtain⟨z,B,ai⟩:=hle.whole O;subst ai;refine .inl ⟨z,_,B,?_,.v .bad,rfl,h⟩;simp only[Qi,(I7 a d).sz,M,W];rw[A2 ⟨B.one O,by rw[<-B.cells.length];simp_all,GY h3⟩]
     grind
    grind
   ·rename_i id i esz off M;obtain⟨xs,y',R,q2,q3,q4,q5,q6,h⟩:=h
    rw[E]at M R
    refine .inr ⟨y',_,R,?_,.v .bad,rfl,h⟩;simp only[YN,(I7 a d).sz,M,Ky,q5];rw[A2 ⟨q6,trivial,q2,q3,q4⟩]
   grind
  grind
 ·rename_i op t x y ty g
  have aq:xq (J3 P nt rd) T G o l H (λs=>k s H)->KD P A o (ev (J9 ⟨l,df⟩)) H λv H'=>∃s:Sl,v=s.V/\k s H':=λh=>by
   grind[KD]
  split at h
  ·rename_i q hq hn
   split at h
   ·rename_i I d
    split at h
    ·rename_i e Y;obtain⟨p,O,C,h3⟩:=h
     rw[E]at O hn
     simp only[KD,g];refine .inr ⟨q,e,p,hq,(I7 a d).sl.trans Y,O,?_,λM=>⟨.b q,rfl,C M⟩,⟨.b (!q),rfl,h3⟩⟩
     grind[OB]
    grind
   grind
  grind
 ·rename_i t x y g;simp only[KD,g]
  rw[E,E]at h
  refine .inr ?_
  unfold Bp3 at h
  unfold TE
  split at h
  ·rename_i k1 n k2 m w e2;rw[w,e2]
   simp only
   split at h
   ·rename_i I d
    split at h
    ·rename_i e Y
     split at h
     ·rename_i J V
      split at h
      ·rename_i z B
       have N:=(I7 a V).ze;rw[B]at N;simp only[Ef]at N
       split at h
       ·rename_i X;obtain⟨U,c2,c3,c4⟩:=X;obtain⟨⟨R,q2,q3⟩,ys,hle,h⟩:=h;exact⟨e,J.sz,J.by_,z,(I7 a d).sl.trans Y,(I7 a V).sz,U,(I7 a V).by_,c2,N,c3,c4,R,q2,q3,λid u=>⟨id,J.sz,_,ys,G4 _ _ _,hle,.v _,rfl,by rw[FI];grind⟩⟩
       grind
      grind
     grind
    grind
   grind
  grind
 ·rename_i x g;simp only[KD,g]
  split at h
  ·split at h
   ·rename_i hn
    rw[E]at hn
    unfold Bf2 at h
    split at h
    ·split at h
     ·split at h
      ·rename_i J _;refine .inr ⟨?_,J.sz,λq hq=>⟨.v _,rfl,h q hq⟩⟩
       unfold OB at hn
       split at hn
       ·assumption
       cases hn
      exact h.elim
     exact h.elim
    exact h.elim
   exact .inl ⟨_,(E x).symm,h⟩
  exact .inl ⟨_,(E x).symm,h⟩
 ·rename_i x g;simp only[KD,g]
  split at h
  ·split at h
   ·rename_i hn
    rw[E]at hn
    unfold Bf2 at h
    split at h
    ·split at h
     ·split at h
      ·rename_i J _;refine .inr ⟨?_,J.sz,λq hq=>⟨.v _,rfl,h q hq⟩⟩
       unfold OB at hn
       split at hn
       ·assumption
       cases hn
      exact h.elim
     exact h.elim
    exact h.elim
   exact .inl ⟨_,(E x).symm,h⟩
  exact .inl ⟨_,(E x).symm,h⟩
 ·rename_i t n ps g
  have Ep:∀ps:Up (Nat×By),(ps.map λp=>(p.1,(Ak G l p.2).V))=ps.map λp=>(p.1,ev (J9 ⟨l,df⟩) p.2):=λps=>Y0 λp _=>by rw[E]
  split at h
  ·simp only[KD,g];refine .inr ?_
   rw[Ep]at h
   unfold xlit at h
   split at h
   ·exact h.elim
   rename_i I d
   split at h
   ·exact h.elim
   rename_i e Y
   split at h
   ·exact h.elim
   rename_i J V
   split at h
   ·exact h.elim
   rename_i z B
   have N:=(I7 a V).ze;rw[B]at N;simp only[Ef]at N
   split at h
   ·rename_i X;obtain⟨ys,hle,h⟩:=h;refine⟨e,J.sz,_,ys,?_,(I7 a d).sl.trans Y,(I7 a V).sz,hle,λq hq=>⟨.v _,rfl,h q hq⟩⟩;simp only[CV,(I7 a d).sl,Y,(I7 a V).sz,N];rw[A2 X]
   grind
  obtain⟨v,O,C⟩:=Lh a h
  rw[Ep]at O
  simp only[KD,g];exact .inl ⟨v,by simp_all[QN],.v v,rfl,C⟩
 ·rename_i t r g;simp only[KD,g]
  split at h
  ·exact⟨rfl,AM2 (K:=λv H'=>k (.v v) H') h λv H' W=>⟨.v v,rfl,W⟩⟩
  grind
 ·rename_i t x y z g;simp only[KD,g]
  rw[E,E,E]at h
  exact Jy (K:=λ_ H'=>k (.v .bad) H') h λH' W=>⟨.v .bad,rfl,W⟩
 ·rename_i t x y z g;simp only[KD,g]
  rw[E,E,E]at h
  exact Jy (K:=λ_ H'=>k (.v .bad) H') h λH' W=>⟨.v .bad,rfl,W⟩
 ·rename_i t x g;simp only[KD,g]
  rw[E]at h
  exact Af5 (K:=λv H'=>k (.v v) H') h λv H' W=>⟨.v v,rfl,W⟩
 ·rename_i x s g;simp only[KD,g]
  cases s with
  |true=>exact h.elim
  |false=>
   rw[E]at h
   exact⟨rfl,At2 (K:=λv H'=>k (.v v) H') h λv H' W=>⟨.v v,rfl,W⟩⟩
 ·rename_i x g;simp only[KD,g]
  rw[E]at h
  exact Ak6 (K:=λv H'=>k (.v v) H') h λv H' W=>⟨.v v,rfl,W⟩
 ·rename_i c g
  split at h
  ·rename_i x X;simp only[KD,g,X]
   rw[E,Em]at h
   exact EN.mono h λv H' W=>⟨.v v,rfl,W⟩
  ·rename_i X;simp only[KD,g,X]
   rw[Em]at h
   split at h
   ·refine .inr (.inl ?_)
    unfold Aa2 at h
    unfold RT
    split at h
    ·rename_i sT yT x y f j;rw[f,j]
     simp only
     split at h
     ·rename_i I I2 d D
      split at h
      ·rename_i e Y
       split at h
       ·rename_i J V
        split at h
        ·rename_i z B
         have N:=(I7 a V).ze;rw[B]at N;simp only[Ef]at N
         split at h
         ·rename_i X;obtain⟨U,c2,c3,c4⟩:=X;refine⟨e,J.sz,J.by_,z,(I7 a d).sl.trans Y,(I7 a V).sz,U,(I7 a V).by_,c2,N,c3,c4,?_⟩
          split at h
          ·rename_i aa;obtain⟨S,R,h⟩:=h;exact .inl ⟨by rw[(I7 a D).sl,aa];rfl,S,R,MY h λv H' W=>⟨.v _,rfl,W⟩⟩
          ·rename_i k0 aa ag;have ad:=(I7 a D).ik
           rw[ag]at ad
           obtain⟨R,h⟩:=h;exact .inr (.inl ⟨⟨_,ad⟩,_,_,rfl,R.1,R.2,MY h λv H' W=>⟨.v _,rfl,W⟩⟩)
          ·split at h
           ·rename_i ah af;have ae:=(I7 a D).st
            rw[ah]at ae
            have h:Ju H (λv H'=>k (.v v) H') 1 J.by_ z x (HN _):=h
            rw[<-af]at h
            exact .inr (.inr ⟨OX ae,_,rfl,af,MY h λv H' W=>⟨.v _,rfl,W⟩⟩)
           grind
          grind
         grind
        grind
       grind
      grind
     grind
    grind
   split at h
   ·refine .inr (.inr ?_)
    unfold Aa1 at h
    unfold JH
    split at h
    ·rename_i sT yT xs tl ys aj f j;rw[f,j]
     simp only
     split at h
     ·rename_i I I2 d D
      split at h
      ·rename_i e e2 Y aa
       split at h
       ·rename_i J V
        split at h
        ·rename_i z B
         have N:=(I7 a V).ze;rw[B]at N;simp only[Ef]at N
         split at h
         ·rename_i X;obtain⟨U,c2,c3,c4⟩:=X;obtain⟨ac,S,l1,l2,k1,k2,k3,k4,k5⟩:=h;exact⟨e,J.sz,J.by_,z,(I7 a d).sl.trans Y,by rw[(I7 a D).sl,aa];rfl,(I7 a V).sz,U,(I7 a V).by_,c2,N,c3,c4,ac,S,l1,l2,k1,k2,k3,k4,λe=>⟨_,_,by subst e;rw[E5];exact .ro _ _,λ_ _ M=>HD M,⟨.v _,rfl,k5⟩⟩,λt O C=>⟨_,_,.ro _ _,λid b M=>by rw[D3 _ _ λe=>za8];exact M,⟨.v _,rfl,k5⟩⟩⟩
         grind
        grind
       grind
      grind
     grind
    grind
   refine .inl ?_
   unfold Ay7 at h
   unfold JH
   split at h
   ·rename_i sT yT xs tl ys aj f j;rw[f,j]
    simp only
    split at h
    ·rename_i I I2 d D
     split at h
     ·rename_i e e2 Y aa
      split at h
      ·rename_i J V
       split at h
       ·rename_i z B
        have N:=(I7 a V).ze;rw[B]at N;simp only[Ef]at N
        split at h
        ·rename_i X;obtain⟨U,c2,c3,c4⟩:=X;obtain⟨ac,S,l1,l2,k1,k2,k3,k4,k5,k6⟩:=h;exact⟨e,J.sz,J.by_,z,(I7 a d).sl.trans Y,by rw[(I7 a D).sl,aa];rfl,(I7 a V).sz,U,(I7 a V).by_,c2,N,c3,c4,ac,S,l1,l2,k1,k2,k3,k4,λe=>⟨.v _,rfl,k5 e⟩,λt O C=>⟨.v _,rfl,k6 t O C⟩⟩
        grind
       grind
      grind
     grind
    grind
   grind
  ·rename_i X;simp only[KD,g,X]
   rw[Em]at h
   unfold Bp5 at h
   unfold Am4
   split at h
   ·rename_i sT yT id lo n y f j;rw[f,j]
    simp only
    split at h
    ·rename_i I d
     split at h
     ·rename_i e Y
      split at h
      ·rename_i J V
       split at h
       ·rename_i U;obtain⟨xs,S,R,q2,h⟩:=h;exact⟨e,J.sz,xs,S,(I7 a d).sl.trans Y,(I7 a V).sz,U,R,q2,.v _,rfl,h⟩
       grind
      grind
     grind
    grind
   grind
  ·rename_i X;simp only[KD,g,X]
   rw[Em]at h
   unfold AR3 at h
   unfold Wr
   split at h
   ·rename_i sT id lo n f j;rw[f,j]
    simp only
    split at h
    ·rename_i I d
     split at h
     ·rename_i e Y
      split at h
      ·rename_i J V
       split at h
       ·rename_i z B
        have N:=(I7 a V).ze;rw[B]at N;simp only[Ef]at N
        split at h
        ·rename_i U;obtain⟨xs,R,h⟩:=h;exact⟨e,J.sz,z,xs,(I7 a d).sl.trans Y,(I7 a V).sz,U.1,N,U.2.1,U.2.2,R,.v _,rfl,h⟩
        grind
       grind
      grind
     grind
    grind
   grind
  ·rename_i b hb _ _ X;obtain⟨v,O,C⟩:=ab h
   simp only[QN,g,X]at O
   simp only[KD,g,X];exact⟨v,O,C⟩
  exact h.elim
 rename_i n1 n2 n3 n4 n5 n6 n7 n8 n9 ak al am an ao ap;obtain⟨v,O,C⟩:=ab h;unfold KD
 split<;>rename_i g<;>first|exact⟨v,O,C⟩|grind
theorem VR.nil_inv {g:Gh}{w:Is}{u:HO}(h:VR g w u (.sl [] .nil)):u= .slice none 0 0:=by
 cases h with
 |sl0 _=>rfl
 |sle j=>rcases j with h|⟨h,_⟩<;>cases h
 |sl _ _ _ _ _ _ _ _ j=>exact j.elim
def Hf {cs:Up V}{i j:Nat}{x:V}(U:i<cs.length):(cs.set i x).getD j .bad=if j=i then x else cs.getD j .bad:=by
 grind
def VR.erefLe {g:Gh} {w:Is} {v:HO} {cs ds:Up V} {off:Nat} (h:VR g w v (.eref cs off)) (B:M2 cs ds):VR g w v (.eref ds off):=by
 have e:=B.length
 cases h with
 |eref vs o R O q=>
  exact .eref vs (λj u=>o j za2) (λj u=>R j za2) (λj u=>O j za2) λj u=>(q j za2).le (B.at j)
def DV {w:Is} {a:Act}:∀(q:OS (Nat×Int×Int×Up V)) (ds:Up Nat) (l:Fl) (H:A6) (g:Gh) (k:Fl->A6->Prop),(∀id lo n xs,q=some (id,lo,n,xs)->∀v,VR g w v (.own id lo n)->VR g w v (.sl xs .ro))->Rl g H w->FR nt g w a (J9 ⟨l,df⟩)->QQ (J3 P nt rd) q ds l H k->∃g' l' H',Aw g w g' w/\Rl g' H' w/\FR nt g' w a (J9 ⟨l',df⟩)/\k l' H'
 |q,[],l,H,g,k,_,N,i,h=>⟨g,l,H,Aw.refl _ _,N,i,by simp_all[QQ]⟩
 | some (id,lo,n,xs),d::ds,l,H,g,k,O,N,i,h=>by
  unfold QQ at h
  split at h
  ·rename_i U Y n' B;obtain⟨⟨e,e2,e3⟩,h⟩:=h;subst e;subst e2;subst e3
   have y:FR nt g w a (J9 ⟨(d,.v (.sl xs .ro))::l,df⟩):=by
    have e:=S1 (df:=df) l (some d) (.v (.sl xs .ro))
    rw[show Gk (some d) (.v (.sl xs .ro)) l=(d,Sl.v (.sl xs .ro))::l from rfl]at e
    rw[e];refine⟨i.size,λt=>?_,i.df⟩;simp only[Fr.put]
    split
    ·rename_i j;subst j;have o:=i.s t;have e0:(J9 ⟨l,df⟩).s t= .own U Y n':=Oz l t _ B (λ_ _ _ h=>by cases h)
     rw[e0]at o
     simp_all[slV]
    exact i.s t
   exact DV _ ds _ _ g k O N y h
  exact DV none ds _ _ g k (λ_ _ _ _ h=>by cases h) N i h
 | none,d::ds,l,H,g,k,_,N,i,h=>by
  unfold QQ at h
  split at h
  ·split at h
   ·rename_i id B
    split at h
    ·obtain⟨cs,sz,W,G,h⟩:=h;obtain⟨X,_⟩:=List.getElem?_eq_some_iff.1 G;obtain⟨x,I,b,hn,D⟩:=Ie N sz (.inl rfl) (.sl0 rfl:VR g w (.slice none 0 0) (.sl [] .nil))
     have s:upd H g.nx (some (.arr sz [])) id=some (.cells cs):=by
      rw[D3 _ _ (λe=>by rw[e]at W;rw[hn]at W;cases W)];exact W
     have p:=b.chgCells s (ds:=cs.set ((d-100000000) / 1000000) (.own g.nx 0 0)) za4 λj' u M J=>by
      rw[Hf X]
      grind[VR.nil_inv]
     obtain⟨m,z,f,C,r⟩:=DV none ds _ _ x k (λ_ _ _ _ h=>by cases h) p (i.mono I) (h _ hn);exact⟨m,z,f,I.trans C,r⟩
    obtain⟨cs,q,lo,n,sz,xs,ys,W,G,O,hle,h⟩:=h;obtain⟨X,_⟩:=List.getElem?_eq_some_iff.1 G;obtain⟨x,I,b,D⟩:=N.freezeArr O
    have s:upd H q none id=some (.cells cs):=by
     rw[D3 _ _ (λe=>za8)];exact W
    have p:=b.chgCells s (ds:=cs.set (d / 1000000-1) (.sl ys .ro)) za4 λj' u M J=>by
     rw[Hf X]
     split
     ·rename_i e;subst e
      rw[AD,G]at J
      exact(D _ _ _ J).le (.sl _ hle)
     exact J
    obtain⟨m,z,f,C,r⟩:=DV none ds _ _ x k (λ_ _ _ _ h=>by cases h) p (i.mono I) h;exact⟨m,z,f,I.trans C,r⟩
   grind
  split at h
  ·rename_i id B;obtain⟨aa,cs,W,hle,h⟩:=h;obtain⟨x,I,b,D⟩:=N.freeze W
   have y:FR nt x w a (J9 ⟨(d,.v (.eref cs 0))::l,df⟩):=by
    have e:=S1 (df:=df) l (some d) (.v (.eref cs 0))
    rw[show Gk (some d) (.v (.eref cs 0)) l=(d,Sl.v (.eref cs 0))::l from rfl]at e
    rw[e];have c:=i.mono I;refine⟨c.size,λt=>?_,c.df⟩;simp only[Fr.put]
    split
    ·rename_i j;subst j;have o:=i.s t;have e0:(J9 ⟨l,df⟩).s t= .ref id 0:=Oz l t _ B (λ_ _ _ h=>by cases h)
     rw[e0]at o
     exact(D _ _ o).erefLe hle
    exact c.s t
   obtain⟨m,z,f,C,r⟩:=DV none ds _ _ x k (λ_ _ _ _ h=>by cases h) b y h;exact⟨m,z,f,I.trans C,r⟩
  ·rename_i id lo n B;obtain⟨sz,xs,ys,W,hle,h⟩:=h;obtain⟨x,I,b,R⟩:=N.freezeArr W;have D:∀v,VR x w v (.own id lo n)->VR x w v (.sl ys .ro):=λv S=>(R v lo n S).le (.sl _ hle)
   have y:FR nt x w a (J9 ⟨(d,.v (.sl ys .ro))::l,df⟩):=by
    have e:=S1 (df:=df) l (some d) (.v (.sl ys .ro))
    rw[show Gk (some d) (.v (.sl ys .ro)) l=(d,Sl.v (.sl ys .ro))::l from rfl]at e
    rw[e];have c:=i.mono I;refine⟨c.size,λt=>?_,c.df⟩;simp only[Fr.put]
    split
    ·rename_i j;subst j;have o:=c.s t;have e0:(J9 ⟨l,df⟩).s t= .own id lo n:=Oz l t _ B (λ_ _ _ h=>by cases h)
     rw[e0]at o
     exact D _ o
    exact c.s t
   obtain⟨m,z,f,C,r⟩:=DV (some (id,lo,n,ys)) ds _ _ x k (λ_ _ _ _ h=>za8) b y h;exact⟨m,z,f,I.trans C,r⟩
  ·exact DV none ds _ _ g k (λ_ _ _ _ h=>by cases h) N i h
  grind
def Ap0 (a:Nk P T){G:Up (Nat×Bool)}{o:Oper}{l:Fl}{H:A6}{k:Sl->Prop}(j:OA G o l=true)(h:xq (J3 P nt rd) T G o l H k):∃s,k s:=by
 unfold OA at j
 unfold xq at h
 split at j<;>rename_i z<;>try simp only[z]at h
 ·grind
 ·grind
 ·grind[Tn]
 ·grind[Oa]
 ·grind[Me]
 ·grind[QR]
 ·grind[QS]
 ·grind[UE]
 ·grind[Xl]
 ·grind[LQ]
 ·grind[To,Nb]
 cases j
def YA (a:Nk P T) {G:Up (Nat×Bool)} {o:Oper} {l:Fl} {H:A6} {k:Sl->A6->Prop} (j:OA G o l=true) (h:xop (J3 P nt rd) T A G o l H k):∃s,k s H:=by
 have key:xq (J3 P nt rd) T G o l H (λs=>k s H)->∃s,k s H:=λh=>Ap0 a j h
 unfold OA at j
 unfold xop at h
 split at j<;>rename_i z<;>try simp only[z]at h
 all_goals try exact key h
 ·grind
 ·grind
 ·split at h
  ·split at h
   ·split at h
    ·obtain⟨_,_,_,h⟩:=h;grind
    grind
   grind
  grind
 ·grind
 cases j
end
section
variable {P:Program}{nt:Nat}{rd:Option Nat}{T:JI}{A:Nat->Bool}{Z:Nat->List Nat}{df:List Nat}
def Au6 {o o2:Oper}{d:Nat}{t a:Do}{x:By}(h:Au7 A o o2=some (d,t,a,x)):
 o.op= .alloc t/\o.dst=some d/\o.guard=none/\o2.op= .store a (.tmp d) x/\o2.dst=none/\o2.guard=none/\x≠ .tmp d:=by
 unfold Au7 at h
 grind[Nat.eq_of_beq_eq_true]
def Ap1 (hT:Nk P T) {ops:za1 Oper} {r:OS Nat} {K:Fl->A6->Prop} {Q:Exit->Act->Is->Prop} {g0:Gh} {w0:Is}
 (hQ:∀g w a l H,Aw g0 w0 g w->Rl g H w->FR nt g w a (J9 ⟨l,df⟩)->K l H->Q .normal a w):
 ∀(m i:Nat) (l:Fl) (H:A6),i+m=ops.size->QP (J3 P nt rd) T nt A Z ops (ops.toList.drop i) l H K->∀g w a,Aw g0 w0 g w->Rl g H w->FR nt g w a (J9 ⟨l,df⟩)->wpOpsIn (Fw r) 0 P ops Q (List.range' i m) a w:=by
 intro m
 induction m using Nat.strongRecOn with
 |_ m ih=>
 intro i l H U h g w a s u p
 cases m with
 |zero=>
  have:ops.toList.drop i=[]:=by simp;omega
  rw[this]at h
  unfold QP at h
  exact hQ g w a l H s u p h
 | succ m=>
  have al:i<ops.toList.length:=by simp;omega
  have ad:i<ops.size:=za2
  have J:=M4 al
  rw[J]at h
  simp only[Lc]at h
  generalize ho:ops[i]=o at h
  simp only[Fd,wpOpsIn,Dd ad,ho]
  unfold QP at h
  split at h
  ·exact h.elim
  rename_i hd;have⟨g1,l1,H1,s1,D,B,h⟩:=DV (df:=df) none _ _ _ _ _ (λ_ _ _ _ h=>by cases h) u p h;replace s:=s.trans s1;clear s1 u p
  revert h B D s
  generalize l1=l,H1=H,g1=g;intro u p h s
  have V:∀{rest:Up Oper},Jt nt o.dst=true->rest=ops.toList.drop (i+1)->
   JV (J3 P nt rd) ops o 4 l (λG k wr=>xop (J3 P nt rd) T A G o k H λs H'=>QP (J3 P nt rd) T nt A Z ops rest (Gk o.dst (wr s) k) H' K) (λk=>QP (J3 P nt rd) T nt A Z ops rest (Gk o.dst (.v (.tup [])) k) H K)->
   if Region.wanted o (yielded ops a.tmps)then o.wpIn (Fw r) 0 P a w (wpOpsIn (Fw r) 0 P ops Q (List.range' (i+1) m)) Q else(∀f,o.about P w a.eval=some f->(Fw r).fn f)/\wpOpsIn (Fw r) 0 P ops Q (List.range' (i+1) m) (a.put o.dst undef) w:=by
   intro rest hd b h;subst b;have⟨k,e,h⟩:=Hl (df:=df) 4 l h
   have ef:J9 ⟨k,df⟩=J9 ⟨l,df⟩:=by simp_all[J9]
   have Y:FR nt g w a (J9 ⟨k,df⟩):=ef▸p
   rcases h with⟨M,G,wr,hG,aq,h⟩|⟨M,h⟩
   ·have R:Region.wanted o (yielded ops a.tmps)=true:=Bm p.s M;rw[A2 R];refine Xn (A:=A) u Y hd (Sa (df:=df) hT hG h) λg' w' a' v H' s' ai N ⟨sl,hv,hK⟩=>?_;subst hv
    rw[<-aq sl,<-S1]at N
    exact ih m za2 (i+1) _ _ za2 hK g' w' a' (s.trans s') ai N
   have R:Region.wanted o (yielded ops a.tmps)=false:=Bm p.s M;rw[A1 (by rw[R];simp)];refine⟨λ_ _=>trivial,?_⟩;have ae:FR nt g w (a.put o.dst undef) ((J9 ⟨k,df⟩).put o.dst (.tup [])):=Y.put (HC hd) (VR.und _ _)
   rcases h with h|⟨G,d,ar,j,hb,h⟩
   ·refine ih m za2 (i+1) _ _ za2 h g w _ s u ?_;rw[S1];exact ae
   have⟨sl,h⟩:=YA hT j h;refine ih m za2 (i+1) _ _ za2 h g w _ s u ?_;rw[S1]
   simp_all[slV]
  split at h
  ·rename_i b;refine V hd b.symm ?_
   have e:(λ(G:Up (Nat×Bool)) (k:Fl) (wr:Sl->Sl)=>xop (J3 P nt rd) T A G o k H λs H'=>QP (J3 P nt rd) T nt A Z ops [] (Gk o.dst (wr s) k) H' K)=λG k wr=>xop (J3 P nt rd) T A G o k H λs H'=>K (Gk o.dst (wr s) k) H':=by
    funext G k wr
    have:(λs H'=>QP (J3 P nt rd) T nt A Z ops [] (Gk o.dst (wr s) k) H' K)=λs H'=>K (Gk o.dst (wr s) k) H':=by
     funext s H';unfold QP;rfl
    rw[this]
   have e2:(λk=>QP (J3 P nt rd) T nt A Z ops [] (Gk o.dst (.v (.tup [])) k) H K)=λk=>K (Gk o.dst (.v (.tup [])) k) H:=by
    funext k;unfold QP;rfl
   rw[e,e2];exact h
  rename_i o2 W b
  split at h
  ·rename_i d t t2 x hp;have⟨p1,p2,p3,p4,p5,p6,p7⟩:=Au6 hp
   have R:∀y,Region.wanted o y=true:=λy=>by simp[Region.wanted,p3]
   rw[A2 (R _)]
   split at h
   ·rename_i cs n
    unfold Bq3 at n
    split at n
    ·rename_i I I2 hI af
     split at n
     ·rename_i z hz
      have ez:=(I7 hT hI).ze;rw[hz]at ez;simp only[Ef]at ez
      split at n
      ·rename_i X;have⟨c1,c2,c3,c4⟩:=X;cases n
       have ac:i+1<ops.toList.length:=by
        grind
       have S:i+1<ops.size:=za2
       have c:=M4 ac
       rw[b,Lc]at c
       have am:ops[i+1]=o2:=za8
       have ao:W=ops.toList.drop (i+2):=za8
       rw[ao]at h
       obtain⟨m',rfl⟩:∃m',m=m'+1:=⟨m-1,za2⟩
       refine Xn (A:=A) (K:=λv H'=>∃id,v= .ref id 0/\H id=none/\H'=upd H id (some (.cells z.cells))) u p hd (by
        simp only[KD,p1]
        exact .inl ⟨z,ez,c1,λid O=>⟨_,.refl _,id,rfl,O,rfl⟩⟩) λg1 w1 a1 v H1 s1 D B ag=>?_
       obtain⟨id,rfl,O,rfl⟩:=ag;simp only[Fd,wpOpsIn,Dd S,am];rw[A2 (by simp[Region.wanted,p6])]
       have ak:ev ((J9 ⟨l,df⟩).put o.dst (.ref id 0)) x=(Ak [] l x).V:=by
        rw[HA (df:=df) Nr.nil,p2]
        cases x with
        |tmp t=>
         have:t≠d:=λe=>p7 (by rw[e])
         grind[ev,Fr.put]
        |const _=>rfl
        |global _=>rfl
        |func _=>rfl
       have ab:ev ((J9 ⟨l,df⟩).put o.dst (.ref id 0)) (.tmp d)= .ref id 0:=by rw[p2];simp[ev,Fr.put]
       refine Xn (A:=A) (K:=λv H'=>H'=upd (upd H id (some (.cells z.cells))) id (some (.cells (AF z.cells 0 (Ak [] l x).V.cells)))) D B (by rw[p5];rfl) (by
        simp only[KD,p4];refine .inl ⟨_,_,.refl _,?_,rfl⟩;simp only[Qi,(I7 hT af).sz,ak,ab,G4]
        rw[A2 ⟨c2,c3,za2⟩]) λg2 w2 a2 v2 H2 s2 aj N ah=>?_
       subst ah;have⟨g3,s3,aa,ap⟩:=aj.freeze (G4 _ _ _)
       rw[FI,Ab3 _ _ _ O]at aa
       refine ih m' za2 (i+2) _ H za2 h g3 w2 a2 (((s.trans s1).trans s2).trans s3) aa ?_
       rw[p5,p2]at N
       have C:=N.mono s3;have e1:=S1 (df:=df) l (some d) (.v (.eref (AF z.cells 0 (Ak [] l x).V.cells) 0))
       rw[show Gk (some d) (.v (.eref (AF z.cells 0 (Ak [] l x).V.cells) 0)) l=(d,.v (.eref (AF z.cells 0 (Ak [] l x).V.cells) 0))::l from rfl]at e1
       rw[e1];refine⟨C.size,λq=>?_,C.df⟩;have hq:=N.s q;have an:=C.s q
       simp only[Fr.put]at hq an ⊢
       split
       ·rename_i e;rw[A2 e]at hq;exact ap _ _ hq
       simp_all
      cases n
     cases n
    cases n
   grind
  simp_all
end
end Go.Ab
namespace Go.Ab
open Go.RowKit
variable [P3]
def TG (c:za1 HO)(A sz:Nat)(f:Nat->HO):za1 Value:=(c.toList.take A++(List.range sz).map f++c.toList.drop (A+sz)).toArray
def VL {c:za1 HO}{A sz:Nat}{f:Nat->HO}(h:A+sz<=c.size):(TG c A sz f).size=c.size:=by simp[TG];omega
def Bl1 {c:za1 HO} {A sz:Nat} {f f':Nat->HO} (h:A+sz<=c.size):TG (TG c A sz f) A sz f'=TG c A sz f':=by
 have w:(TG c A sz f).toList.take A=c.toList.take A:=by
  simp only[TG,D2];rw[Tj za6,List.take_take];simp
 have e2:(TG c A sz f).toList.drop (A+sz)=c.toList.drop (A+sz):=by
  simp only[TG];rw[List.drop_append_of_le_length za6];rw[List.drop_of_length_le za6];simp
 unfold TG at w e2 ⊢
 rw[w,e2]
def AC9 {c:za1 HO}{A sz:Nat}{f:Nat->HO}(h:A+sz<=c.size){k:Nat}(W:k<c.size):(TG c A sz f)[k]? =if A<=k/\k<A+sz then some (f (k-A))else c[k]? :=by
 have:=(AC7 (vs:=(List.range sz).map f) (m:=sz) (A:=A) (c:=c) za4 h rfl).2 k W;rw[show TG c A sz f=(c.toList.take A++(List.range sz).map f++c.toList.drop (A+sz)).toArray from rfl,this]
 split
 ·rename_i X;rw[Az,EU za2];rfl
 rfl
def WU (w:Is)(b:Nat)(c c':za1 HO):(w.setRow b c).setRow b c'=w.setRow b c':=by
 simp only[World.setRow,KM,P7];apply Iy
 ·simp
 intro i O a;simp only[NQ]
 split
 ·cases w.heap[i]'(by simpa using O)<;>rfl
 rfl
def Ae0 (w:Is){b b':Nat}(c c':za1 HO)(h:b≠b'):(w.setRow b c).setRow b' c'=(w.setRow b' c').setRow b c:=by
 simp only[World.setRow,KM,P7];apply Iy
 ·simp
 intro i O e;simp only[NQ]
 by_cases a:b=i<;>by_cases e2:b'=i
 ·omega
 ·simp[a,e2]
 ·simp[a,e2]
 simp[a,e2]
def ZR (w:Is)(C a:za1 HO)(e:Do):(w.alloc (.cells C e)).setRow w.heap.size a=w.alloc (.cells a e):=by
 simp only[World.alloc,World.setRow,KM,P7];apply Iy
 ·simp
 intro i O b;simp only[NQ,Array.getElem_push]
 have:i<w.heap.size+1:=by simpa using b
 by_cases e:w.heap.size=i
 ·subst e;simp
 rw[A1 e]
 have:i<w.heap.size:=za2
 simp[this]
section
variable {P:Program}{H:A6}
def Of {w:Is} {b A sz:Nat} {c:za1 HO} {T:Do} {f:Nat->HO} (R:w.heap[b]? =some (.cells c T (0,0))) (h:A+sz<=c.size) (o:∀j,j<sz->(f j).oneCell'=true):
 (storeCells ⟨b,A,none⟩ ((List.range sz).map f)).run P w= .ok () (w.setRow b (TG c A sz f)):=by
 have:=run_storeCells_at P b A T ((List.range sz).map f) 0 c w R za6 (by
  intro v q;obtain⟨k,W,rfl⟩:=List.mem_map.1 q
  exact o k (List.mem_range.1 W))
 simpa[TG]using this
def Ax9 {g:Gh} {w:Is} (hR:Rl g H w) {sT yT e ty:Do} {sz by_:Nat} {z:V} {xs:Up V} {tl:J8} {vs:HO} (bp:VR g w vs (.sl xs tl)) (Y:HS P sT=some e) (br:(HS P yT).isSome=true) (a6:HL P e=some sz) (bz:0<sz) (am:SN P e=some by_) (b1:0<by_)
 (hz:KC P e=some z) (bs:z.one=true) (bt:z.cells.length=sz) (hA:Jx H tl) (a0:xs.all (λx=>x.cells.length==sz)=true) (al:(xs.length+1)*by_<=140737488355328):
 ∃ (b off G:Nat) (W:(Nat->HO)->Is) (C:(Nat->HO)->za1 HO) (T:Do),
  (∀(y0:V) (R:J8) (vy:HO),VR g w vy (.sl [y0] R)->y0.cells.length=sz->∃f0,(∀j,j<sz->(f0 j).oneCell'=true)/\(Builtin.append_ #[sT,yT] ty #[vs,vy]).run P w= .ok (.slice (some ⟨b,off,none⟩) (xs.length+1) G) (W f0))/\
  xs.length+1<=G/\
  (∀f,(W f).heap[b]? =some (.cells (C f) T (0,0))/\off+xs.length*sz+sz<=(C f).size)/\
  (∀f f',(W f).setRow b (TG (C f) (off+xs.length*sz) sz f')=W f')/\
  (∀x,x≠b->x<w.heap.size->∀f,(W f).heap[x]? =w.heap[x]?)/\
  (∀id x,g.at (H6 H tl) id=some x->x≠b)/\
  (∀(s:V) (f:Nat->HO),s.cells.length=sz->(∀j,j<sz->(f j).oneCell'=true/\VR g w (f j) (s.cells.getD j .bad))->
   ∃g' t,Aw g w g' (W f)/\H6 H tl t=none/\Rl g' (upd (H6 H tl) t (some .spare)) (W f)/\VR g' (W f) (.slice (some ⟨b,off,none⟩) (xs.length+1) G) (.sl (xs++[s]) (.tok t))):=by
 have⟨base,cap,fs,es,bx,a3,bn,bi⟩:=IY (P:=P) bp a0;have hu:=W5 Y;have⟨e',ba⟩:=Option.isSome_iff_exists.1 br;have a9:=W5 ba;have⟨zv,ez,bw⟩:=FF hz
 have bu:VR g w zv z:=by rw[ez];exact GI g w zv
 have bv:zv.cells.size=sz:=by rw[(bu.cells bs).1,bt]
 have ab:∀w,(typeInfo e).run P w= .ok ((P.info? e).getD default) w/\((P.info? e).getD default).bytes=by_:=by
  intro w
  unfold SN at am
  cases U:P.info? e with
  |none=>simp[U]at am
  |some i=>simp[U]at am;simp[typeInfo,U,am]
 have bh:∀w,(typeInfo e).run P w= .ok ((P.info? e).getD default) w:=λw=>(ab w).1;have bg:=(ab w).2;have v:Rl g (H6 H tl) w:=hR.less λid b hb=>HD hb;have aw:=Jf a0
 have ac:∀(s:V),s.cells.length=sz->∀i,i<xs.length+1->((xs++[s]).getD i .bad).cells.length=sz:=λs hv i U=>by
  rw[Jg];split
  ·exact aw i zb0
  rw[show i-xs.length=0 by omega];exact hv
 have ap:∀(y0:V) (R:J8) (vy:HO),VR g w vy (.sl [y0] R)->y0.cells.length=sz->∃y S f0,vy= .slice y 1 S/\(∀j,j<sz->(f0 j).oneCell'=true)/\
  ∀w':Is,(∀b o,w'.cell? ⟨b,o,none⟩=w.cell? ⟨b,o,none⟩)->(Builtin.firstCells sz 1 vy).run P w'= .ok ((List.range sz).map f0).toArray w':=λy0 R vy ah aj=>by
  have⟨y,S,fy,ey,_,bj,ag,_⟩:=IY (P:=P) (sz:=sz) ah (by simp[aj]);refine⟨y,S,λj=>fy 0 j,ey,λj u=>(bj 0 j za4 u).1,λw' ai=>?_⟩;have:=ag w' ai
  simp only[BL,W3]at this
  rw[this];refine G2 (λl:Up HO=>Result.ok l.toArray w') (Y0 λk hk=>?_);have a4:=List.mem_range.1 hk;rw[KS a4,NG a4]
 have p:∀(s:V) (f:Nat->HO),(∀j,j<sz->(f j).oneCell'=true/\VR g w (f j) (s.cells.getD j .bad))->∀(g':Gh) (w':Is),Aw g w g' w'->∀i j,i<xs.length+1->j<sz->(if i<xs.length then fs i j else f j).oneCell'=true/\
  VR g' w' (if i<xs.length then fs i j else f j) (((xs++[s]).getD i .bad).cells.getD j .bad):=by
  intro s f hf g' w' st i j U u;rw[Jg]
  split
  ·rename_i ad;exact⟨(a3 i j ad u).1,(a3 i j ad u).2.mono st⟩
  rw[show i-xs.length=0 by omega];exact⟨(hf j u).1,(hf j u).2.mono st⟩
 have a5:¬(IntKind.i64.max<((xs.length+1:Nat):Int)/\(False\/by_=0)):=by
  rintro⟨_,hF|hF⟩
  ·exact hF
  omega
 by_cases X:xs.length+1<=cap
 ·
  rcases bi with⟨bq,a1|a1,_⟩|⟨b,q,av,aa,_,sz',a7,ax⟩
  ·subst bq;simp at X;omega
  ·subst a1;exact hA.elim
  cases tl with
  |nil=>exact ax.elim
  |ro=>exact hA.elim
  |full=>simp only[Jp]at ax;omega
  | tok t=>
   have⟨bl,lim,a8,b3⟩:=ax;have:=a7 bl;subst this;have ay:H t=some .spare:=hA;have⟨b2,e2,b0,c,T,k1,k2,k3,k4,k5,k6⟩:=hR.blk t _ ay
   rw[a8]at k1
   simp only[E7,GQ]at k1
   obtain⟨rfl,rfl,rfl⟩:=k1;have bb:(xs.length+1)*sz'<=cap*sz':=G7 _ X
   have az:(xs.length+1)*sz'=xs.length*sz'+sz':=by rw[E2,W3]
   have d:q+xs.length*sz'+sz'<=c.size:=za2
   have m:∀id x,g.at (H6 H (.tok t)) id=some x->x≠b:=by
    rintro id x D rfl
    have bf:g.at H t=some x:=by simp[Gh.at,ay,a8]
    by_cases af:id=t
    ·subst af;simp[Gh.at,H6,G4]at D
    have:g.at H id=some x:=by simpa only[Gh.at,H6,D3 _ _ af]using D
    exact af (hR.inj _ _ _ this bf)
   refine⟨b,q,cap,λf=>w.setRow b (TG c (q+xs.length*sz') sz' f),λf=>TG c (q+xs.length*sz') sz' f,T,λy0 R vy ah aj=>?_,X,λf=>?_,λf f'=>?_,λx M _ f=>S7 w b _ x M,m,λs f hv hf=>?_⟩
   ·have⟨y,S,f0,ey,an,ag⟩:=ap y0 R vy ah aj;refine⟨f0,an,?_⟩;have bo:=Of (P:=P) (f:=f0) k3 d an;have I:=ag w λ_ _=>rfl
    rw[ey]at I ⊢
    rw[es,av]
    simp only[Builtin.append_,C0,run_underlying hu,B7,V5 a6,run_underlying a9,C6,Builtin.lenOf,Bd,AA,
     Db,DR,L6,H7,DI,D8,A2 X,I,BW,bo]
   ·exact⟨setRow_heap w b c _ T (0,0) k3,by rw[VL d];exact d⟩
   ·rw[WU,Bl1 d]
   dsimp only
   have ae:∀k,k<c.size->(TG c (q+xs.length*sz') sz' f)[k]? =if q+xs.length*sz'<=k/\k<q+xs.length*sz'+sz' then some (f (k-(q+xs.length*sz')))else c[k]? :=λk hk=>AC9 d hk
   generalize hC:TG c (q+xs.length*sz') sz' f=C at ae
   have ak:C.size=c.size:=by rw[<-hC];exact VL d
   have a:∀x o,g.fz x o->(w.setRow b C).cell? ⟨x,o,none⟩=w.cell? ⟨x,o,none⟩:=by
    intro x o hf
    by_cases M:x=b
    ·subst M
     have ho:o<q+xs.length*sz':=by
      rcases R9 o (q+xs.length*sz')with h|h
      ·exact h
      exact absurd hf (k6 o h)
     have ai:(w.setRow x C).heap[x]? =some (.cells C T (0,0)):=setRow_heap w x c C T (0,0) k3;simp only[World.cell?,ai,k3,GV,L6,H7];rw[ae o za2,A1 za2]
    exact EL w b C x o M
   have B:Below g.base w (w.setRow b C):=JG w b C k2
   have au:=Rl.tok (e0:=q+xs.length*sz') (e:=q+(xs.length+1)*sz') (lim:=c.size) v k2 (setRow_heap w b c C T (0,0) k3) ak za2 k6 za2 a B
    (λx M _=>S7 w b C x M) (λid D=>m id _ D rfl)
   have n:=Aw.tok v b (q+xs.length*sz') (q+(xs.length+1)*sz') c.size a B;refine⟨_,g.nx,n,(v.nxt _ (B1 _)).2.2,au,?_⟩
   refine .sl (sz:=sz') (λi j=>if i<xs.length then fs i j else f j) za4 X (λi U=>ac s hv i U) (λi j U u=>?_) (λi j U u=>?_)
    (λi j U u=>(p s f hf _ _ n i j U u).1) (λi j U u=>(p s f hf _ _ n i j U u).2) ?_
   ·by_cases N:i<xs.length
    ·exact .inl (aa i j N u).1
    have h2:=Gm U u;have h1:xs.length*sz'<=i*sz':=G7 _ za2;exact .inr ⟨rfl,za2,za2⟩
   ·have h2:=Gm U u;have ai:(w.setRow b C).heap[b]? =some (.cells C T (0,0)):=setRow_heap w b c C T (0,0) k3
    by_cases N:i<xs.length
    ·rw[A2 N];exact(a b _ (aa i j N u).1).trans (aa i j N u).2
    rw[A1 N]
    have h1:i=xs.length:=za2
    subst h1;simp only[World.cell?,ai,GV,L6,H7];rw[ae _ za2,A2 za2,show q+xs.length*sz'+j-(q+xs.length*sz')=j by omega]
   refine⟨za2,c.size,?_,za2⟩;simp[Gh.tok]
 have bm:¬(2 ^ 48<Builtin.nextslicecap (xs.length+1) cap*by_):=by
  have:=growslice_fits (KU X) al;omega
 have a2:∀b o,w.drew.cell? ⟨b,o,none⟩=w.cell? ⟨b,o,none⟩:=λ_ _=>rfl;generalize hG:grownCap w (xs.length+1) cap e=G
 have aq:xs.length+1<=G:=by rw[<-hG];exact grownCap_ge w _ _ _
 have bd:(xs.length+1)*sz<=G*sz:=G7 _ aq
 have az:(xs.length+1)*sz=xs.length*sz+sz:=by rw[E2,W3]
 generalize hO:((List.range (xs.length*sz)).map λk=>fs (k / sz) (k % sz))=O at *
 have ar:O.length=xs.length*sz:=by rw[<-hO];simp
 generalize hZ:Builtin.zeroCells zv.cells (G-(xs.length+1))=Z at *
 have be:Z.size=G*sz-(xs.length+1)*sz:=by rw[<-hZ,size_zeroCells,bv,DG]
 have ak:∀f:Nat->HO,(O.toArray++((List.range sz).map f).toArray++Z).size=G*sz:=λf=>by
  simp only[NJ,IJ,E1,DM,ar,be];omega
 have ae:∀(f:Nat->HO) k,k<(xs.length+1)*sz->(O.toArray++((List.range sz).map f).toArray++Z)[k]? =some (if k<xs.length*sz then fs (k / sz) (k % sz)else f (k-xs.length*sz)):=by
  intro f k hk;rw[HV,A2 (by simp[ar];omega),HV];simp only[IJ,ar,AA,Az]
  split
  ·rw[<-hO,Az,EU zb0];rfl
  rw[EU za2];rfl
 refine⟨w.heap.size,0,G,λf=>w.drew.alloc (.cells (O.toArray++((List.range sz).map f).toArray++Z) e),λf=>O.toArray++((List.range sz).map f).toArray++Z,e,λy0 R vy ah aj=>?_,aq,λf=>⟨Dt (w:=w.drew),by rw[ak];omega⟩,λf f'=>?_,
  λx M ad f=>heap_alloc (w:=w.drew) ad,λid x D e=>absurd (e▸v.lt D) (Ag _),λs f hv hf=>?_⟩
 ·have⟨y,S,f0,ey,an,ag⟩:=ap y0 R vy ah aj;refine⟨f0,an,?_⟩;have bc:(Question.appendCap (xs.length+1) cap e).cut (w.tape w.drawn (.appendCap (xs.length+1) cap e))=G:=hG;have hf:(Question.appendCap (xs.length+1) cap e).forced=false:=rfl;have ao:=bn w.drew a2;have I:=ag w.drew a2
  rw[es]at ao ⊢;rw[ey]at I ⊢
  simp only[Builtin.append_,C0,run_underlying hu,B7,V5 a6,run_underlying a9,C6,Builtin.lenOf,Bd,bh,bg,AA,
   Db,DR,L6,H7,DI,D8,gt_iff_lt,false_or,A1 X,A1 bm,run_choose,hf,bc,KK,run_askRoom,ao,I,bw,newRow,run_newObj,
   GS,KO,hO,hZ]
  rw[A1 (by simpa using a5)]
 ·rw[show w.heap.size=w.drew.heap.size from rfl,ZR]
  congr 2
  apply Array.ext';simp only[TG,K4,Array.toList_append,List.toList_toArray,D2];rw[Tj za2,AB za2,show xs.length*sz+sz=O.length+sz by omega,<-IC,List.drop_left]
  congr 1
  congr 1
  exact List.drop_left' za4
 have a:∀x o,g.fz x o->(w.drew.alloc (.cells (O.toArray++((List.range sz).map f).toArray++Z) e)).cell? ⟨x,o,none⟩=w.cell? ⟨x,o,none⟩:=λx o hf=>FD (w:=w.drew) (hR.fz_lt hf);have B:Below g.base w (w.drew.alloc (.cells (O.toArray++((List.range sz).map f).toArray++Z) e)):=(Bc _ _).drew.alloc hR.bnd _
 have m:∀id,g.at (H6 H tl) id≠some w.heap.size:=λid D=>absurd (v.lt D) (Ag _)
 have au:=Rl.tok (e0:=0) (e:=(xs.length+1)*sz) (lim:=G*sz) v hR.bnd (Dt (w:=w.drew) (o:=.cells (O.toArray++((List.range sz).map f).toArray++Z) e)) (ak f) bd (λo _ hf=>absurd (hR.fz_lt hf) (Ag _)) (Cd _) a B
  (λx M ad=>heap_alloc (w:=w.drew) ad) m
 have n:=Aw.tok v w.heap.size 0 ((xs.length+1)*sz) (G*sz) a B;refine⟨_,g.nx,n,(v.nxt _ (B1 _)).2.2,au,?_⟩
 refine .sl (sz:=sz) (λi j=>if i<xs.length then fs i j else f j) za4 aq (λi U=>ac s hv i U) (λi j U u=>.inr ⟨rfl,Cd _,by have:=Gm U u;omega⟩) (λi j U u=>?_)
  (λi j U u=>(p s f hf _ _ n i j U u).1) (λi j U u=>(p s f hf _ _ n i j U u).2) ?_
 ·have h2:=Gm U u;rw[show(⟨w.heap.size,0+i*sz+j,none⟩:Addr)=⟨w.drew.heap.size,i*sz+j,none⟩ by simp];rw[RJ (w:=w.drew),ae f _ h2]
  congr 1
  by_cases N:i<xs.length
  ·have J:=Gm N u;rw[A2 J,A2 N,(Y4 u).1,(Y4 u).2]
  have h1:i=xs.length:=za2
  subst h1;rw[A1 za2,A1 N,show xs.length*sz+j-xs.length*sz=j by omega]
 refine⟨za2,G*sz,?_,za4⟩;simp[Gh.tok]
end
end Go.Ab
namespace Go.Ab
open Go.RowKit
variable [P3][Ar]
section
variable {P:Program}{nt:Nat}{ops:Array Oper}{H0:A6}
def Mn (A:Nat->Bool):Up Nat->Pv->Fr->A6->(Fr->A6->Prop)->Prop
 |[],_,fr,H,K=>K fr H
 |d::ds,pv,fr,H,K=>
  match pv (.inl d)with
  |some cs=>if A d then∀id,H id=none->Mn A ds pv (fr.put (some d) (.ref id 0)) (upd H id (some (.cells cs))) K else Mn A ds pv (fr.put (some d) (.eref cs 0)) H K
  |none=>False
def Vz {A:Nat->Bool} {w:Is} {a:Act} {i:Pk->Nat} {pv:Pv} {K:Fr->A6->Prop} (y:∀d k cs cs',pv d=some cs->pv k=some cs'->d.var=true->k.var=true->i d=i k->d=k):
 ∀(ds:Up Nat) (fr:Fr) (g:Gh) (H G:A6),Rl g H w->ds.Nodup->(∀d∈ds,∀cs,pv (.inl d)=some cs->H (i (.inl d))=some (.cells cs)/\∃b,g.mu (i (.inl d))=some b/\a.tmps.getD d undef= .pointer (some ⟨b,0,none⟩))->
  (∀id b,G id=some b->H id=some b)->(∀d∈ds,∀cs,pv (.inl d)=some cs->G (i (.inl d))=none)->FR nt g w a fr->Mn A ds pv fr G K->∃g' o H',Aw g w g' w/\Rl g' H' w/\FR nt g' w a o/\K o H'
 |[],fr,g,H,G,u,_,_,B,_,m,h=>⟨g,fr,G,Aw.refl _ _,u.less B,m,h⟩
 | d::ds,fr,g,H,G,u,C,j,B,p,m,h=>by
  simp only[Mn]at h
  have N:=List.nodup_cons.1 C
  split at h
  ·rename_i cs c;have⟨W,b,I,J⟩:=j d za4 cs c
   split at h
   ·refine Vz y ds _ g H _ u N.2 (λk n=>j k (by simp[n])) (λid bk U=>?_) (λk n cs' D=>?_) ?_ (h (i (.inl d)) (p d za4 cs c))
    ·grind[upd]
    ·grind[upd,Pk.var]
    refine⟨m.size,λt=>?_,m.df⟩;simp only[Fr.put]
    split
    ·rename_i e;subst e;rw[J];exact .ref I
    exact m.s t
   have⟨g',s,z,q⟩:=u.freeze W;have V:=m.mono s
   have O:∀k∈ds,∀cs',pv (.inl k)=some cs'->(upd H (i (.inl d)) none) (i (.inl k))=some (.cells cs')/\∃b,g'.mu (i (.inl k))=some b/\a.tmps.getD k undef= .pointer (some ⟨b,0,none⟩):=λk n cs' D=>by
    have⟨X,b',Y,q3⟩:=j k (by simp[n]) cs' D;have f:i (.inl k)≠i (.inl d):=λe=>absurd (y _ _ _ _ D c rfl rfl e) λx=>N.1 za8;exact⟨by rw[D3 _ _ f];exact X,b',s.mu _ _ Y,q3⟩
   have e2:∀id bk,G id=some bk->(upd H (i (.inl d)) none) id=some bk:=λid bk U=>by
    have f:id≠i (.inl d):=λe=>za8
    rw[D3 _ _ f];grind
   have R:FR nt g' w a (fr.put (some d) (.eref cs 0)):=by
    refine⟨V.size,λt=>?_,V.df⟩;simp only[Fr.put]
    split
    ·rename_i e;subst e;rw[J];exact q _ _ (.ref I)
    exact V.s t
   have⟨S,v,M,s2,r⟩:=Vz y ds _ g' _ G z N.2 O e2 (λk n=>p k (by simp[n])) R h;exact⟨S,v,M,s.trans s2,r⟩
  grind
abbrev Tk:=Up (Nat×Up V)
def pvW (W:Tk)(ex:OS J8):Pv
 | .inl _=>none
 | .inr id=>(W.find? λp=>p.1==id).map (·.2)
 | .tk _=>none
 | .ex=>ex.map λa=>[.sl [] a]
def Mb (H:A6):OS J8->A6
 |some a=>H6 H a
 |none=>H
def MI (dx:OS Nat)(pv:Pv)(fr:Fr)(H:A6)(K:Fr->A6->Prop):Prop:=
 match dx with
 |none=>K fr H
 |some d=>∃xs,(pv (.tk d)).isSome=true/\fr.s d= .sl xs .ro/\(∀tl,tl= .nil\/tl= .full->K (fr.put (some d) (.sl xs tl)) H)/\∀t,H t=none->K (fr.put (some d) (.sl xs (.tok t))) (upd H t (some .spare))
theorem QE {H:A6} {ex:OS J8} {id:Nat} {b:KB} (h:Mb H ex id=some b):H id=some b/\∀t,ex=some (.tok t)->id≠t:=by
 cases ex with
 |none=>simp_all[Mb]
 | some a=>
  cases a with
  |tok t=>
   simp_all[Mb,H6,upd]
  |_=>exact⟨h,λt j=>by cases j⟩
def Ir (H:A6):Tk->A6
 |[]=>H
 |(id,_)::W=>upd (Ir H W) id none
def XW:Tk->Pv->A6->(A6->Prop)->Prop
 |[],_,H,K=>K H
 |(id,_)::W,pv,H,K=>XW W pv H λH'=>match pv (.inr id)with|some cs=>K (upd H' id (some (.cells cs)))|none=>False
theorem Ob {H:A6}:∀{W:Tk} {id:Nat} {b:KB},Ir H W id=some b->H id=some b/\∀p∈W,p.1≠id
 |[],id,b,h=>⟨h,λp a=>by simp at a⟩
 |(i,c)::W,id,b,h=>by
  simp only[Ir]at h
  by_cases e:id=i
  ·simp_all[upd]
  rw[D3 _ _ e]at h
  have⟨O,g⟩:=Ob h
  grind
def QT {H:A6}:∀{W:Tk} {p:Nat×Up V},p∈W->Ir H W p.1=none
 |(i,c)::W,p,h=>by
  simp only[Ir]
  by_cases e:p.1=i
  ·rw[e,G4]
  rw[D3 _ _ e]
  rcases List.mem_cons.1 h with rfl|h
  ·omega
  exact QT h
def Aj6 {a:A6} {pv:Pv} (e:∀id cs,pv (.inr id)=some cs->a id=some (.cells cs)):∀(W:Tk) (H:A6) (K:A6->Prop),(∀id b,H id=some b->a id=some b)->XW W pv H K->∃H',(∀id b,H' id=some b->a id=some b)/\(∀id,H' id≠none->H id≠none\/∃cs,pv (.inr id)=some cs)/\K H'
 |[],H,K,B,h=>⟨H,B,λid g=>.inl g,h⟩
 |(i,c)::W,H,K,B,h=>by
  simp only[XW]at h
  have⟨H',O,k,J⟩:=Aj6 e W H _ B h
  grind[upd]
end
def MZ (P:If)(nt:Nat)(rd:OS Nat)(ops:za1 Oper)(fr:Fr)(H:A6)(Q:Exit->Fr->A6->Prop):Prop:=
 ∀r g w a,AP8 g rd r->Rl g H w->FR nt g w a fr->wpAnyIn (Fw r) 0 P .any ops (Yx nt g w Q) ops.size (Array.replicate ops.size false) a w.drew
def Br.of_any {P:If}{nt id:Nat}{rd:OS Nat}{ops:za1 Oper}{fr:Fr}{H:A6}{Q:Exit->Fr->A6->Prop}(i:P.follows .mixedOrders=true)(h:MZ P nt rd ops fr H Q):Br P nt rd (.region id ops true) fr H Q:=
 λr g w a f e b=>wpIn_region_any i (h r g w a f e b)
section
variable {P:Program}{nt:Nat}{ops:Array Oper}{H0:A6}
def MZ.drawF {A:WL} {rd:OS Nat} {k:Nat} {al:Up Nat} {W:Tk} {ex:OS J8} {dx:OS Nat} {fr:Fr} {Q:Exit->Fr->A6->Prop} (az:Wi ops k=true) (ax:al.Nodup)
 (hX:∀τ,ex=some τ->Jx H0 τ) (hW:∀p∈W,Mb H0 ex p.1=some (.cells p.2))
 (h:Ms P nt ops (Ir (Mb H0 ex) W) (ops.toList.take k) fr (pvW W ex) λV pv=>XW W pv (Ir (Mb H0 ex) W) λG=>MI dx pv V G λy H2=>Mn A al pv y H2 λx H=>LW P A nt ops (ops.toList.drop k) x H (Q .normal)):MZ P nt rd ops fr H0 Q:=by
 intro r g w a _ hR hF;have⟨hk,D⟩:=AP0 az;have sd:Aw g w g w.drew:=⟨λ_ _ e=>e,λ_ _ e=>e,λ_ _ e=>e,rfl,λ_ _ _=>rfl,(Bc _ _).drew,λ_ _ _=>rfl,GM _⟩
 have au:Rl g H0 w.drew:=by
  refine⟨λid b R=>(hR.blk id b R).mono R sd λ_ _=>⟨rfl,λ_ z=>z⟩,hR.inj,hR.frz,hR.nxt,hR.bnd,λn=>(hR.glb n).mono sd⟩
 have hI:Ay3 nt (Ir (Mb H0 ex) W) g w.drew fr (pvW W ex) g w.drew a:=by
  refine⟨H0,λk=>match k with| .inl _=>0| .inr n=>n| .tk _=>0| .ex=>0,Aw.refl _ _,au,hF.mono sd,λid b R=>(QE (Ob R).1).1,λd cs h hv=>?_,λd d' cs cs' h h' hv a2 e=>?_,λ_=>none,λd cs h=>(by cases h),λd d' cs cs' t h=>(by cases h),λcs h=>?_⟩
  ·cases d with
   |inl d=>cases h
   | inr n=>
    simp only[pvW]at h
    cases o:W.find? λp=>p.1==n with
    |none=>rw[o]at h;cases h
    |some p=>
     rw[o]at h
     simp only[K5,E7]at h
     have hp:=Tg o
     have hn:p.1=n:=by have:=List.find?_some o;simp_all
     subst h;subst hn;exact⟨(QE (hW p hp)).1,QT hp,rfl⟩
   |tk d=>cases h
   |ex=>cases hv
  ·cases d with
   |inl d=>cases h
   |tk d=>cases h
   |ex=>cases hv
   |inr n=>
    cases d' with
    |inl d'=>cases h'
    |tk d'=>cases h'
    |ex=>cases a2
    |inr n'=>simp_all
  cases M:ex with
  |none=>rw[M]at h;cases h
  | some τ=>
   rw[M]at h
   cases h;refine⟨τ,rfl,?_⟩;have hA:=hX τ M
   cases τ with
   |nil=>simp_all
   |full=>simp_all
   |ro=>exact hA.elim
   |tok t=>
    refine .inr ⟨t,rfl,hA,?_,λd cs' h=>by cases h⟩
    cases hn:Ir (Mb H0 (some (.tok t))) W t with
    |none=>rfl
    |some b=>grind[QE,Ob]
 have ac:(List.range k).map (λi=>ops.getD i default)=ops.toList.take k:=by
  apply ES
  ·simp;omega
  intro i O h2
  simp at O
  simp[Array.getD,show i<ops.size by omega]
 have R:=Wz (r:=r) (Q:=Yx nt g w Q) hk (λi U=>⟨(D i U).1,λj u=>((D i U).2 j u).imp (λh=>h) .inl⟩) (K:=λV pv=>XW W pv (Ir (Mb H0 ex) W) λG=>MI dx pv V G λy H2=>Mn A al pv y H2 λx H=>LW P A nt ops (ops.toList.drop k) x H (Q .normal)) (g0:=g) (w0:=w.drew)
  (λg' w' a' V pv J a0 B am Y=>?_) k (List.range k) (Array.replicate ops.size false) fr (pvW W ex) za4 (NV) (λi U=>za7) za4 (λi b U=>za8) (λm j hm _=>by simp[Array.getD]at hm) (by rw[ac];exact h) g w.drew a hI
 ·rw[show k+(ops.size-k)=ops.size by omega]at R
  exact R
 have⟨H,N,s,ap,C,ab,v,S,a5,a1,_⟩:=am
 have aw:∀n cs,pv (.inr n)=some cs->H n=some (.cells cs):=λn cs hn=>by
  have⟨k1,_,k3⟩:=v _ cs hn rfl;have k3:N (.inr n)=n:=k3
  rwa[k3]at k1
 have⟨G,g1,g2,Y⟩:=Aj6 aw W _ _ ab Y
 have aa:∀d cs,pv (.inl d)=some cs->G (N (.inl d))=none:=λd cs hd=>by
  have⟨k1,k2,_⟩:=v _ cs hd rfl
  cases hn:G (N (.inl d))with
  |none=>rfl
  |some b=>
   exfalso
   rcases g2 _ (by rw[hn];simp)with h|⟨cs',hp⟩
   ·exact h k2
   have k3:N (.inr (N (.inl d)))=N (.inl d):=(v _ cs' hp rfl).2.2;cases S _ _ _ _ hp hd rfl rfl k3
 have ad:∃y f,FR nt g' w' a' y/\(∀id b,f id=some b->H id=some b)/\(∀d cs,pv (.inl d)=some cs->f (N (.inl d))=none)/\Mn A al pv y f λx H=>LW P A nt ops (ops.toList.drop k) x H (Q .normal):=by
  rcases dx with _|d
  ·exact⟨V,G,C,g1,aa,Y⟩
  simp only[MI]at Y
  have⟨xs,e1,e2,e3,e4⟩:=Y;have⟨c,X⟩:=Option.isSome_iff_exists.1 e1;have⟨a6,tl,q1,q2,q3⟩:=a1 d c X
  rw[e2]at q1
  cases q1
  have ak:FR nt g' w' a' (V.put (some d) (.sl xs tl)):=by
   refine⟨C.size,λt=>?_,C.df⟩;simp only[Fr.put]
   split
   ·simp_all
   exact C.s t
  rcases q3 with⟨_,q⟩|⟨t,_,q,q4,q5⟩
  ·grind
  subst q
  have ht:G t=none:=by
   grind
  refine⟨_,_,ak,λid b R=>?_,λd' cs av=>?_,e4 t ht⟩
  ·grind[G4,D3]
  have ay:N (.inl d')≠t:=λe=>by
   have:=(v _ cs av rfl).1
   rw[e,q4]at this;cases this
  rw[D3 _ _ ay];simp_all
 have⟨y,f,ah,ag,I,Y⟩:=ad
 have⟨g3,ae,H2,s2,aq,ai,an⟩:=Vz S al y g' H f ap ax (λd _ cs hd=>by
  have⟨k1,_,_,b,k4,k5⟩:=v _ cs hd rfl
  simp_all) ag (λd _ cs hd=>I d cs hd) ah Y
 exact UM (A:=A) (r:=r) (K:=Q .normal) (k:=k) (λi U=>⟨(D i U).1,λj u a4=>((D i U).2 j u).elim (λh=>h) λh=>absurd h.1 za2⟩) (g0:=g) (w0:=w) (λg3 w3 a3 af H3 s3 ar aj ao=>⟨g3,af,H3,s3,ar,aj,ao⟩) (ops.size-k) k J ae H2 za2 za2 a0 B an g3 w' a' ((sd.trans s).trans s2) aq ai
end
end Go.Ab
namespace Go.Ab
open Go.RowKit
variable [P3]
structure WI where
 sx:Operand
 sy:Operand
 nn:Operand
 zz:Operand
 sT:TypeId
 yT:TypeId
 t2:TypeId
 eT:TypeId
 t3:TypeId
 tA:Nat
 tI:Nat
 tp:Nat
structure By8 (ops:Array Oper) (nt k:Nat) (p:WI):Prop where
 lt:k+3<ops.size
 a1:(ops.getD k default).op= .call {callee:=.builtin .append,args:= #[p.sx,p.sy],argTypes:= #[p.sT,p.yT]}
 a2:(ops.getD k default).dst=some p.tA
 a3:(ops.getD k default).guard=none
 i1:(ops.getD (k+1) default).op= .indexAddr p.t2 (.tmp p.tA) p.nn
 i2:(ops.getD (k+1) default).dst=some p.tI
 i3:(ops.getD (k+1) default).guard=none
 s1:(ops.getD (k+2) default).op= .store p.eT (.tmp p.tI) p.zz
 s2:(ops.getD (k+2) default).dst=none
 s3:(ops.getD (k+2) default).guard=none
 u1:(ops.getD (k+3) default).op= .store p.t3 (.tmp p.tp) (.tmp p.tA)
 u2:(ops.getD (k+3) default).dst=none
 u3:(ops.getD (k+3) default).guard=none
 n1:p.tA≠p.tI
 n2:p.tp≠p.tA
 n3:p.tp≠p.tI
 n4:p.nn≠ .tmp p.tA
 n5:p.zz≠ .tmp p.tA
 n6:p.zz≠ .tmp p.tI
 n7:p.tA<nt
 n8:p.tI<nt
section
variable {P:Program}{nt:Nat}{ops:Array Oper}
structure LC (ops:Array Oper) (listed:Array Bool) (S:Nat->Bool):Prop where
 size:listed.size=ops.size
 get:∀i b,i<ops.size->listed.getD i b=S i
 cl:∀m j,listed.getD m false=true->HB (ops.getD m default) j=true->listed.getD j false=true
def LC.step {a:za1 Bool} {S:Nat->Bool} {i:Nat} (h:LC ops a S) (U:i∈Region.ready .any ops a):LC ops (a.setIfInBounds i true) λj=>j==i||S j:=by
 have⟨O,n,J⟩:=FL U;refine⟨by simpa using h.size,λj b u=>?_,λm j g u=>?_⟩
 ·rw[OE (by rw[h.size];exact O),h.get j b u]
  by_cases e:j=i
  ·subst e;simp
  rw[A1 e];simp[e]
 rw[OE (by rw[h.size];exact O)]at g ⊢
 by_cases k:j=i
 ·rw[A2 k]
 rw[A1 k]
 by_cases em:m=i
 ·subst em;exact J j u
 rw[A1 em]at g;exact h.cl m j g u
def LC.not {a:za1 Bool}{S:Nat->Bool}{i:Nat}(h:LC ops a S)(U:i∈Region.ready .any ops a):i<ops.size/\S i=false/\∀j,j<ops.size->Nf ops So i j=true->S j=true:=by
 have⟨O,b,J⟩:=FL U;refine⟨O,by rw[<-h.get i true O];exact b,λj u f=>?_⟩;rw[<-h.get j false u];exact Hr h.cl So i j J f
def LC.ready {listed:za1 Bool}{S:Nat->Bool}{i:Nat}(h:LC ops listed S)(O:i<ops.size)(a:S i=false)(b:Dy (ops.getD i default) i=true)(J:∀j,j<i->S j=true):i∈Region.ready .any ops listed:=
 Vh O (by rw[h.get i true O];exact a) b λj u=>by rw[h.get j false za2];exact J j u
def LC.eq {a:za1 Bool}{S S':Nat->Bool}(h:LC ops a S)(e:∀i,S i=S' i):LC ops a S':=⟨h.size,λi b U=>(h.get i b U).trans (e i),h.cl⟩
def Aa6 {o:Oper}{a:Act}{w:Is}{r:OS Nat}{next:Act->Is->Prop}{Q:Exit->Act->Is->Prop}{e:HO->Is->Prop}(b:∀c,o.op≠ .defer c)(h:J1 P e ((execOp a.eval o).run P w))(W:∀v w',e v w'->next (a.put o.dst v) w'):o.wpIn (Fw r) 0 P a w next Q:=by
 refine⟨λ_ _=>trivial,?_⟩;rw[GP _ _ _ b];exact Kd h W
def LO {r:OS Nat}{Q:Exit->Act->Is->Prop}{e i:Nat}{b:za1 Bool}{a:Act}{w:Is}{k:HO->Is->Prop}(O:i<ops.size)(n:(ops.getD i default).guard=none)(g:∀c,(ops.getD i default).op≠ .defer c)
 (h:J1 P k ((execOp a.eval (ops.getD i default)).run P w)) (W:∀v w',k v w'->wpAnyIn (Fw r) 0 P .any ops Q e (b.setIfInBounds i true) (a.put (ops.getD i default).dst v) w'):
 wpOpIn (Fw r) 0 P ops Q i (wpAnyIn (Fw r) 0 P .any ops Q e (b.setIfInBounds i true)) a w:=by
 rw[Ux O]at *
 simp only[wpOpIn,Dd O];rw[A2 (by simp[Region.wanted,n])];exact Aa6 g h W
def Hg {a:Act} {d:Nat} {v:HO} {x:By} (h:x≠ .tmp d):(a.put (some d) v).eval x=a.eval x:=by
 cases x with
 |tmp t=>
  have:d≠t:=λe=>h (by rw[e]);simp[Act.eval,Act.put,HX,this]
 |_=>rfl
def TN {a:Act}{d:Nat}{v:HO}(h:d<a.tmps.size):(a.put (some d) v).eval (.tmp d)=v:=by
 simp[Act.eval,Act.put,h]
def Am8 {v:HO}{n:Nat}(h:v.cells.size=n):(List.range n).map (λj=>v.cells.getD j undef)=v.cells.toList:=by
 subst h;apply ES
 ·simp
 intro i O a
 have:i<v.cells.size:=by simpa using a
 simp[Array.getD,this]
def Tw {W:Is}{B q n:Nat}{c:za1 HO}{T t:Do}{x y:By}{a:Act}{o:Oper}(z:o.op= .store t x y)(C:HL P t=some n)(M:a.eval x= .pointer (some ⟨B,q,none⟩))(X:W.heap[B]? =some (.cells c T (0,0)))(g:(a.eval y).cells.size=n)(b:q+n<=c.size)
 (O:∀j,j<n->((a.eval y).cells.getD j undef).oneCell'=true):J1 P (λ_ w'=>w'=W.setRow B (TG c q n λj=>(a.eval y).cells.getD j undef)) ((execOp a.eval o).run P W):=by
 have e:=Of (P:=P) (f:=λj=>(a.eval y).cells.getD j undef) X b O
 rw[Am8 g]at e
 unfold execOp;rw[z];simp only[M,Instr.storeAt,Instr.sureAddr,storeVar,C0,C6,B7,V5 C W,g,ne_eq,IK,H7,e,J1]
def Bd3 {A:WL} {r:OS Nat} {k:Nat} {p:WI} {K:Fr->A6->Prop} {Q:Exit->Act->Is->Prop} {g0:Gh} {w0:Is} (y:By8 ops nt k p)
 (an:∀i,i<ops.size->Dy (ops.getD i default) i=true/\∀j,j<i->Nf ops So i j=true\/i<k\/(i=k+3/\k<j))
 (hQ:∀g w a fr H,Aw g0 w0 g w->Rl g H w->FR nt g w a fr->K fr H->Q .normal a w)
 {listed:za1 Bool} (hL:LC ops listed λi=>decide (i<k)) {fr:Fr} {H:A6} {xs cs:Up V} {tl b9:J8} {y0 vV z:V} {kk:IntKind} {e:Do} {sz by_ N n:Nat}
 (M:DK (ev fr p.sx) (.sl xs tl)) (m:ev fr p.sy= .sl [y0] b9) (cx:y0.cells.length=sz) (hn:ev fr p.nn= .int kk (xs.length:Nat)) (da:DK (ev fr p.zz) vV) (ct:vV.one=true) (b3:vV.cells.length=sz)
 (Y:HS P p.sT=some e) (cy:(HS P p.yT).isSome=true) (cl:HS P p.t2=some e) (b1:HL P e=some sz) (cr:HL P p.eT=some sz) (bz:0<sz) (cj:SN P e=some by_) (ci:0<by_)
 (hz:KC P e=some z) (cz:z.one=true) (c0:z.cells.length=sz) (hA:Jx H tl) (cg:xs.all (λx=>x.cells.length==sz)=true) (ao:(xs.length+1)*by_<=140737488355328)
 (hU:fr.s p.tp= .ref N n) (am:H N=some (.cells cs)) (ce:HL P p.t3=some 1) (a9:n+1<=cs.length)
 (hK:∀t,H6 H tl t=none->LW P A nt ops (ops.toList.drop (k+4)) ((fr.put (some p.tA) (.sl (xs++[vV]) (.tok t))).put (some p.tI) .bad)
  (upd (upd (H6 H tl) t (some .spare)) N (some (.cells (AF cs n [.sl (xs++[vV]) (.tok t)])))) K):
 ∀g w a,Aw g0 w0 g w->Rl g H w->FR nt g w a fr->wpAnyIn (Fw r) 0 P .any ops Q (ops.size-k) listed a w:=by
 intro g w a st hR hF;have cu:=(G1 hR hF.s p.sx).le M;have b5:=G1 hR hF.s p.sy
 rw[m]at b5
 have ar:=G1 hR hF.s p.nn
 rw[hn]at ar
 have ar:=ar.int_inv;have cw:=(G1 hR hF.s p.zz).le da;have⟨b6,ax⟩:=cw.cells ct
 have b7:(a.eval p.zz).cells.size=sz:=by rw[b6,b3]
 have b0:VR g w (a.eval (.tmp p.tp)) (.ref N n):=by have:=G1 hR hF.s (.tmp p.tp);rwa[show ev fr (.tmp p.tp)= .ref N n from hU]at this
 have⟨bp,bc,cm⟩:∃bp,g.mu N=some bp/\a.eval (.tmp p.tp)= .pointer (some ⟨bp,n,none⟩):=by
  generalize a.eval (.tmp p.tp)=v at b0
  cases b0 with
  |ref hm=>exact⟨_,hm,rfl⟩
 have⟨b,off,G,W,C,T,r1,r2,r3,r4,r5,r6,r7⟩:=Ax9 (P:=P) (ty:=(ops.getD k default).type) hR cu Y cy b1 bz cj ci hz cz c0 hA cg ao;have⟨f0,de,co⟩:=r1 y0 b9 _ b5 cx;have⟨dc,cp,Tp,q1,q2,q3,q4,q5,q6⟩:=hR.blk N _ am
 rw[bc]at q1;cases q1
 have ba:H6 H tl N=some (.cells cs):=by
  cases tl with
  |tok t=>
   have bh:H t=some .spare:=hA
   have:N≠t:=λe=>by subst e;rw[am]at bh;cases bh
   simp only[H6,D3 _ _ this];exact am
  |_=>exact am
 have bo:g.at (H6 H tl) N=some bp:=by simp only[Gh.at,ba,bc]
 have bd:bp≠b:=r6 _ _ bo;have bx:bp<w.heap.size:=(Array.getElem?_eq_some_iff.1 q3).1
 have aa:n+1<=cp.size:=za2
 generalize ah:(Value.slice (some ⟨b,off,none⟩) (xs.length+1) G)=s' at *
 generalize bq:(λj=>(a.eval p.zz).cells.getD j undef)=fv
 have br:∀j,j<sz->(fv j).oneCell'=true/\VR g w (fv j) (vV.cells.getD j .bad):=λj u=>by rw[<-bq];exact ax j za2
 have ap:s'.cells= #[s']:=by rw[<-ah];rfl
 have cq:∀j,j<1->(s'.cells.getD j undef).oneCell'=true:=λj u=>by
  rw[show j=0 by omega,ap,<-ah];rfl
 have dj:(λj=>s'.cells.getD j undef)=λj=>(#[s']:za1 HO).getD j undef:=by rw[ap]
 generalize R:a.put (some p.tA) s'=a1;generalize bi:(Value.pointer (some ⟨b,off+xs.length*sz,none⟩))=pA;generalize S:a1.put (some p.tI) pA=a2
 have aq:a1.tmps.size=nt:=by rw[<-R];simp[Act.put,hF.size]
 have a6:a1.eval (.tmp p.tA)=s':=by rw[<-R];exact TN (by rw[hF.size];exact y.n7)
 have ca:a1.eval p.nn= .int kk (xs.length:Nat):=by rw[<-R,Hg y.n4];exact ar
 have be:a1.eval (.tmp p.tp)= .pointer (some ⟨bp,n,none⟩):=by rw[<-R,Hg (λh=>y.n2 (NC h))];exact cm
 have bf:a2.eval (.tmp p.tA)=s':=by rw[<-S,Hg (λh=>y.n1 (NC h))];exact a6
 have bg:a2.eval (.tmp p.tp)= .pointer (some ⟨bp,n,none⟩):=by rw[<-S,Hg (λh=>y.n3 (NC h))];exact be
 have cc:a2.eval (.tmp p.tI)=pA:=by rw[<-S];exact TN (by rw[aq];exact y.n8)
 have a7:a2.eval p.zz=a.eval p.zz:=by rw[<-S,Hg y.n6,<-R,Hg y.n5]
 have bu:∀c,(ops.getD k default).op≠ .defer c:=λc h=>by rw[y.a1]at h;cases h
 have av:∀c,(ops.getD (k+1) default).op≠ .defer c:=λc h=>by rw[y.i1]at h;cases h
 have aw:∀c,(ops.getD (k+2) default).op≠ .defer c:=λc h=>by rw[y.s1]at h;cases h
 have ag:∀c,(ops.getD (k+3) default).op≠ .defer c:=λc h=>by rw[y.u1]at h;cases h
 have b8:J1 P (λv w'=>v=s'/\w'=W f0) ((execOp a.eval (ops.getD k default)).run P w):=by
  rw[W8 y.a1];simp only[builtin,BH,D9,I0,C0,co,B7,C6,J1]
  trivial
 have a4:∀W':Is,J1 P (λv w'=>v=pA/\w'=W') ((execOp a1.eval (ops.getD (k+1) default)).run P W'):=λW'=>by
  have hu:=W5 cl;unfold execOp;rw[y.i1]
  have c1:(0:Int)<=(xs.length:Nat):=za2
  have c2:((xs.length:Nat):Int)<((xs.length+1:Nat):Int):=za2
  simp only[a6,<-ah,ca,Instr.indexAt,asIntOf,C0,C6,B7,run_underlying hu,c1,c2,and_self,D8,V5 b1,J1,K5,BW,W4,bi]
 have a5:∀(W':Is) (c':za1 HO),W'.heap[b]? =some (.cells c' T (0,0))->off+xs.length*sz+sz<=c'.size->J1 P (λ_ w'=>w'=W'.setRow b (TG c' (off+xs.length*sz) sz fv)) ((execOp a2.eval (ops.getD (k+2) default)).run P W'):=λW' c' O D=>by
  have:=Tw (P:=P) (a:=a2) y.s1 cr (by rw[cc,<-bi]) O (by rw[a7];exact b7) D (λj u=>by rw[a7];exact(ax j za2).1)
  rw[a7,bq]at this
  exact this
 have ac:∀(a':Act) (W':Is),a'.eval (.tmp p.tA)=s'->a'.eval (.tmp p.tp)= .pointer (some ⟨bp,n,none⟩)->W'.heap[bp]? =some (.cells cp Tp (0,0))->J1 P (λ_ w'=>w'=W'.setRow bp (TG cp n 1 λj=>s'.cells.getD j undef)) ((execOp a'.eval (ops.getD (k+3) default)).run P W'):=λa' W' O D J=>by
  have:=Tw (P:=P) (a:=a') y.u1 ce D J (by rw[O,ap];rfl) aa (λj u=>by rw[O];exact cq j u)
  rw[O]at this
  exact this
 generalize bn:(TG cp n 1 λj=>s'.cells.getD j undef)=U at ac
 have af:∀f,(W f).heap[bp]? =some (.cells cp Tp (0,0)):=λf=>(r5 bp bd bx f).trans q3
 have fin:∀{l:za1 Bool},LC ops l (λi=>decide (i<k+4))->wpAnyIn (Fw r) 0 P .any ops Q (ops.size-(k+4)) l a2 ((W fv).setRow bp U):=by
  intro l B;have⟨g',t,I,X,bm,b4⟩:=r7 vV fv b3 br
  have bv:N≠t:=λe=>by subst e;rw[ba]at X;cases X
  have bt:upd (H6 H tl) t (some .spare) N=some (.cells cs):=by rw[D3 _ _ bv];exact ba
  have au:g'.mu N=some bp:=I.mu _ _ bc;have⟨b2,c2,T2,z1,z2,z3,z4,z5,z6⟩:=bm.blk N _ bt
  rw[au]at z1;cases z1
  rw[af fv]at z3
  have ec:c2=cp:=by cases z3;rfl
  subst ec
  have ai:=bm.setNamed (cs':=AF cs n [.sl (xs++[vV]) (.tok t)]) (c':=U) bt au (af fv) (by rw[<-bn];exact VL aa) (Dh (by simpa using a9)) (λj u=>by
   rw[Dh (by simpa using a9)]at u
   have cn:j<c2.size:=za2
   have hg:=AC9 (c:=c2) (A:=n) (sz:=1) (f:=λj=>s'.cells.getD j undef) aa cn
   rw[bn]at hg
   rw[LH (by simpa using a9)];simp only[Q9,hg,BL]
   by_cases q:n<=j/\j<n+1
   ·rw[A2 q,A2 q];rw[show j-n=0 by omega,ap,<-ah];refine⟨rfl,?_⟩;rw[ah]
    simpa using b4
   rw[A1 q,A1 q];have:=z5 j u
   simpa only[Q9]using this)
  have bj:=(hF.mono I).put (d:=some p.tA) (λt ht=>by cases ht;exact y.n7) b4
  rw[R]at bj
  have bl:=bj.put (d:=some p.tI) (v:=pA) (V:=.bad) (λt ht=>by cases ht;exact y.n8) (.bad _)
  rw[S]at bl
  have hm:k+4<=ops.size:=y.lt
  exact UM (A:=A) (r:=r) (K:=K) (k:=k+4) (λi hi=>⟨(an i hi).1,λj u dh=>((an i hi).2 j u).elim (λh=>h) λh=>absurd h za2⟩) hQ (ops.size-(k+4)) (k+4) l _ _ za2 (B1 _) B.size
   B.get (hK t X) g' _ a2 (st.trans (I.trans ai.1)) ai.2 (bl.mono ai.1)
 have di:=y.lt;rw[show ops.size-k=(ops.size-(k+4))+1+1+1+1 by omega];have bw:∀i,i<ops.size->Dy (ops.getD i default) i=true:=λi hi=>(an i hi).1;have ab:∀i j,i<ops.size->k<=i->j<i->¬(i=k+3/\k<j)->Nf ops So i j=true:=λi j hi dg u hn=>((an i hi).2 j u).elim (λh=>h) λh=>absurd h za2
 have ay:k∈Region.ready .any ops listed:=hL.ready za2 za4 (bw _ za2) λj u=>by simpa using u
 refine⟨λe=>(by rw[e]at ay;cases ay),λi hi=>?_⟩;have⟨O,D,J⟩:=hL.not hi
 have ik:i=k:=by
  have:k<=i:=by simpa using D
  rcases R9 k i with h|h
  ·have:=J k za2 (ab i k O za2 h za2);exact absurd this za4
  omega
 subst ik;refine LO O y.a3 bu b8 λv w1 ⟨ad,ae⟩=>?_;subst ad;subst ae;rw[y.a2,R];have al:=hL.step hi
 have az:i+1∈Region.ready .any ops (listed.setIfInBounds i true):=al.ready za2 za4 (bw _ za2) λj u=>by simp;omega
 refine⟨λe=>(by rw[e]at az;cases az),λi2 bb=>?_⟩;have⟨O,D,J⟩:=al.not bb
 have ik:i2=i+1\/i2=i+3:=by
  simp at D
  rcases R9 (i+1) i2 with h|h
  ·rcases R9 i2 (i+3)with h'|h'
   ·have:=J (i+1) za2 (ab i2 (i+1) O za2 h za2);exact absurd this (by simp<;>omega)
   rcases R9 (i+3) i2 with cd|cd
   ·have:=J (i+1) za2 (ab i2 (i+1) O za2 h za2);exact absurd this (by simp<;>omega)
   omega
  omega
 have db:((W f0).setRow b (TG (C f0) (off+xs.length*sz) sz fv)).setRow bp U=(W fv).setRow bp U:=by rw[r4]
 have ck:((W f0).setRow bp U).setRow b (TG (C f0) (off+xs.length*sz) sz fv)=(W fv).setRow bp U:=by rw[Ae0 _ _ _ bd,r4]
 have ch:((W f0).setRow bp U).heap[b]? =some (.cells (C f0) T (0,0)):=(S7 _ _ _ _ bd.symm).trans (r3 f0).1
 have aj:∀{l:za1 Bool},LC ops l (λj=>decide (j<i+2)||j==i+3)->wpAnyIn (Fw r) 0 P .any ops Q (ops.size-(i+4)+1) l a2 ((W f0).setRow bp U):=λ{l} B=>by
  have ak:i+2∈Region.ready .any ops l:=B.ready za2 za4 (bw _ za2) λj u=>by simp;omega
  refine⟨λe=>(by rw[e]at ak;cases ak),λi3 o=>?_⟩;have⟨O,D,J⟩:=B.not o
  have ik:i3=i+2:=by
   simp at D
   rcases R9 (i+2) i3 with h|h
   ·have:=J (i+2) za2 (ab i3 (i+2) O za2 h za2);exact absurd this (by simp<;>omega)
   omega
  subst ik;refine LO O y.s3 aw (a5 _ _ ch (r3 f0).2) λv w1 ew=>?_;rw[ew,ck,y.s2];exact fin ((B.step o).eq λj=>by rw[DJ];simp;omega)
 rcases ik with rfl|rfl
 ·refine LO O y.i3 av (a4 _) λv w1 ⟨ad,ae⟩=>?_;subst ad;subst ae;rw[y.i2,S]
  have s:=(al.step bb).eq (S':=λj=>decide (j<i+2)) λj=>by rw[DJ];simp;omega
  have a0:i+2∈Region.ready .any ops ((listed.setIfInBounds i true).setIfInBounds (i+1) true):=s.ready za2 za4 (bw _ za2) λj u=>by simp;omega
  refine⟨λe=>(by rw[e]at a0;cases a0),λi3 o=>?_⟩;have⟨O,D,J⟩:=s.not o
  have ik:i3=i+2\/i3=i+3:=by
   simp at D
   rcases R9 (i+3) i3 with h|h
   ·have:=J (i+2) za2 (ab i3 (i+2) O za2 za2 za2);exact absurd this (by simp<;>omega)
   omega
  rcases ik with rfl|rfl
  ·refine LO O y.s3 aw (a5 _ _ (r3 f0).1 (r3 f0).2) λv w1 ew=>?_;rw[ew,r4,y.s2]
   have a8:=(s.step o).eq (S':=λj=>decide (j<i+3)) λj=>by rw[DJ];simp;omega
   have a3:i+3∈Region.ready .any ops (((listed.setIfInBounds i true).setIfInBounds (i+1) true).setIfInBounds (i+2) true):=a8.ready za2 za4 (bw _ za2) λj u=>by simp;omega
   refine⟨λe=>(by rw[e]at a3;cases a3),λi4 bs=>?_⟩;have⟨O,D,J⟩:=a8.not bs
   have ik:i4=i+3:=by
    simp at D
    rcases R9 (i+3) i4 with h|h
    ·have:=J (i+3) za2 (ab i4 (i+3) O za2 h za2);exact absurd this (by simp<;>omega)
    omega
   subst ik;refine LO O y.u3 ag (ac a2 _ bf bg (af fv)) λv w1 ew=>?_;rw[ew,y.u2];exact fin ((a8.step bs).eq λj=>by rw[DJ];simp;omega)
  refine LO O y.u3 ag (ac a2 _ bf bg (af f0)) λv w1 ew=>?_;rw[ew,y.u2];exact aj ((s.step o).eq λj=>by rw[DJ];simp;omega)
 refine LO O y.u3 ag (ac a1 _ a6 be (af f0)) λv w1 ew=>?_;rw[ew,y.u2]
 have s:=(al.step bb).eq (S':=λj=>decide (j<i+1)||j==i+3) λj=>by rw[DJ];simp;omega
 have ak:i+1∈Region.ready .any ops ((listed.setIfInBounds i true).setIfInBounds (i+3) true):=s.ready za2 za4 (bw _ za2) λj u=>by simp;omega
 refine⟨λe=>(by rw[e]at ak;cases ak),λi3 o=>?_⟩;have⟨O,D,J⟩:=s.not o
 have ik:i3=i+1:=by
  simp at D
  rcases R9 (i+1) i3 with h|h
  ·have:=J (i+1) za2 (ab i3 (i+1) O za2 h za2);exact absurd this (by simp<;>omega)
  omega
 subst ik;refine LO O y.i3 av (a4 _) λv w1 ⟨ad,ae⟩=>?_;subst ad;subst ae;rw[y.i2];have:=aj ((s.step o).eq λj=>by rw[DJ];simp;omega)
 rw[<-S]at this
 exact this
end
end Go.Ab
namespace Go.Ab
open Go.RowKit
variable [P3][Ar]
def PG:Up Nat->Nat->Bool
 |[],_=>false
 |x::l,n=>match Nat.beq n x with|true=>true|false=>PG l n
abbrev Yu:=Up (Nat×Up V)
def lkp:Yu->Nat->OS (Up V)
 |[],_=>none
 |(k,x)::l,t=>match Nat.beq t k with|true=>some x|false=>lkp l t
section
variable (E:Hj)(T:JI)(nt:Nat)(A:Nat->Bool)
def xqd (G:Up (Nat×Bool)) (o:Oper) (l:Fl) (H:A6) (k:Sl->Prop):Prop:=
 match o.op with
 | .call c=>
  (match c.callee with
   | .value x=>E.pcall H (Ak G l x).V (c.args.toList.map λx=>(Ak G l x).V) λv=>k (.v v)
   |_=>xq E T G o l H k)
 |_=>xq E T G o l H k
def As5 (pv:Yu)(d:OS Tmp):Bool:=
 match d with
 |some d=>(match lkp pv d with|none=>true|some _=>false)
 |none=>true
abbrev Pe:=OS (Nat×Nat×Up V)
def Aq4 (tk:Up Nat)(d:OS Tmp):Bool:=
 match d with
 |some d=> !PG tk d
 |none=>true
def Yc:Up Nat->Nat->Up Nat
 |[],_=>[]
 |x::l,n=>match Nat.beq n x with|true=>Yc l n|false=>x::Yc l n
def TQ (s:OS Nat)(tk:Up Nat):Up Nat:=
 match s with
 |some d=>Yc tk d
 |none=>tk
def Bs2 (tk:Up Nat)(a:By)(tl:J8):OS (OS Nat):=
 match tl with
 | .nil=>some none
 | .full=>some none
 | .ro=>(match a with| .tmp d=>(match PG tk d with|true=>some (some d)|false=>none)|_=>none)
 |_=>none
def AQ5 (x:Bool)(ex:OS J8)(tk:Up Nat)(a:By)(tl:J8)(k:OS Nat->OS J8->Prop):Prop:=
 match x with
 |true=>(match ex with|some b=>E.need (tl=b) λ_=>k none none|none=>False)
 |false=>(match Bs2 tk a tl with|some s=>k s ex|none=>False)
def MP (A:Nat->Bool)(n:Nat):Up Oper->OS Nat
 |[]=>none
 |o::l=>match o.dst with|some d=>(match A (d+n)with|true=>some d|false=>MP A n l)|none=>MP A n l
def AQ7 (x :Bool) (ex:OS J8) (o:Oper) (l:Fl) (tk:Up Nat) (k:Nat->OS Nat->OS J8->V->Prop):Prop:=
 match o.op,o.dst,o.guard with
 | .call { callee:=.builtin .append,args:=⟨[sx,sy]⟩,argTypes:=⟨[sT,yT]⟩},some dd,none=>
  (match (Ak [] l sx).V,(Ak [] l sy).V with
   | .sl xs g,.sl ys _=>
    AQ5 E x ex tk sx g λb a=>
     (match tg T sT,tg T yT with
      | some I,some h=>
       (match I.sl,h.sl with
        | some e,some _=>
         (match tg T e with
          | some J=>
           (match J.ze with
            |some z=>if 0<J.sz/\0<J.by_/\z.one=true/\z.cells.length=J.sz then E.appq J.sz J.by_ xs ys λv=>k dd b a v else False
            |none=>False)
          |none=>False)
        |_,_=>False)
      |_,_=>False)
   |_,_=>False)
 |_,_,_=>False
def xdB (a   :Up Nat) (ops:za1 Oper):Up Oper->Fl->Yu->Pe->Up Nat->OS J8->A6->(Fl->Yu->Pe->Up Nat->Prop)->Prop
 |[],l,pv,pe,tk,_,_,K=>K l pv pe tk
 | o :: rest,l,pv,pe,tk,ex,H,K=>
  match Jt nt o.dst,As5 pv o.dst,Aq4 tk o.dst with
  | true, true,true=>
   (match A (o.dst.getD 0+3000000)with
    |true=>AQ7 E T (A (o.dst.getD 0+8000000)) ex o l tk λdd h g v=>xdB a ops rest ((dd,.v v)::l) pv pe (dd::TQ h tk) g H K
    | false =>
     (match o.op with
      | .alloc t=>
       (match o.guard,o.dst,tg T t with
        | none,some d,some I=>
         (match I.ze with
          |some z=>(match z.one with|true=>xdB a ops rest ((d,.v .bad)::l) ((d,z.cells)::pv) pe tk ex H K|false=>False)
          |none=>False)
        |_,_,_=>False)
      | .store t (.tmp d) y=>
       (match o.guard,tg T t with
        | none,some I=>
         (match lkp pv d with
          |some cs=>if(Ak [] l y).V.one=true/\(Ak [] l y).V.cells.length=I.sz/\I.sz<=cs.length then xdB a ops rest (Gk o.dst (.v .bad) l) ((d,AF cs 0 (Ak [] l y).V.cells)::pv) pe tk ex H K else False
          | none=>
           (match PG a d,Ag5 [] l d,pe with
            |true,some (.v (.ref id off)),some (ds,b,cs)=>
             if(Ak [] l y).V.one=true/\(Ak [] l y).V.cells.length=I.sz/\off+I.sz<=cs.length then E.need (id=b) λ_=>xdB a ops rest (Gk o.dst (.v .bad) l) pv (some (ds,b,AF cs off (Ak [] l y).V.cells)) tk ex H K else False
            |_,_,_=>False))
        |_,_=>False)
      | .store _ _ _=>False
      |_=>JV E ops o 4 l (λG e wr=>xqd E T G o e H λs=>xdB a ops rest (Gk o.dst (wr s) e) pv pe tk ex H K) λe=>xdB a ops rest (Gk o.dst (.v (.tup [])) e) pv pe tk ex H K))
  |_,_,_=>False
def Qa:Up Nat->Yu->Fl->A6->(Fl->A6->Prop)->Prop
 |[],_,l,H,K=>K l H
 |d::ds,pv,l,H,K=>
  match lkp pv d with
  |some cs=>(match A d with|true=>E.alloc H cs λid H'=>Qa ds pv ((d,.v (.ref id 0))::l) H' K|false=>Qa ds pv ((d,.v (.eref cs 0))::l) H K)
  |none=>False
def UD (dx:OS Nat)(tk:Up Nat)(l:Fl)(H:A6)(K:Fl->A6->Prop):Prop:=
 match dx with
 |none=>K l H
 |some d=>(match PG tk d,lk l d with|true,.v (.sl xs .ro)=>E.nameT H λtl H'=>K ((d,.v (.sl xs tl))::l) H'|_,_=>False)
def Tm (ops:za1 Oper):Up Oper->Fl->A6->(Fl->A6->Prop)->Prop
 |[],l,H,K=>K l H
 |o::rest,l,H,K=>
  match Jt nt o.dst with
  |true=>JV E ops o 4 l (λG a wr=>xop E T A G o a H λs H'=>Tm ops rest (Gk o.dst (wr s) a) H' K) λa=>Tm ops rest (Gk o.dst (.v (.tup [])) a) H K
  |false=>False
def Jk:Up Oper->Up Nat
 |[]=>[]
 |o::l=>match o.op,o.dst with| .alloc _,some d=>d::Jk l|_,_=>Jk l
def Bp4 (pe:Pe)(H:A6)(K:A6->Prop):Prop:=
 match pe with
 |some (_,id,cs)=>E.give H id cs K
 |none=>K H
def AQ3 (w:OS (Nat×Up Nat))(l:Fl)(H:A6)(K:Up Nat->Pe->A6->Prop):Prop:=
 match w with
 |none=>K [] none H
 |some (d,a)=>(match lk l d with| .v (.ref id 0)=>E.frz H id λcs H'=>K a (some (d,id,cs)) H'|_=>False)
def AQ2 (x:OS Nat)(H:A6)(K:OS J8->A6->Prop):Prop:=
 match x with
 |none=>K none H
 |some _=>E.takeT H λa H'=>K (some a) H'
def AR0 (w:OS (Nat×Up Nat))(k:Nat)(ops:za1 Oper)(l:Fl)(H:A6)(K:Fl->A6->Prop):Prop:=
 AQ2 E (MP A 8000000 (ops.toList.take k)) H λex H0=>AQ3 E w l H0 λa pe G=>xdB E T nt A a ops (ops.toList.take k) l [] pe [] ex G λi pv e tk=>Bp4 E e G λg=>UD E (MP A 9000000 (ops.toList.take k)) tk i g λl1 h=>Qa E A (Jk (ops.toList.take k)) pv l1 h λb H'=>Tm E T nt A ops (ops.toList.drop k) b H' K
end
section
variable {P:Program}{nt:Nat}{rd:Option Nat}{T:JI}{A:Nat->Bool}{df:List Nat}
def AG6 (b:Nk P T) {G:Up (Nat×Bool)} {o:Oper} {l:Fl} (a:Nr G l) {H:A6} {k:Sl->Prop} (h:xqd (J3 P nt rd) T G o l H k):∃s:Sl,QN P o (ev (J9 ⟨l,df⟩)) H s.V/\k s:=by
 unfold xqd at h
 split at h
 ·rename_i c z
  split at h
  ·rename_i x X;have⟨v,O,e⟩:=h
   rw[HA (df:=df) a,show(c.args.toList.map λx=>(Ak G l x).V)=c.args.toList.map (ev (J9 ⟨l,df⟩))from Y0 λp _=>HA a p]at O
   grind[QN,Sl.V]
  exact QO b a h
 exact QO b a h
def Bf1 (a:Nk P T) {G:Up (Nat×Bool)} {o:Oper} {l:Fl} {H:A6} {k:Sl->Prop} (j:OA G o l=true) (h:xqd (J3 P nt rd) T G o l H k):∃s,k s:=by
 unfold xqd at h
 split at h
 ·rename_i c z
  split at h
  ·have⟨v,O,b⟩:=h
   grind
  exact Ap0 a j h
 exact Ap0 a j h
theorem IT (a:Nk P T) {ops:za1 Oper} {K:Fl->A6->Prop}:∀(rest:Up Oper) (l:Fl) (H:A6),Tm (J3 P nt rd) T nt A ops rest l H K->LW P A nt ops rest (J9 ⟨l,df⟩) H λfr H'=>∃b,fr=J9 ⟨b,df⟩/\K b H'
 |[],l,H,h=>⟨l,rfl,h⟩
 | o::rest,l,H,h=>by
  unfold Tm at h
  split at h
  ·rename_i hd;simp only[LW];refine⟨hd,?_⟩;have⟨b,e,h⟩:=Hl (df:=df) 4 l h
   have e:J9 ⟨b,df⟩=J9 ⟨l,df⟩:=by simp_all[J9]
   rcases h with⟨g,G,wr,n,i,h⟩|⟨g,h⟩
   ·rw[g];rw[<-e];refine Ov (Sa (df:=df) a n h) λv H' ⟨s,q,W⟩=>?_;subst q;rw[<-i s,<-S1];exact IT a rest _ _ W
   rw[g];rw[<-e]
   rcases h with h|⟨G,d,k,j,t,h⟩
   ·have:=IT a rest _ _ h
    rw[S1]at this
    exact this
   have⟨s,h⟩:=YA a j h;have:=IT a rest _ _ h
   rw[S1]at this
   simp_all[slV]
  grind
def Cm (pv:Yu)(pe:Pe)(tk:Up Nat)(ex:OS J8):Pv
 | .inl d=>lkp pv d
 | .inr x=>(match pe with|some (_,id,cs)=>if x=id then some cs else none|none=>none)
 | .tk d=>(match PG tk d with|true=>some []|false=>none)
 | .ex=>ex.map λa=>[.sl [] a]
def Bc7 {a b:Nat}:Nat.beq a b=true<->a=b:=⟨DS,λh=>za8⟩
theorem AY5 {pv:Yu} {d t:Nat} {cs:Up V}:lkp ((d,cs)::pv) t=if t=d then some cs else lkp pv t:=by
 simp only[lkp]
 by_cases h:t=d
 ·simp_all
 have:Nat.beq t d=false:=by
  cases a:Nat.beq t d with
  |false=>rfl
  |true=>simp_all
 grind
theorem JQ {tk:Up Nat} {d t:Nat}:PG (d::tk) t=(decide (t=d)||PG tk t):=by
 simp only[PG]
 by_cases h:t=d
 ·simp_all
 have:Nat.beq t d=false:=by
  cases a:Nat.beq t d with
  |false=>rfl
  |true=>simp_all
 grind
def SD {d t:Nat}:∀{tk:Up Nat},PG (Yc tk d) t=(!decide (t=d)&&PG tk t)
 |[]=>by simp[PG,Yc]
 | x::l=>by
  simp only[Yc]
  split
  ·rename_i h;have:=Bc7.1 h;subst this;rw[SD (tk:=l),JQ]
   by_cases e:t=d<;>simp[e]
  rename_i h
  have a:d≠x:=λe=>by rw[Bc7.2 e]at h;cases h
  rw[JQ,JQ,SD (tk:=l)]
  grind
def XE {pv:Yu} {pe:Pe} {tk:Up Nat} {ex:OS J8} {d:Nat} {cs:Up V}:Cm ((d,cs)::pv) pe tk ex=U8 (Cm pv pe tk ex) (.inl d) cs:=by
 funext t
 cases t with
 |inl t=>
  grind[Cm,U8,AY5]
 |inr x=>simp[Cm,U8]
 |tk x=>simp[Cm,U8]
 |ex=>simp[Cm,U8]
def Bh8 {pv:Yu} {tk:Up Nat} {ex:OS J8} {ds id:Nat} {cs cs':Up V}:Cm pv (some (ds,id,cs')) tk ex=U8 (Cm pv (some (ds,id,cs)) tk ex) (.inr id) cs':=by
 funext t
 cases t with
 |inl t=>simp[Cm,U8]
 |inr x=>
  grind[Cm,U8]
 |tk x=>simp[Cm,U8]
 |ex=>simp[Cm,U8]
def Bh9 {pv:Yu} {pe:Pe} {tk:Up Nat} {ex:OS J8} {d:Nat}:Cm pv pe (d::tk) none=U8 (Ba (Cm pv pe tk ex) (some .ex)) (.tk d) []:=by
 funext t
 cases t with
 |inl t=>rw[K9 za4,Z0 za4];rfl
 |inr x=>rw[K9 za4,Z0 za4];rfl
 |ex=>rw[K9 za4];simp[Cm,Ba]
 |tk x=>
  grind[JQ,Cm,U8,Z0]
def Bh7 {pv:Yu} {pe:Pe} {tk:Up Nat} {ex:OS J8} {d:Nat} {a:OS Nat}:Cm pv pe (d::TQ a tk) ex=U8 (Ba (Cm pv pe tk ex) (a.map .tk)) (.tk d) []:=by
 funext t
 cases t with
 |inl t=>rw[K9 za4,Z0 (by cases a<;>simp)];rfl
 |inr x=>rw[K9 za4,Z0 (by cases a<;>simp)];rfl
 |ex=>rw[K9 za4,Z0 (by cases a<;>simp)];rfl
 | tk x=>
  by_cases h:x=d
  ·grind[JQ,Cm,U8]
  rw[K9 (λe=>za8)]
  have w:PG (d::TQ a tk) x=PG (TQ a tk) x:=by rw[JQ];simp[h]
  cases a with
  |none=>simp_all[Cm,TQ,Ba]
  |some c=>
   have e2:PG (TQ (some c) tk) x=(!decide (x=c)&&PG tk x):=SD
   grind[Cm,Ba]
def AK6 {pv:Yu} {pe:Pe} {tk:Up Nat} {ex:OS J8} {d:OS Tmp} (h:As5 pv d=true) (a:Aq4 tk d=true):Af (Cm pv pe tk ex) d:=by
 cases d with
 |none=>trivial
 |some d=>
  grind[Af,Cm,As5,Aq4]
def Bf0 {l:Fl}{pv:Yu}{pe:Pe}{tk:Up Nat}{ex:OS J8}{b:By}{tl:J8}{a:OS Nat}(h:Bs2 tk b tl=some a):Na (Cm pv pe tk ex) b tl (a.map .tk):=by
 unfold Bs2 at h
 split at h
 ·grind[Na]
 ·grind[Na]
 ·grind[Na,Cm]
 cases h
def AQ4 {l:Fl} {pv:Yu} {pe:Pe} {tk:Up Nat} {x:Bool} {ex:OS J8} {g:By} {tl:J8} {k:OS Nat->OS J8->Prop} (h:AQ5 (J3 P nt rd) x ex tk g tl k):
 ∃key,Na (Cm pv pe tk ex) g tl key/\∃b a,k b a/\(ex=none->a=none)/\∀d,Cm pv pe (d::TQ b tk) a=U8 (Ba (Cm pv pe tk ex) key) (.tk d) []:=by
 unfold AQ5 at h
 split at h
 ·split at h
  ·obtain⟨e,h⟩:=h;subst e;exact⟨some .ex,rfl,none,none,h,λ_=>rfl,λd=>Bh9⟩
  grind
 split at h
 ·rename_i s C;exact⟨_,Bf0 (l:=l) C,s,ex,h,id,λd=>Bh7⟩
 grind
def ZZ (g:Nk P T) {x:Bool} {ex:OS J8} {o:Oper} {l:Fl} {pv:Yu} {pe:Pe} {tk:Up Nat} {k:Nat->OS Nat->OS J8->V->Prop} (h:AQ7 (J3 P nt rd) T x ex o l tk k):∃dd key v,o.dst=some dd/\PApp P o (J9 ⟨l,df⟩) (Cm pv pe tk ex) key v/\∃b a,k dd b a v/\(ex=none->a=none)/\Cm pv pe (dd::TQ b tk) a=U8 (Ba (Cm pv pe tk ex) key) (.tk dd) []:=by
 unfold AQ7 at h
 split at h
 ·rename_i sx sy sT yT dd G i D
  split at h
  ·rename_i xs f ys j w e2
   rw[HA (l:=l) (df:=df) Nr.nil]at w e2
   have⟨key,C,b,a,h,c,d⟩:=AQ4 (l:=l) (pv:=pv) (pe:=pe) h
   split at h
   ·rename_i I I2 B t
    split at h
    ·rename_i e u Y N
     split at h
     ·rename_i J y
      split at h
      ·rename_i z M
       have n:=(I7 g y).ze;rw[M]at n;simp only[Ef]at n
       split at h
       ·rename_i X;have⟨q,s,c3,c4⟩:=X;have⟨m,p,l1,W,O,R,S,U⟩:=h;exact⟨dd,key,_,i,⟨D,sx,sy,sT,yT,xs,f,ys,j,m,p,G,w,e2,C,⟨e,J.sz,J.by_,z,(I7 g B).sl.trans Y,by rw[(I7 g t).sl,N];rfl,(I7 g y).sz,q,(I7 g y).by_,s,n,c3,c4,l1,W,O,R,S⟩,rfl⟩,b,a,U,c,d dd⟩
       grind
      grind
     grind
    grind
   grind
  grind
 grind
def Ks {ops:za1 Oper}{H:A6}{K a:Fr->Pv->Prop}(W:∀fr pv,K fr pv->a fr pv):∀(l:Up Oper) (fr:Fr) (pv:Pv),Ms P nt ops H l fr pv K->Ms P nt ops H l fr pv a
 |[],_,_,h=>W _ _ h
 |_::l,_,_,h=>Wg h λfr pv h=>Ks W l fr pv h
def Ek (i:Nk P T) {B:Up Nat} {ops:za1 Oper} {H:A6} {K:Fl->Yu->Pe->Up Nat->Prop}:∀(rest:Up Oper) (l:Fl) (pv:Yu) (pe:Pe) (tk:Up Nat) (ex:OS J8),xdB (J3 P nt rd) T nt A B ops rest l pv pe tk ex H K->
 Ms P nt ops H rest (J9 ⟨l,df⟩) (Cm pv pe tk ex) λfr N=>∃k pl a tk' g,fr=J9 ⟨k,df⟩/\N=Cm pl a tk' g/\(ex=none->g=none)/\a.map (λp=>p.2.1)=pe.map (λp=>p.2.1)/\K k pl a tk'
 |[],l,pv,pe,tk,ex,h=>⟨l,pv,pe,tk,ex,rfl,rfl,id,rfl,h⟩
 | o ::rest,l,pv,pe,tk,ex,h=>by
  unfold xdB at h
  split at h
  ·rename_i hd hf R;simp only[Ms];unfold OL;refine⟨⟨hd,AK6 hf R⟩,?_⟩
   split at h
   ·have⟨dd,key,v,b,hP,ad,ab,h,J,U⟩:=ZZ (df:=df) (pv:=pv) (pe:=pe) i h;refine⟨v,_,.inr (.inr (.inr ⟨dd,key,b,hP,rfl⟩)),?_⟩;have:=Ek i rest _ _ _ _ _ h
    rw[U,show(dd,Sl.v v)::l=Gk (some dd) (.v v) l from rfl,S1]at this
    rw[b];exact Ks (λfr pv ⟨k,pl,a,tk',g,w,e2,e3,h⟩=>⟨k,pl,a,tk',g,w,e2,λY=>e3 (J Y),h⟩) _ _ _ this
   split at h
   ·rename_i t u
    split at h
    ·rename_i d I c b q
     split at h
     ·rename_i z hz
      have C:=(I7 i q).ze;rw[hz]at C;simp only[Ef]at C
      split at h
      ·rename_i O;refine⟨.bad,_,.inr (.inl ⟨t,z,d,u,c,b,C,O,rfl,rfl⟩),?_⟩;have:=Ek i rest _ _ _ _ _ h
       rw[XE,show(d,Sl.v V.bad)::l=Gk (some d) (.v .bad) l from rfl,S1]at this
       rw[b];exact this
      grind
     grind
    grind
   ·rename_i t d y u
    split at h
    ·rename_i I c q;have m:=HA (l:=l) (df:=df) Nr.nil y
     split at h
     ·rename_i cs x
      split at h
      ·rename_i X;have⟨f,n,c3⟩:=X
       rw[m]at f n h
       refine⟨.bad,_,.inr (.inr (.inl ⟨t,d,y,.inl d,0,cs,u,c,.inl ⟨rfl,rfl,x⟩,f,by rw[n];exact(I7 i q).sz,by rw[n];omega,rfl,rfl⟩)),?_⟩;have:=Ek i rest _ _ _ _ _ h
       rw[XE,S1]at this
       exact this
      grind
     rename_i x
     split at h
     ·rename_i id off ds ac cs _ S
      split at h
      ·rename_i X;have⟨f,n,c3⟩:=X;have⟨Y,h⟩:=h;subst Y
       rw[m]at f n h
       have hd:(J9 ⟨l,df⟩).s d= .ref id off:=(Ou Nr.nil S).1.symm;refine⟨.bad,_,.inr (.inr (.inl ⟨t,d,y,.inr id,off,cs,u,c,.inr ⟨id,rfl,hd,x,by simp[Cm]⟩,f,by rw[n];exact(I7 i q).sz,by rw[n];exact c3,rfl,rfl⟩)),?_⟩;have:=Ek i rest _ _ _ _ _ h
       rw[Bh8 (cs:=cs),S1]at this
       exact this
      grind
     grind
    grind
   ·exact h.elim
   rename_i n1 n2 n3
   have key:∃v,Ua P ops H o (J9 ⟨l,df⟩) v/\Ms P nt ops H rest ((J9 ⟨l,df⟩).put o.dst v) (Cm pv pe tk ex) λfr N=>∃k pl a tk' g,fr=J9 ⟨k,df⟩/\N=Cm pl a tk' g/\(ex=none->g=none)/\a.map (λp=>p.2.1)=pe.map (λp=>p.2.1)/\K k pl a tk':=by
    have⟨k,e,h⟩:=Hl (df:=df) 4 l h
    have e:J9 ⟨k,df⟩=J9 ⟨l,df⟩:=by simp_all[J9]
    rcases h with⟨c,G,wr,hG,W,h⟩|⟨c,h⟩
    ·have⟨s,O,D⟩:=AG6 (df:=df) i hG h;refine⟨s.V,by simp_all[Ua],?_⟩;have:=Ek i rest _ _ _ _ _ D
     rw[S1,W s,e]at this
     exact this
    refine⟨.tup [],by grind[Ua],?_⟩
    rcases h with h|⟨G,d,aa,j,hb,h⟩
    ·have:=Ek i rest _ _ _ _ _ h
     rw[S1,e]at this
     exact this
    have⟨s,h⟩:=Bf1 i j h;have:=Ek i rest _ _ _ _ _ h
    rw[S1,e]at this
    simp_all[slV]
   have⟨v,O,D⟩:=key;refine⟨v,_,.inl ⟨?_,?_,O,rfl⟩,D⟩
   ·cases M:o.op<;>first|rfl|simp_all
   simp[Rv]
  grind
theorem Mw {pe:Pe} {tk:Up Nat} {ex:OS J8} {K:Fl->A6->Prop}:∀(ds:Up Nat) (pv:Yu) (l:Fl) (H:A6),Qa (J3 P nt rd) A ds pv l H K->Mn A ds (Cm pv pe tk ex) (J9 ⟨l,df⟩) H λfr H'=>∃i,fr=J9 ⟨i,df⟩/\K i H'
 |[],pv,l,H,h=>⟨l,rfl,h⟩
 | d::ds,pv,l,H,h=>by
  unfold Qa at h
  simp only[Mn]
  split at h
  ·rename_i cs e;have a:Cm pv pe tk ex (.inl d)=some cs:=e;rw[a]
   simp only
   split at h
   ·rename_i b;rw[A2 b];intro id g;have:=Mw (pe:=pe) (tk:=tk) (ex:=ex) ds pv _ _ (h id g)
    rw[show(d,Sl.v (V.ref id 0))::l=Gk (some d) (.v (.ref id 0)) l from rfl,S1]at this
    exact this
   rename_i b;rw[A1 (by rw[b];simp)];have:=Mw (pe:=pe) (tk:=tk) (ex:=ex) ds pv _ _ h
   rw[show(d,Sl.v (V.eref cs 0))::l=Gk (some d) (.v (.eref cs 0)) l from rfl,S1]at this
   exact this
  grind
theorem Qs {A:Nat->Bool} {K e:Fr->A6->Prop} (W:∀fr H,K fr H->e fr H):∀(ds:Up Nat) (pv:Pv) (fr:Fr) (H:A6),Mn A ds pv fr H K->Mn A ds pv fr H e
 |[],_,_,_,h=>W _ _ h
 | d::ds,pv,fr,H,h=>by
  simp only[Mn]at h ⊢
  split at h
  ·split at h
   ·rename_i a;rw[A2 a];exact λid b=>Qs W ds _ _ _ (h id b)
   rename_i a;rw[A1 a];exact Qs W ds _ _ _ h
  omega
def Sq {ops:za1 Oper} {K a:Fr->A6->Prop} (W:∀fr H,K fr H->a fr H):∀(l:Up Oper) (fr:Fr) (H:A6),LW P A nt ops l fr H K->LW P A nt ops l fr H a
 |[],_,_,h=>W _ _ h
 |o::l,fr,H,h=>by
  simp only[LW]at h ⊢
  refine⟨h.1,?_⟩;have⟨_,h⟩:=h
  split at h
  ·rename_i b;exact Ov h λv H' h=>Sq W l _ _ h
  ·rename_i b;exact Sq W l _ _ h
  omega
theorem Ah1 {dx:OS Nat}{pv:Pv}{fr:Fr}{H:A6}{K K':Fr->A6->Prop}(W:∀fr H,K fr H->K' fr H)(h:MI dx pv fr H K):MI dx pv fr H K':=by
 unfold MI at h ⊢
 grind
def AY6 {d:Nat} {x:V}:∀{l:Fl},lk l d= .v x->EQ l d=x
 |[],h=>by cases h;rfl
 |(k,s)::l,h=>by
  simp only[lk]at h
  simp only[EQ]
  cases a:Nat.beq d k with
  |true=>rw[a]at h;subst h;rfl
  |false=>rw[a]at h;exact AY6 h
theorem YB {dx:OS Nat} {pl:Yu} {pe:Pe} {tk:Up Nat} {ex:OS J8} {l:Fl} {H:A6} {K:Fl->A6->Prop} (h:UD (J3 P nt rd) dx tk l H K):MI dx (Cm pl pe tk ex) (J9 ⟨l,df⟩) H λfr H'=>∃b,fr=J9 ⟨b,df⟩/\K b H':=by
 unfold UD at h
 unfold MI
 split at h
 ·grind
 rename_i d
 split at h
 ·rename_i xs O e;have⟨J,s⟩:=h;refine⟨xs,by simp[Cm,O],AY6 e,λtl a=>⟨_,?_,J tl a⟩,λt j=>⟨_,?_,s t j⟩⟩
  ·exact(S1 l (some d) (.v (.sl xs tl))).symm
  exact(S1 l (some d) (.v (.sl xs (.tok t)))).symm
 grind
def AG7 (C:Nk P T) {w:OS (Nat×Up Nat)} {k:Nat} {ops:za1 Oper} {l:Fl} {H:A6} {K:Fl->A6->Prop} (j:Wi ops k=true) (f:(Jk (ops.toList.take k)).Nodup)
 (h:AR0 (J3 P nt rd) T nt A w k ops l H K):MZ P nt rd ops (J9 ⟨l,df⟩) H λe fr H'=>e= .normal/\∃a,fr=J9 ⟨a,df⟩/\K a H':=by
 have rest:∀(a:Fl) (pl:Yu) (pe:Pe) (tk:Up Nat) (ex:OS J8) (t:A6),UD (J3 P nt rd) (MP A 9000000 (ops.toList.take k)) tk a t (λl1 y=>Qa (J3 P nt rd) A (Jk (ops.toList.take k)) pl l1 y λn H'=>Tm (J3 P nt rd) T nt A ops (ops.toList.drop k) n H' K)->
  MI (MP A 9000000 (ops.toList.take k)) (Cm pl pe tk ex) (J9 ⟨a,df⟩) t λv y=>Mn A (Jk (ops.toList.take k)) (Cm pl pe tk ex) v y λfr H'=>LW P A nt ops (ops.toList.drop k) fr H' λfr H'=>.normal=Exit.normal/\∃a,fr=J9 ⟨a,df⟩/\K a H':=λa pl pe tk ex t h=>by
  grind[Ah1,YB,Qs,Mw,IT]
 unfold AR0 at h
 have⟨ex,D,h⟩:∃ex,(∀s,ex=some s->Jx H s)/\AQ3 (J3 P nt rd) w l (Mb H ex) λN pe G=>xdB (J3 P nt rd) T nt A N ops (ops.toList.take k) l [] pe [] ex G λa pv b tk=>Bp4 (J3 P nt rd) b G λt=>UD (J3 P nt rd) (MP A 9000000 (ops.toList.take k)) tk a t λl1 y=>Qa (J3 P nt rd) A (Jk (ops.toList.take k)) pv l1 y λn H'=>Tm (J3 P nt rd) T nt A ops (ops.toList.drop k) n H' K:=by
  unfold AQ2 at h
  split at h
  ·exact⟨none,λ_ h=>(by cases h),h⟩
  have⟨s,O,I⟩:=h;exact⟨some s,λ_ h=>za8,I⟩
 unfold AQ3 at h
 cases w with
 |none=>
  refine MZ.drawF (A:=A) (W:=[]) (dx:=MP A 9000000 (ops.toList.take k)) j f D (λp o=>by simp at o) ?_
  have e0:pvW [] ex=Cm [] none [] ex:=by funext x;cases x<;>rfl
  rw[e0];refine Ks (λfr pv ⟨a,pl,b,m,c,u,e2,_,V,h⟩=>?_) _ _ _ (Ek (df:=df) C _ _ _ _ _ _ h);subst u;subst e2
  cases b with
  |some p=>cases V
  |none=>exact rest _ _ _ _ _ _ h
 | some p=>
  have⟨d,N⟩:=p
  simp only at h
  split at h
  ·rename_i g B;have⟨cs,J,h⟩:=h;refine MZ.drawF (A:=A) (W:=[(g,cs)]) (dx:=MP A 9000000 (ops.toList.take k)) j f D (λp o=>za8) ?_
   have e0:pvW [(g,cs)] ex=Cm [] (some (d,g,cs)) [] ex:=by
    funext x
    cases x with
    |inl x=>rfl
    |inr x=>
     grind[pvW,Cm]
    |tk x=>rfl
    |ex=>rfl
   rw[e0];refine Ks (λfr pv ⟨a,pl,b,m,c,u,e2,_,V,h⟩=>?_) _ _ _ (Ek (df:=df) C _ _ _ _ _ _ h);subst u;subst e2
   cases b with
   |none=>cases V
   |some q=>
    have⟨z,i,cs'⟩:=q
    simp only[K5,E7]at V
    subst V
    have o:Cm pl (some (z,i,cs')) m c (.inr i)=some cs':=by simp[Cm]
    unfold XW;rw[o];exact rest _ _ (some (z,i,cs')) _ _ _ h
  grind
end
noncomputable def Bk9 (xs:Up V):Int:=List.rec (motive:=λ_=>Int) 0 (λ_ _ n=>n+1) xs
def Bk8 (xs:Up V):Bk9 xs=(xs.length:Nat):=by
 induction xs with
 |nil=>rfl
 |cons x xs ih=>
  have e:Bk9 (x::xs)=Bk9 xs+1:=rfl;rw[e,ih];simp
def RD (ops:za1 Oper) (k:Nat):Bool:=
 k +3<ops.size&&(List.range ops.size).all λi=>
  Dy (ops.getD i default) i&&
   (List.range i).all λj=>(i<k&&OD ops (ops.getD j default) (ops.getD i default))||Nf ops So i j||(i==k+3&&decide (k<j))
def Wh {ops:za1 Oper}{k:Nat}(h:RD ops k=true):k+3<ops.size/\∀i,i<ops.size->Dy (ops.getD i default) i=true/\
 ∀j,j<i->(Nf ops So i j=true\/(i<k/\OD ops (ops.getD j default) (ops.getD i default)=true))\/(i=k+3/\k<j):=by
 simp only[RD,K0,H5,ET,CX,BE,EY]at h
 exact⟨h.1,λi U=>⟨(h.2 i U).1,λj u=>((h.2 i U).2 j u).imp Or.symm id⟩⟩
def neT (x:By)(t:Nat):Bool:=
 match x with
 | .tmp u=> !Nat.beq u t
 |_=>true
def At3 {x:By}{t:Nat}(h:neT x t=true):x≠ .tmp t:=by
 intro e;subst e;simp[neT]at h
def isNone {α:Type}:OS α->Bool
 |none=>true
 |some _=>false
def JP {α:Type}{o:OS α}(h:isNone o=true):o=none:=by
 cases o<;>simp[isNone]at h;rfl
def Bd6 (nt k:Nat) (ops:za1 Oper):OS WI:=
 match(ops.getD k default).op,(ops.getD k default).dst,(ops.getD (k+1) default).op,(ops.getD (k+1) default).dst,(ops.getD (k+2) default).op,(ops.getD (k+3) default).op with
 | .call {callee:=.builtin .append,args:=⟨[sx,sy]⟩,argTypes:=⟨[sT,yT]⟩},some tA,.indexAddr t2 (.tmp tA2) nn,some tI,.store eT (.tmp tI2) zz,.store t3 (.tmp tp) (.tmp tA3)=>
  if(Nat.beq tA2 tA&&Nat.beq tA3 tA&&Nat.beq tI2 tI&&isNone (ops.getD k default).guard&&isNone (ops.getD (k+1) default).guard&&isNone (ops.getD (k+2) default).guard&&isNone (ops.getD (k+3) default).guard&&
   isNone (ops.getD (k+2) default).dst&&isNone (ops.getD (k+3) default).dst&& !Nat.beq tA tI&& !Nat.beq tp tA&& !Nat.beq tp tI&&neT nn tA&&neT zz tA&&neT zz tI&&Nat.ble (tA+1) nt&&Nat.ble (tI+1) nt)=true then
   some ⟨sx,sy,nn,zz,sT,yT,t2,eT,t3,tA,tI,tp⟩else none
 |_,_,_,_,_,_=>none
def Bd5 {nt k:Nat} {ops:za1 Oper} {p:WI} (B:k+3<ops.size) (h:Bd6 nt k ops=some p):By8 ops nt k p:=by
 unfold Bd6 at h
 split at h
 ·rename_i q s o G z u c m C j f I v D d w e2 n e4 t x
  rw[Option.ite_none_right_eq_some]at h
  have⟨X,h⟩:=h;cases h
  simp only[K0,Fh]at X
  obtain⟨⟨⟨⟨⟨⟨⟨⟨⟨⟨⟨⟨⟨⟨⟨⟨g,i⟩,c3⟩,c4⟩,c5⟩,c6⟩,c7⟩,c8⟩,c9⟩,c10⟩,c11⟩,c12⟩,c13⟩,c14⟩,c15⟩,c16⟩,c17⟩:=X;have y:=DS g;have N:=DS i;have V:=DS c3;subst y;subst N;subst V
  have ne:∀{a b:Nat},Nat.beq a b=false->a≠b:=λh e=>by subst e;rw[Nat.beq_refl]at h;cases h
  exact⟨B,w,e2,JP c4,n,e4,JP c5,t,JP c8,JP c6,x,JP c9,JP c7,ne c10,ne c11,ne c12,At3 c13,At3 c14,At3 c15,GY c16,GY c17⟩
 cases h
section
variable {P:Program}{nt:Nat}{ops:Array Oper}{H0:A6}
def AppT (P:If) (nt:Nat) (A:WL) (ops:za1 Oper) (k:Nat) (p:WI) (fr:Fr) (H:A6) (K:Fr->A6->Prop):Prop:=
 ∃ (xs:Up V) (tl h:J8) (i g z:V) (n:IntKind) (e:Do) (sz by_ b a:Nat),
  DK (ev fr p.sx) (.sl xs tl)/\ev fr p.sy= .sl [i] h/\i.cells.length=sz/\ev fr p.nn= .int n (xs.length:Nat)/\DK (ev fr p.zz) g/\g.one=true/\g.cells.length=sz/\
  HS P p.sT=some e/\(HS P p.yT).isSome=true/\HS P p.t2=some e/\HL P e=some sz/\HL P p.eT=some sz/\0<sz/\SN P e=some by_/\0<by_/\KC P e=some z/\z.one=true/\z.cells.length=sz/\Jx H tl/\
  xs.all (λx=>x.cells.length==sz)=true/\(xs.length+1)*by_<=140737488355328/\fr.s p.tp= .ref b a/\HL P p.t3=some 1/\
  ∀t,H6 H tl t=none->∃cs,upd (H6 H tl) t (some .spare) b=some (.cells cs)/\a+1<=cs.length/\
   LW P A nt ops (ops.toList.drop (k+4)) ((fr.put (some p.tA) (.sl (xs++[g]) (.tok t))).put (some p.tI) .bad) (upd (upd (H6 H tl) t (some .spare)) b (some (.cells (AF cs a [.sl (xs++[g]) (.tok t)])))) K
def Br.appF {A:WL} {rd:OS Nat} {id k:Nat} {p:WI} {fr:Fr} {Q:Exit->Fr->A6->Prop} (o:P.follows .mixedOrders=true) (a0:RD ops k=true) (hp:By8 ops nt k p)
 (h:Ms P nt ops H0 (ops.toList.take k) fr (λ_=>none) λc pv=>(∀x,pv x=none)/\AppT P nt A ops k p c H0 (Q .normal)):Br P nt rd (.region id ops true) fr H0 Q:=by
 intro r g w a _ v hF;refine wpIn_region_any o ?_;have⟨a5,V⟩:=Wh a0
 have W:k<=ops.size:=za2
 have Y:Aw g w g w.drew:=⟨λ_ _ e=>e,λ_ _ e=>e,λ_ _ e=>e,rfl,λ_ _ _=>rfl,(Bc _ _).drew,λ_ _ _=>rfl,GM _⟩
 have ax:Rl g H0 w.drew:=by
  refine⟨λid b I=>(v.blk id b I).mono I Y λ_ _=>⟨rfl,λ_ ho=>ho⟩,v.inj,v.frz,v.nxt,v.bnd,λn=>(v.glb n).mono Y⟩
 have hI:Ay3 nt H0 g w.drew fr (λ_=>none) g w.drew a:=
  ⟨H0,λ_=>0,Aw.refl _ _,ax,hF.mono Y,λ_ _ h=>h,λd cs h=>(by cases h),λd d' cs cs' h=>(by cases h),λ_=>none,λd cs h=>(by cases h),λd d' cs cs' t h=>(by cases h),λcs h=>(by cases h)⟩
 have S:(List.range k).map (λi=>ops.getD i default)=ops.toList.take k:=by
  apply ES
  ·simp;omega
  intro i O h2
  simp at O
  simp[Array.getD,show i<ops.size by omega]
 have I:=Wz (r:=r) (Q:=Yx nt g w Q) W (λi U=>⟨(V i U).1,λj u=>by
  rcases(V i U).2 j u with h|h
  ·exact h.imp (λh=>h) .inl
  exact .inr (.inr za2)⟩) (K:=λc pv=>(∀x,pv x=none)/\AppT P nt A ops k p c H0 (Q .normal)) (g0:=g) (w0:=w.drew)
  (λg' w' a' c pv N a1 B ar hK=>?_) k (List.range k) (Array.replicate ops.size false) fr (λ_=>none) za4 (NV) (λi U=>by simpa using U) za4 (λi b U=>by simp[Array.getD,U]) (λm j o _=>by simp[Array.getD]at o) (by rw[S];exact h) g w.drew a hI
 ·rw[show k+(ops.size-k)=ops.size by omega]at I
  exact I
 have⟨H,a7,s,av,ap,R,a6,a2,_⟩:=ar;have⟨_,xs,tl,a8,y0,vV,z,kk,e,sz,by_,q,a4,b1,b2,b3,b4,b5,b6,b7,b8,b9,aa,ab,ac,ad,ae,af,ag,ah,ai,aj,ak,al,am,an,C⟩:=hK;have D:=av.less R
 have y:H6 H0 tl g'.nx=none:=by
  have:=(D.nxt _ (B1 _)).2.2
  cases hd:H6 H0 tl g'.nx with
  |none=>rfl
  |some b=>rw[HD hd]at this;cases this
 have⟨cs,c1,c2,_⟩:=C _ y
 have az:LC ops N λi=>decide (i<k):=⟨a1,B,λm j o u=>by
  have X:m<ops.size:=by
   rcases R9 m ops.size with h|h
   ·exact h
   simp[Array.getD,show¬m<N.size by omega]at o
  rw[B m false X]at o
  simp only[H5]at o
  have J:=(V m X).1
  simp only[Dy,Array.all_eq_true]at J
  simp only[HB,NI,K0,EY]at u
  obtain⟨x,M,rfl,ay⟩:=u;have:=J x M
  simp only[ay,Co,GR,H5]at this
  rw[B _ false za2]
  simp only[H5];omega⟩
 have f:∀t cs,H6 H0 tl t=none->upd (H6 H0 tl) t (some .spare) q=some (.cells cs)->H0 q=some (.cells cs):=λt cs ht h=>by
  by_cases e:q=t
  ·subst e;rw[G4]at h;cases h
  rw[D3 _ _ e]at h;exact HD h
 have G:=f _ _ y c1
 exact Bd3 (A:=A) (r:=r) (K:=Q .normal) (g0:=g) (w0:=w) hp (λi U=>⟨(V i U).1,λj u=>by
  rcases(V i U).2 j u with(h|h)|h
  ·exact .inl h
  ·exact .inr (.inl h.1)
  exact .inr (.inr h)⟩)
  (λg3 w3 a3 ao H3 s3 aw aq au=>⟨g3,ao,H3,s3,aw,aq,au⟩) az b1 b2 b3 b4 b5 b6 b7 b8 b9 aa ab ac ad ae af ag ah ai aj ak al am G an c2
  (λt ht=>by
   have⟨cs',d1,d2,d3⟩:=C t ht;have:=f _ _ ht d1
   rw[G]at this
   cases this
   exact d3) g' w' a' (Y.trans s) D ap
end
section
variable (E:Hj)(T:JI)(nt:Nat)(A:Nat->Bool)
def Bp6 (k :Nat) (p:WI) (ops:za1 Oper) (l:Fl) (H:A6) (K:Fl->A6->Prop):Prop:=
 match(Ak [] l p.sx).V,(Ak [] l p.sy).V,(Ak [] l p.nn).V,lk l p.tp with
 | .sl xs tl,.sl [y] _,.int _ m,.v (.ref g a)=>
  (match tg T p.sT,tg T p.yT,tg T p.t2,tg T p.eT,tg T p.t3 with
   | some I,some h,some i,some n,some t=>
    (match I.sl,h.sl,i.sl with
     | some e,some _,some x=>
      (match tg T e with
       | some J=>
        (match J.ze with
         | some z=>
          if 0<J.sz/\0<J.by_/\z.one=true/\z.cells.length=J.sz/\x=e/\n.sz=J.sz/\t.sz=1/\y.cells.length=J.sz/\(Ak [] l p.zz).V.one=true/\(Ak [] l p.zz).V.cells.length=J.sz then
           E.need (m=Bk9 xs) λ_=>
           E.appn J.sz J.by_ H tl xs [(Ak [] l p.zz).V] λr H'=>E.storeP H' g a 1 [r] λb=>Tm E T nt A ops (ops.toList.drop (k+4)) ((p.tI,.v .bad)::(p.tA,.v r)::l) b K
          else False
         |none=>False)
       |none=>False)
     |_,_,_=>False)
   |_,_,_,_,_=>False)
 |_,_,_,_=>False
def Bs4 (k:Nat)(ops:za1 Oper)(l:Fl)(H:A6)(K:Fl->A6->Prop):Prop:=
 match Bd6 nt k ops with
 |some p=>xdB E T nt A [] ops (ops.toList.take k) l [] none [] none H λa pv pe tk=>(match pv,pe,tk with|[],none,[]=>Bp6 E T nt A k p ops a H K|_,_,_=>False)
 |none=>False
end
section
variable {P:Program}{nt:Nat}{rd:Option Nat}{T:JI}{A:Nat->Bool}{df:List Nat}
def Ap7 (g:Nk P T) {k:Nat} {ops:za1 Oper} {l:Fl} {H:A6} {K:Fl->A6->Prop} {id:Nat} (hm:P.follows .mixedOrders=true) (i:RD ops k=true)
 (h:Bs4 (J3 P nt rd) T nt A k ops l H K):Br P nt rd (.region id ops true) (J9 ⟨l,df⟩) H λe fr H'=>e= .normal/\∃a,fr=J9 ⟨a,df⟩/\K a H':=by
 unfold Bs4 at h
 split at h
 ·rename_i p n;have hp:=Bd5 (Wh i).1 n;refine Br.appF (A:=A) hm i hp ?_
  have e0:(λ_=>none:Pv)=Cm [] none [] none:=by funext x;cases x<;>rfl
  rw[e0];refine Ks (λfr pv ⟨a,pl,ac,ad,ab,w,e2,e4,e3,h⟩=>?_) _ _ _ (Ek (df:=df) g _ _ _ _ _ _ h);cases e4 rfl;subst w;subst e2
  split at h
  ·refine ⟨λx=>by cases x<;>rfl,?_⟩
   unfold Bp6 at h
   split at h
   ·rename_i xs tl y0 u kk m f y M S R d
    split at h
    ·rename_i I I2 I3 I4 I5 O h2 h3 s h5
     split at h
     ·rename_i e e2 aa q1 q2 q3
      split at h
      ·rename_i J V
       split at h
       ·rename_i z hz
        have N:=(I7 g V).ze;rw[hz]at N;simp only[Ef]at N
        split at h
        ·rename_i X;have⟨c1,c2,c3,c4,c5,c6,c7,c8,c9,c10⟩:=X;have⟨c,b,v,D,G,U,Y,a5,a6,a7,a8⟩:=h;have C:∀x,(Ak [] a x).V=ev (J9 ⟨a,df⟩) x:=λx=>HA Nr.nil x
         rw[C]at M S R c9 c10
         rw[C]at G
         obtain⟨vV,rfl,hle⟩:∃vV,v=[vV]/\DK (ev (J9 ⟨a,df⟩) p.zz) vV:=by
          cases G with
          |cons q r=>cases r;exact⟨_,rfl,q⟩
         have B:=D.length
         refine⟨b,tl,u,y0,vV,z,kk,e,J.sz,J.by_,f,y,by rw[M];exact .slt _ D,S,c8,by rw[R,c,Bk8,B],hle,hle.one c9,by rw[<-hle.cells.length];exact c10,
          (I7 g O).sl.trans q1,by rw[(I7 g h2).sl,q2];rfl,by rw[(I7 g h3).sl,q3,c5],(I7 g V).sz,by rw[(I7 g s).sz,c6],c1,(I7 g V).by_,c2,N,c3,c4,U,Y,by simpa using a6,
          Oz a p.tp _ d (λ_ _ _ h=>by cases h),by rw[(I7 g h5).sz,c7],λt j=>?_⟩
         have⟨cs,g1,g2,g3⟩:=a8 t za4 j;refine⟨cs,g1,GY g2,?_⟩;have:=IT (df:=df) g _ _ _ g3
         have ef:J9 ⟨(p.tI,.v .bad)::(p.tA,.v (.sl (b++[vV]) (.tok t)))::a,df⟩=((J9 ⟨a,df⟩).put (some p.tA) (.sl (b++[vV]) (.tok t))).put (some p.tI) .bad:=by
          have w:=S1 (df:=df) ((p.tA,.v (.sl (b++[vV]) (.tok t)))::a) (some p.tI) (.v .bad);have e2:=S1 (df:=df) a (some p.tA) (.v (.sl (b++[vV]) (.tok t)))
          simp only[Gk]at w e2
          rw[w,e2];rfl
         rw[ef]at this
         exact Sq (λfr H' ⟨o,e,W⟩=>⟨rfl,o,e,W⟩) _ _ _ this
        exact h.elim
       exact h.elim
      exact h.elim
     exact h.elim
    exact h.elim
   exact h.elim
  exact h.elim
 exact h.elim
end
end Go.Ab
namespace Go.Ab
open Go.RowKit
variable [P3]
section
variable (P:Program)(A:WL)(nt:Nat)(ops:Array Oper)
def Bp9 (o:Oper) (fr:Fr) (H:A6) (K:Fr->A6->Prop):Prop:=
 Jt nt o.dst=true/\
  match Du ops fr o with
  |some true=>KD P A o (ev fr) H λv H'=>K (fr.put o.dst v) H'
  |some false=>K (fr.put o.dst (.tup [])) H
  |none=>False
def An9:Nat->za1 Bool->Fr->A6->(Fr->A6->Prop)->Prop
 |0,a,fr,H,K=>Region.ready .any ops a=[]/\K fr H
 | n +1,a,fr,H,K=>(Region.ready .any ops a=[]->K fr H)/\
     ∀i∈Region.ready .any ops a,Bp9 P A nt ops (ops.getD i default) fr H λb H'=>An9 n (a.setIfInBounds i true) b H' K
end
section
variable {P:Program}{nt:Nat}{ops:Array Oper}{A:WL}{r:Option Nat}{K:Fr->A6->Prop}{Q:Exit->Act->World->Prop}{g0:Gh}{w0:World}
def AG2 (y:∀g w a fr H,Aw g0 w0 g w->Rl g H w->FR nt g w a fr->K fr H->Q .normal a w):
 ∀(n:Nat) (b:za1 Bool) (fr:Fr) (H:A6),An9 P A nt ops n b fr H K->
  ∀g w a,Aw g0 w0 g w->Rl g H w->FR nt g w a fr->wpAnyIn (Fw r) 0 P .any ops Q n b a w
 |0,b,fr,H,h,g,w,a,s,t,k=>⟨h.1,y g w a fr H s t k h.2⟩
 |n+1,b,fr,H,h,g,w,a,s,t,k=>by
  refine⟨λe=>y g w a fr H s t k (h.1 e),λi U=>?_⟩;obtain⟨O,_,_⟩:=FL U;have C:=h.2 i U
  have d:ops.getD i default=ops[i]:=by simp[Array.getD,O]
  rw[d]at C
  obtain⟨hd,C⟩:=C;have ih:=AG2 y n (b.setIfInBounds i true);simp only[wpOpIn,Dd O]
  split at C
  ·rename_i V;rw[A2 (Bm k.s V)];exact Xn t k hd C λg' w' c v H' j N x f=>ih _ _ f g' w' c (s.trans j) N x
  ·rename_i V;rw[A1 (by rw[Bm k.s V];simp)];exact⟨λ_ _=>trivial,ih _ _ C g w _ s t (k.put (HC hd) (VR.und _ _))⟩
  exact C.elim
def MZ.all {rd:OS Nat} {fr:Fr} {H0:A6} {Q:Exit->Fr->A6->Prop} (h:An9 P A nt ops ops.size (Array.replicate ops.size false) fr H0 (Q .normal)):MZ P nt rd ops fr H0 Q:=by
 intro r g w a _ i c;have k:Aw g w g w.drew:=⟨λ_ _ e=>e,λ_ _ e=>e,λ_ _ e=>e,rfl,λ_ _ _=>rfl,(Bc _ _).drew,λ_ _ _=>rfl,GM _⟩
 have N:Rl g H0 w.drew:=by
  refine⟨λid b V=>(i.blk id b V).mono V k λ_ _=>⟨rfl,λ_ z=>z⟩,i.inj,i.frz,i.nxt,i.bnd,λn=>(i.glb n).mono k⟩
 exact AG2 (r:=r) (g0:=g) (w0:=w) (λg' w' j t H' f y x d=>⟨g',t,H',f,y,x,d⟩) _ _ fr H0 h g w.drew a k N (c.mono k)
end
end Go.Ab
namespace Go.Ab
open Go.RowKit
variable [P3][Ar]
def Bw5:Up Nat->(Nat->Prop)->Prop
 |[],_=>True
 |[i],f=>f i
 |i::l,f=>f i/\Bw5 l f
def An8:∀{l:Up Nat} {f:Nat->Prop},Bw5 l f->∀i∈l,f i
 |[],_,_,i,h=>by cases h
 |[a],f,h,i,U=>by rw[List.mem_singleton.1 U];exact h
 |a::b::l,f,h,i,U=>by
  rcases List.mem_cons.1 U with rfl|U
  ·exact h.1
  exact An8 h.2 i U
section
variable (E:Hj)(T:JI)(nt:Nat)(A:Nat->Bool)(ops:Array Oper)
def Bp1 (o:Oper)(l:Fl)(H:A6)(K:Fl->A6->Prop):Prop:=
 match Jt nt o.dst with
 |true=>JV E ops o 4 l (λG a wr=>xop E T A G o a H λs H'=>K (Gk o.dst (wr s) a) H') λa=>K (Gk o.dst (.v (.tup [])) a) H
 |false=>False
end
section
variable {P:Program}{nt:Nat}{rd:Option Nat}{T:JI}{A:Nat->Bool}{df:List Nat}
end
end Go.Ab
namespace Go.Ab
open Go.RowKit
variable [P3]
section
variable {P:Program}
def AL3 {A:WL} {o:Oper} {i ρ':By->V} {H:A6} {K:V->A6->Prop} (a:∀x∈o.op.operands,i x=ρ' x) (h:KD P A o i H K):KD P A o ρ' H K:=by
 have j:∀{v},QN P o i H v->QN P o ρ' H v:=Ss a
 unfold KD at h ⊢
 cases z:o.op<;>simp only[z]at h ⊢ a<;>first
  |exact h
  |(have⟨v,O,N⟩:=h;exact⟨v,j O,N⟩)
  | (simp only[Op.operands,IF,Fa,Cq,or_false,forall_eq_or_imp,forall_eq]at a
     first
      |(rw[<-a];exact h)
      |(rw[<-a.1,<-a.2];exact h)
      |(rw[<-a.1,<-a.2.1,<-a.2.2];exact h))
  |skip
 ·rename_i t n k
  have e:k.toList.map (λp=>(p.1,i p.2))=k.toList.map (λp=>(p.1,ρ' p.2)):=Bt λp d=>by rw[a p.2 (by simp only[Op.operands,IF,DF];grind)]
  rw[<-e]
  grind
 ·rename_i m t x y _;rw[<-a x (by simp[Op.operands]),<-a y (by simp[Op.operands])]
  grind
 rename_i c;have g:c.args.toList.map i=c.args.toList.map ρ':=Bt λp d=>a p (by simp only[Op.operands,Call.operands,KT];simp_all);rw[<-g]
 cases X:c.callee with
 |value f=>
  simp only[X]at h ⊢
  rw[<-a f (by simp[Op.operands,Call.operands,X])];exact h
 |builtin b=>rw[X]at h;cases b<;>exact h
 |_=>rw[X]at h;exact h.elim
def Sg:Op->Bool
 | .move _=>true
 | .assign _=>true
 | .pick _ _ _=>true
 | .build _ _=>true
 | .binOp _ _ _ _ _=>true
 | .unOp _ _ _=>true
 | .fieldAddr _ _ _=>true
 | .field _ _ _=>true
 | .extract _ _=>true
 | .load _ _=>true
 | .call c=>match c.callee with| .builtin .len=>true|_=>false
 |_=>false
def AV8 {A:WL}{o:Oper}{a:By->V}{H:A6}{K:V->A6->Prop}{v:V}(C:Sg o.op=true)(h:QN P o a H v)(W:K v H):KD P A o a H K:=by
 grind[KD,Sg,QN]
variable {A:WL}{nt:Nat}{ops:Array Oper}
def VW (ops:za1 Oper)(i:Nat):Bool:=
 Sg (ops.getD i default).op&&(ops.getD i default).guard.isNone&&(List.range ops.size).all λj=>j==i||HB (ops.getD j default) i||HB (ops.getD i default) j||(ops.getD i default).apart ops (ops.getD j default)
theorem AP6 {i:Nat} (U:i<ops.size) (o:VW ops i=true) (g:Jt nt (ops.getD i default).dst=true) {K:Fr->A6->Prop} {v:V}:∀(n:Nat) (a:za1 Bool) (fr:Fr) (H:A6),i∈Region.ready .any ops a->(∀H',QN P (ops.getD i default) (ev fr) H' v)->
 An9 P A nt ops n (a.setIfInBounds i true) (fr.put (ops.getD i default).dst v) H K->An9 P A nt ops (n+1) a fr H K:=by
 simp only[VW,K0,ET,CX,BE,EY]at o
 have⟨⟨c,d⟩,N⟩:=o
 have d:(ops.getD i default).guard=none:=by simpa using d
 have first:∀(fr:Fr) (H:A6) (K':Fr->A6->Prop),(∀H',QN P (ops.getD i default) (ev fr) H' v)->K' (fr.put (ops.getD i default).dst v) H->Bp9 P A nt ops (ops.getD i default) fr H K':=λfr H K' t W=>by
  refine⟨g,?_⟩
  have:Du ops fr (ops.getD i default)=some true:=by simp_all[Du]
  rw[this];exact AV8 c (t H) W
 intro n
 induction n with
 |zero=>
  intro a fr H f t h;refine⟨λe=>(by rw[e]at f;cases f),λj k=>?_⟩
  by_cases b:j=i
  ·simp_all
  have:=Go.ready_mono k b
  rw[h.1]at this;cases this
 | succ n ih=>
  intro a fr H f t h;refine⟨λe=>(by rw[e]at f;cases f),λj k=>?_⟩
  by_cases b:j=i
  ·simp_all
  have O:=h.2 j (Go.ready_mono k b);have⟨z,w,s⟩:=FL k;have⟨_,q,_⟩:=FL f
  have y:(ops.getD i default).apart ops (ops.getD j default)=true:=by
   grind
  have⟨m,D,G⟩:=Oper.apart_spec y
  have B:∀(u:V) (H':A6),An9 P A nt ops n ((a.setIfInBounds i true).setIfInBounds j true) ((fr.put (ops.getD i default).dst v).put (ops.getD j default).dst u) H' K->An9 P A nt ops (n+1) (a.setIfInBounds j true) (fr.put (ops.getD j default).dst u) H' K:=λu H' W=>by
   refine ih _ _ _ (Go.ready_mono f λe=>b e.symm) (λp=>Ss (λx M=>(Oy G x M).symm) (t p)) ?_;rw[Array.setIfInBounds_comm _ _ b,<-Af7 D];exact W
  have⟨hd,C⟩:=O;refine⟨hd,?_⟩
  rw[TF m]at C
  split at C
  ·exact Ov (AL3 (Oy m) C) λu H' W=>B u H' W
  ·grind
  omega
end
end Go.Ab
namespace Go.Ab
open Go.RowKit
variable [P3][Ar]
def Av3:Up Nat->Nat->Bool
 |[],_=>false
 |a::l,n=>match n==a with|true=>true|false=>Av3 l n
def Aj3:∀{l:Up Nat} {n:Nat},Av3 l n=true->n∈l
 |[],_,h=>by cases h
 |a::l,n,h=>by
  unfold Av3 at h
  cases e:n==a with
  |true=>rw[beq_iff_eq.1 e];simp
  |false=>rw[e]at h;exact Gw _ (Aj3 h)
section
variable (E:Hj)(T:JI)(nt:Nat)(A:Nat->Bool)(ops:Array Oper)(fl:List Nat)
def Um (o:Oper)(l:Fl):Bool:=
 match o.op with
 | .load _ x=>(match Ak [] l x with| .v (.eref _ _)=>true|_=>false)
 |_=>true
def Mq (l:Fl):Up Nat->OS Nat
 |[]=>none
 |i::r=>match Av3 fl i with
  |true=>(match Um (ops.getD i default) l with|true=>some i|false=>Mq l r)
  |false=>Mq l r
def Xm:Nat->za1 Bool->Fl->A6->(Fl->A6->Prop)->Prop
 |0,a,l,H,K=>match Region.ready .any ops a with|[]=>K l H|_::_=>False
 | n +1,a,l,H,K=>
  match Region.ready .any ops a with
  |[]=>K l H
  | i::r=>
   match Mq ops fl l (i::r)with
   | some j=>
    (match Jt nt (ops.getD j default).dst with
     |true=>xq E T [] (ops.getD j default) l H λs=>Xm n (a.setIfInBounds j true) (Gk (ops.getD j default).dst (Sl.n s) l) H K
     |false=>False)
   |none=>Bw5 (i::r) λi=>Bp1 E T nt A ops (ops.getD i default) l H λb H'=>Xm n (a.setIfInBounds i true) b H' K
end
def Km {ops:za1 Oper} {fl:Up Nat} {l:Fl} {j:Nat}:∀{r:Up Nat},Mq ops fl l r=some j->j∈r/\Av3 fl j=true/\Um (ops.getD j default) l=true
 |[],h=>by cases h
 | i::r,h=>by
  unfold Mq at h
  cases O:Av3 fl i with
  |true=>
   rw[O]at h
   cases a:Um (ops.getD i default) l with
   |true=>rw[a]at h;simp_all
   |false=>rw[a]at h;have:=Km h;simp_all
  |false=>rw[O]at h;have:=Km h;simp_all
section
variable {P:Program}{nt:Nat}{rd:Option Nat}{T:JI}{A:Nat->Bool}{df:List Nat}
theorem AL1 {o:Oper} {i:By->V} {H:A6} {v:V} (C:Sg o.op=true) (B:∀t x,o.op= .load t x->∃cs off,i x= .eref cs off) (h:QN P o i H v) (H':A6):QN P o i H' v:=by
 unfold QN at h ⊢
 cases z:o.op<;>simp only[z,Sg,L6]at C h ⊢ <;>first
  |exact h
  |skip
 ·rename_i t x;have⟨cs,off,e⟩:=B t x z
  rw[e]at h ⊢
  rcases h with h|h
  ·left
   unfold LF at h ⊢
   grind
  simp_all[PW]
 rename_i c
 cases a:c.callee with
 | builtin b=>
  rw[a]at C h
  cases b with
  | len=>
   have h:FE P .len c.argTypes.toList (c.args.toList.map i) v\/Qx P H .len c.argTypes.toList (c.args.toList.map i) v:=h
   have k:∀(g:Up Do) (vs:Up V),Qx P H .len g vs v->Qx P H' .len g vs v:=λg vs h=>by
    rcases g with _|⟨t,_|⟨n,g⟩⟩<;>rcases vs with _|⟨x,_|⟨y,vs⟩⟩<;>first
     |exact h
     |exact h.elim
   grind
  |_=>cases C
 |_=>rw[a]at C;cases C
def IU (k:Nk P T) {ops:za1 Oper} {fl:Up Nat} (b:∀i,Av3 fl i=true->VW ops i=true) {K:Fl->A6->Prop}:∀(n:Nat) (a:za1 Bool) (l:Fl) (H:A6),Xm (J3 P nt rd) T nt A ops fl n a l H K->An9 P A nt ops n a (J9 ⟨l,df⟩) H λfr H'=>∃y,fr=J9 ⟨y,df⟩/\K y H'
 |0,a,l,H,h=>by
  unfold Xm at h
  split at h
  ·rename_i e;exact⟨e,l,rfl,h⟩
  grind
 | n +1,a,l,H,h=>by
  unfold Xm at h
  split at h
  ·rename_i e;exact⟨λ_=>⟨l,rfl,h⟩,λi U=>by rw[e]at U;cases U⟩
  rename_i i0 J e
  split at h
  ·rename_i j u;have⟨j1,j2,j3⟩:=Km u
   rw[<-e]at j1
   have⟨I,_,_⟩:=FL j1;have o:=b j j2
   split at h
   ·rename_i hd;have⟨s,D,W⟩:=QO (df:=df) k Nr.nil h
    have p:Sg (ops.getD j default).op=true:=by
     have:=o
     simp_all[VW]
    have w:∀t x,(ops.getD j default).op= .load t x->∃cs off,ev (J9 ⟨l,df⟩) x= .eref cs off:=λt x z=>by
     unfold Um at j3
     rw[z]at j3
     dsimp only at j3
     split at j3
     ·rename_i cs off Y;exact⟨cs,off,by rw[<-HA (df:=df) Nr.nil x,Y];rfl⟩
     cases j3
    have g:=IU k b n _ _ _ W
    rw[S1]at g
    have q:slV l (Sl.n s)=s.V:=by cases s<;>rfl
    rw[q]at g
    grind[AP6,AL1]
   grind
  refine⟨(λc=>by rw[e]at c;cases c),λi U=>?_⟩
  rw[e]at U
  have h:=An8 h i U
  unfold Bp1 at h
  split at h
  ·rename_i hd;refine⟨hd,?_⟩;have⟨y,e,h⟩:=Hl (df:=df) 4 l h
   have e:J9 ⟨y,df⟩=J9 ⟨l,df⟩:=by simp_all[J9]
   rcases h with⟨N,G,wr,m,V,h⟩|⟨N,h⟩
   ·rw[N];rw[<-e];refine Ov (Sa (df:=df) k m h) λv H' ⟨s,q,W⟩=>?_;subst q;rw[<-V s,<-S1];exact IU k b n _ _ _ W
   rw[N];rw[<-e]
   rcases h with h|⟨G,d,f,B,C,h⟩
   ·have:=IU k b n _ _ _ h
    rw[S1]at this
    exact this
   have⟨s,h⟩:=YA k B h;have:=IU k b n _ _ _ h
   rw[S1]at this
   simp_all[slV]
  grind
end
def Qu:Up Nat->Nat->Bool
 |[],_=>false
 |x::l,n=>match n==x with|true=>true|false=>Qu l n
def AN7:Up (Nat×Nat)->Nat->Nat
 |[],_=>0
 |(x,y)::l,n=>match Nat.beq n x with|true=>y|false=>AN7 l n
def Zt:Up (Nat×Nat)->Nat->Up Nat
 |[],_=>[]
 |(x,y)::l,n=>match n==x with|true=>y::Zt l n|false=>Zt l n
structure Cf where
 A:List Nat
 hk:List (Nat×Nat)
 J:List (Nat×Nat)
 JB:List Nat
 Z:List (Nat×Nat)
 W:List (Nat×Nat×List Nat)
def wAt:Up (Nat×Nat×Up Nat)->Nat->OS (Nat×Up Nat)
 |[],_=>none
 |(q,d)::l,n=>match Nat.beq n q with|true=>some d|false=>wAt l n
def zAt:Up (Nat×Nat)->Nat->Up Nat
 |[],_=>[]
 |(q,d)::l,n=>match n==q with|true=>d::zAt l n|false=>zAt l n
def Bs1:Up (Nat×Nat)->Nat->Up Nat
 |[],_=>[]
 |(q,d)::l,n=>match n==q with|true=>d::Bs1 l n|false=>Bs1 l n
def memP:Up (Nat×Nat)->Nat->Nat->Bool
 |[],_,_=>false
 |(x,y)::l,a,b=>match Nat.beq a x&&Nat.beq b y with|true=>true|false=>memP l a b
def Xc:Code->Nat
 | .region id _ _=>id+1
 | .seq a b=>(match Xc a with|0=>Xc b|n+1=>n+1)
 | .cond _ a b=>(match Xc a with|0=>Xc b|n+1=>n+1)
 | .block _ c=>Xc c
 | .loop c=>Xc c
 | .rangeFunc _ _ a b=>(match Xc a with|0=>Xc b|n+1=>n+1)
 |_=>0
def N8 (cf:Cf):Code->Bool
 | .seq a b=>N8 cf a&&N8 cf b
 | .cond _ a b=>N8 cf a&&N8 cf b
 | .block _ c=>N8 cf c
 | .loop c=>N8 cf c
 | .rangeFunc _ _ a b=>N8 cf a&&N8 cf b
 | .region id ops true=>match Qu cf.JB (id+2000000)with|true=>(Zt cf.hk (id+3000000)).all (VW ops)|false=>match Qu cf.JB (id+1000000)with|true=>RD ops (AN7 cf.hk id)|false=>Wi ops (AN7 cf.hk id)&&decide (Jk (ops.toList.take (AN7 cf.hk id))).Nodup
 |_=>true
section
variable (E:Hj)(T:JI)(nt:Nat)(cf:Cf)
def AF2 (c:By) (a:St) (b e:St->Prop):Prop:=
 match Ak [] a.l c with
 | .b true=>b a
 | .b false=>e a
 | .v (.bool t)=>
  (match c with
   | .tmp d=>E.br t (λ_=>b ⟨Sh a.l d true,a.df⟩) (λ_=>e ⟨Sh a.l d false,a.df⟩)
   |_=>E.br t (λ_=>b a) (λ_=>e a))
 |_=>False
def ZN (id:Nat)(K:Exit->St->A6->Prop)(e:Exit)(a:St)(H':A6):Prop:=
 match e with
 | .exit b=>(match Nat.beq b id with|true=>K .normal a H'|false=>K (.exit b) a H')
 |e=>K e a H'
def BB5 (c:By)(a b:Code):Bool:=
 match c with
 | .tmp d=>memP cf.J d (match Xc a with|0=>Xc b|n+1=>n+1)
 |_=>false
def run:Code->St->A6->(Exit->St->A6->Prop)->Prop
 | .skip,g,H,K=>K .normal g H
 | .ret,g,H,K=>K .ret g H
 | .exit id,g,H,K=>K (.exit id) g H
 | .seq a b,g,H,K=>run a g H λe i H'=>match e with| .normal=>run b i H' K|e=>K e i H'
 | .cond c a b,g,H,K=>
  (match BB5 cf c a b with
   |true=>E.sim (.cond c a b) g H K
   |false=>AF2 E c g (λg=>run a g H K) (λg=>run b g H K))
 | .block id c,g,H,K=>
  (match Qu cf.JB id with
   |true=>E.sim (.block id c) g H K
   |false=>run c g H (ZN id K))
 | .region _ ops false,g,H,K=>QP E T nt (Qu cf.A) (zAt cf.Z) ops ops.toList g.l H λh H'=>K .normal ⟨h,g.df⟩ H'
 | .region id ops true,g,H,K=>
  (match Qu cf.JB (id+2000000)with
   |true=>E.sim (.region id ops true) g H K
   | false=>
    (match Qu cf.JB (id+1000000)with
     |true=>Bs4 E T nt (Qu cf.A) (AN7 cf.hk id) ops g.l H λh H'=>K .normal ⟨h,g.df⟩ H'
     |false=>QQ E none (Bs1 cf.Z (id+400000000)) g.l H λl H=>AR0 E T nt (Qu cf.A) (wAt cf.W id) (AN7 cf.hk id) ops l H λh H'=>K .normal ⟨h,g.df⟩ H'))
 |c,g,H,K=>E.sim c g H K
def AU3:Code->St->A6->(Exit->St->A6->Prop)->Prop
 | .cond c a b,e,H,K=>AF2 E c e (λe=>run E T nt cf a e H K) (λe=>run E T nt cf b e H K)
 | .block id c,e,H,K=>run E T nt cf c e H (ZN id K)
 | .region id ops true,e,H,K=>
  (match Qu cf.JB (id+2000000)with
   |true=>Xm E T nt (Qu cf.A) ops (Zt cf.hk (id+3000000)) ops.size (Array.replicate ops.size false) e.l H λg H'=>K .normal ⟨g,e.df⟩ H'
   |false=>run E T nt cf (.region id ops true) e H K)
 |c,e,H,K=>run E T nt cf c e H K
end
section
variable {P:Program}{nt:Nat}{rd:Option Nat}{T:JI}{cf:Cf}
def Br.frLe {c:Code}{fr:Fr}{a:St}{H:A6}{Q:Exit->Fr->A6->Prop}(o:Iq fr a)(h:Br P nt rd c (J9 a) H Q):Br P nt rd c fr H Q:=
 h.less o.s o.df.symm λ_ _ h=>h
theorem Iq.refl (st:St):Iq (J9 st) st:=⟨λ_=>Wk.refl _,rfl⟩
def Br.of_frz {c:Code} {ds:Up Nat} {e:St} {H:A6} {Q:Exit->Fr->A6->Prop} {k:Fl->A6->Prop} (h:QQ (J3 P nt rd) none ds e.l H k) (W:∀b H',k b H'->Br P nt rd c (J9 ⟨b,e.df⟩) H' Q):Br P nt rd c (J9 e) H Q:=
 λr g w a f y x=>by
  obtain⟨g',b,H',s,n,i,t⟩:=DV none ds e.l H g k (λ_ _ _ _ h=>by cases h) y x h;exact wpIn_mono (W b H' t r g' w a (AP8.mono f s) n i) λ_ _ _=>Yx.later s
theorem TS {c:By} {a b:Code} {i:St} {H:A6} {Q:Exit->Fr->A6->Prop} {N V:St->Prop} (h:AF2 (J3 P nt rd) c i N V) (x:∀g,J9 g=J9 i->N g->Br P nt rd a (J9 g) H Q) (y:∀g,J9 g=J9 i->V g->Br P nt rd b (J9 g) H Q):Br P nt rd (.cond c a b) (J9 i) H Q:=by
 have k:ev (J9 i) c=(Ak [] i.l c).V:=(HA (df:=i.df) Nr.nil c).symm
 unfold AF2 at h
 split at h
 ·rename_i Y;exact Br.cond (t:=true) (by rw[k,Y];rfl) (λ_=>x i rfl h) (λe=>by cases e)
 ·rename_i Y;exact Br.cond (t:=false) (by rw[k,Y];rfl) (λe=>by cases e) (λ_=>y i rfl h)
 ·rename_i t Y
  split at h
  ·rename_i d
   have f:EQ i.l d= .bool t:=by
    have:=AB1 (l:=i.l) Nr.nil d
    rw[show Bi5 [] i.l d= .v (.bool t)from Y]at this
    exact this.symm
   obtain⟨O,n⟩:=h;refine Br.cond (t:=t) (by rw[k,Y];rfl) (λe=>?_) (λe=>?_)
   ·grind[J9,SF]
   grind[J9,SF]
  obtain⟨O,n⟩:=h;exact Br.cond (t:=t) (by rw[k,Y];rfl) (λe=>x i rfl (O e)) (λe=>y i rfl (n e))
 grind
theorem T5 (y:Nk P T) (N:P.follows .mixedOrders=true):∀(c:Code) (k:St) (H:A6) (K:Exit->St->A6->Prop),N8 cf c=true->run (J3 P nt rd) T nt cf c k H K->Br P nt rd c (J9 k) H λe n H'=>∃i,Iq n i/\K e i H'
 | .skip,k,H,K,hd,h=>Br.skip ⟨k,Iq.refl _,h⟩
 | .ret,k,H,K,hd,h=>Br.ret ⟨k,Iq.refl _,h⟩
 | .exit id,k,H,K,hd,h=>Br.exit ⟨k,Iq.refl _,h⟩
 | .seq a b,k,H,K,hd,h=>by
  simp only[N8,K0]at hd
  refine Br.seq ((T5 y N a k H _ hd.1 h).mono λe n H' ⟨i,o,W⟩=>?_)
  cases e with
  |normal=>exact Br.frLe o (T5 y N b i H' K hd.2 W)
  |_=>exact⟨i,o,W⟩
 | .cond c a b,k,H,K,hd,h=>by
  simp only[N8,K0]at hd
  unfold run at h
  split at h
  ·exact h
  exact TS h (λi _ h=>T5 y N a i H K hd.1 h) (λi _ h=>T5 y N b i H K hd.2 h)
 | .block id c,k,H,K,hd,h=>by
  unfold run at h
  split at h
  ·exact h
  refine Br.block ((T5 y N c k H _ hd h).mono λe n H' ⟨i,o,W⟩=>?_)
  cases e with
  |exit q=>
   unfold ZN at W
   dsimp only at W ⊢
   split at W
   ·rename_i e;rw[A2 (DS e)];grind
   rename_i e;rw[A1 (λx=>za8)];grind
  |_=>exact⟨i,o,W⟩
 | .region id ops false,k,H,K,hd,h=>by
  unfold run at h
  intro r g w a f j d;refine wpIn_region ?_
  have:=Ap1 (P:=P) (nt:=nt) (rd:=rd) (T:=T) (A:=Qu cf.A) (Z:=zAt cf.Z) (df:=k.df) y (ops:=ops) (r:=r) (K:=λV H'=>K .normal ⟨V,k.df⟩ H') (Q:=Yx nt g w λe n H'=>∃i,Iq n i/\K e i H') (g0:=g) (w0:=w)
   (λg' w' v V H' s j d p=>⟨g',_,H',s,j,d,⟨V,k.df⟩,Iq.refl _,p⟩) ops.size 0 k.l H za2 za7 g w a (Aw.refl _ _) j d
  rwa[<-IN]at this
 | .region id ops true,k,H,K,hd,h=>by
  cases t:Qu cf.JB (id+2000000)with
  |true=>
   unfold run at h
   rw[t]at h
   exact h
  |false=>
  cases u:Qu cf.JB (id+1000000)with
  |true=>
   simp only[N8,t,u]at hd
   unfold run at h
   rw[t]at h
   simp only[u]at h
   refine(Ap7 (df:=k.df) y N hd h).mono λe fr H' ⟨Y,V,m,W⟩=>?_
   grind[Iq.refl]
  |false=>
   simp only[N8,t,u,K0,H5]at hd
   unfold run at h
   rw[t]at h
   simp only[u]at h
   refine Br.of_frz h λl1 G h=>?_;refine(Br.of_any N (AG7 (df:=k.df) y hd.1 hd.2 h)).mono λe fr H' ⟨Y,V,m,W⟩=>?_
   grind[Iq.refl]
 | .loop c,k,H,K,hd,h=>h
 | .rangeFunc g z a b,k,H,K,hd,h=>h
 | .scope c,k,H,K,hd,h=>h
 | .label l,k,H,K,hd,h=>h
 | .goto l,k,H,K,hd,h=>h
 | .refuse w,k,H,K,hd,h=>h
def Ar9 (t:Nk P T) (N:P.follows .mixedOrders=true):∀(c:Code) (k:St) (H:A6) (K:Exit->St->A6->Prop),N8 cf c=true->AU3 (J3 P nt rd) T nt cf c k H K->Br P nt rd c (J9 k) H λe V H'=>∃n,Iq V n/\K e n H'
 | .cond c a b,k,H,K,hd,h=>by
  simp only[N8,K0]at hd
  grind[AU3,TS,T5]
 | .block id c,k,H,K,hd,h=>by
  unfold AU3 at h
  refine Br.block ((T5 t N c k H _ hd h).mono λe V H' ⟨n,o,W⟩=>?_)
  cases e with
  |exit j=>
   unfold ZN at W
   dsimp only at W ⊢
   split at W
   ·rename_i e;rw[A2 (DS e)];grind
   rename_i e;rw[A1 (λx=>za8)];grind
  |_=>exact⟨n,o,W⟩
 | .skip,k,H,K,hd,h=>T5 t N _ k H K hd h
 | .ret,k,H,K,hd,h=>T5 t N _ k H K hd h
 | .exit id,k,H,K,hd,h=>T5 t N _ k H K hd h
 | .seq a b,k,H,K,hd,h=>T5 t N _ k H K hd h
 | .region id ops false,k,H,K,hd,h=>T5 t N _ k H K hd h
 | .region id ops true,k,H,K,hd,h=>by
  unfold AU3 at h
  dsimp only at h
  cases y:Qu cf.JB (id+2000000)with
  |false=>rw[y]at h;grind[T5]
  |true=>
   rw[y]at h
   simp only[N8,y]at hd
   have f:=IU (df:=k.df) t (λi U=>List.all_eq_true.1 hd i (Aj3 U)) _ _ _ _ h;refine(Br.of_any N (MZ.all (Q:=λe fr H'=>match e with| .normal=>∃d,fr=J9 ⟨d,k.df⟩/\K .normal ⟨d,k.df⟩ H'|_=>False) f)).mono λe fr H' m=>?_
   grind[Iq.refl]
 | .loop c,k,H,K,hd,h=>h
 | .rangeFunc g p a b,k,H,K,hd,h=>h
 | .scope c,k,H,K,hd,h=>h
 | .label l,k,H,K,hd,h=>h
 | .goto l,k,H,K,hd,h=>h
 | .refuse w,k,H,K,hd,h=>h
def Ae7 (K:V->A6->Prop)(H:A6)(vs:Up V):Prop:=
 match vs with
 |[x]=>K x H
 |l=>K (.tup l) H
theorem Vg {K:V->A6->Prop}{H:A6}{vs:Up V}(h:Ae7 K H vs):K (TC vs) H:=by
 unfold Ae7 at h
 grind[TC]
def BC8 (v:V)(k:Up V->Prop)(vs:Up V):Prop:=k (v::vs)
def WW (E:Hj)(T:JI)(l:Fl)(H:A6):Up ResultVar->(Up V->Prop)->Prop
 |[],k=>k []
 | .tmp t::r,k=>WW E T l H r λvs=>BC8 (EQ l t) k vs
 | .cell a t::r,k=>(match EQ l a with| .elem _ _ _ _=>False|x=>Ay6 E T t x H λv=>WW E T l H r λvs=>k (v::vs))
def MD (e:Nk P T) {l:Fl} {H:A6} {df:Up Nat}:∀(g:Up ResultVar) (k:Up V->Prop),WW (J3 P nt rd) T l H g k->∃vs,EA P (J9 ⟨l,df⟩) H g=some vs/\k vs
 |[],k,h=>⟨[],rfl,h⟩
 | .tmp t::r,k,h=>by
  obtain⟨vs,O,b⟩:=MD (df:=df) e r _ h;exact⟨_,by grind[EA,J9],b⟩
 | .cell a t::r,k,h=>by
  unfold WW at h
  split at h
  ·exact h.elim
  rename_i x i;obtain⟨v,O,b⟩:=Oa e h
  have O:LF P H t (EQ l a)=some v:=O.elim (λh=>h) λh=>by
   simp_all[PW]
  obtain⟨vs,J,s⟩:=MD (df:=df) e r _ b
  simp_all[EA,J9]
def Br.post_le {c:Code}{fr:Fr}{H:A6}{K:Exit->St->A6->Prop}(h:Br P nt rd c fr H λe i H'=>∃b,Iq i b/\K e b H'):Br P nt rd c fr H λe i H'=>∃b,i=J9 b/\K e b H':=by
 intro r g w a f y x;refine wpIn_mono (h r g w a f y x) λe N w' ⟨g',i,H',s,n,k,b,hle,W⟩=>⟨g',J9 b,H',s,n,⟨k.size,λt=>hle.s t _ _ _ (k.s t),?_⟩,b,rfl,W⟩;have:=k.df
 rw[hle.df]at this
 exact this
def FA:Up V->Nat->Fl
 |[],_=>[]
 |v::l,i=>(i,.v v)::FA l (i+1)
def XN:∀(args:Up V) (i t:Nat),EQ (FA args i) t=if i<=t then args.getD (t-i) .bad else .bad
 |[],i,t=>by simp[EQ,FA]
 | v::l,i,t=>by
  simp only[FA,EQ]
  by_cases h:t=i
  ·simp_all
  have a:Nat.beq t i=false:=by
   cases a:Nat.beq t i with
   |false=>rfl
   |true=>simp_all
  simp only[a];rw[XN l (i+1) t]
  grind
def Bb0 (args:Up V):entry args=J9 ⟨FA args 0,[]⟩:=by
 simp_all[entry,J9,XN]
def SI (E:Hj)(T:JI)(b:Up ResultVar)(K:V->A6->Prop)(e:Exit)(a:St)(H:A6):Prop:=
 match e with
 | .normal=>(match a.df with|[]=>WW E T a.l H b λvs=>Ae7 K H vs|df=>E.fin df H λH'=>WW E T a.l H' b λvs=>Ae7 K H' vs)
 | .ret=>(match a.df with|[]=>WW E T a.l H b λvs=>Ae7 K H vs|df=>E.fin df H λH'=>WW E T a.l H' b λvs=>Ae7 K H' vs)
 |_=>False
theorem AO4 (i:Nk P T) {fn:Func} {K:V->A6->Prop} {e:Exit} {a:St} {H:A6} (h:SI (J3 P nt rd) T fn.results.toList K e a H):Ret P fn K e (J9 a) H:=by
 have key:∀(h:match a.df with|[]=>WW (J3 P nt rd) T a.l H fn.results.toList λvs=>Ae7 K H vs|df=>(J3 P nt rd).fin df H λH'=>WW (J3 P nt rd) T a.l H' fn.results.toList λvs=>Ae7 K H' vs),
  Bn1 H (J9 a).df/\∃l,EA P (J9 a) (clear H (J9 a).df) fn.results.toList=some l/\K (TC l) (clear H (J9 a).df):=by
  obtain⟨l,df⟩:=a;intro h
  cases df with
  |nil=>
   have b:clear H []=H:=by funext x;simp[clear]
   obtain⟨vs,O,g⟩:=MD (df:=[]) i _ _ h;refine⟨⟨by simp[J9],λid U=>by simp[J9]at U⟩,vs,?_,?_⟩
   ·simp_all[J9]
   show K _ (clear H [])
   rw[b];grind[Vg]
  |cons d ds=>
   obtain⟨hd,h⟩:=h;obtain⟨vs,O,g⟩:=MD (df:=d::ds) i _ _ h;exact⟨hd,vs,O,Vg g⟩
 cases e<;>first|exact h.elim|skip
 ·exact⟨.inl rfl,key h⟩
 exact⟨.inr rfl,key h⟩
def Bp {f:FuncId}{fn:Func}{c:Code}{n:Nat}{i:Up ResultVar}{args:Up V}{H:A6}{K:V->A6->Prop}(cf:Cf)(t:Nk P T)(N:P.follows .mixedOrders=true)(o:P.funcs[f]? =some fn)(x:fn.body=some c)(hd:N8 cf c=true)(a:∀vals w,(callFunc f vals).run P w= .ok (.enter f vals) w)
 (b:fn.ntmps=n) (g:fn.results.toList=i) (d:Nat.ble args.length n=true) (h:∀E:Hj,E=J3 P n none->run E T n cf c ⟨FA args 0,[]⟩ H (SI E T i K)):O7 P f args H K:=by
 subst b;subst g;refine Xi o x a (GY d) ?_;rw[Bb0];refine(Br.post_le (T5 t N c _ H _ hd (h _ rfl))).mono λe k H' ⟨j,y,m⟩=>?_
 grind[AO4]
end
def DK.wk {x y:V}(h:DK x y):Wk x y:=λ_ _ _ q=>q.le h
theorem Args.le {g:Gh}{w:Is}{vals:za1 HO}{xs ys:Up V}(h:Args g w vals xs)(k:M2 xs ys):Args g w vals ys:=
 ⟨h.1.trans k.length,λi U=>(h.2 i (k.length▸U)).le (k.at i)⟩
def O7.args {P:If}{f:FuncId}{xs ys:Up V}{H:A6}{K:V->A6->Prop}(h:O7 P f ys H K)(k:M2 xs ys):O7 P f xs H K:=
 λg w vals b a=>h g w vals b (a.le k)
def EN.args {P:If}{a:V}{xs ys:Up V}{H:A6}{K:V->A6->Prop}(h:EN P a ys H K)(k:M2 xs ys):EN P a xs H K:=
 λg w v vals e q b=>h g w v vals e q (b.le k)
def B8.args {P:If}{f:FuncId}{xs ys:Up V}{r:V}(h:B8 P f ys r)(k:M2 xs ys):B8 P f xs r:=λH=>(h H).args k
def Y6.args {P:If}{a:V}{xs ys:Up V}{r:V}(h:Y6 P a ys r)(k:M2 xs ys):Y6 P a xs r:=λH=>(h H).args k
def KA (H H':A6):Prop:=∀id b,H id=some b->H' id=some b
theorem KA.refl (H:A6):KA H H:=λ_ _ h=>h
def KA.trans {H H' H'':A6}(h:KA H H')(k:KA H' H''):KA H H'':=λid b e=>k id b (h id b e)
theorem O7.le {P:If}{f:FuncId}{args:Up V}{H:A6}{K:V->A6->Prop}(h:O7 P f args H λx H'=>∃y a,DK x y/\KA a H'/\K y a):O7 P f args H K:=
 λg w vals t i=>(h g w vals t i).mono λv w' ⟨g',x,H',s,b,q,y,a,e,k,n⟩=>⟨g',y,a,s,b.less k,q.le e,n⟩
inductive En where
 |tl (t:J8)
 |blk (id:Nat) (b:KB)
def En.id:En->OS (Nat×KB)
 | .tl (.tok t)=>some (t,.spare)
 | .tl _=>none
 | .blk id b=>some (id,b)
structure DD (H0:A6) (L:List En) (H:A6):Prop where
 ext:KA H0 H
 has:∀(i:Nat) e id b,L[i]? =some e->e.id=some (id,b)->H0 id=none/\H id=some b
 inj:∀(i j:Nat) e e' id b b',L[i]? =some e->L[j]? =some e'->e.id=some (id,b)->e'.id=some (id,b')->i=j
 only:∀x b,H x=some b->H0 x=some b\/∃(i:Nat) (e:En),L[i]? =some e/\e.id=some (x,b)
def DD.start (H:A6):DD H [] H:=⟨KA.refl H,λi e id b h=>by simp at h,λi j e a id b b' h=>by simp at h,λx b h=>.inl h⟩
def DD.free {H0 H:A6}{L:Up En}(h:DD H0 L H){id:Nat}(a:H id=none):H0 id=none:=by
 cases e:H0 id with
 |none=>rfl
 |some b=>rw[h.ext id b e]at a;cases a
theorem DD.tl0 {H0 H:A6} {L:Up En} (h:DD H0 L H) {t:J8} (n:(En.tl t).id=none):DD H0 (.tl t::L) H:=by
 refine⟨h.ext,λi e id b U Y=>?_,λi j e g id b b' U u Y a=>?_,λx b M=>(h.only x b M).imp (λh=>h) λ⟨i,e,O,k⟩=>⟨i+1,e,za7,k⟩⟩
 ·cases i with
  |zero=>simp_all
  |succ i=>exact h.has i e id b za7 Y
 cases i with
 |zero=>simp_all
 |succ i=>
  cases j with
  |zero=>simp_all
  |succ j=>rw[h.inj i j e g id b b' za7 za7 Y a]
def DD.push {H0 H:A6} {L:Up En} (h:DD H0 L H) {y:En} {id:Nat} {b:KB} (t:H id=none) (Y:y.id=some (id,b)):DD H0 (y::L) (upd H id (some b)):=by
 refine⟨λx g M=>?_,λi e x g U M=>?_,λi j e N x g k U u M a=>?_,λx g M=>?_⟩
 rotate_right
 ·by_cases n:x=id
  ·subst n;rw[G4]at M;cases M;exact .inr ⟨0,y,za4,Y⟩
  rw[D3 _ _ n]at M
  exact(h.only x g M).imp (λh=>h) λ⟨i,e,O,V⟩=>⟨i+1,e,za7,V⟩
 ·rw[D3 _ _ (Cw (h.free t) M)];exact h.ext x g M
 ·cases i with
  |zero=>simp at U;subst U;rw[Y]at M;cases M;exact⟨h.free t,G4 _ _ _⟩
  |succ i=>
   have:=h.has i e x g za7 M
   grind[upd]
 cases i with
 | zero=>
  cases j with
  |zero=>rfl
  |succ j=>
   simp at U;subst U;rw[Y]at M;cases M
   have:=(h.has j N _ k za7 a).2
   rw[t]at this;cases this
 | succ i=>
  cases j with
  |zero=>
   simp at u;subst u;rw[Y]at a;cases a
   have:=(h.has i e _ g za7 M).2
   rw[t]at this;cases this
  |succ j=>rw[h.inj i j e N x g k za7 za7 M a]
def DD.get {H0 H:A6}{L:Up En}(h:DD H0 L H)(i:Nat){id:Nat}{b:KB}(U:L[i]? =some (.blk id b)):H id=some b:=(h.has i _ id b U rfl).2
def DD.set {H0 H:A6} {L:Up En} (h:DD H0 L H) (i:Nat) {id:Nat} {b b':KB} (U:L[i]? =some (.blk id b)):DD H0 (L.set i (.blk id b')) (upd H id (some b')):=by
 have d:=h.has i _ id b U rfl
 have s:i<L.length:=by
  grind
 have PF:∀(j:Nat) e,(L.set i (.blk id b'))[j]? =some e->(j=i/\e= .blk id b')\/(j≠i/\L[j]? =some e):=λj e u=>by
  rw[BJ]at u
  grind
 refine⟨λx g M=>?_,λj e x g u M=>?_,λj k e c x g y u W M t=>?_,λx g M=>?_⟩
 rotate_right
 ·by_cases o:x=id
  ·grind[En.id,upd]
  rw[D3 _ _ o]at M
  refine(h.only x g M).imp (λh=>h) λ⟨j,e,O,q⟩=>⟨j,e,?_,q⟩;rw[BJ]
  grind[En.id]
 ·rw[D3 _ _ (Cw d.1 M)];exact h.ext x g M
 ·rcases PF j e u with⟨_,rfl⟩|⟨n,a⟩
  ·grind[upd,En.id]
  have:=h.has j e x g a M
  have p:x≠id:=λeq=>by subst eq;exact n (h.inj j i e _ x g b a U M rfl)
  simp_all[upd]
 rcases PF j e u with⟨f,rfl⟩|⟨n,a⟩<;>rcases PF k c W with⟨m,rfl⟩|⟨V,N⟩
 ·rw[f,m]
 ·cases M;exact absurd (h.inj k i c _ id y b N U t rfl) V
 ·cases t;exact absurd (h.inj j i e _ id g b a U M rfl) n
 exact h.inj j k e c x g y a N M t
theorem DD.tok {H0 H:A6} {L:Up En} (h:DD H0 L H) (i:Nat) {tl:J8} (U:L[i]? =some (.tl tl)) {t:Nat} (z:H6 H tl t=none):
 DD H0 (L.set i (.tl (.tok t))) (upd (H6 H tl) t (some .spare)):=by
 have C:i<L.length:=by
  grind
 have PF:∀(j:Nat) e,(L.set i (.tl (.tok t)))[j]? =some e->(j=i/\e= .tl (.tok t))\/(j≠i/\L[j]? =some e):=λj e u=>by
  rw[BJ]at u
  grind
 have left:∀x b,H x=some b->(∀t',tl= .tok t'->x≠t')->H6 H tl x=some b:=λx b M a=>by
  cases tl with
  |tok t'=>simp_all[H6,D3]
  |_=>exact M
 have B:∀x b,H0 x=some b->H6 H tl x=some b:=λx b M=>left x b (h.ext x b M) λt' e eq=>by
  subst e;subst eq
  rw[(h.has i _ x _ U rfl).1]at M;cases M
 have w:∀(j:Nat) e x b,j≠i->L[j]? =some e->e.id=some (x,b)->H0 x=none/\H6 H tl x=some b:=λj e x b a u M=>by
  have:=h.has j e x b u M;refine⟨this.1,left x b this.2 λt' et eq=>?_⟩;subst et;subst eq;exact a (h.inj j i e _ x b _ u U M rfl)
 have n:H0 t=none:=by
  cases e:H0 t with
  |none=>rfl
  |some b=>rw[B t b e]at z;cases z
 refine⟨λx g M=>?_,λj e x g u M=>?_,λj k e y x g N u W M p=>?_,λx g M=>?_⟩
 rotate_right
 ·by_cases s:x=t
  ·grind[En.id,upd]
  rw[D3 _ _ s]at M
  have q:H x=some g/\∀t',tl= .tok t'->x≠t':=by
   cases tl with
   |tok t'=>
    simp_all[H6,upd]
   |_=>exact⟨M,λD y=>by cases y⟩
  refine(h.only x g q.1).imp (λh=>h) λ⟨j,e,O,V⟩=>⟨j,e,?_,V⟩;rw[BJ]
  split
  ·rename_i c;subst c;rw[U]at O;cases O
   cases tl with
   |tok t'=>cases V;simp_all
   |_=>cases V
  exact O
 ·rw[D3 _ _ (Cw n M)];simp_all
 ·grind[upd,En.id]
 rcases PF j e u with⟨f,rfl⟩|⟨a,d⟩<;>rcases PF k y W with⟨o,rfl⟩|⟨v,m⟩
 ·rw[f,o]
 ·grind[En.id]
 ·grind[En.id]
 exact h.inj j k e y x g N d m M p
def DD.del {H0 H:A6} {L:Up En} (h:DD H0 L H) (i:Nat) {id:Nat} {b:KB} (U:L[i]? =some (.blk id b)):DD H0 (L.eraseIdx i) (upd H id none):=by
 have N:=h.has i _ id b U rfl
 have PF:∀(j:Nat) e,(L.eraseIdx i)[j]? =some e->∃n,n≠i/\L[n]? =some e/\(n=if j<i then j else j+1):=λj e u=>by
  rw[NU]at u
  grind
 refine⟨λx g M=>?_,λj e x g u M=>?_,λj k e m x g y u W M d=>?_,λx g M=>?_⟩
 rotate_right
 ·by_cases f:x=id
  ·simp_all[upd]
  rw[D3 _ _ f]at M
  refine(h.only x g M).imp (λh=>h) λ⟨j,e,O,o⟩=>?_
  have z:j≠i:=λeq=>by grind[En.id]
  rcases R9 j i with c|w
  ·exact⟨j,e,by rw[NU,A2 c];exact O,o⟩
  exact⟨j-1,e,by rw[NU,A1 za2,show j-1+1=j by omega];exact O,o⟩
 ·rw[D3 _ _ (Cw N.1 M)];exact h.ext x g M
 ·have⟨n,t,a,_⟩:=PF j e u;have:=h.has n e x g a M
  have q:x≠id:=λeq=>by subst eq;exact t (h.inj n i e _ x g b a U M rfl)
  simp_all[upd]
 have⟨n,t,a,s⟩:=PF j e u;have⟨k',p,V,v⟩:=PF k m W;have:=h.inj n k' e m x g y a V M d
 rw[s,v]at this
 split at this<;>split at this<;>omega
def QF (H:A6)(e:En):A6:=
 match e.id with
 |some (id,_)=>upd H id none
 |none=>H
def DD.tail {H0 H:A6} {L:Up En} {e:En} (h:DD H0 (e::L) H):DD H0 L (QF H e):=by
 have N:∀(j:Nat) a x b b',L[j]? =some a->a.id=some (x,b)->e.id=some (x,b')->False:=λj a x b b' u M t=>by
  have:=h.inj (j+1) 0 a e x b b' za7 za4 M t;omega
 cases Y:e.id with
 |none=>
  have k:QF H e=H:=by simp_all[QF]
  rw[k];refine⟨h.ext,λi e id b U=>h.has (i+1) e id b za7,λi j e a id b b' U u Y g=>?_,λx b M=>(h.only x b M).imp (λh=>h) λ⟨i,a,O,c⟩=>?_⟩
  ·have:=h.inj (i+1) (j+1) e a id b b' za7 za7 Y g;omega
  grind
 | some p=>
  have⟨id,V⟩:=p
  have k:QF H e=upd H id none:=by grind[QF]
  rw[k];have n:=h.has 0 e id V za4 Y;refine⟨λx b M=>?_,λi a x b U M=>?_,λi j e a id b b' U u Y g=>?_,λx b M=>?_⟩
  ·rw[D3 _ _ (Cw n.1 M)];exact h.ext x b M
  ·have:=h.has (i+1) a x b za7 M
   have d:x≠id:=λeq=>za7
   simp_all[upd]
  ·have:=h.inj (i+1) (j+1) e a id b b' za7 za7 Y g;omega
  by_cases y:x=id
  ·simp_all[upd]
  rw[D3 _ _ y]at M
  refine(h.only x b M).imp (λh=>h) λ⟨i,a,O,c⟩=>?_
  grind
theorem KA.upd {H H':A6}(h:KA H H')(id:Nat)(b:OS KB):KA (upd H id b) (upd H' id b):=λx a M=>by
 by_cases e:x=id
 ·grind[G4]
 rw[D3 _ _ e]at M ⊢;exact h x a M
def KA.less {H H':A6}(h:KA H H')(id:Nat):KA (Go.Ab.upd H id none) H':=λx a M=>by
 by_cases e:x=id
 ·grind[G4]
 rw[D3 _ _ e]at M;exact h x a M
def KA.none {H H':A6}(h:KA H H'){id:Nat}(a:H' id=none):H id=none:=by
 cases e:H id with
 |none=>rfl
 |some b=>rw[h id b e]at a;cases a
def H8:G9 (Eq:A6->A6->Prop):=⟨λh id b a=>h▸a,λid b h _=>by subst h;rfl⟩
def B9 (Φ:A6->A6->Prop)(F:A6)(L:Up En)(H:A6):Prop:=G9 Φ/\∃a G,DD F L a/\Φ a G/\KA G H
section
variable {Φ:A6->A6->Prop}{F H:A6}{L:List En}
def B9.start (C:G9 Φ)(h:Φ F H):B9 Φ F [] H:=⟨C,F,H,DD.start F,h,KA.refl H⟩
def B9.ext (h:B9 Φ F L H):KA F H:=by
 have⟨C,i,G,a,O,e⟩:=h;exact a.ext.trans λid b g=>e _ _ (C.le O id b g)
theorem B9.tl0 (h:B9 Φ F L H){t:J8}(j:(En.tl t).id=none):B9 Φ F (.tl t::L) H:=by
 have⟨C,a,G,b,O,e⟩:=h;exact⟨C,a,G,b.tl0 j,O,e⟩
def B9.push (h:B9 Φ F L H){g:En}{id:Nat}{b:KB}(n:H id=none)(Y:g.id=some (id,b)):B9 Φ F (g::L) (upd H id (some b)):=by
 have⟨C,t,G,k,O,i⟩:=h;have e:=i.none n;have a:=C.fresh O e;exact⟨C,_,_,k.push a Y,C.chg id (some b) O (by rw[e,a]),i.upd id _⟩
def B9.get (h:B9 Φ F L H)(i:Nat){id:Nat}{b:KB}(U:L[i]? =some (.blk id b)):H id=some b:=by
 have⟨C,g,G,a,O,e⟩:=h;exact e _ _ (C.le O _ _ (a.get i U))
def B9.set (h:B9 Φ F L H)(i:Nat){id:Nat}{b b':KB}(U:L[i]? =some (.blk id b)):B9 Φ F (L.set i (.blk id b')) (upd H id (some b')):=by
 have⟨C,k,G,a,O,g⟩:=h;have e:=a.get i U;exact⟨C,_,_,a.set i U,C.chg id _ O (by rw[e,C.le O _ _ e]),g.upd id _⟩
def B9.del (h:B9 Φ F L H)(i:Nat){id:Nat}{b:KB}(U:L[i]? =some (.blk id b)):B9 Φ F (L.eraseIdx i) (upd H id none):=by
 have⟨C,k,G,a,O,g⟩:=h;have e:=a.get i U;exact⟨C,_,_,a.del i U,C.chg id _ O (by rw[e,C.le O _ _ e]),g.upd id _⟩
def B9.tail {e:En} (h:B9 Φ F (e::L) H):B9 Φ F L H:=by
 have⟨C,i,G,a,O,g⟩:=h
 cases Y:e.id with
 |none=>
  have:=a.tail
  grind[B9,QF]
 |some p=>
  have⟨id,b⟩:=p;have J:=a.tail
  simp only[QF,Y]at J
  have w:=(a.has 0 e id b za4 Y).2;exact⟨C,_,_,J,C.chg id none O (by rw[w,C.le O _ _ w]),g.less id⟩
theorem B9.tok (h:B9 Φ F L H) (i:Nat) {tl:J8} (U:L[i]? =some (.tl tl)) {t:Nat} (j:H6 H tl t=none):B9 Φ F (L.set i (.tl (.tok t))) (upd (H6 H tl) t (some .spare)):=by
 have⟨C,x,G,k,O,n⟩:=h
 have J:Φ (H6 x tl) (H6 G tl):=by
  cases tl with
  |tok g=>
   have e:=(k.has i _ g _ U rfl).2;exact C.chg g none O (by rw[e,C.le O _ _ e])
  |_=>exact O
 have s:KA (H6 G tl) (H6 H tl):=by
  cases tl with
  |tok g=>exact n.upd g none
  |_=>exact n
 have b:=s.none j;have a:=C.fresh J b;exact⟨C,_,_,k.tok i U a,C.chg t _ J (by rw[b,a]),s.upd t _⟩
def B9.stable (C:G9 Φ) (L:Up En):G9 λF H=>B9 Φ F L H:=by
 refine⟨λh id b f=>h.ext id b f,λ{F H} id b h e=>?_⟩;have⟨C,y,G,n,O,N⟩:=h
 have d:∀(i:Nat) k x g,L[i]? =some k->k.id=some (x,g)->x≠id:=λi k x g U Y eq=>by
  subst eq;have J:=n.has i k x g U Y;have s:=N _ _ (C.le O _ _ J.2)
  rw[e,J.1]at s;cases s
 have t:y id=F id:=by
  cases o:F id with
  |some x=>exact n.ext id x o
  | none=>
   cases c:y id with
   |none=>rfl
   |some x=>
    rcases n.only id x c with h|⟨i,k,U,Y⟩
    ·rw[o]at h;cases h
    grind
 have V:G id=F id:=by
  cases o:F id with
  |some x=>rw[<-t]at o;exact C.le O id x o
  |none=>rw[o]at e;exact N.none e
 refine⟨C,upd y id b,upd G id b,⟨λx g M=>?_,λi k x g U Y=>?_,n.inj,λx g M=>?_⟩,C.chg id b O (by rw[t,V]),N.upd id b⟩
 ·by_cases a:x=id
  ·simp_all[upd]
  rw[D3 _ _ a]at M ⊢;exact n.ext x g M
 ·have:=n.has i k x g U Y;have a:=d i k x g U Y;rw[D3 _ _ a,D3 _ _ a];exact this
 by_cases a:x=id
 ·simp_all[upd]
 rw[D3 _ _ a]at M ⊢;exact n.only x g M
def B9.out:∀{L:Up En},B9 Φ F L H->∃G,Φ F G/\KA G H
 | [],h=>by
  have⟨C,a,G,g,O,k⟩:=h
  have:a=F:=by
   funext x
   cases o:a x with
   |some b=>
    rcases g.only x b o with h|⟨i,e,U,_⟩
    ·exact h.symm
    grind
   |none=>exact(g.free o).symm
  grind
 |_::L,h=>B9.out (L:=L) h.tail
end
def G9.ex {ι:Type}{p:ι->Prop}{I:ι->A6->A6->Prop}(h:∀i,G9 (I i)):G9 λF H=>∃i,p i/\I i F H:=
 ⟨λ⟨i,_,U⟩=>(h i).le U,λid b ⟨i,a,U⟩ e=>⟨i,a,(h i).chg id b U e⟩⟩
def G9.con {p:Prop}{I:A6->A6->Prop}(h:G9 I):G9 λF H=>p/\I F H:=
 ⟨λ⟨_,U⟩=>h.le U,λid b ⟨a,U⟩ e=>⟨a,h.chg id b U e⟩⟩
def Ed:J8->Prop
 | .ro=>False
 |_=>True
def B9.appOk {Φ:A6->A6->Prop}{F H:A6}{L:Up En}(h:B9 Φ F L H)(i:Nat){tl:J8}(U:L[i]? =some (.tl tl))(e:Ed tl):Jx H tl:=by
 have⟨C,g,G,a,O,b⟩:=h
 cases tl with
 |tok t=>exact b _ _ (C.le O _ _ (a.has i _ t _ U rfl).2)
 |nil=>trivial
 |full=>trivial
 |ro=>exact e
end Go.Ab
namespace Go.Ab
def C7 {α:Type}(l:Up α)(i:Int):OS α:=if 0<=i then l[i.toNat]? else none
def R6 {α:Type} (l:Up α) (lo U a:OS Int):OS (Up α):=
 if 0<=lo.getD 0/\lo.getD 0<=U.getD l.length/\U.getD l.length<=a.getD l.length/\a.getD l.length<=l.length/\(a.isSome=true->U.isSome=true)then
  some ((l.drop (lo.getD 0).toNat).take ((U.getD l.length).toNat-(lo.getD 0).toNat))
 else none
def V7 {α:Type}(l m:Up α):OS (Up α):=if l.length+m.length<=1073741824 then some (l++m)else none
def El (b:Bool):OS Unit:=if b=true then some ()else none
def loopN {σ R:Type} (step:σ->OS (σ⊕R)):Nat->σ->OS R
 |0,_=>none
 |n+1,s=>
  match step s with
  |none=>none
  |some (.inl a)=>loopN step n a
  |some (.inr r)=>some r
def M8 {α σ R:Type} (step:σ->α->OS (σ⊕R)):Up α->σ->OS (σ⊕R)
 |[],s=>some (.inl s)
 |x::l,s=>
  match step s x with
  |none=>none
  |some (.inl a)=>M8 step l a
  |some (.inr r)=>some (.inr r)
def Ap {β σ R:Type} (step:σ->OS (Up β×(σ⊕R))):Nat->σ->OS (Up β×R)
 |0,_=>none
 | n+1,s=>
  match step s with
  |none=>none
  | some (w,.inl a)=>
   (match Ap step n a with
    |none=>none
    |some (w',r)=>some (w++w',r))
  |some (w,.inr r)=>some (w,r)
def AS {α β σ R:Type} (step:σ->α->OS (Up β×(σ⊕R))):Up α->σ->OS (Up β×(σ⊕R))
 |[],s=>some ([],.inl s)
 | x::l,s=>
  match step s x with
  |none=>none
  | some (w,.inl a)=>
   (match AS step l a with
    |none=>none
    |some (w',o)=>some (w++w',o))
  |some (w,.inr r)=>some (w,.inr r)
def L5 {β σ a:Type}(m:OS (Up β×σ))(f:σ->OS (Up β×a)):OS (Up β×a):=
 m.bind λq=>(f q.2).bind λp=>some (q.1++p.1,p.2)
def N5 {β σ e:Type} {m:OS (Up β×σ)} {f:σ->OS (Up β×e)} {w:Up β} {o:e} (h:L5 m f=some (w,o)):∃b w2 x,m=some (b,x)/\f x=some (w2,o)/\w=b++w2:=by
 unfold L5 at h
 cases m with
 |none=>cases h
 | some p=>
  simp only[A4]at h
  cases a:f p.2 with
  |none=>rw[a]at h;cases h
  |some t=>
   rw[a]at h
   grind
def V9 {β σ b:Type}{a:Up β}{x:σ}{f:σ->OS (Up β×b)}{w:Up β}{o:b}(h:L5 (some (a,x)) f=some (w,o)):∃w2,f x=some (w2,o)/\w=a++w2:=by
 have⟨g,w2,y,O,e,J⟩:=N5 h
 simp_all
def D7 {α β:Type}{a c:α}{b d:β}(h:some (a,b)=some (c,d)):a=c/\b=d:=za8
def bind_some {α β:Type}{m:OS α}{F:α->OS β}{r:β}(h:m.bind F=some r):∃x,m=some x/\F x=some r:=by
 cases m with
 |none=>cases h
 |some x=>simp_all
def G3 {α:Type}{a b:α}(h:some a=some b):a=b:=DL h
end Go.Ab
