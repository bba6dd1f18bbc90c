/- AbA21 AbA22 AbA23 AbP1 AbD1 -/
import Derived.Test.YtmfdlklcmoklhaaGreatDoorB04
set_option linter.all false
open Go.Ab.Ar (an_eq cmp_eq nt_eq)
namespace Go.Ab
open Go.RowKit
variable [M9][Ar]
section
variable {P:Program}{nt:Nat}{rd:Option Nat}{T:Ix}{l:Fl}{df:List Nat}{H:A5}
def KR (G:List (Nat×Bool))(l:Fl):Prop:=∀j w,AD4 G j w=true→isB (Dp l j) w=true
theorem KR.nil :KR [] l:=fun j w h=>by simp[AD4]at h
theorem KR.add {G:List (Nat×Bool)}(h:KR G l){d:Nat}{w:Bool}(hd:isB (Dp l d) w=true):KR ((d,w)::G) l:=by
 intro j w' hg
 simp only[AD4]at hg
 split at hg
 ·simp_all
 exact h j w' hg
theorem Mb :∀(l:Fl) (t:Nat) (s:Sl),lk l t=s→(∀j w x,s≠ .g j w x)→Dp l t=s.V
 |[],t,s,h,_=>by grind [Dp,Sl.V,lk]
 | (k,x)::l,t,s,h,hn=>by
  simp only[lk]at h
  simp only[Dp]
  cases hb:Nat.beq t k with
  |true=>
   simp only[hb]at h
   subst h
   cases x with
   |v x=>rfl
   |b c=>rfl
   |g j w x=>simp_all
  |false=>simp only[hb]at h;exact Mb l t s h hn
theorem VU :∀(l:Fl) (t j:Nat) (w:Bool) (x:V),lk l t= .g j w x→Ar2 l t j=true→Dp l t=bif isB (Dp l j) w then x else .tup []
 |[],_,_,_,_,_,h=>by simp[Ar2]at h
 | (k,s)::l,t,j,w,x,h,hf=>by
  simp only[Ar2]at hf
  simp only[lk]at h
  cases hj:Nat.beq k j with
  |true=>grind
  | false=>
   simp only[hj]at hf
   have hj':Nat.beq j k=false:=by
    cases e:Nat.beq j k with
    |false=>rfl
    |true=>simp_all
   have ej:Dp ((k,s)::l) j=Dp l j:=by simp_all[Dp]
   rw[ej];simp only[Dp]
   cases ht:Nat.beq t k with
   |true=>
    simp_all
   | false=>
    have ht':Nat.beq k t=false:=by
     cases e:Nat.beq k t with
     |false=>rfl
     |true=>simp_all
    simp only[ht',ht]at hf h ⊢
    exact VU l t j w x h hf
theorem LV {G:List (Nat×Bool)} (hG:KR G l) {t:Nat} {s:Sl} (h:Xx G l t=some s):s.V=Dp l t∧∀j w x,s≠ .g j w x:=by
 unfold Xx at h
 split at h
 ·rename_i j w x hl
  split at h
  ·rename_i hf;have e:=VU l t j w x hl hf
   split at h
   ·rename_i hg;cases h;rw[e,hG j w hg];simp[Sl.V]
   split at h
   ·rename_i c hc;have ec:=Mb l j _ hc (fun _ _ _ h=>by cases h)
    rw[ec]at e
    grind [Sl.V,isB]
   cases h
  cases h
 grind [Mb]
theorem Af2 {G:List (Nat×Bool)}(hG:KR G l)(t:Nat):(AL3 G l t).V=Dp l t:=by
 unfold AL3
 split
 ·grind [LV]
 rfl
theorem FE {G:List (Nat×Bool)} (hG:KR G l) (x:Operand):(V6 G l x).V=ev (H9 ⟨l,df⟩) x:=by
 cases x with
 |tmp t=>exact Af2 hG t
 |const v=>
  cases v<;>first|rfl|skip
 |global n=>rfl
 |func f=>rfl
theorem Rj :∀(l:Fl) (d:Nat) (c:Bool),Dp l d= .bool c→∀t,Dp (NC l d c) t=Dp l t
 |[],_,_,_,_=>rfl
 | (k,s)::l,d,c,h,t=>by
  simp only[NC]
  cases hd:Nat.beq d k with
  |true=>
   have e:=CB hd
   simp_all[Dp]
  |false=>
   have hl:Dp l d= .bool c:=by simp_all[Dp]
   have ih:=Rj l d c hl
   simp_all[Dp]
theorem PT {d:Nat}{c:Bool}(h:Dp l d= .bool c):H9 ⟨NC l d c,df⟩=H9 ⟨l,df⟩:=by
 simp_all[H9,Rj]
theorem Fo {o:Option V}{k:V→Prop}(h:Jw o k):∃y,o=some y∧k y:=by
 unfold Jw at h
 grind
theorem LB (hT:KP P T) {t:Nat} {v:V} {k:V→Prop} (h:Ad0 (I8 P nt rd) T t v H k):∃y,(Jh P H t v=some y∨Ni P H t v=some y)∧k y:=by
 unfold Ad0 at h
 split at h
 ·exact h.elim
 rename_i I hI;have ok:=G8 hT hI
 split at h
 ·rename_i cs off
  split at h
  ·rename_i y hy;exact⟨y,.inl (by simp only[Jh,ok.ag,ok.sz];exact hy),h⟩
  grind
 ·rename_i id off;obtain⟨cs,hk,h⟩:=h
  split at h
  ·rename_i y hy;exact⟨y,.inl (by simp only[Jh,ok.ag,ok.sz,hk];exact hy),h⟩
  grind
 ·rename_i id i esz off;obtain⟨sz,xs,hk,hb,h⟩:=h
  split at h
  ·rename_i y hy;exact⟨y,.inr (by simp only[Ni,ok.ag,ok.sz,Hf,hk];rw[A2 hb];exact hy),h⟩
  grind
 grind
theorem AS2 (hT:KP P T){t f:Nat}{I:At1}{p:Nat×Nat}(hI:tg T t=some I)(hf:I.fs[f]? =some (some p)):fdO P t f=some p:=by
 have:=VS I.fs 0 f p (G8 hT hI).fs hf
 rwa[Q0]at this
theorem JI (hT:KP P T){t f:Nat}{v:V}{k:V→Prop}(h:Nv T t v f k):∃y,Im P t v f=some y∧k y:=by
 unfold Nv at h
 grind [Fo,Im,AS2]
theorem On (hT:KP P T) {t f:Nat} {v:V} {k:V→Prop} (h:YR T t v f k):∃y,SV P t v f=some y∧k y:=by
 unfold YR at h
 split at h
 ·exact h.elim
 rename_i I hI
 split at h
 ·rename_i p hp
  split at h
  ·exact h.elim
  rename_i J hJ
  split at h
  ·obtain⟨y,h1,h2⟩:=Fo h;exact⟨y,by simp only[SV,AS2 hT hI hp,(G8 hT hJ).ag,(G8 hT hJ).sz];exact h1,h2⟩
  grind
 grind
theorem Pw (hT:KP P T) {t:Nat} {v i:V} {k:V→Prop} (h:Nu (I8 P nt rd) T t v i k):∃ki j u y,i= .int ki j∧EJ P t v j=some u∧Ew u y∧k y:=by
 unfold Nu at h
 split at h
 ·rename_i ki j
  split at h
  ·exact h.elim
  rename_i I hI;have ok:=G8 hT hI;refine⟨ki,j,?_⟩
  split at h
  ·rename_i e he
   split at h
   ·exact h.elim
   rename_i J hJ;have okJ:=G8 hT hJ
   split at h
   ·rename_i xs tl;obtain⟨hb,h⟩:=h
    split at h
    ·rename_i hsz;refine⟨_,_,rfl,?_,.refl _,h⟩;simp only[EJ,ok.sl,he,okJ.sz];rw[A2 ⟨hb,by rw[CB hsz]⟩]
    grind
   grind
  rename_i he
  split at h
  ·rename_i n e hae
   split at h
   ·exact h.elim
   rename_i J hJ
   split at h
   ·obtain⟨⟨hb1,hb2,hb3⟩,h⟩:=h;rename_i cs off
    have hle:off+j.toNat*J.sz+J.sz≤cs.length:=by
     have h1:j.toNat+1≤n:=by omega
     have h2:=H5 J.sz h1
     rw[E5,W4]at h2
     omega
    refine⟨_,_,rfl,?_,.sub hle,h⟩;simp only[EJ,ok.sl,he,ok.ar,hae,(G8 hT hJ).sz];rw[A2 ⟨hb1,hb2⟩];rfl
   obtain⟨hb,h⟩:=h;obtain⟨y,h1,h2⟩:=Fo h;refine⟨y,y,rfl,?_,.refl _,h2⟩;simp only[EJ,ok.sl,he,ok.ar,hae,(G8 hT hJ).sz];rw[A2 hb];exact h1
  grind
 grind
theorem Vc (hT:KP P T) {t:Nat} {v i:V} {k:V→Prop} (h:YQ (I8 P nt rd) T t v i k):∃ki j y,i= .int ki j∧PQ P t v j=some y∧k y:=by
 unfold YQ at h
 split at h
 ·rename_i ki j
  split at h
  ·exact h.elim
  rename_i I hI;have ok:=G8 hT hI;refine⟨ki,j,?_⟩
  split at h
  ·rename_i n e hae
   split at h
   ·exact h.elim
   rename_i J hJ
   split at h
   ·obtain⟨hb,h⟩:=h;obtain⟨y,h1,h2⟩:=Fo h;refine⟨y,rfl,?_,h2⟩;simp only[PQ,ok.ar,hae,(G8 hT hJ).ag,(G8 hT hJ).sz];rw[A2 hb];exact h1
   grind
  rename_i hae
  split at h
  ·split at h
   ·rename_i hs;obtain⟨hb,h⟩:=h;refine⟨_,rfl,?_,h⟩;rename_i str _
    have hb:0≤j∧j<(str.size:Nat):=by
     rw[an_eq,cmp_eq,cmp_eq,Ar.slen_eq]at hb
     grind [Ir]
    simp only[PQ,ok.ar,hae,ok.st];rw[A2 ⟨hs,hb.1⟩,Ar.sat_eq]
    have hlt:j.toNat<str.size:=by omega
    simp[hlt]
   grind
  grind
 grind
theorem YS :∀xs ys:List V,xeq xs ys=Bo xs ys
 |[],[]=>rfl
 |[],_::_=>rfl
 |x::xs,[]=>by grind [xeq,Bo]
 | x::xs,y::ys=>by
  have ih:=YS xs ys
  have hAn:(Ar.an:Bool→Bool→Bool)=fun a b=>a&&b:=by funext a b;simp[an_eq]
  unfold xeq Bo;rw[ih,hAn]
  cases x<;>cases y<;>simp only[JM,cmp_eq,Ar.scmp_eq,Ar.beq_eq,Ir,AX2]<;>first
   |rfl
   |(cases Bo xs ys<;>rfl)
   |(split<;>cases Bo xs ys<;>rfl)
theorem ZU {op:BinOp}{ki:IntKind}{a b:Int}(h:SM op=true):Mf op ki a b=some (.bool (Ar.cmp op a b)):=by
 rw[cmp_eq]
 cases op<;>simp[SM]at h<;>rfl
theorem Ap7 {op:BinOp}{ki:IntKind}{a b:Int}(h:AN4 op=true):Mf op ki a b=some (.int ki (Ar.ar op ki a b)):=by
 rw[Ar.ar_eq]
 cases op<;>simp[AN4]at h<;>rfl
theorem ZT {op:BinOp}{ki:IntKind}{a b:Int}(h:AC6 op=true)(hb:b≠0):Mf op ki a b=some (.int ki (Ar.ar op ki a b)):=by
 rw[Ar.ar_eq]
 cases op<;>simp[AC6]at h<;>simp[Mf,arI,hb]
theorem Zc {op:BinOp}{a b:ByteArray}(h:SM op=true):RU op a b=some (.bool (Ar.scmp op a b)):=by
 rw[Ar.scmp_eq]
 cases op<;>simp[SM]at h<;>rfl
theorem Am7 {op:BinOp}{ki:IntKind}{a b:Int}(h:Jk op=true)(hb:0≤b):Sb op ki a b=some (.int ki (Ar.sh op ki a b)):=by
 rw[Ar.sh_eq]
 cases op<;>simp[Jk]at h<;>simp only[Sb,shI]<;>rw[A1 (by omega)]
theorem RH (hT:KP P T) {op:BinOp} {t:Nat} {x y:V} {k:V→Prop} (h:AS9 (I8 P nt rd) T op t x y k):∃v,Re P op t x y=some v∧k v:=by
 unfold AS9 at h
 split at h
 ·rename_i ka a kb b
  split at h
  ·rename_i hs;obtain⟨hb,h⟩:=h
   have hb:0≤b:=by rw[cmp_eq]at hb;grind [Ir]
   simp_all[Re,Am7]
  rename_i hs
  split at h
  ·rename_i hk
   have e:Re P op t (.int ka a) (.int kb b)=Mf op ka a b:=by simp[Re,hs,hk]
   split at h
   ·grind [ZU]
   split at h
   ·grind [Ap7]
   split at h
   ·rename_i hc;obtain⟨hb,h⟩:=h
    have hb:b≠0:=by rw[cmp_eq]at hb;grind [Ir]
    grind [ZT]
   grind
  grind
 ·rename_i a b
  split at h
  ·rename_i hc;exact⟨_,Zc hc,h⟩
  split at h
  ·obtain⟨hb,h⟩:=h
   have hb:((a.size+b.size:Nat):Int)≤9223372036854775807:=by
    rw[cmp_eq,Ar.slen_eq,Ar.cat_eq]at hb
    have e:(a++b).size=a.size+b.size:=by simp
    rw[e]at hb
    grind [Ir]
   simp_all[Re,RU,Ar.cat_eq]
  grind
 ·rename_i a b
  split at h
  ·exact h.elim
  rename_i I hI
  split at h
  ·rename_i hbo;have hbo':=(G8 hT hI).bo hbo
   split at h
   ·simp_all[Re,Ar.beq_eq]
   ·simp_all[Re,Ar.beq_eq,nt_eq]
   grind
  grind
 ·rename_i xs ys
  split at h
  ·exact h.elim
  rename_i I hI;have ok:=G8 hT hI
  split at h
  ·rename_i hc;obtain⟨h1,h2,h3⟩:=hc
   have hek:Hk P 9 t=some (xs.map kd):=by
    have:=ok.ek
    rw[h2]at this
    exact this
   have hcond:YE P t=some true∧Hk P 9 t=some (xs.map kd)∧ys.map kd=xs.map kd:=⟨by rw[ok.ag,h1],hek,h3⟩;cases op<;>try exact h.elim
   ·cases hx:xeq xs ys with
    |none=>simp_all
    |some b=>
     simp_all[YS,Re]
   cases hx:xeq xs ys with
   |none=>simp_all
   |some b=>
    simp_all[YS,Re,nt_eq]
  grind
 grind
theorem TY {op:UnOp}{x:Sl}{k:Sl→Prop}(h:xun op x k):∃s:Sl,unV op x.V=some s.V∧k s:=by
 unfold xun at h
 grind [unV,Sl.V,nt_eq,Ar.neg_eq]
theorem Ws (hT:KP P T) {s d:Nat} {x:V} {H:A5} {k:V→Prop} (h:Au8 (I8 P nt rd) T s d x H k):∃v,(UN P s d x=some v∨UO P H s d x v)∧k v:=by
 unfold Au8 at h
 split at h
 ·rename_i I J hI hJ;have okI:=G8 hT hI;have okJ:=G8 hT hJ
  split at h
  ·rename_i ki kj n hi hj
   have e1:=okI.ik;rw[hi]at e1
   have e2:=okJ.ik;rw[hj]at e2
   simp_all[CR,UN,Ar.wr_eq]
  ·rename_i b _
   split at h
   ·rename_i h1 h2;have e1:=MD (okI.st.trans h1);have e2:=MD (okJ.st.trans h2)
    simp_all[UN]
   grind
  ·obtain⟨v,h1,h2⟩:=h;grind
  ·obtain⟨v,h1,h2⟩:=h;grind
  grind
 grind
theorem Oo (hT:KP P T) {t:Nat} {parts:List (Nat×V)} {k:V→Prop} (h:YT T t parts k):∃v,Qd P t parts=some v∧k v:=by
 unfold YT at h
 split at h
 ·exact h.elim
 rename_i I hI;have ok:=G8 hT hI
 split at h
 ·rename_i cs hz
  have ez:=ok.ze;rw[hz]at ez;simp only[CR]at ez
  split at h
  ·rename_i n e ha
   split at h
   ·exact h.elim
   rename_i J hJ
   split at h
   ·rename_i c hc;exact⟨_,by simp only[Qd,ok.ar,ha,ez,(G8 hT hJ).sz,hc];rfl,h⟩
   grind
  rename_i ha
  split at h
  ·rename_i pl hpl
   have ep:=ok.pl;rw[hpl]at ep;simp only[CR]at ep
   split at h
   ·rename_i c hc;have hc':Ml (pl[·]?) cs parts=some c:=hc;exact⟨_,by simp only[Qd,ok.ar,ha,ez,ep,hc'];rfl,h⟩
   grind
  grind
 grind
theorem Ja (hT:KP P T){t n:Nat}{parts:List (Nat×V)}{k:V→Prop}(h:Jb T t n parts k):∃v,BG P t n parts=some v∧k v:=by
 unfold Jb at h
 split at h
 ·exact h.elim
 rename_i I hI
 split at h
 ·exact h.elim
 rename_i e he
 split at h
 ·exact h.elim
 rename_i J hJ
 split at h
 ·exact h.elim
 rename_i z hz
 have ez:=(G8 hT hJ).ze;rw[hz]at ez;simp only[CR]at ez
 split at h
 ·rename_i hc;refine⟨_,?_,h⟩;simp only[BG,(G8 hT hI).sl,he,(G8 hT hJ).sz,ez];rw[A2 hc]
 grind
theorem Vb (hT:KP P T) {t:Nat} {l c:V} {k:V→Prop} (h:YP T t l c k):∃v,AB0 P t l c v∧k v:=by
 unfold YP at h
 split at h
 ·split at h
  ·exact h.elim
  rename_i I hI
  split at h
  ·exact h.elim
  rename_i e he
  split at h
  ·exact h.elim
  rename_i J hJ
  split at h
  ·exact h.elim
  rename_i z hz
  have ez:=(G8 hT hJ).ze;rw[hz]at ez;simp only[CR]at ez
  split at h
  ·rename_i hc;obtain⟨h1,h2,h3,h4,rfl,h6,h7⟩:=hc;exact⟨_,⟨_,_,_,e,J.sz,J.by_,z,rfl,rfl,by rw[(G8 hT hI).sl,he],(G8 hT hJ).sz,h1,(G8 hT hJ).by_,h2,ez,h3,h4,h6,h7,rfl⟩,h⟩
  grind
 grind
theorem UX (hT:KP P T) {t:Nat} {v:V} {lo hi mx:Option (Option Int)} {k:V→Prop} (h:YM (I8 P nt rd) T t v lo hi mx k):
 ∃a b c y,lo=some a∧hi=some b∧mx=some c∧RW P t v a b c=some y∧k y:=by
 unfold YM at h
 split at h
 ·rename_i a b c;refine⟨a,b,c,?_⟩
  split at h
  ·exact h.elim
  rename_i I hI
  split at h
  ·rename_i e he
   split at h
   ·exact h.elim
   rename_i J hJ
   split at h
   ·obtain⟨hc,h⟩:=h;refine⟨_,rfl,rfl,rfl,?_,h⟩;simp only[RW,(G8 hT hI).sl,he,(G8 hT hJ).sz];rw[A2 hc]
   grind
  grind
 grind
theorem Tx (hT:KP P T) {t id:Nat} {l0 n:Int} {lo hi mx:Option (Option Int)} {k:V→Prop} (h:UY (I8 P nt rd) T t H id l0 n lo hi mx k):
 ∃a b c y,lo=some a∧hi=some b∧mx=some c∧LH P H t (.own id l0 n) a b c=some y∧k y:=by
 unfold UY at h
 split at h
 ·rename_i a b c;refine⟨a,b,c,?_⟩
  split at h
  ·exact h.elim
  rename_i I hI
  split at h
  ·rename_i e he
   split at h
   ·exact h.elim
   rename_i J hJ;obtain⟨xs,hk,hc,h⟩:=h;refine⟨_,rfl,rfl,rfl,?_,h⟩;simp only[LH,(G8 hT hI).sl,he,(G8 hT hJ).sz,Hf,hk];rw[A2 ⟨trivial,hc⟩];rfl
  grind
 grind
theorem KD (hT:KP P T) {b:Builtin} {ts:List TypeId} {vs:List V} {k:V→Prop} (h:Px (I8 P nt rd) T b ts vs k):∃v,DN P b ts vs v∧k v:=by
 unfold Px at h
 split at h
 ·rename_i t x
  split at h
  ·exact h.elim
  rename_i I hI;have ok:=G8 hT hI
  split at h
  ·rename_i e he
   split at h
   ·exact⟨_,by simp only[DN,Ap3,ok.sl,he],h⟩
   grind
  rename_i he
  split at h
  ·rename_i n e ha;exact⟨_,by simp only[DN,Ap3,ok.sl,he,ok.ar,ha,Ar.ofN_eq],h⟩
  rename_i ha
  split at h
  ·split at h
   ·rename_i hs;exact⟨_,by simp only[DN,Ap3,ok.sl,he,ok.ar,ha,ok.st,hs,C7,Ar.slen_eq],h⟩
   grind
  grind
 ·grind [Ar.mx_eq,DN]
 ·grind [Ar.mn_eq,DN]
 ·rename_i sT yT xs tl ys tl'
  split at h
  ·rename_i I I2 hI hI2
   split at h
   ·rename_i e e2 he he2
    split at h
    ·rename_i J hJ
     split at h
     ·rename_i z hz
      have ez:=(G8 hT hJ).ze;rw[hz]at ez;simp only[CR]at ez
      split at h
      ·rename_i hc;obtain⟨c1,c2,c3,c4,c5⟩:=hc;obtain⟨xs',ys',l1,l2,k1,k2,k3,k4⟩:=h;refine⟨_,⟨?_,e,J.sz,J.by_,z,xs',ys',(G8 hT hI).sl.trans he,by rw[(G8 hT hI2).sl,he2];rfl,(G8 hT hJ).sz,c1,(G8 hT hJ).by_,c2,ez,c3,c4,l1,l2,k1,k2,k3,rfl⟩,k4⟩;cases tl<;>first|exact .inl rfl|exact .inr rfl|cases c5
      grind
     grind
    grind
   grind
  grind
 grind
theorem QB {t:Bool}{x y:Sl}{k:Sl→Prop}(h:Au2 (I8 P nt rd) t x y k):∃s:Sl,(t=true→s.V=x.V)∧(t=false→s.V=y.V)∧k s:=by
 unfold Au2 at h
 split at h
 ·grind
 ·exact⟨_,fun e=>(by simp[Sl.V,e]),fun e=>(by simp[Sl.V,e]),h⟩
 ·grind [Sl.V,Ar.or_eq]
 ·grind [Sl.V,nt_eq]
 ·grind
 ·grind [Sl.V,nt_eq,an_eq]
 ·grind [Sl.V,nt_eq,Ar.or_eq]
 ·grind [Sl.V,an_eq]
 ·grind [Ar.pk_eq]
 obtain⟨h1,h2⟩:=h;cases t
 ·grind
 grind
theorem KR.arm {G:List (Nat×Bool)} (hG:KR G l) {c:Operand} {w:Bool} (h:ev (H9 ⟨l,df⟩) c= .bool w):KR (AX7 c w G) l:=by
 cases c with
 |tmp d=>
  refine hG.add ?_;have:Dp l d= .bool w:=h;rw[this];simp[isB]
 |const _=>exact hG
 |global _=>exact hG
 |func _=>exact hG
theorem QC (hT:KP P T) {b:Builtin} {ts:List TypeId} {vs:List V} {w:V} {k:V→Prop} (hid:ZC b vs=some w) (h:Au5 (I8 P nt rd) T b ts H w k):∃v,NN P H b ts vs v∧k v:=by
 unfold ZC at hid
 unfold Au5 at h
 split at hid
 ·cases hid
  split at h
  ·split at h
   ·exact h.elim
   rename_i I hI
   split at h
   ·rename_i e he;exact⟨_,by simp only[NN,AM8,(G8 hT hI).sl,he],h⟩
   grind
  grind
 ·cases hid
  split at h
  ·split at h
   ·exact h.elim
   rename_i I hI
   split at h
   ·rename_i e he
    split at h
    ·simp_all
    ·obtain⟨sz,xs,hk,h⟩:=h;exact⟨_,by simp only[NN,Ab8,(G8 hT hI).sl,he,Hf,hk];rfl,h⟩
    ·exact⟨_,by simp only[NN,Ab8,(G8 hT hI).sl,he],h⟩
    ·exact⟨_,by simp only[NN,Ab8,(G8 hT hI).sl,he],h⟩
    grind
   grind
  grind
 cases hid
theorem Ok (hT:KP P T) {G:List (Nat×Bool)} (hG:KR G l) {o:Oper} {k:Sl→Prop} (h:xq (I8 P nt rd) T G o l H k):∃s:Sl,Oj P o (ev (H9 ⟨l,df⟩)) H s.V∧k s:=by
 have E:∀x,(V6 G l x).V=ev (H9 ⟨l,df⟩) x:=fun x=>FE hG x;have Em:∀xs:List Operand,(xs.map fun x=>(V6 G l x).V)=xs.map (ev (H9 ⟨l,df⟩)):=fun xs=>BM fun p _=>E p
 have Eo:∀x:Option Operand,(x.map fun x=>(V6 G l x).V)=x.map (ev (H9 ⟨l,df⟩)):=fun x=>by cases x<;>simp[E]
 have Ep:∀ps:List (Nat×Operand),(ps.map fun p=>(p.1,(V6 G l p.2).V))=ps.map fun p=>(p.1,ev (H9 ⟨l,df⟩) p.2):=fun ps=>BM fun p _=>by rw[E]
 unfold xq at h
 unfold Oj
 split at h<;>rename_i ho<;>try simp only[ho]
 ·grind
 ·grind
 ·rename_i c x y
  split at h
  ·rename_i hc
   have:ev (H9 ⟨l,df⟩) c= .bool true:=by rw[←E,hc];rfl
   grind
  ·rename_i hc
   have:ev (H9 ⟨l,df⟩) c= .bool false:=by rw[←E,hc];rfl
   grind
  ·rename_i b hc
   have hb:ev (H9 ⟨l,df⟩) c= .bool b:=by rw[←E,hc];rfl
   obtain⟨s,h1,h2,h3⟩:=QB h;refine⟨s,?_,h3⟩;simp only[hb];cases b
   ·simp only[F6,E4];rw[h2 rfl];exact FE (hG.arm hb) _
   simp only[C7];rw[h1 rfl];exact FE (hG.arm hb) _
  grind
 ·split at h
  ·rename_i h1;rw[E]at h1;exact⟨_,⟨h1,by rw[E];rfl⟩,h⟩
  grind
 ·obtain⟨v,h1,h2⟩:=Oo hT h
  rw[Ep]at h1;exact⟨.v v,h1,h2⟩
 ·obtain⟨v,h1,h2⟩:=Ja hT h
  rw[Ep]at h1;exact⟨.v v,h1,h2⟩
 ·obtain⟨v,h1,h2⟩:=Vb hT h
  rw[E,E]at h1;exact⟨.v v,h1,h2⟩
 ·obtain⟨v,h1,h2⟩:=LB hT h
  rw[E]at h1;exact⟨.v v,h1,h2⟩
 ·grind
 ·obtain⟨v,h1,h2⟩:=RH hT h
  rw[E,E]at h1;exact⟨.v v,h1,h2⟩
 ·grind [TY]
 ·obtain⟨v,h1,h2⟩:=Ws hT h
  rw[E]at h1;exact⟨.v v,h1,h2⟩
 ·obtain⟨v,h1,h2⟩:=h
  rw[E,E]at h1;exact⟨.v v,h1,h2⟩
 ·split at h
  ·rename_i I hI
   split at h
   ·rename_i hn;exact⟨_,⟨(G8 hT hI).nif hn,by rw[E];rfl⟩,h⟩
   grind
  grind
 ·grind [Sl.V]
 ·split at h
  ·rename_i id l0 n hx;obtain⟨a,b,c,y,h1,h2,h3,h4,h5⟩:=Tx hT h
   rw[Eo]at h1 h2 h3
   rw[E]at hx
   exact⟨.v y,by simp only[h1,h2,h3,hx];exact .inr h4,h5⟩
  obtain⟨a,b,c,y,h1,h2,h3,h4,h5⟩:=UX hT h
  rw[Eo]at h1 h2 h3
  rw[E]at h4
  exact⟨.v y,by simp only[h1,h2,h3];exact .inl h4,h5⟩
 ·obtain⟨v,h1,h2⟩:=JI hT h
  rw[E]at h1;exact⟨.v v,h1,h2⟩
 ·obtain⟨v,h1,h2⟩:=On hT h
  rw[E]at h1;exact⟨.v v,h1,h2⟩
 ·split at h
  ·rename_i id lo n hx
   unfold AQ4 at h
   split at h
   ·rename_i i hi
    split at h
    ·exact h.elim
    rename_i I hI
    split at h
    ·rename_i e he
     split at h
     ·exact h.elim
     rename_i J hJ;obtain⟨⟨xs,hk⟩,hb,h⟩:=h
     rw[E]at hx hi
     refine⟨.v _,?_,h⟩;simp only[hi,hx];refine .inr ?_;simp only[ZW,(G8 hT hI).sl,he,Hf,hk,(G8 hT hJ).sz,Ar.ofs_eq];rw[A2 ⟨hb,trivial⟩];rfl
    grind
   grind
  obtain⟨ki,j,u,y,h1,h2,h4,h3⟩:=Pw hT h
  rw[E]at h1 h2
  exact⟨.v y,by simp only[h1];exact .inl ⟨u,h2,h4⟩,h3⟩
 ·obtain⟨ki,j,y,h1,h2,h3⟩:=Vc hT h
  rw[E]at h1 h2
  exact⟨.v y,by simp only[h1];exact h2,h3⟩
 ·split at h
  ·rename_i cs hc
   rw[E]at hc
   obtain⟨y,h1,h2⟩:=Fo h;exact⟨.v y,by simp only[hc];exact h1,h2⟩
  grind
 ·rename_i c
  split at h
  ·rename_i b hb
   split at h
   ·rename_i w hid
    rw[Em]at hid
    obtain⟨v,h1,h2⟩:=QC hT hid h;exact⟨.v v,by simp only[hb];exact .inr h1,h2⟩
   obtain⟨v,h1,h2⟩:=KD hT h
   rw[Em]at h1
   exact⟨.v v,by simp only[hb];exact .inl h1,h2⟩
  grind
 grind
end
end Go.Ab
namespace Go.Ab
open Go.RowKit
variable [M9][Ar]
def Ek (d:Option Tmp)(s:Sl)(l:Fl):Fl:=
 match d with
 |some d=>(d,s)::l
 |none=>l
section
variable (E:GF)(T:Ix)(nt:Nat)(A:Nat→Bool)(Z:Nat→List Nat)
def Ad1 (H:A5) (k:V→A5→Prop) (ts:List TypeId) (vs:List V):Prop:=
 match ts,vs with
 | [sT, yT],[.sl xs tl,.sl ys _]=>
  (match tg T sT,tg T yT with
   | some I,some I2=>
    (match I.sl,I2.sl with
     | some e,some _=>
      (match tg T e with
       | some J=>
        (match J.ze with
         |some z=>if 0<J.sz∧0<J.by_∧z.one=true∧z.cells.length=J.sz then E.appn J.sz J.by_ H tl xs ys k else False
         |none=>False)
       |none=>False)
     |_,_=>False)
   |_,_=>False)
 |_,_=>False
def Wt (H:A5) (k:V→A5→Prop) (ts:List TypeId) (vs:List V):Prop:=
 match ts,vs with
 | [sT, yT],[.sl xs tl,.sl ys _]=>
  (match tg T sT,tg T yT with
   | some I,some I2=>
    (match I.sl,I2.sl with
     | some e,some _=>
      (match tg T e with
       | some J=>
        (match J.ze with
         |some z=>if 0<J.sz∧0<J.by_∧z.one=true∧z.cells.length=J.sz then E.appw J.sz J.by_ H tl xs ys k else False
         |none=>False)
       |none=>False)
     |_,_=>False)
   |_,_=>False)
 |_,_=>False
def Ay7 (a:Bool)(vs:List V):Bool:=
 match vs with
 | .own _ _ _::_=>true
 |_=>a
def Wu (H : A5) (k:V→A5→Prop) (ts:List TypeId) (vs:List V):Prop:=
 match ts,vs with
 | [sT, yT],[x,y]=>
  (match tg T sT,tg T yT with
   | some I,some I2=>
    (match I.sl with
     | some e=>
      (match tg T e with
       | some J=>
        (match J.ze with
         | some z=>
          if 0<J.sz∧0<J.by_∧z.one=true∧z.cells.length=J.sz then
           (match I2.sl,I2.ik,y with
            |some _,_,y=>E.oapp J.sz J.by_ z H x y k
            |none,some _,.int _ m=>E.oappz J.sz J.by_ z H x m k
            |none,none,.str s=>(match I2.st,J.sz with|true,1=>E.oapps J.by_ z H x s k|_,_=>False)
            |_,_,_=>False)
          else False
         |none=>False)
       |none=>False)
     |_=>False)
   |_,_=>False)
 |_,_=>False
def AQ7 (H:A5) (k:V→A5→Prop) (ts:List TypeId) (vs:List V):Prop:=
 match ts,vs with
 | [sT,_],[.own id lo n,y]=>
  (match tg T sT with
   | some I=>
    (match I.sl with
     |some e=>(match tg T e with|some J=>if 0<J.sz then E.ocopy J.sz H (.own id lo n) y k else False|none=>False)
     |_=>False)
   |_=>False)
 |_,_=>False
def Au9 (H:A5) (k:V→A5→Prop) (ts:List TypeId) (vs:List V):Prop:=
 match ts,vs with
 | [sT],[.own id lo n]=>
  (match tg T sT with
   | some I=>
    (match I.sl with
     | some e=>
      (match tg T e with
       |some J=>(match J.ze with|some z=>if 0<J.sz∧z.one=true∧z.cells.length=J.sz then E.oclear J.sz z H (.own id lo n) fun H'=>k (.tup []) H' else False|none=>False)
       |none=>False)
     |_=>False)
   |_=>False)
 |_,_=>False
def AQ5 (t:Nat) (H:A5) (k:V→A5→Prop) (l c:V):Prop:=
 match l,c with
 | .int _ n,.int _ m=>
  (match tg T t with
   | some I=>
    (match I.sl with
     | some e=>
      (match tg T e with
       | some J=>
        (match J.ze with
         |some z=>if 0<J.sz∧0<J.by_∧z.one=true∧z.cells.length=J.sz then E.omk J.sz J.by_ z n m H k else False
         |none=>False)
       |none=>False)
     |none=>False)
   |none=>False)
 |_,_=>False
def AH9 (t:Nat)(H:A5)(k:Sl→A5→Prop):Prop:=
 match tg T t with
 |some I=>(match I.sl with|some e=>(match tg T e with|some J=>E.onil J.sz H fun v H'=>k (.v v) H'|none=>False)|none=>False)
 |none=>False
def xlit (t n:Nat) (H:A5) (parts:List (Nat×V)) (k:Sl→A5→Prop):Prop:=
 match tg T t with
 |none=>False
 | some I=>
  match I.sl with
  |none=>False
  | some e=>
   match tg T e with
   |none=>False
   |some J=>
    match J.ze with
    |none=>False
    |some _=>if n*J.sz≤16777216∧parts.length=n∧DD J.sz 0 parts=true then E.olit J.sz H (parts.map fun q=>q.2) fun v H'=>k (.v v) H' else False
def xop (G:List (Nat×Bool)) (o:Oper) (l:Fl) (H:A5) (k:Sl→A5→Prop):Prop:=
 match o.op with
 | .alloc t=>
  (match tg T t with
   | some I=>
    (match I.ze with
     | some z=>
      (match A (o.dst.getD 0+5000000),Me z with
       |true,true=>(match I.sl with|some e=>(match tg T e with|some J=>E.oalloc J.sz H fun id H'=>k (.v (.ref id 0)) H'|none=>False)|none=>False)
       |_,_=>(match z.one with|true=>E.alloc H z.cells fun id H'=>(match A (o.dst.getD 0+10000000)with|true=>E.wkB H' id fun H2=>k (.v (.ref id 0)) H2|false=>k (.v (.ref id 0)) H')|false=>False))
     |none=>False)
   |none=>False)
 | .box _ x=>
  match A (o.dst.getD 0+1000000)with
  |true=>E.need ((V6 G l x).V.one=true∧(V6 G l x).V.cells=[(V6 G l x).V]) fun _=>(match A (o.dst.getD 0)with|true=>E.alloc H [(V6 G l x).V] fun id H'=>k (.v (.ref id 0)) H'|false=>k (.v (.eref [(V6 G l x).V] 0)) H)
  |false=>
  (match(V6 G l x).V.one with
   |true=>(match A (o.dst.getD 0)with|true=>E.alloc H (V6 G l x).V.cells fun id H'=>k (.v (.ref id 0)) H'|false=>k (.v (.eref (V6 G l x).V.cells 0)) H)
   |false=>False)
 | .store t x y=>
  (match tg T t with
   | some I=>
    (match(V6 G l x).V with
     | .ref id off=>
      (match(V6 G l y).V.one with
       | true=>
        (match Nat.beq (V6 G l y).V.cells.length I.sz with
         |true=>E.store H id off I.sz (V6 G l y).V.cells fun H'=>k (.v .bad) H'
         |false=>False)
       |false=>False)
     | .elem id i esz off=>E.ostore H id i esz I.sz off (V6 G l y).V fun H'=>k (.v .bad) H'
     |_=>False)
   |none=>False)
 | .binOp op t x y _=>
  (match Ai6 op,Me (V6 G l y).V with
   |some q,true=>(match tg T t with|some I=>(match I.sl with|some _=>E.nilc (V6 G l x).V (fun _=>k (.b q) H) (fun _=>k (.b (!q)) H)|none=>xq E T G o l H fun s=>k s H)|none=>False)
   |_,_=>xq E T G o l H fun s=>k s H)
 | .makeSlice t x y=>AQ5 E T t H (fun v H'=>k (.v v) H') (V6 G l x).V (V6 G l y).V
 | .assign x=>(match A (o.dst.getD 0+6000000),AN3 x with|true,true=>(match Me (V6 G l x).V with|true=>AH9 E T o.type H k|false=>k (V6 G l x) H)|_,_=>k (V6 G l x) H)
 | .move x=>(match A (o.dst.getD 0+6000000),AN3 x with|true,true=>(match Me (V6 G l x).V with|true=>AH9 E T o.type H k|false=>k (V6 G l x) H)|_,_=>k (V6 G l x) H)
 | .buildSlice t n ps=>
  (match A (o.dst.getD 0+6000000)with
   |true=>xlit E T t n H (ps.toList.map fun p=>(p.1,(V6 G l p.2).V)) k
   |false=>Jb T t n (ps.toList.map fun p=>(p.1,(V6 G l p.2).V)) fun v=>k (.v v) H)
 | .makeMap _ r=>(match r with|none=>E.mmk H fun v H'=>k (.v v) H'|some _=>False)
 | .mapUpdate t x y z=>E.mset t H (V6 G l x).V (V6 G l y).V (V6 G l z).V fun H'=>k (.v .bad) H'
 | .insert t x y z=>E.mset t H (V6 G l x).V (V6 G l y).V (V6 G l z).V fun H'=>k (.v .bad) H'
 | .range t x=>E.mrg t H (V6 G l x).V fun v H'=>k (.v v) H'
 | .next x s=>(match s with|false=>E.mnx H (V6 G l x).V fun v H'=>k (.v v) H'|true=>False)
 | .entry x=>E.men H (V6 G l x).V fun v H'=>k (.v v) H'
 | .call c=>
  (match c.callee with
   | .value x=>E.call (V6 G l x).V (c.args.toList.map fun x=>(V6 G l x).V) H fun v H'=>k (.v v) H'
   | .builtin .append=>
    (match Ay7 (A (o.dst.getD 0)) (c.args.toList.map fun x=>(V6 G l x).V)with
     |true=>Wu E T H (fun v H'=>k (.v v) H') c.argTypes.toList (c.args.toList.map fun x=>(V6 G l x).V)
     | false=>
      (match A (o.dst.getD 0+4000000)with
       |true=>Wt E T H (fun v H'=>k (.v v) H') c.argTypes.toList (c.args.toList.map fun x=>(V6 G l x).V)
       |false=>Ad1 E T H (fun v H'=>k (.v v) H') c.argTypes.toList (c.args.toList.map fun x=>(V6 G l x).V)))
   | .builtin .copy=>AQ7 E T H (fun v H'=>k (.v v) H') c.argTypes.toList (c.args.toList.map fun x=>(V6 G l x).V)
   | .builtin .clear=>Au9 E T H (fun v H'=>k (.v v) H') c.argTypes.toList (c.args.toList.map fun x=>(V6 G l x).V)
   | .builtin .delete=>E.mdel c.argTypes.toList H (c.args.toList.map fun x=>(V6 G l x).V) fun v H'=>k (.v v) H'
   | .builtin _=>xq E T G o l H fun s=>k s H
   |_=>False)
 |_=>xq E T G o l H fun s=>k s H
def ZS (o o2:Oper):Option (Nat×TypeId×TypeId×Operand):=
 match o.op,o.dst,o.guard with
 | .alloc t,some d,none=>
  (match o2.op,o2.dst,o2.guard with
   | .store t2 (.tmp d2) x,none,none=>
    (match A d,Nat.beq d d2 with
     |false,true=>(match x with| .tmp d3=>(match Nat.beq d d3 with|true=>none|false=>some (d,t,t2,x))|_=>some (d,t,t2,x))
     |_,_=>none)
   |_,_,_=>none)
 |_,_,_=>none
def AR2 (l:Fl) (t t2:TypeId) (x:Operand):Option (List V):=
 match tg T t,tg T t2 with
 | some I,some I2=>
  (match I.ze with
   |some z=>if z.one=true∧(V6 [] l x).V.one=true∧(V6 [] l x).V.cells.length=I2.sz∧I2.sz≤z.cells.length then some (W8 z.cells 0 (V6 [] l x).V.cells)else none
   |none=>none)
 |_,_=>none
def HN (ops : Array Oper) (o:Oper):Nat→Fl→(List (Nat×Bool)→Fl→(Sl→Sl)→Prop)→(Fl→Prop)→Prop
 | n, l, go, skip=>
  match o.guard with
  |none=>go [] l Sl.n
  | some (j, want)=>
   (match (ops[j]?).bind (·.dst)with
    |none=>False
    | some d =>
     (match Xx [] l d with
      |some (.b c)=>(match c==want with|true=>go [] l Sl.n|false=>skip l)
      | some (.v (.bool c))=>
       (match Md [(d,want)] o l with
        |true=>go [(d,want)] l fun s=>.g d want s.V
        | false=>
         E.br c (fun _=>match want with|true=>go [] (NC l d true) Sl.n|false=>skip (NC l d true))
          (fun _=>match want with|false=>go [] (NC l d false) Sl.n|true=>skip (NC l d false)))
      |some (.v (.tup _))=>skip l
      |some _=>False
      | none =>
       (match lk l d with
        | .g j' _ (.bool _)=>
         (match Ar2 l d j' with
          | true=>
           (match Md [(d,want)] o l with
            |true=>go [(d,want)] l fun s=>.g d want s.V
            | false=>
             (match lk l j',n with
              | .v (.bool c),n+1=>E.br c (fun _=>HN ops o n (NC l j' true) go skip) (fun _=>HN ops o n (NC l j' false) go skip)
              |_,_=>False))
          |false=>False)
        |_=>False)))
def Om :Option (Nat×Int×Int×List V)→List Nat→Fl→A5→(Fl→A5→Prop)→Prop
 |_,[],l,H,k=>k l H
 | some (id,lo,n,xs),d::ds,l,H,k=>
  (match lk l d with
   | .v (.own id' lo' n')=>E.need (id'=id∧lo'=lo∧n'=n) fun _=>Om (some (id,lo,n,xs)) ds ((d,.v (.sl xs .ro))::l) H k
   |_=>Om none ds l H k)
 | none,d::ds,l,H,k=>
  match decide (1000000≤d)with
  | true=>
   (match lk l (d % 1000000)with
    | .v (.ref id 0)=>
     (match decide (100000000≤d)with
      |true=>E.adoptIn H id ((d - 100000000) / 1000000) fun H'=>Om none ds l H' k
      |false=>E.frzIn H id (d / 1000000 - 1) fun H'=>Om none ds l H' k)
    |_=>False)
  |false=>
   match lk l d with
   | .v (.ref id 0)=>E.frzL H id fun cs H'=>Om none ds ((d,.v (.eref cs 0))::l) H' k
   | .v (.own id lo n)=>E.ofrz H id lo n fun xs H'=>Om (some (id,lo,n,xs)) ds ((d,.v (.sl xs .ro))::l) H' k
   | .v (.sl _ _)=>Om none ds l H k
   |_=>False
def Bc5 (o:Oper):List Nat:=
 match o.dst with
 |some q=>Z q
 |none=>[]
def Ol (ops:Array Oper):List Oper→Fl→A5→(Fl→A5→Prop)→Prop
 |[],l,H,K=>K l H
 | o ::rest,l,H,K=>
  match Hq nt o.dst with
  |false=>False
  | true=>
   Om E none (Bc5 Z o) l H fun l H=>
   match rest with
   |[]=>HN E ops o 4 l (fun G l' wr=>xop E T A G o l' H fun s H'=>K (Ek o.dst (wr s) l') H') fun l'=>K (Ek o.dst (.v (.tup [])) l') H
   | o2::rest'=>
    (match ZS A o o2 with
     | some (d,t,t2,x)=>
      (match AR2 T l t t2 x with
       |some cs=>Ol ops rest' ((d,.v (.eref cs 0))::l) H K
       |none=>False)
     |none=>HN E ops o 4 l (fun G l' wr=>xop E T A G o l' H fun s H'=>Ol ops (o2::rest') (Ek o.dst (wr s) l') H' K) fun l'=>Ol ops (o2::rest') (Ek o.dst (.v (.tup [])) l') H K)
end
section
variable {P:Program}{nt:Nat}{rd:Option Nat}{T:Ix}{A:Nat→Bool}{df:List Nat}
theorem Ag8 (l:Fl) (d t:Nat) (s:Sl):Dp ((d,s)::l) t=if t=d then slV l s else Dp l t:=by
 simp only[Dp]
 by_cases h:t=d
 ·subst h;simp only[Nat.beq_refl,C7];cases s<;>rfl
 have:Nat.beq t d=false:=by
  cases hb:Nat.beq t d with
  |false=>rfl
  |true=>simp_all
 grind
theorem O3 (l:Fl) (d:Option Tmp) (s:Sl):H9 ⟨Ek d s l,df⟩=(H9 ⟨l,df⟩).put d (slV l s):=by
 cases d with
 |none=>rfl
 |some d=>
  simp only[H9,Ek,Fr.put,Fr.mk.injEq,K6]
  funext t
  exact Ag8 l d t s
theorem Fp {ops:Array Oper} {o:Oper} {go:List (Nat×Bool)→Fl→(Sl→Sl)→Prop} {skip:Fl→Prop}:∀(n:Nat) (l:Fl),HN (I8 P nt rd) ops o n l go skip→
 ∃l',(∀t,Dp l' t=Dp l t)∧((Cd ops (H9 ⟨l,df⟩) o=some true∧∃G wr,KR G l'∧(∀s,slV l' (wr s)=s.V)∧go G l' wr)∨
  (Cd ops (H9 ⟨l,df⟩) o=some false∧(skip l'∨∃G d want,Md G o l'=true∧isB (Dp l' d) want=false∧go G l' fun s=>.g d want s.V)))
 | n, l,h=>by
  unfold HN at h
  split at h
  ·rename_i hg;exact⟨l,fun _=>rfl,.inl ⟨by simp[Cd,hg],[],_,KR.nil,fun s=>by cases s<;>rfl,h⟩⟩
  rename_i j want hg
  split at h
  ·exact h.elim
  rename_i d hjd
  have gv:∀x,Dp l d=x→Cd ops (H9 ⟨l,df⟩) o=match x with| .bool c=>some (c==want)| .tup _=>some false|_=>none:=fun x hx=>by
   simp only[Cd,hg,hjd,H9,hx]
   grind
  have idok:∀(l':Fl) (s:Sl),slV l' s.n=s.V:=fun l' s=>by cases s<;>rfl
  have tot:∀c,Dp l d= .bool c→Md [(d,want)] o l=true→go [(d,want)] l (fun s=>.g d want s.V)→∃l',(∀t,Dp l' t=Dp l t)∧((Cd ops (H9 ⟨l,df⟩) o=some true∧∃G wr,KR G l'∧(∀s,slV l' (wr s)=s.V)∧go G l' wr)∨
   (Cd ops (H9 ⟨l,df⟩) o=some false∧(skip l'∨∃G d want,Md G o l'=true∧isB (Dp l' d) want=false∧go G l' fun s=>.g d want s.V))):=by
   intro c hc ht h;have:=gv _ hc
   simp only at this
   cases hcw:c==want with
   |true=>exact⟨l,fun _=>rfl,.inl ⟨by rw[this,hcw],_,_,KR.nil.add (by rw[hc];simp_all[isB]),fun s=>by simp only[slV,hc,isB,hcw,cond_true],h⟩⟩
   |false=>exact⟨l,fun _=>rfl,.inr ⟨by rw[this,hcw],.inr ⟨_,d,want,ht,by rw[hc];simp_all[isB],h⟩⟩⟩
  split at h
  ·rename_i c hc;have hv:Dp l d= .bool c:=(LV KR.nil hc).1.symm;have:=gv _ hv
   split at h
   ·rename_i e;exact⟨l,fun _=>rfl,.inl ⟨by rw[this];grind,[],_,KR.nil,idok l,h⟩⟩
   grind
  ·rename_i c hc;have hv:Dp l d= .bool c:=(LV KR.nil hc).1.symm;have hgv:=gv _ hv
   split at h
   ·simp_all
   have e:=Rj l d c hv;obtain⟨h1,h2⟩:=h;cases c
   ·have h:=h2 rfl;cases want
    ·exact⟨_,e,.inl ⟨hgv,[],_,KR.nil,idok _,h⟩⟩
    grind
   have h:=h1 rfl;cases want
   ·grind
   exact⟨_,e,.inl ⟨hgv,[],_,KR.nil,idok _,h⟩⟩
  ·rename_i vs hc;have hv:Dp l d= .tup vs:=(LV KR.nil hc).1.symm
   grind
  ·exact h.elim
  split at h
  ·rename_i j' w' cx hl
   split at h
   ·rename_i hf;have hv:=VU l d j' w' _ hl hf
    split at h
    ·rename_i ht
     cases hb:isB (Dp l j') w' with
     |true=>
      rw[hb]at hv
      simp_all
     |false=>
      rw[hb]at hv
      have hv:Dp l d= .tup []:=hv;exact⟨l,fun _=>rfl,.inr ⟨gv _ hv,.inr ⟨_,d,want,ht,by rw[hv];rfl,h⟩⟩⟩
    split at h
    ·rename_i c m hc;have hvj:=Mb l j' _ hc (fun _ _ _ h=>by cases h);obtain⟨h1,h2⟩:=h
     have key:∀b,c=b→HN (I8 P nt rd) ops o m (NC l j' b) go skip→∃l',(∀t,Dp l' t=Dp l t)∧((Cd ops (H9 ⟨l,df⟩) o=some true∧∃G wr,KR G l'∧(∀s,slV l' (wr s)=s.V)∧go G l' wr)∨
      (Cd ops (H9 ⟨l,df⟩) o=some false∧(skip l'∨∃G d want,Md G o l'=true∧isB (Dp l' d) want=false∧go G l' fun s=>.g d want s.V))):=by
      intro b hb h
      have hk:Dp l j'= .bool b:=by rw[hvj,hb];rfl
      have e:=Rj l j' b hk;obtain⟨l',e',h⟩:=Fp m _ h
      rw[PT hk]at h
      grind
     cases c
     ·simp_all
     simp_all
    grind
   grind
  grind
theorem M1.whole {y:V} {vs:List V} (h:M1 y.cells vs) (h1:y.one=true):∃z,Ew y z∧z.cells=vs:=by
 have one:∀{y:V} {vs:List V},M1 [y] vs→(∀z,Ew y z→z.cells=[z])→∃z,Ew y z∧z.cells=vs:=by
  intro y vs h hz
  cases h with
  |cons q r=>cases r;grind
 cases y with
 |agg cs=>exact⟨.agg vs,.agg h,rfl⟩
 |tup vs=>cases h1
 |_=>exact one h fun z hz=>by cases hz<;>rfl
theorem Pu (hT:KP P T) {G:List (Nat×Bool)} {o:Oper} {l:Fl} (hG:KR G l) {H:A5} {k:Sl→A5→Prop} (h:xop (I8 P nt rd) T A G o l H k):Iw P A o (ev (H9 ⟨l,df⟩)) H fun v H'=>∃s:Sl,v=s.V∧k s H':=by
 have E:∀x,(V6 G l x).V=ev (H9 ⟨l,df⟩) x:=fun x=>FE hG x;have Em:∀xs:List Operand,(xs.map fun x=>(V6 G l x).V)=xs.map (ev (H9 ⟨l,df⟩)):=fun xs=>BM fun p _=>E p
 have quiet:xq (I8 P nt rd) T G o l H (fun s=>k s H)→∃v,Oj P o (ev (H9 ⟨l,df⟩)) H v∧∃s:Sl,v=s.V∧k s H:=fun h=>by
  obtain⟨s,h1,h2⟩:=Ok (df:=df) hT hG h
  grind
 unfold xop at h
 split at h
 ·rename_i t ho;simp only[Iw,ho]
  split at h
  ·rename_i I hI
   split at h
   ·rename_i z hz
    have ez:=(G8 hT hI).ze;rw[hz]at ez;simp only[CR]at ez
    split at h
    ·rename_i hA hn
     split at h
     ·split at h
      ·rename_i J _
       have e2:z= .sl [] .nil:=by
        unfold Me at hn
        grind
       rw[e2]at ez
       exact .inr ⟨ez,J.sz,fun q id hq hid=>⟨.v (.ref id 0),rfl,h q id hq hid⟩⟩
      grind
     grind
    split at h
    ·rename_i h1;refine .inl ⟨z,ez,h1,fun id hid=>?_⟩;have h:=h id hid
     split at h
     ·obtain⟨cs,ds,q1,q2,q3⟩:=h
      rw[D6]at q1;cases q1
      rw[AM]at q3
      grind [Sl.V]
     exact⟨_,.refl _,.v (.ref id 0),rfl,h⟩
    grind
   grind
  grind
 ·rename_i t x ho;simp only[Iw,ho]
  split at h
  ·rw[E]at h
   obtain⟨⟨h1,h2⟩,h⟩:=h;refine⟨h1,?_⟩;rw[h2]
   split at h
   ·rename_i hA;rw[A2 hA];exact fun id hid=>⟨.v (.ref id 0),rfl,h id hid⟩
   grind [Sl.V]
  split at h
  ·rename_i h1
   rw[E]at h1
   refine⟨h1,?_⟩
   split at h
   ·rename_i hA;rw[A2 hA];intro id hid;have:=h id hid
    rw[E]at this
    exact⟨.v (.ref id 0),rfl,this⟩
   rename_i hA;rw[A1 (by rw[hA];simp)]
   rw[E]at h
   grind [Sl.V]
  grind
 ·rename_i t x y ho;simp only[Iw,ho]
  split at h
  ·rename_i I hI
   split at h
   ·rename_i id off hx
    split at h
    ·rename_i h1
     split at h
     ·rename_i h2;obtain⟨cs,vs',hle,hk,h3,h⟩:=h
      rw[E]at hx h1 h2 hle
      obtain⟨z,hz,hzc⟩:=hle.whole h1;subst hzc;refine .inl ⟨z,_,hz,?_,.v .bad,rfl,h⟩;simp only[Nz,(G8 hT hI).sz,hx,hk];rw[A2 ⟨hz.one h1,by rw[←hz.cells.length];simp_all,GQ h3⟩]
     grind
    grind
   ·rename_i id i esz off hx;obtain⟨xs,y',q1,q2,q3,q4,q5,q6,h⟩:=h
    rw[E]at hx q1
    refine .inr ⟨y',_,q1,?_,.v .bad,rfl,h⟩;simp only[Vi,(G8 hT hI).sz,hx,Hf,q5];rw[A2 ⟨q6,trivial,q2,q3,q4⟩]
   grind
  grind
 ·rename_i op t x y ty ho
  have old:xq (I8 P nt rd) T G o l H (fun s=>k s H)→Iw P A o (ev (H9 ⟨l,df⟩)) H fun v H'=>∃s:Sl,v=s.V∧k s H':=fun h=>by
   obtain⟨v,h1,h2⟩:=quiet h;simp only[Iw,ho]
   simp_all
  split at h
  ·rename_i q hq hn
   split at h
   ·rename_i I hI
    split at h
    ·rename_i e he;obtain⟨p,h1,h2,h3⟩:=h
     rw[E]at h1 hn
     simp only[Iw,ho];refine .inr ⟨q,e,p,hq,(G8 hT hI).sl.trans he,h1,?_,fun hx=>⟨.b q,rfl,h2 hx⟩,⟨.b (!q),rfl,h3⟩⟩
     unfold Me at hn
     grind
    grind
   grind
  grind
 ·rename_i t x y ho;simp only[Iw,ho]
  rw[E,E]at h
  refine .inr ?_
  unfold AQ5 at h
  unfold QL
  split at h
  ·rename_i k1 n k2 m e1 e2;rw[e1,e2]
   simp only
   split at h
   ·rename_i I hI
    split at h
    ·rename_i e he
     split at h
     ·rename_i J hJ
      split at h
      ·rename_i z hz
       have ez:=(G8 hT hJ).ze;rw[hz]at ez;simp only[CR]at ez
       split at h
       ·rename_i hc;obtain⟨c1,c2,c3,c4⟩:=hc;obtain⟨⟨q1,q2,q3⟩,ys,hle,h⟩:=h;exact⟨e,J.sz,J.by_,z,(G8 hT hI).sl.trans he,(G8 hT hJ).sz,c1,(G8 hT hJ).by_,c2,ez,c3,c4,q1,q2,q3,fun id hid=>⟨id,J.sz,_,ys,D6 _ _ _,hle,.v _,rfl,by rw[AM];grind⟩⟩
       grind
      grind
     grind
    grind
   grind
  grind
 ·rename_i x ho;simp only[Iw,ho]
  split at h
  ·split at h
   ·rename_i hn
    rw[E]at hn
    unfold AH9 at h
    split at h
    ·split at h
     ·split at h
      ·rename_i J _;refine .inr ⟨?_,J.sz,fun q hq=>⟨.v _,rfl,h q hq⟩⟩
       unfold Me at hn
       grind
      grind
     grind
    grind
   grind
  grind
 ·rename_i x ho;simp only[Iw,ho]
  split at h
  ·split at h
   ·rename_i hn
    rw[E]at hn
    unfold AH9 at h
    split at h
    ·split at h
     ·split at h
      ·rename_i J _;refine .inr ⟨?_,J.sz,fun q hq=>⟨.v _,rfl,h q hq⟩⟩
       unfold Me at hn
       grind
      grind
     grind
    grind
   grind
  grind
 ·rename_i t n ps ho
  have Ep:∀ps:List (Nat×Operand),(ps.map fun p=>(p.1,(V6 G l p.2).V))=ps.map fun p=>(p.1,ev (H9 ⟨l,df⟩) p.2):=fun ps=>BM fun p _=>by rw[E]
  split at h
  ·simp only[Iw,ho];refine .inr ?_
   rw[Ep]at h
   unfold xlit at h
   split at h
   ·exact h.elim
   rename_i I hI
   split at h
   ·exact h.elim
   rename_i e he
   split at h
   ·exact h.elim
   rename_i J hJ
   split at h
   ·exact h.elim
   rename_i z hz
   have ez:=(G8 hT hJ).ze;rw[hz]at ez;simp only[CR]at ez
   split at h
   ·rename_i hc;obtain⟨ys,hle,h⟩:=h;refine⟨e,J.sz,_,ys,?_,(G8 hT hI).sl.trans he,(G8 hT hJ).sz,hle,fun q hq=>⟨.v _,rfl,h q hq⟩⟩;simp only[BG,(G8 hT hI).sl,he,(G8 hT hJ).sz,ez];rw[A2 hc]
   grind
  obtain⟨v,h1,h2⟩:=Ja hT h
  rw[Ep]at h1
  simp only[Iw,ho];exact .inl ⟨v,by simp_all[Oj],.v v,rfl,h2⟩
 ·rename_i t r ho;simp only[Iw,ho]
  split at h
  ·exact⟨rfl,Ap2 (K:=fun v H'=>k (.v v) H') h fun v H' hk=>⟨.v v,rfl,hk⟩⟩
  grind
 ·rename_i t x y z ho;simp only[Iw,ho]
  rw[E,E,E]at h
  exact Hu (K:=fun _ H'=>k (.v .bad) H') h fun H' hk=>⟨.v .bad,rfl,hk⟩
 ·rename_i t x y z ho;simp only[Iw,ho]
  rw[E,E,E]at h
  exact Hu (K:=fun _ H'=>k (.v .bad) H') h fun H' hk=>⟨.v .bad,rfl,hk⟩
 ·rename_i t x ho;simp only[Iw,ho]
  rw[E]at h
  exact Xq (K:=fun v H'=>k (.v v) H') h fun v H' hk=>⟨.v v,rfl,hk⟩
 ·rename_i x s ho;simp only[Iw,ho]
  cases s with
  |true=>exact h.elim
  |false=>
   rw[E]at h
   exact⟨rfl,ZE (K:=fun v H'=>k (.v v) H') h fun v H' hk=>⟨.v v,rfl,hk⟩⟩
 ·rename_i x ho;simp only[Iw,ho]
  rw[E]at h
  exact Yh (K:=fun v H'=>k (.v v) H') h fun v H' hk=>⟨.v v,rfl,hk⟩
 ·rename_i c ho
  split at h
  ·rename_i x hc;simp only[Iw,ho,hc]
   rw[E,Em]at h
   exact DO.mono h fun v H' hk=>⟨.v v,rfl,hk⟩
  ·rename_i hc;simp only[Iw,ho,hc]
   rw[Em]at h
   split at h
   ·refine .inr (.inl ?_)
    unfold Wu at h
    unfold Pm
    split at h
    ·rename_i sT yT x y hts hvs;rw[hts,hvs]
     simp only
     split at h
     ·rename_i I I2 hI hI2
      split at h
      ·rename_i e he
       split at h
       ·rename_i J hJ
        split at h
        ·rename_i z hz
         have ez:=(G8 hT hJ).ze;rw[hz]at ez;simp only[CR]at ez
         split at h
         ·rename_i hc;obtain⟨c1,c2,c3,c4⟩:=hc;refine⟨e,J.sz,J.by_,z,(G8 hT hI).sl.trans he,(G8 hT hJ).sz,c1,(G8 hT hJ).by_,c2,ez,c3,c4,?_⟩
          split at h
          ·rename_i he2;obtain⟨ys',q1,h⟩:=h;exact .inl ⟨by rw[(G8 hT hI2).sl,he2];rfl,ys',q1,Gx h fun v H' hk=>⟨.v _,rfl,hk⟩⟩
          ·rename_i k0 he2 hik;have eik:=(G8 hT hI2).ik
           rw[hik]at eik
           obtain⟨q1,h⟩:=h;exact .inr (.inl ⟨⟨_,eik⟩,_,_,rfl,q1.1,q1.2,Gx h fun v H' hk=>⟨.v _,rfl,hk⟩⟩)
          ·split at h
           ·rename_i hst hj1;have est:=(G8 hT hI2).st
            rw[hst]at est
            have h:Hr H (fun v H'=>k (.v v) H') 1 J.by_ z x (FO _):=h
            rw[←hj1]at h
            exact .inr (.inr ⟨MD est,_,rfl,hj1,Gx h fun v H' hk=>⟨.v _,rfl,hk⟩⟩)
           grind
          grind
         grind
        grind
       grind
      grind
     grind
    grind
   split at h
   ·refine .inr (.inr ?_)
    unfold Wt at h
    unfold HB
    split at h
    ·rename_i sT yT xs tl ys tl' hts hvs;rw[hts,hvs]
     simp only
     split at h
     ·rename_i I I2 hI hI2
      split at h
      ·rename_i e e2 he he2
       split at h
       ·rename_i J hJ
        split at h
        ·rename_i z hz
         have ez:=(G8 hT hJ).ze;rw[hz]at ez;simp only[CR]at ez
         split at h
         ·rename_i hc;obtain⟨c1,c2,c3,c4⟩:=hc;obtain⟨xs',ys',l1,l2,k1,k2,k3,k4,k5⟩:=h;exact⟨e,J.sz,J.by_,z,(G8 hT hI).sl.trans he,by rw[(G8 hT hI2).sl,he2];rfl,(G8 hT hJ).sz,c1,(G8 hT hJ).by_,c2,ez,c3,c4,xs',ys',l1,l2,k1,k2,k3,k4,fun e=>⟨_,_,by subst e;rw[F2];exact .ro _ _,fun _ _ hx=>FI hx,⟨.v _,rfl,k5⟩⟩,fun t h1 h2=>⟨_,_,.ro _ _,fun id b hx=>by rw[C2 _ _ fun e=>by simp_all];exact hx,⟨.v _,rfl,k5⟩⟩⟩
         grind
        grind
       grind
      grind
     grind
    grind
   refine .inl ?_
   unfold Ad1 at h
   unfold HB
   split at h
   ·rename_i sT yT xs tl ys tl' hts hvs;rw[hts,hvs]
    simp only
    split at h
    ·rename_i I I2 hI hI2
     split at h
     ·rename_i e e2 he he2
      split at h
      ·rename_i J hJ
       split at h
       ·rename_i z hz
        have ez:=(G8 hT hJ).ze;rw[hz]at ez;simp only[CR]at ez
        split at h
        ·rename_i hc;obtain⟨c1,c2,c3,c4⟩:=hc;obtain⟨xs',ys',l1,l2,k1,k2,k3,k4,k5,k6⟩:=h;exact⟨e,J.sz,J.by_,z,(G8 hT hI).sl.trans he,by rw[(G8 hT hI2).sl,he2];rfl,(G8 hT hJ).sz,c1,(G8 hT hJ).by_,c2,ez,c3,c4,xs',ys',l1,l2,k1,k2,k3,k4,fun e=>⟨.v _,rfl,k5 e⟩,fun t h1 h2=>⟨.v _,rfl,k6 t h1 h2⟩⟩
        grind
       grind
      grind
     grind
    grind
   grind
  ·rename_i hc;simp only[Iw,ho,hc]
   rw[Em]at h
   unfold AQ7 at h
   unfold Yr
   split at h
   ·rename_i sT yT id lo n y hts hvs;rw[hts,hvs]
    simp only
    split at h
    ·rename_i I hI
     split at h
     ·rename_i e he
      split at h
      ·rename_i J hJ
       split at h
       ·rename_i c1;obtain⟨xs,ys',q1,q2,h⟩:=h;exact⟨e,J.sz,xs,ys',(G8 hT hI).sl.trans he,(G8 hT hJ).sz,c1,q1,q2,.v _,rfl,h⟩
       grind
      grind
     grind
    grind
   grind
  ·rename_i hc;simp only[Iw,ho,hc]
   rw[Em]at h
   unfold Au9 at h
   unfold Td
   split at h
   ·rename_i sT id lo n hts hvs;rw[hts,hvs]
    simp only
    split at h
    ·rename_i I hI
     split at h
     ·rename_i e he
      split at h
      ·rename_i J hJ
       split at h
       ·rename_i z hz
        have ez:=(G8 hT hJ).ze;rw[hz]at ez;simp only[CR]at ez
        split at h
        ·rename_i c1;obtain⟨xs,q1,h⟩:=h;exact⟨e,J.sz,z,xs,(G8 hT hI).sl.trans he,(G8 hT hJ).sz,c1.1,ez,c1.2.1,c1.2.2,q1,.v _,rfl,h⟩
        grind
       grind
      grind
     grind
    grind
   grind
  ·rename_i hc;simp only[Iw,ho,hc]
   rw[Em]at h
   exact Pd (K:=fun v H'=>k (.v v) H') h fun v H' hk=>⟨.v v,rfl,hk⟩
  ·rename_i b hb _ _ _ hc;obtain⟨v,h1,h2⟩:=quiet h
   simp only[Oj,ho,hc]at h1
   simp only[Iw,ho,hc]
   grind
  grind
 rename_i n1 n2 n3 n4 n5 n6 n7 n8 n9 n10 n11 n12 n13 n14 n15;obtain⟨v,h1,h2⟩:=quiet h;unfold Iw
 split<;>rename_i ho<;>first|exact⟨v,h1,h2⟩|exact(n1 _ ho).elim|exact(n1 _ _ ho).elim|exact(n1 _ _ _ ho).elim|exact(n1 _ _ _ _ ho).elim|exact(n1 _ _ _ _ _ ho).elim|exact(n2 _ ho).elim|exact(n2 _ _ ho).elim|exact(n2 _ _ _ ho).elim|exact(n2 _ _ _ _ ho).elim|exact(n2 _ _ _ _ _ ho).elim|exact(n3 _ ho).elim|exact(n3 _ _ ho).elim|exact(n3 _ _ _ ho).elim|exact(n3 _ _ _ _ ho).elim|exact(n3 _ _ _ _ _ ho).elim|exact(n4 _ ho).elim|exact(n4 _ _ ho).elim|exact(n4 _ _ _ ho).elim|exact(n4 _ _ _ _ ho).elim|exact(n4 _ _ _ _ _ ho).elim|exact(n5 _ ho).elim|exact(n5 _ _ ho).elim|exact(n5 _ _ _ ho).elim|exact(n5 _ _ _ _ ho).elim|exact(n5 _ _ _ _ _ ho).elim|exact(n6 _ ho).elim|exact(n6 _ _ ho).elim|exact(n6 _ _ _ ho).elim|exact(n6 _ _ _ _ ho).elim|exact(n6 _ _ _ _ _ ho).elim|exact(n7 _ ho).elim|exact(n7 _ _ ho).elim|exact(n7 _ _ _ ho).elim|exact(n7 _ _ _ _ ho).elim|exact(n7 _ _ _ _ _ ho).elim|exact(n8 _ ho).elim|exact(n8 _ _ ho).elim|exact(n8 _ _ _ ho).elim|exact(n8 _ _ _ _ ho).elim|exact(n8 _ _ _ _ _ ho).elim|exact(n9 _ ho).elim|exact(n9 _ _ ho).elim|exact(n9 _ _ _ ho).elim|exact(n9 _ _ _ _ ho).elim|exact(n9 _ _ _ _ _ ho).elim|exact(n10 _ ho).elim|exact(n10 _ _ ho).elim|exact(n10 _ _ _ ho).elim|exact(n10 _ _ _ _ ho).elim|exact(n10 _ _ _ _ _ ho).elim|exact(n11 _ ho).elim|exact(n11 _ _ ho).elim|exact(n11 _ _ _ ho).elim|exact(n11 _ _ _ _ ho).elim|exact(n11 _ _ _ _ _ ho).elim|exact(n12 _ ho).elim|exact(n12 _ _ ho).elim|exact(n12 _ _ _ ho).elim|exact(n12 _ _ _ _ ho).elim|exact(n12 _ _ _ _ _ ho).elim|exact(n13 _ ho).elim|exact(n13 _ _ ho).elim|exact(n13 _ _ _ ho).elim|exact(n13 _ _ _ _ ho).elim|exact(n13 _ _ _ _ _ ho).elim|exact(n14 _ ho).elim|exact(n14 _ _ ho).elim|exact(n14 _ _ _ ho).elim|exact(n14 _ _ _ _ ho).elim|exact(n14 _ _ _ _ _ ho).elim|simp_all|exact(n15 _ _ ho).elim|exact(n15 _ _ _ ho).elim|exact(n15 _ _ _ _ ho).elim|exact(n15 _ _ _ _ _ ho).elim
theorem VR.nil_inv {g:Gh}{w:World}{u:Value}(h:VR g w u (.sl [] .nil)):u= .slice none 0 0:=by
 cases h with
 |sl0 _=>rfl
 |sle ht=>rcases ht with h|⟨h,_⟩<;>cases h
 |sl _ _ _ _ _ _ _ _ ht=>exact ht.elim
theorem Fi {cs:List V}{i j:Nat}{x:V}(hi:i<cs.length):(cs.set i x).getD j .bad=if j=i then x else cs.getD j .bad:=by
 grind
theorem VR.erefLe {g:Gh} {w:World} {v:Value} {cs ds:List V} {off:Nat} (h:VR g w v (.eref cs off)) (hl:M1 cs ds):VR g w v (.eref ds off):=by
 have e:=hl.length
 cases h with
 |eref vs hf hw h1 hv=>
  exact .eref vs (fun j hj=>hf j (by omega)) (fun j hj=>hw j (by omega)) (fun j hj=>h1 j (by omega)) fun j hj=>(hv j (by omega)).le (hl.at j)
theorem CC {w:World} {a:Act}:∀(q:Option (Nat×Int×Int×List V)) (ds:List Nat) (l:Fl) (H:A5) (g:Gh) (k:Fl→A5→Prop),(∀id lo n xs,q=some (id,lo,n,xs)→∀v,VR g w v (.own id lo n)→VR g w v (.sl xs .ro))→Rl g H w→FR nt g w a (H9 ⟨l,df⟩)→Om (I8 P nt rd) q ds l H k→∃g' l' H',Y2 g w g' w∧Rl g' H' w∧FR nt g' w a (H9 ⟨l',df⟩)∧k l' H'
 |q,[],l,H,g,k,_,hR,hF,h=>⟨g,l,H,Y2.refl _ _,hR,hF,by simp_all[Om]⟩
 | some (id,lo,n,xs),d::ds,l,H,g,k,hq,hR,hF,h=>by
  unfold Om at h
  split at h
  ·rename_i id' lo' n' hl;obtain⟨⟨e,e2,e3⟩,h⟩:=h;subst e;subst e2;subst e3
   have hF1:FR nt g w a (H9 ⟨(d,.v (.sl xs .ro))::l,df⟩):=by
    have e:=O3 (df:=df) l (some d) (.v (.sl xs .ro))
    rw[show Ek (some d) (.v (.sl xs .ro)) l=(d,Sl.v (.sl xs .ro))::l from rfl]at e
    rw[e];refine⟨hF.size,fun t=>?_,hF.df⟩;simp only[Fr.put]
    split
    ·rename_i ht;subst ht;have h0:=hF.s t;have e0:(H9 ⟨l,df⟩).s t= .own id' lo' n':=Mb l t _ hl (fun _ _ _ h=>by cases h)
     rw[e0]at h0
     simp_all[slV]
    exact hF.s t
   exact CC _ ds _ _ g k hq hR hF1 h
  exact CC none ds _ _ g k (fun _ _ _ _ h=>by cases h) hR hF h
 | none,d::ds,l,H,g,k,_,hR,hF,h=>by
  unfold Om at h
  split at h
  ·split at h
   ·rename_i id hl
    split at h
    ·obtain⟨cs,sz,hk,hj,h⟩:=h;obtain⟨jl,_⟩:=List.getElem?_eq_some_iff.1 hj;obtain⟨g1,s1,hR1,hn,hv⟩:=Gj hR sz (.inl rfl) (.sl0 rfl:VR g w (.slice none 0 0) (.sl [] .nil))
     have hk1:upd H g.nx (some (.arr sz [])) id=some (.cells cs):=by
      rw[C2 _ _ (fun e=>by rw[e]at hk;rw[hn]at hk;cases hk)];exact hk
     have hR2:=hR1.chgCells hk1 (ds:=cs.set ((d - 100000000) / 1000000) (.own g.nx 0 0)) (by simp) fun j' u hj' hu=>by
      rw[Fi jl]
      split
      ·rename_i e;subst e
       rw[N1,hj]at hu
       rw[VR.nil_inv hu];exact hv
      exact hu
     obtain⟨g2,l2,H2,s2,r⟩:=CC none ds _ _ g1 k (fun _ _ _ _ h=>by cases h) hR2 (hF.mono s1) (h _ hn);exact⟨g2,l2,H2,s1.trans s2,r⟩
    obtain⟨cs,q,lo,n,sz,xs,ys,hk,hj,hq,hle,h⟩:=h;obtain⟨jl,_⟩:=List.getElem?_eq_some_iff.1 hj;obtain⟨g1,s1,hR1,hv⟩:=hR.freezeArr hq
    have hk1:upd H q none id=some (.cells cs):=by
     rw[C2 _ _ (fun e=>by simp_all)];exact hk
    have hR2:=hR1.chgCells hk1 (ds:=cs.set (d / 1000000 - 1) (.sl ys .ro)) (by simp) fun j' u hj' hu=>by
     rw[Fi jl]
     split
     ·rename_i e;subst e
      rw[N1,hj]at hu
      exact(hv _ _ _ hu).le (.sl _ hle)
     exact hu
    obtain⟨g2,l2,H2,s2,r⟩:=CC none ds _ _ g1 k (fun _ _ _ _ h=>by cases h) hR2 (hF.mono s1) h;exact⟨g2,l2,H2,s1.trans s2,r⟩
   grind
  split at h
  ·rename_i id hl;obtain⟨cs0,cs,hk,hle,h⟩:=h;obtain⟨g1,s1,hR1,hv⟩:=hR.freeze hk
   have hF1:FR nt g1 w a (H9 ⟨(d,.v (.eref cs 0))::l,df⟩):=by
    have e:=O3 (df:=df) l (some d) (.v (.eref cs 0))
    rw[show Ek (some d) (.v (.eref cs 0)) l=(d,Sl.v (.eref cs 0))::l from rfl]at e
    rw[e];have hm:=hF.mono s1;refine⟨hm.size,fun t=>?_,hm.df⟩;simp only[Fr.put]
    split
    ·rename_i ht;subst ht;have h0:=hF.s t;have e0:(H9 ⟨l,df⟩).s t= .ref id 0:=Mb l t _ hl (fun _ _ _ h=>by cases h)
     rw[e0]at h0
     exact(hv _ _ h0).erefLe hle
    exact hm.s t
   obtain⟨g2,l2,H2,s2,r⟩:=CC none ds _ _ g1 k (fun _ _ _ _ h=>by cases h) hR1 hF1 h;exact⟨g2,l2,H2,s1.trans s2,r⟩
  ·rename_i id lo n hl;obtain⟨sz,xs,ys,hk,hle,h⟩:=h;obtain⟨g1,s1,hR1,hv0⟩:=hR.freezeArr hk;have hv:∀v,VR g1 w v (.own id lo n)→VR g1 w v (.sl ys .ro):=fun v hv1=>(hv0 v lo n hv1).le (.sl _ hle)
   have hF1:FR nt g1 w a (H9 ⟨(d,.v (.sl ys .ro))::l,df⟩):=by
    have e:=O3 (df:=df) l (some d) (.v (.sl ys .ro))
    rw[show Ek (some d) (.v (.sl ys .ro)) l=(d,Sl.v (.sl ys .ro))::l from rfl]at e
    rw[e];have hm:=hF.mono s1;refine⟨hm.size,fun t=>?_,hm.df⟩;simp only[Fr.put]
    split
    ·rename_i ht;subst ht;have h0:=hm.s t;have e0:(H9 ⟨l,df⟩).s t= .own id lo n:=Mb l t _ hl (fun _ _ _ h=>by cases h)
     rw[e0]at h0
     exact hv _ h0
    exact hm.s t
   obtain⟨g2,l2,H2,s2,r⟩:=CC (some (id,lo,n,ys)) ds _ _ g1 k (fun _ _ _ _ h=>by simp_all) hR1 hF1 h;exact⟨g2,l2,H2,s1.trans s2,r⟩
  ·exact CC none ds _ _ g k (fun _ _ _ _ h=>by cases h) hR hF h
  grind
theorem YN (hT:KP P T) {G:List (Nat×Bool)} {o:Oper} {l:Fl} {H:A5} {k:Sl→Prop} (ht:Md G o l=true) (h:xq (I8 P nt rd) T G o l H k):∃s,k s:=by
 unfold Md at ht
 unfold xq at h
 split at ht<;>rename_i ho<;>try simp only[ho]at h
 ·grind
 ·grind
 ·split at h
  ·grind
  ·grind
  ·obtain⟨s,_,_,hk⟩:=QB h;grind
  grind
 ·obtain⟨_,_,hk⟩:=LB hT h;grind
 ·obtain⟨_,_,hk⟩:=JI hT h;grind
 ·obtain⟨_,_,hk⟩:=On hT h;grind
 ·obtain⟨_,_,hk⟩:=Oo hT h;grind
 ·obtain⟨_,_,hk⟩:=RH hT h;grind
 ·obtain⟨_,_,hk⟩:=TY h;grind
 ·split at h
  ·grind [Jw]
  grind
 ·split at h
  ·split at h
   ·rename_i hid;obtain⟨_,_,hk⟩:=QC hT hid h;grind
   obtain⟨_,_,hk⟩:=KD hT h;grind
  grind
 cases ht
theorem UZ (hT:KP P T) {G:List (Nat×Bool)} {o:Oper} {l:Fl} {H:A5} {k:Sl→A5→Prop} (ht:Md G o l=true) (h:xop (I8 P nt rd) T A G o l H k):∃s,k s H:=by
 have key:xq (I8 P nt rd) T G o l H (fun s=>k s H)→∃s,k s H:=fun h=>YN hT ht h
 unfold Md at ht
 unfold xop at h
 split at ht<;>rename_i ho<;>try simp only[ho]at h
 all_goals try exact key h
 ·grind
 ·grind
 ·split at h
  ·split at h
   ·split at h
    ·obtain⟨_,_,_,h⟩:=h;grind
    grind
   grind
  grind
 ·grind
 cases ht
end
end Go.Ab
namespace Go.Ab
open Go.RowKit
variable [M9][Ar]
section
variable {P:Program}{nt:Nat}{rd:Option Nat}{T:Ix}{A:Nat→Bool}{Z:Nat→List Nat}{df:List Nat}
theorem ZR {o o2:Oper}{d:Nat}{t t2:TypeId}{x:Operand}(h:ZS A o o2=some (d,t,t2,x)):
 o.op= .alloc t∧o.dst=some d∧o.guard=none∧o2.op= .store t2 (.tmp d) x∧o2.dst=none∧o2.guard=none∧x≠ .tmp d:=by
 unfold ZS at h
 grind [Nat.eq_of_beq_eq_true]
theorem YO (hT:KP P T) {ops:Array Oper} {r:Option Nat} {K:Fl→A5→Prop} {Q:Exit→Act→World→Prop} {g0:Gh} {w0:World}
 (hQ:∀g w a l H,Y2 g0 w0 g w→Rl g H w→FR nt g w a (H9 ⟨l,df⟩)→K l H→Q .normal a w):
 ∀(m i:Nat) (l:Fl) (H:A5),i+m=ops.size→Ol (I8 P nt rd) T nt A Z ops (ops.toList.drop i) l H K→∀g w a,Y2 g0 w0 g w→Rl g H w→FR nt g w a (H9 ⟨l,df⟩)→wpOpsIn (Fw r) 0 P ops Q (List.range' i m) a w:=by
 intro m
 induction m using Nat.strongRecOn with
 |_ m ih=>
 intro i l H hi h g w a s hR hF
 cases m with
 |zero=>
  have:ops.toList.drop i=[]:=by simp;omega
  rw[this]at h
  unfold Ol at h
  exact hQ g w a l H s hR hF h
 | succ m=>
  have hlt:i<ops.toList.length:=by simp;omega
  have hlt':i<ops.size:=by omega
  have hdrop:=R9 hlt
  rw[hdrop]at h
  simp only[Lq]at h
  generalize ho:ops[i]=o at h
  simp only[EX,wpOpsIn,AB hlt',ho]
  unfold Ol at h
  split at h
  ·exact h.elim
  rename_i hd;obtain⟨g1,l1,H1,s1,hR1,hF1,h⟩:=CC (df:=df) none _ _ _ _ _ (fun _ _ _ _ h=>by cases h) hR hF h;replace s:=s.trans s1;clear s1 hR hF
  revert h hF1 hR1 s
  generalize l1=l,H1=H,g1=g;intro hR hF h s
  have guarded:∀{rest:List Oper},Hq nt o.dst=true→rest=ops.toList.drop (i+1)→
   HN (I8 P nt rd) ops o 4 l (fun G l' wr=>xop (I8 P nt rd) T A G o l' H fun s H'=>Ol (I8 P nt rd) T nt A Z ops rest (Ek o.dst (wr s) l') H' K) (fun l'=>Ol (I8 P nt rd) T nt A Z ops rest (Ek o.dst (.v (.tup [])) l') H K)→
   if Region.wanted o (yielded ops a.tmps)then o.wpIn (Fw r) 0 P a w (wpOpsIn (Fw r) 0 P ops Q (List.range' (i+1) m)) Q else(∀f,o.about P w a.eval=some f→(Fw r).fn f)∧wpOpsIn (Fw r) 0 P ops Q (List.range' (i+1) m) (a.put o.dst undef) w:=by
   intro rest hd hrest h;subst hrest;obtain⟨l',e,h⟩:=Fp (df:=df) 4 l h
   have ef:H9 ⟨l',df⟩=H9 ⟨l,df⟩:=by simp_all[H9]
   have hF':FR nt g w a (H9 ⟨l',df⟩):=ef▸hF
   rcases h with⟨hgv,G,wr,hG,hwr,h⟩|⟨hgv,h⟩
   ·have hw:Region.wanted o (yielded ops a.tmps)=true:=Aj hF.s hgv;rw[A2 hw];refine Ua (A:=A) hR hF' hd (Pu (df:=df) hT hG h) fun g' w' a' v H' s' hR' hF2 ⟨sl,hv,hK⟩=>?_;subst hv
    rw[←hwr sl,←O3]at hF2
    exact ih m (by omega) (i+1) _ _ (by omega) hK g' w' a' (s.trans s') hR' hF2
   have hw:Region.wanted o (yielded ops a.tmps)=false:=Aj hF.s hgv;rw[A1 (by rw[hw];simp)];refine⟨fun _ _=>trivial,?_⟩;have hput:FR nt g w (a.put o.dst undef) ((H9 ⟨l',df⟩).put o.dst (.tup [])):=hF'.put (FH hd) (VR.und _ _)
   rcases h with h|⟨G,d,want,ht,hb,h⟩
   ·refine ih m (by omega) (i+1) _ _ (by omega) h g w _ s hR ?_;rw[O3];exact hput
   obtain⟨sl,h⟩:=UZ hT ht h;refine ih m (by omega) (i+1) _ _ (by omega) h g w _ s hR ?_;rw[O3]
   simp_all[slV]
  split at h
  ·rename_i hrest;refine guarded hd hrest.symm ?_
   have e:(fun(G:List (Nat×Bool)) (l':Fl) (wr:Sl→Sl)=>xop (I8 P nt rd) T A G o l' H fun s H'=>Ol (I8 P nt rd) T nt A Z ops [] (Ek o.dst (wr s) l') H' K)=fun G l' wr=>xop (I8 P nt rd) T A G o l' H fun s H'=>K (Ek o.dst (wr s) l') H':=by
    funext G l' wr
    have:(fun s H'=>Ol (I8 P nt rd) T nt A Z ops [] (Ek o.dst (wr s) l') H' K)=fun s H'=>K (Ek o.dst (wr s) l') H':=by
     funext s H';unfold Ol;rfl
    rw[this]
   have e2:(fun l'=>Ol (I8 P nt rd) T nt A Z ops [] (Ek o.dst (.v (.tup [])) l') H K)=fun l'=>K (Ek o.dst (.v (.tup [])) l') H:=by
    funext l';unfold Ol;rfl
   rw[e,e2];exact h
  rename_i o2 rest' hrest
  split at h
  ·rename_i d t t2 x hp;obtain⟨p1,p2,p3,p4,p5,p6,p7⟩:=ZR hp
   have hw:∀y,Region.wanted o y=true:=fun y=>by simp[Region.wanted,p3]
   rw[A2 (hw _)]
   split at h
   ·rename_i cs hcs
    unfold AR2 at hcs
    split at hcs
    ·rename_i I I2 hI hI2
     split at hcs
     ·rename_i z hz
      have ez:=(G8 hT hI).ze;rw[hz]at ez;simp only[CR]at ez
      split at hcs
      ·rename_i hc;obtain⟨c1,c2,c3,c4⟩:=hc;cases hcs
       have hlen:i+1<ops.toList.length:=by
        grind
       have hlen':i+1<ops.size:=by omega
       have hdrop2:=R9 hlen
       rw[hrest,Lq]at hdrop2
       have ho2:ops[i+1]=o2:=by simp_all
       have hr2:rest'=ops.toList.drop (i+2):=by simp_all
       rw[hr2]at h
       obtain⟨m',rfl⟩:∃m',m=m'+1:=⟨m - 1,by omega⟩
       refine Ua (A:=A) (K:=fun v H'=>∃id,v= .ref id 0∧H id=none∧H'=upd H id (some (.cells z.cells))) hR hF hd (by
        simp only[Iw,p1]
        exact .inl ⟨z,ez,c1,fun id hid=>⟨_,.refl _,id,rfl,hid,rfl⟩⟩) fun g1 w1 a1 v H1 s1 hR1 hF1 hK1=>?_
       obtain⟨id,rfl,hid,rfl⟩:=hK1;simp only[EX,wpOpsIn,AB hlen',ho2];rw[A2 (by simp[Region.wanted,p6])]
       have hev:ev ((H9 ⟨l,df⟩).put o.dst (.ref id 0)) x=(V6 [] l x).V:=by
        rw[FE (df:=df) KR.nil,p2]
        cases x with
        |tmp t=>
         have:t≠d:=fun e=>p7 (by rw[e])
         grind [ev,Fr.put]
        |const _=>rfl
        |global _=>rfl
        |func _=>rfl
       have hev2:ev ((H9 ⟨l,df⟩).put o.dst (.ref id 0)) (.tmp d)= .ref id 0:=by rw[p2];simp[ev,Fr.put]
       refine Ua (A:=A) (K:=fun v H'=>H'=upd (upd H id (some (.cells z.cells))) id (some (.cells (W8 z.cells 0 (V6 [] l x).V.cells)))) hR1 hF1 (by rw[p5];rfl) (by
        simp only[Iw,p4];refine .inl ⟨_,_,.refl _,?_,rfl⟩;simp only[Nz,(G8 hT hI2).sz,hev,hev2,D6]
        rw[A2 ⟨c2,c3,by omega⟩]) fun g2 w2 a2 v2 H2 s2 hR2 hF2 hK2=>?_
       subst hK2;obtain⟨g3,s3,hR3,hv3⟩:=hR2.freeze (D6 _ _ _)
       rw[AM,Wz _ _ _ hid]at hR3
       refine ih m' (by omega) (i+2) _ H (by omega) h g3 w2 a2 (((s.trans s1).trans s2).trans s3) hR3 ?_
       rw[p5,p2]at hF2
       have hF3:=hF2.mono s3;have e1:=O3 (df:=df) l (some d) (.v (.eref (W8 z.cells 0 (V6 [] l x).V.cells) 0))
       rw[show Ek (some d) (.v (.eref (W8 z.cells 0 (V6 [] l x).V.cells) 0)) l=(d,.v (.eref (W8 z.cells 0 (V6 [] l x).V.cells) 0))::l from rfl]at e1
       rw[e1];refine⟨hF3.size,fun q=>?_,hF3.df⟩;have hq:=hF2.s q;have hq3:=hF3.s q
       simp only[Fr.put]at hq hq3 ⊢
       split
       ·rename_i e;rw[A2 e]at hq;exact hv3 _ _ hq
       simp_all
      cases hcs
     cases hcs
    cases hcs
   grind
  simp_all
end
end Go.Ab
namespace Go.Ab
open Go.RowKit
variable [M9]
def QN (c:Array Value)(A sz:Nat)(f:Nat→Value):Array Value:=(c.toList.take A++(List.range sz).map f++c.toList.drop (A+sz)).toArray
theorem SJ {c:Array Value}{A sz:Nat}{f:Nat→Value}(h:A+sz≤c.size):(QN c A sz f).size=c.size:=by simp[QN];omega
theorem AN0 {c:Array Value} {A sz:Nat} {f f':Nat→Value} (h:A+sz≤c.size):QN (QN c A sz f) A sz f'=QN c A sz f':=by
 have e1:(QN c A sz f).toList.take A=c.toList.take A:=by
  simp only[QN,D4];rw[Lz (by simp;omega),List.take_take];simp
 have e2:(QN c A sz f).toList.drop (A+sz)=c.toList.drop (A+sz):=by
  simp only[QN];rw[List.drop_append_of_le_length (by simp;omega)];rw[Qn (by simp;omega)];simp
 unfold QN at e1 e2 ⊢
 rw[e1,e2]
theorem Ah5 {c:Array Value}{A sz:Nat}{f:Nat→Value}(h:A+sz≤c.size){k:Nat}(hk:k<c.size):(QN c A sz f)[k]? =if A≤k∧k<A+sz then some (f (k - A))else c[k]? :=by
 have:=(Ah3 (vs:=(List.range sz).map f) (m:=sz) (A:=A) (c:=c) (by simp) h rfl).2 k hk;rw[show QN c A sz f=(c.toList.take A++(List.range sz).map f++c.toList.drop (A+sz)).toArray from rfl,this]
 split
 ·rename_i hc;rw[W6,EB (by omega)];rfl
 rfl
theorem TE (w:World)(b:Nat)(c c':Array Value):(w.setRow b c).setRow b c'=w.setRow b c':=by
 simp only[World.setRow,IF,K6];apply GG
 ·simp
 intro i h1 h2;simp only[Lp]
 split
 ·cases w.heap[i]'(by simpa using h1)<;>rfl
 rfl
theorem Xb (w:World){b b':Nat}(c c':Array Value)(h:b≠b'):(w.setRow b c).setRow b' c'=(w.setRow b' c').setRow b c:=by
 simp only[World.setRow,IF,K6];apply GG
 ·simp
 intro i h1 h2;simp only[Lp]
 by_cases e1:b=i<;>by_cases e2:b'=i
 ·omega
 ·simp[e1,e2]
 ·simp[e1,e2]
 simp[e1,e2]
theorem Wj (w:World)(C C':Array Value)(e:TypeId):(w.alloc (.cells C e)).setRow w.heap.size C'=w.alloc (.cells C' e):=by
 simp only[World.alloc,World.setRow,IF,K6];apply GG
 ·simp
 intro i h1 h2;simp only[Lp,Array.getElem_push]
 have:i<w.heap.size+1:=by simpa using h2
 by_cases e:w.heap.size=i
 ·subst e;simp
 rw[A1 e]
 have:i<w.heap.size:=by omega
 simp[this]
section
variable {P:Program}{H:A5}
theorem LF {w:World} {b A sz:Nat} {c:Array Value} {T:TypeId} {f:Nat→Value} (hw:w.heap[b]? =some (.cells c T (0,0))) (h:A+sz≤c.size) (hf:∀j,j<sz→(f j).oneCell'=true):
 (storeCells ⟨b,A,none⟩ ((List.range sz).map f)).run P w= .ok () (w.setRow b (QN c A sz f)):=by
 have:=run_storeCells_at P b A T ((List.range sz).map f) 0 c w hw (by simp;omega) (by
  intro v hv;obtain⟨k,hk,rfl⟩:=List.mem_map.1 hv
  exact hf k (List.mem_range.1 hk))
 simpa[QN]using this
theorem Ac2 {g:Gh} {w:World} (hR:Rl g H w) {sT yT e ty:TypeId} {sz by_:Nat} {z:V} {xs:List V} {tl:G3} {vs:Value} (hvs:VR g w vs (.sl xs tl)) (he:FN P sT=some e) (hyT:(FN P yT).isSome=true) (hsz:Fm P e=some sz) (hpos:0<sz) (hby:Qb P e=some by_) (hbp:0<by_)
 (hz:IZ P e=some z) (hz1:z.one=true) (hzl:z.cells.length=sz) (hA:Ht H tl) (hax:xs.all (fun x=>x.cells.length==sz)=true) (hbound:(xs.length+1)*by_≤140737488355328):
 ∃ (b off G:Nat) (W:(Nat→Value)→World) (C:(Nat→Value)→Array Value) (T:TypeId),
  (∀(y0:V) (tl':G3) (vy:Value),VR g w vy (.sl [y0] tl')→y0.cells.length=sz→∃f0,(∀j,j<sz→(f0 j).oneCell'=true)∧(Builtin.append_ #[sT,yT] ty #[vs,vy]).run P w= .ok (.slice (some ⟨b,off,none⟩) (xs.length+1) G) (W f0))∧
  xs.length+1≤G∧
  (∀f,(W f).heap[b]? =some (.cells (C f) T (0,0))∧off+xs.length*sz+sz≤(C f).size)∧
  (∀f f',(W f).setRow b (QN (C f) (off+xs.length*sz) sz f')=W f')∧
  (∀x,x≠b→x<w.heap.size→∀f,(W f).heap[x]? =w.heap[x]?)∧
  (∀id x,g.at (F9 H tl) id=some x→x≠b)∧
  (∀(vV:V) (f:Nat→Value),vV.cells.length=sz→(∀j,j<sz→(f j).oneCell'=true∧VR g w (f j) (vV.cells.getD j .bad))→
   ∃g' t,Y2 g w g' (W f)∧F9 H tl t=none∧Rl g' (upd (F9 H tl) t (some .spare)) (W f)∧VR g' (W f) (.slice (some ⟨b,off,none⟩) (xs.length+1) G) (.sl (xs++[vV]) (.tok t))):=by
 obtain⟨base,cap,fs,es,hcap,hfs,hrs,hbs⟩:=Fb (P:=P) hvs hax;have hu:=Q9 he;obtain⟨e',hyT'⟩:=Option.isSome_iff_exists.1 hyT;have huy:=Q9 hyT';obtain⟨zv,ez,hzv⟩:=DQ hz
 have hzr:VR g w zv z:=by rw[ez];exact EL g w zv
 have hzs:zv.cells.size=sz:=by rw[(hzr.cells hz1).1,hzl]
 have hbytes:∀w,(typeInfo e).run P w= .ok ((P.info? e).getD default) w∧((P.info? e).getD default).bytes=by_:=by
  intro w
  unfold Qb at hby
  cases hi:P.info? e with
  |none=>simp[hi]at hby
  |some i=>simp[hi]at hby;simp[typeInfo,hi,hby]
 have hbi:∀w,(typeInfo e).run P w= .ok ((P.info? e).getD default) w:=fun w=>(hbytes w).1;have hbb:=(hbytes w).2;have hR1:Rl g (F9 H tl) w:=hR.less fun id b hb=>FI hb;have hlenx:=Ha hax
 have hlenxy:∀(vV:V),vV.cells.length=sz→∀i,i<xs.length+1→((xs++[vV]).getD i .bad).cells.length=sz:=fun vV hv i hi=>by
  rw[Hb];split
  ·exact hlenx i (by assumption)
  rw[show i - xs.length=0 by omega];exact hv
 have hsrc:∀(y0:V) (tl':G3) (vy:Value),VR g w vy (.sl [y0] tl')→y0.cells.length=sz→∃ybase ycap f0,vy= .slice ybase 1 ycap∧(∀j,j<sz→(f0 j).oneCell'=true)∧
  ∀w':World,(∀b o,w'.cell? ⟨b,o,none⟩=w.cell? ⟨b,o,none⟩)→(Builtin.firstCells sz 1 vy).run P w'= .ok ((List.range sz).map f0).toArray w':=fun y0 tl' vy hvy hy0=>by
  obtain⟨ybase,ycap,fy,ey,_,hfy,hry,_⟩:=Fb (P:=P) (sz:=sz) hvy (by simp[hy0]);refine⟨ybase,ycap,fun j=>fy 0 j,ey,fun j hj=>(hfy 0 j (by simp) hj).1,fun w' hw'=>?_⟩;have:=hry w' hw'
  simp only[Lu,W4]at this
  rw[this];refine J5 (fun l:List Value=>Result.ok l.toArray w') (BM fun k hk=>?_);have hk':=List.mem_range.1 hk;rw[Nat.div_eq_of_lt hk',Ld hk']
 have hvals:∀(vV:V) (f:Nat→Value),(∀j,j<sz→(f j).oneCell'=true∧VR g w (f j) (vV.cells.getD j .bad))→∀(g':Gh) (w':World),Y2 g w g' w'→∀i j,i<xs.length+1→j<sz→(if i<xs.length then fs i j else f j).oneCell'=true∧
  VR g' w' (if i<xs.length then fs i j else f j) (((xs++[vV]).getD i .bad).cells.getD j .bad):=by
  intro vV f hf g' w' st i j hi hj;rw[Hb]
  split
  ·rename_i hlt;exact⟨(hfs i j hlt hj).1,(hfs i j hlt hj).2.mono st⟩
  rw[show i - xs.length=0 by omega];exact⟨(hf j hj).1,(hf j hj).2.mono st⟩
 have hn63:¬(IntKind.i64.max<((xs.length+1:Nat):Int)∧(False∨by_=0)):=by
  rintro⟨_,hF|hF⟩
  ·exact hF
  omega
 by_cases hc:xs.length+1≤cap
 ·
  rcases hbs with⟨hx0,hc0|hc0,_⟩|⟨b,q,hbase,hcell,_,sz',hsz',htl⟩
  ·subst hx0;simp at hc;omega
  ·subst hc0;exact hA.elim
  cases tl with
  |nil=>exact htl.elim
  |ro=>exact hA.elim
  |full=>simp only[Hm]at htl;omega
  | tok t=>
   obtain⟨hn0,lim,ht1,ht2⟩:=htl;have:=hsz' hn0;subst this;have hA':H t=some .spare:=hA;obtain⟨b2,e2,lim2,c,T,k1,k2,k3,k4,k5,k6⟩:=hR.blk t _ hA'
   rw[ht1]at k1
   simp only[E6,IE]at k1
   obtain⟨rfl,rfl,rfl⟩:=k1;have hcapsz:(xs.length+1)*sz'≤cap*sz':=H5 _ hc
   have hadd:(xs.length+1)*sz'=xs.length*sz'+sz':=by rw[E5,W4]
   have hfit:q+xs.length*sz'+sz'≤c.size:=by omega
   have hnown:∀id x,g.at (F9 H (.tok t)) id=some x→x≠b:=by
    rintro id x hid rfl
    have hat:g.at H t=some x:=by simp[Gh.at,hA',ht1]
    by_cases hid':id=t
    ·subst hid';simp[Gh.at,F9,D6]at hid
    have:g.at H id=some x:=by simpa only[Gh.at,F9,C2 _ _ hid']using hid
    exact hid' (hR.inj _ _ _ this hat)
   refine⟨b,q,cap,fun f=>w.setRow b (QN c (q+xs.length*sz') sz' f),fun f=>QN c (q+xs.length*sz') sz' f,T,fun y0 tl' vy hvy hy0=>?_,hc,fun f=>?_,fun f f'=>?_,fun x hx _ f=>R4 w b _ x hx,hnown,fun vV f hv hf=>?_⟩
   ·obtain⟨ybase,ycap,f0,ey,hf0,hry⟩:=hsrc y0 tl' vy hvy hy0;refine⟨f0,hf0,?_⟩;have hst:=LF (P:=P) (f:=f0) k3 hfit hf0;have hry':=hry w fun _ _=>rfl
    rw[ey]at hry' ⊢
    rw[es,hbase]
    simp only[Builtin.append_,B6,run_underlying hu,B4,P4 hsz,run_underlying huy,B9,Builtin.lenOf,Z3,Q2,
     Aa,Z9,F6,E4,Cw,C7,A2 hc,hry',AL,hst]
   ·exact⟨setRow_heap w b c _ T (0,0) k3,by rw[SJ hfit];exact hfit⟩
   ·rw[TE,AN0 hfit]
   dsimp only
   have hCg:∀k,k<c.size→(QN c (q+xs.length*sz') sz' f)[k]? =if q+xs.length*sz'≤k∧k<q+xs.length*sz'+sz' then some (f (k - (q+xs.length*sz')))else c[k]? :=fun k hk=>Ah5 hfit hk
   generalize hC:QN c (q+xs.length*sz') sz' f=C at hCg
   have hCs:C.size=c.size:=by rw[←hC];exact SJ hfit
   have hcellp:∀x o,g.fz x o→(w.setRow b C).cell? ⟨x,o,none⟩=w.cell? ⟨x,o,none⟩:=by
    intro x o hf
    by_cases hx:x=b
    ·subst hx
     have ho:o<q+xs.length*sz':=by
      rcases O0 o (q+xs.length*sz')with h|h
      ·exact h
      exact absurd hf (k6 o h)
     have hw':(w.setRow x C).heap[x]? =some (.cells C T (0,0)):=setRow_heap w x c C T (0,0) k3;simp only[World.cell?,hw',k3,EZ,F6,E4];rw[hCg o (by omega),A1 (by omega)]
    exact Dm w b C x o hx
   have hbel:Below g.base w (w.setRow b C):=HA w b C k2
   have hRn:=Rl.tok (e0:=q+xs.length*sz') (e:=q+(xs.length+1)*sz') (lim:=c.size) hR1 k2 (setRow_heap w b c C T (0,0) k3) hCs (by omega) k6 (by omega) hcellp hbel
    (fun x hx _=>R4 w b C x hx) (fun id hid=>hnown id _ hid rfl)
   have hStp:=Y2.tok hR1 b (q+xs.length*sz') (q+(xs.length+1)*sz') c.size hcellp hbel;refine⟨_,g.nx,hStp,(hR1.nxt _ (C4 _)).2.2,hRn,?_⟩
   refine .sl (sz:=sz') (fun i j=>if i<xs.length then fs i j else f j) (by simp) hc (fun i hi=>hlenxy vV hv i hi) (fun i j hi hj=>?_) (fun i j hi hj=>?_)
    (fun i j hi hj=>(hvals vV f hf _ _ hStp i j hi hj).1) (fun i j hi hj=>(hvals vV f hf _ _ hStp i j hi hj).2) ?_
   ·by_cases hix:i<xs.length
    ·exact .inl (hcell i j hix hj).1
    have h2:=Ev hi hj;have h1:xs.length*sz'≤i*sz':=H5 _ (by omega);exact .inr ⟨rfl,by omega,by omega⟩
   ·have h2:=Ev hi hj;have hw':(w.setRow b C).heap[b]? =some (.cells C T (0,0)):=setRow_heap w b c C T (0,0) k3
    by_cases hix:i<xs.length
    ·rw[A2 hix];exact(hcellp b _ (hcell i j hix hj).1).trans (hcell i j hix hj).2
    rw[A1 hix]
    have h1:i=xs.length:=by omega
    subst h1;simp only[World.cell?,hw',EZ,F6,E4];rw[hCg _ (by omega),A2 (by omega),show q+xs.length*sz'+j - (q+xs.length*sz')=j by omega]
   refine⟨by omega,c.size,?_,by omega⟩;simp[Gh.tok]
 have hnf:¬(2 ^ 48<Builtin.nextslicecap (xs.length+1) cap*by_):=by
  have:=growslice_fits (IL hc) hbound;omega
 have hdr:∀b o,w.drew.cell? ⟨b,o,none⟩=w.cell? ⟨b,o,none⟩:=fun _ _=>rfl;generalize hG:grownCap w (xs.length+1) cap e=G
 have hGe:xs.length+1≤G:=by rw[←hG];exact grownCap_ge w _ _ _
 have hGs:(xs.length+1)*sz≤G*sz:=H5 _ hGe
 have hadd:(xs.length+1)*sz=xs.length*sz+sz:=by rw[E5,W4]
 generalize hO:((List.range (xs.length*sz)).map fun k=>fs (k / sz) (k % sz))=O at *
 have hOl:O.length=xs.length*sz:=by rw[←hO];simp
 generalize hZ:Builtin.zeroCells zv.cells (G - (xs.length+1))=Z at *
 have hZs:Z.size=G*sz - (xs.length+1)*sz:=by rw[←hZ,size_zeroCells,hzs,Cp]
 have hCs:∀f:Nat→Value,(O.toArray++((List.range sz).map f).toArray++Z).size=G*sz:=fun f=>by
  simp only[Li,GN,G5,Ds,hOl,hZs];omega
 have hCg:∀(f:Nat→Value) k,k<(xs.length+1)*sz→(O.toArray++((List.range sz).map f).toArray++Z)[k]? =some (if k<xs.length*sz then fs (k / sz) (k % sz)else f (k - xs.length*sz)):=by
  intro f k hk;rw[FY,A2 (by simp[hOl];omega),FY];simp only[GN,hOl,Q2,W6]
  split
  ·rw[←hO,W6,EB (by assumption)];rfl
  rw[EB (by omega)];rfl
 refine⟨w.heap.size,0,G,fun f=>w.drew.alloc (.cells (O.toArray++((List.range sz).map f).toArray++Z) e),fun f=>O.toArray++((List.range sz).map f).toArray++Z,e,fun y0 tl' vy hvy hy0=>?_,hGe,fun f=>⟨Cc (w:=w.drew),by rw[hCs];omega⟩,fun f f'=>?_,
  fun x hx hlt f=>heap_alloc (w:=w.drew) hlt,fun id x hid e=>absurd (e▸hR1.lt hid) (V7 _),fun vV f hv hf=>?_⟩
 ·obtain⟨ybase,ycap,f0,ey,hf0,hry⟩:=hsrc y0 tl' vy hvy hy0;refine⟨f0,hf0,?_⟩;have hGd:(Question.appendCap (xs.length+1) cap e).cut (w.tape w.drawn (.appendCap (xs.length+1) cap e))=G:=hG;have hf:(Question.appendCap (xs.length+1) cap e).forced=false:=rfl;have hrs':=hrs w.drew hdr;have hry':=hry w.drew hdr
  rw[es]at hrs' ⊢;rw[ey]at hry' ⊢
  simp only[Builtin.append_,B6,run_underlying hu,B4,P4 hsz,run_underlying huy,B9,Builtin.lenOf,Z3,hbi,hbb,Q2,
   Aa,Z9,F6,E4,Cw,C7,gt_iff_lt,false_or,A1 hc,A1 hnf,run_choose,hf,hGd,ID,run_askRoom,hrs',hry',hzv,newRow,run_newObj,
   EU,IH,hO,hZ]
  rw[A1 (by simpa using hn63)]
 ·rw[show w.heap.size=w.drew.heap.size from rfl,Wj]
  congr 2
  apply Array.ext';simp only[QN,Q0,Array.toList_append,List.toList_toArray,D4];rw[Lz (by omega),T8 (by omega),show xs.length*sz+sz=O.length+sz by omega,←KX,List.drop_left]
  congr 1
  congr 1
  exact List.drop_left' (by simp)
 have hcellp:∀x o,g.fz x o→(w.drew.alloc (.cells (O.toArray++((List.range sz).map f).toArray++Z) e)).cell? ⟨x,o,none⟩=w.cell? ⟨x,o,none⟩:=fun x o hf=>DL (w:=w.drew) (hR.fz_lt hf);have hbel:Below g.base w (w.drew.alloc (.cells (O.toArray++((List.range sz).map f).toArray++Z) e)):=(Z1 _ _).drew.alloc hR.bnd _
 have hnown:∀id,g.at (F9 H tl) id≠some w.heap.size:=fun id hid=>absurd (hR1.lt hid) (V7 _)
 have hRn:=Rl.tok (e0:=0) (e:=(xs.length+1)*sz) (lim:=G*sz) hR1 hR.bnd (Cc (w:=w.drew) (o:=.cells (O.toArray++((List.range sz).map f).toArray++Z) e)) (hCs f) hGs (fun o _ hf=>absurd (hR.fz_lt hf) (V7 _)) (Cn _) hcellp hbel
  (fun x hx hlt=>heap_alloc (w:=w.drew) hlt) hnown
 have hStp:=Y2.tok hR1 w.heap.size 0 ((xs.length+1)*sz) (G*sz) hcellp hbel;refine⟨_,g.nx,hStp,(hR1.nxt _ (C4 _)).2.2,hRn,?_⟩
 refine .sl (sz:=sz) (fun i j=>if i<xs.length then fs i j else f j) (by simp) hGe (fun i hi=>hlenxy vV hv i hi) (fun i j hi hj=>.inr ⟨rfl,Cn _,by have:=Ev hi hj;omega⟩) (fun i j hi hj=>?_)
  (fun i j hi hj=>(hvals vV f hf _ _ hStp i j hi hj).1) (fun i j hi hj=>(hvals vV f hf _ _ hStp i j hi hj).2) ?_
 ·have h2:=Ev hi hj;rw[show(⟨w.heap.size,0+i*sz+j,none⟩:Addr)=⟨w.drew.heap.size,i*sz+j,none⟩ by simp];rw[Ph (w:=w.drew),hCg f _ h2]
  congr 1
  by_cases hix:i<xs.length
  ·have h3:=Ev hix hj;rw[A2 h3,A2 hix,(U2 hj).1,(U2 hj).2]
  have h1:i=xs.length:=by omega
  subst h1;rw[A1 (by omega),A1 hix,show xs.length*sz+j - xs.length*sz=j by omega]
 refine⟨by omega,G*sz,?_,by simp⟩;simp[Gh.tok]
end
end Go.Ab
namespace Go.Ab
open Go.RowKit
variable [M9][Ar]
section
variable {P:Program}{nt:Nat}{ops:Array Oper}{H0:A5}
def JU (A:Nat→Bool):List Nat→Pv→Fr→A5→(Fr→A5→Prop)→Prop
 |[],_,fr,H,K=>K fr H
 |d::ds,pv,fr,H,K=>
  match pv (.inl d)with
  |some cs=>if A d then∀id,H id=none→JU A ds pv (fr.put (some d) (.ref id 0)) (upd H id (some (.cells cs))) K else JU A ds pv (fr.put (some d) (.eref cs 0)) H K
  |none=>False
theorem SA {A:Nat→Bool} {w:World} {a:Act} {ids:Pk→Nat} {pv:Pv} {K:Fr→A5→Prop} (hinj:∀d d' cs cs',pv d=some cs→pv d'=some cs'→d.var=true→d'.var=true→ids d=ids d'→d=d'):
 ∀(ds:List Nat) (fr:Fr) (g:Gh) (H H1:A5),Rl g H w→ds.Nodup→(∀d∈ds,∀cs,pv (.inl d)=some cs→H (ids (.inl d))=some (.cells cs)∧∃b,g.mu (ids (.inl d))=some b∧a.tmps.getD d undef= .pointer (some ⟨b,0,none⟩))→
  (∀id b,H1 id=some b→H id=some b)→(∀d∈ds,∀cs,pv (.inl d)=some cs→H1 (ids (.inl d))=none)→FR nt g w a fr→JU A ds pv fr H1 K→∃g' fr' H',Y2 g w g' w∧Rl g' H' w∧FR nt g' w a fr'∧K fr' H'
 |[],fr,g,H,H1,hR,_,_,hl,_,hF,h=>⟨g,fr,H1,Y2.refl _ _,hR.less hl,hF,h⟩
 | d::ds,fr,g,H,H1,hR,hnd,hpv,hl,hfr,hF,h=>by
  simp only[JU]at h
  have hnd':=List.nodup_cons.1 hnd
  split at h
  ·rename_i cs hcs;obtain⟨k1,b,k2,k3⟩:=hpv d (by simp) cs hcs
   split at h
   ·refine SA hinj ds _ g H _ hR hnd'.2 (fun d' hd'=>hpv d' (by simp[hd'])) (fun id bk hb=>?_) (fun d' hd' cs' hp=>?_) ?_ (h (ids (.inl d)) (hfr d (by simp) cs hcs))
    ·grind [upd]
    ·grind [upd,Pk.var]
    refine⟨hF.size,fun t=>?_,hF.df⟩;simp only[Fr.put]
    split
    ·rename_i e;subst e;rw[k3];exact .ref k2
    exact hF.s t
   obtain⟨g',s,hR',hv⟩:=hR.freeze k1;have hF':=hF.mono s
   have e1:∀d'∈ds,∀cs',pv (.inl d')=some cs'→(upd H (ids (.inl d)) none) (ids (.inl d'))=some (.cells cs')∧∃b,g'.mu (ids (.inl d'))=some b∧a.tmps.getD d' undef= .pointer (some ⟨b,0,none⟩):=fun d' hd' cs' hp=>by
    obtain⟨q1,b',q2,q3⟩:=hpv d' (by simp[hd']) cs' hp;have hne:ids (.inl d')≠ids (.inl d):=fun e=>absurd (hinj _ _ _ _ hp hcs rfl rfl e) fun x=>hnd'.1 (by simp_all);exact⟨by rw[C2 _ _ hne];exact q1,b',s.mu _ _ q2,q3⟩
   have e2:∀id bk,H1 id=some bk→(upd H (ids (.inl d)) none) id=some bk:=fun id bk hb=>by
    have hne:id≠ids (.inl d):=fun e=>by simp_all
    rw[C2 _ _ hne];grind
   have e3:FR nt g' w a (fr.put (some d) (.eref cs 0)):=by
    refine⟨hF'.size,fun t=>?_,hF'.df⟩;simp only[Fr.put]
    split
    ·rename_i e;subst e;rw[k3];exact hv _ _ (.ref k2)
    exact hF'.s t
   obtain⟨g2,fr2,H2,s2,r⟩:=SA hinj ds _ g' _ H1 hR' hnd'.2 e1 e2 (fun d' hd'=>hfr d' (by simp[hd'])) e3 h;exact⟨g2,fr2,H2,s.trans s2,r⟩
  grind
abbrev Tk :=List (Nat×List V)
def pvW (W:Tk)(ex:Option G3):Pv
 | .inl _=>none
 | .inr id=>(W.find? fun p=>p.1==id).map (·.2)
 | .tk _=>none
 | .ex=>ex.map fun τ=>[.sl [] τ]
def JG (H:A5):Option G3→A5
 |some τ=>F9 H τ
 |none=>H
def Kn (dx:Option Nat)(pv:Pv)(fr:Fr)(H:A5)(K:Fr→A5→Prop):Prop:=
 match dx with
 |none=>K fr H
 |some d=>∃xs,(pv (.tk d)).isSome=true∧fr.s d= .sl xs .ro∧(∀tl,tl= .nil∨tl= .full→K (fr.put (some d) (.sl xs tl)) H)∧∀t,H t=none→K (fr.put (some d) (.sl xs (.tok t))) (upd H t (some .spare))
theorem Od {H:A5} {ex:Option G3} {id:Nat} {b:HC} (h:JG H ex id=some b):H id=some b∧∀t,ex=some (.tok t)→id≠t:=by
 cases ex with
 |none=>simp_all[JG]
 | some τ=>
  cases τ with
  |tok t=>
   simp_all[JG,F9,upd]
  |_=>exact⟨h,fun t ht=>by cases ht⟩
def GA (H:A5):Tk→A5
 |[]=>H
 |(id,_)::W=>upd (GA H W) id none
def UG :Tk→Pv→A5→(A5→Prop)→Prop
 |[],_,H,K=>K H
 |(id,_)::W,pv,H,K=>UG W pv H fun H'=>match pv (.inr id)with|some cs=>K (upd H' id (some (.cells cs)))|none=>False
theorem LD {H:A5}:∀{W:Tk} {id:Nat} {b:HC},GA H W id=some b→H id=some b∧∀p∈W,p.1≠id
 |[],id,b,h=>⟨h,fun p hp=>by simp at hp⟩
 |(i,c)::W,id,b,h=>by
  simp only[GA]at h
  by_cases e:id=i
  ·simp_all[upd]
  rw[C2 _ _ e]at h
  obtain⟨h1,h2⟩:=LD h
  grind
theorem Oq {H:A5}:∀{W:Tk} {p:Nat×List V},p∈W→GA H W p.1=none
 |(i,c)::W,p,h=>by
  simp only[GA]
  by_cases e:p.1=i
  ·rw[e,D6]
  rw[C2 _ _ e]
  rcases List.mem_cons.1 h with rfl|h
  ·omega
  exact Oq h
theorem XY {Hw:A5} {pv:Pv} (hpv:∀id cs,pv (.inr id)=some cs→Hw id=some (.cells cs)):∀(W:Tk) (H:A5) (K:A5→Prop),(∀id b,H id=some b→Hw id=some b)→UG W pv H K→∃H',(∀id b,H' id=some b→Hw id=some b)∧(∀id,H' id≠none→H id≠none∨∃cs,pv (.inr id)=some cs)∧K H'
 |[],H,K,hl,h=>⟨H,hl,fun id hn=>.inl hn,h⟩
 |(i,c)::W,H,K,hl,h=>by
  simp only[UG]at h
  obtain⟨H',h1,h2,h3⟩:=XY hpv W H _ hl h
  grind [upd]
end
def CP (P:Program)(nt:Nat)(rd:Option Nat)(ops:Array Oper)(fr:Fr)(H:A5)(Q:Exit→Fr→A5→Prop):Prop:=
 ∀r g w a,At2 g rd r→Rl g H w→FR nt g w a fr→wpAnyIn (Fw r) 0 P .any ops (UW nt g w Q) ops.size (Array.replicate ops.size false) a w.drew
theorem Ak.of_any {P:Program}{nt id:Nat}{rd:Option Nat}{ops:Array Oper}{fr:Fr}{H:A5}{Q:Exit→Fr→A5→Prop}(hm:P.follows .mixedOrders=true)(h:CP P nt rd ops fr H Q):Ak P nt rd (.region id ops true) fr H Q:=
 fun r g w a hr hR hF=>wpIn_region_any hm (h r g w a hr hR hF)
section
variable {P:Program}{nt:Nat}{ops:Array Oper}{H0:A5}
theorem CP.drawF {A:Tv} {rd:Option Nat} {k:Nat} {al:List Nat} {W:Tk} {ex:Option G3} {dx:Option Nat} {fr:Fr} {Q:Exit→Fr→A5→Prop} (hok:Ta ops k=true) (hnd:al.Nodup)
 (hX:∀τ,ex=some τ→Ht H0 τ) (hW:∀p∈W,JG H0 ex p.1=some (.cells p.2))
 (h:JZ P nt ops (GA (JG H0 ex) W) (ops.toList.take k) fr (pvW W ex) fun fr' pv=>UG W pv (GA (JG H0 ex) W) fun H1=>Kn dx pv fr' H1 fun fr1 H2=>JU A al pv fr1 H2 fun fr'' H=>JA P A nt ops (ops.toList.drop k) fr'' H (Q .normal)):CP P nt rd ops fr H0 Q:=by
 intro r g w a _ hR hF;obtain⟨hk,hat⟩:=As3 hok;have sd:Y2 g w g w.drew:=⟨fun _ _ e=>e,fun _ _ e=>e,fun _ _ e=>e,rfl,fun _ _ _=>rfl,(Z1 _ _).drew,fun _ _ _=>rfl,EP _⟩
 have hRd:Rl g H0 w.drew:=by
  refine⟨fun id b hb=>(hR.blk id b hb).mono hb sd fun _ _=>⟨rfl,fun _ ho=>ho⟩,hR.inj,hR.frz,hR.nxt,hR.bnd,fun n=>(hR.glb n).mono sd⟩
 have hI:Ac5 nt (GA (JG H0 ex) W) g w.drew fr (pvW W ex) g w.drew a:=by
  refine⟨H0,fun k=>match k with| .inl _=>0| .inr n=>n| .tk _=>0| .ex=>0,Y2.refl _ _,hRd,hF.mono sd,fun id b hb=>(Od (LD hb).1).1,fun d cs h hv=>?_,fun d d' cs cs' h h' hv hv' e=>?_,fun _=>none,fun d cs h=>(by cases h),fun d d' cs cs' t h=>(by cases h),fun cs h=>?_⟩
  ·cases d with
   |inl d=>cases h
   | inr n=>
    simp only[pvW]at h
    cases hf:W.find? fun p=>p.1==n with
    |none=>rw[hf]at h;cases h
    |some p=>
     rw[hf]at h
     simp only[I7,E6]at h
     have hp:=Qu hf
     have hn:p.1=n:=by have:=List.find?_some hf;simp_all
     subst h;subst hn;exact⟨(Od (hW p hp)).1,Oq hp,rfl⟩
   |tk d=>cases h
   |ex=>cases hv
  ·cases d with
   |inl d=>cases h
   |tk d=>cases h
   |ex=>cases hv
   |inr n=>
    cases d' with
    |inl d'=>cases h'
    |tk d'=>cases h'
    |ex=>cases hv'
    |inr n'=>simp_all
  cases hx:ex with
  |none=>rw[hx]at h;cases h
  | some τ=>
   rw[hx]at h
   cases h;refine⟨τ,rfl,?_⟩;have hA:=hX τ hx
   cases τ with
   |nil=>simp_all
   |full=>simp_all
   |ro=>exact hA.elim
   |tok t=>
    refine .inr ⟨t,rfl,hA,?_,fun d cs' h=>by cases h⟩
    cases hn:GA (JG H0 (some (.tok t))) W t with
    |none=>rfl
    |some b=>grind [Od,LD]
 have hmap:(List.range k).map (fun i=>ops.getD i default)=ops.toList.take k:=by
  apply GI
  ·simp;omega
  intro i h1 h2
  simp at h1
  simp[Array.getD,show i<ops.size by omega]
 have hb:=Tl (r:=r) (Q:=UW nt g w Q) hk (fun i hi=>⟨(hat i hi).1,fun j hj=>((hat i hi).2 j hj).imp (fun h=>h) .inl⟩) (K:=fun fr' pv=>UG W pv (GA (JG H0 ex) W) fun H1=>Kn dx pv fr' H1 fun fr1 H2=>JU A al pv fr1 H2 fun fr'' H=>JA P A nt ops (ops.toList.drop k) fr'' H (Q .normal)) (g0:=g) (w0:=w.drew)
  (fun g' w' a' fr' pv listed hsz hl hI' hK=>?_) k (List.range k) (Array.replicate ops.size false) fr (pvW W ex) (by simp) (Qm) (fun i hi=>by grind) (by simp) (fun i b hi=>by simp_all) (fun m j hm _=>by simp[Array.getD]at hm) (by rw[hmap];exact h) g w.drew a hI
 ·rw[show k+(ops.size - k)=ops.size by omega]at hb
  exact hb
 obtain⟨H,ids,s,hR',hF',hext,hpv,hinj,tks,htk,_⟩:=hI'
 have hex:∀n cs,pv (.inr n)=some cs→H n=some (.cells cs):=fun n cs hn=>by
  obtain⟨k1,_,k3⟩:=hpv _ cs hn rfl;have k3:ids (.inr n)=n:=k3
  rwa[k3]at k1
 obtain⟨H1,g1,g2,hK⟩:=XY hex W _ _ hext hK
 have hfree:∀d cs,pv (.inl d)=some cs→H1 (ids (.inl d))=none:=fun d cs hd=>by
  obtain⟨k1,k2,_⟩:=hpv _ cs hd rfl
  cases hn:H1 (ids (.inl d))with
  |none=>rfl
  |some b=>
   exfalso
   rcases g2 _ (by rw[hn];simp)with h|⟨cs',hp⟩
   ·exact h k2
   have k3:ids (.inr (ids (.inl d)))=ids (.inl d):=(hpv _ cs' hp rfl).2.2;cases hinj _ _ _ _ hp hd rfl rfl k3
 have hmid:∃fr1 H1',FR nt g' w' a' fr1∧(∀id b,H1' id=some b→H id=some b)∧(∀d cs,pv (.inl d)=some cs→H1' (ids (.inl d))=none)∧JU A al pv fr1 H1' fun fr'' H=>JA P A nt ops (ops.toList.drop k) fr'' H (Q .normal):=by
  rcases dx with _|d
  ·exact⟨fr',H1,hF',g1,hfree,hK⟩
  simp only[Kn]at hK
  obtain⟨xs,e1,e2,e3,e4⟩:=hK;obtain⟨c,hc⟩:=Option.isSome_iff_exists.1 e1;obtain⟨xs',tl,q1,q2,q3⟩:=htk d c hc
  rw[e2]at q1
  cases q1
  have hFR:FR nt g' w' a' (fr'.put (some d) (.sl xs tl)):=by
   refine⟨hF'.size,fun t=>?_,hF'.df⟩;simp only[Fr.put]
   split
   ·simp_all
   exact hF'.s t
  rcases q3 with⟨_,q⟩|⟨t,_,q,q4,q5⟩
  ·grind
  subst q
  have ht:H1 t=none:=by
   grind
  refine⟨_,_,hFR,fun id b hb=>?_,fun d' cs hd'=>?_,e4 t ht⟩
  ·grind [D6,C2]
  have hne:ids (.inl d')≠t:=fun e=>by
   have:=(hpv _ cs hd' rfl).1
   rw[e,q4]at this;cases this
  rw[C2 _ _ hne];simp_all
 obtain⟨fr1,H1',hF1,g1',hfree',hK⟩:=hmid
 obtain⟨g3,fr2,H2,s2,hR2,hF2,hK2⟩:=SA hinj al fr1 g' H H1' hR' hnd (fun d _ cs hd=>by
  obtain⟨k1,_,_,b,k4,k5⟩:=hpv _ cs hd rfl
  simp_all) g1' (fun d _ cs hd=>hfree' d cs hd) hF1 hK
 exact RN (A:=A) (r:=r) (K:=Q .normal) (k:=k) (fun i hi=>⟨(hat i hi).1,fun j hj hkj=>((hat i hi).2 j hj).elim (fun h=>h) fun h=>absurd h.1 (by omega)⟩) (g0:=g) (w0:=w) (fun g3 w3 a3 fr3 H3 s3 hR3 hF3 hK3=>⟨g3,fr3,H3,s3,hR3,hF3,hK3⟩) (ops.size - k) k listed fr2 H2 (by omega) (by omega) hsz hl hK2 g3 w' a' ((sd.trans s).trans s2) hR2 hF2
end
end Go.Ab
