/- . -/
import Derived.Test.YtjhobbohibnioaaGreatDoorG04
set_option linter.all false
open Go.Ab.Ar (an_eq cmp_eq nt_eq)
namespace Go.Ab
open Go.RowKit
variable [O6][Ar]
section
variable {P:Program}{nt:Nat}{rd:Option Nat}{T:ID}{l:Fl}{df:List Nat}{H:A5}
def MZ (G:List (Nat×Bool))(l:Fl):Prop:=∀j w,AN1 G j w=true→isB (CZ l j) w=true
def MZ.nil:MZ [] l:=fun j w h=>by simp[AN1]at h
def MZ.add {G:List (Nat×Bool)}(h:MZ G l){d:Nat}{w:Bool}(hd:isB (CZ l d) w=true):MZ ((d,w)::G) l:=by
 intro j w' hg
 simp only[AN1]at hg
 split at hg
 ·simp_all
 exact h j w' hg
theorem OQ:∀(l:Fl) (t:Nat) (s:Sl),lk l t=s→(∀j w x,s≠ .g j w x)→CZ l t=s.V
 |[],t,s,h,_=>by grind[CZ,Sl.V,lk]
 | (k,x)::l,t,s,h,hn=>by
  simp only[lk]at h
  simp only[CZ]
  cases hb:Nat.beq t k with
  |true=>
   simp only[hb]at h
   subst h
   cases x with
   |v x=>rfl
   |b c=>rfl
   |g j w x=>simp_all
  |false=>simp only[hb]at h;exact OQ l t s h hn
def Xy:∀(l:Fl) (t j:Nat) (w:Bool) (x:V),lk l t= .g j w x→AB1 l t j=true→CZ l t=bif isB (CZ l j) w then x else .tup []
 |[],_,_,_,_,_,h=>by simp[AB1]at h
 | (k,s)::l,t,j,w,x,h,hf=>by
  simp only[AB1]at hf
  simp only[lk]at h
  cases hj:Nat.beq k j with
  |true=>grind
  | false=>
   simp only[hj]at hf
   have hj':Nat.beq j k=false:=by
    cases e:Nat.beq j k with
    |false=>rfl
    |true=>simp_all
   have ej:CZ ((k,s)::l) j=CZ l j:=by simp_all[CZ]
   rw[ej];simp only[CZ]
   cases ht:Nat.beq t k with
   |true=>
    simp_all
   | false=>
    have ht':Nat.beq k t=false:=by
     cases e:Nat.beq k t with
     |false=>rfl
     |true=>simp_all
    simp only[ht',ht]at hf h ⊢
    exact Xy l t j w x h hf
theorem MD {G:List (Nat×Bool)} (hG:MZ G l) {t:Nat} {s:Sl} (h:Zr G l t=some s):s.V=CZ l t∧∀j w x,s≠ .g j w x:=by
 unfold Zr at h
 split at h
 ·rename_i j w x hl
  split at h
  ·rename_i hf;have e:=Xy l t j w x hl hf
   split at h
   ·rename_i hg;cases h;rw[e,hG j w hg];simp[Sl.V]
   split at h
   ·rename_i c hc;have ec:=OQ l j _ hc (fun _ _ _ h=>by cases h)
    rw[ec]at e
    grind[Sl.V,isB]
   cases h
  cases h
 grind[OQ]
def Ap5 {G:List (Nat×Bool)}(hG:MZ G l)(t:Nat):(AV2 G l t).V=CZ l t:=by
 unfold AV2
 split
 ·grind[MD]
 rfl
def Ge {G:List (Nat×Bool)} (hG:MZ G l) (x:Operand):(X0 G l x).V=ev (I9 ⟨l,df⟩) x:=by
 cases x with
 |tmp t=>exact Ap5 hG t
 |const v=>
  cases v<;>first|rfl|skip
 |global n=>rfl
 |func f=>rfl
def Sv:∀(l:Fl) (d:Nat) (c:Bool),CZ l d= .bool c→∀t,CZ (Oz l d c) t=CZ l t
 |[],_,_,_,_=>rfl
 | (k,s)::l,d,c,h,t=>by
  simp only[Oz]
  cases hd:Nat.beq d k with
  |true=>
   have e:=FT hd
   simp_all[CZ]
  |false=>
   have hl:CZ l d= .bool c:=by simp_all[CZ]
   have ih:=Sv l d c hl
   simp_all[CZ]
def QP {d:Nat}{c:Bool}(h:CZ l d= .bool c):I9 ⟨Oz l d c,df⟩=I9 ⟨l,df⟩:=by
 simp_all[I9,Sv]
theorem Fb {o:Option V}{k:V→Prop}(h:Mk o k):∃y,o=some y∧k y:=by
 unfold Mk at h
 grind
theorem Ml (hT:Lz P T) {t:Nat} {v:V} {k:V→Prop} (h:An5 (I0 P nt rd) T t v H k):∃y,(JF P H t v=some y∨Oa P H t v=some y)∧k y:=by
 unfold An5 at h
 split at h
 ·exact h.elim
 rename_i I hI;have ok:=I6 hT hI
 split at h
 ·rename_i cs off
  split at h
  ·rename_i y hy;exact⟨y,.inl (by simp only[JF,ok.ag,ok.sz];exact hy),h⟩
  grind
 ·rename_i id off;obtain⟨cs,hk,h⟩:=h
  split at h
  ·rename_i y hy;exact⟨y,.inl (by simp only[JF,ok.ag,ok.sz,hk];exact hy),h⟩
  grind
 ·rename_i id i esz off;obtain⟨sz,xs,hk,hb,h⟩:=h
  split at h
  ·rename_i y hy;exact⟨y,.inr (by simp only[Oa,ok.ag,ok.sz,IC,hk];rw[A1 hb];exact hy),h⟩
  grind
 grind
theorem Be0 (hT:Lz P T){t f:Nat}{I:AC8}{p:Nat×Nat}(hI:tg T t=some I)(hf:I.fs[f]? =some (some p)):fdO P t f=some p:=by
 have:=Xw I.fs 0 f p (I6 hT hI).fs hf
 rwa[J7]at this
theorem Kd (hT:Lz P T){t f:Nat}{v:V}{k:V→Prop}(h:Om T t v f k):∃y,It P t v f=some y∧k y:=by
 unfold Om at h
 grind[Fb,It,Be0]
theorem Pu (hT:Lz P T) {t f:Nat} {v:V} {k:V→Prop} (h:Ae6 T t v f k):∃y,Un P t v f=some y∧k y:=by
 unfold Ae6 at h
 split at h
 ·exact h.elim
 rename_i I hI
 split at h
 ·rename_i p hp
  split at h
  ·exact h.elim
  rename_i J hJ
  split at h
  ·obtain⟨y,h1,h2⟩:=Fb h;exact⟨y,by simp only[Un,Be0 hT hI hp,(I6 hT hJ).ag,(I6 hT hJ).sz];exact h1,h2⟩
  grind
 grind
def Qy (hT:Lz P T) {t:Nat} {v i:V} {k:V→Prop} (h:Ol (I0 P nt rd) T t v i k):∃ki j u y,i= .int ki j∧EA P t v j=some u∧DF u y∧k y:=by
 unfold Ol at h
 split at h
 ·rename_i ki j
  split at h
  ·exact h.elim
  rename_i I hI;have ok:=I6 hT hI;refine⟨ki,j,?_⟩
  split at h
  ·rename_i e he
   split at h
   ·exact h.elim
   rename_i J hJ;have okJ:=I6 hT hJ
   split at h
   ·rename_i xs tl;obtain⟨hb,h⟩:=h
    split at h
    ·rename_i hsz;refine⟨_,_,rfl,?_,.refl _,h⟩;simp only[EA,ok.sl,he,okJ.sz];rw[A1 ⟨hb,by rw[FT hsz]⟩]
    grind
   grind
  rename_i he
  split at h
  ·rename_i n e hae
   split at h
   ·exact h.elim
   rename_i J hJ
   split at h
   ·obtain⟨⟨hb1,hb2,hb3⟩,h⟩:=h;rename_i cs off
    have hle:off+j.toNat*J.sz+J.sz≤cs.length:=by
     have h1:j.toNat+1≤n:=by omega
     have h2:=G3 J.sz h1
     rw[E2,U0]at h2
     omega
    refine⟨_,_,rfl,?_,.sub hle,h⟩;simp only[EA,ok.sl,he,ok.ar,hae,(I6 hT hJ).sz];rw[A1 ⟨hb1,hb2⟩];rfl
   obtain⟨hb,h⟩:=h;obtain⟨y,h1,h2⟩:=Fb h;refine⟨y,y,rfl,?_,.refl _,h2⟩;simp only[EA,ok.sl,he,ok.ar,hae,(I6 hT hJ).sz];rw[A1 hb];exact h1
  grind
 grind
def WG (hT:Lz P T) {t:Nat} {v i:V} {k:V→Prop} (h:Ae5 (I0 P nt rd) T t v i k):∃ki j y,i= .int ki j∧QM P t v j=some y∧k y:=by
 unfold Ae5 at h
 split at h
 ·rename_i ki j
  split at h
  ·exact h.elim
  rename_i I hI;have ok:=I6 hT hI;refine⟨ki,j,?_⟩
  split at h
  ·rename_i n e hae
   split at h
   ·exact h.elim
   rename_i J hJ
   split at h
   ·obtain⟨hb,h⟩:=h;obtain⟨y,h1,h2⟩:=Fb h;refine⟨y,rfl,?_,h2⟩;simp only[QM,ok.ar,hae,(I6 hT hJ).ag,(I6 hT hJ).sz];rw[A1 hb];exact h1
   grind
  rename_i hae
  split at h
  ·split at h
   ·rename_i hs;obtain⟨hb,h⟩:=h;refine⟨_,rfl,?_,h⟩;rename_i str _
    have hb:0≤j∧j<(str.size:Nat):=by
     rw[an_eq,cmp_eq,cmp_eq,Ar.slen_eq]at hb
     grind[Pi]
    simp only[QM,ok.ar,hae,ok.st];rw[A1 ⟨hs,hb.1⟩,Ar.sat_eq]
    have hlt:j.toNat<str.size:=by omega
    simp[hlt]
   grind
  grind
 grind
def Ae7:∀xs ys:List V,xeq xs ys=Bf xs ys
 |[],[]=>rfl
 |[],_::_=>rfl
 |x::xs,[]=>by grind[xeq,Bf]
 | x::xs,y::ys=>by
  have ih:=Ae7 xs ys
  have hAn:(Ar.an:Bool→Bool→Bool)=fun a b=>a&&b:=by funext a b;simp[an_eq]
  unfold xeq Bf;rw[ih,hAn]
  cases x<;>cases y<;>simp only[Kj,cmp_eq,Ar.scmp_eq,Ar.beq_eq,Pi,Bh8]<;>first
   |rfl
   |(cases Bf xs ys<;>rfl)
   |(split<;>cases Bf xs ys<;>rfl)
theorem Ak2 {op:BinOp}{ki:IntKind}{a b:Int}(h:Ue op=true):MJ op ki a b=some (.bool (Ar.cmp op a b)):=by
 rw[cmp_eq]
 cases op<;>simp[Ue]at h<;>rfl
theorem AA4 {op:BinOp}{ki:IntKind}{a b:Int}(h:AX9 op=true):MJ op ki a b=some (.int ki (Ar.ar op ki a b)):=by
 rw[Ar.ar_eq]
 cases op<;>simp[AX9]at h<;>rfl
theorem Ak1 {op:BinOp}{ki:IntKind}{a b:Int}(h:AM8 op=true)(hb:b≠0):MJ op ki a b=some (.int ki (Ar.ar op ki a b)):=by
 rw[Ar.ar_eq]
 cases op<;>simp[AM8]at h<;>simp[MJ,arI,hb]
def Af4 {op:BinOp}{a b:ByteArray}(h:Ue op=true):Td op a b=some (.bool (Ar.scmp op a b)):=by
 rw[Ar.scmp_eq]
 cases op<;>simp[Ue]at h<;>rfl
def Ax5 {op:BinOp}{ki:IntKind}{a b:Int}(h:JI op=true)(hb:0≤b):Tj op ki a b=some (.int ki (Ar.sh op ki a b)):=by
 rw[Ar.sh_eq]
 cases op<;>simp[JI]at h<;>simp only[Tj,shI]<;>rw[A0 (by omega)]
theorem SQ (hT:Lz P T) {op:BinOp} {t:Nat} {x y:V} {k:V→Prop} (h:Be8 (I0 P nt rd) T op t x y k):∃v,Sn P op t x y=some v∧k v:=by
 unfold Be8 at h
 split at h
 ·rename_i ka a kb b
  split at h
  ·rename_i hs;obtain⟨hb,h⟩:=h
   have hb:0≤b:=by rw[cmp_eq]at hb;grind[Pi]
   simp_all[Sn,Ax5]
  rename_i hs
  split at h
  ·rename_i hk
   have e:Sn P op t (.int ka a) (.int kb b)=MJ op ka a b:=by simp[Sn,hs,hk]
   split at h
   ·grind[Ak2]
   split at h
   ·grind[AA4]
   split at h
   ·rename_i hc;obtain⟨hb,h⟩:=h
    have hb:b≠0:=by rw[cmp_eq]at hb;grind[Pi]
    grind[Ak1]
   grind
  grind
 ·rename_i a b
  split at h
  ·rename_i hc;exact⟨_,Af4 hc,h⟩
  split at h
  ·obtain⟨hb,h⟩:=h
   have hb:((a.size+b.size:Nat):Int)≤9223372036854775807:=by
    rw[cmp_eq,Ar.slen_eq,Ar.cat_eq]at hb
    have e:(a++b).size=a.size+b.size:=by simp
    rw[e]at hb
    grind[Pi]
   simp_all[Sn,Td,Ar.cat_eq]
  grind
 ·rename_i a b
  split at h
  ·exact h.elim
  rename_i I hI
  split at h
  ·rename_i hbo;have hbo':=(I6 hT hI).bo hbo
   split at h
   ·simp_all[Sn,Ar.beq_eq]
   ·simp_all[Sn,Ar.beq_eq,nt_eq]
   grind
  grind
 ·rename_i xs ys
  split at h
  ·exact h.elim
  rename_i I hI;have ok:=I6 hT hI
  split at h
  ·rename_i hc;obtain⟨h1,h2,h3⟩:=hc
   have hek:Hl P 9 t=some (xs.map kd):=by
    have:=ok.ek
    rw[h2]at this
    exact this
   have hcond:agO P t=some true∧Hl P 9 t=some (xs.map kd)∧ys.map kd=xs.map kd:=⟨by rw[ok.ag,h1],hek,h3⟩;cases op<;>try exact h.elim
   ·cases hx:xeq xs ys with
    |none=>simp_all
    |some b=>
     simp_all[Ae7,Sn]
   cases hx:xeq xs ys with
   |none=>simp_all
   |some b=>
    simp_all[Ae7,Sn,nt_eq]
  grind
 grind
theorem Vo {op:UnOp}{x:Sl}{k:Sl→Prop}(h:xun op x k):∃s:Sl,unV op x.V=some s.V∧k s:=by
 unfold xun at h
 grind[unV,Sl.V,nt_eq,Ar.neg_eq]
def Yd (hT:Lz P T) {s d:Nat} {x:V} {H:A5} {k:V→Prop} (h:AE2 (I0 P nt rd) T s d x H k):∃v,(Wr P s d x=some v∨Ws P H s d x v)∧k v:=by
 unfold AE2 at h
 split at h
 ·rename_i I J hI hJ;have okI:=I6 hT hI;have okJ:=I6 hT hJ
  split at h
  ·rename_i ki kj n hi hj
   have e1:=okI.ik;rw[hi]at e1
   have e2:=okJ.ik;rw[hj]at e2
   simp_all[CS,Wr,Ar.wr_eq]
  ·rename_i b _
   split at h
   ·rename_i h1 h2;have e1:=Nk (okI.st.trans h1);have e2:=Nk (okJ.st.trans h2)
    simp_all[Wr]
   grind
  ·obtain⟨v,h1,h2⟩:=h;grind
  ·obtain⟨v,h1,h2⟩:=h;grind
  grind
 grind
theorem Pw (hT:Lz P T) {t:Nat} {parts:List (Nat×V)} {k:V→Prop} (h:Ae8 T t parts k):∃v,QX P t parts=some v∧k v:=by
 unfold Ae8 at h
 split at h
 ·exact h.elim
 rename_i I hI;have ok:=I6 hT hI
 split at h
 ·rename_i cs hz
  have ez:=ok.ze;rw[hz]at ez;simp only[CS]at ez
  split at h
  ·rename_i n e ha
   split at h
   ·exact h.elim
   rename_i J hJ
   split at h
   ·rename_i c hc;exact⟨_,by simp only[QX,ok.ar,ha,ez,(I6 hT hJ).sz,hc];rfl,h⟩
   grind
  rename_i ha
  split at h
  ·rename_i pl hpl
   have ep:=ok.pl;rw[hpl]at ep;simp only[CS]at ep
   split at h
   ·rename_i c hc;have hc':MO (pl[·]?) cs parts=some c:=hc;exact⟨_,by simp only[QX,ok.ar,ha,ez,ep,hc'];rfl,h⟩
   grind
  grind
 grind
def Jj (hT:Lz P T){t n:Nat}{parts:List (Nat×V)}{k:V→Prop}(h:Jk T t n parts k):∃v,Bz P t n parts=some v∧k v:=by
 unfold Jk at h
 split at h
 ·exact h.elim
 rename_i I hI
 split at h
 ·exact h.elim
 rename_i e he
 split at h
 ·exact h.elim
 rename_i J hJ
 split at h
 ·exact h.elim
 rename_i z hz
 have ez:=(I6 hT hJ).ze;rw[hz]at ez;simp only[CS]at ez
 split at h
 ·rename_i hc;refine⟨_,?_,h⟩;simp only[Bz,(I6 hT hI).sl,he,(I6 hT hJ).sz,ez];rw[A1 hc]
 grind
def WF (hT:Lz P T) {t:Nat} {l c:V} {k:V→Prop} (h:Ae4 T t l c k):∃v,AL6 P t l c v∧k v:=by
 unfold Ae4 at h
 split at h
 ·split at h
  ·exact h.elim
  rename_i I hI
  split at h
  ·exact h.elim
  rename_i e he
  split at h
  ·exact h.elim
  rename_i J hJ
  split at h
  ·exact h.elim
  rename_i z hz
  have ez:=(I6 hT hJ).ze;rw[hz]at ez;simp only[CS]at ez
  split at h
  ·rename_i hc;obtain⟨h1,h2,h3,h4,rfl,h6,h7⟩:=hc;exact⟨_,⟨_,_,_,e,J.sz,J.by_,z,rfl,rfl,by rw[(I6 hT hI).sl,he],(I6 hT hJ).sz,h1,(I6 hT hJ).by_,h2,ez,h3,h4,h6,h7,rfl⟩,h⟩
  grind
 grind
def WB (hT:Lz P T) {t:Nat} {v:V} {lo hi mx:Option (Option Int)} {k:V→Prop} (h:Ae1 (I0 P nt rd) T t v lo hi mx k):
 ∃a b c y,lo=some a∧hi=some b∧mx=some c∧Te P t v a b c=some y∧k y:=by
 unfold Ae1 at h
 split at h
 ·rename_i a b c;refine⟨a,b,c,?_⟩
  split at h
  ·exact h.elim
  rename_i I hI
  split at h
  ·rename_i e he
   split at h
   ·exact h.elim
   rename_i J hJ
   split at h
   ·obtain⟨hc,h⟩:=h;refine⟨_,rfl,rfl,rfl,?_,h⟩;simp only[Te,(I6 hT hI).sl,he,(I6 hT hJ).sz];rw[A1 hc]
   grind
  grind
 grind
def UU (hT:Lz P T) {t id:Nat} {l0 n:Int} {lo hi mx:Option (Option Int)} {k:V→Prop} (h:WC (I0 P nt rd) T t H id l0 n lo hi mx k):
 ∃a b c y,lo=some a∧hi=some b∧mx=some c∧Mr P H t (.own id l0 n) a b c=some y∧k y:=by
 unfold WC at h
 split at h
 ·rename_i a b c;refine⟨a,b,c,?_⟩
  split at h
  ·exact h.elim
  rename_i I hI
  split at h
  ·rename_i e he
   split at h
   ·exact h.elim
   rename_i J hJ;obtain⟨xs,hk,hc,h⟩:=h;refine⟨_,rfl,rfl,rfl,?_,h⟩;simp only[Mr,(I6 hT hI).sl,he,(I6 hT hJ).sz,IC,hk];rw[A1 ⟨trivial,hc⟩];rfl
  grind
 grind
theorem Ll (hT:Lz P T) {b:Builtin} {ts:List TypeId} {vs:List V} {k:V→Prop} (h:Qz (I0 P nt rd) T b ts vs k):∃v,DE P b ts vs v∧k v:=by
 unfold Qz at h
 split at h
 ·rename_i t x
  split at h
  ·exact h.elim
  rename_i I hI;have ok:=I6 hT hI
  split at h
  ·rename_i e he
   split at h
   ·exact⟨_,by simp only[DE,AA1,ok.sl,he],h⟩
   grind
  rename_i he
  split at h
  ·rename_i n e ha;exact⟨_,by simp only[DE,AA1,ok.sl,he,ok.ar,ha,Ar.ofN_eq],h⟩
  rename_i ha
  split at h
  ·split at h
   ·rename_i hs;exact⟨_,by simp only[DE,AA1,ok.sl,he,ok.ar,ha,ok.st,hs,D2,Ar.slen_eq],h⟩
   grind
  grind
 ·grind[Ar.mx_eq,DE]
 ·grind[Ar.mn_eq,DE]
 ·rename_i sT yT xs tl ys tl'
  split at h
  ·rename_i I I2 hI hI2
   split at h
   ·rename_i e e2 he he2
    split at h
    ·rename_i J hJ
     split at h
     ·rename_i z hz
      have ez:=(I6 hT hJ).ze;rw[hz]at ez;simp only[CS]at ez
      split at h
      ·rename_i hc;obtain⟨c1,c2,c3,c4,c5⟩:=hc;obtain⟨xs',ys',l1,l2,k1,k2,k3,k4⟩:=h;refine⟨_,⟨?_,e,J.sz,J.by_,z,xs',ys',(I6 hT hI).sl.trans he,by rw[(I6 hT hI2).sl,he2];rfl,(I6 hT hJ).sz,c1,(I6 hT hJ).by_,c2,ez,c3,c4,l1,l2,k1,k2,k3,rfl⟩,k4⟩;cases tl<;>first|exact .inl rfl|exact .inr rfl|cases c5
      grind
     grind
    grind
   grind
  grind
 grind
theorem Rt {t:Bool}{x y:Sl}{k:Sl→Prop}(h:AD7 (I0 P nt rd) t x y k):∃s:Sl,(t=true→s.V=x.V)∧(t=false→s.V=y.V)∧k s:=by
 unfold AD7 at h
 split at h
 ·grind
 ·exact⟨_,fun e=>(by simp[Sl.V,e]),fun e=>(by simp[Sl.V,e]),h⟩
 ·grind[Sl.V,Ar.or_eq]
 ·grind[Sl.V,nt_eq]
 ·grind
 ·grind[Sl.V,nt_eq,an_eq]
 ·grind[Sl.V,nt_eq,Ar.or_eq]
 ·grind[Sl.V,an_eq]
 ·grind[Ar.pk_eq]
 obtain⟨h1,h2⟩:=h;cases t
 ·grind
 grind
def MZ.arm {G:List (Nat×Bool)} (hG:MZ G l) {c:Operand} {w:Bool} (h:ev (I9 ⟨l,df⟩) c= .bool w):MZ (Bi5 c w G) l:=by
 cases c with
 |tmp d=>
  refine hG.add ?_;have:CZ l d= .bool w:=h;rw[this];simp[isB]
 |const _=>exact hG
 |global _=>exact hG
 |func _=>exact hG
theorem Ru (hT:Lz P T) {b:Builtin} {ts:List TypeId} {vs:List V} {w:V} {k:V→Prop} (hid:Ai2 b vs=some w) (h:AE0 (I0 P nt rd) T b ts H w k):∃v,OR P H b ts vs v∧k v:=by
 unfold Ai2 at hid
 unfold AE0 at h
 split at hid
 ·cases hid
  split at h
  ·split at h
   ·exact h.elim
   rename_i I hI
   split at h
   ·rename_i e he;exact⟨_,by simp only[OR,AX2,(I6 hT hI).sl,he],h⟩
   grind
  grind
 ·cases hid
  split at h
  ·split at h
   ·exact h.elim
   rename_i I hI
   split at h
   ·rename_i e he
    split at h
    ·simp_all
    ·obtain⟨sz,xs,hk,h⟩:=h;exact⟨_,by simp only[OR,Am4,(I6 hT hI).sl,he,IC,hk];rfl,h⟩
    ·exact⟨_,by simp only[OR,Am4,(I6 hT hI).sl,he],h⟩
    ·exact⟨_,by simp only[OR,Am4,(I6 hT hI).sl,he],h⟩
    grind
   grind
  grind
 cases hid
def Pr (hT:Lz P T) {G:List (Nat×Bool)} (hG:MZ G l) {o:Oper} {k:Sl→Prop} (h:xq (I0 P nt rd) T G o l H k):∃s:Sl,Pq P o (ev (I9 ⟨l,df⟩)) H s.V∧k s:=by
 have E:∀x,(X0 G l x).V=ev (I9 ⟨l,df⟩) x:=fun x=>Ge hG x;have Em:∀xs:List Operand,(xs.map fun x=>(X0 G l x).V)=xs.map (ev (I9 ⟨l,df⟩)):=fun xs=>X3 fun p _=>E p
 have Eo:∀x:Option Operand,(x.map fun x=>(X0 G l x).V)=x.map (ev (I9 ⟨l,df⟩)):=fun x=>by cases x<;>simp[E]
 have Ep:∀ps:List (Nat×Operand),(ps.map fun p=>(p.1,(X0 G l p.2).V))=ps.map fun p=>(p.1,ev (I9 ⟨l,df⟩) p.2):=fun ps=>X3 fun p _=>by rw[E]
 unfold xq at h
 unfold Pq
 split at h<;>rename_i ho<;>try simp only[ho]
 ·grind
 ·grind
 ·rename_i c x y
  split at h
  ·rename_i hc
   have:ev (I9 ⟨l,df⟩) c= .bool true:=by rw[←E,hc];rfl
   grind
  ·rename_i hc
   have:ev (I9 ⟨l,df⟩) c= .bool false:=by rw[←E,hc];rfl
   grind
  ·rename_i b hc
   have hb:ev (I9 ⟨l,df⟩) c= .bool b:=by rw[←E,hc];rfl
   obtain⟨s,h1,h2,h3⟩:=Rt h;refine⟨s,?_,h3⟩;simp only[hb];cases b
   ·simp only[J2,G0];rw[h2 rfl];exact Ge (hG.arm hb) _
   simp only[D2];rw[h1 rfl];exact Ge (hG.arm hb) _
  grind
 ·split at h
  ·rename_i h1;rw[E]at h1;exact⟨_,⟨h1,by rw[E];rfl⟩,h⟩
  grind
 ·obtain⟨v,h1,h2⟩:=Pw hT h
  rw[Ep]at h1;exact⟨.v v,h1,h2⟩
 ·obtain⟨v,h1,h2⟩:=Jj hT h
  rw[Ep]at h1;exact⟨.v v,h1,h2⟩
 ·obtain⟨v,h1,h2⟩:=WF hT h
  rw[E,E]at h1;exact⟨.v v,h1,h2⟩
 ·obtain⟨v,h1,h2⟩:=Ml hT h
  rw[E]at h1;exact⟨.v v,h1,h2⟩
 ·grind
 ·obtain⟨v,h1,h2⟩:=SQ hT h
  rw[E,E]at h1;exact⟨.v v,h1,h2⟩
 ·grind[Vo]
 ·obtain⟨v,h1,h2⟩:=Yd hT h
  rw[E]at h1;exact⟨.v v,h1,h2⟩
 ·obtain⟨v,h1,h2⟩:=h
  rw[E,E]at h1;exact⟨.v v,h1,h2⟩
 ·split at h
  ·rename_i I hI
   split at h
   ·rename_i hn;exact⟨_,⟨(I6 hT hI).nif hn,by rw[E];rfl⟩,h⟩
   grind
  grind
 ·grind[Sl.V]
 ·split at h
  ·rename_i id l0 n hx;obtain⟨a,b,c,y,h1,h2,h3,h4,h5⟩:=UU hT h
   rw[Eo]at h1 h2 h3
   rw[E]at hx
   exact⟨.v y,by simp only[h1,h2,h3,hx];exact .inr h4,h5⟩
  obtain⟨a,b,c,y,h1,h2,h3,h4,h5⟩:=WB hT h
  rw[Eo]at h1 h2 h3
  rw[E]at h4
  exact⟨.v y,by simp only[h1,h2,h3];exact .inl h4,h5⟩
 ·obtain⟨v,h1,h2⟩:=Kd hT h
  rw[E]at h1;exact⟨.v v,h1,h2⟩
 ·obtain⟨v,h1,h2⟩:=Pu hT h
  rw[E]at h1;exact⟨.v v,h1,h2⟩
 ·split at h
  ·rename_i id lo n hx
   unfold Bb8 at h
   split at h
   ·rename_i i hi
    split at h
    ·exact h.elim
    rename_i I hI
    split at h
    ·rename_i e he
     split at h
     ·exact h.elim
     rename_i J hJ;obtain⟨⟨xs,hk⟩,hb,h⟩:=h
     rw[E]at hx hi
     refine⟨.v _,?_,h⟩;simp only[hi,hx];refine .inr ?_;simp only[Ak5,(I6 hT hI).sl,he,IC,hk,(I6 hT hJ).sz,Ar.ofs_eq];rw[A1 ⟨hb,trivial⟩];rfl
    grind
   grind
  obtain⟨ki,j,u,y,h1,h2,h4,h3⟩:=Qy hT h
  rw[E]at h1 h2
  exact⟨.v y,by simp only[h1];exact .inl ⟨u,h2,h4⟩,h3⟩
 ·obtain⟨ki,j,y,h1,h2,h3⟩:=WG hT h
  rw[E]at h1 h2
  exact⟨.v y,by simp only[h1];exact h2,h3⟩
 ·split at h
  ·rename_i cs hc
   rw[E]at hc
   obtain⟨y,h1,h2⟩:=Fb h;exact⟨.v y,by simp only[hc];exact h1,h2⟩
  grind
 ·rename_i c
  split at h
  ·rename_i b hb
   split at h
   ·rename_i w hid
    rw[Em]at hid
    obtain⟨v,h1,h2⟩:=Ru hT hid h;exact⟨.v v,by simp only[hb];exact .inr h1,h2⟩
   obtain⟨v,h1,h2⟩:=Ll hT h
   rw[Em]at h1
   exact⟨.v v,by simp only[hb];exact .inl h1,h2⟩
  grind
 grind
end
def Ex (d:Option Tmp)(s:Sl)(l:Fl):Fl:=
 match d with
 |some d=>(d,s)::l
 |none=>l
section
variable (E:FN)(T:ID)(nt:Nat)(A:Nat→Bool)(Z:Nat→List Nat)
def An6 (H:A5) (k:V→A5→Prop) (ts:List TypeId) (vs:List V):Prop:=
 match ts,vs with
 | [sT, yT],[.sl xs tl,.sl ys _]=>
  (match tg T sT,tg T yT with
   | some I,some I2=>
    (match I.sl,I2.sl with
     | some e,some _=>
      (match tg T e with
       | some J=>
        (match J.ze with
         |some z=>if 0<J.sz∧0<J.by_∧z.one=true∧z.cells.length=J.sz then E.appn J.sz J.by_ H tl xs ys k else False
         |none=>False)
       |none=>False)
     |_,_=>False)
   |_,_=>False)
 |_,_=>False
def Ye (H:A5) (k:V→A5→Prop) (ts:List TypeId) (vs:List V):Prop:=
 match ts,vs with
 | [sT, yT],[.sl xs tl,.sl ys _]=>
  (match tg T sT,tg T yT with
   | some I,some I2=>
    (match I.sl,I2.sl with
     | some e,some _=>
      (match tg T e with
       | some J=>
        (match J.ze with
         |some z=>if 0<J.sz∧0<J.by_∧z.one=true∧z.cells.length=J.sz then E.appw J.sz J.by_ H tl xs ys k else False
         |none=>False)
       |none=>False)
     |_,_=>False)
   |_,_=>False)
 |_,_=>False
def AI7 (a:Bool)(vs:List V):Bool:=
 match vs with
 | .own _ _ _::_=>true
 |_=>a
def Yf (H : A5) (k:V→A5→Prop) (ts:List TypeId) (vs:List V):Prop:=
 match ts,vs with
 | [sT, yT],[x,y]=>
  (match tg T sT,tg T yT with
   | some I,some I2=>
    (match I.sl with
     | some e=>
      (match tg T e with
       | some J=>
        (match J.ze with
         | some z=>
          if 0<J.sz∧0<J.by_∧z.one=true∧z.cells.length=J.sz then
           (match I2.sl,I2.ik,y with
            |some _,_,y=>E.oapp J.sz J.by_ z H x y k
            |none,some _,.int _ m=>E.oappz J.sz J.by_ z H x m k
            |none,none,.str s=>(match I2.st,J.sz with|true,1=>E.oapps J.by_ z H x s k|_,_=>False)
            |_,_,_=>False)
          else False
         |none=>False)
       |none=>False)
     |_=>False)
   |_,_=>False)
 |_,_=>False
def Bc1 (H:A5) (k:V→A5→Prop) (ts:List TypeId) (vs:List V):Prop:=
 match ts,vs with
 | [sT,_],[.own id lo n,y]=>
  (match tg T sT with
   | some I=>
    (match I.sl with
     |some e=>(match tg T e with|some J=>if 0<J.sz then E.ocopy J.sz H (.own id lo n) y k else False|none=>False)
     |_=>False)
   |_=>False)
 |_,_=>False
def AE3 (H:A5) (k:V→A5→Prop) (ts:List TypeId) (vs:List V):Prop:=
 match ts,vs with
 | [sT],[.own id lo n]=>
  (match tg T sT with
   | some I=>
    (match I.sl with
     | some e=>
      (match tg T e with
       |some J=>(match J.ze with|some z=>if 0<J.sz∧z.one=true∧z.cells.length=J.sz then E.oclear J.sz z H (.own id lo n) fun H'=>k (.tup []) H' else False|none=>False)
       |none=>False)
     |_=>False)
   |_=>False)
 |_,_=>False
def Bb9 (t:Nat) (H:A5) (k:V→A5→Prop) (l c:V):Prop:=
 match l,c with
 | .int _ n,.int _ m=>
  (match tg T t with
   | some I=>
    (match I.sl with
     | some e=>
      (match tg T e with
       | some J=>
        (match J.ze with
         |some z=>if 0<J.sz∧0<J.by_∧z.one=true∧z.cells.length=J.sz then E.omk J.sz J.by_ z n m H k else False
         |none=>False)
       |none=>False)
     |none=>False)
   |none=>False)
 |_,_=>False
def AR9 (t:Nat)(H:A5)(k:Sl→A5→Prop):Prop:=
 match tg T t with
 |some I=>(match I.sl with|some e=>(match tg T e with|some J=>E.onil J.sz H fun v H'=>k (.v v) H'|none=>False)|none=>False)
 |none=>False
def xlit (t n:Nat) (H:A5) (parts:List (Nat×V)) (k:Sl→A5→Prop):Prop:=
 match tg T t with
 |none=>False
 | some I=>
  match I.sl with
  |none=>False
  | some e=>
   match tg T e with
   |none=>False
   |some J=>
    match J.ze with
    |none=>False
    |some _=>if n*J.sz≤16777216∧parts.length=n∧Dv J.sz 0 parts=true then E.olit J.sz H (parts.map fun q=>q.2) fun v H'=>k (.v v) H' else False
def xop (G:List (Nat×Bool)) (o:Oper) (l:Fl) (H:A5) (k:Sl→A5→Prop):Prop:=
 match o.op with
 | .alloc t=>
  (match tg T t with
   | some I=>
    (match I.ze with
     | some z=>
      (match A (o.dst.getD 0+5000000),MI z with
       |true,true=>(match I.sl with|some e=>(match tg T e with|some J=>E.oalloc J.sz H fun id H'=>k (.v (.ref id 0)) H'|none=>False)|none=>False)
       |_,_=>(match z.one with|true=>E.alloc H z.cells fun id H'=>(match A (o.dst.getD 0+10000000)with|true=>E.wkB H' id fun H2=>k (.v (.ref id 0)) H2|false=>k (.v (.ref id 0)) H')|false=>False))
     |none=>False)
   |none=>False)
 | .box _ x=>
  match A (o.dst.getD 0+1000000)with
  |true=>E.need ((X0 G l x).V.one=true∧(X0 G l x).V.cells=[(X0 G l x).V]) fun _=>(match A (o.dst.getD 0)with|true=>E.alloc H [(X0 G l x).V] fun id H'=>k (.v (.ref id 0)) H'|false=>k (.v (.eref [(X0 G l x).V] 0)) H)
  |false=>
  (match(X0 G l x).V.one with
   |true=>(match A (o.dst.getD 0)with|true=>E.alloc H (X0 G l x).V.cells fun id H'=>k (.v (.ref id 0)) H'|false=>k (.v (.eref (X0 G l x).V.cells 0)) H)
   |false=>False)
 | .store t x y=>
  (match tg T t with
   | some I=>
    (match(X0 G l x).V with
     | .ref id off=>
      (match(X0 G l y).V.one with
       | true=>
        (match Nat.beq (X0 G l y).V.cells.length I.sz with
         |true=>E.store H id off I.sz (X0 G l y).V.cells fun H'=>k (.v .bad) H'
         |false=>False)
       |false=>False)
     | .elem id i esz off=>E.ostore H id i esz I.sz off (X0 G l y).V fun H'=>k (.v .bad) H'
     |_=>False)
   |none=>False)
 | .binOp op t x y _=>
  (match At1 op,MI (X0 G l y).V with
   |some q,true=>(match tg T t with|some I=>(match I.sl with|some _=>E.nilc (X0 G l x).V (fun _=>k (.b q) H) (fun _=>k (.b (!q)) H)|none=>xq E T G o l H fun s=>k s H)|none=>False)
   |_,_=>xq E T G o l H fun s=>k s H)
 | .makeSlice t x y=>Bb9 E T t H (fun v H'=>k (.v v) H') (X0 G l x).V (X0 G l y).V
 | .assign x=>(match A (o.dst.getD 0+6000000),AX8 x with|true,true=>(match MI (X0 G l x).V with|true=>AR9 E T o.type H k|false=>k (X0 G l x) H)|_,_=>k (X0 G l x) H)
 | .move x=>(match A (o.dst.getD 0+6000000),AX8 x with|true,true=>(match MI (X0 G l x).V with|true=>AR9 E T o.type H k|false=>k (X0 G l x) H)|_,_=>k (X0 G l x) H)
 | .buildSlice t n ps=>
  (match A (o.dst.getD 0+6000000)with
   |true=>xlit E T t n H (ps.toList.map fun p=>(p.1,(X0 G l p.2).V)) k
   |false=>Jk T t n (ps.toList.map fun p=>(p.1,(X0 G l p.2).V)) fun v=>k (.v v) H)
 | .makeMap _ r=>(match r with|none=>E.mmk H fun v H'=>k (.v v) H'|some _=>False)
 | .mapUpdate t x y z=>E.mset t H (X0 G l x).V (X0 G l y).V (X0 G l z).V fun H'=>k (.v .bad) H'
 | .insert t x y z=>E.mset t H (X0 G l x).V (X0 G l y).V (X0 G l z).V fun H'=>k (.v .bad) H'
 | .range t x=>E.mrg t H (X0 G l x).V fun v H'=>k (.v v) H'
 | .next x s=>(match s with|false=>E.mnx H (X0 G l x).V fun v H'=>k (.v v) H'|true=>False)
 | .entry x=>E.men H (X0 G l x).V fun v H'=>k (.v v) H'
 | .call c=>
  (match c.callee with
   | .value x=>E.call (X0 G l x).V (c.args.toList.map fun x=>(X0 G l x).V) H fun v H'=>k (.v v) H'
   | .builtin .append=>
    (match AI7 (A (o.dst.getD 0)) (c.args.toList.map fun x=>(X0 G l x).V)with
     |true=>Yf E T H (fun v H'=>k (.v v) H') c.argTypes.toList (c.args.toList.map fun x=>(X0 G l x).V)
     | false=>
      (match A (o.dst.getD 0+4000000)with
       |true=>Ye E T H (fun v H'=>k (.v v) H') c.argTypes.toList (c.args.toList.map fun x=>(X0 G l x).V)
       |false=>An6 E T H (fun v H'=>k (.v v) H') c.argTypes.toList (c.args.toList.map fun x=>(X0 G l x).V)))
   | .builtin .copy=>Bc1 E T H (fun v H'=>k (.v v) H') c.argTypes.toList (c.args.toList.map fun x=>(X0 G l x).V)
   | .builtin .clear=>AE3 E T H (fun v H'=>k (.v v) H') c.argTypes.toList (c.args.toList.map fun x=>(X0 G l x).V)
   | .builtin _=>xq E T G o l H fun s=>k s H
   |_=>False)
 |_=>xq E T G o l H fun s=>k s H
def Ak0 (o o2:Oper):Option (Nat×TypeId×TypeId×Operand):=
 match o.op,o.dst,o.guard with
 | .alloc t,some d,none=>
  (match o2.op,o2.dst,o2.guard with
   | .store t2 (.tmp d2) x,none,none=>
    (match A d,Nat.beq d d2 with
     |false,true=>(match x with| .tmp d3=>(match Nat.beq d d3 with|true=>none|false=>some (d,t,t2,x))|_=>some (d,t,t2,x))
     |_,_=>none)
   |_,_,_=>none)
 |_,_,_=>none
def Bc8 (l:Fl) (t t2:TypeId) (x:Operand):Option (List V):=
 match tg T t,tg T t2 with
 | some I,some I2=>
  (match I.ze with
   |some z=>if z.one=true∧(X0 [] l x).V.one=true∧(X0 [] l x).V.cells.length=I2.sz∧I2.sz≤z.cells.length then some (Ah z.cells 0 (X0 [] l x).V.cells)else none
   |none=>none)
 |_,_=>none
def HY (ops : Array Oper) (o:Oper):Nat→Fl→(List (Nat×Bool)→Fl→(Sl→Sl)→Prop)→(Fl→Prop)→Prop
 | n, l, go, skip=>
  match o.guard with
  |none=>go [] l Sl.n
  | some (j, want)=>
   (match (ops[j]?).bind (·.dst)with
    |none=>False
    | some d =>
     (match Zr [] l d with
      |some (.b c)=>(match c==want with|true=>go [] l Sl.n|false=>skip l)
      | some (.v (.bool c))=>
       (match MH [(d,want)] o l with
        |true=>go [(d,want)] l fun s=>.g d want s.V
        | false=>
         E.br c (fun _=>match want with|true=>go [] (Oz l d true) Sl.n|false=>skip (Oz l d true))
          (fun _=>match want with|false=>go [] (Oz l d false) Sl.n|true=>skip (Oz l d false)))
      |some (.v (.tup _))=>skip l
      |some _=>False
      | none =>
       (match lk l d with
        | .g j' _ (.bool _)=>
         (match AB1 l d j' with
          | true=>
           (match MH [(d,want)] o l with
            |true=>go [(d,want)] l fun s=>.g d want s.V
            | false=>
             (match lk l j',n with
              | .v (.bool c),n+1=>E.br c (fun _=>HY ops o n (Oz l j' true) go skip) (fun _=>HY ops o n (Oz l j' false) go skip)
              |_,_=>False))
          |false=>False)
        |_=>False)))
def Pt:Option (Nat×Int×Int×List V)→List Nat→Fl→A5→(Fl→A5→Prop)→Prop
 |_,[],l,H,k=>k l H
 | some (id,lo,n,xs),d::ds,l,H,k=>
  (match lk l d with
   | .v (.own id' lo' n')=>E.need (id'=id∧lo'=lo∧n'=n) fun _=>Pt (some (id,lo,n,xs)) ds ((d,.v (.sl xs .ro))::l) H k
   |_=>Pt none ds l H k)
 | none,d::ds,l,H,k=>
  match decide (1000000≤d)with
  | true=>
   (match lk l (d % 1000000)with
    | .v (.ref id 0)=>
     (match decide (100000000≤d)with
      |true=>E.adoptIn H id ((d-100000000) / 1000000) fun H'=>Pt none ds l H' k
      |false=>E.frzIn H id (d / 1000000-1) fun H'=>Pt none ds l H' k)
    |_=>False)
  |false=>
   match lk l d with
   | .v (.ref id 0)=>E.frzL H id fun cs H'=>Pt none ds ((d,.v (.eref cs 0))::l) H' k
   | .v (.own id lo n)=>E.ofrz H id lo n fun xs H'=>Pt (some (id,lo,n,xs)) ds ((d,.v (.sl xs .ro))::l) H' k
   | .v (.sl _ _)=>Pt none ds l H k
   |_=>False
def Bm9 (o:Oper):List Nat:=
 match o.dst with
 |some q=>Z q
 |none=>[]
def Ps (ops:Array Oper):List Oper→Fl→A5→(Fl→A5→Prop)→Prop
 |[],l,H,K=>K l H
 | o ::rest,l,H,K=>
  match Ht nt o.dst with
  |false=>False
  | true=>
   Pt E none (Bm9 Z o) l H fun l H=>
   match rest with
   |[]=>HY E ops o 4 l (fun G l' wr=>xop E T A G o l' H fun s H'=>K (Ex o.dst (wr s) l') H') fun l'=>K (Ex o.dst (.v (.tup [])) l') H
   | o2::rest'=>
    (match Ak0 A o o2 with
     | some (d,t,t2,x)=>
      (match Bc8 T l t t2 x with
       |some cs=>Ps ops rest' ((d,.v (.eref cs 0))::l) H K
       |none=>False)
     |none=>HY E ops o 4 l (fun G l' wr=>xop E T A G o l' H fun s H'=>Ps ops (o2::rest') (Ex o.dst (wr s) l') H' K) fun l'=>Ps ops (o2::rest') (Ex o.dst (.v (.tup [])) l') H K)
end
section
variable {P:Program}{nt:Nat}{rd:Option Nat}{T:ID}{A:Nat→Bool}{df:List Nat}
def Ar7 (l:Fl) (d t:Nat) (s:Sl):CZ ((d,s)::l) t=if t=d then slV l s else CZ l t:=by
 simp only[CZ]
 by_cases h:t=d
 ·subst h;simp only[Nat.beq_refl,D2];cases s<;>rfl
 have:Nat.beq t d=false:=by
  cases hb:Nat.beq t d with
  |false=>rfl
  |true=>simp_all
 grind
def Q5 (l:Fl) (d:Option Tmp) (s:Sl):I9 ⟨Ex d s l,df⟩=(I9 ⟨l,df⟩).put d (slV l s):=by
 cases d with
 |none=>rfl
 |some d=>
  simp_all[I9,Ex,Fr.put,Ar7]
def Fc {ops:Array Oper} {o:Oper} {go:List (Nat×Bool)→Fl→(Sl→Sl)→Prop} {skip:Fl→Prop}:∀(n:Nat) (l:Fl),HY (I0 P nt rd) ops o n l go skip→
 ∃l',(∀t,CZ l' t=CZ l t)∧((BZ ops (I9 ⟨l,df⟩) o=some true∧∃G wr,MZ G l'∧(∀s,slV l' (wr s)=s.V)∧go G l' wr)∨
  (BZ ops (I9 ⟨l,df⟩) o=some false∧(skip l'∨∃G d want,MH G o l'=true∧isB (CZ l' d) want=false∧go G l' fun s=>.g d want s.V)))
 | n, l,h=>by
  unfold HY at h
  split at h
  ·rename_i hg;exact⟨l,fun _=>rfl,.inl ⟨by simp[BZ,hg],[],_,MZ.nil,fun s=>by cases s<;>rfl,h⟩⟩
  rename_i j want hg
  split at h
  ·exact h.elim
  rename_i d hjd
  have gv:∀x,CZ l d=x→BZ ops (I9 ⟨l,df⟩) o=match x with| .bool c=>some (c==want)| .tup _=>some false|_=>none:=fun x hx=>by
   simp only[BZ,hg,hjd,I9,hx]
   grind
  have idok:∀(l':Fl) (s:Sl),slV l' s.n=s.V:=fun l' s=>by cases s<;>rfl
  have tot:∀c,CZ l d= .bool c→MH [(d,want)] o l=true→go [(d,want)] l (fun s=>.g d want s.V)→∃l',(∀t,CZ l' t=CZ l t)∧((BZ ops (I9 ⟨l,df⟩) o=some true∧∃G wr,MZ G l'∧(∀s,slV l' (wr s)=s.V)∧go G l' wr)∨
   (BZ ops (I9 ⟨l,df⟩) o=some false∧(skip l'∨∃G d want,MH G o l'=true∧isB (CZ l' d) want=false∧go G l' fun s=>.g d want s.V))):=by
   intro c hc ht h;have:=gv _ hc
   simp only at this
   cases hcw:c==want with
   |true=>exact⟨l,fun _=>rfl,.inl ⟨by rw[this,hcw],_,_,MZ.nil.add (by rw[hc];simp_all[isB]),fun s=>by simp_all[slV,isB],h⟩⟩
   |false=>exact⟨l,fun _=>rfl,.inr ⟨by rw[this,hcw],.inr ⟨_,d,want,ht,by rw[hc];simp_all[isB],h⟩⟩⟩
  split at h
  ·rename_i c hc;have hv:CZ l d= .bool c:=(MD MZ.nil hc).1.symm;have:=gv _ hv
   split at h
   ·rename_i e;exact⟨l,fun _=>rfl,.inl ⟨by rw[this];grind,[],_,MZ.nil,idok l,h⟩⟩
   grind
  ·rename_i c hc;have hv:CZ l d= .bool c:=(MD MZ.nil hc).1.symm;have hgv:=gv _ hv
   split at h
   ·simp_all
   have e:=Sv l d c hv;obtain⟨h1,h2⟩:=h;cases c
   ·have h:=h2 rfl;cases want
    ·exact⟨_,e,.inl ⟨hgv,[],_,MZ.nil,idok _,h⟩⟩
    grind
   have h:=h1 rfl;cases want
   ·grind
   exact⟨_,e,.inl ⟨hgv,[],_,MZ.nil,idok _,h⟩⟩
  ·rename_i vs hc;have hv:CZ l d= .tup vs:=(MD MZ.nil hc).1.symm
   grind
  ·exact h.elim
  split at h
  ·rename_i j' w' cx hl
   split at h
   ·rename_i hf;have hv:=Xy l d j' w' _ hl hf
    split at h
    ·rename_i ht
     cases hb:isB (CZ l j') w' with
     |true=>
      rw[hb]at hv
      simp_all
     |false=>
      rw[hb]at hv
      have hv:CZ l d= .tup []:=hv;exact⟨l,fun _=>rfl,.inr ⟨gv _ hv,.inr ⟨_,d,want,ht,by rw[hv];rfl,h⟩⟩⟩
    split at h
    ·rename_i c m hc;have hvj:=OQ l j' _ hc (fun _ _ _ h=>by cases h);obtain⟨h1,h2⟩:=h
     have key:∀b,c=b→HY (I0 P nt rd) ops o m (Oz l j' b) go skip→∃l',(∀t,CZ l' t=CZ l t)∧((BZ ops (I9 ⟨l,df⟩) o=some true∧∃G wr,MZ G l'∧(∀s,slV l' (wr s)=s.V)∧go G l' wr)∨
      (BZ ops (I9 ⟨l,df⟩) o=some false∧(skip l'∨∃G d want,MH G o l'=true∧isB (CZ l' d) want=false∧go G l' fun s=>.g d want s.V))):=by
      intro b hb h
      have hk:CZ l j'= .bool b:=by rw[hvj,hb];rfl
      have e:=Sv l j' b hk;obtain⟨l',e',h⟩:=Fc m _ h
      rw[QP hk]at h
      grind
     cases c
     ·simp_all
     simp_all
    grind
   grind
  grind
def M3.whole {y:V} {vs:List V} (h:M3 y.cells vs) (h1:y.one=true):∃z,DF y z∧z.cells=vs:=by
 have one:∀{y:V} {vs:List V},M3 [y] vs→(∀z,DF y z→z.cells=[z])→∃z,DF y z∧z.cells=vs:=by
  intro y vs h hz
  cases h with
  |cons q r=>cases r;grind
 cases y with
 |agg cs=>exact⟨.agg vs,.agg h,rfl⟩
 |tup vs=>cases h1
 |_=>exact one h fun z hz=>by cases hz<;>rfl
def Qx (hT:Lz P T) {G:List (Nat×Bool)} {o:Oper} {l:Fl} (hG:MZ G l) {H:A5} {k:Sl→A5→Prop} (h:xop (I0 P nt rd) T A G o l H k):IG P A o (ev (I9 ⟨l,df⟩)) H fun v H'=>∃s:Sl,v=s.V∧k s H':=by
 have E:∀x,(X0 G l x).V=ev (I9 ⟨l,df⟩) x:=fun x=>Ge hG x;have Em:∀xs:List Operand,(xs.map fun x=>(X0 G l x).V)=xs.map (ev (I9 ⟨l,df⟩)):=fun xs=>X3 fun p _=>E p
 have quiet:xq (I0 P nt rd) T G o l H (fun s=>k s H)→∃v,Pq P o (ev (I9 ⟨l,df⟩)) H v∧∃s:Sl,v=s.V∧k s H:=fun h=>by
  obtain⟨s,h1,h2⟩:=Pr (df:=df) hT hG h
  grind
 unfold xop at h
 split at h
 ·rename_i t ho;simp only[IG,ho]
  split at h
  ·rename_i I hI
   split at h
   ·rename_i z hz
    have ez:=(I6 hT hI).ze;rw[hz]at ez;simp only[CS]at ez
    split at h
    ·rename_i hA hn
     split at h
     ·split at h
      ·rename_i J _
       have e2:z= .sl [] .nil:=by
        grind[MI]
       rw[e2]at ez
       exact .inr ⟨ez,J.sz,fun q id hq hid=>⟨.v (.ref id 0),rfl,h q id hq hid⟩⟩
      grind
     grind
    split at h
    ·rename_i h1;refine .inl ⟨z,ez,h1,fun id hid=>?_⟩;have h:=h id hid
     split at h
     ·obtain⟨cs,ds,q1,q2,q3⟩:=h
      rw[F5]at q1;grind[BP,Sl.V]
     exact⟨_,.refl _,.v (.ref id 0),rfl,h⟩
    grind
   grind
  grind
 ·rename_i t x ho;simp only[IG,ho]
  split at h
  ·rw[E]at h
   obtain⟨⟨h1,h2⟩,h⟩:=h;refine⟨h1,?_⟩;rw[h2]
   split at h
   ·rename_i hA;rw[A1 hA];exact fun id hid=>⟨.v (.ref id 0),rfl,h id hid⟩
   grind[Sl.V]
  split at h
  ·rename_i h1
   rw[E]at h1
   refine⟨h1,?_⟩
   split at h
   ·rename_i hA;rw[A1 hA];intro id hid;have:=h id hid
    rw[E]at this
    exact⟨.v (.ref id 0),rfl,this⟩
   rename_i hA;rw[A0 (by rw[hA];simp)]
   rw[E]at h
   grind[Sl.V]
  grind
 ·rename_i t x y ho;simp only[IG,ho]
  split at h
  ·rename_i I hI
   split at h
   ·rename_i id off hx
    split at h
    ·rename_i h1
     split at h
     ·rename_i h2;obtain⟨cs,vs',hle,hk,h3,h⟩:=h
      rw[E]at hx h1 h2 hle
      obtain⟨z,hz,hzc⟩:=hle.whole h1;subst hzc;refine .inl ⟨z,_,hz,?_,.v .bad,rfl,h⟩;simp only[Ov,(I6 hT hI).sz,hx,hk];rw[A1 ⟨hz.one h1,by rw[←hz.cells.length];simp_all,Me h3⟩]
     grind
    grind
   ·rename_i id i esz off hx;obtain⟨xs,y',q1,q2,q3,q4,q5,q6,h⟩:=h
    rw[E]at hx q1
    refine .inr ⟨y',_,q1,?_,.v .bad,rfl,h⟩;simp only[WP,(I6 hT hI).sz,hx,IC,q5];rw[A1 ⟨q6,trivial,q2,q3,q4⟩]
   grind
  grind
 ·rename_i op t x y ty ho
  have old:xq (I0 P nt rd) T G o l H (fun s=>k s H)→IG P A o (ev (I9 ⟨l,df⟩)) H fun v H'=>∃s:Sl,v=s.V∧k s H':=fun h=>by
   grind[IG]
  split at h
  ·rename_i q hq hn
   split at h
   ·rename_i I hI
    split at h
    ·rename_i e he;obtain⟨p,h1,h2,h3⟩:=h
     rw[E]at h1 hn
     simp only[IG,ho];refine .inr ⟨q,e,p,hq,(I6 hT hI).sl.trans he,h1,?_,fun hx=>⟨.b q,rfl,h2 hx⟩,⟨.b (!q),rfl,h3⟩⟩
     grind[MI]
    grind
   grind
  grind
 ·rename_i t x y ho;simp only[IG,ho]
  rw[E,E]at h
  refine .inr ?_
  unfold Bb9 at h
  unfold RE
  split at h
  ·rename_i k1 n k2 m e1 e2;rw[e1,e2]
   simp only
   split at h
   ·rename_i I hI
    split at h
    ·rename_i e he
     split at h
     ·rename_i J hJ
      split at h
      ·rename_i z hz
       have ez:=(I6 hT hJ).ze;rw[hz]at ez;simp only[CS]at ez
       split at h
       ·rename_i hc;obtain⟨c1,c2,c3,c4⟩:=hc;obtain⟨⟨q1,q2,q3⟩,ys,hle,h⟩:=h;exact⟨e,J.sz,J.by_,z,(I6 hT hI).sl.trans he,(I6 hT hJ).sz,c1,(I6 hT hJ).by_,c2,ez,c3,c4,q1,q2,q3,fun id hid=>⟨id,J.sz,_,ys,F5 _ _ _,hle,.v _,rfl,by rw[BP];grind⟩⟩
       grind
      grind
     grind
    grind
   grind
  grind
 ·rename_i x ho;simp only[IG,ho]
  split at h
  ·split at h
   ·rename_i hn
    rw[E]at hn
    unfold AR9 at h
    split at h
    ·split at h
     ·split at h
      ·rename_i J _;refine .inr ⟨?_,J.sz,fun q hq=>⟨.v _,rfl,h q hq⟩⟩
       unfold MI at hn
       split at hn
       ·assumption
       cases hn
      exact h.elim
     exact h.elim
    exact h.elim
   exact .inl ⟨_,(E x).symm,h⟩
  exact .inl ⟨_,(E x).symm,h⟩
 ·rename_i x ho;simp only[IG,ho]
  split at h
  ·split at h
   ·rename_i hn
    rw[E]at hn
    unfold AR9 at h
    split at h
    ·split at h
     ·split at h
      ·rename_i J _;refine .inr ⟨?_,J.sz,fun q hq=>⟨.v _,rfl,h q hq⟩⟩
       unfold MI at hn
       split at hn
       ·assumption
       cases hn
      exact h.elim
     exact h.elim
    exact h.elim
   exact .inl ⟨_,(E x).symm,h⟩
  exact .inl ⟨_,(E x).symm,h⟩
 ·rename_i t n ps ho
  have Ep:∀ps:List (Nat×Operand),(ps.map fun p=>(p.1,(X0 G l p.2).V))=ps.map fun p=>(p.1,ev (I9 ⟨l,df⟩) p.2):=fun ps=>X3 fun p _=>by rw[E]
  split at h
  ·simp only[IG,ho];refine .inr ?_
   rw[Ep]at h
   unfold xlit at h
   split at h
   ·exact h.elim
   rename_i I hI
   split at h
   ·exact h.elim
   rename_i e he
   split at h
   ·exact h.elim
   rename_i J hJ
   split at h
   ·exact h.elim
   rename_i z hz
   have ez:=(I6 hT hJ).ze;rw[hz]at ez;simp only[CS]at ez
   split at h
   ·rename_i hc;obtain⟨ys,hle,h⟩:=h;refine⟨e,J.sz,_,ys,?_,(I6 hT hI).sl.trans he,(I6 hT hJ).sz,hle,fun q hq=>⟨.v _,rfl,h q hq⟩⟩;simp only[Bz,(I6 hT hI).sl,he,(I6 hT hJ).sz,ez];rw[A1 hc]
   grind
  obtain⟨v,h1,h2⟩:=Jj hT h
  rw[Ep]at h1
  simp only[IG,ho];exact .inl ⟨v,by simp_all[Pq],.v v,rfl,h2⟩
 ·rename_i t r ho;simp only[IG,ho]
  split at h
  ·exact⟨rfl,Az7 (K:=fun v H'=>k (.v v) H') h fun v H' hk=>⟨.v v,rfl,hk⟩⟩
  grind
 ·rename_i t x y z ho;simp only[IG,ho]
  rw[E,E,E]at h
  exact HE (K:=fun _ H'=>k (.v .bad) H') h fun H' hk=>⟨.v .bad,rfl,hk⟩
 ·rename_i t x y z ho;simp only[IG,ho]
  rw[E,E,E]at h
  exact HE (K:=fun _ H'=>k (.v .bad) H') h fun H' hk=>⟨.v .bad,rfl,hk⟩
 ·rename_i t x ho;simp only[IG,ho]
  rw[E]at h
  exact Zh (K:=fun v H'=>k (.v v) H') h fun v H' hk=>⟨.v v,rfl,hk⟩
 ·rename_i x s ho;simp only[IG,ho]
  cases s with
  |true=>exact h.elim
  |false=>
   rw[E]at h
   exact⟨rfl,Ai4 (K:=fun v H'=>k (.v v) H') h fun v H' hk=>⟨.v v,rfl,hk⟩⟩
 ·rename_i x ho;simp only[IG,ho]
  rw[E]at h
  exact Aa0 (K:=fun v H'=>k (.v v) H') h fun v H' hk=>⟨.v v,rfl,hk⟩
 ·rename_i c ho
  split at h
  ·rename_i x hc;simp only[IG,ho,hc]
   rw[E,Em]at h
   exact CW.mono h fun v H' hk=>⟨.v v,rfl,hk⟩
  ·rename_i hc;simp only[IG,ho,hc]
   rw[Em]at h
   split at h
   ·refine .inr (.inl ?_)
    unfold Yf at h
    unfold Qq
    split at h
    ·rename_i sT yT x y hts hvs;rw[hts,hvs]
     simp only
     split at h
     ·rename_i I I2 hI hI2
      split at h
      ·rename_i e he
       split at h
       ·rename_i J hJ
        split at h
        ·rename_i z hz
         have ez:=(I6 hT hJ).ze;rw[hz]at ez;simp only[CS]at ez
         split at h
         ·rename_i hc;obtain⟨c1,c2,c3,c4⟩:=hc;refine⟨e,J.sz,J.by_,z,(I6 hT hI).sl.trans he,(I6 hT hJ).sz,c1,(I6 hT hJ).by_,c2,ez,c3,c4,?_⟩
          split at h
          ·rename_i he2;obtain⟨ys',q1,h⟩:=h;exact .inl ⟨by rw[(I6 hT hI2).sl,he2];rfl,ys',q1,Lh h fun v H' hk=>⟨.v _,rfl,hk⟩⟩
          ·rename_i k0 he2 hik;have eik:=(I6 hT hI2).ik
           rw[hik]at eik
           obtain⟨q1,h⟩:=h;exact .inr (.inl ⟨⟨_,eik⟩,_,_,rfl,q1.1,q1.2,Lh h fun v H' hk=>⟨.v _,rfl,hk⟩⟩)
          ·split at h
           ·rename_i hst hj1;have est:=(I6 hT hI2).st
            rw[hst]at est
            have h:Hx H (fun v H'=>k (.v v) H') 1 J.by_ z x (Hk _):=h
            rw[←hj1]at h
            exact .inr (.inr ⟨Nk est,_,rfl,hj1,Lh h fun v H' hk=>⟨.v _,rfl,hk⟩⟩)
           grind
          grind
         grind
        grind
       grind
      grind
     grind
    grind
   split at h
   ·refine .inr (.inr ?_)
    unfold Ye at h
    unfold HL
    split at h
    ·rename_i sT yT xs tl ys tl' hts hvs;rw[hts,hvs]
     simp only
     split at h
     ·rename_i I I2 hI hI2
      split at h
      ·rename_i e e2 he he2
       split at h
       ·rename_i J hJ
        split at h
        ·rename_i z hz
         have ez:=(I6 hT hJ).ze;rw[hz]at ez;simp only[CS]at ez
         split at h
         ·rename_i hc;obtain⟨c1,c2,c3,c4⟩:=hc;obtain⟨xs',ys',l1,l2,k1,k2,k3,k4,k5⟩:=h;exact⟨e,J.sz,J.by_,z,(I6 hT hI).sl.trans he,by rw[(I6 hT hI2).sl,he2];rfl,(I6 hT hJ).sz,c1,(I6 hT hJ).by_,c2,ez,c3,c4,xs',ys',l1,l2,k1,k2,k3,k4,fun e=>⟨_,_,by subst e;rw[G4];exact .ro _ _,fun _ _ hx=>Qh hx,⟨.v _,rfl,k5⟩⟩,fun t h1 h2=>⟨_,_,.ro _ _,fun id b hx=>by rw[C9 _ _ fun e=>by simp_all];exact hx,⟨.v _,rfl,k5⟩⟩⟩
         grind
        grind
       grind
      grind
     grind
    grind
   refine .inl ?_
   unfold An6 at h
   unfold HL
   split at h
   ·rename_i sT yT xs tl ys tl' hts hvs;rw[hts,hvs]
    simp only
    split at h
    ·rename_i I I2 hI hI2
     split at h
     ·rename_i e e2 he he2
      split at h
      ·rename_i J hJ
       split at h
       ·rename_i z hz
        have ez:=(I6 hT hJ).ze;rw[hz]at ez;simp only[CS]at ez
        split at h
        ·rename_i hc;obtain⟨c1,c2,c3,c4⟩:=hc;obtain⟨xs',ys',l1,l2,k1,k2,k3,k4,k5,k6⟩:=h;exact⟨e,J.sz,J.by_,z,(I6 hT hI).sl.trans he,by rw[(I6 hT hI2).sl,he2];rfl,(I6 hT hJ).sz,c1,(I6 hT hJ).by_,c2,ez,c3,c4,xs',ys',l1,l2,k1,k2,k3,k4,fun e=>⟨.v _,rfl,k5 e⟩,fun t h1 h2=>⟨.v _,rfl,k6 t h1 h2⟩⟩
        grind
       grind
      grind
     grind
    grind
   grind
  ·rename_i hc;simp only[IG,ho,hc]
   rw[Em]at h
   unfold Bc1 at h
   unfold Ab7
   split at h
   ·rename_i sT yT id lo n y hts hvs;rw[hts,hvs]
    simp only
    split at h
    ·rename_i I hI
     split at h
     ·rename_i e he
      split at h
      ·rename_i J hJ
       split at h
       ·rename_i c1;obtain⟨xs,ys',q1,q2,h⟩:=h;exact⟨e,J.sz,xs,ys',(I6 hT hI).sl.trans he,(I6 hT hJ).sz,c1,q1,q2,.v _,rfl,h⟩
       grind
      grind
     grind
    grind
   grind
  ·rename_i hc;simp only[IG,ho,hc]
   rw[Em]at h
   unfold AE3 at h
   unfold UB
   split at h
   ·rename_i sT id lo n hts hvs;rw[hts,hvs]
    simp only
    split at h
    ·rename_i I hI
     split at h
     ·rename_i e he
      split at h
      ·rename_i J hJ
       split at h
       ·rename_i z hz
        have ez:=(I6 hT hJ).ze;rw[hz]at ez;simp only[CS]at ez
        split at h
        ·rename_i c1;obtain⟨xs,q1,h⟩:=h;exact⟨e,J.sz,z,xs,(I6 hT hI).sl.trans he,(I6 hT hJ).sz,c1.1,ez,c1.2.1,c1.2.2,q1,.v _,rfl,h⟩
        grind
       grind
      grind
     grind
    grind
   grind
  ·rename_i b hb _ _ hc;obtain⟨v,h1,h2⟩:=quiet h
   simp only[Pq,ho,hc]at h1
   simp only[IG,ho,hc];exact⟨v,h1,h2⟩
  exact h.elim
 rename_i n1 n2 n3 n4 n5 n6 n7 n8 n9 n10 n11 n12 n13 n14 n15;obtain⟨v,h1,h2⟩:=quiet h;unfold IG
 split<;>rename_i ho<;>first|exact⟨v,h1,h2⟩|exact(n1 _ ho).elim|exact(n1 _ _ ho).elim|exact(n1 _ _ _ ho).elim|exact(n1 _ _ _ _ ho).elim|exact(n1 _ _ _ _ _ ho).elim|exact(n2 _ ho).elim|exact(n2 _ _ ho).elim|exact(n2 _ _ _ ho).elim|exact(n2 _ _ _ _ ho).elim|exact(n2 _ _ _ _ _ ho).elim|exact(n3 _ ho).elim|exact(n3 _ _ ho).elim|exact(n3 _ _ _ ho).elim|exact(n3 _ _ _ _ ho).elim|exact(n3 _ _ _ _ _ ho).elim|exact(n4 _ ho).elim|exact(n4 _ _ ho).elim|exact(n4 _ _ _ ho).elim|exact(n4 _ _ _ _ ho).elim|exact(n4 _ _ _ _ _ ho).elim|exact(n5 _ ho).elim|exact(n5 _ _ ho).elim|exact(n5 _ _ _ ho).elim|exact(n5 _ _ _ _ ho).elim|exact(n5 _ _ _ _ _ ho).elim|exact(n6 _ ho).elim|exact(n6 _ _ ho).elim|exact(n6 _ _ _ ho).elim|exact(n6 _ _ _ _ ho).elim|exact(n6 _ _ _ _ _ ho).elim|exact(n7 _ ho).elim|exact(n7 _ _ ho).elim|exact(n7 _ _ _ ho).elim|exact(n7 _ _ _ _ ho).elim|exact(n7 _ _ _ _ _ ho).elim|exact(n8 _ ho).elim|exact(n8 _ _ ho).elim|exact(n8 _ _ _ ho).elim|exact(n8 _ _ _ _ ho).elim|exact(n8 _ _ _ _ _ ho).elim|exact(n9 _ ho).elim|exact(n9 _ _ ho).elim|exact(n9 _ _ _ ho).elim|exact(n9 _ _ _ _ ho).elim|exact(n9 _ _ _ _ _ ho).elim|exact(n10 _ ho).elim|exact(n10 _ _ ho).elim|exact(n10 _ _ _ ho).elim|exact(n10 _ _ _ _ ho).elim|exact(n10 _ _ _ _ _ ho).elim|exact(n11 _ ho).elim|exact(n11 _ _ ho).elim|exact(n11 _ _ _ ho).elim|exact(n11 _ _ _ _ ho).elim|exact(n11 _ _ _ _ _ ho).elim|exact(n12 _ ho).elim|exact(n12 _ _ ho).elim|exact(n12 _ _ _ ho).elim|exact(n12 _ _ _ _ ho).elim|exact(n12 _ _ _ _ _ ho).elim|exact(n13 _ ho).elim|exact(n13 _ _ ho).elim|exact(n13 _ _ _ ho).elim|exact(n13 _ _ _ _ ho).elim|exact(n13 _ _ _ _ _ ho).elim|exact(n14 _ ho).elim|exact(n14 _ _ ho).elim|exact(n14 _ _ _ ho).elim|exact(n14 _ _ _ _ ho).elim|exact(n14 _ _ _ _ _ ho).elim|exact(n15 _ ho).elim|exact(n15 _ _ ho).elim|exact(n15 _ _ _ ho).elim|exact(n15 _ _ _ _ ho).elim|exact(n15 _ _ _ _ _ ho).elim
theorem VR.nil_inv {g:Gh}{w:World}{u:Value}(h:VR g w u (.sl [] .nil)):u= .slice none 0 0:=by
 cases h with
 |sl0 _=>rfl
 |sle ht=>rcases ht with h|⟨h,_⟩<;>cases h
 |sl _ _ _ _ _ _ _ _ ht=>exact ht.elim
def EZ {cs:List V}{i j:Nat}{x:V}(hi:i<cs.length):(cs.set i x).getD j .bad=if j=i then x else cs.getD j .bad:=by
 grind
def VR.erefLe {g:Gh} {w:World} {v:Value} {cs ds:List V} {off:Nat} (h:VR g w v (.eref cs off)) (hl:M3 cs ds):VR g w v (.eref ds off):=by
 have e:=hl.length
 cases h with
 |eref vs hf hw h1 hv=>
  exact .eref vs (fun j hj=>hf j (by omega)) (fun j hj=>hw j (by omega)) (fun j hj=>h1 j (by omega)) fun j hj=>(hv j (by omega)).le (hl.at j)
def Cr {w:World} {a:Act}:∀(q:Option (Nat×Int×Int×List V)) (ds:List Nat) (l:Fl) (H:A5) (g:Gh) (k:Fl→A5→Prop),(∀id lo n xs,q=some (id,lo,n,xs)→∀v,VR g w v (.own id lo n)→VR g w v (.sl xs .ro))→Rl g H w→FR nt g w a (I9 ⟨l,df⟩)→Pt (I0 P nt rd) q ds l H k→∃g' l' H',Af g w g' w∧Rl g' H' w∧FR nt g' w a (I9 ⟨l',df⟩)∧k l' H'
 |q,[],l,H,g,k,_,hR,hF,h=>⟨g,l,H,Af.refl _ _,hR,hF,by simp_all[Pt]⟩
 | some (id,lo,n,xs),d::ds,l,H,g,k,hq,hR,hF,h=>by
  unfold Pt at h
  split at h
  ·rename_i id' lo' n' hl;obtain⟨⟨e,e2,e3⟩,h⟩:=h;subst e;subst e2;subst e3
   have hF1:FR nt g w a (I9 ⟨(d,.v (.sl xs .ro))::l,df⟩):=by
    have e:=Q5 (df:=df) l (some d) (.v (.sl xs .ro))
    rw[show Ex (some d) (.v (.sl xs .ro)) l=(d,Sl.v (.sl xs .ro))::l from rfl]at e
    rw[e];refine⟨hF.size,fun t=>?_,hF.df⟩;simp only[Fr.put]
    split
    ·rename_i ht;subst ht;have h0:=hF.s t;have e0:(I9 ⟨l,df⟩).s t= .own id' lo' n':=OQ l t _ hl (fun _ _ _ h=>by cases h)
     rw[e0]at h0
     simp_all[slV]
    exact hF.s t
   exact Cr _ ds _ _ g k hq hR hF1 h
  exact Cr none ds _ _ g k (fun _ _ _ _ h=>by cases h) hR hF h
 | none,d::ds,l,H,g,k,_,hR,hF,h=>by
  unfold Pt at h
  split at h
  ·split at h
   ·rename_i id hl
    split at h
    ·obtain⟨cs,sz,hk,hj,h⟩:=h;obtain⟨jl,_⟩:=List.getElem?_eq_some_iff.1 hj;obtain⟨g1,s1,hR1,hn,hv⟩:=FY hR sz (.inl rfl) (.sl0 rfl:VR g w (.slice none 0 0) (.sl [] .nil))
     have hk1:upd H g.nx (some (.arr sz [])) id=some (.cells cs):=by
      rw[C9 _ _ (fun e=>by rw[e]at hk;rw[hn]at hk;cases hk)];exact hk
     have hR2:=hR1.chgCells hk1 (ds:=cs.set ((d-100000000) / 1000000) (.own g.nx 0 0)) (by simp) fun j' u hj' hu=>by
      rw[EZ jl]
      grind[VR.nil_inv]
     obtain⟨g2,l2,H2,s2,r⟩:=Cr none ds _ _ g1 k (fun _ _ _ _ h=>by cases h) hR2 (hF.mono s1) (h _ hn);exact⟨g2,l2,H2,s1.trans s2,r⟩
    obtain⟨cs,q,lo,n,sz,xs,ys,hk,hj,hq,hle,h⟩:=h;obtain⟨jl,_⟩:=List.getElem?_eq_some_iff.1 hj;obtain⟨g1,s1,hR1,hv⟩:=hR.freezeArr hq
    have hk1:upd H q none id=some (.cells cs):=by
     rw[C9 _ _ (fun e=>by simp_all)];exact hk
    have hR2:=hR1.chgCells hk1 (ds:=cs.set (d / 1000000-1) (.sl ys .ro)) (by simp) fun j' u hj' hu=>by
     rw[EZ jl]
     split
     ·rename_i e;subst e
      rw[Z0,hj]at hu
      exact(hv _ _ _ hu).le (.sl _ hle)
     exact hu
    obtain⟨g2,l2,H2,s2,r⟩:=Cr none ds _ _ g1 k (fun _ _ _ _ h=>by cases h) hR2 (hF.mono s1) h;exact⟨g2,l2,H2,s1.trans s2,r⟩
   grind
  split at h
  ·rename_i id hl;obtain⟨cs0,cs,hk,hle,h⟩:=h;obtain⟨g1,s1,hR1,hv⟩:=hR.freeze hk
   have hF1:FR nt g1 w a (I9 ⟨(d,.v (.eref cs 0))::l,df⟩):=by
    have e:=Q5 (df:=df) l (some d) (.v (.eref cs 0))
    rw[show Ex (some d) (.v (.eref cs 0)) l=(d,Sl.v (.eref cs 0))::l from rfl]at e
    rw[e];have hm:=hF.mono s1;refine⟨hm.size,fun t=>?_,hm.df⟩;simp only[Fr.put]
    split
    ·rename_i ht;subst ht;have h0:=hF.s t;have e0:(I9 ⟨l,df⟩).s t= .ref id 0:=OQ l t _ hl (fun _ _ _ h=>by cases h)
     rw[e0]at h0
     exact(hv _ _ h0).erefLe hle
    exact hm.s t
   obtain⟨g2,l2,H2,s2,r⟩:=Cr none ds _ _ g1 k (fun _ _ _ _ h=>by cases h) hR1 hF1 h;exact⟨g2,l2,H2,s1.trans s2,r⟩
  ·rename_i id lo n hl;obtain⟨sz,xs,ys,hk,hle,h⟩:=h;obtain⟨g1,s1,hR1,hv0⟩:=hR.freezeArr hk;have hv:∀v,VR g1 w v (.own id lo n)→VR g1 w v (.sl ys .ro):=fun v hv1=>(hv0 v lo n hv1).le (.sl _ hle)
   have hF1:FR nt g1 w a (I9 ⟨(d,.v (.sl ys .ro))::l,df⟩):=by
    have e:=Q5 (df:=df) l (some d) (.v (.sl ys .ro))
    rw[show Ex (some d) (.v (.sl ys .ro)) l=(d,Sl.v (.sl ys .ro))::l from rfl]at e
    rw[e];have hm:=hF.mono s1;refine⟨hm.size,fun t=>?_,hm.df⟩;simp only[Fr.put]
    split
    ·rename_i ht;subst ht;have h0:=hm.s t;have e0:(I9 ⟨l,df⟩).s t= .own id lo n:=OQ l t _ hl (fun _ _ _ h=>by cases h)
     rw[e0]at h0
     exact hv _ h0
    exact hm.s t
   obtain⟨g2,l2,H2,s2,r⟩:=Cr (some (id,lo,n,ys)) ds _ _ g1 k (fun _ _ _ _ h=>by simp_all) hR1 hF1 h;exact⟨g2,l2,H2,s1.trans s2,r⟩
  ·exact Cr none ds _ _ g k (fun _ _ _ _ h=>by cases h) hR hF h
  grind
def Ae2 (hT:Lz P T){G:List (Nat×Bool)}{o:Oper}{l:Fl}{H:A5}{k:Sl→Prop}(ht:MH G o l=true)(h:xq (I0 P nt rd) T G o l H k):∃s,k s:=by
 unfold MH at ht
 unfold xq at h
 split at ht<;>rename_i ho<;>try simp only[ho]at h
 ·grind
 ·grind
 ·grind[Rt]
 ·grind[Ml]
 ·grind[Kd]
 ·grind[Pu]
 ·grind[Pw]
 ·grind[SQ]
 ·grind[Vo]
 ·grind[Mk]
 ·grind[Ru,Ll]
 cases ht
def WD (hT:Lz P T) {G:List (Nat×Bool)} {o:Oper} {l:Fl} {H:A5} {k:Sl→A5→Prop} (ht:MH G o l=true) (h:xop (I0 P nt rd) T A G o l H k):∃s,k s H:=by
 have key:xq (I0 P nt rd) T G o l H (fun s=>k s H)→∃s,k s H:=fun h=>Ae2 hT ht h
 unfold MH at ht
 unfold xop at h
 split at ht<;>rename_i ho<;>try simp only[ho]at h
 all_goals try exact key h
 ·grind
 ·grind
 ·split at h
  ·split at h
   ·split at h
    ·obtain⟨_,_,_,h⟩:=h;grind
    grind
   grind
  grind
 ·grind
 cases ht
end
section
variable {P:Program}{nt:Nat}{rd:Option Nat}{T:ID}{A:Nat→Bool}{Z:Nat→List Nat}{df:List Nat}
def Aj9 {o o2:Oper}{d:Nat}{t t2:TypeId}{x:Operand}(h:Ak0 A o o2=some (d,t,t2,x)):
 o.op= .alloc t∧o.dst=some d∧o.guard=none∧o2.op= .store t2 (.tmp d) x∧o2.dst=none∧o2.guard=none∧x≠ .tmp d:=by
 unfold Ak0 at h
 grind[Nat.eq_of_beq_eq_true]
def Ae3 (hT:Lz P T) {ops:Array Oper} {r:Option Nat} {K:Fl→A5→Prop} {Q:Exit→Act→World→Prop} {g0:Gh} {w0:World}
 (hQ:∀g w a l H,Af g0 w0 g w→Rl g H w→FR nt g w a (I9 ⟨l,df⟩)→K l H→Q .normal a w):
 ∀(m i:Nat) (l:Fl) (H:A5),i+m=ops.size→Ps (I0 P nt rd) T nt A Z ops (ops.toList.drop i) l H K→∀g w a,Af g0 w0 g w→Rl g H w→FR nt g w a (I9 ⟨l,df⟩)→wpOpsIn (Fw r) 0 P ops Q (List.range' i m) a w:=by
 intro m
 induction m using Nat.strongRecOn with
 |_ m ih=>
 intro i l H hi h g w a s hR hF
 cases m with
 |zero=>
  have:ops.toList.drop i=[]:=by simp;omega
  rw[this]at h
  unfold Ps at h
  exact hQ g w a l H s hR hF h
 | succ m=>
  have hlt:i<ops.toList.length:=by simp;omega
  have hlt':i<ops.size:=by omega
  have hdrop:=O4 hlt
  rw[hdrop]at h
  simp only[Mb]at h
  generalize ho:ops[i]=o at h
  simp only[Dr,wpOpsIn,Dl hlt',ho]
  unfold Ps at h
  split at h
  ·exact h.elim
  rename_i hd;obtain⟨g1,l1,H1,s1,hR1,hF1,h⟩:=Cr (df:=df) none _ _ _ _ _ (fun _ _ _ _ h=>by cases h) hR hF h;replace s:=s.trans s1;clear s1 hR hF
  revert h hF1 hR1 s
  generalize l1=l,H1=H,g1=g;intro hR hF h s
  have guarded:∀{rest:List Oper},Ht nt o.dst=true→rest=ops.toList.drop (i+1)→
   HY (I0 P nt rd) ops o 4 l (fun G l' wr=>xop (I0 P nt rd) T A G o l' H fun s H'=>Ps (I0 P nt rd) T nt A Z ops rest (Ex o.dst (wr s) l') H' K) (fun l'=>Ps (I0 P nt rd) T nt A Z ops rest (Ex o.dst (.v (.tup [])) l') H K)→
   if Region.wanted o (yielded ops a.tmps)then o.wpIn (Fw r) 0 P a w (wpOpsIn (Fw r) 0 P ops Q (List.range' (i+1) m)) Q else(∀f,o.about P w a.eval=some f→(Fw r).fn f)∧wpOpsIn (Fw r) 0 P ops Q (List.range' (i+1) m) (a.put o.dst undef) w:=by
   intro rest hd hrest h;subst hrest;obtain⟨l',e,h⟩:=Fc (df:=df) 4 l h
   have ef:I9 ⟨l',df⟩=I9 ⟨l,df⟩:=by simp_all[I9]
   have hF':FR nt g w a (I9 ⟨l',df⟩):=ef▸hF
   rcases h with⟨hgv,G,wr,hG,hwr,h⟩|⟨hgv,h⟩
   ·have hw:Region.wanted o (yielded ops a.tmps)=true:=Ac hF.s hgv;rw[A1 hw];refine Vq (A:=A) hR hF' hd (Qx (df:=df) hT hG h) fun g' w' a' v H' s' hR' hF2 ⟨sl,hv,hK⟩=>?_;subst hv
    rw[←hwr sl,←Q5]at hF2
    exact ih m (by omega) (i+1) _ _ (by omega) hK g' w' a' (s.trans s') hR' hF2
   have hw:Region.wanted o (yielded ops a.tmps)=false:=Ac hF.s hgv;rw[A0 (by rw[hw];simp)];refine⟨fun _ _=>trivial,?_⟩;have hput:FR nt g w (a.put o.dst undef) ((I9 ⟨l',df⟩).put o.dst (.tup [])):=hF'.put (Fy hd) (VR.und _ _)
   rcases h with h|⟨G,d,want,ht,hb,h⟩
   ·refine ih m (by omega) (i+1) _ _ (by omega) h g w _ s hR ?_;rw[Q5];exact hput
   obtain⟨sl,h⟩:=WD hT ht h;refine ih m (by omega) (i+1) _ _ (by omega) h g w _ s hR ?_;rw[Q5]
   simp_all[slV]
  split at h
  ·rename_i hrest;refine guarded hd hrest.symm ?_
   have e:(fun(G:List (Nat×Bool)) (l':Fl) (wr:Sl→Sl)=>xop (I0 P nt rd) T A G o l' H fun s H'=>Ps (I0 P nt rd) T nt A Z ops [] (Ex o.dst (wr s) l') H' K)=fun G l' wr=>xop (I0 P nt rd) T A G o l' H fun s H'=>K (Ex o.dst (wr s) l') H':=by
    funext G l' wr
    have:(fun s H'=>Ps (I0 P nt rd) T nt A Z ops [] (Ex o.dst (wr s) l') H' K)=fun s H'=>K (Ex o.dst (wr s) l') H':=by
     funext s H';unfold Ps;rfl
    rw[this]
   have e2:(fun l'=>Ps (I0 P nt rd) T nt A Z ops [] (Ex o.dst (.v (.tup [])) l') H K)=fun l'=>K (Ex o.dst (.v (.tup [])) l') H:=by
    funext l';unfold Ps;rfl
   rw[e,e2];exact h
  rename_i o2 rest' hrest
  split at h
  ·rename_i d t t2 x hp;obtain⟨p1,p2,p3,p4,p5,p6,p7⟩:=Aj9 hp
   have hw:∀y,Region.wanted o y=true:=fun y=>by simp[Region.wanted,p3]
   rw[A1 (hw _)]
   split at h
   ·rename_i cs hcs
    unfold Bc8 at hcs
    split at hcs
    ·rename_i I I2 hI hI2
     split at hcs
     ·rename_i z hz
      have ez:=(I6 hT hI).ze;rw[hz]at ez;simp only[CS]at ez
      split at hcs
      ·rename_i hc;obtain⟨c1,c2,c3,c4⟩:=hc;cases hcs
       have hlen:i+1<ops.toList.length:=by
        grind
       have hlen':i+1<ops.size:=by omega
       have hdrop2:=O4 hlen
       rw[hrest,Mb]at hdrop2
       have ho2:ops[i+1]=o2:=by simp_all
       have hr2:rest'=ops.toList.drop (i+2):=by simp_all
       rw[hr2]at h
       obtain⟨m',rfl⟩:∃m',m=m'+1:=⟨m-1,by omega⟩
       refine Vq (A:=A) (K:=fun v H'=>∃id,v= .ref id 0∧H id=none∧H'=upd H id (some (.cells z.cells))) hR hF hd (by
        simp only[IG,p1]
        exact .inl ⟨z,ez,c1,fun id hid=>⟨_,.refl _,id,rfl,hid,rfl⟩⟩) fun g1 w1 a1 v H1 s1 hR1 hF1 hK1=>?_
       obtain⟨id,rfl,hid,rfl⟩:=hK1;simp only[Dr,wpOpsIn,Dl hlen',ho2];rw[A1 (by simp[Region.wanted,p6])]
       have hev:ev ((I9 ⟨l,df⟩).put o.dst (.ref id 0)) x=(X0 [] l x).V:=by
        rw[Ge (df:=df) MZ.nil,p2]
        cases x with
        |tmp t=>
         have:t≠d:=fun e=>p7 (by rw[e])
         grind[ev,Fr.put]
        |const _=>rfl
        |global _=>rfl
        |func _=>rfl
       have hev2:ev ((I9 ⟨l,df⟩).put o.dst (.ref id 0)) (.tmp d)= .ref id 0:=by rw[p2];simp[ev,Fr.put]
       refine Vq (A:=A) (K:=fun v H'=>H'=upd (upd H id (some (.cells z.cells))) id (some (.cells (Ah z.cells 0 (X0 [] l x).V.cells)))) hR1 hF1 (by rw[p5];rfl) (by
        simp only[IG,p4];refine .inl ⟨_,_,.refl _,?_,rfl⟩;simp only[Ov,(I6 hT hI2).sz,hev,hev2,F5]
        rw[A1 ⟨c2,c3,by omega⟩]) fun g2 w2 a2 v2 H2 s2 hR2 hF2 hK2=>?_
       subst hK2;obtain⟨g3,s3,hR3,hv3⟩:=hR2.freeze (F5 _ _ _)
       rw[BP,Yq _ _ _ hid]at hR3
       refine ih m' (by omega) (i+2) _ H (by omega) h g3 w2 a2 (((s.trans s1).trans s2).trans s3) hR3 ?_
       rw[p5,p2]at hF2
       have hF3:=hF2.mono s3;have e1:=Q5 (df:=df) l (some d) (.v (.eref (Ah z.cells 0 (X0 [] l x).V.cells) 0))
       rw[show Ex (some d) (.v (.eref (Ah z.cells 0 (X0 [] l x).V.cells) 0)) l=(d,.v (.eref (Ah z.cells 0 (X0 [] l x).V.cells) 0))::l from rfl]at e1
       rw[e1];refine⟨hF3.size,fun q=>?_,hF3.df⟩;have hq:=hF2.s q;have hq3:=hF3.s q
       simp only[Fr.put]at hq hq3 ⊢
       split
       ·rename_i e;rw[A1 e]at hq;exact hv3 _ _ hq
       simp_all
      cases hcs
     cases hcs
    cases hcs
   grind
  simp_all
end
section
variable {P:Program}{nt:Nat}{ops:Array Oper}{H0:A5}
def Kq (A:Nat→Bool):List Nat→Pv→Fr→A5→(Fr→A5→Prop)→Prop
 |[],_,fr,H,K=>K fr H
 |d::ds,pv,fr,H,K=>
  match pv (.inl d)with
  |some cs=>if A d then∀id,H id=none→Kq A ds pv (fr.put (some d) (.ref id 0)) (upd H id (some (.cells cs))) K else Kq A ds pv (fr.put (some d) (.eref cs 0)) H K
  |none=>False
def TJ {A:Nat→Bool} {w:World} {a:Act} {ids:Pk→Nat} {pv:Pv} {K:Fr→A5→Prop} (hinj:∀d d' cs cs',pv d=some cs→pv d'=some cs'→d.var=true→d'.var=true→ids d=ids d'→d=d'):
 ∀(ds:List Nat) (fr:Fr) (g:Gh) (H H1:A5),Rl g H w→ds.Nodup→(∀d∈ds,∀cs,pv (.inl d)=some cs→H (ids (.inl d))=some (.cells cs)∧∃b,g.mu (ids (.inl d))=some b∧a.tmps.getD d undef= .pointer (some ⟨b,0,none⟩))→
  (∀id b,H1 id=some b→H id=some b)→(∀d∈ds,∀cs,pv (.inl d)=some cs→H1 (ids (.inl d))=none)→FR nt g w a fr→Kq A ds pv fr H1 K→∃g' fr' H',Af g w g' w∧Rl g' H' w∧FR nt g' w a fr'∧K fr' H'
 |[],fr,g,H,H1,hR,_,_,hl,_,hF,h=>⟨g,fr,H1,Af.refl _ _,hR.less hl,hF,h⟩
 | d::ds,fr,g,H,H1,hR,hnd,hpv,hl,hfr,hF,h=>by
  simp only[Kq]at h
  have hnd':=List.nodup_cons.1 hnd
  split at h
  ·rename_i cs hcs;obtain⟨k1,b,k2,k3⟩:=hpv d (by simp) cs hcs
   split at h
   ·refine TJ hinj ds _ g H _ hR hnd'.2 (fun d' hd'=>hpv d' (by simp[hd'])) (fun id bk hb=>?_) (fun d' hd' cs' hp=>?_) ?_ (h (ids (.inl d)) (hfr d (by simp) cs hcs))
    ·grind[upd]
    ·grind[upd,Pk.var]
    refine⟨hF.size,fun t=>?_,hF.df⟩;simp only[Fr.put]
    split
    ·rename_i e;subst e;rw[k3];exact .ref k2
    exact hF.s t
   obtain⟨g',s,hR',hv⟩:=hR.freeze k1;have hF':=hF.mono s
   have e1:∀d'∈ds,∀cs',pv (.inl d')=some cs'→(upd H (ids (.inl d)) none) (ids (.inl d'))=some (.cells cs')∧∃b,g'.mu (ids (.inl d'))=some b∧a.tmps.getD d' undef= .pointer (some ⟨b,0,none⟩):=fun d' hd' cs' hp=>by
    obtain⟨q1,b',q2,q3⟩:=hpv d' (by simp[hd']) cs' hp;have hne:ids (.inl d')≠ids (.inl d):=fun e=>absurd (hinj _ _ _ _ hp hcs rfl rfl e) fun x=>hnd'.1 (by simp_all);exact⟨by rw[C9 _ _ hne];exact q1,b',s.mu _ _ q2,q3⟩
   have e2:∀id bk,H1 id=some bk→(upd H (ids (.inl d)) none) id=some bk:=fun id bk hb=>by
    have hne:id≠ids (.inl d):=fun e=>by simp_all
    rw[C9 _ _ hne];grind
   have e3:FR nt g' w a (fr.put (some d) (.eref cs 0)):=by
    refine⟨hF'.size,fun t=>?_,hF'.df⟩;simp only[Fr.put]
    split
    ·rename_i e;subst e;rw[k3];exact hv _ _ (.ref k2)
    exact hF'.s t
   obtain⟨g2,fr2,H2,s2,r⟩:=TJ hinj ds _ g' _ H1 hR' hnd'.2 e1 e2 (fun d' hd'=>hfr d' (by simp[hd'])) e3 h;exact⟨g2,fr2,H2,s.trans s2,r⟩
  grind
abbrev Tk:=List (Nat×List V)
def pvW (W:Tk)(ex:Option K1):Pv
 | .inl _=>none
 | .inr id=>(W.find? fun p=>p.1==id).map (·.2)
 | .tk _=>none
 | .ex=>ex.map fun τ=>[.sl [] τ]
def Ka (H:A5):Option K1→A5
 |some τ=>L8 H τ
 |none=>H
def KT (dx:Option Nat)(pv:Pv)(fr:Fr)(H:A5)(K:Fr→A5→Prop):Prop:=
 match dx with
 |none=>K fr H
 |some d=>∃xs,(pv (.tk d)).isSome=true∧fr.s d= .sl xs .ro∧(∀tl,tl= .nil∨tl= .full→K (fr.put (some d) (.sl xs tl)) H)∧∀t,H t=none→K (fr.put (some d) (.sl xs (.tok t))) (upd H t (some .spare))
theorem Pd {H:A5} {ex:Option K1} {id:Nat} {b:IF} (h:Ka H ex id=some b):H id=some b∧∀t,ex=some (.tok t)→id≠t:=by
 cases ex with
 |none=>simp_all[Ka]
 | some τ=>
  cases τ with
  |tok t=>
   simp_all[Ka,L8,upd]
  |_=>exact⟨h,fun t ht=>by cases ht⟩
def Gr (H:A5):Tk→A5
 |[]=>H
 |(id,_)::W=>upd (Gr H W) id none
def We:Tk→Pv→A5→(A5→Prop)→Prop
 |[],_,H,K=>K H
 |(id,_)::W,pv,H,K=>We W pv H fun H'=>match pv (.inr id)with|some cs=>K (upd H' id (some (.cells cs)))|none=>False
theorem Mm {H:A5}:∀{W:Tk} {id:Nat} {b:IF},Gr H W id=some b→H id=some b∧∀p∈W,p.1≠id
 |[],id,b,h=>⟨h,fun p hp=>by simp at hp⟩
 |(i,c)::W,id,b,h=>by
  simp only[Gr]at h
  by_cases e:id=i
  ·simp_all[upd]
  rw[C9 _ _ e]at h
  obtain⟨h1,h2⟩:=Mm h
  grind
def Px {H:A5}:∀{W:Tk} {p:Nat×List V},p∈W→Gr H W p.1=none
 |(i,c)::W,p,h=>by
  simp only[Gr]
  by_cases e:p.1=i
  ·rw[e,F5]
  rw[C9 _ _ e]
  rcases List.mem_cons.1 h with rfl|h
  ·omega
  exact Px h
def ZS {Hw:A5} {pv:Pv} (hpv:∀id cs,pv (.inr id)=some cs→Hw id=some (.cells cs)):∀(W:Tk) (H:A5) (K:A5→Prop),(∀id b,H id=some b→Hw id=some b)→We W pv H K→∃H',(∀id b,H' id=some b→Hw id=some b)∧(∀id,H' id≠none→H id≠none∨∃cs,pv (.inr id)=some cs)∧K H'
 |[],H,K,hl,h=>⟨H,hl,fun id hn=>.inl hn,h⟩
 |(i,c)::W,H,K,hl,h=>by
  simp only[We]at h
  obtain⟨H',h1,h2,h3⟩:=ZS hpv W H _ hl h
  grind[upd]
end
def Li (P:Program)(nt:Nat)(rd:Option Nat)(ops:Array Oper)(fr:Fr)(H:A5)(Q:Exit→Fr→A5→Prop):Prop:=
 ∀r g w a,AC9 g rd r→Rl g H w→FR nt g w a fr→wpAnyIn (Fw r) 0 P .any ops (XT nt g w Q) ops.size (Array.replicate ops.size false) a w.drew
def Ap.of_any {P:Program}{nt id:Nat}{rd:Option Nat}{ops:Array Oper}{fr:Fr}{H:A5}{Q:Exit→Fr→A5→Prop}(hm:P.follows .mixedOrders=true)(h:Li P nt rd ops fr H Q):Ap P nt rd (.region id ops true) fr H Q:=
 fun r g w a hr hR hF=>wpIn_region_any hm (h r g w a hr hR hF)
section
variable {P:Program}{nt:Nat}{ops:Array Oper}{H0:A5}
def Li.drawF {A:XY} {rd:Option Nat} {k:Nat} {al:List Nat} {W:Tk} {ex:Option K1} {dx:Option Nat} {fr:Fr} {Q:Exit→Fr→A5→Prop} (hok:Uu ops k=true) (hnd:al.Nodup)
 (hX:∀τ,ex=some τ→KF H0 τ) (hW:∀p∈W,Ka H0 ex p.1=some (.cells p.2))
 (h:Lq P nt ops (Gr (Ka H0 ex) W) (ops.toList.take k) fr (pvW W ex) fun fr' pv=>We W pv (Gr (Ka H0 ex) W) fun H1=>KT dx pv fr' H1 fun fr1 H2=>Kq A al pv fr1 H2 fun fr'' H=>NL P A nt ops (ops.toList.drop k) fr'' H (Q .normal)):Li P nt rd ops fr H0 Q:=by
 intro r g w a _ hR hF;obtain⟨hk,hat⟩:=AB9 hok;have sd:Af g w g w.drew:=⟨fun _ _ e=>e,fun _ _ e=>e,fun _ _ e=>e,rfl,fun _ _ _=>rfl,(Ag _ _).drew,fun _ _ _=>rfl,Gz _⟩
 have hRd:Rl g H0 w.drew:=by
  refine⟨fun id b hb=>(hR.blk id b hb).mono hb sd fun _ _=>⟨rfl,fun _ ho=>ho⟩,hR.inj,hR.frz,hR.nxt,hR.bnd,fun n=>(hR.glb n).mono sd⟩
 have hI:AD2 nt (Gr (Ka H0 ex) W) g w.drew fr (pvW W ex) g w.drew a:=by
  refine⟨H0,fun k=>match k with| .inl _=>0| .inr n=>n| .tk _=>0| .ex=>0,Af.refl _ _,hRd,hF.mono sd,fun id b hb=>(Pd (Mm hb).1).1,fun d cs h hv=>?_,fun d d' cs cs' h h' hv hv' e=>?_,fun _=>none,fun d cs h=>(by cases h),fun d d' cs cs' t h=>(by cases h),fun cs h=>?_⟩
  ·cases d with
   |inl d=>cases h
   | inr n=>
    simp only[pvW]at h
    cases hf:W.find? fun p=>p.1==n with
    |none=>rw[hf]at h;cases h
    |some p=>
     rw[hf]at h
     simp only[K2,E3]at h
     have hp:=Rp hf
     have hn:p.1=n:=by have:=List.find?_some hf;simp_all
     subst h;subst hn;exact⟨(Pd (hW p hp)).1,Px hp,rfl⟩
   |tk d=>cases h
   |ex=>cases hv
  ·cases d with
   |inl d=>cases h
   |tk d=>cases h
   |ex=>cases hv
   |inr n=>
    cases d' with
    |inl d'=>cases h'
    |tk d'=>cases h'
    |ex=>cases hv'
    |inr n'=>simp_all
  cases hx:ex with
  |none=>rw[hx]at h;cases h
  | some τ=>
   rw[hx]at h
   cases h;refine⟨τ,rfl,?_⟩;have hA:=hX τ hx
   cases τ with
   |nil=>simp_all
   |full=>simp_all
   |ro=>exact hA.elim
   |tok t=>
    refine .inr ⟨t,rfl,hA,?_,fun d cs' h=>by cases h⟩
    cases hn:Gr (Ka H0 (some (.tok t))) W t with
    |none=>rfl
    |some b=>grind[Pd,Mm]
 have hmap:(List.range k).map (fun i=>ops.getD i default)=ops.toList.take k:=by
  apply GG
  ·simp;omega
  intro i h1 h2
  simp at h1
  simp[Array.getD,show i<ops.size by omega]
 have hb:=Ac7 (r:=r) (Q:=XT nt g w Q) hk (fun i hi=>⟨(hat i hi).1,fun j hj=>((hat i hi).2 j hj).imp (fun h=>h) .inl⟩) (K:=fun fr' pv=>We W pv (Gr (Ka H0 ex) W) fun H1=>KT dx pv fr' H1 fun fr1 H2=>Kq A al pv fr1 H2 fun fr'' H=>NL P A nt ops (ops.toList.drop k) fr'' H (Q .normal)) (g0:=g) (w0:=w.drew)
  (fun g' w' a' fr' pv listed hsz hl hI' hK=>?_) k (List.range k) (Array.replicate ops.size false) fr (pvW W ex) (by simp) (Rk) (fun i hi=>by grind) (by simp) (fun i b hi=>by simp_all) (fun m j hm _=>by simp[Array.getD]at hm) (by rw[hmap];exact h) g w.drew a hI
 ·rw[show k+(ops.size-k)=ops.size by omega]at hb
  exact hb
 obtain⟨H,ids,s,hR',hF',hext,hpv,hinj,tks,htk,_⟩:=hI'
 have hex:∀n cs,pv (.inr n)=some cs→H n=some (.cells cs):=fun n cs hn=>by
  obtain⟨k1,_,k3⟩:=hpv _ cs hn rfl;have k3:ids (.inr n)=n:=k3
  rwa[k3]at k1
 obtain⟨H1,g1,g2,hK⟩:=ZS hex W _ _ hext hK
 have hfree:∀d cs,pv (.inl d)=some cs→H1 (ids (.inl d))=none:=fun d cs hd=>by
  obtain⟨k1,k2,_⟩:=hpv _ cs hd rfl
  cases hn:H1 (ids (.inl d))with
  |none=>rfl
  |some b=>
   exfalso
   rcases g2 _ (by rw[hn];simp)with h|⟨cs',hp⟩
   ·exact h k2
   have k3:ids (.inr (ids (.inl d)))=ids (.inl d):=(hpv _ cs' hp rfl).2.2;cases hinj _ _ _ _ hp hd rfl rfl k3
 have hmid:∃fr1 H1',FR nt g' w' a' fr1∧(∀id b,H1' id=some b→H id=some b)∧(∀d cs,pv (.inl d)=some cs→H1' (ids (.inl d))=none)∧Kq A al pv fr1 H1' fun fr'' H=>NL P A nt ops (ops.toList.drop k) fr'' H (Q .normal):=by
  rcases dx with _|d
  ·exact⟨fr',H1,hF',g1,hfree,hK⟩
  simp only[KT]at hK
  obtain⟨xs,e1,e2,e3,e4⟩:=hK;obtain⟨c,hc⟩:=Option.isSome_iff_exists.1 e1;obtain⟨xs',tl,q1,q2,q3⟩:=htk d c hc
  rw[e2]at q1
  cases q1
  have hFR:FR nt g' w' a' (fr'.put (some d) (.sl xs tl)):=by
   refine⟨hF'.size,fun t=>?_,hF'.df⟩;simp only[Fr.put]
   split
   ·simp_all
   exact hF'.s t
  rcases q3 with⟨_,q⟩|⟨t,_,q,q4,q5⟩
  ·grind
  subst q
  have ht:H1 t=none:=by
   grind
  refine⟨_,_,hFR,fun id b hb=>?_,fun d' cs hd'=>?_,e4 t ht⟩
  ·grind[F5,C9]
  have hne:ids (.inl d')≠t:=fun e=>by
   have:=(hpv _ cs hd' rfl).1
   rw[e,q4]at this;cases this
  rw[C9 _ _ hne];simp_all
 obtain⟨fr1,H1',hF1,g1',hfree',hK⟩:=hmid
 obtain⟨g3,fr2,H2,s2,hR2,hF2,hK2⟩:=TJ hinj al fr1 g' H H1' hR' hnd (fun d _ cs hd=>by
  obtain⟨k1,_,_,b,k4,k5⟩:=hpv _ cs hd rfl
  simp_all) g1' (fun d _ cs hd=>hfree' d cs hd) hF1 hK
 exact Yu (A:=A) (r:=r) (K:=Q .normal) (k:=k) (fun i hi=>⟨(hat i hi).1,fun j hj hkj=>((hat i hi).2 j hj).elim (fun h=>h) fun h=>absurd h.1 (by omega)⟩) (g0:=g) (w0:=w) (fun g3 w3 a3 fr3 H3 s3 hR3 hF3 hK3=>⟨g3,fr3,H3,s3,hR3,hF3,hK3⟩) (ops.size-k) k listed fr2 H2 (by omega) (by omega) hsz hl hK2 g3 w' a' ((sd.trans s).trans s2) hR2 hF2
end
def NO:List Nat→Nat→Bool
 |[],_=>false
 |x::l,n=>match Nat.beq n x with|true=>true|false=>NO l n
abbrev Wz:=List (Nat×List V)
def lkp:Wz→Nat→Option (List V)
 |[],_=>none
 |(k,x)::l,t=>match Nat.beq t k with|true=>some x|false=>lkp l t
section
variable (E:FN)(T:ID)(nt:Nat)(A:Nat→Bool)
def xqd (G:List (Nat×Bool)) (o:Oper) (l:Fl) (H:A5) (k:Sl→Prop):Prop:=
 match o.op with
 | .call c=>
  (match c.callee with
   | .value x=>E.pcall H (X0 G l x).V (c.args.toList.map fun x=>(X0 G l x).V) fun v=>k (.v v)
   |_=>xq E T G o l H k)
 |_=>xq E T G o l H k
def Ah7 (pv:Wz)(d:Option Tmp):Bool:=
 match d with
 |some d=>(match lkp pv d with|none=>true|some _=>false)
 |none=>true
abbrev Pe:=Option (Nat×Nat×List V)
def Af2 (tk:List Nat)(d:Option Tmp):Bool:=
 match d with
 |some d=> !NO tk d
 |none=>true
def Wj:List Nat→Nat→List Nat
 |[],_=>[]
 |x::l,n=>match Nat.beq n x with|true=>Wj l n|false=>x::Wj l n
def RP (s:Option Nat)(tk:List Nat):List Nat:=
 match s with
 |some d=>Wj tk d
 |none=>tk
def Be7 (tk:List Nat)(sx:Operand)(tl:K1):Option (Option Nat):=
 match tl with
 | .nil=>some none
 | .full=>some none
 | .ro=>(match sx with| .tmp d=>(match NO tk d with|true=>some (some d)|false=>none)|_=>none)
 |_=>none
def AD6 (x:Bool)(ex:Option K1)(tk:List Nat)(sx:Operand)(tl:K1)(k:Option Nat→Option K1→Prop):Prop:=
 match x with
 |true=>(match ex with|some τ=>E.need (tl=τ) fun _=>k none none|none=>False)
 |false=>(match Be7 tk sx tl with|some s=>k s ex|none=>False)
def KX (A:Nat→Bool)(n:Nat):List Oper→Option Nat
 |[]=>none
 |o::l=>match o.dst with|some d=>(match A (d+n)with|true=>some d|false=>KX A n l)|none=>KX A n l
def AD8 (x :Bool) (ex:Option K1) (o:Oper) (l:Fl) (tk:List Nat) (k:Nat→Option Nat→Option K1→V→Prop):Prop:=
 match o.op,o.dst,o.guard with
 | .call { callee:=.builtin .append,args:=⟨[sx,sy]⟩,argTypes:=⟨[sT,yT]⟩},some dd,none=>
  (match (X0 [] l sx).V,(X0 [] l sy).V with
   | .sl xs tlx,.sl ys _=>
    AD6 E x ex tk sx tlx fun src ex'=>
     (match tg T sT,tg T yT with
      | some I,some I2=>
       (match I.sl,I2.sl with
        | some e,some _=>
         (match tg T e with
          | some J=>
           (match J.ze with
            |some z=>if 0<J.sz∧0<J.by_∧z.one=true∧z.cells.length=J.sz then E.appq J.sz J.by_ xs ys fun v=>k dd src ex' v else False
            |none=>False)
          |none=>False)
        |_,_=>False)
      |_,_=>False)
   |_,_=>False)
 |_,_,_=>False
def xdB (ads :List Nat) (ops:Array Oper):List Oper→Fl→Wz→Pe→List Nat→Option K1→A5→(Fl→Wz→Pe→List Nat→Prop)→Prop
 |[],l,pv,pe,tk,_,_,K=>K l pv pe tk
 | o :: rest,l,pv,pe,tk,ex,H,K=>
  match Ht nt o.dst,Ah7 pv o.dst,Af2 tk o.dst with
  | true, true,true=>
   (match A (o.dst.getD 0+3000000)with
    |true=>AD8 E T (A (o.dst.getD 0+8000000)) ex o l tk fun dd src ex' v=>xdB ads ops rest ((dd,.v v)::l) pv pe (dd::RP src tk) ex' H K
    | false =>
     (match o.op with
      | .alloc t=>
       (match o.guard,o.dst,tg T t with
        | none,some d,some I=>
         (match I.ze with
          |some z=>(match z.one with|true=>xdB ads ops rest ((d,.v .bad)::l) ((d,z.cells)::pv) pe tk ex H K|false=>False)
          |none=>False)
        |_,_,_=>False)
      | .store t (.tmp d) y=>
       (match o.guard,tg T t with
        | none,some I=>
         (match lkp pv d with
          |some cs=>if(X0 [] l y).V.one=true∧(X0 [] l y).V.cells.length=I.sz∧I.sz≤cs.length then xdB ads ops rest (Ex o.dst (.v .bad) l) ((d,Ah cs 0 (X0 [] l y).V.cells)::pv) pe tk ex H K else False
          | none=>
           (match NO ads d,Zr [] l d,pe with
            |true,some (.v (.ref id off)),some (ds,id',cs)=>
             if(X0 [] l y).V.one=true∧(X0 [] l y).V.cells.length=I.sz∧off+I.sz≤cs.length then E.need (id=id') fun _=>xdB ads ops rest (Ex o.dst (.v .bad) l) pv (some (ds,id',Ah cs off (X0 [] l y).V.cells)) tk ex H K else False
            |_,_,_=>False))
        |_,_=>False)
      | .store _ _ _=>False
      |_=>HY E ops o 4 l (fun G l' wr=>xqd E T G o l' H fun s=>xdB ads ops rest (Ex o.dst (wr s) l') pv pe tk ex H K) fun l'=>xdB ads ops rest (Ex o.dst (.v (.tup [])) l') pv pe tk ex H K))
  |_,_,_=>False
def Ok:List Nat→Wz→Fl→A5→(Fl→A5→Prop)→Prop
 |[],_,l,H,K=>K l H
 |d::ds,pv,l,H,K=>
  match lkp pv d with
  |some cs=>(match A d with|true=>E.alloc H cs fun id H'=>Ok ds pv ((d,.v (.ref id 0))::l) H' K|false=>Ok ds pv ((d,.v (.eref cs 0))::l) H K)
  |none=>False
def SP (dx:Option Nat)(tk:List Nat)(l:Fl)(H:A5)(K:Fl→A5→Prop):Prop:=
 match dx with
 |none=>K l H
 |some d=>(match NO tk d,lk l d with|true,.v (.sl xs .ro)=>E.nameT H fun tl H'=>K ((d,.v (.sl xs tl))::l) H'|_,_=>False)
def SO (ops:Array Oper):List Oper→Fl→A5→(Fl→A5→Prop)→Prop
 |[],l,H,K=>K l H
 |o::rest,l,H,K=>
  match Ht nt o.dst with
  |true=>HY E ops o 4 l (fun G l' wr=>xop E T A G o l' H fun s H'=>SO ops rest (Ex o.dst (wr s) l') H' K) fun l'=>SO ops rest (Ex o.dst (.v (.tup [])) l') H K
  |false=>False
def Hh:List Oper→List Nat
 |[]=>[]
 |o::l=>match o.op,o.dst with| .alloc _,some d=>d::Hh l|_,_=>Hh l
def Bc0 (pe:Pe)(H:A5)(K:A5→Prop):Prop:=
 match pe with
 |some (_,id,cs)=>E.give H id cs K
 |none=>K H
def AD4 (w:Option (Nat×List Nat))(l:Fl)(H:A5)(K:List Nat→Pe→A5→Prop):Prop:=
 match w with
 |none=>K [] none H
 |some (d,ads)=>(match lk l d with| .v (.ref id 0)=>E.frz H id fun cs H'=>K ads (some (d,id,cs)) H'|_=>False)
def AD3 (x:Option Nat)(H:A5)(K:Option K1→A5→Prop):Prop:=
 match x with
 |none=>K none H
 |some _=>E.takeT H fun τ H'=>K (some τ) H'
def AE1 (w:Option (Nat×List Nat))(k:Nat)(ops:Array Oper)(l:Fl)(H:A5)(K:Fl→A5→Prop):Prop:=
 AD3 E (KX A 8000000 (ops.toList.take k)) H fun ex H0=>AD4 E w l H0 fun ads pe H1=>xdB E T nt A ads ops (ops.toList.take k) l [] pe [] ex H1 fun l' pv pe' tk=>Bc0 E pe' H1 fun H2=>SP E (KX A 9000000 (ops.toList.take k)) tk l' H2 fun l1 H3=>Ok E A (Hh (ops.toList.take k)) pv l1 H3 fun l'' H'=>SO E T nt A ops (ops.toList.drop k) l'' H' K
end
section
variable {P:Program}{nt:Nat}{rd:Option Nat}{T:ID}{A:Nat→Bool}{df:List Nat}
def Av1 (hT:Lz P T) {G:List (Nat×Bool)} {o:Oper} {l:Fl} (hG:MZ G l) {H:A5} {k:Sl→Prop} (h:xqd (I0 P nt rd) T G o l H k):∃s:Sl,Pq P o (ev (I9 ⟨l,df⟩)) H s.V∧k s:=by
 unfold xqd at h
 split at h
 ·rename_i c ho
  split at h
  ·rename_i x hc;obtain⟨v,h1,h2⟩:=h
   rw[Ge (df:=df) hG,show(c.args.toList.map fun x=>(X0 G l x).V)=c.args.toList.map (ev (I9 ⟨l,df⟩))from X3 fun p _=>Ge hG p]at h1
   grind[Pq,Sl.V]
  exact Pr hT hG h
 exact Pr hT hG h
def AR8 (hT:Lz P T) {G:List (Nat×Bool)} {o:Oper} {l:Fl} {H:A5} {k:Sl→Prop} (ht:MH G o l=true) (h:xqd (I0 P nt rd) T G o l H k):∃s,k s:=by
 unfold xqd at h
 split at h
 ·rename_i c ho
  split at h
  ·obtain⟨v,h1,h2⟩:=h
   grind
  exact Ae2 hT ht h
 exact Ae2 hT ht h
theorem Ji (hT:Lz P T) {ops:Array Oper} {K:Fl→A5→Prop}:∀(rest:List Oper) (l:Fl) (H:A5),SO (I0 P nt rd) T nt A ops rest l H K→NL P A nt ops rest (I9 ⟨l,df⟩) H fun fr H'=>∃l',fr=I9 ⟨l',df⟩∧K l' H'
 |[],l,H,h=>⟨l,rfl,h⟩
 | o::rest,l,H,h=>by
  unfold SO at h
  split at h
  ·rename_i hd;simp only[NL];refine⟨hd,?_⟩;obtain⟨l',e,h⟩:=Fc (df:=df) 4 l h
   have e:I9 ⟨l',df⟩=I9 ⟨l,df⟩:=by simp_all[I9]
   rcases h with⟨hg,G,wr,hG,hwr,h⟩|⟨hg,h⟩
   ·rw[hg];rw[←e];refine PN (Qx (df:=df) hT hG h) fun v H' ⟨s,hv,hk⟩=>?_;subst hv;rw[←hwr s,←Q5];exact Ji hT rest _ _ hk
   rw[hg];rw[←e]
   rcases h with h|⟨G,d,want,ht,hb,h⟩
   ·have:=Ji hT rest _ _ h
    rw[Q5]at this
    exact this
   obtain⟨s,h⟩:=WD hT ht h;have:=Ji hT rest _ _ h
   rw[Q5]at this
   simp_all[slV]
  grind
def AZ (pv:Wz)(pe:Pe)(tk:List Nat)(ex:Option K1):Pv
 | .inl d=>lkp pv d
 | .inr x=>(match pe with|some (_,id,cs)=>if x=id then some cs else none|none=>none)
 | .tk d=>(match NO tk d with|true=>some []|false=>none)
 | .ex=>ex.map fun τ=>[.sl [] τ]
def AP9 {a b:Nat}:Nat.beq a b=true↔a=b:=⟨FT,fun h=>by simp_all⟩
theorem AM1 {pv:Wz} {d t:Nat} {cs:List V}:lkp ((d,cs)::pv) t=if t=d then some cs else lkp pv t:=by
 simp only[lkp]
 by_cases h:t=d
 ·simp_all
 have:Nat.beq t d=false:=by
  cases hb:Nat.beq t d with
  |false=>rfl
  |true=>simp_all
 grind
theorem HS {tk:List Nat} {d t:Nat}:NO (d::tk) t=(decide (t=d)||NO tk t):=by
 simp only[NO]
 by_cases h:t=d
 ·simp_all
 have:Nat.beq t d=false:=by
  cases hb:Nat.beq t d with
  |false=>rfl
  |true=>simp_all
 grind
def QN {d t:Nat}:∀{tk:List Nat},NO (Wj tk d) t=(!decide (t=d)&&NO tk t)
 |[]=>by simp[NO,Wj]
 | x::l=>by
  simp only[Wj]
  split
  ·rename_i h;have:=AP9.1 h;subst this;rw[QN (tk:=l),HS]
   by_cases e:t=d<;>simp[e]
  rename_i h
  have hne:d≠x:=fun e=>by rw[AP9.2 e]at h;cases h
  rw[HS,HS,QN (tk:=l)]
  grind
def VK {pv:Wz} {pe:Pe} {tk:List Nat} {ex:Option K1} {d:Nat} {cs:List V}:AZ ((d,cs)::pv) pe tk ex=R3 (AZ pv pe tk ex) (.inl d) cs:=by
 funext t
 cases t with
 |inl t=>
  grind[AZ,R3,AM1]
 |inr x=>simp[AZ,R3]
 |tk x=>simp[AZ,R3]
 |ex=>simp[AZ,R3]
def AU7 {pv:Wz} {tk:List Nat} {ex:Option K1} {ds id:Nat} {cs cs':List V}:AZ pv (some (ds,id,cs')) tk ex=R3 (AZ pv (some (ds,id,cs)) tk ex) (.inr id) cs':=by
 funext t
 cases t with
 |inl t=>simp[AZ,R3]
 |inr x=>
  grind[AZ,R3]
 |tk x=>simp[AZ,R3]
 |ex=>simp[AZ,R3]
def AU8 {pv:Wz} {pe:Pe} {tk:List Nat} {ex:Option K1} {d:Nat}:AZ pv pe (d::tk) none=R3 (Y4 (AZ pv pe tk ex) (some .ex)) (.tk d) []:=by
 funext t
 cases t with
 |inl t=>rw[J8 (by simp),U6 (by simp)];rfl
 |inr x=>rw[J8 (by simp),U6 (by simp)];rfl
 |ex=>rw[J8 (by simp)];simp[AZ,Y4]
 |tk x=>
  grind[HS,AZ,R3,U6]
def AU6 {pv:Wz} {pe:Pe} {tk:List Nat} {ex:Option K1} {d:Nat} {src:Option Nat}:AZ pv pe (d::RP src tk) ex=R3 (Y4 (AZ pv pe tk ex) (src.map .tk)) (.tk d) []:=by
 funext t
 cases t with
 |inl t=>rw[J8 (by simp),U6 (by cases src<;>simp)];rfl
 |inr x=>rw[J8 (by simp),U6 (by cases src<;>simp)];rfl
 |ex=>rw[J8 (by simp),U6 (by cases src<;>simp)];rfl
 | tk x=>
  by_cases h:x=d
  ·grind[HS,AZ,R3]
  rw[J8 (fun e=>by simp_all)]
  have e1:NO (d::RP src tk) x=NO (RP src tk) x:=by rw[HS];simp[h]
  cases src with
  |none=>simp_all[AZ,RP,Y4]
  |some c=>
   have e2:NO (RP (some c) tk) x=(!decide (x=c)&&NO tk x):=QN
   grind[AZ,Y4]
def Ay1 {pv:Wz} {pe:Pe} {tk:List Nat} {ex:Option K1} {d:Option Tmp} (h:Ah7 pv d=true) (h2:Af2 tk d=true):W2 (AZ pv pe tk ex) d:=by
 cases d with
 |none=>trivial
 |some d=>
  grind[W2,AZ,Ah7,Af2]
def AR7 {l:Fl}{pv:Wz}{pe:Pe}{tk:List Nat}{ex:Option K1}{sx:Operand}{tl:K1}{src:Option Nat}(h:Be7 tk sx tl=some src):Lj (AZ pv pe tk ex) sx tl (src.map .tk):=by
 unfold Be7 at h
 split at h
 ·grind[Lj]
 ·grind[Lj]
 ·grind[Lj,AZ]
 cases h
def AD5 {l:Fl} {pv:Wz} {pe:Pe} {tk:List Nat} {x:Bool} {ex:Option K1} {sx:Operand} {tl:K1} {k:Option Nat→Option K1→Prop} (h:AD6 (I0 P nt rd) x ex tk sx tl k):
 ∃key,Lj (AZ pv pe tk ex) sx tl key∧∃src ex',k src ex'∧(ex=none→ex'=none)∧∀d,AZ pv pe (d::RP src tk) ex'=R3 (Y4 (AZ pv pe tk ex) key) (.tk d) []:=by
 unfold AD6 at h
 split at h
 ·split at h
  ·obtain⟨e,h⟩:=h;subst e;exact⟨some .ex,rfl,none,none,h,fun _=>rfl,fun d=>AU8⟩
  grind
 split at h
 ·rename_i s hs;exact⟨_,AR7 (l:=l) hs,s,ex,h,id,fun d=>AU6⟩
 grind
def Yc (hT:Lz P T) {x:Bool} {ex:Option K1} {o:Oper} {l:Fl} {pv:Wz} {pe:Pe} {tk:List Nat} {k:Nat→Option Nat→Option K1→V→Prop} (h:AD8 (I0 P nt rd) T x ex o l tk k):∃dd key v,o.dst=some dd∧PApp P o (I9 ⟨l,df⟩) (AZ pv pe tk ex) key v∧∃src ex',k dd src ex' v∧(ex=none→ex'=none)∧AZ pv pe (dd::RP src tk) ex'=R3 (Y4 (AZ pv pe tk ex) key) (.tk dd) []:=by
 unfold AD8 at h
 split at h
 ·rename_i sx sy sT yT dd ho hdst hg
  split at h
  ·rename_i xs tlx ys tly e1 e2
   rw[Ge (l:=l) (df:=df) MZ.nil]at e1 e2
   obtain⟨key,hs,src,ex',h,hen,hpe⟩:=AD5 (l:=l) (pv:=pv) (pe:=pe) h
   split at h
   ·rename_i I I2 hI hI2
    split at h
    ·rename_i e e2' he he2
     split at h
     ·rename_i J hJ
      split at h
      ·rename_i z hz
       have ez:=(I6 hT hJ).ze;rw[hz]at ez;simp only[CS]at ez
       split at h
       ·rename_i hc;obtain⟨c1,c2,c3,c4⟩:=hc;obtain⟨xs',ys',l1,l2,k1,k2,k3,k4⟩:=h;exact⟨dd,key,_,hdst,⟨hg,sx,sy,sT,yT,xs,tlx,ys,tly,xs',ys',ho,e1,e2,hs,⟨e,J.sz,J.by_,z,(I6 hT hI).sl.trans he,by rw[(I6 hT hI2).sl,he2];rfl,(I6 hT hJ).sz,c1,(I6 hT hJ).by_,c2,ez,c3,c4,l1,l2,k1,k2,k3⟩,rfl⟩,src,ex',k4,hen,hpe dd⟩
       grind
      grind
     grind
    grind
   grind
  grind
 grind
def Ld {ops:Array Oper}{H:A5}{K K':Fr→Pv→Prop}(hk:∀fr pv,K fr pv→K' fr pv):∀(l:List Oper) (fr:Fr) (pv:Pv),Lq P nt ops H l fr pv K→Lq P nt ops H l fr pv K'
 |[],_,_,h=>hk _ _ h
 |_::l,_,_,h=>Ut h fun fr pv h=>Ld hk l fr pv h
def DG (hT:Lz P T) {ads:List Nat} {ops:Array Oper} {H:A5} {K:Fl→Wz→Pe→List Nat→Prop}:∀(rest:List Oper) (l:Fl) (pv:Wz) (pe:Pe) (tk:List Nat) (ex:Option K1),xdB (I0 P nt rd) T nt A ads ops rest l pv pe tk ex H K→
 Lq P nt ops H rest (I9 ⟨l,df⟩) (AZ pv pe tk ex) fun fr pv'=>∃l' pl pe' tk' ex',fr=I9 ⟨l',df⟩∧pv'=AZ pl pe' tk' ex'∧(ex=none→ex'=none)∧pe'.map (fun p=>p.2.1)=pe.map (fun p=>p.2.1)∧K l' pl pe' tk'
 |[],l,pv,pe,tk,ex,h=>⟨l,pv,pe,tk,ex,rfl,rfl,id,rfl,h⟩
 | o ::rest,l,pv,pe,tk,ex,h=>by
  unfold xdB at h
  split at h
  ·rename_i hd hf hft;simp only[Lq];unfold MU;refine⟨⟨hd,Ay1 hf hft⟩,?_⟩
   split at h
   ·obtain⟨dd,key,v,hdst,hP,src,ex2,h,hen,hpe⟩:=Yc (df:=df) (pv:=pv) (pe:=pe) hT h;refine⟨v,_,.inr (.inr (.inr ⟨dd,key,hdst,hP,rfl⟩)),?_⟩;have:=DG hT rest _ _ _ _ _ h
    rw[hpe,show(dd,Sl.v v)::l=Ex (some dd) (.v v) l from rfl,Q5]at this
    rw[hdst];exact Ld (fun fr pv ⟨l',pl,pe',tk',ex',e1,e2,e3,h⟩=>⟨l',pl,pe',tk',ex',e1,e2,fun he=>e3 (hen he),h⟩) _ _ _ this
   split at h
   ·rename_i t ho
    split at h
    ·rename_i d I hg hdst hI
     split at h
     ·rename_i z hz
      have ez:=(I6 hT hI).ze;rw[hz]at ez;simp only[CS]at ez
      split at h
      ·rename_i h1;refine⟨.bad,_,.inr (.inl ⟨t,z,d,ho,hg,hdst,ez,h1,rfl,rfl⟩),?_⟩;have:=DG hT rest _ _ _ _ _ h
       rw[VK,show(d,Sl.v V.bad)::l=Ex (some d) (.v .bad) l from rfl,Q5]at this
       rw[hdst];exact this
      grind
     grind
    grind
   ·rename_i t d y ho
    split at h
    ·rename_i I hg hI;have hev:=Ge (l:=l) (df:=df) MZ.nil y
     split at h
     ·rename_i cs hcs
      split at h
      ·rename_i hc;obtain⟨c1,c2,c3⟩:=hc
       rw[hev]at c1 c2 h
       refine⟨.bad,_,.inr (.inr (.inl ⟨t,d,y,.inl d,0,cs,ho,hg,.inl ⟨rfl,rfl,hcs⟩,c1,by rw[c2];exact(I6 hT hI).sz,by rw[c2];omega,rfl,rfl⟩)),?_⟩;have:=DG hT rest _ _ _ _ _ h
       rw[VK,Q5]at this
       exact this
      grind
     rename_i hcs
     split at h
     ·rename_i id off ds id' cs _ hop
      split at h
      ·rename_i hc;obtain⟨c1,c2,c3⟩:=hc;obtain⟨he,h⟩:=h;subst he
       rw[hev]at c1 c2 h
       have hd:(I9 ⟨l,df⟩).s d= .ref id off:=(MD MZ.nil hop).1.symm;refine⟨.bad,_,.inr (.inr (.inl ⟨t,d,y,.inr id,off,cs,ho,hg,.inr ⟨id,rfl,hd,hcs,by simp[AZ]⟩,c1,by rw[c2];exact(I6 hT hI).sz,by rw[c2];exact c3,rfl,rfl⟩)),?_⟩;have:=DG hT rest _ _ _ _ _ h
       rw[AU7 (cs:=cs),Q5]at this
       exact this
      grind
     grind
    grind
   ·exact h.elim
   rename_i n1 n2 n3
   have key:∃v,Sd P ops H o (I9 ⟨l,df⟩) v∧Lq P nt ops H rest ((I9 ⟨l,df⟩).put o.dst v) (AZ pv pe tk ex) fun fr pv'=>∃l' pl pe' tk' ex',fr=I9 ⟨l',df⟩∧pv'=AZ pl pe' tk' ex'∧(ex=none→ex'=none)∧pe'.map (fun p=>p.2.1)=pe.map (fun p=>p.2.1)∧K l' pl pe' tk':=by
    obtain⟨l',e,h⟩:=Fc (df:=df) 4 l h
    have e:I9 ⟨l',df⟩=I9 ⟨l,df⟩:=by simp_all[I9]
    rcases h with⟨hg,G,wr,hG,hwr,h⟩|⟨hg,h⟩
    ·obtain⟨s,h1,h2⟩:=Av1 (df:=df) hT hG h;refine⟨s.V,by simp_all[Sd],?_⟩;have:=DG hT rest _ _ _ _ _ h2
     rw[Q5,hwr s,e]at this
     exact this
    refine⟨.tup [],by grind[Sd],?_⟩
    rcases h with h|⟨G,d,want,ht,hb,h⟩
    ·have:=DG hT rest _ _ _ _ _ h
     rw[Q5,e]at this
     exact this
    obtain⟨s,h⟩:=AR8 hT ht h;have:=DG hT rest _ _ _ _ _ h
    rw[Q5,e]at this
    simp_all[slV]
   obtain⟨v,h1,h2⟩:=key;refine⟨v,_,.inl ⟨?_,?_,h1,rfl⟩,h2⟩
   ·cases hx:o.op<;>first|rfl|simp_all
   simp[PZ]
  grind
theorem KH {pe:Pe} {tk:List Nat} {ex:Option K1} {K:Fl→A5→Prop}:∀(ds:List Nat) (pv:Wz) (l:Fl) (H:A5),Ok (I0 P nt rd) A ds pv l H K→Kq A ds (AZ pv pe tk ex) (I9 ⟨l,df⟩) H fun fr H'=>∃l',fr=I9 ⟨l',df⟩∧K l' H'
 |[],pv,l,H,h=>⟨l,rfl,h⟩
 | d::ds,pv,l,H,h=>by
  unfold Ok at h
  simp only[Kq]
  split at h
  ·rename_i cs hcs;have hcs':AZ pv pe tk ex (.inl d)=some cs:=hcs;rw[hcs']
   simp only
   split at h
   ·rename_i hA;rw[A1 hA];intro id hid;have:=KH (pe:=pe) (tk:=tk) (ex:=ex) ds pv _ _ (h id hid)
    rw[show(d,Sl.v (V.ref id 0))::l=Ex (some d) (.v (.ref id 0)) l from rfl,Q5]at this
    exact this
   rename_i hA;rw[A0 (by rw[hA];simp)];have:=KH (pe:=pe) (tk:=tk) (ex:=ex) ds pv _ _ h
   rw[show(d,Sl.v (V.eref cs 0))::l=Ex (some d) (.v (.eref cs 0)) l from rfl,Q5]at this
   exact this
  grind
theorem ON {A:Nat→Bool} {K K':Fr→A5→Prop} (hk:∀fr H,K fr H→K' fr H):∀(ds:List Nat) (pv:Pv) (fr:Fr) (H:A5),Kq A ds pv fr H K→Kq A ds pv fr H K'
 |[],_,_,_,h=>hk _ _ h
 | d::ds,pv,fr,H,h=>by
  simp only[Kq]at h ⊢
  split at h
  ·split at h
   ·rename_i hA;rw[A1 hA];exact fun id hid=>ON hk ds _ _ _ (h id hid)
   rename_i hA;rw[A0 hA];exact ON hk ds _ _ _ h
  omega
theorem Zw {dx:Option Nat}{pv:Pv}{fr:Fr}{H:A5}{K K':Fr→A5→Prop}(hk:∀fr H,K fr H→K' fr H)(h:KT dx pv fr H K):KT dx pv fr H K':=by
 unfold KT at h ⊢
 grind
def AM2 {d:Nat} {x:V}:∀{l:Fl},lk l d= .v x→CZ l d=x
 |[],h=>by cases h;rfl
 |(k,s)::l,h=>by
  simp only[lk]at h
  simp only[CZ]
  cases hb:Nat.beq d k with
  |true=>rw[hb]at h;subst h;rfl
  |false=>rw[hb]at h;exact AM2 h
theorem WE {dx:Option Nat} {pl:Wz} {pe:Pe} {tk:List Nat} {ex:Option K1} {l:Fl} {H:A5} {K:Fl→A5→Prop} (h:SP (I0 P nt rd) dx tk l H K):KT dx (AZ pl pe tk ex) (I9 ⟨l,df⟩) H fun fr H'=>∃l',fr=I9 ⟨l',df⟩∧K l' H':=by
 unfold SP at h
 unfold KT
 split at h
 ·grind
 rename_i d
 split at h
 ·rename_i xs h1 h2;obtain⟨h3,h4⟩:=h;refine⟨xs,by simp[AZ,h1],AM2 h2,fun tl htl=>⟨_,?_,h3 tl htl⟩,fun t ht=>⟨_,?_,h4 t ht⟩⟩
  ·exact(Q5 l (some d) (.v (.sl xs tl))).symm
  exact(Q5 l (some d) (.v (.sl xs (.tok t)))).symm
 grind
def Av2 (hT:Lz P T) {w:Option (Nat×List Nat)} {k:Nat} {ops:Array Oper} {l:Fl} {H:A5} {K:Fl→A5→Prop} (hok:Uu ops k=true) (hnd:(Hh (ops.toList.take k)).Nodup)
 (h:AE1 (I0 P nt rd) T nt A w k ops l H K):Li P nt rd ops (I9 ⟨l,df⟩) H fun e fr H'=>e= .normal∧∃l',fr=I9 ⟨l',df⟩∧K l' H':=by
 have rest:∀(l':Fl) (pl:Wz) (pe:Pe) (tk:List Nat) (ex:Option K1) (H2:A5),SP (I0 P nt rd) (KX A 9000000 (ops.toList.take k)) tk l' H2 (fun l1 H3=>Ok (I0 P nt rd) A (Hh (ops.toList.take k)) pl l1 H3 fun l'' H'=>SO (I0 P nt rd) T nt A ops (ops.toList.drop k) l'' H' K)→
  KT (KX A 9000000 (ops.toList.take k)) (AZ pl pe tk ex) (I9 ⟨l',df⟩) H2 fun fr1 H3=>Kq A (Hh (ops.toList.take k)) (AZ pl pe tk ex) fr1 H3 fun fr H'=>NL P A nt ops (ops.toList.drop k) fr H' fun fr H'=>.normal=Exit.normal∧∃l',fr=I9 ⟨l',df⟩∧K l' H':=fun l' pl pe tk ex H2 h=>by
  grind[Zw,WE,ON,KH,Ji]
 unfold AE1 at h
 obtain⟨ex,hX,h⟩:∃ex,(∀τ,ex=some τ→KF H τ)∧AD4 (I0 P nt rd) w l (Ka H ex) fun ads pe H1=>xdB (I0 P nt rd) T nt A ads ops (ops.toList.take k) l [] pe [] ex H1 fun l' pv pe' tk=>Bc0 (I0 P nt rd) pe' H1 fun H2=>SP (I0 P nt rd) (KX A 9000000 (ops.toList.take k)) tk l' H2 fun l1 H3=>Ok (I0 P nt rd) A (Hh (ops.toList.take k)) pv l1 H3 fun l'' H'=>SO (I0 P nt rd) T nt A ops (ops.toList.drop k) l'' H' K:=by
  unfold AD3 at h
  split at h
  ·exact⟨none,fun _ h=>(by cases h),h⟩
  obtain⟨τ,h1,h2⟩:=h;exact⟨some τ,fun _ h=>(by simp_all),h2⟩
 unfold AD4 at h
 cases w with
 |none=>
  refine Li.drawF (A:=A) (W:=[]) (dx:=KX A 9000000 (ops.toList.take k)) hok hnd hX (fun p hp=>by simp at hp) ?_
  have e0:pvW [] ex=AZ [] none [] ex:=by funext x;cases x<;>rfl
  rw[e0];refine Ld (fun fr pv ⟨l',pl,pe',tk',ex',e1,e2,_,e3,h⟩=>?_) _ _ _ (DG (df:=df) hT _ _ _ _ _ _ h);subst e1;subst e2
  cases pe' with
  |some p=>cases e3
  |none=>exact rest _ _ _ _ _ _ h
 | some p=>
  obtain⟨d,ads⟩:=p
  simp only at h
  split at h
  ·rename_i bid hl;obtain⟨cs,hk,h⟩:=h;refine Li.drawF (A:=A) (W:=[(bid,cs)]) (dx:=KX A 9000000 (ops.toList.take k)) hok hnd hX (fun p hp=>by simp_all) ?_
   have e0:pvW [(bid,cs)] ex=AZ [] (some (d,bid,cs)) [] ex:=by
    funext x
    cases x with
    |inl x=>rfl
    |inr x=>
     grind[pvW,AZ]
    |tk x=>rfl
    |ex=>rfl
   rw[e0];refine Ld (fun fr pv ⟨l',pl,pe',tk',ex',e1,e2,_,e3,h⟩=>?_) _ _ _ (DG (df:=df) hT _ _ _ _ _ _ h);subst e1;subst e2
   cases pe' with
   |none=>cases e3
   |some q=>
    obtain⟨d',id',cs'⟩:=q
    simp only[K2,E3]at e3
    subst e3
    have hp:AZ pl (some (d',id',cs')) tk' ex' (.inr id')=some cs':=by simp[AZ]
    unfold We;rw[hp];exact rest _ _ (some (d',id',cs')) _ _ _ h
  grind
end
end Go.Ab
namespace Go.Ab
open Go.RowKit
variable [O6]
section
variable (P:Program)(A:XY)(nt:Nat)(ops:Array Oper)
def Bc5 (o:Oper) (fr:Fr) (H:A5) (K:Fr→A5→Prop):Prop:=
 Ht nt o.dst=true∧
  match BZ ops fr o with
  |some true=>IG P A o (ev fr) H fun v H'=>K (fr.put o.dst v) H'
  |some false=>K (fr.put o.dst (.tup [])) H
  |none=>False
def Ad2:Nat→Array Bool→Fr→A5→(Fr→A5→Prop)→Prop
 |0,listed,fr,H,K=>Region.ready .any ops listed=[]∧K fr H
 | n +1,listed,fr,H,K=>(Region.ready .any ops listed=[]→K fr H)∧
     ∀i∈Region.ready .any ops listed,Bc5 P A nt ops (ops.getD i default) fr H fun fr' H'=>Ad2 n (listed.setIfInBounds i true) fr' H' K
end
section
variable {P:Program}{nt:Nat}{ops:Array Oper}{A:XY}{r:Option Nat}{K:Fr→A5→Prop}{Q:Exit→Act→World→Prop}{g0:Gh}{w0:World}
def Au6 (hQ:∀g w a fr H,Af g0 w0 g w→Rl g H w→FR nt g w a fr→K fr H→Q .normal a w):
 ∀(n:Nat) (listed:Array Bool) (fr:Fr) (H:A5),Ad2 P A nt ops n listed fr H K→
  ∀g w a,Af g0 w0 g w→Rl g H w→FR nt g w a fr→wpAnyIn (Fw r) 0 P .any ops Q n listed a w
 |0,listed,fr,H,h,g,w,a,s,hR,hF=>⟨h.1,hQ g w a fr H s hR hF h.2⟩
 |n+1,listed,fr,H,h,g,w,a,s,hR,hF=>by
  refine⟨fun e=>hQ g w a fr H s hR hF (h.1 e),fun i hi=>?_⟩;obtain⟨h1,_,_⟩:=Ga hi;have hs:=h.2 i hi
  have eo:ops.getD i default=ops[i]:=by simp_all
  rw[eo]at hs
  obtain⟨hd,hs⟩:=hs;have ih:=Au6 hQ n (listed.setIfInBounds i true);simp only[wpOpIn,Dl h1]
  split at hs
  ·rename_i hg;rw[A1 (Ac hF.s hg)];exact Vq hR hF hd hs fun g' w' a' v H' s' hR' hF' hK=>ih _ _ hK g' w' a' (s.trans s') hR' hF'
  ·rename_i hg;rw[A0 (by rw[Ac hF.s hg];simp)];exact⟨fun _ _=>trivial,ih _ _ hs g w _ s hR (hF.put (Fy hd) (VR.und _ _))⟩
  simp_all
def Li.all {rd:Option Nat} {fr:Fr} {H0:A5} {Q:Exit→Fr→A5→Prop} (h:Ad2 P A nt ops ops.size (Array.replicate ops.size false) fr H0 (Q .normal)):Li P nt rd ops fr H0 Q:=by
 intro r g w a _ hR hF;have sd:Af g w g w.drew:=⟨fun _ _ e=>e,fun _ _ e=>e,fun _ _ e=>e,rfl,fun _ _ _=>rfl,(Ag _ _).drew,fun _ _ _=>rfl,Gz _⟩
 have hRd:Rl g H0 w.drew:=by
  refine⟨fun id b hb=>(hR.blk id b hb).mono hb sd fun _ _=>⟨rfl,fun _ ho=>ho⟩,hR.inj,hR.frz,hR.nxt,hR.bnd,fun n=>(hR.glb n).mono sd⟩
 exact Au6 (r:=r) (g0:=g) (w0:=w) (fun g' w' a' fr' H' s' hR' hF' hK=>⟨g',fr',H',s',hR',hF',hK⟩) _ _ fr H0 h g w.drew a sd hRd (hF.mono sd)
end
end Go.Ab
namespace Go.Ab
open Go.RowKit
variable [O6][Ar]
def Bi3:List Nat→(Nat→Prop)→Prop
 |[],_=>True
 |[i],f=>f i
 |i::l,f=>f i∧Bi3 l f
def Ad1:∀{l:List Nat} {f:Nat→Prop},Bi3 l f→∀i∈l,f i
 |[],_,_,i,h=>by cases h
 |[a],f,h,i,hi=>by rw[List.mem_singleton.1 hi];exact h
 |a::b::l,f,h,i,hi=>by
  rcases List.mem_cons.1 hi with rfl|hi
  ·exact h.1
  exact Ad1 h.2 i hi
section
variable (E:FN)(T:ID)(nt:Nat)(A:Nat→Bool)(ops:Array Oper)
def Bb7 (o:Oper)(l:Fl)(H:A5)(K:Fl→A5→Prop):Prop:=
 match Ht nt o.dst with
 |true=>HY E ops o 4 l (fun G l' wr=>xop E T A G o l' H fun s H'=>K (Ex o.dst (wr s) l') H') fun l'=>K (Ex o.dst (.v (.tup [])) l') H
 |false=>False
end
section
variable {P:Program}{nt:Nat}{rd:Option Nat}{T:ID}{A:Nat→Bool}{df:List Nat}
end
end Go.Ab
