/- . -/
import Derived.Test.YtildiiggamckaaaGreatDoorK04
set_option linter.all false
open Go.Ab.Ar (an_eq cmp_eq nt_eq)
namespace Go.Ab
open Go.RowKit
variable [L6][Ar]
section
variable {P:Program}{nt:Nat}{rd:Option Nat}{T:FY}{l:Fl}{df:List Nat}{H:A4}
def Jd (G:List (Nat×Bool))(l:Fl):Prop:=∀j w,Ag2 G j w=true→Xz (Cj l j) w=true
def Jd.nil:Jd [] l:=fun j w h=>by simp[Ag2]at h
def Jd.add {G:List (Nat×Bool)}(h:Jd G l){d:Nat}{w:Bool}(hd:Xz (Cj l d) w=true):Jd ((d,w)::G) l:=by
 intro j w' hg
 simp only[Ag2]at hg
 split at hg
 ·simp_all
 exact h j w' hg
theorem Ks:∀(l:Fl) (t:Nat) (s:Sl),lk l t=s→(∀j w x,s≠ .g j w x)→Cj l t=s.V
 |[],t,s,h,_=>by grind[Cj,Sl.V,lk]
 | (k,x)::l,t,s,h,hn=>by
  simp only[lk]at h
  simp only[Cj]
  cases hb:Nat.beq t k with
  |true=>
   simp only[hb]at h
   subst h
   cases x with
   |v x=>rfl
   |b c=>rfl
   |g j w x=>simp_all
  |false=>simp only[hb]at h;exact Ks l t s h hn
def SU:∀(l:Fl) (t j:Nat) (w:Bool) (x:V),lk l t= .g j w x→YU l t j=true→Cj l t=bif Xz (Cj l j) w then x else .tup []
 |[],_,_,_,_,_,h=>by simp[YU]at h
 | (k,s)::l,t,j,w,x,h,hf=>by
  simp only[YU]at hf
  simp only[lk]at h
  cases hj:Nat.beq k j with
  |true=>grind
  | false=>
   simp only[hj]at hf
   have hj':Nat.beq j k=false:=by
    cases e:Nat.beq j k with
    |false=>rfl
    |true=>simp_all
   have ej:Cj ((k,s)::l) j=Cj l j:=by simp_all[Cj]
   rw[ej];simp only[Cj]
   cases ht:Nat.beq t k with
   |true=>
    simp_all
   | false=>
    have ht':Nat.beq k t=false:=by
     cases e:Nat.beq k t with
     |false=>rfl
     |true=>simp_all
    simp only[ht',ht]at hf h ⊢
    exact SU l t j w x h hf
theorem Ki {G:List (Nat×Bool)} (hG:Jd G l) {t:Nat} {s:Sl} (h:Uq G l t=some s):s.V=Cj l t∧∀j w x,s≠ .g j w x:=by
 unfold Uq at h
 split at h
 ·rename_i j w x hl
  split at h
  ·rename_i hf;have e:=SU l t j w x hl hf
   split at h
   ·rename_i hg;cases h;rw[e,hG j w hg];simp[Sl.V]
   split at h
   ·rename_i c hc;have ec:=Ks l j _ hc (fun _ _ _ h=>by cases h)
    rw[ec]at e
    grind[Sl.V,Xz]
   cases h
  cases h
 grind[Ks]
def Xg {G:List (Nat×Bool)}(hG:Jd G l)(t:Nat):(An5 G l t).V=Cj l t:=by
 unfold An5
 split
 ·grind[Ki]
 rfl
def DH {G:List (Nat×Bool)} (hG:Jd G l) (x:Operand):(R0 G l x).V=ev (I0 ⟨l,df⟩) x:=by
 cases x with
 |tmp t=>exact Xg hG t
 |const v=>
  cases v<;>first|rfl|skip
 |global n=>rfl
 |func f=>rfl
def OK:∀(l:Fl) (d:Nat) (c:Bool),Cj l d= .bool c→∀t,Cj (LE l d c) t=Cj l t
 |[],_,_,_,_=>rfl
 | (k,s)::l,d,c,h,t=>by
  simp only[LE]
  cases hd:Nat.beq d k with
  |true=>
   have e:=Bw hd
   simp_all[Cj]
  |false=>
   have hl:Cj l d= .bool c:=by simp_all[Cj]
   have ih:=OK l d c hl
   simp_all[Cj]
def Nr {d:Nat}{c:Bool}(h:Cj l d= .bool c):I0 ⟨LE l d c,df⟩=I0 ⟨l,df⟩:=by
 simp_all[I0,OK]
theorem Ej {o:Option V}{k:V→Prop}(h:JO o k):∃y,o=some y∧k y:=by
 unfold JO at h
 grind
theorem JP (hT:Jb P T) {t:Nat} {v:V} {k:V→Prop} (h:WL (H5 P nt rd) T t v H k):∃y,(HG P H t v=some y∨Lp P H t v=some y)∧k y:=by
 unfold WL at h
 split at h
 ·exact h.elim
 rename_i I hI;have ok:=G8 hT hI
 split at h
 ·rename_i cs off
  split at h
  ·rename_i y hy;exact⟨y,.inl (by simp only[HG,ok.ag,ok.sz];exact hy),h⟩
  grind
 ·rename_i id off;obtain⟨cs,hk,h⟩:=h
  split at h
  ·rename_i y hy;exact⟨y,.inl (by simp only[HG,ok.ag,ok.sz,hk];exact hy),h⟩
  grind
 ·rename_i id i esz off;obtain⟨sz,xs,hk,hb,h⟩:=h
  split at h
  ·rename_i y hy;exact⟨y,.inr (by simp only[Lp,ok.ag,ok.sz,Hh,hk];rw[A1 hb];exact hy),h⟩
  grind
 grind
theorem Au2 (hT:Jb P T){t f:Nat}{I:Zl}{p:Nat×Nat}(hI:tg T t=some I)(hf:I.fs[f]? =some (some p)):fdO P t f=some p:=by
 have:=SS I.fs 0 f p (G8 hT hI).fs hf
 rwa[V1]at this
theorem Id (hT:Jb P T){t f:Nat}{v:V}{k:V→Prop}(h:Lz T t v f k):∃y,GZ P t v f=some y∧k y:=by
 unfold Lz at h
 grind[Ej,GZ,Au2]
theorem Mh (hT:Jb P T) {t f:Nat} {v:V} {k:V→Prop} (h:VA T t v f k):∃y,Qg P t v f=some y∧k y:=by
 unfold VA at h
 split at h
 ·exact h.elim
 rename_i I hI
 split at h
 ·rename_i p hp
  split at h
  ·exact h.elim
  rename_i J hJ
  split at h
  ·obtain⟨y,h1,h2⟩:=Ej h;exact⟨y,by simp only[Qg,Au2 hT hI hp,(G8 hT hJ).ag,(G8 hT hJ).sz];exact h1,h2⟩
  grind
 grind
def MX (hT:Jb P T) {t:Nat} {v i:V} {k:V→Prop} (h:Lx (H5 P nt rd) T t v i k):∃ki j u y,i= .int ki j∧DG P t v j=some u∧BV u y∧k y:=by
 unfold Lx at h
 split at h
 ·rename_i ki j
  split at h
  ·exact h.elim
  rename_i I hI;have ok:=G8 hT hI;refine⟨ki,j,?_⟩
  split at h
  ·rename_i e he
   split at h
   ·exact h.elim
   rename_i J hJ;have okJ:=G8 hT hJ
   split at h
   ·rename_i xs tl;obtain⟨hb,h⟩:=h
    split at h
    ·rename_i hsz;refine⟨_,_,rfl,?_,.refl _,h⟩;simp only[DG,ok.sl,he,okJ.sz];rw[A1 ⟨hb,by rw[Bw hsz]⟩]
    grind
   grind
  rename_i he
  split at h
  ·rename_i n e hae
   split at h
   ·exact h.elim
   rename_i J hJ
   split at h
   ·obtain⟨⟨hb1,hb2,hb3⟩,h⟩:=h;rename_i cs off
    have hle:off+j.toNat*J.sz+J.sz≤cs.length:=by
     have h1:j.toNat+1≤n:=by omega
     have h2:=J7 J.sz h1
     rw[G5,AA]at h2
     omega
    refine⟨_,_,rfl,?_,.sub hle,h⟩;simp only[DG,ok.sl,he,ok.ar,hae,(G8 hT hJ).sz];rw[A1 ⟨hb1,hb2⟩];rfl
   obtain⟨hb,h⟩:=h;obtain⟨y,h1,h2⟩:=Ej h;refine⟨y,y,rfl,?_,.refl _,h2⟩;simp only[DG,ok.sl,he,ok.ar,hae,(G8 hT hJ).sz];rw[A1 hb];exact h1
  grind
 grind
def Sb (hT:Jb P T) {t:Nat} {v i:V} {k:V→Prop} (h:Vz (H5 P nt rd) T t v i k):∃ki j y,i= .int ki j∧No P t v j=some y∧k y:=by
 unfold Vz at h
 split at h
 ·rename_i ki j
  split at h
  ·exact h.elim
  rename_i I hI;have ok:=G8 hT hI;refine⟨ki,j,?_⟩
  split at h
  ·rename_i n e hae
   split at h
   ·exact h.elim
   rename_i J hJ
   split at h
   ·obtain⟨hb,h⟩:=h;obtain⟨y,h1,h2⟩:=Ej h;refine⟨y,rfl,?_,h2⟩;simp only[No,ok.ar,hae,(G8 hT hJ).ag,(G8 hT hJ).sz];rw[A1 hb];exact h1
   grind
  rename_i hae
  split at h
  ·split at h
   ·rename_i hs;obtain⟨hb,h⟩:=h;refine⟨_,rfl,?_,h⟩;rename_i str _
    have hb:0≤j∧j<(str.size:Nat):=by
     rw[an_eq,cmp_eq,cmp_eq,Ar.slen_eq]at hb
     grind[Fg]
    simp only[No,ok.ar,hae,ok.st];rw[A1 ⟨hs,hb.1⟩,Ar.sat_eq]
    have hlt:j.toNat<str.size:=by omega
    simp[hlt]
   grind
  grind
 grind
def VB:∀xs ys:List V,xeq xs ys=As xs ys
 |[],[]=>rfl
 |[],_::_=>rfl
 |x::xs,[]=>by grind[xeq,As]
 | x::xs,y::ys=>by
  have ih:=VB xs ys
  have hAn:(Ar.an:Bool→Bool→Bool)=fun a b=>a&&b:=by funext a b;simp[an_eq]
  unfold xeq As;rw[ih,hAn]
  cases x<;>cases y<;>simp only[Ii,cmp_eq,Ar.scmp_eq,Ar.beq_eq,Fg,Ay0]<;>first
   |rfl
   |(cases As xs ys<;>rfl)
   |(split<;>cases As xs ys<;>rfl)
theorem Wq {op:BinOp}{ki:IntKind}{a b:Int}(h:PX op=true):Ky op ki a b=some (.bool (Ar.cmp op a b)):=by
 rw[cmp_eq]
 cases op<;>simp[PX]at h<;>rfl
theorem YP {op:BinOp}{ki:IntKind}{a b:Int}(h:Ap5 op=true):Ky op ki a b=some (.int ki (Ar.ar op ki a b)):=by
 rw[Ar.ar_eq]
 cases op<;>simp[Ap5]at h<;>rfl
theorem Wp {op:BinOp}{ki:IntKind}{a b:Int}(h:Af4 op=true)(hb:b≠0):Ky op ki a b=some (.int ki (Ar.ar op ki a b)):=by
 rw[Ar.ar_eq]
 cases op<;>simp[Af4]at h<;>simp[Ky,arI,hb]
def VH {op:BinOp}{a b:ByteArray}(h:PX op=true):Ph op a b=some (.bool (Ar.scmp op a b)):=by
 rw[Ar.scmp_eq]
 cases op<;>simp[PX]at h<;>rfl
def Yn {op:BinOp}{ki:IntKind}{a b:Int}(h:HJ op=true)(hb:0≤b):Pr op ki a b=some (.int ki (Ar.sh op ki a b)):=by
 rw[Ar.sh_eq]
 cases op<;>simp[HJ]at h<;>simp only[Pr,shI]<;>rw[A3 (by omega)]
theorem OY (hT:Jb P T) {op:BinOp} {t:Nat} {x y:V} {k:V→Prop} (h:Av1 (H5 P nt rd) T op t x y k):∃v,OB P op t x y=some v∧k v:=by
 unfold Av1 at h
 split at h
 ·rename_i ka a kb b
  split at h
  ·rename_i hs;obtain⟨hb,h⟩:=h
   have hb:0≤b:=by rw[cmp_eq]at hb;grind[Fg]
   simp_all[OB,Yn]
  rename_i hs
  split at h
  ·rename_i hk
   have e:OB P op t (.int ka a) (.int kb b)=Ky op ka a b:=by simp[OB,hs,hk]
   split at h
   ·grind[Wq]
   split at h
   ·grind[YP]
   split at h
   ·rename_i hc;obtain⟨hb,h⟩:=h
    have hb:b≠0:=by rw[cmp_eq]at hb;grind[Fg]
    grind[Wp]
   grind
  grind
 ·rename_i a b
  split at h
  ·rename_i hc;exact⟨_,VH hc,h⟩
  split at h
  ·obtain⟨hb,h⟩:=h
   have hb:((a.size+b.size:Nat):Int)≤9223372036854775807:=by
    rw[cmp_eq,Ar.slen_eq,Ar.cat_eq]at hb
    have e:(a++b).size=a.size+b.size:=by simp
    rw[e]at hb
    grind[Fg]
   simp_all[OB,Ph,Ar.cat_eq]
  grind
 ·rename_i a b
  split at h
  ·exact h.elim
  rename_i I hI
  split at h
  ·rename_i hbo;have hbo':=(G8 hT hI).bo hbo
   split at h
   ·simp_all[OB,Ar.beq_eq]
   ·simp_all[OB,Ar.beq_eq,nt_eq]
   grind
  grind
 ·rename_i xs ys
  split at h
  ·exact h.elim
  rename_i I hI;have ok:=G8 hT hI
  split at h
  ·rename_i hc;obtain⟨h1,h2,h3⟩:=hc
   have hek:Gi P 9 t=some (xs.map kd):=by
    have:=ok.ek
    rw[h2]at this
    exact this
   have hcond:Vq P t=some true∧Gi P 9 t=some (xs.map kd)∧ys.map kd=xs.map kd:=⟨by rw[ok.ag,h1],hek,h3⟩;cases op<;>try exact h.elim
   ·cases hx:xeq xs ys with
    |none=>simp_all
    |some b=>
     simp_all[VB,OB]
   cases hx:xeq xs ys with
   |none=>simp_all
   |some b=>
    simp_all[VB,OB,nt_eq]
  grind
 grind
theorem Rb {op:UnOp}{x:Sl}{k:Sl→Prop}(h:xun op x k):∃s:Sl,unV op x.V=some s.V∧k s:=by
 unfold xun at h
 grind[unV,Sl.V,nt_eq,Ar.neg_eq]
def Tr (hT:Jb P T) {s d:Nat} {x:V} {H:A4} {k:V→Prop} (h:ZB (H5 P nt rd) T s d x H k):∃v,(RQ P s d x=some v∨RR P H s d x v)∧k v:=by
 unfold ZB at h
 split at h
 ·rename_i I J hI hJ;have okI:=G8 hT hI;have okJ:=G8 hT hJ
  split at h
  ·rename_i ki kj n hi hj
   have e1:=okI.ik;rw[hi]at e1
   have e2:=okJ.ik;rw[hj]at e2
   simp_all[BO,RQ,Ar.wr_eq]
  ·rename_i b _
   split at h
   ·rename_i h1 h2;have e1:=KN (okI.st.trans h1);have e2:=KN (okJ.st.trans h2)
    simp_all[RQ]
   grind
  ·obtain⟨v,h1,h2⟩:=h;grind
  ·obtain⟨v,h1,h2⟩:=h;grind
  grind
 grind
theorem Mi (hT:Jb P T) {t:Nat} {parts:List (Nat×V)} {k:V→Prop} (h:VC T t parts k):∃v,Nz P t parts=some v∧k v:=by
 unfold VC at h
 split at h
 ·exact h.elim
 rename_i I hI;have ok:=G8 hT hI
 split at h
 ·rename_i cs hz
  have ez:=ok.ze;rw[hz]at ez;simp only[BO]at ez
  split at h
  ·rename_i n e ha
   split at h
   ·exact h.elim
   rename_i J hJ
   split at h
   ·rename_i c hc;exact⟨_,by simp only[Nz,ok.ar,ha,ez,(G8 hT hJ).sz,hc];rfl,h⟩
   grind
  rename_i ha
  split at h
  ·rename_i pl hpl
   have ep:=ok.pl;rw[hpl]at ep;simp only[BO]at ep
   split at h
   ·rename_i c hc;have hc':KD (pl[·]?) cs parts=some c:=hc;exact⟨_,by simp only[Nz,ok.ar,ha,ez,ep,hc'];rfl,h⟩
   grind
  grind
 grind
def HB (hT:Jb P T){t n:Nat}{parts:List (Nat×V)}{k:V→Prop}(h:HC T t n parts k):∃v,AH P t n parts=some v∧k v:=by
 unfold HC at h
 split at h
 ·exact h.elim
 rename_i I hI
 split at h
 ·exact h.elim
 rename_i e he
 split at h
 ·exact h.elim
 rename_i J hJ
 split at h
 ·exact h.elim
 rename_i z hz
 have ez:=(G8 hT hJ).ze;rw[hz]at ez;simp only[BO]at ez
 split at h
 ·rename_i hc;refine⟨_,?_,h⟩;simp only[AH,(G8 hT hI).sl,he,(G8 hT hJ).sz,ez];rw[A1 hc]
 grind
def Sa (hT:Jb P T) {t:Nat} {l c:V} {k:V→Prop} (h:Vy T t l c k):∃v,Ae4 P t l c v∧k v:=by
 unfold Vy at h
 split at h
 ·split at h
  ·exact h.elim
  rename_i I hI
  split at h
  ·exact h.elim
  rename_i e he
  split at h
  ·exact h.elim
  rename_i J hJ
  split at h
  ·exact h.elim
  rename_i z hz
  have ez:=(G8 hT hJ).ze;rw[hz]at ez;simp only[BO]at ez
  split at h
  ·rename_i hc;obtain⟨h1,h2,h3,h4,rfl,h6,h7⟩:=hc;exact⟨_,⟨_,_,_,e,J.sz,J.by_,z,rfl,rfl,by rw[(G8 hT hI).sl,he],(G8 hT hJ).sz,h1,(G8 hT hJ).by_,h2,ez,h3,h4,h6,h7,rfl⟩,h⟩
  grind
 grind
def RW (hT:Jb P T) {t:Nat} {v:V} {lo hi mx:Option (Option Int)} {k:V→Prop} (h:Vv (H5 P nt rd) T t v lo hi mx k):
 ∃a b c y,lo=some a∧hi=some b∧mx=some c∧Pl P t v a b c=some y∧k y:=by
 unfold Vv at h
 split at h
 ·rename_i a b c;refine⟨a,b,c,?_⟩
  split at h
  ·exact h.elim
  rename_i I hI
  split at h
  ·rename_i e he
   split at h
   ·exact h.elim
   rename_i J hJ
   split at h
   ·obtain⟨hc,h⟩:=h;refine⟨_,rfl,rfl,rfl,?_,h⟩;simp only[Pl,(G8 hT hI).sl,he,(G8 hT hJ).sz];rw[A1 hc]
   grind
  grind
 grind
def QI (hT:Jb P T) {t id:Nat} {l0 n:Int} {lo hi mx:Option (Option Int)} {k:V→Prop} (h:RX (H5 P nt rd) T t H id l0 n lo hi mx k):
 ∃a b c y,lo=some a∧hi=some b∧mx=some c∧JW P H t (.own id l0 n) a b c=some y∧k y:=by
 unfold RX at h
 split at h
 ·rename_i a b c;refine⟨a,b,c,?_⟩
  split at h
  ·exact h.elim
  rename_i I hI
  split at h
  ·rename_i e he
   split at h
   ·exact h.elim
   rename_i J hJ;obtain⟨xs,hk,hc,h⟩:=h;refine⟨_,rfl,rfl,rfl,?_,h⟩;simp only[JW,(G8 hT hI).sl,he,(G8 hT hJ).sz,Hh,hk];rw[A1 ⟨trivial,hc⟩];rfl
  grind
 grind
theorem IW (hT:Jb P T) {b:Builtin} {ts:List TypeId} {vs:List V} {k:V→Prop} (h:MY (H5 P nt rd) T b ts vs k):∃v,CO P b ts vs v∧k v:=by
 unfold MY at h
 split at h
 ·rename_i t x
  split at h
  ·exact h.elim
  rename_i I hI;have ok:=G8 hT hI
  split at h
  ·rename_i e he
   split at h
   ·exact⟨_,by simp only[CO,YM,ok.sl,he],h⟩
   grind
  rename_i he
  split at h
  ·rename_i n e ha;exact⟨_,by simp only[CO,YM,ok.sl,he,ok.ar,ha,Ar.ofN_eq],h⟩
  rename_i ha
  split at h
  ·split at h
   ·rename_i hs;exact⟨_,by simp only[CO,YM,ok.sl,he,ok.ar,ha,ok.st,hs,D1,Ar.slen_eq],h⟩
   grind
  grind
 ·grind[Ar.mx_eq,CO]
 ·grind[Ar.mn_eq,CO]
 ·rename_i sT yT xs tl ys tl'
  split at h
  ·rename_i I I2 hI hI2
   split at h
   ·rename_i e e2 he he2
    split at h
    ·rename_i J hJ
     split at h
     ·rename_i z hz
      have ez:=(G8 hT hJ).ze;rw[hz]at ez;simp only[BO]at ez
      split at h
      ·rename_i hc;obtain⟨c1,c2,c3,c4,c5⟩:=hc;obtain⟨xs',ys',l1,l2,k1,k2,k3,k4⟩:=h;refine⟨_,⟨?_,e,J.sz,J.by_,z,xs',ys',(G8 hT hI).sl.trans he,by rw[(G8 hT hI2).sl,he2];rfl,(G8 hT hJ).sz,c1,(G8 hT hJ).by_,c2,ez,c3,c4,l1,l2,k1,k2,k3,rfl⟩,k4⟩;cases tl<;>first|exact .inl rfl|exact .inr rfl|cases c5
      grind
     grind
    grind
   grind
  grind
 grind
theorem NW {t:Bool}{x y:Sl}{k:Sl→Prop}(h:Zv (H5 P nt rd) t x y k):∃s:Sl,(t=true→s.V=x.V)∧(t=false→s.V=y.V)∧k s:=by
 unfold Zv at h
 split at h
 ·grind
 ·exact⟨_,fun e=>(by simp[Sl.V,e]),fun e=>(by simp[Sl.V,e]),h⟩
 ·grind[Sl.V,Ar.or_eq]
 ·grind[Sl.V,nt_eq]
 ·grind
 ·grind[Sl.V,nt_eq,an_eq]
 ·grind[Sl.V,nt_eq,Ar.or_eq]
 ·grind[Sl.V,an_eq]
 ·grind[Ar.pk_eq]
 obtain⟨h1,h2⟩:=h;cases t
 ·grind
 grind
def Jd.arm {G:List (Nat×Bool)} (hG:Jd G l) {c:Operand} {w:Bool} (h:ev (I0 ⟨l,df⟩) c= .bool w):Jd (Ay2 c w G) l:=by
 cases c with
 |tmp d=>
  refine hG.add ?_;have:Cj l d= .bool w:=h;rw[this];simp[Xz]
 |const _=>exact hG
 |global _=>exact hG
 |func _=>exact hG
theorem NX (hT:Jb P T) {b:Builtin} {ts:List TypeId} {vs:List V} {w:V} {k:V→Prop} (hid:Wa b vs=some w) (h:Zy (H5 P nt rd) T b ts H w k):∃v,LN P H b ts vs v∧k v:=by
 unfold Wa at hid
 unfold Zy at h
 split at hid
 ·cases hid
  split at h
  ·split at h
   ·exact h.elim
   rename_i I hI
   split at h
   ·rename_i e he;exact⟨_,by simp only[LN,Ao9,(G8 hT hI).sl,he],h⟩
   grind
  grind
 ·cases hid
  split at h
  ·split at h
   ·exact h.elim
   rename_i I hI
   split at h
   ·rename_i e he
    split at h
    ·simp_all
    ·obtain⟨sz,xs,hk,h⟩:=h;exact⟨_,by simp only[LN,WD,(G8 hT hI).sl,he,Hh,hk];rfl,h⟩
    ·exact⟨_,by simp only[LN,WD,(G8 hT hI).sl,he],h⟩
    ·exact⟨_,by simp only[LN,WD,(G8 hT hI).sl,he],h⟩
    grind
   grind
  grind
 cases hid
def Me (hT:Jb P T) {G:List (Nat×Bool)} (hG:Jd G l) {o:Oper} {k:Sl→Prop} (h:xq (H5 P nt rd) T G o l H k):∃s:Sl,Md P o (ev (I0 ⟨l,df⟩)) H s.V∧k s:=by
 have E:∀x,(R0 G l x).V=ev (I0 ⟨l,df⟩) x:=fun x=>DH hG x;have Em:∀xs:List Operand,(xs.map fun x=>(R0 G l x).V)=xs.map (ev (I0 ⟨l,df⟩)):=fun xs=>Cp fun p _=>E p
 have Eo:∀x:Option Operand,(x.map fun x=>(R0 G l x).V)=x.map (ev (I0 ⟨l,df⟩)):=fun x=>by cases x<;>simp[E]
 have Ep:∀ps:List (Nat×Operand),(ps.map fun p=>(p.1,(R0 G l p.2).V))=ps.map fun p=>(p.1,ev (I0 ⟨l,df⟩) p.2):=fun ps=>Cp fun p _=>by rw[E]
 unfold xq at h
 unfold Md
 split at h<;>rename_i ho<;>try simp only[ho]
 ·grind
 ·grind
 ·rename_i c x y
  split at h
  ·rename_i hc
   have:ev (I0 ⟨l,df⟩) c= .bool true:=by rw[←E,hc];rfl
   grind
  ·rename_i hc
   have:ev (I0 ⟨l,df⟩) c= .bool false:=by rw[←E,hc];rfl
   grind
  ·rename_i b hc
   have hb:ev (I0 ⟨l,df⟩) c= .bool b:=by rw[←E,hc];rfl
   obtain⟨s,h1,h2,h3⟩:=NW h;refine⟨s,?_,h3⟩;simp only[hb];cases b
   ·simp only[E2,D7];rw[h2 rfl];exact DH (hG.arm hb) _
   simp only[D1];rw[h1 rfl];exact DH (hG.arm hb) _
  grind
 ·split at h
  ·rename_i h1;rw[E]at h1;exact⟨_,⟨h1,by rw[E];rfl⟩,h⟩
  grind
 ·obtain⟨v,h1,h2⟩:=Mi hT h
  rw[Ep]at h1;exact⟨.v v,h1,h2⟩
 ·obtain⟨v,h1,h2⟩:=HB hT h
  rw[Ep]at h1;exact⟨.v v,h1,h2⟩
 ·obtain⟨v,h1,h2⟩:=Sa hT h
  rw[E,E]at h1;exact⟨.v v,h1,h2⟩
 ·obtain⟨v,h1,h2⟩:=JP hT h
  rw[E]at h1;exact⟨.v v,h1,h2⟩
 ·grind
 ·obtain⟨v,h1,h2⟩:=OY hT h
  rw[E,E]at h1;exact⟨.v v,h1,h2⟩
 ·grind[Rb]
 ·obtain⟨v,h1,h2⟩:=Tr hT h
  rw[E]at h1;exact⟨.v v,h1,h2⟩
 ·obtain⟨v,h1,h2⟩:=h
  rw[E,E]at h1;exact⟨.v v,h1,h2⟩
 ·split at h
  ·rename_i I hI
   split at h
   ·rename_i hn;exact⟨_,⟨(G8 hT hI).nif hn,by rw[E];rfl⟩,h⟩
   grind
  grind
 ·grind[Sl.V]
 ·split at h
  ·rename_i id l0 n hx;obtain⟨a,b,c,y,h1,h2,h3,h4,h5⟩:=QI hT h
   rw[Eo]at h1 h2 h3
   rw[E]at hx
   exact⟨.v y,by simp only[h1,h2,h3,hx];exact .inr h4,h5⟩
  obtain⟨a,b,c,y,h1,h2,h3,h4,h5⟩:=RW hT h
  rw[Eo]at h1 h2 h3
  rw[E]at h4
  exact⟨.v y,by simp only[h1,h2,h3];exact .inl h4,h5⟩
 ·obtain⟨v,h1,h2⟩:=Id hT h
  rw[E]at h1;exact⟨.v v,h1,h2⟩
 ·obtain⟨v,h1,h2⟩:=Mh hT h
  rw[E]at h1;exact⟨.v v,h1,h2⟩
 ·split at h
  ·rename_i id lo n hx
   unfold As8 at h
   split at h
   ·rename_i i hi
    split at h
    ·exact h.elim
    rename_i I hI
    split at h
    ·rename_i e he
     split at h
     ·exact h.elim
     rename_i J hJ;obtain⟨⟨xs,hk⟩,hb,h⟩:=h
     rw[E]at hx hi
     refine⟨.v _,?_,h⟩;simp only[hi,hx];refine .inr ?_;simp only[Ws,(G8 hT hI).sl,he,Hh,hk,(G8 hT hJ).sz,Ar.ofs_eq];rw[A1 ⟨hb,trivial⟩];rfl
    grind
   grind
  obtain⟨ki,j,u,y,h1,h2,h4,h3⟩:=MX hT h
  rw[E]at h1 h2
  exact⟨.v y,by simp only[h1];exact .inl ⟨u,h2,h4⟩,h3⟩
 ·obtain⟨ki,j,y,h1,h2,h3⟩:=Sb hT h
  rw[E]at h1 h2
  exact⟨.v y,by simp only[h1];exact h2,h3⟩
 ·split at h
  ·rename_i cs hc
   rw[E]at hc
   obtain⟨y,h1,h2⟩:=Ej h;exact⟨.v y,by simp only[hc];exact h1,h2⟩
  grind
 ·rename_i c
  split at h
  ·rename_i b hb
   split at h
   ·rename_i w hid
    rw[Em]at hid
    obtain⟨v,h1,h2⟩:=NX hT hid h;exact⟨.v v,by simp only[hb];exact .inr h1,h2⟩
   obtain⟨v,h1,h2⟩:=IW hT h
   rw[Em]at h1
   exact⟨.v v,by simp only[hb];exact .inl h1,h2⟩
  grind
 grind
end
def Dj (d:Option Tmp)(s:Sl)(l:Fl):Fl:=
 match d with
 |some d=>(d,s)::l
 |none=>l
section
variable (E:Eg)(T:FY)(nt:Nat)(A:Nat→Bool)(Z:Nat→List Nat)
def WM (H:A4) (k:V→A4→Prop) (ts:List TypeId) (vs:List V):Prop:=
 match ts,vs with
 | [sT, yT],[.sl xs tl,.sl ys _]=>
  (match tg T sT,tg T yT with
   | some I,some I2=>
    (match I.sl,I2.sl with
     | some e,some _=>
      (match tg T e with
       | some J=>
        (match J.ze with
         |some z=>if 0<J.sz∧0<J.by_∧z.one=true∧z.cells.length=J.sz then E.appn J.sz J.by_ H tl xs ys k else False
         |none=>False)
       |none=>False)
     |_,_=>False)
   |_,_=>False)
 |_,_=>False
def Ts (H:A4) (k:V→A4→Prop) (ts:List TypeId) (vs:List V):Prop:=
 match ts,vs with
 | [sT, yT],[.sl xs tl,.sl ys _]=>
  (match tg T sT,tg T yT with
   | some I,some I2=>
    (match I.sl,I2.sl with
     | some e,some _=>
      (match tg T e with
       | some J=>
        (match J.ze with
         |some z=>if 0<J.sz∧0<J.by_∧z.one=true∧z.cells.length=J.sz then E.appw J.sz J.by_ H tl xs ys k else False
         |none=>False)
       |none=>False)
     |_,_=>False)
   |_,_=>False)
 |_,_=>False
def Ac0 (a:Bool)(vs:List V):Bool:=
 match vs with
 | .own _ _ _::_=>true
 |_=>a
def Tt (H : A4) (k:V→A4→Prop) (ts:List TypeId) (vs:List V):Prop:=
 match ts,vs with
 | [sT, yT],[x,y]=>
  (match tg T sT,tg T yT with
   | some I,some I2=>
    (match I.sl with
     | some e=>
      (match tg T e with
       | some J=>
        (match J.ze with
         | some z=>
          if 0<J.sz∧0<J.by_∧z.one=true∧z.cells.length=J.sz then
           (match I2.sl,I2.ik,y with
            |some _,_,y=>E.oapp J.sz J.by_ z H x y k
            |none,some _,.int _ m=>E.oappz J.sz J.by_ z H x m k
            |none,none,.str s=>(match I2.st,J.sz with|true,1=>E.oapps J.by_ z H x s k|_,_=>False)
            |_,_,_=>False)
          else False
         |none=>False)
       |none=>False)
     |_=>False)
   |_,_=>False)
 |_,_=>False
def At1 (H:A4) (k:V→A4→Prop) (ts:List TypeId) (vs:List V):Prop:=
 match ts,vs with
 | [sT,_],[.own id lo n,y]=>
  (match tg T sT with
   | some I=>
    (match I.sl with
     |some e=>(match tg T e with|some J=>if 0<J.sz then E.ocopy J.sz H (.own id lo n) y k else False|none=>False)
     |_=>False)
   |_=>False)
 |_,_=>False
def ZC (H:A4) (k:V→A4→Prop) (ts:List TypeId) (vs:List V):Prop:=
 match ts,vs with
 | [sT],[.own id lo n]=>
  (match tg T sT with
   | some I=>
    (match I.sl with
     | some e=>
      (match tg T e with
       |some J=>(match J.ze with|some z=>if 0<J.sz∧z.one=true∧z.cells.length=J.sz then E.oclear J.sz z H (.own id lo n) fun H'=>k (.tup []) H' else False|none=>False)
       |none=>False)
     |_=>False)
   |_=>False)
 |_,_=>False
def As9 (t:Nat) (H:A4) (k:V→A4→Prop) (l c:V):Prop:=
 match l,c with
 | .int _ n,.int _ m=>
  (match tg T t with
   | some I=>
    (match I.sl with
     | some e=>
      (match tg T e with
       | some J=>
        (match J.ze with
         |some z=>if 0<J.sz∧0<J.by_∧z.one=true∧z.cells.length=J.sz then E.omk J.sz J.by_ z n m H k else False
         |none=>False)
       |none=>False)
     |none=>False)
   |none=>False)
 |_,_=>False
def Ak6 (t:Nat)(H:A4)(k:Sl→A4→Prop):Prop:=
 match tg T t with
 |some I=>(match I.sl with|some e=>(match tg T e with|some J=>E.onil J.sz H fun v H'=>k (.v v) H'|none=>False)|none=>False)
 |none=>False
def xlit (t n:Nat) (H:A4) (parts:List (Nat×V)) (k:Sl→A4→Prop):Prop:=
 match tg T t with
 |none=>False
 | some I=>
  match I.sl with
  |none=>False
  | some e=>
   match tg T e with
   |none=>False
   |some J=>
    match J.ze with
    |none=>False
    |some _=>if n*J.sz≤16777216∧parts.length=n∧CC J.sz 0 parts=true then E.olit J.sz H (parts.map fun q=>q.2) fun v H'=>k (.v v) H' else False
def Zx (G:List (Nat×Bool)) (o:Oper) (l:Fl) (H:A4) (k:Sl→A4→Prop):Prop:=
 match o.op with
 | .alloc t=>
  (match tg T t with
   | some I=>
    (match I.ze with
     | some z=>
      (match A (o.dst.getD 0+5000000),Ku z with
       |true,true=>(match I.sl with|some e=>(match tg T e with|some J=>E.oalloc J.sz H fun id H'=>k (.v (.ref id 0)) H'|none=>False)|none=>False)
       |_,_=>(match z.one with|true=>E.alloc H z.cells fun id H'=>(match A (o.dst.getD 0+10000000)with|true=>E.wkB H' id fun H2=>k (.v (.ref id 0)) H2|false=>k (.v (.ref id 0)) H')|false=>False))
     |none=>False)
   |none=>False)
 | .box _ x=>
  match A (o.dst.getD 0+1000000)with
  |true=>E.need ((R0 G l x).V.one=true∧(R0 G l x).V.cells=[(R0 G l x).V]) fun _=>(match A (o.dst.getD 0)with|true=>E.alloc H [(R0 G l x).V] fun id H'=>k (.v (.ref id 0)) H'|false=>k (.v (.eref [(R0 G l x).V] 0)) H)
  |false=>
  (match(R0 G l x).V.one with
   |true=>(match A (o.dst.getD 0)with|true=>E.alloc H (R0 G l x).V.cells fun id H'=>k (.v (.ref id 0)) H'|false=>k (.v (.eref (R0 G l x).V.cells 0)) H)
   |false=>False)
 | .store t x y=>
  (match tg T t with
   | some I=>
    (match(R0 G l x).V with
     | .ref id off=>
      (match(R0 G l y).V.one with
       | true=>
        (match Nat.beq (R0 G l y).V.cells.length I.sz with
         |true=>E.store H id off I.sz (R0 G l y).V.cells fun H'=>k (.v .bad) H'
         |false=>False)
       |false=>False)
     | .elem id i esz off=>E.ostore H id i esz I.sz off (R0 G l y).V fun H'=>k (.v .bad) H'
     |_=>False)
   |none=>False)
 | .binOp op t x y _=>
  (match XH op,Ku (R0 G l y).V with
   |some q,true=>(match tg T t with|some I=>(match I.sl with|some _=>E.nilc (R0 G l x).V (fun _=>k (.b q) H) (fun _=>k (.b (!q)) H)|none=>xq E T G o l H fun s=>k s H)|none=>False)
   |_,_=>xq E T G o l H fun s=>k s H)
 | .makeSlice t x y=>As9 E T t H (fun v H'=>k (.v v) H') (R0 G l x).V (R0 G l y).V
 | .assign x=>(match A (o.dst.getD 0+6000000),Ap4 x with|true,true=>(match Ku (R0 G l x).V with|true=>Ak6 E T o.type H k|false=>k (R0 G l x) H)|_,_=>k (R0 G l x) H)
 | .move x=>(match A (o.dst.getD 0+6000000),Ap4 x with|true,true=>(match Ku (R0 G l x).V with|true=>Ak6 E T o.type H k|false=>k (R0 G l x) H)|_,_=>k (R0 G l x) H)
 | .buildSlice t n ps=>
  (match A (o.dst.getD 0+6000000)with
   |true=>xlit E T t n H (ps.toList.map fun p=>(p.1,(R0 G l p.2).V)) k
   |false=>HC T t n (ps.toList.map fun p=>(p.1,(R0 G l p.2).V)) fun v=>k (.v v) H)
 | .makeMap _ r=>(match r with|none=>E.mmk H fun v H'=>k (.v v) H'|some _=>False)
 | .mapUpdate t x y z=>E.mset t H (R0 G l x).V (R0 G l y).V (R0 G l z).V fun H'=>k (.v .bad) H'
 | .insert t x y z=>E.mset t H (R0 G l x).V (R0 G l y).V (R0 G l z).V fun H'=>k (.v .bad) H'
 | .range t x=>E.mrg t H (R0 G l x).V fun v H'=>k (.v v) H'
 | .next x s=>(match s with|false=>E.mnx H (R0 G l x).V fun v H'=>k (.v v) H'|true=>False)
 | .entry x=>E.men H (R0 G l x).V fun v H'=>k (.v v) H'
 | .call c=>
  (match c.callee with
   | .value x=>E.call (R0 G l x).V (c.args.toList.map fun x=>(R0 G l x).V) H fun v H'=>k (.v v) H'
   | .builtin .append=>
    (match Ac0 (A (o.dst.getD 0)) (c.args.toList.map fun x=>(R0 G l x).V)with
     |true=>Tt E T H (fun v H'=>k (.v v) H') c.argTypes.toList (c.args.toList.map fun x=>(R0 G l x).V)
     | false=>
      (match A (o.dst.getD 0+4000000)with
       |true=>Ts E T H (fun v H'=>k (.v v) H') c.argTypes.toList (c.args.toList.map fun x=>(R0 G l x).V)
       |false=>WM E T H (fun v H'=>k (.v v) H') c.argTypes.toList (c.args.toList.map fun x=>(R0 G l x).V)))
   | .builtin .copy=>At1 E T H (fun v H'=>k (.v v) H') c.argTypes.toList (c.args.toList.map fun x=>(R0 G l x).V)
   | .builtin .clear=>ZC E T H (fun v H'=>k (.v v) H') c.argTypes.toList (c.args.toList.map fun x=>(R0 G l x).V)
   | .builtin _=>xq E T G o l H fun s=>k s H
   |_=>False)
 |_=>xq E T G o l H fun s=>k s H
def Wo (o o2:Oper):Option (Nat×TypeId×TypeId×Operand):=
 match o.op,o.dst,o.guard with
 | .alloc t,some d,none=>
  (match o2.op,o2.dst,o2.guard with
   | .store t2 (.tmp d2) x,none,none=>
    (match A d,Nat.beq d d2 with
     |false,true=>(match x with| .tmp d3=>(match Nat.beq d d3 with|true=>none|false=>some (d,t,t2,x))|_=>some (d,t,t2,x))
     |_,_=>none)
   |_,_,_=>none)
 |_,_,_=>none
def At7 (l:Fl) (t t2:TypeId) (x:Operand):Option (List V):=
 match tg T t,tg T t2 with
 | some I,some I2=>
  (match I.ze with
   |some z=>if z.one=true∧(R0 [] l x).V.one=true∧(R0 [] l x).V.cells.length=I2.sz∧I2.sz≤z.cells.length then some (T5 z.cells 0 (R0 [] l x).V.cells)else none
   |none=>none)
 |_,_=>none
def GN (ops : Array Oper) (o:Oper):Nat→Fl→(List (Nat×Bool)→Fl→(Sl→Sl)→Prop)→(Fl→Prop)→Prop
 | n, l, go, skip=>
  match o.guard with
  |none=>go [] l Sl.n
  | some (j, want)=>
   (match (ops[j]?).bind (·.dst)with
    |none=>False
    | some d =>
     (match Uq [] l d with
      |some (.b c)=>(match c==want with|true=>go [] l Sl.n|false=>skip l)
      | some (.v (.bool c))=>
       (match Kt [(d,want)] o l with
        |true=>go [(d,want)] l fun s=>.g d want s.V
        | false=>
         E.br c (fun _=>match want with|true=>go [] (LE l d true) Sl.n|false=>skip (LE l d true))
          (fun _=>match want with|false=>go [] (LE l d false) Sl.n|true=>skip (LE l d false)))
      |some (.v (.tup _))=>skip l
      |some _=>False
      | none =>
       (match lk l d with
        | .g j' _ (.bool _)=>
         (match YU l d j' with
          | true=>
           (match Kt [(d,want)] o l with
            |true=>go [(d,want)] l fun s=>.g d want s.V
            | false=>
             (match lk l j',n with
              | .v (.bool c),n+1=>E.br c (fun _=>GN ops o n (LE l j' true) go skip) (fun _=>GN ops o n (LE l j' false) go skip)
              |_,_=>False))
          |false=>False)
        |_=>False)))
def Mg:Option (Nat×Int×Int×List V)→List Nat→Fl→A4→(Fl→A4→Prop)→Prop
 |_,[],l,H,k=>k l H
 | some (id,lo,n,xs),d::ds,l,H,k=>
  (match lk l d with
   | .v (.own id' lo' n')=>E.need (id'=id∧lo'=lo∧n'=n) fun _=>Mg (some (id,lo,n,xs)) ds ((d,.v (.sl xs .ro))::l) H k
   |_=>Mg none ds l H k)
 | none,d::ds,l,H,k=>
  match decide (1000000≤d)with
  | true=>
   (match lk l (d % 1000000)with
    | .v (.ref id 0)=>
     (match decide (100000000≤d)with
      |true=>E.adoptIn H id ((d-100000000) / 1000000) fun H'=>Mg none ds l H' k
      |false=>E.frzIn H id (d / 1000000-1) fun H'=>Mg none ds l H' k)
    |_=>False)
  |false=>
   match lk l d with
   | .v (.ref id 0)=>E.frzL H id fun cs H'=>Mg none ds ((d,.v (.eref cs 0))::l) H' k
   | .v (.own id lo n)=>E.ofrz H id lo n fun xs H'=>Mg (some (id,lo,n,xs)) ds ((d,.v (.sl xs .ro))::l) H' k
   | .v (.sl _ _)=>Mg none ds l H k
   |_=>False
def AC2 (o:Oper):List Nat:=
 match o.dst with
 |some q=>Z q
 |none=>[]
def Mf (ops:Array Oper):List Oper→Fl→A4→(Fl→A4→Prop)→Prop
 |[],l,H,K=>K l H
 | o ::rest,l,H,K=>
  match Gs nt o.dst with
  |false=>False
  | true=>
   Mg E none (AC2 Z o) l H fun l H=>
   match rest with
   |[]=>GN E ops o 4 l (fun G l' wr=>Zx E T A G o l' H fun s H'=>K (Dj o.dst (wr s) l') H') fun l'=>K (Dj o.dst (.v (.tup [])) l') H
   | o2::rest'=>
    (match Wo A o o2 with
     | some (d,t,t2,x)=>
      (match At7 T l t t2 x with
       |some cs=>Mf ops rest' ((d,.v (.eref cs 0))::l) H K
       |none=>False)
     |none=>GN E ops o 4 l (fun G l' wr=>Zx E T A G o l' H fun s H'=>Mf ops (o2::rest') (Dj o.dst (wr s) l') H' K) fun l'=>Mf ops (o2::rest') (Dj o.dst (.v (.tup [])) l') H K)
end
section
variable {P:Program}{nt:Nat}{rd:Option Nat}{T:FY}{A:Nat→Bool}{df:List Nat}
def Xs (l:Fl) (d t:Nat) (s:Sl):Cj ((d,s)::l) t=if t=d then Ya l s else Cj l t:=by
 simp only[Cj]
 by_cases h:t=d
 ·subst h;simp only[Nat.beq_refl,D1];cases s<;>rfl
 have:Nat.beq t d=false:=by
  cases hb:Nat.beq t d with
  |false=>rfl
  |true=>simp_all
 grind
def N6 (l:Fl) (d:Option Tmp) (s:Sl):I0 ⟨Dj d s l,df⟩=(I0 ⟨l,df⟩).put d (Ya l s):=by
 cases d with
 |none=>rfl
 |some d=>
  simp_all[I0,Dj,Fr.put,Xs]
def Ek {ops:Array Oper} {o:Oper} {go:List (Nat×Bool)→Fl→(Sl→Sl)→Prop} {skip:Fl→Prop}:∀(n:Nat) (l:Fl),GN (H5 P nt rd) ops o n l go skip→
 ∃l',(∀t,Cj l' t=Cj l t)∧((Bh ops (I0 ⟨l,df⟩) o=some true∧∃G wr,Jd G l'∧(∀s,Ya l' (wr s)=s.V)∧go G l' wr)∨
  (Bh ops (I0 ⟨l,df⟩) o=some false∧(skip l'∨∃G d want,Kt G o l'=true∧Xz (Cj l' d) want=false∧go G l' fun s=>.g d want s.V)))
 | n, l,h=>by
  unfold GN at h
  split at h
  ·rename_i hg;exact⟨l,fun _=>rfl,.inl ⟨by simp[Bh,hg],[],_,Jd.nil,fun s=>by cases s<;>rfl,h⟩⟩
  rename_i j want hg
  split at h
  ·exact h.elim
  rename_i d hjd
  have gv:∀x,Cj l d=x→Bh ops (I0 ⟨l,df⟩) o=match x with| .bool c=>some (c==want)| .tup _=>some false|_=>none:=fun x hx=>by
   simp only[Bh,hg,hjd,I0,hx]
   grind
  have idok:∀(l':Fl) (s:Sl),Ya l' s.n=s.V:=fun l' s=>by cases s<;>rfl
  have tot:∀c,Cj l d= .bool c→Kt [(d,want)] o l=true→go [(d,want)] l (fun s=>.g d want s.V)→∃l',(∀t,Cj l' t=Cj l t)∧((Bh ops (I0 ⟨l,df⟩) o=some true∧∃G wr,Jd G l'∧(∀s,Ya l' (wr s)=s.V)∧go G l' wr)∨
   (Bh ops (I0 ⟨l,df⟩) o=some false∧(skip l'∨∃G d want,Kt G o l'=true∧Xz (Cj l' d) want=false∧go G l' fun s=>.g d want s.V))):=by
   intro c hc ht h;have:=gv _ hc
   simp only at this
   cases hcw:c==want with
   |true=>exact⟨l,fun _=>rfl,.inl ⟨by rw[this,hcw],_,_,Jd.nil.add (by rw[hc];simp_all[Xz]),fun s=>by simp_all[Ya,Xz],h⟩⟩
   |false=>exact⟨l,fun _=>rfl,.inr ⟨by rw[this,hcw],.inr ⟨_,d,want,ht,by rw[hc];simp_all[Xz],h⟩⟩⟩
  split at h
  ·rename_i c hc;have hv:Cj l d= .bool c:=(Ki Jd.nil hc).1.symm;have:=gv _ hv
   split at h
   ·rename_i e;exact⟨l,fun _=>rfl,.inl ⟨by rw[this];grind,[],_,Jd.nil,idok l,h⟩⟩
   grind
  ·rename_i c hc;have hv:Cj l d= .bool c:=(Ki Jd.nil hc).1.symm;have hgv:=gv _ hv
   split at h
   ·simp_all
   have e:=OK l d c hv;obtain⟨h1,h2⟩:=h;cases c
   ·have h:=h2 rfl;cases want
    ·exact⟨_,e,.inl ⟨hgv,[],_,Jd.nil,idok _,h⟩⟩
    grind
   have h:=h1 rfl;cases want
   ·grind
   exact⟨_,e,.inl ⟨hgv,[],_,Jd.nil,idok _,h⟩⟩
  ·rename_i vs hc;have hv:Cj l d= .tup vs:=(Ki Jd.nil hc).1.symm
   grind
  ·exact h.elim
  split at h
  ·rename_i j' w' cx hl
   split at h
   ·rename_i hf;have hv:=SU l d j' w' _ hl hf
    split at h
    ·rename_i ht
     cases hb:Xz (Cj l j') w' with
     |true=>
      rw[hb]at hv
      simp_all
     |false=>
      rw[hb]at hv
      have hv:Cj l d= .tup []:=hv;exact⟨l,fun _=>rfl,.inr ⟨gv _ hv,.inr ⟨_,d,want,ht,by rw[hv];rfl,h⟩⟩⟩
    split at h
    ·rename_i c m hc;have hvj:=Ks l j' _ hc (fun _ _ _ h=>by cases h);obtain⟨h1,h2⟩:=h
     have key:∀b,c=b→GN (H5 P nt rd) ops o m (LE l j' b) go skip→∃l',(∀t,Cj l' t=Cj l t)∧((Bh ops (I0 ⟨l,df⟩) o=some true∧∃G wr,Jd G l'∧(∀s,Ya l' (wr s)=s.V)∧go G l' wr)∨
      (Bh ops (I0 ⟨l,df⟩) o=some false∧(skip l'∨∃G d want,Kt G o l'=true∧Xz (Cj l' d) want=false∧go G l' fun s=>.g d want s.V))):=by
      intro b hb h
      have hk:Cj l j'= .bool b:=by rw[hvj,hb];rfl
      have e:=OK l j' b hk;obtain⟨l',e',h⟩:=Ek m _ h
      rw[Nr hk]at h
      grind
     cases c
     ·simp_all
     simp_all
    grind
   grind
  grind
def L5.whole {y:V} {vs:List V} (h:L5 y.cells vs) (h1:y.one=true):∃z,BV y z∧z.cells=vs:=by
 have one:∀{y:V} {vs:List V},L5 [y] vs→(∀z,BV y z→z.cells=[z])→∃z,BV y z∧z.cells=vs:=by
  intro y vs h hz
  cases h with
  |cons q r=>cases r;grind
 cases y with
 |agg cs=>exact⟨.agg vs,.agg h,rfl⟩
 |tup vs=>cases h1
 |_=>exact one h fun z hz=>by cases hz<;>rfl
def MW (hT:Jb P T) {G:List (Nat×Bool)} {o:Oper} {l:Fl} (hG:Jd G l) {H:A4} {k:Sl→A4→Prop} (h:Zx (H5 P nt rd) T A G o l H k):Hi P A o (ev (I0 ⟨l,df⟩)) H fun v H'=>∃s:Sl,v=s.V∧k s H':=by
 have E:∀x,(R0 G l x).V=ev (I0 ⟨l,df⟩) x:=fun x=>DH hG x;have Em:∀xs:List Operand,(xs.map fun x=>(R0 G l x).V)=xs.map (ev (I0 ⟨l,df⟩)):=fun xs=>Cp fun p _=>E p
 have quiet:xq (H5 P nt rd) T G o l H (fun s=>k s H)→∃v,Md P o (ev (I0 ⟨l,df⟩)) H v∧∃s:Sl,v=s.V∧k s H:=fun h=>by
  obtain⟨s,h1,h2⟩:=Me (df:=df) hT hG h
  grind
 unfold Zx at h
 split at h
 ·rename_i t ho;simp only[Hi,ho]
  split at h
  ·rename_i I hI
   split at h
   ·rename_i z hz
    have ez:=(G8 hT hI).ze;rw[hz]at ez;simp only[BO]at ez
    split at h
    ·rename_i hA hn
     split at h
     ·split at h
      ·rename_i J _
       have e2:z= .sl [] .nil:=by
        grind[Ku]
       rw[e2]at ez
       exact .inr ⟨ez,J.sz,fun q id hq hid=>⟨.v (.ref id 0),rfl,h q id hq hid⟩⟩
      grind
     grind
    split at h
    ·rename_i h1;refine .inl ⟨z,ez,h1,fun id hid=>?_⟩;have h:=h id hid
     split at h
     ·obtain⟨cs,ds,q1,q2,q3⟩:=h
      rw[D6]at q1;grind[Z1,Sl.V]
     exact⟨_,.refl _,.v (.ref id 0),rfl,h⟩
    grind
   grind
  grind
 ·rename_i t x ho;simp only[Hi,ho]
  split at h
  ·rw[E]at h
   obtain⟨⟨h1,h2⟩,h⟩:=h;refine⟨h1,?_⟩;rw[h2]
   split at h
   ·rename_i hA;rw[A1 hA];exact fun id hid=>⟨.v (.ref id 0),rfl,h id hid⟩
   grind[Sl.V]
  split at h
  ·rename_i h1
   rw[E]at h1
   refine⟨h1,?_⟩
   split at h
   ·rename_i hA;rw[A1 hA];intro id hid;have:=h id hid
    rw[E]at this
    exact⟨.v (.ref id 0),rfl,this⟩
   rename_i hA;rw[A3 (by rw[hA];simp)]
   rw[E]at h
   grind[Sl.V]
  grind
 ·rename_i t x y ho;simp only[Hi,ho]
  split at h
  ·rename_i I hI
   split at h
   ·rename_i id off hx
    split at h
    ·rename_i h1
     split at h
     ·rename_i h2;obtain⟨cs,vs',hle,hk,h3,h⟩:=h
      rw[E]at hx h1 h2 hle
      obtain⟨z,hz,hzc⟩:=hle.whole h1;subst hzc;refine .inl ⟨z,_,hz,?_,.v .bad,rfl,h⟩;simp only[LA,(G8 hT hI).sz,hx,hk];rw[A1 ⟨hz.one h1,by rw[←hz.cells.length];simp_all,FO h3⟩]
     grind
    grind
   ·rename_i id i esz off hx;obtain⟨xs,y',q1,q2,q3,q4,q5,q6,h⟩:=h
    rw[E]at hx q1
    refine .inr ⟨y',_,q1,?_,.v .bad,rfl,h⟩;simp only[Sh,(G8 hT hI).sz,hx,Hh,q5];rw[A1 ⟨q6,trivial,q2,q3,q4⟩]
   grind
  grind
 ·rename_i op t x y ty ho
  have old:xq (H5 P nt rd) T G o l H (fun s=>k s H)→Hi P A o (ev (I0 ⟨l,df⟩)) H fun v H'=>∃s:Sl,v=s.V∧k s H':=fun h=>by
   grind[Hi]
  split at h
  ·rename_i q hq hn
   split at h
   ·rename_i I hI
    split at h
    ·rename_i e he;obtain⟨p,h1,h2,h3⟩:=h
     rw[E]at h1 hn
     simp only[Hi,ho];refine .inr ⟨q,e,p,hq,(G8 hT hI).sl.trans he,h1,?_,fun hx=>⟨.b q,rfl,h2 hx⟩,⟨.b (!q),rfl,h3⟩⟩
     grind[Ku]
    grind
   grind
  grind
 ·rename_i t x y ho;simp only[Hi,ho]
  rw[E,E]at h
  refine .inr ?_
  unfold As9 at h
  unfold Oh
  split at h
  ·rename_i k1 n k2 m e1 e2;rw[e1,e2]
   simp only
   split at h
   ·rename_i I hI
    split at h
    ·rename_i e he
     split at h
     ·rename_i J hJ
      split at h
      ·rename_i z hz
       have ez:=(G8 hT hJ).ze;rw[hz]at ez;simp only[BO]at ez
       split at h
       ·rename_i hc;obtain⟨c1,c2,c3,c4⟩:=hc;obtain⟨⟨q1,q2,q3⟩,ys,hle,h⟩:=h;exact⟨e,J.sz,J.by_,z,(G8 hT hI).sl.trans he,(G8 hT hJ).sz,c1,(G8 hT hJ).by_,c2,ez,c3,c4,q1,q2,q3,fun id hid=>⟨id,J.sz,_,ys,D6 _ _ _,hle,.v _,rfl,by rw[Z1];grind⟩⟩
       grind
      grind
     grind
    grind
   grind
  grind
 ·rename_i x ho;simp only[Hi,ho]
  split at h
  ·split at h
   ·rename_i hn
    rw[E]at hn
    unfold Ak6 at h
    split at h
    ·split at h
     ·split at h
      ·rename_i J _;refine .inr ⟨?_,J.sz,fun q hq=>⟨.v _,rfl,h q hq⟩⟩
       unfold Ku at hn
       split at hn
       ·assumption
       cases hn
      exact h.elim
     exact h.elim
    exact h.elim
   exact .inl ⟨_,(E x).symm,h⟩
  exact .inl ⟨_,(E x).symm,h⟩
 ·rename_i x ho;simp only[Hi,ho]
  split at h
  ·split at h
   ·rename_i hn
    rw[E]at hn
    unfold Ak6 at h
    split at h
    ·split at h
     ·split at h
      ·rename_i J _;refine .inr ⟨?_,J.sz,fun q hq=>⟨.v _,rfl,h q hq⟩⟩
       unfold Ku at hn
       split at hn
       ·assumption
       cases hn
      exact h.elim
     exact h.elim
    exact h.elim
   exact .inl ⟨_,(E x).symm,h⟩
  exact .inl ⟨_,(E x).symm,h⟩
 ·rename_i t n ps ho
  have Ep:∀ps:List (Nat×Operand),(ps.map fun p=>(p.1,(R0 G l p.2).V))=ps.map fun p=>(p.1,ev (I0 ⟨l,df⟩) p.2):=fun ps=>Cp fun p _=>by rw[E]
  split at h
  ·simp only[Hi,ho];refine .inr ?_
   rw[Ep]at h
   unfold xlit at h
   split at h
   ·exact h.elim
   rename_i I hI
   split at h
   ·exact h.elim
   rename_i e he
   split at h
   ·exact h.elim
   rename_i J hJ
   split at h
   ·exact h.elim
   rename_i z hz
   have ez:=(G8 hT hJ).ze;rw[hz]at ez;simp only[BO]at ez
   split at h
   ·rename_i hc;obtain⟨ys,hle,h⟩:=h;refine⟨e,J.sz,_,ys,?_,(G8 hT hI).sl.trans he,(G8 hT hJ).sz,hle,fun q hq=>⟨.v _,rfl,h q hq⟩⟩;simp only[AH,(G8 hT hI).sl,he,(G8 hT hJ).sz,ez];rw[A1 hc]
   grind
  obtain⟨v,h1,h2⟩:=HB hT h
  rw[Ep]at h1
  simp only[Hi,ho];exact .inl ⟨v,by simp_all[Md],.v v,rfl,h2⟩
 ·rename_i t r ho;simp only[Hi,ho]
  split at h
  ·exact⟨rfl,YJ (K:=fun v H'=>k (.v v) H') h fun v H' hk=>⟨.v v,rfl,hk⟩⟩
  grind
 ·rename_i t x y z ho;simp only[Hi,ho]
  rw[E,E,E]at h
  exact Gw (K:=fun _ H'=>k (.v .bad) H') h fun H' hk=>⟨.v .bad,rfl,hk⟩
 ·rename_i t x y z ho;simp only[Hi,ho]
  rw[E,E,E]at h
  exact Gw (K:=fun _ H'=>k (.v .bad) H') h fun H' hk=>⟨.v .bad,rfl,hk⟩
 ·rename_i t x ho;simp only[Hi,ho]
  rw[E]at h
  exact Ui (K:=fun v H'=>k (.v v) H') h fun v H' hk=>⟨.v v,rfl,hk⟩
 ·rename_i x s ho;simp only[Hi,ho]
  cases s with
  |true=>exact h.elim
  |false=>
   rw[E]at h
   exact⟨rfl,Wd (K:=fun v H'=>k (.v v) H') h fun v H' hk=>⟨.v v,rfl,hk⟩⟩
 ·rename_i x ho;simp only[Hi,ho]
  rw[E]at h
  exact UT (K:=fun v H'=>k (.v v) H') h fun v H' hk=>⟨.v v,rfl,hk⟩
 ·rename_i c ho
  split at h
  ·rename_i x hc;simp only[Hi,ho,hc]
   rw[E,Em]at h
   exact CR.mono h fun v H' hk=>⟨.v v,rfl,hk⟩
  ·rename_i hc;simp only[Hi,ho,hc]
   rw[Em]at h
   split at h
   ·refine .inr (.inl ?_)
    unfold Tt at h
    unfold MS
    split at h
    ·rename_i sT yT x y hts hvs;rw[hts,hvs]
     simp only
     split at h
     ·rename_i I I2 hI hI2
      split at h
      ·rename_i e he
       split at h
       ·rename_i J hJ
        split at h
        ·rename_i z hz
         have ez:=(G8 hT hJ).ze;rw[hz]at ez;simp only[BO]at ez
         split at h
         ·rename_i hc;obtain⟨c1,c2,c3,c4⟩:=hc;refine⟨e,J.sz,J.by_,z,(G8 hT hI).sl.trans he,(G8 hT hJ).sz,c1,(G8 hT hJ).by_,c2,ez,c3,c4,?_⟩
          split at h
          ·rename_i he2;obtain⟨ys',q1,h⟩:=h;exact .inl ⟨by rw[(G8 hT hI2).sl,he2];rfl,ys',q1,IT h fun v H' hk=>⟨.v _,rfl,hk⟩⟩
          ·rename_i k0 he2 hik;have eik:=(G8 hT hI2).ik
           rw[hik]at eik
           obtain⟨q1,h⟩:=h;exact .inr (.inl ⟨⟨_,eik⟩,_,_,rfl,q1.1,q1.2,IT h fun v H' hk=>⟨.v _,rfl,hk⟩⟩)
          ·split at h
           ·rename_i hst hj1;have est:=(G8 hT hI2).st
            rw[hst]at est
            have h:Gt H (fun v H'=>k (.v v) H') 1 J.by_ z x (Ga _):=h
            rw[←hj1]at h
            exact .inr (.inr ⟨KN est,_,rfl,hj1,IT h fun v H' hk=>⟨.v _,rfl,hk⟩⟩)
           grind
          grind
         grind
        grind
       grind
      grind
     grind
    grind
   split at h
   ·refine .inr (.inr ?_)
    unfold Ts at h
    unfold GD
    split at h
    ·rename_i sT yT xs tl ys tl' hts hvs;rw[hts,hvs]
     simp only
     split at h
     ·rename_i I I2 hI hI2
      split at h
      ·rename_i e e2 he he2
       split at h
       ·rename_i J hJ
        split at h
        ·rename_i z hz
         have ez:=(G8 hT hJ).ze;rw[hz]at ez;simp only[BO]at ez
         split at h
         ·rename_i hc;obtain⟨c1,c2,c3,c4⟩:=hc;obtain⟨xs',ys',l1,l2,k1,k2,k3,k4,k5⟩:=h;exact⟨e,J.sz,J.by_,z,(G8 hT hI).sl.trans he,by rw[(G8 hT hI2).sl,he2];rfl,(G8 hT hJ).sz,c1,(G8 hT hJ).by_,c2,ez,c3,c4,xs',ys',l1,l2,k1,k2,k3,k4,fun e=>⟨_,_,by subst e;rw[G9];exact .ro _ _,fun _ _ hx=>EI hx,⟨.v _,rfl,k5⟩⟩,fun t h1 h2=>⟨_,_,.ro _ _,fun id b hx=>by rw[C3 _ _ fun e=>by simp_all];exact hx,⟨.v _,rfl,k5⟩⟩⟩
         grind
        grind
       grind
      grind
     grind
    grind
   refine .inl ?_
   unfold WM at h
   unfold GD
   split at h
   ·rename_i sT yT xs tl ys tl' hts hvs;rw[hts,hvs]
    simp only
    split at h
    ·rename_i I I2 hI hI2
     split at h
     ·rename_i e e2 he he2
      split at h
      ·rename_i J hJ
       split at h
       ·rename_i z hz
        have ez:=(G8 hT hJ).ze;rw[hz]at ez;simp only[BO]at ez
        split at h
        ·rename_i hc;obtain⟨c1,c2,c3,c4⟩:=hc;obtain⟨xs',ys',l1,l2,k1,k2,k3,k4,k5,k6⟩:=h;exact⟨e,J.sz,J.by_,z,(G8 hT hI).sl.trans he,by rw[(G8 hT hI2).sl,he2];rfl,(G8 hT hJ).sz,c1,(G8 hT hJ).by_,c2,ez,c3,c4,xs',ys',l1,l2,k1,k2,k3,k4,fun e=>⟨.v _,rfl,k5 e⟩,fun t h1 h2=>⟨.v _,rfl,k6 t h1 h2⟩⟩
        grind
       grind
      grind
     grind
    grind
   grind
  ·rename_i hc;simp only[Hi,ho,hc]
   rw[Em]at h
   unfold At1 at h
   unfold Vc
   split at h
   ·rename_i sT yT id lo n y hts hvs;rw[hts,hvs]
    simp only
    split at h
    ·rename_i I hI
     split at h
     ·rename_i e he
      split at h
      ·rename_i J hJ
       split at h
       ·rename_i c1;obtain⟨xs,ys',q1,q2,h⟩:=h;exact⟨e,J.sz,xs,ys',(G8 hT hI).sl.trans he,(G8 hT hJ).sz,c1,q1,q2,.v _,rfl,h⟩
       grind
      grind
     grind
    grind
   grind
  ·rename_i hc;simp only[Hi,ho,hc]
   rw[Em]at h
   unfold ZC at h
   unfold Qo
   split at h
   ·rename_i sT id lo n hts hvs;rw[hts,hvs]
    simp only
    split at h
    ·rename_i I hI
     split at h
     ·rename_i e he
      split at h
      ·rename_i J hJ
       split at h
       ·rename_i z hz
        have ez:=(G8 hT hJ).ze;rw[hz]at ez;simp only[BO]at ez
        split at h
        ·rename_i c1;obtain⟨xs,q1,h⟩:=h;exact⟨e,J.sz,z,xs,(G8 hT hI).sl.trans he,(G8 hT hJ).sz,c1.1,ez,c1.2.1,c1.2.2,q1,.v _,rfl,h⟩
        grind
       grind
      grind
     grind
    grind
   grind
  ·rename_i b hb _ _ hc;obtain⟨v,h1,h2⟩:=quiet h
   simp only[Md,ho,hc]at h1
   simp only[Hi,ho,hc];exact⟨v,h1,h2⟩
  exact h.elim
 rename_i n1 n2 n3 n4 n5 n6 n7 n8 n9 n10 n11 n12 n13 n14 n15;obtain⟨v,h1,h2⟩:=quiet h;unfold Hi
 split<;>rename_i ho<;>first|exact⟨v,h1,h2⟩|exact(n1 _ ho).elim|exact(n1 _ _ ho).elim|exact(n1 _ _ _ ho).elim|exact(n1 _ _ _ _ ho).elim|exact(n1 _ _ _ _ _ ho).elim|exact(n2 _ ho).elim|exact(n2 _ _ ho).elim|exact(n2 _ _ _ ho).elim|exact(n2 _ _ _ _ ho).elim|exact(n2 _ _ _ _ _ ho).elim|exact(n3 _ ho).elim|exact(n3 _ _ ho).elim|exact(n3 _ _ _ ho).elim|exact(n3 _ _ _ _ ho).elim|exact(n3 _ _ _ _ _ ho).elim|exact(n4 _ ho).elim|exact(n4 _ _ ho).elim|exact(n4 _ _ _ ho).elim|exact(n4 _ _ _ _ ho).elim|exact(n4 _ _ _ _ _ ho).elim|exact(n5 _ ho).elim|exact(n5 _ _ ho).elim|exact(n5 _ _ _ ho).elim|exact(n5 _ _ _ _ ho).elim|exact(n5 _ _ _ _ _ ho).elim|exact(n6 _ ho).elim|exact(n6 _ _ ho).elim|exact(n6 _ _ _ ho).elim|exact(n6 _ _ _ _ ho).elim|exact(n6 _ _ _ _ _ ho).elim|exact(n7 _ ho).elim|exact(n7 _ _ ho).elim|exact(n7 _ _ _ ho).elim|exact(n7 _ _ _ _ ho).elim|exact(n7 _ _ _ _ _ ho).elim|exact(n8 _ ho).elim|exact(n8 _ _ ho).elim|exact(n8 _ _ _ ho).elim|exact(n8 _ _ _ _ ho).elim|exact(n8 _ _ _ _ _ ho).elim|exact(n9 _ ho).elim|exact(n9 _ _ ho).elim|exact(n9 _ _ _ ho).elim|exact(n9 _ _ _ _ ho).elim|exact(n9 _ _ _ _ _ ho).elim|exact(n10 _ ho).elim|exact(n10 _ _ ho).elim|exact(n10 _ _ _ ho).elim|exact(n10 _ _ _ _ ho).elim|exact(n10 _ _ _ _ _ ho).elim|exact(n11 _ ho).elim|exact(n11 _ _ ho).elim|exact(n11 _ _ _ ho).elim|exact(n11 _ _ _ _ ho).elim|exact(n11 _ _ _ _ _ ho).elim|exact(n12 _ ho).elim|exact(n12 _ _ ho).elim|exact(n12 _ _ _ ho).elim|exact(n12 _ _ _ _ ho).elim|exact(n12 _ _ _ _ _ ho).elim|exact(n13 _ ho).elim|exact(n13 _ _ ho).elim|exact(n13 _ _ _ ho).elim|exact(n13 _ _ _ _ ho).elim|exact(n13 _ _ _ _ _ ho).elim|exact(n14 _ ho).elim|exact(n14 _ _ ho).elim|exact(n14 _ _ _ ho).elim|exact(n14 _ _ _ _ ho).elim|exact(n14 _ _ _ _ _ ho).elim|exact(n15 _ ho).elim|exact(n15 _ _ ho).elim|exact(n15 _ _ _ ho).elim|exact(n15 _ _ _ _ ho).elim|exact(n15 _ _ _ _ _ ho).elim
theorem VR.nil_inv {g:Gh}{w:World}{u:Value}(h:VR g w u (.sl [] .nil)):u= .slice none 0 0:=by
 cases h with
 |sl0 _=>rfl
 |sle ht=>rcases ht with h|⟨h,_⟩<;>cases h
 |sl _ _ _ _ _ _ _ _ ht=>exact ht.elim
def Ec {cs:List V}{i j:Nat}{x:V}(hi:i<cs.length):(cs.set i x).getD j .bad=if j=i then x else cs.getD j .bad:=by
 grind
def VR.erefLe {g:Gh} {w:World} {v:Value} {cs ds:List V} {off:Nat} (h:VR g w v (.eref cs off)) (hl:L5 cs ds):VR g w v (.eref ds off):=by
 have e:=hl.length
 cases h with
 |eref vs hf hw h1 hv=>
  exact .eref vs (fun j hj=>hf j (by omega)) (fun j hj=>hw j (by omega)) (fun j hj=>h1 j (by omega)) fun j hj=>(hv j (by omega)).le (hl.at j)
def BA {w:World} {a:Act}:∀(q:Option (Nat×Int×Int×List V)) (ds:List Nat) (l:Fl) (H:A4) (g:Gh) (k:Fl→A4→Prop),(∀id lo n xs,q=some (id,lo,n,xs)→∀v,VR g w v (.own id lo n)→VR g w v (.sl xs .ro))→Rl g H w→FR nt g w a (I0 ⟨l,df⟩)→Mg (H5 P nt rd) q ds l H k→∃g' l' H',U3 g w g' w∧Rl g' H' w∧FR nt g' w a (I0 ⟨l',df⟩)∧k l' H'
 |q,[],l,H,g,k,_,hR,hF,h=>⟨g,l,H,U3.refl _ _,hR,hF,by simp_all[Mg]⟩
 | some (id,lo,n,xs),d::ds,l,H,g,k,hq,hR,hF,h=>by
  unfold Mg at h
  split at h
  ·rename_i id' lo' n' hl;obtain⟨⟨e,e2,e3⟩,h⟩:=h;subst e;subst e2;subst e3
   have hF1:FR nt g w a (I0 ⟨(d,.v (.sl xs .ro))::l,df⟩):=by
    have e:=N6 (df:=df) l (some d) (.v (.sl xs .ro))
    rw[show Dj (some d) (.v (.sl xs .ro)) l=(d,Sl.v (.sl xs .ro))::l from rfl]at e
    rw[e];refine⟨hF.size,fun t=>?_,hF.df⟩;simp only[Fr.put]
    split
    ·rename_i ht;subst ht;have h0:=hF.s t;have e0:(I0 ⟨l,df⟩).s t= .own id' lo' n':=Ks l t _ hl (fun _ _ _ h=>by cases h)
     rw[e0]at h0
     simp_all[Ya]
    exact hF.s t
   exact BA _ ds _ _ g k hq hR hF1 h
  exact BA none ds _ _ g k (fun _ _ _ _ h=>by cases h) hR hF h
 | none,d::ds,l,H,g,k,_,hR,hF,h=>by
  unfold Mg at h
  split at h
  ·split at h
   ·rename_i id hl
    split at h
    ·obtain⟨cs,sz,hk,hj,h⟩:=h;obtain⟨jl,_⟩:=List.getElem?_eq_some_iff.1 hj;obtain⟨g1,s1,hR1,hn,hv⟩:=DY hR sz (.inl rfl) (.sl0 rfl:VR g w (.slice none 0 0) (.sl [] .nil))
     have hk1:upd H g.nx (some (.arr sz [])) id=some (.cells cs):=by
      rw[C3 _ _ (fun e=>by rw[e]at hk;rw[hn]at hk;cases hk)];exact hk
     have hR2:=hR1.chgCells hk1 (ds:=cs.set ((d-100000000) / 1000000) (.own g.nx 0 0)) (by simp) fun j' u hj' hu=>by
      rw[Ec jl]
      grind[VR.nil_inv]
     obtain⟨g2,l2,H2,s2,r⟩:=BA none ds _ _ g1 k (fun _ _ _ _ h=>by cases h) hR2 (hF.mono s1) (h _ hn);exact⟨g2,l2,H2,s1.trans s2,r⟩
    obtain⟨cs,q,lo,n,sz,xs,ys,hk,hj,hq,hle,h⟩:=h;obtain⟨jl,_⟩:=List.getElem?_eq_some_iff.1 hj;obtain⟨g1,s1,hR1,hv⟩:=hR.freezeArr hq
    have hk1:upd H q none id=some (.cells cs):=by
     rw[C3 _ _ (fun e=>by simp_all)];exact hk
    have hR2:=hR1.chgCells hk1 (ds:=cs.set (d / 1000000-1) (.sl ys .ro)) (by simp) fun j' u hj' hu=>by
     rw[Ec jl]
     split
     ·rename_i e;subst e
      rw[GM,hj]at hu
      exact(hv _ _ _ hu).le (.sl _ hle)
     exact hu
    obtain⟨g2,l2,H2,s2,r⟩:=BA none ds _ _ g1 k (fun _ _ _ _ h=>by cases h) hR2 (hF.mono s1) h;exact⟨g2,l2,H2,s1.trans s2,r⟩
   grind
  split at h
  ·rename_i id hl;obtain⟨cs0,cs,hk,hle,h⟩:=h;obtain⟨g1,s1,hR1,hv⟩:=hR.freeze hk
   have hF1:FR nt g1 w a (I0 ⟨(d,.v (.eref cs 0))::l,df⟩):=by
    have e:=N6 (df:=df) l (some d) (.v (.eref cs 0))
    rw[show Dj (some d) (.v (.eref cs 0)) l=(d,Sl.v (.eref cs 0))::l from rfl]at e
    rw[e];have hm:=hF.mono s1;refine⟨hm.size,fun t=>?_,hm.df⟩;simp only[Fr.put]
    split
    ·rename_i ht;subst ht;have h0:=hF.s t;have e0:(I0 ⟨l,df⟩).s t= .ref id 0:=Ks l t _ hl (fun _ _ _ h=>by cases h)
     rw[e0]at h0
     exact(hv _ _ h0).erefLe hle
    exact hm.s t
   obtain⟨g2,l2,H2,s2,r⟩:=BA none ds _ _ g1 k (fun _ _ _ _ h=>by cases h) hR1 hF1 h;exact⟨g2,l2,H2,s1.trans s2,r⟩
  ·rename_i id lo n hl;obtain⟨sz,xs,ys,hk,hle,h⟩:=h;obtain⟨g1,s1,hR1,hv0⟩:=hR.freezeArr hk;have hv:∀v,VR g1 w v (.own id lo n)→VR g1 w v (.sl ys .ro):=fun v hv1=>(hv0 v lo n hv1).le (.sl _ hle)
   have hF1:FR nt g1 w a (I0 ⟨(d,.v (.sl ys .ro))::l,df⟩):=by
    have e:=N6 (df:=df) l (some d) (.v (.sl ys .ro))
    rw[show Dj (some d) (.v (.sl ys .ro)) l=(d,Sl.v (.sl ys .ro))::l from rfl]at e
    rw[e];have hm:=hF.mono s1;refine⟨hm.size,fun t=>?_,hm.df⟩;simp only[Fr.put]
    split
    ·rename_i ht;subst ht;have h0:=hm.s t;have e0:(I0 ⟨l,df⟩).s t= .own id lo n:=Ks l t _ hl (fun _ _ _ h=>by cases h)
     rw[e0]at h0
     exact hv _ h0
    exact hm.s t
   obtain⟨g2,l2,H2,s2,r⟩:=BA (some (id,lo,n,ys)) ds _ _ g1 k (fun _ _ _ _ h=>by simp_all) hR1 hF1 h;exact⟨g2,l2,H2,s1.trans s2,r⟩
  ·exact BA none ds _ _ g k (fun _ _ _ _ h=>by cases h) hR hF h
  grind
def Vw (hT:Jb P T){G:List (Nat×Bool)}{o:Oper}{l:Fl}{H:A4}{k:Sl→Prop}(ht:Kt G o l=true)(h:xq (H5 P nt rd) T G o l H k):∃s,k s:=by
 unfold Kt at ht
 unfold xq at h
 split at ht<;>rename_i ho<;>try simp only[ho]at h
 ·grind
 ·grind
 ·grind[NW]
 ·grind[JP]
 ·grind[Id]
 ·grind[Mh]
 ·grind[Mi]
 ·grind[OY]
 ·grind[Rb]
 ·grind[JO]
 ·grind[NX,IW]
 cases ht
def RY (hT:Jb P T) {G:List (Nat×Bool)} {o:Oper} {l:Fl} {H:A4} {k:Sl→A4→Prop} (ht:Kt G o l=true) (h:Zx (H5 P nt rd) T A G o l H k):∃s,k s H:=by
 have key:xq (H5 P nt rd) T G o l H (fun s=>k s H)→∃s,k s H:=fun h=>Vw hT ht h
 unfold Kt at ht
 unfold Zx at h
 split at ht<;>rename_i ho<;>try simp only[ho]at h
 all_goals try exact key h
 ·grind
 ·grind
 ·split at h
  ·split at h
   ·split at h
    ·obtain⟨_,_,_,h⟩:=h;grind
    grind
   grind
  grind
 ·grind
 cases ht
end
section
variable {P:Program}{nt:Nat}{rd:Option Nat}{T:FY}{A:Nat→Bool}{Z:Nat→List Nat}{df:List Nat}
def Wn {o o2:Oper}{d:Nat}{t t2:TypeId}{x:Operand}(h:Wo A o o2=some (d,t,t2,x)):
 o.op= .alloc t∧o.dst=some d∧o.guard=none∧o2.op= .store t2 (.tmp d) x∧o2.dst=none∧o2.guard=none∧x≠ .tmp d:=by
 unfold Wo at h
 grind[Nat.eq_of_beq_eq_true]
def Vx (hT:Jb P T) {ops:Array Oper} {r:Option Nat} {K:Fl→A4→Prop} {Q:Exit→Act→World→Prop} {g0:Gh} {w0:World}
 (hQ:∀g w a l H,U3 g0 w0 g w→Rl g H w→FR nt g w a (I0 ⟨l,df⟩)→K l H→Q .normal a w):
 ∀(m i:Nat) (l:Fl) (H:A4),i+m=ops.size→Mf (H5 P nt rd) T nt A Z ops (ops.toList.drop i) l H K→∀g w a,U3 g0 w0 g w→Rl g H w→FR nt g w a (I0 ⟨l,df⟩)→wpOpsIn (Fw r) 0 P ops Q (List.range' i m) a w:=by
 intro m
 induction m using Nat.strongRecOn with
 |_ m ih=>
 intro i l H hi h g w a s hR hF
 cases m with
 |zero=>
  have:ops.toList.drop i=[]:=by simp;omega
  rw[this]at h
  unfold Mf at h
  exact hQ g w a l H s hR hF h
 | succ m=>
  have hlt:i<ops.toList.length:=by simp;omega
  have hlt':i<ops.size:=by omega
  have hdrop:=Aj hlt
  rw[hdrop]at h
  simp only[JI]at h
  generalize ho:ops[i]=o at h
  simp only[Jy,wpOpsIn,Ak hlt',ho]
  unfold Mf at h
  split at h
  ·exact h.elim
  rename_i hd;obtain⟨g1,l1,H1,s1,hR1,hF1,h⟩:=BA (df:=df) none _ _ _ _ _ (fun _ _ _ _ h=>by cases h) hR hF h;replace s:=s.trans s1;clear s1 hR hF
  revert h hF1 hR1 s
  generalize l1=l,H1=H,g1=g;intro hR hF h s
  have guarded:∀{rest:List Oper},Gs nt o.dst=true→rest=ops.toList.drop (i+1)→
   GN (H5 P nt rd) ops o 4 l (fun G l' wr=>Zx (H5 P nt rd) T A G o l' H fun s H'=>Mf (H5 P nt rd) T nt A Z ops rest (Dj o.dst (wr s) l') H' K) (fun l'=>Mf (H5 P nt rd) T nt A Z ops rest (Dj o.dst (.v (.tup [])) l') H K)→
   if Region.wanted o (yielded ops a.tmps)then o.wpIn (Fw r) 0 P a w (wpOpsIn (Fw r) 0 P ops Q (List.range' (i+1) m)) Q else(∀f,o.about P w a.eval=some f→(Fw r).fn f)∧wpOpsIn (Fw r) 0 P ops Q (List.range' (i+1) m) (a.put o.dst undef) w:=by
   intro rest hd hrest h;subst hrest;obtain⟨l',e,h⟩:=Ek (df:=df) 4 l h
   have ef:I0 ⟨l',df⟩=I0 ⟨l,df⟩:=by simp_all[I0]
   have hF':FR nt g w a (I0 ⟨l',df⟩):=ef▸hF
   rcases h with⟨hgv,G,wr,hG,hwr,h⟩|⟨hgv,h⟩
   ·have hw:Region.wanted o (yielded ops a.tmps)=true:=W9 hF.s hgv;rw[A1 hw];refine Re (A:=A) hR hF' hd (MW (df:=df) hT hG h) fun g' w' a' v H' s' hR' hF2 ⟨sl,hv,hK⟩=>?_;subst hv
    rw[←hwr sl,←N6]at hF2
    exact ih m (by omega) (i+1) _ _ (by omega) hK g' w' a' (s.trans s') hR' hF2
   have hw:Region.wanted o (yielded ops a.tmps)=false:=W9 hF.s hgv;rw[A3 (by rw[hw];simp)];refine⟨fun _ _=>trivial,?_⟩;have hput:FR nt g w (a.put o.dst undef) ((I0 ⟨l',df⟩).put o.dst (.tup [])):=hF'.put (EH hd) (VR.und _ _)
   rcases h with h|⟨G,d,want,ht,hb,h⟩
   ·refine ih m (by omega) (i+1) _ _ (by omega) h g w _ s hR ?_;rw[N6];exact hput
   obtain⟨sl,h⟩:=RY hT ht h;refine ih m (by omega) (i+1) _ _ (by omega) h g w _ s hR ?_;rw[N6]
   simp_all[Ya]
  split at h
  ·rename_i hrest;refine guarded hd hrest.symm ?_
   have e:(fun(G:List (Nat×Bool)) (l':Fl) (wr:Sl→Sl)=>Zx (H5 P nt rd) T A G o l' H fun s H'=>Mf (H5 P nt rd) T nt A Z ops [] (Dj o.dst (wr s) l') H' K)=fun G l' wr=>Zx (H5 P nt rd) T A G o l' H fun s H'=>K (Dj o.dst (wr s) l') H':=by
    funext G l' wr
    have:(fun s H'=>Mf (H5 P nt rd) T nt A Z ops [] (Dj o.dst (wr s) l') H' K)=fun s H'=>K (Dj o.dst (wr s) l') H':=by
     funext s H';unfold Mf;rfl
    rw[this]
   have e2:(fun l'=>Mf (H5 P nt rd) T nt A Z ops [] (Dj o.dst (.v (.tup [])) l') H K)=fun l'=>K (Dj o.dst (.v (.tup [])) l') H:=by
    funext l';unfold Mf;rfl
   rw[e,e2];exact h
  rename_i o2 rest' hrest
  split at h
  ·rename_i d t t2 x hp;obtain⟨p1,p2,p3,p4,p5,p6,p7⟩:=Wn hp
   have hw:∀y,Region.wanted o y=true:=fun y=>by simp[Region.wanted,p3]
   rw[A1 (hw _)]
   split at h
   ·rename_i cs hcs
    unfold At7 at hcs
    split at hcs
    ·rename_i I I2 hI hI2
     split at hcs
     ·rename_i z hz
      have ez:=(G8 hT hI).ze;rw[hz]at ez;simp only[BO]at ez
      split at hcs
      ·rename_i hc;obtain⟨c1,c2,c3,c4⟩:=hc;cases hcs
       have hlen:i+1<ops.toList.length:=by
        grind
       have hlen':i+1<ops.size:=by omega
       have hdrop2:=Aj hlen
       rw[hrest,JI]at hdrop2
       have ho2:ops[i+1]=o2:=by simp_all
       have hr2:rest'=ops.toList.drop (i+2):=by simp_all
       rw[hr2]at h
       obtain⟨m',rfl⟩:∃m',m=m'+1:=⟨m-1,by omega⟩
       refine Re (A:=A) (K:=fun v H'=>∃id,v= .ref id 0∧H id=none∧H'=upd H id (some (.cells z.cells))) hR hF hd (by
        simp only[Hi,p1]
        exact .inl ⟨z,ez,c1,fun id hid=>⟨_,.refl _,id,rfl,hid,rfl⟩⟩) fun g1 w1 a1 v H1 s1 hR1 hF1 hK1=>?_
       obtain⟨id,rfl,hid,rfl⟩:=hK1;simp only[Jy,wpOpsIn,Ak hlen',ho2];rw[A1 (by simp[Region.wanted,p6])]
       have hev:ev ((I0 ⟨l,df⟩).put o.dst (.ref id 0)) x=(R0 [] l x).V:=by
        rw[DH (df:=df) Jd.nil,p2]
        cases x with
        |tmp t=>
         have:t≠d:=fun e=>p7 (by rw[e])
         grind[ev,Fr.put]
        |const _=>rfl
        |global _=>rfl
        |func _=>rfl
       have hev2:ev ((I0 ⟨l,df⟩).put o.dst (.ref id 0)) (.tmp d)= .ref id 0:=by rw[p2];simp[ev,Fr.put]
       refine Re (A:=A) (K:=fun v H'=>H'=upd (upd H id (some (.cells z.cells))) id (some (.cells (T5 z.cells 0 (R0 [] l x).V.cells)))) hR1 hF1 (by rw[p5];rfl) (by
        simp only[Hi,p4];refine .inl ⟨_,_,.refl _,?_,rfl⟩;simp only[LA,(G8 hT hI2).sz,hev,hev2,D6]
        rw[A1 ⟨c2,c3,by omega⟩]) fun g2 w2 a2 v2 H2 s2 hR2 hF2 hK2=>?_
       subst hK2;obtain⟨g3,s3,hR3,hv3⟩:=hR2.freeze (D6 _ _ _)
       rw[Z1,Tx _ _ _ hid]at hR3
       refine ih m' (by omega) (i+2) _ H (by omega) h g3 w2 a2 (((s.trans s1).trans s2).trans s3) hR3 ?_
       rw[p5,p2]at hF2
       have hF3:=hF2.mono s3;have e1:=N6 (df:=df) l (some d) (.v (.eref (T5 z.cells 0 (R0 [] l x).V.cells) 0))
       rw[show Dj (some d) (.v (.eref (T5 z.cells 0 (R0 [] l x).V.cells) 0)) l=(d,.v (.eref (T5 z.cells 0 (R0 [] l x).V.cells) 0))::l from rfl]at e1
       rw[e1];refine⟨hF3.size,fun q=>?_,hF3.df⟩;have hq:=hF2.s q;have hq3:=hF3.s q
       simp only[Fr.put]at hq hq3 ⊢
       split
       ·rename_i e;rw[A1 e]at hq;exact hv3 _ _ hq
       simp_all
      cases hcs
     cases hcs
    cases hcs
   grind
  simp_all
end
end Go.Ab
namespace Go.Ab
open Go.RowKit
variable [L6]
def Oj (c:Array Value)(A sz:Nat)(f:Nat→Value):Array Value:=(c.toList.take A++(List.range sz).map f++c.toList.drop (A+sz)).toArray
def PR {c:Array Value}{A sz:Nat}{f:Nat→Value}(h:A+sz≤c.size):(Oj c A sz f).size=c.size:=by simp[Oj];omega
def Ap0 {c:Array Value} {A sz:Nat} {f f':Nat→Value} (h:A+sz≤c.size):Oj (Oj c A sz f) A sz f'=Oj c A sz f':=by
 have e1:(Oj c A sz f).toList.take A=c.toList.take A:=by
  simp only[Oj,F6];rw[Iv (by simp;omega),List.take_take];simp
 have e2:(Oj c A sz f).toList.drop (A+sz)=c.toList.drop (A+sz):=by
  simp only[Oj];rw[List.drop_append_of_le_length (by simp;omega)];rw[NM (by simp;omega)];simp
 unfold Oj at e1 e2 ⊢
 rw[e1,e2]
def Xx {c:Array Value}{A sz:Nat}{f:Nat→Value}(h:A+sz≤c.size){k:Nat}(hk:k<c.size):(Oj c A sz f)[k]? =if A≤k∧k<A+sz then some (f (k-A))else c[k]? :=by
 have:=(Xv (vs:=(List.range sz).map f) (m:=sz) (A:=A) (c:=c) (by simp) h rfl).2 k hk;rw[show Oj c A sz f=(c.toList.take A++(List.range sz).map f++c.toList.drop (A+sz)).toArray from rfl,this]
 split
 ·rename_i hc;rw[V8,FM (by omega)];rfl
 rfl
def QP (w:World)(b:Nat)(c c':Array Value):(w.setRow b c).setRow b c'=w.setRow b c':=by
 simp only[World.setRow,Jo,J6];apply Fz
 ·simp
 intro i h1 h2;simp only[JH]
 split
 ·cases w.heap[i]'(by simpa using h1)<;>rfl
 rfl
def TQ (w:World){b b':Nat}(c c':Array Value)(h:b≠b'):(w.setRow b c).setRow b' c'=(w.setRow b' c').setRow b c:=by
 simp only[World.setRow,Jo,J6];apply Fz
 ·simp
 intro i h1 h2;simp only[JH]
 by_cases e1:b=i<;>by_cases e2:b'=i
 ·omega
 ·simp[e1,e2]
 ·simp[e1,e2]
 simp[e1,e2]
def Tf (w:World)(C C':Array Value)(e:TypeId):(w.alloc (.cells C e)).setRow w.heap.size C'=w.alloc (.cells C' e):=by
 simp only[World.alloc,World.setRow,Jo,J6];apply Fz
 ·simp
 intro i h1 h2;simp only[JH,Array.getElem_push]
 have:i<w.heap.size+1:=by simpa using h2
 by_cases e:w.heap.size=i
 ·subst e;simp
 rw[A3 e]
 have:i<w.heap.size:=by omega
 simp[this]
section
variable {P:Program}{H:A4}
def JV {w:World} {b A sz:Nat} {c:Array Value} {T:TypeId} {f:Nat→Value} (hw:w.heap[b]? =some (.cells c T (0,0))) (h:A+sz≤c.size) (hf:∀j,j<sz→(f j).oneCell'=true):
 (storeCells ⟨b,A,none⟩ ((List.range sz).map f)).run P w= .ok () (w.setRow b (Oj c A sz f)):=by
 have:=run_storeCells_at P b A T ((List.range sz).map f) 0 c w hw (by simp;omega) (by
  intro v hv;obtain⟨k,hk,rfl⟩:=List.mem_map.1 hv
  exact hf k (List.mem_range.1 hk))
 simpa[Oj]using this
def WG {g:Gh} {w:World} (hR:Rl g H w) {sT yT e ty:TypeId} {sz by_:Nat} {z:V} {xs:List V} {tl:D2} {vs:Value} (hvs:VR g w vs (.sl xs tl)) (he:EO P sT=some e) (hyT:(EO P yT).isSome=true) (hsz:Eh P e=some sz) (hpos:0<sz) (hby:Ny P e=some by_) (hbp:0<by_)
 (hz:HA P e=some z) (hz1:z.one=true) (hzl:z.cells.length=sz) (hA:EN H tl) (hax:xs.all (fun x=>x.cells.length==sz)=true) (hbound:(xs.length+1)*by_≤140737488355328):
 ∃ (b off G:Nat) (W:(Nat→Value)→World) (C:(Nat→Value)→Array Value) (T:TypeId),
  (∀(y0:V) (tl':D2) (vy:Value),VR g w vy (.sl [y0] tl')→y0.cells.length=sz→∃f0,(∀j,j<sz→(f0 j).oneCell'=true)∧(Builtin.append_ #[sT,yT] ty #[vs,vy]).run P w= .ok (.slice (some ⟨b,off,none⟩) (xs.length+1) G) (W f0))∧
  xs.length+1≤G∧
  (∀f,(W f).heap[b]? =some (.cells (C f) T (0,0))∧off+xs.length*sz+sz≤(C f).size)∧
  (∀f f',(W f).setRow b (Oj (C f) (off+xs.length*sz) sz f')=W f')∧
  (∀x,x≠b→x<w.heap.size→∀f,(W f).heap[x]? =w.heap[x]?)∧
  (∀id x,g.at (G0 H tl) id=some x→x≠b)∧
  (∀(vV:V) (f:Nat→Value),vV.cells.length=sz→(∀j,j<sz→(f j).oneCell'=true∧VR g w (f j) (vV.cells.getD j .bad))→
   ∃g' t,U3 g w g' (W f)∧G0 H tl t=none∧Rl g' (upd (G0 H tl) t (some .spare)) (W f)∧VR g' (W f) (.slice (some ⟨b,off,none⟩) (xs.length+1) G) (.sl (xs++[vV]) (.tok t))):=by
 obtain⟨base,cap,fs,es,hcap,hfs,hrs,hbs⟩:=DW (P:=P) hvs hax;have hu:=P0 he;obtain⟨e',hyT'⟩:=Option.isSome_iff_exists.1 hyT;have huy:=P0 hyT';obtain⟨zv,ez,hzv⟩:=CS hz
 have hzr:VR g w zv z:=by rw[ez];exact DJ g w zv
 have hzs:zv.cells.size=sz:=by rw[(hzr.cells hz1).1,hzl]
 have hbytes:∀w,(typeInfo e).run P w= .ok ((P.info? e).getD default) w∧((P.info? e).getD default).bytes=by_:=by
  intro w
  unfold Ny at hby
  cases hi:P.info? e with
  |none=>simp[hi]at hby
  |some i=>simp[hi]at hby;simp[typeInfo,hi,hby]
 have hbi:∀w,(typeInfo e).run P w= .ok ((P.info? e).getD default) w:=fun w=>(hbytes w).1;have hbb:=(hbytes w).2;have hR1:Rl g (G0 H tl) w:=hR.less fun id b hb=>EI hb;have hlenx:=FV hax
 have hlenxy:∀(vV:V),vV.cells.length=sz→∀i,i<xs.length+1→((xs++[vV]).getD i .bad).cells.length=sz:=fun vV hv i hi=>by
  rw[FW];split
  ·exact hlenx i (by assumption)
  rw[show i-xs.length=0 by omega];exact hv
 have hsrc:∀(y0:V) (tl':D2) (vy:Value),VR g w vy (.sl [y0] tl')→y0.cells.length=sz→∃ybase ycap f0,vy= .slice ybase 1 ycap∧(∀j,j<sz→(f0 j).oneCell'=true)∧
  ∀w':World,(∀b o,w'.cell? ⟨b,o,none⟩=w.cell? ⟨b,o,none⟩)→(Builtin.firstCells sz 1 vy).run P w'= .ok ((List.range sz).map f0).toArray w':=fun y0 tl' vy hvy hy0=>by
  obtain⟨ybase,ycap,fy,ey,_,hfy,hry,_⟩:=DW (P:=P) (sz:=sz) hvy (by simp[hy0]);refine⟨ybase,ycap,fun j=>fy 0 j,ey,fun j hj=>(hfy 0 j (by simp) hj).1,fun w' hw'=>?_⟩;have:=hry w' hw'
  simp only[GJ,AA]at this
  rw[this];refine Q0 (fun l:List Value=>Result.ok l.toArray w') (Cp fun k hk=>?_);have hk':=List.mem_range.1 hk;rw[Jx hk',Nat.mod_eq_of_lt hk']
 have hvals:∀(vV:V) (f:Nat→Value),(∀j,j<sz→(f j).oneCell'=true∧VR g w (f j) (vV.cells.getD j .bad))→∀(g':Gh) (w':World),U3 g w g' w'→∀i j,i<xs.length+1→j<sz→(if i<xs.length then fs i j else f j).oneCell'=true∧
  VR g' w' (if i<xs.length then fs i j else f j) (((xs++[vV]).getD i .bad).cells.getD j .bad):=by
  intro vV f hf g' w' st i j hi hj;rw[FW]
  split
  ·rename_i hlt;exact⟨(hfs i j hlt hj).1,(hfs i j hlt hj).2.mono st⟩
  rw[show i-xs.length=0 by omega];exact⟨(hf j hj).1,(hf j hj).2.mono st⟩
 have hn63:¬(IntKind.i64.max<((xs.length+1:Nat):Int)∧(False∨by_=0)):=by
  rintro⟨_,hF|hF⟩
  ·exact hF
  omega
 by_cases hc:xs.length+1≤cap
 ·
  rcases hbs with⟨hx0,hc0|hc0,_⟩|⟨b,q,hbase,hcell,_,sz',hsz',htl⟩
  ·subst hx0;simp at hc;omega
  ·subst hc0;exact hA.elim
  cases tl with
  |nil=>exact htl.elim
  |ro=>exact hA.elim
  |full=>simp only[Gm]at htl;omega
  | tok t=>
   obtain⟨hn0,lim,ht1,ht2⟩:=htl;have:=hsz' hn0;subst this;have hA':H t=some .spare:=hA;obtain⟨b2,e2,lim2,c,T,k1,k2,k3,k4,k5,k6⟩:=hR.blk t _ hA'
   rw[ht1]at k1
   simp only[E8,AJ]at k1
   obtain⟨rfl,rfl,rfl⟩:=k1;have hcapsz:(xs.length+1)*sz'≤cap*sz':=J7 _ hc
   have hadd:(xs.length+1)*sz'=xs.length*sz'+sz':=by rw[G5,AA]
   have hfit:q+xs.length*sz'+sz'≤c.size:=by omega
   have hnown:∀id x,g.at (G0 H (.tok t)) id=some x→x≠b:=by
    rintro id x hid rfl
    have hat:g.at H t=some x:=by simp[Gh.at,hA',ht1]
    by_cases hid':id=t
    ·subst hid';simp[Gh.at,G0,D6]at hid
    have:g.at H id=some x:=by simpa only[Gh.at,G0,C3 _ _ hid']using hid
    exact hid' (hR.inj _ _ _ this hat)
   refine⟨b,q,cap,fun f=>w.setRow b (Oj c (q+xs.length*sz') sz' f),fun f=>Oj c (q+xs.length*sz') sz' f,T,fun y0 tl' vy hvy hy0=>?_,hc,fun f=>?_,fun f f'=>?_,fun x hx _ f=>P1 w b _ x hx,hnown,fun vV f hv hf=>?_⟩
   ·obtain⟨ybase,ycap,f0,ey,hf0,hry⟩:=hsrc y0 tl' vy hvy hy0;refine⟨f0,hf0,?_⟩;have hst:=JV (P:=P) (f:=f0) k3 hfit hf0;have hry':=hry w fun _ _=>rfl
    rw[ey]at hry' ⊢
    rw[es,hbase]
    simp only[Builtin.append_,B9,run_underlying hu,B7,O4 hsz,run_underlying huy,C4,Builtin.lenOf,V0,Q1,
     AN,Ai,E2,D7,V4,D1,A1 hc,hry',Y9,hst]
   ·exact⟨setRow_heap w b c _ T (0,0) k3,by rw[PR hfit];exact hfit⟩
   ·rw[QP,Ap0 hfit]
   dsimp only
   have hCg:∀k,k<c.size→(Oj c (q+xs.length*sz') sz' f)[k]? =if q+xs.length*sz'≤k∧k<q+xs.length*sz'+sz' then some (f (k-(q+xs.length*sz')))else c[k]? :=fun k hk=>Xx hfit hk
   generalize hC:Oj c (q+xs.length*sz') sz' f=C at hCg
   have hCs:C.size=c.size:=by rw[←hC];exact PR hfit
   have hcellp:∀x o,g.fz x o→(w.setRow b C).cell? ⟨x,o,none⟩=w.cell? ⟨x,o,none⟩:=by
    intro x o hf
    by_cases hx:x=b
    ·subst hx
     have ho:o<q+xs.length*sz':=by
      rcases G6 o (q+xs.length*sz')with h|h
      ·exact h
      exact absurd hf (k6 o h)
     have hw':(w.setRow x C).heap[x]? =some (.cells C T (0,0)):=setRow_heap w x c C T (0,0) k3;simp only[World.cell?,hw',k3,EQ,E2,D7];rw[hCg o (by omega),A3 (by omega)]
    exact Ce w b C x o hx
   have hbel:Below g.base w (w.setRow b C):=GC w b C k2
   have hRn:=Rl.tok (e0:=q+xs.length*sz') (e:=q+(xs.length+1)*sz') (lim:=c.size) hR1 k2 (setRow_heap w b c C T (0,0) k3) hCs (by omega) k6 (by omega) hcellp hbel
    (fun x hx _=>P1 w b C x hx) (fun id hid=>hnown id _ hid rfl)
   have hStp:=U3.tok hR1 b (q+xs.length*sz') (q+(xs.length+1)*sz') c.size hcellp hbel;refine⟨_,g.nx,hStp,(hR1.nxt _ (D3 _)).2.2,hRn,?_⟩
   refine .sl (sz:=sz') (fun i j=>if i<xs.length then fs i j else f j) (by simp) hc (fun i hi=>hlenxy vV hv i hi) (fun i j hi hj=>?_) (fun i j hi hj=>?_)
    (fun i j hi hj=>(hvals vV f hf _ _ hStp i j hi hj).1) (fun i j hi hj=>(hvals vV f hf _ _ hStp i j hi hj).2) ?_
   ·by_cases hix:i<xs.length
    ·exact .inl (hcell i j hix hj).1
    have h2:=Dm hi hj;have h1:xs.length*sz'≤i*sz':=J7 _ (by omega);exact .inr ⟨rfl,by omega,by omega⟩
   ·have h2:=Dm hi hj;have hw':(w.setRow b C).heap[b]? =some (.cells C T (0,0)):=setRow_heap w b c C T (0,0) k3
    by_cases hix:i<xs.length
    ·rw[A1 hix];exact(hcellp b _ (hcell i j hix hj).1).trans (hcell i j hix hj).2
    rw[A3 hix]
    have h1:i=xs.length:=by omega
    subst h1;simp only[World.cell?,hw',EQ,E2,D7];rw[hCg _ (by omega),A1 (by omega),show q+xs.length*sz'+j-(q+xs.length*sz')=j by omega]
   refine⟨by omega,c.size,?_,by omega⟩;simp[Gh.tok]
 have hnf:¬(2 ^ 48<Builtin.nextslicecap (xs.length+1) cap*by_):=by
  have:=growslice_fits (Hr hc) hbound;omega
 have hdr:∀b o,w.drew.cell? ⟨b,o,none⟩=w.cell? ⟨b,o,none⟩:=fun _ _=>rfl;generalize hG:grownCap w (xs.length+1) cap e=G
 have hGe:xs.length+1≤G:=by rw[←hG];exact grownCap_ge w _ _ _
 have hGs:(xs.length+1)*sz≤G*sz:=J7 _ hGe
 have hadd:(xs.length+1)*sz=xs.length*sz+sz:=by rw[G5,AA]
 generalize hO:((List.range (xs.length*sz)).map fun k=>fs (k / sz) (k % sz))=O at *
 have hOl:O.length=xs.length*sz:=by rw[←hO];simp
 generalize hZ:Builtin.zeroCells zv.cells (G-(xs.length+1))=Z at *
 have hZs:Z.size=G*sz-(xs.length+1)*sz:=by rw[←hZ,size_zeroCells,hzs,Bl]
 have hCs:∀f:Nat→Value,(O.toArray++((List.range sz).map f).toArray++Z).size=G*sz:=fun f=>by
  simp only[JD,FK,N2,Ah,hOl,hZs];omega
 have hCg:∀(f:Nat→Value) k,k<(xs.length+1)*sz→(O.toArray++((List.range sz).map f).toArray++Z)[k]? =some (if k<xs.length*sz then fs (k / sz) (k % sz)else f (k-xs.length*sz)):=by
  intro f k hk;rw[GI,A1 (by simp[hOl];omega),GI];simp only[FK,hOl,Q1,V8]
  split
  ·rw[←hO,V8,FM (by assumption)];rfl
  rw[FM (by omega)];rfl
 refine⟨w.heap.size,0,G,fun f=>w.drew.alloc (.cells (O.toArray++((List.range sz).map f).toArray++Z) e),fun f=>O.toArray++((List.range sz).map f).toArray++Z,e,fun y0 tl' vy hvy hy0=>?_,hGe,fun f=>⟨AE (w:=w.drew),by rw[hCs];omega⟩,fun f f'=>?_,
  fun x hx hlt f=>heap_alloc (w:=w.drew) hlt,fun id x hid e=>absurd (e▸hR1.lt hid) (R5 _),fun vV f hv hf=>?_⟩
 ·obtain⟨ybase,ycap,f0,ey,hf0,hry⟩:=hsrc y0 tl' vy hvy hy0;refine⟨f0,hf0,?_⟩;have hGd:(Question.appendCap (xs.length+1) cap e).cut (w.tape w.drawn (.appendCap (xs.length+1) cap e))=G:=hG;have hf:(Question.appendCap (xs.length+1) cap e).forced=false:=rfl;have hrs':=hrs w.drew hdr;have hry':=hry w.drew hdr
  rw[es]at hrs' ⊢;rw[ey]at hry' ⊢
  simp only[Builtin.append_,B9,run_underlying hu,B7,O4 hsz,run_underlying huy,C4,Builtin.lenOf,V0,hbi,hbb,Q1,
   AN,Ai,E2,D7,V4,D1,gt_iff_lt,false_or,A3 hc,A3 hnf,run_choose,hf,hGd,Hl,run_askRoom,hrs',hry',hzv,newRow,run_newObj,
   DN,Hp,hO,hZ]
  rw[A3 (by simpa using hn63)]
 ·rw[show w.heap.size=w.drew.heap.size from rfl,Tf]
  congr 2
  apply Array.ext';simp only[Oj,V1,Array.toList_append,List.toList_toArray,F6];rw[Iv (by omega),P2 (by omega),show xs.length*sz+sz=O.length+sz by omega,←FE,List.drop_left]
  congr 1
  congr 1
  exact List.drop_left' (by simp)
 have hcellp:∀x o,g.fz x o→(w.drew.alloc (.cells (O.toArray++((List.range sz).map f).toArray++Z) e)).cell? ⟨x,o,none⟩=w.cell? ⟨x,o,none⟩:=fun x o hf=>CM (w:=w.drew) (hR.fz_lt hf);have hbel:Below g.base w (w.drew.alloc (.cells (O.toArray++((List.range sz).map f).toArray++Z) e)):=(U8 _ _).drew.alloc hR.bnd _
 have hnown:∀id,g.at (G0 H tl) id≠some w.heap.size:=fun id hid=>absurd (hR1.lt hid) (R5 _)
 have hRn:=Rl.tok (e0:=0) (e:=(xs.length+1)*sz) (lim:=G*sz) hR1 hR.bnd (AE (w:=w.drew) (o:=.cells (O.toArray++((List.range sz).map f).toArray++Z) e)) (hCs f) hGs (fun o _ hf=>absurd (hR.fz_lt hf) (R5 _)) (Cv _) hcellp hbel
  (fun x hx hlt=>heap_alloc (w:=w.drew) hlt) hnown
 have hStp:=U3.tok hR1 w.heap.size 0 ((xs.length+1)*sz) (G*sz) hcellp hbel;refine⟨_,g.nx,hStp,(hR1.nxt _ (D3 _)).2.2,hRn,?_⟩
 refine .sl (sz:=sz) (fun i j=>if i<xs.length then fs i j else f j) (by simp) hGe (fun i hi=>hlenxy vV hv i hi) (fun i j hi hj=>.inr ⟨rfl,Cv _,by have:=Dm hi hj;omega⟩) (fun i j hi hj=>?_)
  (fun i j hi hj=>(hvals vV f hf _ _ hStp i j hi hj).1) (fun i j hi hj=>(hvals vV f hf _ _ hStp i j hi hj).2) ?_
 ·have h2:=Dm hi hj;rw[show(⟨w.heap.size,0+i*sz+j,none⟩:Addr)=⟨w.drew.heap.size,i*sz+j,none⟩ by simp];rw[MO (w:=w.drew),hCg f _ h2]
  congr 1
  by_cases hix:i<xs.length
  ·have h3:=Dm hix hj;rw[A1 h3,A1 hix,(Q3 hj).1,(Q3 hj).2]
  have h1:i=xs.length:=by omega
  subst h1;rw[A3 (by omega),A3 hix,show xs.length*sz+j-xs.length*sz=j by omega]
 refine⟨by omega,G*sz,?_,by simp⟩;simp[Gh.tok]
end
end Go.Ab
namespace Go.Ab
open Go.RowKit
variable [L6][Ar]
section
variable {P:Program}{nt:Nat}{ops:Array Oper}{H0:A4}
def Im (A:Nat→Bool):List Nat→Pv→Fr→A4→(Fr→A4→Prop)→Prop
 |[],_,fr,H,K=>K fr H
 |d::ds,pv,fr,H,K=>
  match pv (.inl d)with
  |some cs=>if A d then∀id,H id=none→Im A ds pv (fr.put (some d) (.ref id 0)) (upd H id (some (.cells cs))) K else Im A ds pv (fr.put (some d) (.eref cs 0)) H K
  |none=>False
def PL {A:Nat→Bool} {w:World} {a:Act} {ids:Pk→Nat} {pv:Pv} {K:Fr→A4→Prop} (hinj:∀d d' cs cs',pv d=some cs→pv d'=some cs'→d.var=true→d'.var=true→ids d=ids d'→d=d'):
 ∀(ds:List Nat) (fr:Fr) (g:Gh) (H H1:A4),Rl g H w→ds.Nodup→(∀d∈ds,∀cs,pv (.inl d)=some cs→H (ids (.inl d))=some (.cells cs)∧∃b,g.mu (ids (.inl d))=some b∧a.tmps.getD d undef= .pointer (some ⟨b,0,none⟩))→
  (∀id b,H1 id=some b→H id=some b)→(∀d∈ds,∀cs,pv (.inl d)=some cs→H1 (ids (.inl d))=none)→FR nt g w a fr→Im A ds pv fr H1 K→∃g' fr' H',U3 g w g' w∧Rl g' H' w∧FR nt g' w a fr'∧K fr' H'
 |[],fr,g,H,H1,hR,_,_,hl,_,hF,h=>⟨g,fr,H1,U3.refl _ _,hR.less hl,hF,h⟩
 | d::ds,fr,g,H,H1,hR,hnd,hpv,hl,hfr,hF,h=>by
  simp only[Im]at h
  have hnd':=List.nodup_cons.1 hnd
  split at h
  ·rename_i cs hcs;obtain⟨k1,b,k2,k3⟩:=hpv d (by simp) cs hcs
   split at h
   ·refine PL hinj ds _ g H _ hR hnd'.2 (fun d' hd'=>hpv d' (by simp[hd'])) (fun id bk hb=>?_) (fun d' hd' cs' hp=>?_) ?_ (h (ids (.inl d)) (hfr d (by simp) cs hcs))
    ·grind[upd]
    ·grind[upd,Pk.var]
    refine⟨hF.size,fun t=>?_,hF.df⟩;simp only[Fr.put]
    split
    ·rename_i e;subst e;rw[k3];exact .ref k2
    exact hF.s t
   obtain⟨g',s,hR',hv⟩:=hR.freeze k1;have hF':=hF.mono s
   have e1:∀d'∈ds,∀cs',pv (.inl d')=some cs'→(upd H (ids (.inl d)) none) (ids (.inl d'))=some (.cells cs')∧∃b,g'.mu (ids (.inl d'))=some b∧a.tmps.getD d' undef= .pointer (some ⟨b,0,none⟩):=fun d' hd' cs' hp=>by
    obtain⟨q1,b',q2,q3⟩:=hpv d' (by simp[hd']) cs' hp;have hne:ids (.inl d')≠ids (.inl d):=fun e=>absurd (hinj _ _ _ _ hp hcs rfl rfl e) fun x=>hnd'.1 (by simp_all);exact⟨by rw[C3 _ _ hne];exact q1,b',s.mu _ _ q2,q3⟩
   have e2:∀id bk,H1 id=some bk→(upd H (ids (.inl d)) none) id=some bk:=fun id bk hb=>by
    have hne:id≠ids (.inl d):=fun e=>by simp_all
    rw[C3 _ _ hne];grind
   have e3:FR nt g' w a (fr.put (some d) (.eref cs 0)):=by
    refine⟨hF'.size,fun t=>?_,hF'.df⟩;simp only[Fr.put]
    split
    ·rename_i e;subst e;rw[k3];exact hv _ _ (.ref k2)
    exact hF'.s t
   obtain⟨g2,fr2,H2,s2,r⟩:=PL hinj ds _ g' _ H1 hR' hnd'.2 e1 e2 (fun d' hd'=>hfr d' (by simp[hd'])) e3 h;exact⟨g2,fr2,H2,s.trans s2,r⟩
  grind
abbrev Tk:=List (Nat×List V)
def pvW (W:Tk)(ex:Option D2):Pv
 | .inl _=>none
 | .inr id=>(W.find? fun p=>p.1==id).map (·.2)
 | .tk _=>none
 | .ex=>ex.map fun τ=>[.sl [] τ]
def Ia (H:A4):Option D2→A4
 |some τ=>G0 H τ
 |none=>H
def IG (dx:Option Nat)(pv:Pv)(fr:Fr)(H:A4)(K:Fr→A4→Prop):Prop:=
 match dx with
 |none=>K fr H
 |some d=>∃xs,(pv (.tk d)).isSome=true∧fr.s d= .sl xs .ro∧(∀tl,tl= .nil∨tl= .full→K (fr.put (some d) (.sl xs tl)) H)∧∀t,H t=none→K (fr.put (some d) (.sl xs (.tok t))) (upd H t (some .spare))
theorem LV {H:A4} {ex:Option D2} {id:Nat} {b:Dh} (h:Ia H ex id=some b):H id=some b∧∀t,ex=some (.tok t)→id≠t:=by
 cases ex with
 |none=>simp_all[Ia]
 | some τ=>
  cases τ with
  |tok t=>
   simp_all[Ia,G0,upd]
  |_=>exact⟨h,fun t ht=>by cases ht⟩
def Fm (H:A4):Tk→A4
 |[]=>H
 |(id,_)::W=>upd (Fm H W) id none
def RC:Tk→Pv→A4→(A4→Prop)→Prop
 |[],_,H,K=>K H
 |(id,_)::W,pv,H,K=>RC W pv H fun H'=>match pv (.inr id)with|some cs=>K (upd H' id (some (.cells cs)))|none=>False
theorem JQ {H:A4}:∀{W:Tk} {id:Nat} {b:Dh},Fm H W id=some b→H id=some b∧∀p∈W,p.1≠id
 |[],id,b,h=>⟨h,fun p hp=>by simp at hp⟩
 |(i,c)::W,id,b,h=>by
  simp only[Fm]at h
  by_cases e:id=i
  ·simp_all[upd]
  rw[C3 _ _ e]at h
  obtain⟨h1,h2⟩:=JQ h
  grind
def Mj {H:A4}:∀{W:Tk} {p:Nat×List V},p∈W→Fm H W p.1=none
 |(i,c)::W,p,h=>by
  simp only[Fm]
  by_cases e:p.1=i
  ·rw[e,D6]
  rw[C3 _ _ e]
  rcases List.mem_cons.1 h with rfl|h
  ·omega
  exact Mj h
def UL {Hw:A4} {pv:Pv} (hpv:∀id cs,pv (.inr id)=some cs→Hw id=some (.cells cs)):∀(W:Tk) (H:A4) (K:A4→Prop),(∀id b,H id=some b→Hw id=some b)→RC W pv H K→∃H',(∀id b,H' id=some b→Hw id=some b)∧(∀id,H' id≠none→H id≠none∨∃cs,pv (.inr id)=some cs)∧K H'
 |[],H,K,hl,h=>⟨H,hl,fun id hn=>.inl hn,h⟩
 |(i,c)::W,H,K,hl,h=>by
  simp only[RC]at h
  obtain⟨H',h1,h2,h3⟩:=UL hpv W H _ hl h
  grind[upd]
end
def BI (P:Program)(nt:Nat)(rd:Option Nat)(ops:Array Oper)(fr:Fr)(H:A4)(Q:Exit→Fr→A4→Prop):Prop:=
 ∀r g w a,Zm g rd r→Rl g H w→FR nt g w a fr→wpAnyIn (Fw r) 0 P .any ops (QF nt g w Q) ops.size (Array.replicate ops.size false) a w.drew
def T4.of_any {P:Program}{nt id:Nat}{rd:Option Nat}{ops:Array Oper}{fr:Fr}{H:A4}{Q:Exit→Fr→A4→Prop}(hm:P.follows .mixedOrders=true)(h:BI P nt rd ops fr H Q):T4 P nt rd (.region id ops true) fr H Q:=
 fun r g w a hr hR hF=>wpIn_region_any hm (h r g w a hr hR hF)
section
variable {P:Program}{nt:Nat}{ops:Array Oper}{H0:A4}
def BI.drawF {A:QG} {rd:Option Nat} {k:Nat} {al:List Nat} {W:Tk} {ex:Option D2} {dx:Option Nat} {fr:Fr} {Q:Exit→Fr→A4→Prop} (hok:Qn ops k=true) (hnd:al.Nodup)
 (hX:∀τ,ex=some τ→EN H0 τ) (hW:∀p∈W,Ia H0 ex p.1=some (.cells p.2))
 (h:Iq P nt ops (Fm (Ia H0 ex) W) (ops.toList.take k) fr (pvW W ex) fun fr' pv=>RC W pv (Fm (Ia H0 ex) W) fun H1=>IG dx pv fr' H1 fun fr1 H2=>Im A al pv fr1 H2 fun fr'' H=>HV P A nt ops (ops.toList.drop k) fr'' H (Q .normal)):BI P nt rd ops fr H0 Q:=by
 intro r g w a _ hR hF;obtain⟨hk,hat⟩:=Ze hok;have sd:U3 g w g w.drew:=⟨fun _ _ e=>e,fun _ _ e=>e,fun _ _ e=>e,rfl,fun _ _ _=>rfl,(U8 _ _).drew,fun _ _ _=>rfl,DK _⟩
 have hRd:Rl g H0 w.drew:=by
  refine⟨fun id b hb=>(hR.blk id b hb).mono hb sd fun _ _=>⟨rfl,fun _ ho=>ho⟩,hR.inj,hR.frz,hR.nxt,hR.bnd,fun n=>(hR.glb n).mono sd⟩
 have hI:WI nt (Fm (Ia H0 ex) W) g w.drew fr (pvW W ex) g w.drew a:=by
  refine⟨H0,fun k=>match k with| .inl _=>0| .inr n=>n| .tk _=>0| .ex=>0,U3.refl _ _,hRd,hF.mono sd,fun id b hb=>(LV (JQ hb).1).1,fun d cs h hv=>?_,fun d d' cs cs' h h' hv hv' e=>?_,fun _=>none,fun d cs h=>(by cases h),fun d d' cs cs' t h=>(by cases h),fun cs h=>?_⟩
  ·cases d with
   |inl d=>cases h
   | inr n=>
    simp only[pvW]at h
    cases hf:W.find? fun p=>p.1==n with
    |none=>rw[hf]at h;cases h
    |some p=>
     rw[hf]at h
     simp only[J4,E8]at h
     have hp:=EU hf
     have hn:p.1=n:=by have:=FF hf;simp_all
     subst h;subst hn;exact⟨(LV (hW p hp)).1,Mj hp,rfl⟩
   |tk d=>cases h
   |ex=>cases hv
  ·cases d with
   |inl d=>cases h
   |tk d=>cases h
   |ex=>cases hv
   |inr n=>
    cases d' with
    |inl d'=>cases h'
    |tk d'=>cases h'
    |ex=>cases hv'
    |inr n'=>simp_all
  cases hx:ex with
  |none=>rw[hx]at h;cases h
  | some τ=>
   rw[hx]at h
   cases h;refine⟨τ,rfl,?_⟩;have hA:=hX τ hx
   cases τ with
   |nil=>simp_all
   |full=>simp_all
   |ro=>exact hA.elim
   |tok t=>
    refine .inr ⟨t,rfl,hA,?_,fun d cs' h=>by cases h⟩
    cases hn:Fm (Ia H0 (some (.tok t))) W t with
    |none=>rfl
    |some b=>grind[LV,JQ]
 have hmap:(List.range k).map (fun i=>ops.getD i default)=ops.toList.take k:=by
  apply Jw
  ·simp;omega
  intro i h1 h2
  simp at h1
  simp[Array.getD,show i<ops.size by omega]
 have hb:=Qy (r:=r) (Q:=QF nt g w Q) hk (fun i hi=>⟨(hat i hi).1,fun j hj=>((hat i hi).2 j hj).imp (fun h=>h) .inl⟩) (K:=fun fr' pv=>RC W pv (Fm (Ia H0 ex) W) fun H1=>IG dx pv fr' H1 fun fr1 H2=>Im A al pv fr1 H2 fun fr'' H=>HV P A nt ops (ops.toList.drop k) fr'' H (Q .normal)) (g0:=g) (w0:=w.drew)
  (fun g' w' a' fr' pv listed hsz hl hI' hK=>?_) k (List.range k) (Array.replicate ops.size false) fr (pvW W ex) (by simp) (NL) (fun i hi=>by grind) (by simp) (fun i b hi=>by simp_all) (fun m j hm _=>by simp[Array.getD]at hm) (by rw[hmap];exact h) g w.drew a hI
 ·rw[show k+(ops.size-k)=ops.size by omega]at hb
  exact hb
 obtain⟨H,ids,s,hR',hF',hext,hpv,hinj,tks,htk,_⟩:=hI'
 have hex:∀n cs,pv (.inr n)=some cs→H n=some (.cells cs):=fun n cs hn=>by
  obtain⟨k1,_,k3⟩:=hpv _ cs hn rfl;have k3:ids (.inr n)=n:=k3
  rwa[k3]at k1
 obtain⟨H1,g1,g2,hK⟩:=UL hex W _ _ hext hK
 have hfree:∀d cs,pv (.inl d)=some cs→H1 (ids (.inl d))=none:=fun d cs hd=>by
  obtain⟨k1,k2,_⟩:=hpv _ cs hd rfl
  cases hn:H1 (ids (.inl d))with
  |none=>rfl
  |some b=>
   exfalso
   rcases g2 _ (by rw[hn];simp)with h|⟨cs',hp⟩
   ·exact h k2
   have k3:ids (.inr (ids (.inl d)))=ids (.inl d):=(hpv _ cs' hp rfl).2.2;cases hinj _ _ _ _ hp hd rfl rfl k3
 have hmid:∃fr1 H1',FR nt g' w' a' fr1∧(∀id b,H1' id=some b→H id=some b)∧(∀d cs,pv (.inl d)=some cs→H1' (ids (.inl d))=none)∧Im A al pv fr1 H1' fun fr'' H=>HV P A nt ops (ops.toList.drop k) fr'' H (Q .normal):=by
  rcases dx with _|d
  ·exact⟨fr',H1,hF',g1,hfree,hK⟩
  simp only[IG]at hK
  obtain⟨xs,e1,e2,e3,e4⟩:=hK;obtain⟨c,hc⟩:=Option.isSome_iff_exists.1 e1;obtain⟨xs',tl,q1,q2,q3⟩:=htk d c hc
  rw[e2]at q1
  cases q1
  have hFR:FR nt g' w' a' (fr'.put (some d) (.sl xs tl)):=by
   refine⟨hF'.size,fun t=>?_,hF'.df⟩;simp only[Fr.put]
   split
   ·simp_all
   exact hF'.s t
  rcases q3 with⟨_,q⟩|⟨t,_,q,q4,q5⟩
  ·grind
  subst q
  have ht:H1 t=none:=by
   grind
  refine⟨_,_,hFR,fun id b hb=>?_,fun d' cs hd'=>?_,e4 t ht⟩
  ·grind[D6,C3]
  have hne:ids (.inl d')≠t:=fun e=>by
   have:=(hpv _ cs hd' rfl).1
   rw[e,q4]at this;cases this
  rw[C3 _ _ hne];simp_all
 obtain⟨fr1,H1',hF1,g1',hfree',hK⟩:=hmid
 obtain⟨g3,fr2,H2,s2,hR2,hF2,hK2⟩:=PL hinj al fr1 g' H H1' hR' hnd (fun d _ cs hd=>by
  obtain⟨k1,_,_,b,k4,k5⟩:=hpv _ cs hd rfl
  simp_all) g1' (fun d _ cs hd=>hfree' d cs hd) hF1 hK
 exact Pb (A:=A) (r:=r) (K:=Q .normal) (k:=k) (fun i hi=>⟨(hat i hi).1,fun j hj hkj=>((hat i hi).2 j hj).elim (fun h=>h) fun h=>absurd h.1 (by omega)⟩) (g0:=g) (w0:=w) (fun g3 w3 a3 fr3 H3 s3 hR3 hF3 hK3=>⟨g3,fr3,H3,s3,hR3,hF3,hK3⟩) (ops.size-k) k listed fr2 H2 (by omega) (by omega) hsz hl hK2 g3 w' a' ((sd.trans s).trans s2) hR2 hF2
end
end Go.Ab
