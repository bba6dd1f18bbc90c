/- . -/
import Derived.Test.YtnfefddbggfopaaGreatDoorA03
set_option linter.all false
open Go.Ab.Ar (an_eq cmp_eq nt_eq)
namespace Go.Ab
open Go.RowKit
variable [N9][Ar]
section
variable {P:Program}{nt:Nat}{rd:Option Nat}{T:GY}{l:Fl}{df:List Nat}{H:A5}
def Lj (G:List (Nat×Bool))(l:Fl):Prop:=∀j w,AE6 G j w=true→isB (CD l j) w=true
def Lj.nil:Lj [] l:=fun j w h=>by simp[AE6]at h
def Lj.add {G:List (Nat×Bool)}(h:Lj G l){d:Nat}{w:Bool}(hd:isB (CD l d) w=true):Lj ((d,w)::G) l:=by
 intro j w' hg
 simp only[AE6]at hg
 split at hg
 ·simp_all
 exact h j w' hg
theorem Mu:∀(l:Fl) (t:Nat) (s:Sl),lk l t=s→(∀j w x,s≠ .g j w x)→CD l t=s.V
 |[],t,s,h,_=>by grind[CD,Sl.V,lk]
 | (k,x)::l,t,s,h,hn=>by
  simp only[lk]at h
  simp only[CD]
  cases hb:Nat.beq t k with
  |true=>
   simp only[hb]at h
   subst h
   cases x with
   |v x=>rfl
   |b c=>rfl
   |g j w x=>simp_all
  |false=>simp only[hb]at h;exact Mu l t s h hn
def Wq:∀(l:Fl) (t j:Nat) (w:Bool) (x:V),lk l t= .g j w x→Ar9 l t j=true→CD l t=bif isB (CD l j) w then x else .tup []
 |[],_,_,_,_,_,h=>by simp[Ar9]at h
 | (k,s)::l,t,j,w,x,h,hf=>by
  simp only[Ar9]at hf
  simp only[lk]at h
  cases hj:Nat.beq k j with
  |true=>grind
  | false=>
   simp only[hj]at hf
   have hj':Nat.beq j k=false:=by
    cases e:Nat.beq j k with
    |false=>rfl
    |true=>simp_all
   have ej:CD ((k,s)::l) j=CD l j:=by simp_all[CD]
   rw[ej];simp only[CD]
   cases ht:Nat.beq t k with
   |true=>
    simp_all
   | false=>
    have ht':Nat.beq k t=false:=by
     cases e:Nat.beq k t with
     |false=>rfl
     |true=>simp_all
    simp only[ht',ht]at hf h ⊢
    exact Wq l t j w x h hf
theorem Mn {G:List (Nat×Bool)} (hG:Lj G l) {t:Nat} {s:Sl} (h:XP G l t=some s):s.V=CD l t∧∀j w x,s≠ .g j w x:=by
 unfold XP at h
 split at h
 ·rename_i j w x hl
  split at h
  ·rename_i hf;have e:=Wq l t j w x hl hf
   split at h
   ·rename_i hg;cases h;rw[e,hG j w hg];simp[Sl.V]
   split at h
   ·rename_i c hc;have ec:=Mu l j _ hc (fun _ _ _ h=>by cases h)
    rw[ec]at e
    grind[Sl.V,isB]
   cases h
  cases h
 grind[Mu]
def Ah7 {G:List (Nat×Bool)}(hG:Lj G l)(t:Nat):(AL6 G l t).V=CD l t:=by
 unfold AL6
 split
 ·grind[Mn]
 rfl
def ES {G:List (Nat×Bool)} (hG:Lj G l) (x:Operand):(U2 G l x).V=ev (I8 ⟨l,df⟩) x:=by
 cases x with
 |tmp t=>exact Ah7 hG t
 |const v=>
  cases v<;>first|rfl|skip
 |global n=>rfl
 |func f=>rfl
def Rq:∀(l:Fl) (d:Nat) (c:Bool),CD l d= .bool c→∀t,CD (PM l d c) t=CD l t
 |[],_,_,_,_=>rfl
 | (k,s)::l,d,c,h,t=>by
  simp only[PM]
  cases hd:Nat.beq d k with
  |true=>
   have e:=Cc hd
   simp_all[CD]
  |false=>
   have hl:CD l d= .bool c:=by simp_all[CD]
   have ih:=Rq l d c hl
   simp_all[CD]
theorem Qg {d:Nat}{c:Bool}(h:CD l d= .bool c):I8 ⟨PM l d c,df⟩=I8 ⟨l,df⟩:=by
 simp_all[I8,Rq]
theorem Ew {o:Option V}{k:V→Prop}(h:LQ o k):∃y,o=some y∧k y:=by
 unfold LQ at h
 grind
theorem LR (hT:Lf P T) {t:Nat} {v:V} {k:V→Prop} (h:Ag0 (I6 P nt rd) T t v H k):∃y,(IY P H t v=some y∨Nu P H t v=some y)∧k y:=by
 unfold Ag0 at h
 split at h
 ·exact h.elim
 rename_i I hI;have ok:=H7 hT hI
 split at h
 ·rename_i cs off
  split at h
  ·rename_i y hy;exact⟨y,.inl (by simp only[IY,ok.ag,ok.sz];exact hy),h⟩
  grind
 ·rename_i id off;obtain⟨cs,hk,h⟩:=h
  split at h
  ·rename_i y hy;exact⟨y,.inl (by simp only[IY,ok.ag,ok.sz,hk];exact hy),h⟩
  grind
 ·rename_i id i esz off;obtain⟨sz,xs,hk,hb,h⟩:=h
  split at h
  ·rename_i y hy;exact⟨y,.inr (by simp only[Nu,ok.ag,ok.sz,Id,hk];rw[A2 hb];exact hy),h⟩
  grind
 grind
theorem AU0 (hT:Lf P T){t f:Nat}{I:Au1}{p:Nat×Nat}(hI:tg T t=some I)(hf:I.fs[f]? =some (some p)):fdO P t f=some p:=by
 have:=Wp I.fs 0 f p (H7 hT hI).fs hf
 rwa[L8]at this
theorem JA (hT:Lf P T){t f:Nat}{v:V}{k:V→Prop}(h:Nz T t v f k):∃y,HU P t v f=some y∧k y:=by
 unfold Nz at h
 grind[Ew,HU,AU0]
theorem Ov (hT:Lf P T) {t f:Nat} {v:V} {k:V→Prop} (h:Zw T t v f k):∃y,Th P t v f=some y∧k y:=by
 unfold Zw at h
 split at h
 ·exact h.elim
 rename_i I hI
 split at h
 ·rename_i p hp
  split at h
  ·exact h.elim
  rename_i J hJ
  split at h
  ·obtain⟨y,h1,h2⟩:=Ew h;exact⟨y,by simp only[Th,AU0 hT hI hp,(H7 hT hJ).ag,(H7 hT hJ).sz];exact h1,h2⟩
  grind
 grind
def PG (hT:Lf P T) {t:Nat} {v i:V} {k:V→Prop} (h:Ny (I6 P nt rd) T t v i k):∃ki j u y,i= .int ki j∧DZ P t v j=some u∧Cp u y∧k y:=by
 unfold Ny at h
 split at h
 ·rename_i ki j
  split at h
  ·exact h.elim
  rename_i I hI;have ok:=H7 hT hI;refine⟨ki,j,?_⟩
  split at h
  ·rename_i e he
   split at h
   ·exact h.elim
   rename_i J hJ;have okJ:=H7 hT hJ
   split at h
   ·rename_i xs tl;obtain⟨hb,h⟩:=h
    split at h
    ·rename_i hsz;refine⟨_,_,rfl,?_,.refl _,h⟩;simp only[DZ,ok.sl,he,okJ.sz];rw[A2 ⟨hb,by rw[Cc hsz]⟩]
    grind
   grind
  rename_i he
  split at h
  ·rename_i n e hae
   split at h
   ·exact h.elim
   rename_i J hJ
   split at h
   ·obtain⟨⟨hb1,hb2,hb3⟩,h⟩:=h;rename_i cs off
    have hle:off+j.toNat*J.sz+J.sz≤cs.length:=by
     have h1:j.toNat+1≤n:=by omega
     have h2:=K5 J.sz h1
     rw[I1,BV]at h2
     omega
    refine⟨_,_,rfl,?_,.sub hle,h⟩;simp only[DZ,ok.sl,he,ok.ar,hae,(H7 hT hJ).sz];rw[A2 ⟨hb1,hb2⟩];rfl
   obtain⟨hb,h⟩:=h;obtain⟨y,h1,h2⟩:=Ew h;refine⟨y,y,rfl,?_,.refl _,h2⟩;simp only[DZ,ok.sl,he,ok.ar,hae,(H7 hT hJ).sz];rw[A2 hb];exact h1
  grind
 grind
def Vy (hT:Lf P T) {t:Nat} {v i:V} {k:V→Prop} (h:Zv (I6 P nt rd) T t v i k):∃ki j y,i= .int ki j∧Qe P t v j=some y∧k y:=by
 unfold Zv at h
 split at h
 ·rename_i ki j
  split at h
  ·exact h.elim
  rename_i I hI;have ok:=H7 hT hI;refine⟨ki,j,?_⟩
  split at h
  ·rename_i n e hae
   split at h
   ·exact h.elim
   rename_i J hJ
   split at h
   ·obtain⟨hb,h⟩:=h;obtain⟨y,h1,h2⟩:=Ew h;refine⟨y,rfl,?_,h2⟩;simp only[Qe,ok.ar,hae,(H7 hT hJ).ag,(H7 hT hJ).sz];rw[A2 hb];exact h1
   grind
  rename_i hae
  split at h
  ·split at h
   ·rename_i hs;obtain⟨hb,h⟩:=h;refine⟨_,rfl,?_,h⟩;rename_i str _
    have hb:0≤j∧j<(str.size:Nat):=by
     rw[an_eq,cmp_eq,cmp_eq,Ar.slen_eq]at hb
     grind[Ij]
    simp only[Qe,ok.ar,hae,ok.st];rw[A2 ⟨hs,hb.1⟩,Ar.sat_eq]
    have hlt:j.toNat<str.size:=by omega
    simp[hlt]
   grind
  grind
 grind
def Zx:∀xs ys:List V,xeq xs ys=AO xs ys
 |[],[]=>rfl
 |[],_::_=>rfl
 |x::xs,[]=>by grind[xeq,AO]
 | x::xs,y::ys=>by
  have ih:=Zx xs ys
  have hAn:(Ar.an:Bool→Bool→Bool)=fun a b=>a&&b:=by funext a b;simp[an_eq]
  unfold xeq AO;rw[ih,hAn]
  cases x<;>cases y<;>simp only[JK,cmp_eq,Ar.scmp_eq,Ar.beq_eq,Ij,AZ1]<;>first
   |rfl
   |(cases AO xs ys<;>rfl)
   |(split<;>cases AO xs ys<;>rfl)
theorem Ab8 {op:BinOp}{ki:IntKind}{a b:Int}(h:SX op=true):Mx op ki a b=some (.bool (Ar.cmp op a b)):=by
 rw[cmp_eq]
 cases op<;>simp[SX]at h<;>rfl
theorem Ar1 {op:BinOp}{ki:IntKind}{a b:Int}(h:AO2 op=true):Mx op ki a b=some (.int ki (Ar.ar op ki a b)):=by
 rw[Ar.ar_eq]
 cases op<;>simp[AO2]at h<;>rfl
theorem Ab7 {op:BinOp}{ki:IntKind}{a b:Int}(h:AD9 op=true)(hb:b≠0):Mx op ki a b=some (.int ki (Ar.ar op ki a b)):=by
 rw[Ar.ar_eq]
 cases op<;>simp[AD9]at h<;>simp[Mx,arI,hb]
def ZC {op:BinOp}{a b:ByteArray}(h:SX op=true):RW op a b=some (.bool (Ar.scmp op a b)):=by
 rw[Ar.scmp_eq]
 cases op<;>simp[SX]at h<;>rfl
def Ao1 {op:BinOp}{ki:IntKind}{a b:Int}(h:IZ op=true)(hb:0≤b):Sf op ki a b=some (.int ki (Ar.sh op ki a b)):=by
 rw[Ar.sh_eq]
 cases op<;>simp[IZ]at h<;>simp only[Sf,shI]<;>rw[A1 (by omega)]
theorem RK (hT:Lf P T) {op:BinOp} {t:Nat} {x y:V} {k:V→Prop} (h:AU9 (I6 P nt rd) T op t x y k):∃v,Rm P op t x y=some v∧k v:=by
 unfold AU9 at h
 split at h
 ·rename_i ka a kb b
  split at h
  ·rename_i hs;obtain⟨hb,h⟩:=h
   have hb:0≤b:=by rw[cmp_eq]at hb;grind[Ij]
   simp_all[Rm,Ao1]
  rename_i hs
  split at h
  ·rename_i hk
   have e:Rm P op t (.int ka a) (.int kb b)=Mx op ka a b:=by simp[Rm,hs,hk]
   split at h
   ·grind[Ab8]
   split at h
   ·grind[Ar1]
   split at h
   ·rename_i hc;obtain⟨hb,h⟩:=h
    have hb:b≠0:=by rw[cmp_eq]at hb;grind[Ij]
    grind[Ab7]
   grind
  grind
 ·rename_i a b
  split at h
  ·rename_i hc;exact⟨_,ZC hc,h⟩
  split at h
  ·obtain⟨hb,h⟩:=h
   have hb:((a.size+b.size:Nat):Int)≤9223372036854775807:=by
    rw[cmp_eq,Ar.slen_eq,Ar.cat_eq]at hb
    have e:(a++b).size=a.size+b.size:=by simp
    rw[e]at hb
    grind[Ij]
   simp_all[Rm,RW,Ar.cat_eq]
  grind
 ·rename_i a b
  split at h
  ·exact h.elim
  rename_i I hI
  split at h
  ·rename_i hbo;have hbo':=(H7 hT hI).bo hbo
   split at h
   ·simp_all[Rm,Ar.beq_eq]
   ·simp_all[Rm,Ar.beq_eq,nt_eq]
   grind
  grind
 ·rename_i xs ys
  split at h
  ·exact h.elim
  rename_i I hI;have ok:=H7 hT hI
  split at h
  ·rename_i hc;obtain⟨h1,h2,h3⟩:=hc
   have hek:GM P 9 t=some (xs.map kd):=by
    have:=ok.ek
    rw[h2]at this
    exact this
   have hcond:Zj P t=some true∧GM P 9 t=some (xs.map kd)∧ys.map kd=xs.map kd:=⟨by rw[ok.ag,h1],hek,h3⟩;cases op<;>try exact h.elim
   ·cases hx:xeq xs ys with
    |none=>simp_all
    |some b=>
     simp_all[Zx,Rm]
   cases hx:xeq xs ys with
   |none=>simp_all
   |some b=>
    simp_all[Zx,Rm,nt_eq]
  grind
 grind
theorem Ul {op:UnOp}{x:Sl}{k:Sl→Prop}(h:xun op x k):∃s:Sl,unV op x.V=some s.V∧k s:=by
 unfold xun at h
 grind[unV,Sl.V,nt_eq,Ar.neg_eq]
def WM (hT:Lf P T) {s d:Nat} {x:V} {H:A5} {k:V→Prop} (h:Av6 (I6 P nt rd) T s d x H k):∃v,(Vh P s d x=some v∨Vi P H s d x v)∧k v:=by
 unfold Av6 at h
 split at h
 ·rename_i I J hI hJ;have okI:=H7 hT hI;have okJ:=H7 hT hJ
  split at h
  ·rename_i ki kj n hi hj
   have e1:=okI.ik;rw[hi]at e1
   have e2:=okJ.ik;rw[hj]at e2
   simp_all[Co,Vh,Ar.wr_eq]
  ·rename_i b _
   split at h
   ·rename_i h1 h2;have e1:=MQ (okI.st.trans h1);have e2:=MQ (okJ.st.trans h2)
    simp_all[Vh]
   grind
  ·obtain⟨v,h1,h2⟩:=h;grind
  ·obtain⟨v,h1,h2⟩:=h;grind
  grind
 grind
theorem Ow (hT:Lf P T) {t:Nat} {parts:List (Nat×V)} {k:V→Prop} (h:Zy T t parts k):∃v,Ql P t parts=some v∧k v:=by
 unfold Zy at h
 split at h
 ·exact h.elim
 rename_i I hI;have ok:=H7 hT hI
 split at h
 ·rename_i cs hz
  have ez:=ok.ze;rw[hz]at ez;simp only[Co]at ez
  split at h
  ·rename_i n e ha
   split at h
   ·exact h.elim
   rename_i J hJ
   split at h
   ·rename_i c hc;exact⟨_,by simp only[Ql,ok.ar,ha,ez,(H7 hT hJ).sz,hc];rfl,h⟩
   grind
  rename_i ha
  split at h
  ·rename_i pl hpl
   have ep:=ok.pl;rw[hpl]at ep;simp only[Co]at ep
   split at h
   ·rename_i c hc;have hc':MD (pl[·]?) cs parts=some c:=hc;exact⟨_,by simp only[Ql,ok.ar,ha,ez,ep,hc'];rfl,h⟩
   grind
  grind
 grind
def IE (hT:Lf P T){t n:Nat}{parts:List (Nat×V)}{k:V→Prop}(h:IF T t n parts k):∃v,Bh P t n parts=some v∧k v:=by
 unfold IF at h
 split at h
 ·exact h.elim
 rename_i I hI
 split at h
 ·exact h.elim
 rename_i e he
 split at h
 ·exact h.elim
 rename_i J hJ
 split at h
 ·exact h.elim
 rename_i z hz
 have ez:=(H7 hT hJ).ze;rw[hz]at ez;simp only[Co]at ez
 split at h
 ·rename_i hc;refine⟨_,?_,h⟩;simp only[Bh,(H7 hT hI).sl,he,(H7 hT hJ).sz,ez];rw[A2 hc]
 grind
def Vx (hT:Lf P T) {t:Nat} {l c:V} {k:V→Prop} (h:Zu T t l c k):∃v,AC4 P t l c v∧k v:=by
 unfold Zu at h
 split at h
 ·split at h
  ·exact h.elim
  rename_i I hI
  split at h
  ·exact h.elim
  rename_i e he
  split at h
  ·exact h.elim
  rename_i J hJ
  split at h
  ·exact h.elim
  rename_i z hz
  have ez:=(H7 hT hJ).ze;rw[hz]at ez;simp only[Co]at ez
  split at h
  ·rename_i hc;obtain⟨h1,h2,h3,h4,rfl,h6,h7⟩:=hc;exact⟨_,⟨_,_,_,e,J.sz,J.by_,z,rfl,rfl,by rw[(H7 hT hI).sl,he],(H7 hT hJ).sz,h1,(H7 hT hJ).by_,h2,ez,h3,h4,h6,h7,rfl⟩,h⟩
  grind
 grind
def Vt (hT:Lf P T) {t:Nat} {v:V} {lo hi mx:Option (Option Int)} {k:V→Prop} (h:Zr (I6 P nt rd) T t v lo hi mx k):
 ∃a b c y,lo=some a∧hi=some b∧mx=some c∧Sa P t v a b c=some y∧k y:=by
 unfold Zr at h
 split at h
 ·rename_i a b c;refine⟨a,b,c,?_⟩
  split at h
  ·exact h.elim
  rename_i I hI
  split at h
  ·rename_i e he
   split at h
   ·exact h.elim
   rename_i J hJ
   split at h
   ·obtain⟨hc,h⟩:=h;refine⟨_,rfl,rfl,rfl,?_,h⟩;simp only[Sa,(H7 hT hI).sl,he,(H7 hT hJ).sz];rw[A2 hc]
   grind
  grind
 grind
def TQ (hT:Lf P T) {t id:Nat} {l0 n:Int} {lo hi mx:Option (Option Int)} {k:V→Prop} (h:Vu (I6 P nt rd) T t H id l0 n lo hi mx k):
 ∃a b c y,lo=some a∧hi=some b∧mx=some c∧LY P H t (.own id l0 n) a b c=some y∧k y:=by
 unfold Vu at h
 split at h
 ·rename_i a b c;refine⟨a,b,c,?_⟩
  split at h
  ·exact h.elim
  rename_i I hI
  split at h
  ·rename_i e he
   split at h
   ·exact h.elim
   rename_i J hJ;obtain⟨xs,hk,hc,h⟩:=h;refine⟨_,rfl,rfl,rfl,?_,h⟩;simp only[LY,(H7 hT hI).sl,he,(H7 hT hJ).sz,Id,hk];rw[A2 ⟨trivial,hc⟩];rfl
  grind
 grind
theorem KU (hT:Lf P T) {b:Builtin} {ts:List TypeId} {vs:List V} {k:V→Prop} (h:PH (I6 P nt rd) T b ts vs k):∃v,Dc P b ts vs v∧k v:=by
 unfold PH at h
 split at h
 ·rename_i t x
  split at h
  ·exact h.elim
  rename_i I hI;have ok:=H7 hT hI
  split at h
  ·rename_i e he
   split at h
   ·exact⟨_,by simp only[Dc,Aq8,ok.sl,he],h⟩
   grind
  rename_i he
  split at h
  ·rename_i n e ha;exact⟨_,by simp only[Dc,Aq8,ok.sl,he,ok.ar,ha,Ar.ofN_eq],h⟩
  rename_i ha
  split at h
  ·split at h
   ·rename_i hs;exact⟨_,by simp only[Dc,Aq8,ok.sl,he,ok.ar,ha,ok.st,hs,B4,Ar.slen_eq],h⟩
   grind
  grind
 ·grind[Ar.mx_eq,Dc]
 ·grind[Ar.mn_eq,Dc]
 ·rename_i sT yT xs tl ys tl'
  split at h
  ·rename_i I I2 hI hI2
   split at h
   ·rename_i e e2 he he2
    split at h
    ·rename_i J hJ
     split at h
     ·rename_i z hz
      have ez:=(H7 hT hJ).ze;rw[hz]at ez;simp only[Co]at ez
      split at h
      ·rename_i hc;obtain⟨c1,c2,c3,c4,c5⟩:=hc;obtain⟨xs',ys',l1,l2,k1,k2,k3,k4⟩:=h;refine⟨_,⟨?_,e,J.sz,J.by_,z,xs',ys',(H7 hT hI).sl.trans he,by rw[(H7 hT hI2).sl,he2];rfl,(H7 hT hJ).sz,c1,(H7 hT hJ).by_,c2,ez,c3,c4,l1,l2,k1,k2,k3,rfl⟩,k4⟩;cases tl<;>first|exact .inl rfl|exact .inr rfl|cases c5
      grind
     grind
    grind
   grind
  grind
 grind
theorem QE {t:Bool}{x y:Sl}{k:Sl→Prop}(h:Av0 (I6 P nt rd) t x y k):∃s:Sl,(t=true→s.V=x.V)∧(t=false→s.V=y.V)∧k s:=by
 unfold Av0 at h
 split at h
 ·grind
 ·exact⟨_,fun e=>(by simp[Sl.V,e]),fun e=>(by simp[Sl.V,e]),h⟩
 ·grind[Sl.V,Ar.or_eq]
 ·grind[Sl.V,nt_eq]
 ·grind
 ·grind[Sl.V,nt_eq,an_eq]
 ·grind[Sl.V,nt_eq,Ar.or_eq]
 ·grind[Sl.V,an_eq]
 ·grind[Ar.pk_eq]
 obtain⟨h1,h2⟩:=h;cases t
 ·grind
 grind
def Lj.arm {G:List (Nat×Bool)} (hG:Lj G l) {c:Operand} {w:Bool} (h:ev (I8 ⟨l,df⟩) c= .bool w):Lj (AZ8 c w G) l:=by
 cases c with
 |tmp d=>
  refine hG.add ?_;have:CD l d= .bool w:=h;rw[this];simp[isB]
 |const _=>exact hG
 |global _=>exact hG
 |func _=>exact hG
theorem QF (hT:Lf P T) {b:Builtin} {ts:List TypeId} {vs:List V} {w:V} {k:V→Prop} (hid:ZY b vs=some w) (h:Av3 (I6 P nt rd) T b ts H w k):∃v,NU P H b ts vs v∧k v:=by
 unfold ZY at hid
 unfold Av3 at h
 split at hid
 ·cases hid
  split at h
  ·split at h
   ·exact h.elim
   rename_i I hI
   split at h
   ·rename_i e he;exact⟨_,by simp only[NU,AN3,(H7 hT hI).sl,he],h⟩
   grind
  grind
 ·cases hid
  split at h
  ·split at h
   ·exact h.elim
   rename_i I hI
   split at h
   ·rename_i e he
    split at h
    ·simp_all
    ·obtain⟨sz,xs,hk,h⟩:=h;exact⟨_,by simp only[NU,Ad9,(H7 hT hI).sl,he,Id,hk];rfl,h⟩
    ·exact⟨_,by simp only[NU,Ad9,(H7 hT hI).sl,he],h⟩
    ·exact⟨_,by simp only[NU,Ad9,(H7 hT hI).sl,he],h⟩
    grind
   grind
  grind
 cases hid
def Oq (hT:Lf P T) {G:List (Nat×Bool)} (hG:Lj G l) {o:Oper} {k:Sl→Prop} (h:xq (I6 P nt rd) T G o l H k):∃s:Sl,Om P o (ev (I8 ⟨l,df⟩)) H s.V∧k s:=by
 have E:∀x,(U2 G l x).V=ev (I8 ⟨l,df⟩) x:=fun x=>ES hG x;have Em:∀xs:List Operand,(xs.map fun x=>(U2 G l x).V)=xs.map (ev (I8 ⟨l,df⟩)):=fun xs=>DR fun p _=>E p
 have Eo:∀x:Option Operand,(x.map fun x=>(U2 G l x).V)=x.map (ev (I8 ⟨l,df⟩)):=fun x=>by cases x<;>simp[E]
 have Ep:∀ps:List (Nat×Operand),(ps.map fun p=>(p.1,(U2 G l p.2).V))=ps.map fun p=>(p.1,ev (I8 ⟨l,df⟩) p.2):=fun ps=>DR fun p _=>by rw[E]
 unfold xq at h
 unfold Om
 split at h<;>rename_i ho<;>try simp only[ho]
 ·grind
 ·grind
 ·rename_i c x y
  split at h
  ·rename_i hc
   have:ev (I8 ⟨l,df⟩) c= .bool true:=by rw[←E,hc];rfl
   grind
  ·rename_i hc
   have:ev (I8 ⟨l,df⟩) c= .bool false:=by rw[←E,hc];rfl
   grind
  ·rename_i b hc
   have hb:ev (I8 ⟨l,df⟩) c= .bool b:=by rw[←E,hc];rfl
   obtain⟨s,h1,h2,h3⟩:=QE h;refine⟨s,?_,h3⟩;simp only[hb];cases b
   ·simp only[D6,C7];rw[h2 rfl];exact ES (hG.arm hb) _
   simp only[B4];rw[h1 rfl];exact ES (hG.arm hb) _
  grind
 ·split at h
  ·rename_i h1;rw[E]at h1;exact⟨_,⟨h1,by rw[E];rfl⟩,h⟩
  grind
 ·obtain⟨v,h1,h2⟩:=Ow hT h
  rw[Ep]at h1;exact⟨.v v,h1,h2⟩
 ·obtain⟨v,h1,h2⟩:=IE hT h
  rw[Ep]at h1;exact⟨.v v,h1,h2⟩
 ·obtain⟨v,h1,h2⟩:=Vx hT h
  rw[E,E]at h1;exact⟨.v v,h1,h2⟩
 ·obtain⟨v,h1,h2⟩:=LR hT h
  rw[E]at h1;exact⟨.v v,h1,h2⟩
 ·grind
 ·obtain⟨v,h1,h2⟩:=RK hT h
  rw[E,E]at h1;exact⟨.v v,h1,h2⟩
 ·grind[Ul]
 ·obtain⟨v,h1,h2⟩:=WM hT h
  rw[E]at h1;exact⟨.v v,h1,h2⟩
 ·obtain⟨v,h1,h2⟩:=h
  rw[E,E]at h1;exact⟨.v v,h1,h2⟩
 ·split at h
  ·rename_i I hI
   split at h
   ·rename_i hn;exact⟨_,⟨(H7 hT hI).nif hn,by rw[E];rfl⟩,h⟩
   grind
  grind
 ·grind[Sl.V]
 ·split at h
  ·rename_i id l0 n hx;obtain⟨a,b,c,y,h1,h2,h3,h4,h5⟩:=TQ hT h
   rw[Eo]at h1 h2 h3
   rw[E]at hx
   exact⟨.v y,by simp only[h1,h2,h3,hx];exact .inr h4,h5⟩
  obtain⟨a,b,c,y,h1,h2,h3,h4,h5⟩:=Vt hT h
  rw[Eo]at h1 h2 h3
  rw[E]at h4
  exact⟨.v y,by simp only[h1,h2,h3];exact .inl h4,h5⟩
 ·obtain⟨v,h1,h2⟩:=JA hT h
  rw[E]at h1;exact⟨.v v,h1,h2⟩
 ·obtain⟨v,h1,h2⟩:=Ov hT h
  rw[E]at h1;exact⟨.v v,h1,h2⟩
 ·split at h
  ·rename_i id lo n hx
   unfold AS3 at h
   split at h
   ·rename_i i hi
    split at h
    ·exact h.elim
    rename_i I hI
    split at h
    ·rename_i e he
     split at h
     ·exact h.elim
     rename_i J hJ;obtain⟨⟨xs,hk⟩,hb,h⟩:=h
     rw[E]at hx hi
     refine⟨.v _,?_,h⟩;simp only[hi,hx];refine .inr ?_;simp only[Ab9,(H7 hT hI).sl,he,Id,hk,(H7 hT hJ).sz,Ar.ofs_eq];rw[A2 ⟨hb,trivial⟩];rfl
    grind
   grind
  obtain⟨ki,j,u,y,h1,h2,h4,h3⟩:=PG hT h
  rw[E]at h1 h2
  exact⟨.v y,by simp only[h1];exact .inl ⟨u,h2,h4⟩,h3⟩
 ·obtain⟨ki,j,y,h1,h2,h3⟩:=Vy hT h
  rw[E]at h1 h2
  exact⟨.v y,by simp only[h1];exact h2,h3⟩
 ·split at h
  ·rename_i cs hc
   rw[E]at hc
   obtain⟨y,h1,h2⟩:=Ew h;exact⟨.v y,by simp only[hc];exact h1,h2⟩
  grind
 ·rename_i c
  split at h
  ·rename_i b hb
   split at h
   ·rename_i w hid
    rw[Em]at hid
    obtain⟨v,h1,h2⟩:=QF hT hid h;exact⟨.v v,by simp only[hb];exact .inr h1,h2⟩
   obtain⟨v,h1,h2⟩:=KU hT h
   rw[Em]at h1
   exact⟨.v v,by simp only[hb];exact .inl h1,h2⟩
  grind
 grind
end
def Dv (d:Option Tmp)(s:Sl)(l:Fl):Fl:=
 match d with
 |some d=>(d,s)::l
 |none=>l
section
variable (E:FL)(T:GY)(nt:Nat)(A:Nat→Bool)(Z:Nat→List Nat)
def Ag1 (H:A5) (k:V→A5→Prop) (ts:List TypeId) (vs:List V):Prop:=
 match ts,vs with
 | [sT, yT],[.sl xs tl,.sl ys _]=>
  (match tg T sT,tg T yT with
   | some I,some I2=>
    (match I.sl,I2.sl with
     | some e,some _=>
      (match tg T e with
       | some J=>
        (match J.ze with
         |some z=>if 0<J.sz∧0<J.by_∧z.one=true∧z.cells.length=J.sz then E.appn J.sz J.by_ H tl xs ys k else False
         |none=>False)
       |none=>False)
     |_,_=>False)
   |_,_=>False)
 |_,_=>False
def WN (H:A5) (k:V→A5→Prop) (ts:List TypeId) (vs:List V):Prop:=
 match ts,vs with
 | [sT, yT],[.sl xs tl,.sl ys _]=>
  (match tg T sT,tg T yT with
   | some I,some I2=>
    (match I.sl,I2.sl with
     | some e,some _=>
      (match tg T e with
       | some J=>
        (match J.ze with
         |some z=>if 0<J.sz∧0<J.by_∧z.one=true∧z.cells.length=J.sz then E.appw J.sz J.by_ H tl xs ys k else False
         |none=>False)
       |none=>False)
     |_,_=>False)
   |_,_=>False)
 |_,_=>False
def AA5 (a:Bool)(vs:List V):Bool:=
 match vs with
 | .own _ _ _::_=>true
 |_=>a
def WO (H : A5) (k:V→A5→Prop) (ts:List TypeId) (vs:List V):Prop:=
 match ts,vs with
 | [sT, yT],[x,y]=>
  (match tg T sT,tg T yT with
   | some I,some I2=>
    (match I.sl with
     | some e=>
      (match tg T e with
       | some J=>
        (match J.ze with
         | some z=>
          if 0<J.sz∧0<J.by_∧z.one=true∧z.cells.length=J.sz then
           (match I2.sl,I2.ik,y with
            |some _,_,y=>E.oapp J.sz J.by_ z H x y k
            |none,some _,.int _ m=>E.oappz J.sz J.by_ z H x m k
            |none,none,.str s=>(match I2.st,J.sz with|true,1=>E.oapps J.by_ z H x s k|_,_=>False)
            |_,_,_=>False)
          else False
         |none=>False)
       |none=>False)
     |_=>False)
   |_,_=>False)
 |_,_=>False
def AS6 (H:A5) (k:V→A5→Prop) (ts:List TypeId) (vs:List V):Prop:=
 match ts,vs with
 | [sT,_],[.own id lo n,y]=>
  (match tg T sT with
   | some I=>
    (match I.sl with
     |some e=>(match tg T e with|some J=>if 0<J.sz then E.ocopy J.sz H (.own id lo n) y k else False|none=>False)
     |_=>False)
   |_=>False)
 |_,_=>False
def Av7 (H:A5) (k:V→A5→Prop) (ts:List TypeId) (vs:List V):Prop:=
 match ts,vs with
 | [sT],[.own id lo n]=>
  (match tg T sT with
   | some I=>
    (match I.sl with
     | some e=>
      (match tg T e with
       |some J=>(match J.ze with|some z=>if 0<J.sz∧z.one=true∧z.cells.length=J.sz then E.oclear J.sz z H (.own id lo n) fun H'=>k (.tup []) H' else False|none=>False)
       |none=>False)
     |_=>False)
   |_=>False)
 |_,_=>False
def AS4 (t:Nat) (H:A5) (k:V→A5→Prop) (l c:V):Prop:=
 match l,c with
 | .int _ n,.int _ m=>
  (match tg T t with
   | some I=>
    (match I.sl with
     | some e=>
      (match tg T e with
       | some J=>
        (match J.ze with
         |some z=>if 0<J.sz∧0<J.by_∧z.one=true∧z.cells.length=J.sz then E.omk J.sz J.by_ z n m H k else False
         |none=>False)
       |none=>False)
     |none=>False)
   |none=>False)
 |_,_=>False
def AJ0 (t:Nat)(H:A5)(k:Sl→A5→Prop):Prop:=
 match tg T t with
 |some I=>(match I.sl with|some e=>(match tg T e with|some J=>E.onil J.sz H fun v H'=>k (.v v) H'|none=>False)|none=>False)
 |none=>False
def xlit (t n:Nat) (H:A5) (parts:List (Nat×V)) (k:Sl→A5→Prop):Prop:=
 match tg T t with
 |none=>False
 | some I=>
  match I.sl with
  |none=>False
  | some e=>
   match tg T e with
   |none=>False
   |some J=>
    match J.ze with
    |none=>False
    |some _=>if n*J.sz≤16777216∧parts.length=n∧CM J.sz 0 parts=true then E.olit J.sz H (parts.map fun q=>q.2) fun v H'=>k (.v v) H' else False
def xop (G:List (Nat×Bool)) (o:Oper) (l:Fl) (H:A5) (k:Sl→A5→Prop):Prop:=
 match o.op with
 | .alloc t=>
  (match tg T t with
   | some I=>
    (match I.ze with
     | some z=>
      (match A (o.dst.getD 0+5000000),Mw z with
       |true,true=>(match I.sl with|some e=>(match tg T e with|some J=>E.oalloc J.sz H fun id H'=>k (.v (.ref id 0)) H'|none=>False)|none=>False)
       |_,_=>(match z.one with|true=>E.alloc H z.cells fun id H'=>(match A (o.dst.getD 0+10000000)with|true=>E.wkB H' id fun H2=>k (.v (.ref id 0)) H2|false=>k (.v (.ref id 0)) H')|false=>False))
     |none=>False)
   |none=>False)
 | .box _ x=>
  match A (o.dst.getD 0+1000000)with
  |true=>E.need ((U2 G l x).V.one=true∧(U2 G l x).V.cells=[(U2 G l x).V]) fun _=>(match A (o.dst.getD 0)with|true=>E.alloc H [(U2 G l x).V] fun id H'=>k (.v (.ref id 0)) H'|false=>k (.v (.eref [(U2 G l x).V] 0)) H)
  |false=>
  (match(U2 G l x).V.one with
   |true=>(match A (o.dst.getD 0)with|true=>E.alloc H (U2 G l x).V.cells fun id H'=>k (.v (.ref id 0)) H'|false=>k (.v (.eref (U2 G l x).V.cells 0)) H)
   |false=>False)
 | .store t x y=>
  (match tg T t with
   | some I=>
    (match(U2 G l x).V with
     | .ref id off=>
      (match(U2 G l y).V.one with
       | true=>
        (match Nat.beq (U2 G l y).V.cells.length I.sz with
         |true=>E.store H id off I.sz (U2 G l y).V.cells fun H'=>k (.v .bad) H'
         |false=>False)
       |false=>False)
     | .elem id i esz off=>E.ostore H id i esz I.sz off (U2 G l y).V fun H'=>k (.v .bad) H'
     |_=>False)
   |none=>False)
 | .binOp op t x y _=>
  (match Ak4 op,Mw (U2 G l y).V with
   |some q,true=>(match tg T t with|some I=>(match I.sl with|some _=>E.nilc (U2 G l x).V (fun _=>k (.b q) H) (fun _=>k (.b (!q)) H)|none=>xq E T G o l H fun s=>k s H)|none=>False)
   |_,_=>xq E T G o l H fun s=>k s H)
 | .makeSlice t x y=>AS4 E T t H (fun v H'=>k (.v v) H') (U2 G l x).V (U2 G l y).V
 | .assign x=>(match A (o.dst.getD 0+6000000),AO1 x with|true,true=>(match Mw (U2 G l x).V with|true=>AJ0 E T o.type H k|false=>k (U2 G l x) H)|_,_=>k (U2 G l x) H)
 | .move x=>(match A (o.dst.getD 0+6000000),AO1 x with|true,true=>(match Mw (U2 G l x).V with|true=>AJ0 E T o.type H k|false=>k (U2 G l x) H)|_,_=>k (U2 G l x) H)
 | .buildSlice t n ps=>
  (match A (o.dst.getD 0+6000000)with
   |true=>xlit E T t n H (ps.toList.map fun p=>(p.1,(U2 G l p.2).V)) k
   |false=>IF T t n (ps.toList.map fun p=>(p.1,(U2 G l p.2).V)) fun v=>k (.v v) H)
 | .makeMap _ r=>(match r with|none=>E.mmk H fun v H'=>k (.v v) H'|some _=>False)
 | .mapUpdate t x y z=>E.mset t H (U2 G l x).V (U2 G l y).V (U2 G l z).V fun H'=>k (.v .bad) H'
 | .insert t x y z=>E.mset t H (U2 G l x).V (U2 G l y).V (U2 G l z).V fun H'=>k (.v .bad) H'
 | .range t x=>E.mrg t H (U2 G l x).V fun v H'=>k (.v v) H'
 | .next x s=>(match s with|false=>E.mnx H (U2 G l x).V fun v H'=>k (.v v) H'|true=>False)
 | .entry x=>E.men H (U2 G l x).V fun v H'=>k (.v v) H'
 | .call c=>
  (match c.callee with
   | .value x=>E.call (U2 G l x).V (c.args.toList.map fun x=>(U2 G l x).V) H fun v H'=>k (.v v) H'
   | .builtin .append=>
    (match AA5 (A (o.dst.getD 0)) (c.args.toList.map fun x=>(U2 G l x).V)with
     |true=>WO E T H (fun v H'=>k (.v v) H') c.argTypes.toList (c.args.toList.map fun x=>(U2 G l x).V)
     | false=>
      (match A (o.dst.getD 0+4000000)with
       |true=>WN E T H (fun v H'=>k (.v v) H') c.argTypes.toList (c.args.toList.map fun x=>(U2 G l x).V)
       |false=>Ag1 E T H (fun v H'=>k (.v v) H') c.argTypes.toList (c.args.toList.map fun x=>(U2 G l x).V)))
   | .builtin .copy=>AS6 E T H (fun v H'=>k (.v v) H') c.argTypes.toList (c.args.toList.map fun x=>(U2 G l x).V)
   | .builtin .clear=>Av7 E T H (fun v H'=>k (.v v) H') c.argTypes.toList (c.args.toList.map fun x=>(U2 G l x).V)
   | .builtin _=>xq E T G o l H fun s=>k s H
   |_=>False)
 |_=>xq E T G o l H fun s=>k s H
def Ab6 (o o2:Oper):Option (Nat×TypeId×TypeId×Operand):=
 match o.op,o.dst,o.guard with
 | .alloc t,some d,none=>
  (match o2.op,o2.dst,o2.guard with
   | .store t2 (.tmp d2) x,none,none=>
    (match A d,Nat.beq d d2 with
     |false,true=>(match x with| .tmp d3=>(match Nat.beq d d3 with|true=>none|false=>some (d,t,t2,x))|_=>some (d,t,t2,x))
     |_,_=>none)
   |_,_,_=>none)
 |_,_,_=>none
def AT3 (l:Fl) (t t2:TypeId) (x:Operand):Option (List V):=
 match tg T t,tg T t2 with
 | some I,some I2=>
  (match I.ze with
   |some z=>if z.one=true∧(U2 [] l x).V.one=true∧(U2 [] l x).V.cells.length=I2.sz∧I2.sz≤z.cells.length then some (V4 z.cells 0 (U2 [] l x).V.cells)else none
   |none=>none)
 |_,_=>none
def HD (ops : Array Oper) (o:Oper):Nat→Fl→(List (Nat×Bool)→Fl→(Sl→Sl)→Prop)→(Fl→Prop)→Prop
 | n, l, go, skip=>
  match o.guard with
  |none=>go [] l Sl.n
  | some (j, want)=>
   (match (ops[j]?).bind (·.dst)with
    |none=>False
    | some d =>
     (match XP [] l d with
      |some (.b c)=>(match c==want with|true=>go [] l Sl.n|false=>skip l)
      | some (.v (.bool c))=>
       (match Mv [(d,want)] o l with
        |true=>go [(d,want)] l fun s=>.g d want s.V
        | false=>
         E.br c (fun _=>match want with|true=>go [] (PM l d true) Sl.n|false=>skip (PM l d true))
          (fun _=>match want with|false=>go [] (PM l d false) Sl.n|true=>skip (PM l d false)))
      |some (.v (.tup _))=>skip l
      |some _=>False
      | none =>
       (match lk l d with
        | .g j' _ (.bool _)=>
         (match Ar9 l d j' with
          | true=>
           (match Mv [(d,want)] o l with
            |true=>go [(d,want)] l fun s=>.g d want s.V
            | false=>
             (match lk l j',n with
              | .v (.bool c),n+1=>E.br c (fun _=>HD ops o n (PM l j' true) go skip) (fun _=>HD ops o n (PM l j' false) go skip)
              |_,_=>False))
          |false=>False)
        |_=>False)))
def Ou:Option (Nat×Int×Int×List V)→List Nat→Fl→A5→(Fl→A5→Prop)→Prop
 |_,[],l,H,k=>k l H
 | some (id,lo,n,xs),d::ds,l,H,k=>
  (match lk l d with
   | .v (.own id' lo' n')=>E.need (id'=id∧lo'=lo∧n'=n) fun _=>Ou (some (id,lo,n,xs)) ds ((d,.v (.sl xs .ro))::l) H k
   |_=>Ou none ds l H k)
 | none,d::ds,l,H,k=>
  match decide (1000000≤d)with
  | true=>
   (match lk l (d % 1000000)with
    | .v (.ref id 0)=>
     (match decide (100000000≤d)with
      |true=>E.adoptIn H id ((d-100000000) / 1000000) fun H'=>Ou none ds l H' k
      |false=>E.frzIn H id (d / 1000000-1) fun H'=>Ou none ds l H' k)
    |_=>False)
  |false=>
   match lk l d with
   | .v (.ref id 0)=>E.frzL H id fun cs H'=>Ou none ds ((d,.v (.eref cs 0))::l) H' k
   | .v (.own id lo n)=>E.ofrz H id lo n fun xs H'=>Ou (some (id,lo,n,xs)) ds ((d,.v (.sl xs .ro))::l) H' k
   | .v (.sl _ _)=>Ou none ds l H k
   |_=>False
def Bf2 (o:Oper):List Nat:=
 match o.dst with
 |some q=>Z q
 |none=>[]
def Ot (ops:Array Oper):List Oper→Fl→A5→(Fl→A5→Prop)→Prop
 |[],l,H,K=>K l H
 | o ::rest,l,H,K=>
  match GV nt o.dst with
  |false=>False
  | true=>
   Ou E none (Bf2 Z o) l H fun l H=>
   match rest with
   |[]=>HD E ops o 4 l (fun G l' wr=>xop E T A G o l' H fun s H'=>K (Dv o.dst (wr s) l') H') fun l'=>K (Dv o.dst (.v (.tup [])) l') H
   | o2::rest'=>
    (match Ab6 A o o2 with
     | some (d,t,t2,x)=>
      (match AT3 T l t t2 x with
       |some cs=>Ot ops rest' ((d,.v (.eref cs 0))::l) H K
       |none=>False)
     |none=>HD E ops o 4 l (fun G l' wr=>xop E T A G o l' H fun s H'=>Ot ops (o2::rest') (Dv o.dst (wr s) l') H' K) fun l'=>Ot ops (o2::rest') (Dv o.dst (.v (.tup [])) l') H K)
end
section
variable {P:Program}{nt:Nat}{rd:Option Nat}{T:GY}{A:Nat→Bool}{df:List Nat}
def Aj0 (l:Fl) (d t:Nat) (s:Sl):CD ((d,s)::l) t=if t=d then slV l s else CD l t:=by
 simp only[CD]
 by_cases h:t=d
 ·subst h;simp only[Nat.beq_refl,B4];cases s<;>rfl
 have:Nat.beq t d=false:=by
  cases hb:Nat.beq t d with
  |false=>rfl
  |true=>simp_all
 grind
def P3 (l:Fl) (d:Option Tmp) (s:Sl):I8 ⟨Dv d s l,df⟩=(I8 ⟨l,df⟩).put d (slV l s):=by
 cases d with
 |none=>rfl
 |some d=>
  simp_all[I8,Dv,Fr.put,Aj0]
def Ex {ops:Array Oper} {o:Oper} {go:List (Nat×Bool)→Fl→(Sl→Sl)→Prop} {skip:Fl→Prop}:∀(n:Nat) (l:Fl),HD (I6 P nt rd) ops o n l go skip→
 ∃l',(∀t,CD l' t=CD l t)∧((BL ops (I8 ⟨l,df⟩) o=some true∧∃G wr,Lj G l'∧(∀s,slV l' (wr s)=s.V)∧go G l' wr)∨
  (BL ops (I8 ⟨l,df⟩) o=some false∧(skip l'∨∃G d want,Mv G o l'=true∧isB (CD l' d) want=false∧go G l' fun s=>.g d want s.V)))
 | n, l,h=>by
  unfold HD at h
  split at h
  ·rename_i hg;exact⟨l,fun _=>rfl,.inl ⟨by simp[BL,hg],[],_,Lj.nil,fun s=>by cases s<;>rfl,h⟩⟩
  rename_i j want hg
  split at h
  ·exact h.elim
  rename_i d hjd
  have gv:∀x,CD l d=x→BL ops (I8 ⟨l,df⟩) o=match x with| .bool c=>some (c==want)| .tup _=>some false|_=>none:=fun x hx=>by
   simp only[BL,hg,hjd,I8,hx]
   grind
  have idok:∀(l':Fl) (s:Sl),slV l' s.n=s.V:=fun l' s=>by cases s<;>rfl
  have tot:∀c,CD l d= .bool c→Mv [(d,want)] o l=true→go [(d,want)] l (fun s=>.g d want s.V)→∃l',(∀t,CD l' t=CD l t)∧((BL ops (I8 ⟨l,df⟩) o=some true∧∃G wr,Lj G l'∧(∀s,slV l' (wr s)=s.V)∧go G l' wr)∨
   (BL ops (I8 ⟨l,df⟩) o=some false∧(skip l'∨∃G d want,Mv G o l'=true∧isB (CD l' d) want=false∧go G l' fun s=>.g d want s.V))):=by
   intro c hc ht h;have:=gv _ hc
   simp only at this
   cases hcw:c==want with
   |true=>exact⟨l,fun _=>rfl,.inl ⟨by rw[this,hcw],_,_,Lj.nil.add (by rw[hc];simp_all[isB]),fun s=>by simp_all[slV,isB],h⟩⟩
   |false=>exact⟨l,fun _=>rfl,.inr ⟨by rw[this,hcw],.inr ⟨_,d,want,ht,by rw[hc];simp_all[isB],h⟩⟩⟩
  split at h
  ·rename_i c hc;have hv:CD l d= .bool c:=(Mn Lj.nil hc).1.symm;have:=gv _ hv
   split at h
   ·rename_i e;exact⟨l,fun _=>rfl,.inl ⟨by rw[this];grind,[],_,Lj.nil,idok l,h⟩⟩
   grind
  ·rename_i c hc;have hv:CD l d= .bool c:=(Mn Lj.nil hc).1.symm;have hgv:=gv _ hv
   split at h
   ·simp_all
   have e:=Rq l d c hv;obtain⟨h1,h2⟩:=h;cases c
   ·have h:=h2 rfl;cases want
    ·exact⟨_,e,.inl ⟨hgv,[],_,Lj.nil,idok _,h⟩⟩
    grind
   have h:=h1 rfl;cases want
   ·grind
   exact⟨_,e,.inl ⟨hgv,[],_,Lj.nil,idok _,h⟩⟩
  ·rename_i vs hc;have hv:CD l d= .tup vs:=(Mn Lj.nil hc).1.symm
   grind
  ·exact h.elim
  split at h
  ·rename_i j' w' cx hl
   split at h
   ·rename_i hf;have hv:=Wq l d j' w' _ hl hf
    split at h
    ·rename_i ht
     cases hb:isB (CD l j') w' with
     |true=>
      rw[hb]at hv
      simp_all
     |false=>
      rw[hb]at hv
      have hv:CD l d= .tup []:=hv;exact⟨l,fun _=>rfl,.inr ⟨gv _ hv,.inr ⟨_,d,want,ht,by rw[hv];rfl,h⟩⟩⟩
    split at h
    ·rename_i c m hc;have hvj:=Mu l j' _ hc (fun _ _ _ h=>by cases h);obtain⟨h1,h2⟩:=h
     have key:∀b,c=b→HD (I6 P nt rd) ops o m (PM l j' b) go skip→∃l',(∀t,CD l' t=CD l t)∧((BL ops (I8 ⟨l,df⟩) o=some true∧∃G wr,Lj G l'∧(∀s,slV l' (wr s)=s.V)∧go G l' wr)∨
      (BL ops (I8 ⟨l,df⟩) o=some false∧(skip l'∨∃G d want,Mv G o l'=true∧isB (CD l' d) want=false∧go G l' fun s=>.g d want s.V))):=by
      intro b hb h
      have hk:CD l j'= .bool b:=by rw[hvj,hb];rfl
      have e:=Rq l j' b hk;obtain⟨l',e',h⟩:=Ex m _ h
      rw[Qg hk]at h
      grind
     cases c
     ·simp_all
     simp_all
    grind
   grind
  grind
def M1.whole {y:V} {vs:List V} (h:M1 y.cells vs) (h1:y.one=true):∃z,Cp y z∧z.cells=vs:=by
 have one:∀{y:V} {vs:List V},M1 [y] vs→(∀z,Cp y z→z.cells=[z])→∃z,Cp y z∧z.cells=vs:=by
  intro y vs h hz
  cases h with
  |cons q r=>cases r;grind
 cases y with
 |agg cs=>exact⟨.agg vs,.agg h,rfl⟩
 |tup vs=>cases h1
 |_=>exact one h fun z hz=>by cases hz<;>rfl
def PF (hT:Lf P T) {G:List (Nat×Bool)} {o:Oper} {l:Fl} (hG:Lj G l) {H:A5} {k:Sl→A5→Prop} (h:xop (I6 P nt rd) T A G o l H k):Ih P A o (ev (I8 ⟨l,df⟩)) H fun v H'=>∃s:Sl,v=s.V∧k s H':=by
 have E:∀x,(U2 G l x).V=ev (I8 ⟨l,df⟩) x:=fun x=>ES hG x;have Em:∀xs:List Operand,(xs.map fun x=>(U2 G l x).V)=xs.map (ev (I8 ⟨l,df⟩)):=fun xs=>DR fun p _=>E p
 have quiet:xq (I6 P nt rd) T G o l H (fun s=>k s H)→∃v,Om P o (ev (I8 ⟨l,df⟩)) H v∧∃s:Sl,v=s.V∧k s H:=fun h=>by
  obtain⟨s,h1,h2⟩:=Oq (df:=df) hT hG h
  grind
 unfold xop at h
 split at h
 ·rename_i t ho;simp only[Ih,ho]
  split at h
  ·rename_i I hI
   split at h
   ·rename_i z hz
    have ez:=(H7 hT hI).ze;rw[hz]at ez;simp only[Co]at ez
    split at h
    ·rename_i hA hn
     split at h
     ·split at h
      ·rename_i J _
       have e2:z= .sl [] .nil:=by
        grind[Mw]
       rw[e2]at ez
       exact .inr ⟨ez,J.sz,fun q id hq hid=>⟨.v (.ref id 0),rfl,h q id hq hid⟩⟩
      grind
     grind
    split at h
    ·rename_i h1;refine .inl ⟨z,ez,h1,fun id hid=>?_⟩;have h:=h id hid
     split at h
     ·obtain⟨cs,ds,q1,q2,q3⟩:=h
      rw[E4]at q1;grind[Al,Sl.V]
     exact⟨_,.refl _,.v (.ref id 0),rfl,h⟩
    grind
   grind
  grind
 ·rename_i t x ho;simp only[Ih,ho]
  split at h
  ·rw[E]at h
   obtain⟨⟨h1,h2⟩,h⟩:=h;refine⟨h1,?_⟩;rw[h2]
   split at h
   ·rename_i hA;rw[A2 hA];exact fun id hid=>⟨.v (.ref id 0),rfl,h id hid⟩
   grind[Sl.V]
  split at h
  ·rename_i h1
   rw[E]at h1
   refine⟨h1,?_⟩
   split at h
   ·rename_i hA;rw[A2 hA];intro id hid;have:=h id hid
    rw[E]at this
    exact⟨.v (.ref id 0),rfl,this⟩
   rename_i hA;rw[A1 (by rw[hA];simp)]
   rw[E]at h
   grind[Sl.V]
  grind
 ·rename_i t x y ho;simp only[Ih,ho]
  split at h
  ·rename_i I hI
   split at h
   ·rename_i id off hx
    split at h
    ·rename_i h1
     split at h
     ·rename_i h2;obtain⟨cs,vs',hle,hk,h3,h⟩:=h
      rw[E]at hx h1 h2 hle
      obtain⟨z,hz,hzc⟩:=hle.whole h1;subst hzc;refine .inl ⟨z,_,hz,?_,.v .bad,rfl,h⟩;simp only[ND,(H7 hT hI).sz,hx,hk];rw[A2 ⟨hz.one h1,by rw[←hz.cells.length];simp_all,HB h3⟩]
     grind
    grind
   ·rename_i id i esz off hx;obtain⟨xs,y',q1,q2,q3,q4,q5,q6,h⟩:=h
    rw[E]at hx q1
    refine .inr ⟨y',_,q1,?_,.v .bad,rfl,h⟩;simp only[VB,(H7 hT hI).sz,hx,Id,q5];rw[A2 ⟨q6,trivial,q2,q3,q4⟩]
   grind
  grind
 ·rename_i op t x y ty ho
  have old:xq (I6 P nt rd) T G o l H (fun s=>k s H)→Ih P A o (ev (I8 ⟨l,df⟩)) H fun v H'=>∃s:Sl,v=s.V∧k s H':=fun h=>by
   grind[Ih]
  split at h
  ·rename_i q hq hn
   split at h
   ·rename_i I hI
    split at h
    ·rename_i e he;obtain⟨p,h1,h2,h3⟩:=h
     rw[E]at h1 hn
     simp only[Ih,ho];refine .inr ⟨q,e,p,hq,(H7 hT hI).sl.trans he,h1,?_,fun hx=>⟨.b q,rfl,h2 hx⟩,⟨.b (!q),rfl,h3⟩⟩
     grind[Mw]
    grind
   grind
  grind
 ·rename_i t x y ho;simp only[Ih,ho]
  rw[E,E]at h
  refine .inr ?_
  unfold AS4 at h
  unfold QR
  split at h
  ·rename_i k1 n k2 m e1 e2;rw[e1,e2]
   simp only
   split at h
   ·rename_i I hI
    split at h
    ·rename_i e he
     split at h
     ·rename_i J hJ
      split at h
      ·rename_i z hz
       have ez:=(H7 hT hJ).ze;rw[hz]at ez;simp only[Co]at ez
       split at h
       ·rename_i hc;obtain⟨c1,c2,c3,c4⟩:=hc;obtain⟨⟨q1,q2,q3⟩,ys,hle,h⟩:=h;exact⟨e,J.sz,J.by_,z,(H7 hT hI).sl.trans he,(H7 hT hJ).sz,c1,(H7 hT hJ).by_,c2,ez,c3,c4,q1,q2,q3,fun id hid=>⟨id,J.sz,_,ys,E4 _ _ _,hle,.v _,rfl,by rw[Al];grind⟩⟩
       grind
      grind
     grind
    grind
   grind
  grind
 ·rename_i x ho;simp only[Ih,ho]
  split at h
  ·split at h
   ·rename_i hn
    rw[E]at hn
    unfold AJ0 at h
    split at h
    ·split at h
     ·split at h
      ·rename_i J _;refine .inr ⟨?_,J.sz,fun q hq=>⟨.v _,rfl,h q hq⟩⟩
       unfold Mw at hn
       split at hn
       ·assumption
       cases hn
      exact h.elim
     exact h.elim
    exact h.elim
   exact .inl ⟨_,(E x).symm,h⟩
  exact .inl ⟨_,(E x).symm,h⟩
 ·rename_i x ho;simp only[Ih,ho]
  split at h
  ·split at h
   ·rename_i hn
    rw[E]at hn
    unfold AJ0 at h
    split at h
    ·split at h
     ·split at h
      ·rename_i J _;refine .inr ⟨?_,J.sz,fun q hq=>⟨.v _,rfl,h q hq⟩⟩
       unfold Mw at hn
       split at hn
       ·assumption
       cases hn
      exact h.elim
     exact h.elim
    exact h.elim
   exact .inl ⟨_,(E x).symm,h⟩
  exact .inl ⟨_,(E x).symm,h⟩
 ·rename_i t n ps ho
  have Ep:∀ps:List (Nat×Operand),(ps.map fun p=>(p.1,(U2 G l p.2).V))=ps.map fun p=>(p.1,ev (I8 ⟨l,df⟩) p.2):=fun ps=>DR fun p _=>by rw[E]
  split at h
  ·simp only[Ih,ho];refine .inr ?_
   rw[Ep]at h
   unfold xlit at h
   split at h
   ·exact h.elim
   rename_i I hI
   split at h
   ·exact h.elim
   rename_i e he
   split at h
   ·exact h.elim
   rename_i J hJ
   split at h
   ·exact h.elim
   rename_i z hz
   have ez:=(H7 hT hJ).ze;rw[hz]at ez;simp only[Co]at ez
   split at h
   ·rename_i hc;obtain⟨ys,hle,h⟩:=h;refine⟨e,J.sz,_,ys,?_,(H7 hT hI).sl.trans he,(H7 hT hJ).sz,hle,fun q hq=>⟨.v _,rfl,h q hq⟩⟩;simp only[Bh,(H7 hT hI).sl,he,(H7 hT hJ).sz,ez];rw[A2 hc]
   grind
  obtain⟨v,h1,h2⟩:=IE hT h
  rw[Ep]at h1
  simp only[Ih,ho];exact .inl ⟨v,by simp_all[Om],.v v,rfl,h2⟩
 ·rename_i t r ho;simp only[Ih,ho]
  split at h
  ·exact⟨rfl,Aq6 (K:=fun v H'=>k (.v v) H') h fun v H' hk=>⟨.v v,rfl,hk⟩⟩
  grind
 ·rename_i t x y z ho;simp only[Ih,ho]
  rw[E,E,E]at h
  exact Ha (K:=fun _ H'=>k (.v .bad) H') h fun H' hk=>⟨.v .bad,rfl,hk⟩
 ·rename_i t x y z ho;simp only[Ih,ho]
  rw[E,E,E]at h
  exact Ha (K:=fun _ H'=>k (.v .bad) H') h fun H' hk=>⟨.v .bad,rfl,hk⟩
 ·rename_i t x ho;simp only[Ih,ho]
  rw[E]at h
  exact XG (K:=fun v H'=>k (.v v) H') h fun v H' hk=>⟨.v v,rfl,hk⟩
 ·rename_i x s ho;simp only[Ih,ho]
  cases s with
  |true=>exact h.elim
  |false=>
   rw[E]at h
   exact⟨rfl,Aa3 (K:=fun v H'=>k (.v v) H') h fun v H' hk=>⟨.v v,rfl,hk⟩⟩
 ·rename_i x ho;simp only[Ih,ho]
  rw[E]at h
  exact YD (K:=fun v H'=>k (.v v) H') h fun v H' hk=>⟨.v v,rfl,hk⟩
 ·rename_i c ho
  split at h
  ·rename_i x hc;simp only[Ih,ho,hc]
   rw[E,Em]at h
   exact Df.mono h fun v H' hk=>⟨.v v,rfl,hk⟩
  ·rename_i hc;simp only[Ih,ho,hc]
   rw[Em]at h
   split at h
   ·refine .inr (.inl ?_)
    unfold WO at h
    unfold Py
    split at h
    ·rename_i sT yT x y hts hvs;rw[hts,hvs]
     simp only
     split at h
     ·rename_i I I2 hI hI2
      split at h
      ·rename_i e he
       split at h
       ·rename_i J hJ
        split at h
        ·rename_i z hz
         have ez:=(H7 hT hJ).ze;rw[hz]at ez;simp only[Co]at ez
         split at h
         ·rename_i hc;obtain⟨c1,c2,c3,c4⟩:=hc;refine⟨e,J.sz,J.by_,z,(H7 hT hI).sl.trans he,(H7 hT hJ).sz,c1,(H7 hT hJ).by_,c2,ez,c3,c4,?_⟩
          split at h
          ·rename_i he2;obtain⟨ys',q1,h⟩:=h;exact .inl ⟨by rw[(H7 hT hI2).sl,he2];rfl,ys',q1,KQ h fun v H' hk=>⟨.v _,rfl,hk⟩⟩
          ·rename_i k0 he2 hik;have eik:=(H7 hT hI2).ik
           rw[hik]at eik
           obtain⟨q1,h⟩:=h;exact .inr (.inl ⟨⟨_,eik⟩,_,_,rfl,q1.1,q1.2,KQ h fun v H' hk=>⟨.v _,rfl,hk⟩⟩)
          ·split at h
           ·rename_i hst hj1;have est:=(H7 hT hI2).st
            rw[hst]at est
            have h:GX H (fun v H'=>k (.v v) H') 1 J.by_ z x (GG _):=h
            rw[←hj1]at h
            exact .inr (.inr ⟨MQ est,_,rfl,hj1,KQ h fun v H' hk=>⟨.v _,rfl,hk⟩⟩)
           grind
          grind
         grind
        grind
       grind
      grind
     grind
    grind
   split at h
   ·refine .inr (.inr ?_)
    unfold WN at h
    unfold Hm
    split at h
    ·rename_i sT yT xs tl ys tl' hts hvs;rw[hts,hvs]
     simp only
     split at h
     ·rename_i I I2 hI hI2
      split at h
      ·rename_i e e2 he he2
       split at h
       ·rename_i J hJ
        split at h
        ·rename_i z hz
         have ez:=(H7 hT hJ).ze;rw[hz]at ez;simp only[Co]at ez
         split at h
         ·rename_i hc;obtain⟨c1,c2,c3,c4⟩:=hc;obtain⟨xs',ys',l1,l2,k1,k2,k3,k4,k5⟩:=h;exact⟨e,J.sz,J.by_,z,(H7 hT hI).sl.trans he,by rw[(H7 hT hI2).sl,he2];rfl,(H7 hT hJ).sz,c1,(H7 hT hJ).by_,c2,ez,c3,c4,xs',ys',l1,l2,k1,k2,k3,k4,fun e=>⟨_,_,by subst e;rw[L4];exact .ro _ _,fun _ _ hx=>EV hx,⟨.v _,rfl,k5⟩⟩,fun t h1 h2=>⟨_,_,.ro _ _,fun id b hx=>by rw[D2 _ _ fun e=>by simp_all];exact hx,⟨.v _,rfl,k5⟩⟩⟩
         grind
        grind
       grind
      grind
     grind
    grind
   refine .inl ?_
   unfold Ag1 at h
   unfold Hm
   split at h
   ·rename_i sT yT xs tl ys tl' hts hvs;rw[hts,hvs]
    simp only
    split at h
    ·rename_i I I2 hI hI2
     split at h
     ·rename_i e e2 he he2
      split at h
      ·rename_i J hJ
       split at h
       ·rename_i z hz
        have ez:=(H7 hT hJ).ze;rw[hz]at ez;simp only[Co]at ez
        split at h
        ·rename_i hc;obtain⟨c1,c2,c3,c4⟩:=hc;obtain⟨xs',ys',l1,l2,k1,k2,k3,k4,k5,k6⟩:=h;exact⟨e,J.sz,J.by_,z,(H7 hT hI).sl.trans he,by rw[(H7 hT hI2).sl,he2];rfl,(H7 hT hJ).sz,c1,(H7 hT hJ).by_,c2,ez,c3,c4,xs',ys',l1,l2,k1,k2,k3,k4,fun e=>⟨.v _,rfl,k5 e⟩,fun t h1 h2=>⟨.v _,rfl,k6 t h1 h2⟩⟩
        grind
       grind
      grind
     grind
    grind
   grind
  ·rename_i hc;simp only[Ih,ho,hc]
   rw[Em]at h
   unfold AS6 at h
   unfold YT
   split at h
   ·rename_i sT yT id lo n y hts hvs;rw[hts,hvs]
    simp only
    split at h
    ·rename_i I hI
     split at h
     ·rename_i e he
      split at h
      ·rename_i J hJ
       split at h
       ·rename_i c1;obtain⟨xs,ys',q1,q2,h⟩:=h;exact⟨e,J.sz,xs,ys',(H7 hT hI).sl.trans he,(H7 hT hJ).sz,c1,q1,q2,.v _,rfl,h⟩
       grind
      grind
     grind
    grind
   grind
  ·rename_i hc;simp only[Ih,ho,hc]
   rw[Em]at h
   unfold Av7 at h
   unfold Tw
   split at h
   ·rename_i sT id lo n hts hvs;rw[hts,hvs]
    simp only
    split at h
    ·rename_i I hI
     split at h
     ·rename_i e he
      split at h
      ·rename_i J hJ
       split at h
       ·rename_i z hz
        have ez:=(H7 hT hJ).ze;rw[hz]at ez;simp only[Co]at ez
        split at h
        ·rename_i c1;obtain⟨xs,q1,h⟩:=h;exact⟨e,J.sz,z,xs,(H7 hT hI).sl.trans he,(H7 hT hJ).sz,c1.1,ez,c1.2.1,c1.2.2,q1,.v _,rfl,h⟩
        grind
       grind
      grind
     grind
    grind
   grind
  ·rename_i b hb _ _ hc;obtain⟨v,h1,h2⟩:=quiet h
   simp only[Om,ho,hc]at h1
   simp only[Ih,ho,hc];exact⟨v,h1,h2⟩
  exact h.elim
 rename_i n1 n2 n3 n4 n5 n6 n7 n8 n9 n10 n11 n12 n13 n14 n15;obtain⟨v,h1,h2⟩:=quiet h;unfold Ih
 split<;>rename_i ho<;>first|exact⟨v,h1,h2⟩|exact(n1 _ ho).elim|exact(n1 _ _ ho).elim|exact(n1 _ _ _ ho).elim|exact(n1 _ _ _ _ ho).elim|exact(n1 _ _ _ _ _ ho).elim|exact(n2 _ ho).elim|exact(n2 _ _ ho).elim|exact(n2 _ _ _ ho).elim|exact(n2 _ _ _ _ ho).elim|exact(n2 _ _ _ _ _ ho).elim|exact(n3 _ ho).elim|exact(n3 _ _ ho).elim|exact(n3 _ _ _ ho).elim|exact(n3 _ _ _ _ ho).elim|exact(n3 _ _ _ _ _ ho).elim|exact(n4 _ ho).elim|exact(n4 _ _ ho).elim|exact(n4 _ _ _ ho).elim|exact(n4 _ _ _ _ ho).elim|exact(n4 _ _ _ _ _ ho).elim|exact(n5 _ ho).elim|exact(n5 _ _ ho).elim|exact(n5 _ _ _ ho).elim|exact(n5 _ _ _ _ ho).elim|exact(n5 _ _ _ _ _ ho).elim|exact(n6 _ ho).elim|exact(n6 _ _ ho).elim|exact(n6 _ _ _ ho).elim|exact(n6 _ _ _ _ ho).elim|exact(n6 _ _ _ _ _ ho).elim|exact(n7 _ ho).elim|exact(n7 _ _ ho).elim|exact(n7 _ _ _ ho).elim|exact(n7 _ _ _ _ ho).elim|exact(n7 _ _ _ _ _ ho).elim|exact(n8 _ ho).elim|exact(n8 _ _ ho).elim|exact(n8 _ _ _ ho).elim|exact(n8 _ _ _ _ ho).elim|exact(n8 _ _ _ _ _ ho).elim|exact(n9 _ ho).elim|exact(n9 _ _ ho).elim|exact(n9 _ _ _ ho).elim|exact(n9 _ _ _ _ ho).elim|exact(n9 _ _ _ _ _ ho).elim|exact(n10 _ ho).elim|exact(n10 _ _ ho).elim|exact(n10 _ _ _ ho).elim|exact(n10 _ _ _ _ ho).elim|exact(n10 _ _ _ _ _ ho).elim|exact(n11 _ ho).elim|exact(n11 _ _ ho).elim|exact(n11 _ _ _ ho).elim|exact(n11 _ _ _ _ ho).elim|exact(n11 _ _ _ _ _ ho).elim|exact(n12 _ ho).elim|exact(n12 _ _ ho).elim|exact(n12 _ _ _ ho).elim|exact(n12 _ _ _ _ ho).elim|exact(n12 _ _ _ _ _ ho).elim|exact(n13 _ ho).elim|exact(n13 _ _ ho).elim|exact(n13 _ _ _ ho).elim|exact(n13 _ _ _ _ ho).elim|exact(n13 _ _ _ _ _ ho).elim|exact(n14 _ ho).elim|exact(n14 _ _ ho).elim|exact(n14 _ _ _ ho).elim|exact(n14 _ _ _ _ ho).elim|exact(n14 _ _ _ _ _ ho).elim|exact(n15 _ ho).elim|exact(n15 _ _ ho).elim|exact(n15 _ _ _ ho).elim|exact(n15 _ _ _ _ ho).elim|exact(n15 _ _ _ _ _ ho).elim
theorem VR.nil_inv {g:Gh}{w:World}{u:Value}(h:VR g w u (.sl [] .nil)):u= .slice none 0 0:=by
 cases h with
 |sl0 _=>rfl
 |sle ht=>rcases ht with h|⟨h,_⟩<;>cases h
 |sl _ _ _ _ _ _ _ _ ht=>exact ht.elim
def Et {cs:List V}{i j:Nat}{x:V}(hi:i<cs.length):(cs.set i x).getD j .bad=if j=i then x else cs.getD j .bad:=by
 grind
def VR.erefLe {g:Gh} {w:World} {v:Value} {cs ds:List V} {off:Nat} (h:VR g w v (.eref cs off)) (hl:M1 cs ds):VR g w v (.eref ds off):=by
 have e:=hl.length
 cases h with
 |eref vs hf hw h1 hv=>
  exact .eref vs (fun j hj=>hf j (by omega)) (fun j hj=>hw j (by omega)) (fun j hj=>h1 j (by omega)) fun j hj=>(hv j (by omega)).le (hl.at j)
def Ce {w:World} {a:Act}:∀(q:Option (Nat×Int×Int×List V)) (ds:List Nat) (l:Fl) (H:A5) (g:Gh) (k:Fl→A5→Prop),(∀id lo n xs,q=some (id,lo,n,xs)→∀v,VR g w v (.own id lo n)→VR g w v (.sl xs .ro))→Rl g H w→FR nt g w a (I8 ⟨l,df⟩)→Ou (I6 P nt rd) q ds l H k→∃g' l' H',W1 g w g' w∧Rl g' H' w∧FR nt g' w a (I8 ⟨l',df⟩)∧k l' H'
 |q,[],l,H,g,k,_,hR,hF,h=>⟨g,l,H,W1.refl _ _,hR,hF,by simp_all[Ou]⟩
 | some (id,lo,n,xs),d::ds,l,H,g,k,hq,hR,hF,h=>by
  unfold Ou at h
  split at h
  ·rename_i id' lo' n' hl;obtain⟨⟨e,e2,e3⟩,h⟩:=h;subst e;subst e2;subst e3
   have hF1:FR nt g w a (I8 ⟨(d,.v (.sl xs .ro))::l,df⟩):=by
    have e:=P3 (df:=df) l (some d) (.v (.sl xs .ro))
    rw[show Dv (some d) (.v (.sl xs .ro)) l=(d,Sl.v (.sl xs .ro))::l from rfl]at e
    rw[e];refine⟨hF.size,fun t=>?_,hF.df⟩;simp only[Fr.put]
    split
    ·rename_i ht;subst ht;have h0:=hF.s t;have e0:(I8 ⟨l,df⟩).s t= .own id' lo' n':=Mu l t _ hl (fun _ _ _ h=>by cases h)
     rw[e0]at h0
     simp_all[slV]
    exact hF.s t
   exact Ce _ ds _ _ g k hq hR hF1 h
  exact Ce none ds _ _ g k (fun _ _ _ _ h=>by cases h) hR hF h
 | none,d::ds,l,H,g,k,_,hR,hF,h=>by
  unfold Ou at h
  split at h
  ·split at h
   ·rename_i id hl
    split at h
    ·obtain⟨cs,sz,hk,hj,h⟩:=h;obtain⟨jl,_⟩:=List.getElem?_eq_some_iff.1 hj;obtain⟨g1,s1,hR1,hn,hv⟩:=Ek hR sz (.inl rfl) (.sl0 rfl:VR g w (.slice none 0 0) (.sl [] .nil))
     have hk1:upd H g.nx (some (.arr sz [])) id=some (.cells cs):=by
      rw[D2 _ _ (fun e=>by rw[e]at hk;rw[hn]at hk;cases hk)];exact hk
     have hR2:=hR1.chgCells hk1 (ds:=cs.set ((d-100000000) / 1000000) (.own g.nx 0 0)) (by simp) fun j' u hj' hu=>by
      rw[Et jl]
      grind[VR.nil_inv]
     obtain⟨g2,l2,H2,s2,r⟩:=Ce none ds _ _ g1 k (fun _ _ _ _ h=>by cases h) hR2 (hF.mono s1) (h _ hn);exact⟨g2,l2,H2,s1.trans s2,r⟩
    obtain⟨cs,q,lo,n,sz,xs,ys,hk,hj,hq,hle,h⟩:=h;obtain⟨jl,_⟩:=List.getElem?_eq_some_iff.1 hj;obtain⟨g1,s1,hR1,hv⟩:=hR.freezeArr hq
    have hk1:upd H q none id=some (.cells cs):=by
     rw[D2 _ _ (fun e=>by simp_all)];exact hk
    have hR2:=hR1.chgCells hk1 (ds:=cs.set (d / 1000000-1) (.sl ys .ro)) (by simp) fun j' u hj' hu=>by
     rw[Et jl]
     split
     ·rename_i e;subst e
      rw[Cd,hj]at hu
      exact(hv _ _ _ hu).le (.sl _ hle)
     exact hu
    obtain⟨g2,l2,H2,s2,r⟩:=Ce none ds _ _ g1 k (fun _ _ _ _ h=>by cases h) hR2 (hF.mono s1) h;exact⟨g2,l2,H2,s1.trans s2,r⟩
   grind
  split at h
  ·rename_i id hl;obtain⟨cs0,cs,hk,hle,h⟩:=h;obtain⟨g1,s1,hR1,hv⟩:=hR.freeze hk
   have hF1:FR nt g1 w a (I8 ⟨(d,.v (.eref cs 0))::l,df⟩):=by
    have e:=P3 (df:=df) l (some d) (.v (.eref cs 0))
    rw[show Dv (some d) (.v (.eref cs 0)) l=(d,Sl.v (.eref cs 0))::l from rfl]at e
    rw[e];have hm:=hF.mono s1;refine⟨hm.size,fun t=>?_,hm.df⟩;simp only[Fr.put]
    split
    ·rename_i ht;subst ht;have h0:=hF.s t;have e0:(I8 ⟨l,df⟩).s t= .ref id 0:=Mu l t _ hl (fun _ _ _ h=>by cases h)
     rw[e0]at h0
     exact(hv _ _ h0).erefLe hle
    exact hm.s t
   obtain⟨g2,l2,H2,s2,r⟩:=Ce none ds _ _ g1 k (fun _ _ _ _ h=>by cases h) hR1 hF1 h;exact⟨g2,l2,H2,s1.trans s2,r⟩
  ·rename_i id lo n hl;obtain⟨sz,xs,ys,hk,hle,h⟩:=h;obtain⟨g1,s1,hR1,hv0⟩:=hR.freezeArr hk;have hv:∀v,VR g1 w v (.own id lo n)→VR g1 w v (.sl ys .ro):=fun v hv1=>(hv0 v lo n hv1).le (.sl _ hle)
   have hF1:FR nt g1 w a (I8 ⟨(d,.v (.sl ys .ro))::l,df⟩):=by
    have e:=P3 (df:=df) l (some d) (.v (.sl ys .ro))
    rw[show Dv (some d) (.v (.sl ys .ro)) l=(d,Sl.v (.sl ys .ro))::l from rfl]at e
    rw[e];have hm:=hF.mono s1;refine⟨hm.size,fun t=>?_,hm.df⟩;simp only[Fr.put]
    split
    ·rename_i ht;subst ht;have h0:=hm.s t;have e0:(I8 ⟨l,df⟩).s t= .own id lo n:=Mu l t _ hl (fun _ _ _ h=>by cases h)
     rw[e0]at h0
     exact hv _ h0
    exact hm.s t
   obtain⟨g2,l2,H2,s2,r⟩:=Ce (some (id,lo,n,ys)) ds _ _ g1 k (fun _ _ _ _ h=>by simp_all) hR1 hF1 h;exact⟨g2,l2,H2,s1.trans s2,r⟩
  ·exact Ce none ds _ _ g k (fun _ _ _ _ h=>by cases h) hR hF h
  grind
def Zs (hT:Lf P T){G:List (Nat×Bool)}{o:Oper}{l:Fl}{H:A5}{k:Sl→Prop}(ht:Mv G o l=true)(h:xq (I6 P nt rd) T G o l H k):∃s,k s:=by
 unfold Mv at ht
 unfold xq at h
 split at ht<;>rename_i ho<;>try simp only[ho]at h
 ·grind
 ·grind
 ·grind[QE]
 ·grind[LR]
 ·grind[JA]
 ·grind[Ov]
 ·grind[Ow]
 ·grind[RK]
 ·grind[Ul]
 ·grind[LQ]
 ·grind[QF,KU]
 cases ht
def Vv (hT:Lf P T) {G:List (Nat×Bool)} {o:Oper} {l:Fl} {H:A5} {k:Sl→A5→Prop} (ht:Mv G o l=true) (h:xop (I6 P nt rd) T A G o l H k):∃s,k s H:=by
 have key:xq (I6 P nt rd) T G o l H (fun s=>k s H)→∃s,k s H:=fun h=>Zs hT ht h
 unfold Mv at ht
 unfold xop at h
 split at ht<;>rename_i ho<;>try simp only[ho]at h
 all_goals try exact key h
 ·grind
 ·grind
 ·split at h
  ·split at h
   ·split at h
    ·obtain⟨_,_,_,h⟩:=h;grind
    grind
   grind
  grind
 ·grind
 cases ht
end
section
variable {P:Program}{nt:Nat}{rd:Option Nat}{T:GY}{A:Nat→Bool}{Z:Nat→List Nat}{df:List Nat}
def Ab5 {o o2:Oper}{d:Nat}{t t2:TypeId}{x:Operand}(h:Ab6 A o o2=some (d,t,t2,x)):
 o.op= .alloc t∧o.dst=some d∧o.guard=none∧o2.op= .store t2 (.tmp d) x∧o2.dst=none∧o2.guard=none∧x≠ .tmp d:=by
 unfold Ab6 at h
 grind[Nat.eq_of_beq_eq_true]
def Zt (hT:Lf P T) {ops:Array Oper} {r:Option Nat} {K:Fl→A5→Prop} {Q:Exit→Act→World→Prop} {g0:Gh} {w0:World}
 (hQ:∀g w a l H,W1 g0 w0 g w→Rl g H w→FR nt g w a (I8 ⟨l,df⟩)→K l H→Q .normal a w):
 ∀(m i:Nat) (l:Fl) (H:A5),i+m=ops.size→Ot (I6 P nt rd) T nt A Z ops (ops.toList.drop i) l H K→∀g w a,W1 g0 w0 g w→Rl g H w→FR nt g w a (I8 ⟨l,df⟩)→wpOpsIn (Fw r) 0 P ops Q (List.range' i m) a w:=by
 intro m
 induction m using Nat.strongRecOn with
 |_ m ih=>
 intro i l H hi h g w a s hR hF
 cases m with
 |zero=>
  have:ops.toList.drop i=[]:=by simp;omega
  rw[this]at h
  unfold Ot at h
  exact hQ g w a l H s hR hF h
 | succ m=>
  have hlt:i<ops.toList.length:=by simp;omega
  have hlt':i<ops.size:=by omega
  have hdrop:=S3 hlt
  rw[hdrop]at h
  simp only[LM]at h
  generalize ho:ops[i]=o at h
  simp only[JZ,wpOpsIn,CK hlt',ho]
  unfold Ot at h
  split at h
  ·exact h.elim
  rename_i hd;obtain⟨g1,l1,H1,s1,hR1,hF1,h⟩:=Ce (df:=df) none _ _ _ _ _ (fun _ _ _ _ h=>by cases h) hR hF h;replace s:=s.trans s1;clear s1 hR hF
  revert h hF1 hR1 s
  generalize l1=l,H1=H,g1=g;intro hR hF h s
  have guarded:∀{rest:List Oper},GV nt o.dst=true→rest=ops.toList.drop (i+1)→
   HD (I6 P nt rd) ops o 4 l (fun G l' wr=>xop (I6 P nt rd) T A G o l' H fun s H'=>Ot (I6 P nt rd) T nt A Z ops rest (Dv o.dst (wr s) l') H' K) (fun l'=>Ot (I6 P nt rd) T nt A Z ops rest (Dv o.dst (.v (.tup [])) l') H K)→
   if Region.wanted o (yielded ops a.tmps)then o.wpIn (Fw r) 0 P a w (wpOpsIn (Fw r) 0 P ops Q (List.range' (i+1) m)) Q else(∀f,o.about P w a.eval=some f→(Fw r).fn f)∧wpOpsIn (Fw r) 0 P ops Q (List.range' (i+1) m) (a.put o.dst undef) w:=by
   intro rest hd hrest h;subst hrest;obtain⟨l',e,h⟩:=Ex (df:=df) 4 l h
   have ef:I8 ⟨l',df⟩=I8 ⟨l,df⟩:=by simp_all[I8]
   have hF':FR nt g w a (I8 ⟨l',df⟩):=ef▸hF
   rcases h with⟨hgv,G,wr,hG,hwr,h⟩|⟨hgv,h⟩
   ·have hw:Region.wanted o (yielded ops a.tmps)=true:=X9 hF.s hgv;rw[A2 hw];refine Uo (A:=A) hR hF' hd (PF (df:=df) hT hG h) fun g' w' a' v H' s' hR' hF2 ⟨sl,hv,hK⟩=>?_;subst hv
    rw[←hwr sl,←P3]at hF2
    exact ih m (by omega) (i+1) _ _ (by omega) hK g' w' a' (s.trans s') hR' hF2
   have hw:Region.wanted o (yielded ops a.tmps)=false:=X9 hF.s hgv;rw[A1 (by rw[hw];simp)];refine⟨fun _ _=>trivial,?_⟩;have hput:FR nt g w (a.put o.dst undef) ((I8 ⟨l',df⟩).put o.dst (.tup [])):=hF'.put (EU hd) (VR.und _ _)
   rcases h with h|⟨G,d,want,ht,hb,h⟩
   ·refine ih m (by omega) (i+1) _ _ (by omega) h g w _ s hR ?_;rw[P3];exact hput
   obtain⟨sl,h⟩:=Vv hT ht h;refine ih m (by omega) (i+1) _ _ (by omega) h g w _ s hR ?_;rw[P3]
   simp_all[slV]
  split at h
  ·rename_i hrest;refine guarded hd hrest.symm ?_
   have e:(fun(G:List (Nat×Bool)) (l':Fl) (wr:Sl→Sl)=>xop (I6 P nt rd) T A G o l' H fun s H'=>Ot (I6 P nt rd) T nt A Z ops [] (Dv o.dst (wr s) l') H' K)=fun G l' wr=>xop (I6 P nt rd) T A G o l' H fun s H'=>K (Dv o.dst (wr s) l') H':=by
    funext G l' wr
    have:(fun s H'=>Ot (I6 P nt rd) T nt A Z ops [] (Dv o.dst (wr s) l') H' K)=fun s H'=>K (Dv o.dst (wr s) l') H':=by
     funext s H';unfold Ot;rfl
    rw[this]
   have e2:(fun l'=>Ot (I6 P nt rd) T nt A Z ops [] (Dv o.dst (.v (.tup [])) l') H K)=fun l'=>K (Dv o.dst (.v (.tup [])) l') H:=by
    funext l';unfold Ot;rfl
   rw[e,e2];exact h
  rename_i o2 rest' hrest
  split at h
  ·rename_i d t t2 x hp;obtain⟨p1,p2,p3,p4,p5,p6,p7⟩:=Ab5 hp
   have hw:∀y,Region.wanted o y=true:=fun y=>by simp[Region.wanted,p3]
   rw[A2 (hw _)]
   split at h
   ·rename_i cs hcs
    unfold AT3 at hcs
    split at hcs
    ·rename_i I I2 hI hI2
     split at hcs
     ·rename_i z hz
      have ez:=(H7 hT hI).ze;rw[hz]at ez;simp only[Co]at ez
      split at hcs
      ·rename_i hc;obtain⟨c1,c2,c3,c4⟩:=hc;cases hcs
       have hlen:i+1<ops.toList.length:=by
        grind
       have hlen':i+1<ops.size:=by omega
       have hdrop2:=S3 hlen
       rw[hrest,LM]at hdrop2
       have ho2:ops[i+1]=o2:=by simp_all
       have hr2:rest'=ops.toList.drop (i+2):=by simp_all
       rw[hr2]at h
       obtain⟨m',rfl⟩:∃m',m=m'+1:=⟨m-1,by omega⟩
       refine Uo (A:=A) (K:=fun v H'=>∃id,v= .ref id 0∧H id=none∧H'=upd H id (some (.cells z.cells))) hR hF hd (by
        simp only[Ih,p1]
        exact .inl ⟨z,ez,c1,fun id hid=>⟨_,.refl _,id,rfl,hid,rfl⟩⟩) fun g1 w1 a1 v H1 s1 hR1 hF1 hK1=>?_
       obtain⟨id,rfl,hid,rfl⟩:=hK1;simp only[JZ,wpOpsIn,CK hlen',ho2];rw[A2 (by simp[Region.wanted,p6])]
       have hev:ev ((I8 ⟨l,df⟩).put o.dst (.ref id 0)) x=(U2 [] l x).V:=by
        rw[ES (df:=df) Lj.nil,p2]
        cases x with
        |tmp t=>
         have:t≠d:=fun e=>p7 (by rw[e])
         grind[ev,Fr.put]
        |const _=>rfl
        |global _=>rfl
        |func _=>rfl
       have hev2:ev ((I8 ⟨l,df⟩).put o.dst (.ref id 0)) (.tmp d)= .ref id 0:=by rw[p2];simp[ev,Fr.put]
       refine Uo (A:=A) (K:=fun v H'=>H'=upd (upd H id (some (.cells z.cells))) id (some (.cells (V4 z.cells 0 (U2 [] l x).V.cells)))) hR1 hF1 (by rw[p5];rfl) (by
        simp only[Ih,p4];refine .inl ⟨_,_,.refl _,?_,rfl⟩;simp only[ND,(H7 hT hI2).sz,hev,hev2,E4]
        rw[A2 ⟨c2,c3,by omega⟩]) fun g2 w2 a2 v2 H2 s2 hR2 hF2 hK2=>?_
       subst hK2;obtain⟨g3,s3,hR3,hv3⟩:=hR2.freeze (E4 _ _ _)
       rw[Al,WU _ _ _ hid]at hR3
       refine ih m' (by omega) (i+2) _ H (by omega) h g3 w2 a2 (((s.trans s1).trans s2).trans s3) hR3 ?_
       rw[p5,p2]at hF2
       have hF3:=hF2.mono s3;have e1:=P3 (df:=df) l (some d) (.v (.eref (V4 z.cells 0 (U2 [] l x).V.cells) 0))
       rw[show Dv (some d) (.v (.eref (V4 z.cells 0 (U2 [] l x).V.cells) 0)) l=(d,.v (.eref (V4 z.cells 0 (U2 [] l x).V.cells) 0))::l from rfl]at e1
       rw[e1];refine⟨hF3.size,fun q=>?_,hF3.df⟩;have hq:=hF2.s q;have hq3:=hF3.s q
       simp only[Fr.put]at hq hq3 ⊢
       split
       ·rename_i e;rw[A2 e]at hq;exact hv3 _ _ hq
       simp_all
      cases hcs
     cases hcs
    cases hcs
   grind
  simp_all
end
end Go.Ab
namespace Go.Ab
open Go.RowKit
variable [N9]
def QT (c:Array Value)(A sz:Nat)(f:Nat→Value):Array Value:=(c.toList.take A++(List.range sz).map f++c.toList.drop (A+sz)).toArray
def SR {c:Array Value}{A sz:Nat}{f:Nat→Value}(h:A+sz≤c.size):(QT c A sz f).size=c.size:=by simp[QT];omega
def AN5 {c:Array Value} {A sz:Nat} {f f':Nat→Value} (h:A+sz≤c.size):QT (QT c A sz f) A sz f'=QT c A sz f':=by
 have e1:(QT c A sz f).toList.take A=c.toList.take A:=by
  simp only[QT,G1];rw[Ke (by simp;omega),List.take_take];simp
 have e2:(QT c A sz f).toList.drop (A+sz)=c.toList.drop (A+sz):=by
  simp only[QT];rw[List.drop_append_of_le_length (by simp;omega)];rw[Qv (by simp;omega)];simp
 unfold QT at e1 e2 ⊢
 rw[e1,e2]
def Aj4 {c:Array Value}{A sz:Nat}{f:Nat→Value}(h:A+sz≤c.size){k:Nat}(hk:k<c.size):(QT c A sz f)[k]? =if A≤k∧k<A+sz then some (f (k-A))else c[k]? :=by
 have:=(Aj2 (vs:=(List.range sz).map f) (m:=sz) (A:=A) (c:=c) (by simp) h rfl).2 k hk;rw[show QT c A sz f=(c.toList.take A++(List.range sz).map f++c.toList.drop (A+sz)).toArray from rfl,this]
 split
 ·rename_i hc;rw[Aa,Hz (by omega)];rfl
 rfl
def TY (w:World)(b:Nat)(c c':Array Value):(w.setRow b c).setRow b c'=w.setRow b c':=by
 simp only[World.setRow,Lq,Q0];apply Gc
 ·simp
 intro i h1 h2;simp only[LK]
 split
 ·cases w.heap[i]'(by simpa using h1)<;>rfl
 rfl
def Xn (w:World){b b':Nat}(c c':Array Value)(h:b≠b'):(w.setRow b c).setRow b' c'=(w.setRow b' c').setRow b c:=by
 simp only[World.setRow,Lq,Q0];apply Gc
 ·simp
 intro i h1 h2;simp only[LK]
 by_cases e1:b=i<;>by_cases e2:b'=i
 ·omega
 ·simp[e1,e2]
 ·simp[e1,e2]
 simp[e1,e2]
def WG (w:World)(C C':Array Value)(e:TypeId):(w.alloc (.cells C e)).setRow w.heap.size C'=w.alloc (.cells C' e):=by
 simp only[World.alloc,World.setRow,Lq,Q0];apply Gc
 ·simp
 intro i h1 h2;simp only[LK,Array.getElem_push]
 have:i<w.heap.size+1:=by simpa using h2
 by_cases e:w.heap.size=i
 ·subst e;simp
 rw[A1 e]
 have:i<w.heap.size:=by omega
 simp[this]
section
variable {P:Program}{H:A5}
def LX {w:World} {b A sz:Nat} {c:Array Value} {T:TypeId} {f:Nat→Value} (hw:w.heap[b]? =some (.cells c T (0,0))) (h:A+sz≤c.size) (hf:∀j,j<sz→(f j).oneCell'=true):
 (storeCells ⟨b,A,none⟩ ((List.range sz).map f)).run P w= .ok () (w.setRow b (QT c A sz f)):=by
 have:=run_storeCells_at P b A T ((List.range sz).map f) 0 c w hw (by simp;omega) (by
  intro v hv;obtain⟨k,hk,rfl⟩:=List.mem_map.1 hv
  exact hf k (List.mem_range.1 hk))
 simpa[QT]using this
def Ae5 {g:Gh} {w:World} (hR:Rl g H w) {sT yT e ty:TypeId} {sz by_:Nat} {z:V} {xs:List V} {tl:E7} {vs:Value} (hvs:VR g w vs (.sl xs tl)) (he:Fd P sT=some e) (hyT:(Fd P yT).isSome=true) (hsz:Ev P e=some sz) (hpos:0<sz) (hby:Qj P e=some by_) (hbp:0<by_)
 (hz:ID P e=some z) (hz1:z.one=true) (hzl:z.cells.length=sz) (hA:Fb H tl) (hax:xs.all (fun x=>x.cells.length==sz)=true) (hbound:(xs.length+1)*by_≤140737488355328):
 ∃ (b off G:Nat) (W:(Nat→Value)→World) (C:(Nat→Value)→Array Value) (T:TypeId),
  (∀(y0:V) (tl':E7) (vy:Value),VR g w vy (.sl [y0] tl')→y0.cells.length=sz→∃f0,(∀j,j<sz→(f0 j).oneCell'=true)∧(Builtin.append_ #[sT,yT] ty #[vs,vy]).run P w= .ok (.slice (some ⟨b,off,none⟩) (xs.length+1) G) (W f0))∧
  xs.length+1≤G∧
  (∀f,(W f).heap[b]? =some (.cells (C f) T (0,0))∧off+xs.length*sz+sz≤(C f).size)∧
  (∀f f',(W f).setRow b (QT (C f) (off+xs.length*sz) sz f')=W f')∧
  (∀x,x≠b→x<w.heap.size→∀f,(W f).heap[x]? =w.heap[x]?)∧
  (∀id x,g.at (G0 H tl) id=some x→x≠b)∧
  (∀(vV:V) (f:Nat→Value),vV.cells.length=sz→(∀j,j<sz→(f j).oneCell'=true∧VR g w (f j) (vV.cells.getD j .bad))→
   ∃g' t,W1 g w g' (W f)∧G0 H tl t=none∧Rl g' (upd (G0 H tl) t (some .spare)) (W f)∧VR g' (W f) (.slice (some ⟨b,off,none⟩) (xs.length+1) G) (.sl (xs++[vV]) (.tok t))):=by
 obtain⟨base,cap,fs,es,hcap,hfs,hrs,hbs⟩:=Eh (P:=P) hvs hax;have hu:=Q9 he;obtain⟨e',hyT'⟩:=Option.isSome_iff_exists.1 hyT;have huy:=Q9 hyT';obtain⟨zv,ez,hzv⟩:=Dg hz
 have hzr:VR g w zv z:=by rw[ez];exact Ec g w zv
 have hzs:zv.cells.size=sz:=by rw[(hzr.cells hz1).1,hzl]
 have hbytes:∀w,(typeInfo e).run P w= .ok ((P.info? e).getD default) w∧((P.info? e).getD default).bytes=by_:=by
  intro w
  unfold Qj at hby
  cases hi:P.info? e with
  |none=>simp[hi]at hby
  |some i=>simp[hi]at hby;simp[typeInfo,hi,hby]
 have hbi:∀w,(typeInfo e).run P w= .ok ((P.info? e).getD default) w:=fun w=>(hbytes w).1;have hbb:=(hbytes w).2;have hR1:Rl g (G0 H tl) w:=hR.less fun id b hb=>EV hb;have hlenx:=GB hax
 have hlenxy:∀(vV:V),vV.cells.length=sz→∀i,i<xs.length+1→((xs++[vV]).getD i .bad).cells.length=sz:=fun vV hv i hi=>by
  rw[GC];split
  ·exact hlenx i (by assumption)
  rw[show i-xs.length=0 by omega];exact hv
 have hsrc:∀(y0:V) (tl':E7) (vy:Value),VR g w vy (.sl [y0] tl')→y0.cells.length=sz→∃ybase ycap f0,vy= .slice ybase 1 ycap∧(∀j,j<sz→(f0 j).oneCell'=true)∧
  ∀w':World,(∀b o,w'.cell? ⟨b,o,none⟩=w.cell? ⟨b,o,none⟩)→(Builtin.firstCells sz 1 vy).run P w'= .ok ((List.range sz).map f0).toArray w':=fun y0 tl' vy hvy hy0=>by
  obtain⟨ybase,ycap,fy,ey,_,hfy,hry,_⟩:=Eh (P:=P) (sz:=sz) hvy (by simp[hy0]);refine⟨ybase,ycap,fun j=>fy 0 j,ey,fun j hj=>(hfy 0 j (by simp) hj).1,fun w' hw'=>?_⟩;have:=hry w' hw'
  simp only[IB,BV]at this
  rw[this];refine P9 (fun l:List Value=>Result.ok l.toArray w') (DR fun k hk=>?_);have hk':=List.mem_range.1 hk;rw[Nat.div_eq_of_lt hk',Nat.mod_eq_of_lt hk']
 have hvals:∀(vV:V) (f:Nat→Value),(∀j,j<sz→(f j).oneCell'=true∧VR g w (f j) (vV.cells.getD j .bad))→∀(g':Gh) (w':World),W1 g w g' w'→∀i j,i<xs.length+1→j<sz→(if i<xs.length then fs i j else f j).oneCell'=true∧
  VR g' w' (if i<xs.length then fs i j else f j) (((xs++[vV]).getD i .bad).cells.getD j .bad):=by
  intro vV f hf g' w' st i j hi hj;rw[GC]
  split
  ·rename_i hlt;exact⟨(hfs i j hlt hj).1,(hfs i j hlt hj).2.mono st⟩
  rw[show i-xs.length=0 by omega];exact⟨(hf j hj).1,(hf j hj).2.mono st⟩
 have hn63:¬(IntKind.i64.max<((xs.length+1:Nat):Int)∧(False∨by_=0)):=by
  rintro⟨_,hF|hF⟩
  ·exact hF
  omega
 by_cases hc:xs.length+1≤cap
 ·
  rcases hbs with⟨hx0,hc0|hc0,_⟩|⟨b,q,hbase,hcell,_,sz',hsz',htl⟩
  ·subst hx0;simp at hc;omega
  ·subst hc0;exact hA.elim
  cases tl with
  |nil=>exact htl.elim
  |ro=>exact hA.elim
  |full=>simp only[GP]at htl;omega
  | tok t=>
   obtain⟨hn0,lim,ht1,ht2⟩:=htl;have:=hsz' hn0;subst this;have hA':H t=some .spare:=hA;obtain⟨b2,e2,lim2,c,T,k1,k2,k3,k4,k5,k6⟩:=hR.blk t _ hA'
   rw[ht1]at k1
   simp only[E6,Lo]at k1
   obtain⟨rfl,rfl,rfl⟩:=k1;have hcapsz:(xs.length+1)*sz'≤cap*sz':=K5 _ hc
   have hadd:(xs.length+1)*sz'=xs.length*sz'+sz':=by rw[I1,BV]
   have hfit:q+xs.length*sz'+sz'≤c.size:=by omega
   have hnown:∀id x,g.at (G0 H (.tok t)) id=some x→x≠b:=by
    rintro id x hid rfl
    have hat:g.at H t=some x:=by simp[Gh.at,hA',ht1]
    by_cases hid':id=t
    ·subst hid';simp[Gh.at,G0,E4]at hid
    have:g.at H id=some x:=by simpa only[Gh.at,G0,D2 _ _ hid']using hid
    exact hid' (hR.inj _ _ _ this hat)
   refine⟨b,q,cap,fun f=>w.setRow b (QT c (q+xs.length*sz') sz' f),fun f=>QT c (q+xs.length*sz') sz' f,T,fun y0 tl' vy hvy hy0=>?_,hc,fun f=>?_,fun f f'=>?_,fun x hx _ f=>R0 w b _ x hx,hnown,fun vV f hv hf=>?_⟩
   ·obtain⟨ybase,ycap,f0,ey,hf0,hry⟩:=hsrc y0 tl' vy hvy hy0;refine⟨f0,hf0,?_⟩;have hst:=LX (P:=P) (f:=f0) k3 hfit hf0;have hry':=hry w fun _ _=>rfl
    rw[ey]at hry' ⊢
    rw[es,hbase]
    simp only[Builtin.append_,C6,run_underlying hu,C1,Q3 hsz,run_underlying huy,D1,Builtin.lenOf,W7,V3,
     Bm,Cb,D6,C7,Bj,B4,A2 hc,hry',Aj,hst]
   ·exact⟨setRow_heap w b c _ T (0,0) k3,by rw[SR hfit];exact hfit⟩
   ·rw[TY,AN5 hfit]
   dsimp only
   have hCg:∀k,k<c.size→(QT c (q+xs.length*sz') sz' f)[k]? =if q+xs.length*sz'≤k∧k<q+xs.length*sz'+sz' then some (f (k-(q+xs.length*sz')))else c[k]? :=fun k hk=>Aj4 hfit hk
   generalize hC:QT c (q+xs.length*sz') sz' f=C at hCg
   have hCs:C.size=c.size:=by rw[←hC];exact SR hfit
   have hcellp:∀x o,g.fz x o→(w.setRow b C).cell? ⟨x,o,none⟩=w.cell? ⟨x,o,none⟩:=by
    intro x o hf
    by_cases hx:x=b
    ·subst hx
     have ho:o<q+xs.length*sz':=by
      rcases Q6 o (q+xs.length*sz')with h|h
      ·exact h
      exact absurd hf (k6 o h)
     have hw':(w.setRow x C).heap[x]? =some (.cells C T (0,0)):=setRow_heap w x c C T (0,0) k3;simp only[World.cell?,hw',k3,Fm,D6,C7];rw[hCg o (by omega),A1 (by omega)]
    exact CB w b C x o hx
   have hbel:Below g.base w (w.setRow b C):=Hk w b C k2
   have hRn:=Rl.tok (e0:=q+xs.length*sz') (e:=q+(xs.length+1)*sz') (lim:=c.size) hR1 k2 (setRow_heap w b c C T (0,0) k3) hCs (by omega) k6 (by omega) hcellp hbel
    (fun x hx _=>R0 w b C x hx) (fun id hid=>hnown id _ hid rfl)
   have hStp:=W1.tok hR1 b (q+xs.length*sz') (q+(xs.length+1)*sz') c.size hcellp hbel;refine⟨_,g.nx,hStp,(hR1.nxt _ (D5 _)).2.2,hRn,?_⟩
   refine .sl (sz:=sz') (fun i j=>if i<xs.length then fs i j else f j) (by simp) hc (fun i hi=>hlenxy vV hv i hi) (fun i j hi hj=>?_) (fun i j hi hj=>?_)
    (fun i j hi hj=>(hvals vV f hf _ _ hStp i j hi hj).1) (fun i j hi hj=>(hvals vV f hf _ _ hStp i j hi hj).2) ?_
   ·by_cases hix:i<xs.length
    ·exact .inl (hcell i j hix hj).1
    have h2:=DC hi hj;have h1:xs.length*sz'≤i*sz':=K5 _ (by omega);exact .inr ⟨rfl,by omega,by omega⟩
   ·have h2:=DC hi hj;have hw':(w.setRow b C).heap[b]? =some (.cells C T (0,0)):=setRow_heap w b c C T (0,0) k3
    by_cases hix:i<xs.length
    ·rw[A2 hix];exact(hcellp b _ (hcell i j hix hj).1).trans (hcell i j hix hj).2
    rw[A1 hix]
    have h1:i=xs.length:=by omega
    subst h1;simp only[World.cell?,hw',Fm,D6,C7];rw[hCg _ (by omega),A2 (by omega),show q+xs.length*sz'+j-(q+xs.length*sz')=j by omega]
   refine⟨by omega,c.size,?_,by omega⟩;simp[Gh.tok]
 have hnf:¬(2 ^ 48<Builtin.nextslicecap (xs.length+1) cap*by_):=by
  have:=growslice_fits (Iv hc) hbound;omega
 have hdr:∀b o,w.drew.cell? ⟨b,o,none⟩=w.cell? ⟨b,o,none⟩:=fun _ _=>rfl;generalize hG:grownCap w (xs.length+1) cap e=G
 have hGe:xs.length+1≤G:=by rw[←hG];exact grownCap_ge w _ _ _
 have hGs:(xs.length+1)*sz≤G*sz:=K5 _ hGe
 have hadd:(xs.length+1)*sz=xs.length*sz+sz:=by rw[I1,BV]
 generalize hO:((List.range (xs.length*sz)).map fun k=>fs (k / sz) (k % sz))=O at *
 have hOl:O.length=xs.length*sz:=by rw[←hO];simp
 generalize hZ:Builtin.zeroCells zv.cells (G-(xs.length+1))=Z at *
 have hZs:Z.size=G*sz-(xs.length+1)*sz:=by rw[←hZ,size_zeroCells,hzs,CE]
 have hCs:∀f:Nat→Value,(O.toArray++((List.range sz).map f).toArray++Z).size=G*sz:=fun f=>by
  simp only[LH,Hv,Q7,CG,hOl,hZs];omega
 have hCg:∀(f:Nat→Value) k,k<(xs.length+1)*sz→(O.toArray++((List.range sz).map f).toArray++Z)[k]? =some (if k<xs.length*sz then fs (k / sz) (k % sz)else f (k-xs.length*sz)):=by
  intro f k hk;rw[HC,A2 (by simp[hOl];omega),HC];simp only[Hv,hOl,V3,Aa]
  split
  ·rw[←hO,Aa,Hz (by assumption)];rfl
  rw[Hz (by omega)];rfl
 refine⟨w.heap.size,0,G,fun f=>w.drew.alloc (.cells (O.toArray++((List.range sz).map f).toArray++Z) e),fun f=>O.toArray++((List.range sz).map f).toArray++Z,e,fun y0 tl' vy hvy hy0=>?_,hGe,fun f=>⟨BK (w:=w.drew),by rw[hCs];omega⟩,fun f f'=>?_,
  fun x hx hlt f=>heap_alloc (w:=w.drew) hlt,fun id x hid e=>absurd (e▸hR1.lt hid) (T9 _),fun vV f hv hf=>?_⟩
 ·obtain⟨ybase,ycap,f0,ey,hf0,hry⟩:=hsrc y0 tl' vy hvy hy0;refine⟨f0,hf0,?_⟩;have hGd:(Question.appendCap (xs.length+1) cap e).cut (w.tape w.drawn (.appendCap (xs.length+1) cap e))=G:=hG;have hf:(Question.appendCap (xs.length+1) cap e).forced=false:=rfl;have hrs':=hrs w.drew hdr;have hry':=hry w.drew hdr
  rw[es]at hrs' ⊢;rw[ey]at hry' ⊢
  simp only[Builtin.append_,C6,run_underlying hu,C1,Q3 hsz,run_underlying huy,D1,Builtin.lenOf,W7,hbi,hbb,V3,
   Bm,Cb,D6,C7,Bj,B4,gt_iff_lt,false_or,A1 hc,A1 hnf,run_choose,hf,hGd,Io,run_askRoom,hrs',hry',hzv,newRow,run_newObj,
   Eg,Ir,hO,hZ]
  rw[A1 (by simpa using hn63)]
 ·rw[show w.heap.size=w.drew.heap.size from rfl,WG]
  congr 2
  apply Array.ext';simp only[QT,L8,Array.toList_append,List.toList_toArray,G1];rw[Ke (by omega),S2 (by omega),show xs.length*sz+sz=O.length+sz by omega,←Gk,List.drop_left]
  congr 1
  congr 1
  exact List.drop_left' (by simp)
 have hcellp:∀x o,g.fz x o→(w.drew.alloc (.cells (O.toArray++((List.range sz).map f).toArray++Z) e)).cell? ⟨x,o,none⟩=w.cell? ⟨x,o,none⟩:=fun x o hf=>Db (w:=w.drew) (hR.fz_lt hf);have hbel:Below g.base w (w.drew.alloc (.cells (O.toArray++((List.range sz).map f).toArray++Z) e)):=(W6 _ _).drew.alloc hR.bnd _
 have hnown:∀id,g.at (G0 H tl) id≠some w.heap.size:=fun id hid=>absurd (hR1.lt hid) (T9 _)
 have hRn:=Rl.tok (e0:=0) (e:=(xs.length+1)*sz) (lim:=G*sz) hR1 hR.bnd (BK (w:=w.drew) (o:=.cells (O.toArray++((List.range sz).map f).toArray++Z) e)) (hCs f) hGs (fun o _ hf=>absurd (hR.fz_lt hf) (T9 _)) (BW _) hcellp hbel
  (fun x hx hlt=>heap_alloc (w:=w.drew) hlt) hnown
 have hStp:=W1.tok hR1 w.heap.size 0 ((xs.length+1)*sz) (G*sz) hcellp hbel;refine⟨_,g.nx,hStp,(hR1.nxt _ (D5 _)).2.2,hRn,?_⟩
 refine .sl (sz:=sz) (fun i j=>if i<xs.length then fs i j else f j) (by simp) hGe (fun i hi=>hlenxy vV hv i hi) (fun i j hi hj=>.inr ⟨rfl,BW _,by have:=DC hi hj;omega⟩) (fun i j hi hj=>?_)
  (fun i j hi hj=>(hvals vV f hf _ _ hStp i j hi hj).1) (fun i j hi hj=>(hvals vV f hf _ _ hStp i j hi hj).2) ?_
 ·have h2:=DC hi hj;rw[show(⟨w.heap.size,0+i*sz+j,none⟩:Addr)=⟨w.drew.heap.size,i*sz+j,none⟩ by simp];rw[Ps (w:=w.drew),hCg f _ h2]
  congr 1
  by_cases hix:i<xs.length
  ·have h3:=DC hix hj;rw[A2 h3,A2 hix,(S6 hj).1,(S6 hj).2]
  have h1:i=xs.length:=by omega
  subst h1;rw[A1 (by omega),A1 hix,show xs.length*sz+j-xs.length*sz=j by omega]
 refine⟨by omega,G*sz,?_,by simp⟩;simp[Gh.tok]
end
end Go.Ab
namespace Go.Ab
open Go.RowKit
variable [N9][Ar]
section
variable {P:Program}{nt:Nat}{ops:Array Oper}{H0:A5}
def JP (A:Nat→Bool):List Nat→Pv→Fr→A5→(Fr→A5→Prop)→Prop
 |[],_,fr,H,K=>K fr H
 |d::ds,pv,fr,H,K=>
  match pv (.inl d)with
  |some cs=>if A d then∀id,H id=none→JP A ds pv (fr.put (some d) (.ref id 0)) (upd H id (some (.cells cs))) K else JP A ds pv (fr.put (some d) (.eref cs 0)) H K
  |none=>False
def SI {A:Nat→Bool} {w:World} {a:Act} {ids:Pk→Nat} {pv:Pv} {K:Fr→A5→Prop} (hinj:∀d d' cs cs',pv d=some cs→pv d'=some cs'→d.var=true→d'.var=true→ids d=ids d'→d=d'):
 ∀(ds:List Nat) (fr:Fr) (g:Gh) (H H1:A5),Rl g H w→ds.Nodup→(∀d∈ds,∀cs,pv (.inl d)=some cs→H (ids (.inl d))=some (.cells cs)∧∃b,g.mu (ids (.inl d))=some b∧a.tmps.getD d undef= .pointer (some ⟨b,0,none⟩))→
  (∀id b,H1 id=some b→H id=some b)→(∀d∈ds,∀cs,pv (.inl d)=some cs→H1 (ids (.inl d))=none)→FR nt g w a fr→JP A ds pv fr H1 K→∃g' fr' H',W1 g w g' w∧Rl g' H' w∧FR nt g' w a fr'∧K fr' H'
 |[],fr,g,H,H1,hR,_,_,hl,_,hF,h=>⟨g,fr,H1,W1.refl _ _,hR.less hl,hF,h⟩
 | d::ds,fr,g,H,H1,hR,hnd,hpv,hl,hfr,hF,h=>by
  simp only[JP]at h
  have hnd':=List.nodup_cons.1 hnd
  split at h
  ·rename_i cs hcs;obtain⟨k1,b,k2,k3⟩:=hpv d (by simp) cs hcs
   split at h
   ·refine SI hinj ds _ g H _ hR hnd'.2 (fun d' hd'=>hpv d' (by simp[hd'])) (fun id bk hb=>?_) (fun d' hd' cs' hp=>?_) ?_ (h (ids (.inl d)) (hfr d (by simp) cs hcs))
    ·grind[upd]
    ·grind[upd,Pk.var]
    refine⟨hF.size,fun t=>?_,hF.df⟩;simp only[Fr.put]
    split
    ·rename_i e;subst e;rw[k3];exact .ref k2
    exact hF.s t
   obtain⟨g',s,hR',hv⟩:=hR.freeze k1;have hF':=hF.mono s
   have e1:∀d'∈ds,∀cs',pv (.inl d')=some cs'→(upd H (ids (.inl d)) none) (ids (.inl d'))=some (.cells cs')∧∃b,g'.mu (ids (.inl d'))=some b∧a.tmps.getD d' undef= .pointer (some ⟨b,0,none⟩):=fun d' hd' cs' hp=>by
    obtain⟨q1,b',q2,q3⟩:=hpv d' (by simp[hd']) cs' hp;have hne:ids (.inl d')≠ids (.inl d):=fun e=>absurd (hinj _ _ _ _ hp hcs rfl rfl e) fun x=>hnd'.1 (by simp_all);exact⟨by rw[D2 _ _ hne];exact q1,b',s.mu _ _ q2,q3⟩
   have e2:∀id bk,H1 id=some bk→(upd H (ids (.inl d)) none) id=some bk:=fun id bk hb=>by
    have hne:id≠ids (.inl d):=fun e=>by simp_all
    rw[D2 _ _ hne];grind
   have e3:FR nt g' w a (fr.put (some d) (.eref cs 0)):=by
    refine⟨hF'.size,fun t=>?_,hF'.df⟩;simp only[Fr.put]
    split
    ·rename_i e;subst e;rw[k3];exact hv _ _ (.ref k2)
    exact hF'.s t
   obtain⟨g2,fr2,H2,s2,r⟩:=SI hinj ds _ g' _ H1 hR' hnd'.2 e1 e2 (fun d' hd'=>hfr d' (by simp[hd'])) e3 h;exact⟨g2,fr2,H2,s.trans s2,r⟩
  grind
abbrev Tk:=List (Nat×List V)
def pvW (W:Tk)(ex:Option E7):Pv
 | .inl _=>none
 | .inr id=>(W.find? fun p=>p.1==id).map (·.2)
 | .tk _=>none
 | .ex=>ex.map fun τ=>[.sl [] τ]
def Jx (H:A5):Option E7→A5
 |some τ=>G0 H τ
 |none=>H
def Kz (dx:Option Nat)(pv:Pv)(fr:Fr)(H:A5)(K:Fr→A5→Prop):Prop:=
 match dx with
 |none=>K fr H
 |some d=>∃xs,(pv (.tk d)).isSome=true∧fr.s d= .sl xs .ro∧(∀tl,tl= .nil∨tl= .full→K (fr.put (some d) (.sl xs tl)) H)∧∀t,H t=none→K (fr.put (some d) (.sl xs (.tok t))) (upd H t (some .spare))
theorem Od {H:A5} {ex:Option E7} {id:Nat} {b:Ds} (h:Jx H ex id=some b):H id=some b∧∀t,ex=some (.tok t)→id≠t:=by
 cases ex with
 |none=>simp_all[Jx]
 | some τ=>
  cases τ with
  |tok t=>
   simp_all[Jx,G0,upd]
  |_=>exact⟨h,fun t ht=>by cases ht⟩
def FM (H:A5):Tk→A5
 |[]=>H
 |(id,_)::W=>upd (FM H W) id none
def UW:Tk→Pv→A5→(A5→Prop)→Prop
 |[],_,H,K=>K H
 |(id,_)::W,pv,H,K=>UW W pv H fun H'=>match pv (.inr id)with|some cs=>K (upd H' id (some (.cells cs)))|none=>False
theorem LT {H:A5}:∀{W:Tk} {id:Nat} {b:Ds},FM H W id=some b→H id=some b∧∀p∈W,p.1≠id
 |[],id,b,h=>⟨h,fun p hp=>by simp at hp⟩
 |(i,c)::W,id,b,h=>by
  simp only[FM]at h
  by_cases e:id=i
  ·simp_all[upd]
  rw[D2 _ _ e]at h
  obtain⟨h1,h2⟩:=LT h
  grind
def Ox {H:A5}:∀{W:Tk} {p:Nat×List V},p∈W→FM H W p.1=none
 |(i,c)::W,p,h=>by
  simp only[FM]
  by_cases e:p.1=i
  ·rw[e,E4]
  rw[D2 _ _ e]
  rcases List.mem_cons.1 h with rfl|h
  ·omega
  exact Ox h
def Ys {Hw:A5} {pv:Pv} (hpv:∀id cs,pv (.inr id)=some cs→Hw id=some (.cells cs)):∀(W:Tk) (H:A5) (K:A5→Prop),(∀id b,H id=some b→Hw id=some b)→UW W pv H K→∃H',(∀id b,H' id=some b→Hw id=some b)∧(∀id,H' id≠none→H id≠none∨∃cs,pv (.inr id)=some cs)∧K H'
 |[],H,K,hl,h=>⟨H,hl,fun id hn=>.inl hn,h⟩
 |(i,c)::W,H,K,hl,h=>by
  simp only[UW]at h
  obtain⟨H',h1,h2,h3⟩:=Ys hpv W H _ hl h
  grind[upd]
end
def KR (P:Program)(nt:Nat)(rd:Option Nat)(ops:Array Oper)(fr:Fr)(H:A5)(Q:Exit→Fr→A5→Prop):Prop:=
 ∀r g w a,Au2 g rd r→Rl g H w→FR nt g w a fr→wpAnyIn (Fw r) 0 P .any ops (Vs nt g w Q) ops.size (Array.replicate ops.size false) a w.drew
def W4.of_any {P:Program}{nt id:Nat}{rd:Option Nat}{ops:Array Oper}{fr:Fr}{H:A5}{Q:Exit→Fr→A5→Prop}(hm:P.follows .mixedOrders=true)(h:KR P nt rd ops fr H Q):W4 P nt rd (.region id ops true) fr H Q:=
 fun r g w a hr hR hF=>wpIn_region_any hm (h r g w a hr hR hF)
section
variable {P:Program}{nt:Nat}{ops:Array Oper}{H0:A5}
def KR.drawF {A:TP} {rd:Option Nat} {k:Nat} {al:List Nat} {W:Tk} {ex:Option E7} {dx:Option Nat} {fr:Fr} {Q:Exit→Fr→A5→Prop} (hok:Tt ops k=true) (hnd:al.Nodup)
 (hX:∀τ,ex=some τ→Fb H0 τ) (hW:∀p∈W,Jx H0 ex p.1=some (.cells p.2))
 (h:JX P nt ops (FM (Jx H0 ex) W) (ops.toList.take k) fr (pvW W ex) fun fr' pv=>UW W pv (FM (Jx H0 ex) W) fun H1=>Kz dx pv fr' H1 fun fr1 H2=>JP A al pv fr1 H2 fun fr'' H=>Jp P A nt ops (ops.toList.drop k) fr'' H (Q .normal)):KR P nt rd ops fr H0 Q:=by
 intro r g w a _ hR hF;obtain⟨hk,hat⟩:=As9 hok;have sd:W1 g w g w.drew:=⟨fun _ _ e=>e,fun _ _ e=>e,fun _ _ e=>e,rfl,fun _ _ _=>rfl,(W6 _ _).drew,fun _ _ _=>rfl,Ed _⟩
 have hRd:Rl g H0 w.drew:=by
  refine⟨fun id b hb=>(hR.blk id b hb).mono hb sd fun _ _=>⟨rfl,fun _ ho=>ho⟩,hR.inj,hR.frz,hR.nxt,hR.bnd,fun n=>(hR.glb n).mono sd⟩
 have hI:Af2 nt (FM (Jx H0 ex) W) g w.drew fr (pvW W ex) g w.drew a:=by
  refine⟨H0,fun k=>match k with| .inl _=>0| .inr n=>n| .tk _=>0| .ex=>0,W1.refl _ _,hRd,hF.mono sd,fun id b hb=>(Od (LT hb).1).1,fun d cs h hv=>?_,fun d d' cs cs' h h' hv hv' e=>?_,fun _=>none,fun d cs h=>(by cases h),fun d d' cs cs' t h=>(by cases h),fun cs h=>?_⟩
  ·cases d with
   |inl d=>cases h
   | inr n=>
    simp only[pvW]at h
    cases hf:W.find? fun p=>p.1==n with
    |none=>rw[hf]at h;cases h
    |some p=>
     rw[hf]at h
     simp only[K4,E6]at h
     have hp:=QA hf
     have hn:p.1=n:=by have:=List.find?_some hf;simp_all
     subst h;subst hn;exact⟨(Od (hW p hp)).1,Ox hp,rfl⟩
   |tk d=>cases h
   |ex=>cases hv
  ·cases d with
   |inl d=>cases h
   |tk d=>cases h
   |ex=>cases hv
   |inr n=>
    cases d' with
    |inl d'=>cases h'
    |tk d'=>cases h'
    |ex=>cases hv'
    |inr n'=>simp_all
  cases hx:ex with
  |none=>rw[hx]at h;cases h
  | some τ=>
   rw[hx]at h
   cases h;refine⟨τ,rfl,?_⟩;have hA:=hX τ hx
   cases τ with
   |nil=>simp_all
   |full=>simp_all
   |ro=>exact hA.elim
   |tok t=>
    refine .inr ⟨t,rfl,hA,?_,fun d cs' h=>by cases h⟩
    cases hn:FM (Jx H0 (some (.tok t))) W t with
    |none=>rfl
    |some b=>grind[Od,LT]
 have hmap:(List.range k).map (fun i=>ops.getD i default)=ops.toList.take k:=by
  apply Lz
  ·simp;omega
  intro i h1 h2
  simp at h1
  simp[Array.getD,show i<ops.size by omega]
 have hb:=TH (r:=r) (Q:=Vs nt g w Q) hk (fun i hi=>⟨(hat i hi).1,fun j hj=>((hat i hi).2 j hj).imp (fun h=>h) .inl⟩) (K:=fun fr' pv=>UW W pv (FM (Jx H0 ex) W) fun H1=>Kz dx pv fr' H1 fun fr1 H2=>JP A al pv fr1 H2 fun fr'' H=>Jp P A nt ops (ops.toList.drop k) fr'' H (Q .normal)) (g0:=g) (w0:=w.drew)
  (fun g' w' a' fr' pv listed hsz hl hI' hK=>?_) k (List.range k) (Array.replicate ops.size false) fr (pvW W ex) (by simp) (Qu) (fun i hi=>by grind) (by simp) (fun i b hi=>by simp_all) (fun m j hm _=>by simp[Array.getD]at hm) (by rw[hmap];exact h) g w.drew a hI
 ·rw[show k+(ops.size-k)=ops.size by omega]at hb
  exact hb
 obtain⟨H,ids,s,hR',hF',hext,hpv,hinj,tks,htk,_⟩:=hI'
 have hex:∀n cs,pv (.inr n)=some cs→H n=some (.cells cs):=fun n cs hn=>by
  obtain⟨k1,_,k3⟩:=hpv _ cs hn rfl;have k3:ids (.inr n)=n:=k3
  rwa[k3]at k1
 obtain⟨H1,g1,g2,hK⟩:=Ys hex W _ _ hext hK
 have hfree:∀d cs,pv (.inl d)=some cs→H1 (ids (.inl d))=none:=fun d cs hd=>by
  obtain⟨k1,k2,_⟩:=hpv _ cs hd rfl
  cases hn:H1 (ids (.inl d))with
  |none=>rfl
  |some b=>
   exfalso
   rcases g2 _ (by rw[hn];simp)with h|⟨cs',hp⟩
   ·exact h k2
   have k3:ids (.inr (ids (.inl d)))=ids (.inl d):=(hpv _ cs' hp rfl).2.2;cases hinj _ _ _ _ hp hd rfl rfl k3
 have hmid:∃fr1 H1',FR nt g' w' a' fr1∧(∀id b,H1' id=some b→H id=some b)∧(∀d cs,pv (.inl d)=some cs→H1' (ids (.inl d))=none)∧JP A al pv fr1 H1' fun fr'' H=>Jp P A nt ops (ops.toList.drop k) fr'' H (Q .normal):=by
  rcases dx with _|d
  ·exact⟨fr',H1,hF',g1,hfree,hK⟩
  simp only[Kz]at hK
  obtain⟨xs,e1,e2,e3,e4⟩:=hK;obtain⟨c,hc⟩:=Option.isSome_iff_exists.1 e1;obtain⟨xs',tl,q1,q2,q3⟩:=htk d c hc
  rw[e2]at q1
  cases q1
  have hFR:FR nt g' w' a' (fr'.put (some d) (.sl xs tl)):=by
   refine⟨hF'.size,fun t=>?_,hF'.df⟩;simp only[Fr.put]
   split
   ·simp_all
   exact hF'.s t
  rcases q3 with⟨_,q⟩|⟨t,_,q,q4,q5⟩
  ·grind
  subst q
  have ht:H1 t=none:=by
   grind
  refine⟨_,_,hFR,fun id b hb=>?_,fun d' cs hd'=>?_,e4 t ht⟩
  ·grind[E4,D2]
  have hne:ids (.inl d')≠t:=fun e=>by
   have:=(hpv _ cs hd' rfl).1
   rw[e,q4]at this;cases this
  rw[D2 _ _ hne];simp_all
 obtain⟨fr1,H1',hF1,g1',hfree',hK⟩:=hmid
 obtain⟨g3,fr2,H2,s2,hR2,hF2,hK2⟩:=SI hinj al fr1 g' H H1' hR' hnd (fun d _ cs hd=>by
  obtain⟨k1,_,_,b,k4,k5⟩:=hpv _ cs hd rfl
  simp_all) g1' (fun d _ cs hd=>hfree' d cs hd) hF1 hK
 exact RQ (A:=A) (r:=r) (K:=Q .normal) (k:=k) (fun i hi=>⟨(hat i hi).1,fun j hj hkj=>((hat i hi).2 j hj).elim (fun h=>h) fun h=>absurd h.1 (by omega)⟩) (g0:=g) (w0:=w) (fun g3 w3 a3 fr3 H3 s3 hR3 hF3 hK3=>⟨g3,fr3,H3,s3,hR3,hF3,hK3⟩) (ops.size-k) k listed fr2 H2 (by omega) (by omega) hsz hl hK2 g3 w' a' ((sd.trans s).trans s2) hR2 hF2
end
end Go.Ab
namespace Go.Ab
open Go.RowKit
variable [N9]
structure TN where
 sx:Operand
 sy:Operand
 nn:Operand
 zz:Operand
 sT:TypeId
 yT:TypeId
 t2:TypeId
 eT:TypeId
 t3:TypeId
 tA:Nat
 tI:Nat
 tp:Nat
structure Bb1 (ops:Array Oper) (nt k:Nat) (p:TN):Prop where
 lt:k+3<ops.size
 a1:(ops.getD k default).op= .call {callee:=.builtin .append,args:= #[p.sx,p.sy],argTypes:= #[p.sT,p.yT]}
 a2:(ops.getD k default).dst=some p.tA
 a3:(ops.getD k default).guard=none
 i1:(ops.getD (k+1) default).op= .indexAddr p.t2 (.tmp p.tA) p.nn
 i2:(ops.getD (k+1) default).dst=some p.tI
 i3:(ops.getD (k+1) default).guard=none
 s1:(ops.getD (k+2) default).op= .store p.eT (.tmp p.tI) p.zz
 s2:(ops.getD (k+2) default).dst=none
 s3:(ops.getD (k+2) default).guard=none
 u1:(ops.getD (k+3) default).op= .store p.t3 (.tmp p.tp) (.tmp p.tA)
 u2:(ops.getD (k+3) default).dst=none
 u3:(ops.getD (k+3) default).guard=none
 n1:p.tA≠p.tI
 n2:p.tp≠p.tA
 n3:p.tp≠p.tI
 n4:p.nn≠ .tmp p.tA
 n5:p.zz≠ .tmp p.tA
 n6:p.zz≠ .tmp p.tI
 n7:p.tA<nt
 n8:p.tI<nt
section
variable {P:Program}{nt:Nat}{ops:Array Oper}
structure LC (ops:Array Oper) (listed:Array Bool) (S:Nat→Bool):Prop where
 size:listed.size=ops.size
 get:∀i b,i<ops.size→listed.getD i b=S i
 cl:∀m j,listed.getD m false=true→ET (ops.getD m default) j=true→listed.getD j false=true
def LC.step {listed:Array Bool} {S:Nat→Bool} {i:Nat} (h:LC ops listed S) (hi:i∈Region.ready .any ops listed):LC ops (listed.setIfInBounds i true) fun j=>j==i||S j:=by
 obtain⟨h1,h2,h3⟩:=Dl hi;refine⟨by simpa using h.size,fun j b hj=>?_,fun m j hm hj=>?_⟩
 ·rw[MB (by rw[h.size];exact h1),h.get j b hj]
  by_cases e:j=i
  ·subst e;simp
  rw[A1 e];simp[e]
 rw[MB (by rw[h.size];exact h1)]at hm ⊢
 by_cases ej:j=i
 ·rw[A2 ej]
 rw[A1 ej]
 by_cases em:m=i
 ·subst em;exact h3 j hj
 rw[A1 em]at hm;exact h.cl m j hm hj
def LC.not {listed:Array Bool}{S:Nat→Bool}{i:Nat}(h:LC ops listed S)(hi:i∈Region.ready .any ops listed):i<ops.size∧S i=false∧∀j,j<ops.size→KZ ops PT i j=true→S j=true:=by
 obtain⟨h1,h2,h3⟩:=Dl hi;refine⟨h1,by rw[←h.get i true h1];exact h2,fun j hj hr=>?_⟩;rw[←h.get j false hj];exact EJ h.cl PT i j h3 hr
def LC.ready {listed:Array Bool}{S:Nat→Bool}{i:Nat}(h:LC ops listed S)(h1:i<ops.size)(h2:S i=false)(hb:BO (ops.getD i default) i=true)(h3:∀j,j<i→S j=true):i∈Region.ready .any ops listed:=
 Sr h1 (by rw[h.get i true h1];exact h2) hb fun j hj=>by rw[h.get j false (by omega)];exact h3 j hj
def LC.eq {listed:Array Bool}{S S':Nat→Bool}(h:LC ops listed S)(e:∀i,S i=S' i):LC ops listed S':=⟨h.size,fun i b hi=>(h.get i b hi).trans (e i),h.cl⟩
def WR {o:Oper}{a:Act}{w:World}{r:Option Nat}{next:Act→World→Prop}{Q:Exit→Act→World→Prop}{Kx:Value→World→Prop}(hnd:∀c,o.op≠ .defer c)(h:H9 P Kx ((execOp a.eval o).run P w))(hk:∀v w',Kx v w'→next (a.put o.dst v) w'):o.wpIn (Fw r) 0 P a w next Q:=by
 refine⟨fun _ _=>trivial,?_⟩;rw[Ef _ _ _ hnd];exact HM h hk
def Jj {r:Option Nat}{Q:Exit→Act→World→Prop}{fuel i:Nat}{listed:Array Bool}{a:Act}{w:World}{Kx:Value→World→Prop}(h1:i<ops.size)(hg:(ops.getD i default).guard=none)(hnd:∀c,(ops.getD i default).op≠ .defer c)
 (h:H9 P Kx ((execOp a.eval (ops.getD i default)).run P w)) (hk:∀v w',Kx v w'→wpAnyIn (Fw r) 0 P .any ops Q fuel (listed.setIfInBounds i true) (a.put (ops.getD i default).dst v) w'):
 wpOpIn (Fw r) 0 P ops Q i (wpAnyIn (Fw r) 0 P .any ops Q fuel (listed.setIfInBounds i true)) a w:=by
 rw[RA h1]at *
 simp only[wpOpIn,CK h1];rw[A2 (by simp[Region.wanted,hg])];exact WR hnd h hk
def Eu {a:Act} {d:Nat} {v:Value} {x:Operand} (h:x≠ .tmp d):(a.put (some d) v).eval x=a.eval x:=by
 cases x with
 |tmp t=>
  have:d≠t:=fun e=>h (by rw[e]);simp[Act.eval,Act.put,Fo,this]
 |_=>rfl
def QW {a:Act}{d:Nat}{v:Value}(h:d<a.tmps.size):(a.put (some d) v).eval (.tmp d)=v:=by
 simp[Act.eval,Act.put,h]
def YZ {v:Value}{n:Nat}(h:v.cells.size=n):(List.range n).map (fun j=>v.cells.getD j undef)=v.cells.toList:=by
 subst h;apply Lz
 ·simp
 intro i h1 h2
 have:i<v.cells.size:=by simpa using h2
 simp[Array.getD,this]
def QK {W:World}{B q n:Nat}{c:Array Value}{T t:TypeId}{x y:Operand}{a:Act}{o:Oper}(ho:o.op= .store t x y)(hs:Ev P t=some n)(hx:a.eval x= .pointer (some ⟨B,q,none⟩))(hc:W.heap[B]? =some (.cells c T (0,0)))(hsz:(a.eval y).cells.size=n)(hfit:q+n≤c.size)
 (h1:∀j,j<n→((a.eval y).cells.getD j undef).oneCell'=true):H9 P (fun _ w'=>w'=W.setRow B (QT c q n fun j=>(a.eval y).cells.getD j undef)) ((execOp a.eval o).run P W):=by
 have hst:=LX (P:=P) (f:=fun j=>(a.eval y).cells.getD j undef) hc hfit h1
 rw[YZ hsz]at hst
 unfold execOp;rw[ho];simp only[hx,Instr.storeAt,Instr.sureAddr,storeVar,C6,D1,C1,Q3 hs W,hsz,ne_eq,Ca,C7,hst,H9]
def AG7 {A:TP} {r:Option Nat} {k:Nat} {p:TN} {K:Fr→A5→Prop} {Q:Exit→Act→World→Prop} {g0:Gh} {w0:World} (hp:Bb1 ops nt k p)
 (hat:∀i,i<ops.size→BO (ops.getD i default) i=true∧∀j,j<i→KZ ops PT i j=true∨i<k∨(i=k+3∧k<j))
 (hQ:∀g w a fr H,W1 g0 w0 g w→Rl g H w→FR nt g w a fr→K fr H→Q .normal a w)
 {listed:Array Bool} (hL:LC ops listed fun i=>decide (i<k)) {fr:Fr} {H:A5} {xs cs:List V} {tl tl':E7} {y0 vV z:V} {kk:IntKind} {e:TypeId} {sz by_ idp offp:Nat}
 (hx:Cp (ev fr p.sx) (.sl xs tl)) (hy:ev fr p.sy= .sl [y0] tl') (hy0:y0.cells.length=sz) (hn:ev fr p.nn= .int kk (xs.length:Nat)) (hzz:Cp (ev fr p.zz) vV) (hv1:vV.one=true) (hvl:vV.cells.length=sz)
 (he:Fd P p.sT=some e) (hyT:(Fd P p.yT).isSome=true) (he2:Fd P p.t2=some e) (hsz:Ev P e=some sz) (hse:Ev P p.eT=some sz) (hpos:0<sz) (hby:Qj P e=some by_) (hbp:0<by_)
 (hz:ID P e=some z) (hz1:z.one=true) (hzl:z.cells.length=sz) (hA:Fb H tl) (hax:xs.all (fun x=>x.cells.length==sz)=true) (hbound:(xs.length+1)*by_≤140737488355328)
 (hU:fr.s p.tp= .ref idp offp) (hUc:H idp=some (.cells cs)) (hUs:Ev P p.t3=some 1) (hUf:offp+1≤cs.length)
 (hK:∀t,G0 H tl t=none→Jp P A nt ops (ops.toList.drop (k+4)) ((fr.put (some p.tA) (.sl (xs++[vV]) (.tok t))).put (some p.tI) .bad)
  (upd (upd (G0 H tl) t (some .spare)) idp (some (.cells (V4 cs offp [.sl (xs++[vV]) (.tok t)])))) K):
 ∀g w a,W1 g0 w0 g w→Rl g H w→FR nt g w a fr→wpAnyIn (Fw r) 0 P .any ops Q (ops.size-k) listed a w:=by
 intro g w a st hR hF;have hvs:=(E8 hR hF.s p.sx).le hx;have hvy:=E8 hR hF.s p.sy
 rw[hy]at hvy
 have hvn:=E8 hR hF.s p.nn
 rw[hn]at hvn
 have hvn:=hvn.int_inv;have hvz:=(E8 hR hF.s p.zz).le hzz;obtain⟨hzc1,hzc2⟩:=hvz.cells hv1
 have hzsz:(a.eval p.zz).cells.size=sz:=by rw[hzc1,hvl]
 have hpp:VR g w (a.eval (.tmp p.tp)) (.ref idp offp):=by have:=E8 hR hF.s (.tmp p.tp);rwa[show ev fr (.tmp p.tp)= .ref idp offp from hU]at this
 obtain⟨bp,hmp,hep⟩:∃bp,g.mu idp=some bp∧a.eval (.tmp p.tp)= .pointer (some ⟨bp,offp,none⟩):=by
  generalize a.eval (.tmp p.tp)=v at hpp
  cases hpp with
  |ref hm=>exact⟨_,hm,rfl⟩
 obtain⟨b,off,G,W,C,T,r1,r2,r3,r4,r5,r6,r7⟩:=Ae5 (P:=P) (ty:=(ops.getD k default).type) hR hvs he hyT hsz hpos hby hbp hz hz1 hzl hA hax hbound;obtain⟨f0,hf0,hrA⟩:=r1 y0 tl' _ hvy hy0;obtain⟨bp',cp,Tp,q1,q2,q3,q4,q5,q6⟩:=hR.blk idp _ hUc
 rw[hmp]at q1;cases q1
 have hdt:G0 H tl idp=some (.cells cs):=by
  cases tl with
  |tok t=>
   have hA':H t=some .spare:=hA
   have:idp≠t:=fun e=>by subst e;rw[hUc]at hA';cases hA'
   simp only[G0,D2 _ _ this];exact hUc
  |_=>exact hUc
 have hatp:g.at (G0 H tl) idp=some bp:=by simp only[Gh.at,hdt,hmp]
 have hne:bp≠b:=r6 _ _ hatp;have hplt:bp<w.heap.size:=(Array.getElem?_eq_some_iff.1 q3).1
 have hpfit:offp+1≤cp.size:=by omega
 generalize hs':(Value.slice (some ⟨b,off,none⟩) (xs.length+1) G)=s' at *
 generalize hfv:(fun j=>(a.eval p.zz).cells.getD j undef)=fv
 have hfv1:∀j,j<sz→(fv j).oneCell'=true∧VR g w (fv j) (vV.cells.getD j .bad):=fun j hj=>by rw[←hfv];exact hzc2 j (by omega)
 have hs1:s'.cells= #[s']:=by rw[←hs'];rfl
 have hs2:∀j,j<1→(s'.cells.getD j undef).oneCell'=true:=fun j hj=>by
  rw[show j=0 by omega,hs1,←hs'];rfl
 have hsf:(fun j=>s'.cells.getD j undef)=fun j=>(#[s']:Array Value).getD j undef:=by rw[hs1]
 generalize ha1:a.put (some p.tA) s'=a1;generalize hA0:(Value.pointer (some ⟨b,off+xs.length*sz,none⟩))=pA;generalize ha2:a1.put (some p.tI) pA=a2
 have hsize1:a1.tmps.size=nt:=by rw[←ha1];simp[Act.put,hF.size]
 have e1A:a1.eval (.tmp p.tA)=s':=by rw[←ha1];exact QW (by rw[hF.size];exact hp.n7)
 have e1n:a1.eval p.nn= .int kk (xs.length:Nat):=by rw[←ha1,Eu hp.n4];exact hvn
 have e1p:a1.eval (.tmp p.tp)= .pointer (some ⟨bp,offp,none⟩):=by rw[←ha1,Eu (fun h=>hp.n2 (Lr h))];exact hep
 have e2A:a2.eval (.tmp p.tA)=s':=by rw[←ha2,Eu (fun h=>hp.n1 (Lr h))];exact e1A
 have e2p:a2.eval (.tmp p.tp)= .pointer (some ⟨bp,offp,none⟩):=by rw[←ha2,Eu (fun h=>hp.n3 (Lr h))];exact e1p
 have e2I:a2.eval (.tmp p.tI)=pA:=by rw[←ha2];exact QW (by rw[hsize1];exact hp.n8)
 have e2z:a2.eval p.zz=a.eval p.zz:=by rw[←ha2,Eu hp.n6,←ha1,Eu hp.n5]
 have hndA:∀c,(ops.getD k default).op≠ .defer c:=fun c h=>by rw[hp.a1]at h;cases h
 have hndI:∀c,(ops.getD (k+1) default).op≠ .defer c:=fun c h=>by rw[hp.i1]at h;cases h
 have hndS:∀c,(ops.getD (k+2) default).op≠ .defer c:=fun c h=>by rw[hp.s1]at h;cases h
 have hndU:∀c,(ops.getD (k+3) default).op≠ .defer c:=fun c h=>by rw[hp.u1]at h;cases h
 have runA:H9 P (fun v w'=>v=s'∧w'=W f0) ((execOp a.eval (ops.getD k default)).run P w):=by
  rw[R4 hp.a1];simp only[builtin,Z9,E9,J3,C6,hrA,C1,D1,H9]
  trivial
 have runI:∀W':World,H9 P (fun v w'=>v=pA∧w'=W') ((execOp a1.eval (ops.getD (k+1) default)).run P W'):=fun W'=>by
  have hu:=Q9 he2;unfold execOp;rw[hp.i1]
  have c1:(0:Int)≤(xs.length:Nat):=by omega
  have c2:((xs.length:Nat):Int)<((xs.length+1:Nat):Int):=by omega
  simp only[e1A,←hs',e1n,Instr.indexAt,asIntOf,C6,D1,C1,run_underlying hu,c1,c2,and_self,B4,Q3 hsz,H9,K4,Aj,Fk,hA0]
 have runS:∀(W':World) (c':Array Value),W'.heap[b]? =some (.cells c' T (0,0))→off+xs.length*sz+sz≤c'.size→H9 P (fun _ w'=>w'=W'.setRow b (QT c' (off+xs.length*sz) sz fv)) ((execOp a2.eval (ops.getD (k+2) default)).run P W'):=fun W' c' h1 h2=>by
  have:=QK (P:=P) (a:=a2) hp.s1 hse (by rw[e2I,←hA0]) h1 (by rw[e2z];exact hzsz) h2 (fun j hj=>by rw[e2z];exact(hzc2 j (by omega)).1)
  rw[e2z,hfv]at this
  exact this
 have runU:∀(a':Act) (W':World),a'.eval (.tmp p.tA)=s'→a'.eval (.tmp p.tp)= .pointer (some ⟨bp,offp,none⟩)→W'.heap[bp]? =some (.cells cp Tp (0,0))→H9 P (fun _ w'=>w'=W'.setRow bp (QT cp offp 1 fun j=>s'.cells.getD j undef)) ((execOp a'.eval (ops.getD (k+3) default)).run P W'):=fun a' W' h1 h2 h3=>by
  have:=QK (P:=P) (a:=a') hp.u1 hUs h2 h3 (by rw[h1,hs1];rfl) hpfit (fun j hj=>by rw[h1];exact hs2 j hj)
  rw[h1]at this
  exact this
 generalize hU':(QT cp offp 1 fun j=>s'.cells.getD j undef)=U at runU
 have hWp:∀f,(W f).heap[bp]? =some (.cells cp Tp (0,0)):=fun f=>(r5 bp hne hplt f).trans q3
 have fin:∀{l:Array Bool},LC ops l (fun i=>decide (i<k+4))→wpAnyIn (Fw r) 0 P .any ops Q (ops.size-(k+4)) l a2 ((W fv).setRow bp U):=by
  intro l hl;obtain⟨g',t,s1,hnone,hR1,hvr⟩:=r7 vV fv hvl hfv1
  have hne2:idp≠t:=fun e=>by subst e;rw[hdt]at hnone;cases hnone
  have hk3:upd (G0 H tl) t (some .spare) idp=some (.cells cs):=by rw[D2 _ _ hne2];exact hdt
  have hmp':g'.mu idp=some bp:=s1.mu _ _ hmp;obtain⟨b2,c2,T2,z1,z2,z3,z4,z5,z6⟩:=hR1.blk idp _ hk3
  rw[hmp']at z1;cases z1
  rw[hWp fv]at z3
  have ec:c2=cp:=by cases z3;rfl
  subst ec
  have hset:=hR1.setNamed (cs':=V4 cs offp [.sl (xs++[vV]) (.tok t)]) (c':=U) hk3 hmp' (hWp fv) (by rw[←hU'];exact SR hpfit) (Bq (by simpa using hUf)) (fun j hj=>by
   rw[Bq (by simpa using hUf)]at hj
   have hj':j<c2.size:=by omega
   have hg:=Aj4 (c:=c2) (A:=offp) (sz:=1) (f:=fun j=>s'.cells.getD j undef) hpfit hj'
   rw[hU']at hg
   rw[Jb (by simpa using hUf)];simp only[O3,hg,IB]
   by_cases q:offp≤j∧j<offp+1
   ·rw[A2 q,A2 q];rw[show j-offp=0 by omega,hs1,←hs'];refine⟨rfl,?_⟩;rw[hs']
    simpa using hvr
   rw[A1 q,A1 q];have:=z5 j hj
   simpa only[O3]using this)
  have hF1:=(hF.mono s1).put (d:=some p.tA) (fun t ht=>by cases ht;exact hp.n7) hvr
  rw[ha1]at hF1
  have hF2:=hF1.put (d:=some p.tI) (v:=pA) (V:=.bad) (fun t ht=>by cases ht;exact hp.n8) (.bad _)
  rw[ha2]at hF2
  have hm:k+4≤ops.size:=hp.lt
  exact RQ (A:=A) (r:=r) (K:=K) (k:=k+4) (fun i hi=>⟨(hat i hi).1,fun j hj hkj=>((hat i hi).2 j hj).elim (fun h=>h) fun h=>absurd h (by omega)⟩) hQ (ops.size-(k+4)) (k+4) l _ _ (by omega) (D5 _) hl.size
   hl.get (hK t hnone) g' _ a2 (st.trans (s1.trans hset.1)) hset.2 (hF2.mono hset.1)
 have hlt:=hp.lt;rw[show ops.size-k=(ops.size-(k+4))+1+1+1+1 by omega];have bw:∀i,i<ops.size→BO (ops.getD i default) i=true:=fun i hi=>(hat i hi).1;have rch:∀i j,i<ops.size→k≤i→j<i→¬(i=k+3∧k<j)→KZ ops PT i j=true:=fun i j hi hki hj hn=>((hat i hi).2 j hj).elim (fun h=>h) fun h=>absurd h (by omega)
 have rdyA:k∈Region.ready .any ops listed:=hL.ready (by omega) (by simp) (bw _ (by omega)) fun j hj=>by simpa using hj
 refine⟨fun e=>(by rw[e]at rdyA;cases rdyA),fun i hi=>?_⟩;obtain⟨h1,h2,h3⟩:=hL.not hi
 have ik:i=k:=by
  have:k≤i:=by simpa using h2
  rcases Q6 k i with h|h
  ·have:=h3 k (by omega) (rch i k h1 (by omega) h (by omega));exact absurd this (by simp)
  omega
 subst ik;refine Jj h1 hp.a3 hndA runA fun v w1 ⟨ev1,ew1⟩=>?_;subst ev1;subst ew1;rw[hp.a2,ha1];have hL1:=hL.step hi
 have rdyI:i+1∈Region.ready .any ops (listed.setIfInBounds i true):=hL1.ready (by omega) (by simp) (bw _ (by omega)) fun j hj=>by simp;omega
 refine⟨fun e=>(by rw[e]at rdyI;cases rdyI),fun i2 hi2=>?_⟩;obtain⟨h1,h2,h3⟩:=hL1.not hi2
 have ik:i2=i+1∨i2=i+3:=by
  simp at h2
  rcases Q6 (i+1) i2 with h|h
  ·rcases Q6 i2 (i+3)with h'|h'
   ·have:=h3 (i+1) (by omega) (rch i2 (i+1) h1 (by omega) h (by omega));exact absurd this (by simp<;>omega)
   rcases Q6 (i+3) i2 with h''|h''
   ·have:=h3 (i+1) (by omega) (rch i2 (i+1) h1 (by omega) h (by omega));exact absurd this (by simp<;>omega)
   omega
  omega
 have hWf0:((W f0).setRow b (QT (C f0) (off+xs.length*sz) sz fv)).setRow bp U=(W fv).setRow bp U:=by rw[r4]
 have hcm:((W f0).setRow bp U).setRow b (QT (C f0) (off+xs.length*sz) sz fv)=(W fv).setRow bp U:=by rw[Xn _ _ _ hne,r4]
 have hbU:((W f0).setRow bp U).heap[b]? =some (.cells (C f0) T (0,0)):=(R0 _ _ _ _ hne.symm).trans (r3 f0).1
 have lastS:∀{l:Array Bool},LC ops l (fun j=>decide (j<i+2)||j==i+3)→wpAnyIn (Fw r) 0 P .any ops Q (ops.size-(i+4)+1) l a2 ((W f0).setRow bp U):=fun{l} hl=>by
  have rdy:i+2∈Region.ready .any ops l:=hl.ready (by omega) (by simp) (bw _ (by omega)) fun j hj=>by simp;omega
  refine⟨fun e=>(by rw[e]at rdy;cases rdy),fun i3 hi3=>?_⟩;obtain⟨h1,h2,h3⟩:=hl.not hi3
  have ik:i3=i+2:=by
   simp at h2
   rcases Q6 (i+2) i3 with h|h
   ·have:=h3 (i+2) (by omega) (rch i3 (i+2) h1 (by omega) h (by omega));exact absurd this (by simp<;>omega)
   omega
  subst ik;refine Jj h1 hp.s3 hndS (runS _ _ hbU (r3 f0).2) fun v w1 ew=>?_;rw[ew,hcm,hp.s2];exact fin ((hl.step hi3).eq fun j=>by rw[Bk];simp;omega)
 rcases ik with rfl|rfl
 ·refine Jj h1 hp.i3 hndI (runI _) fun v w1 ⟨ev1,ew1⟩=>?_;subst ev1;subst ew1;rw[hp.i2,ha2]
  have hL2:=(hL1.step hi2).eq (S':=fun j=>decide (j<i+2)) fun j=>by rw[Bk];simp;omega
  have rdyS:i+2∈Region.ready .any ops ((listed.setIfInBounds i true).setIfInBounds (i+1) true):=hL2.ready (by omega) (by simp) (bw _ (by omega)) fun j hj=>by simp;omega
  refine⟨fun e=>(by rw[e]at rdyS;cases rdyS),fun i3 hi3=>?_⟩;obtain⟨h1,h2,h3⟩:=hL2.not hi3
  have ik:i3=i+2∨i3=i+3:=by
   simp at h2
   rcases Q6 (i+3) i3 with h|h
   ·have:=h3 (i+2) (by omega) (rch i3 (i+2) h1 (by omega) (by omega) (by omega));exact absurd this (by simp<;>omega)
   omega
  rcases ik with rfl|rfl
  ·refine Jj h1 hp.s3 hndS (runS _ _ (r3 f0).1 (r3 f0).2) fun v w1 ew=>?_;rw[ew,r4,hp.s2]
   have hL3:=(hL2.step hi3).eq (S':=fun j=>decide (j<i+3)) fun j=>by rw[Bk];simp;omega
   have rdyU:i+3∈Region.ready .any ops (((listed.setIfInBounds i true).setIfInBounds (i+1) true).setIfInBounds (i+2) true):=hL3.ready (by omega) (by simp) (bw _ (by omega)) fun j hj=>by simp;omega
   refine⟨fun e=>(by rw[e]at rdyU;cases rdyU),fun i4 hi4=>?_⟩;obtain⟨h1,h2,h3⟩:=hL3.not hi4
   have ik:i4=i+3:=by
    simp at h2
    rcases Q6 (i+3) i4 with h|h
    ·have:=h3 (i+3) (by omega) (rch i4 (i+3) h1 (by omega) h (by omega));exact absurd this (by simp<;>omega)
    omega
   subst ik;refine Jj h1 hp.u3 hndU (runU a2 _ e2A e2p (hWp fv)) fun v w1 ew=>?_;rw[ew,hp.u2];exact fin ((hL3.step hi4).eq fun j=>by rw[Bk];simp;omega)
  refine Jj h1 hp.u3 hndU (runU a2 _ e2A e2p (hWp f0)) fun v w1 ew=>?_;rw[ew,hp.u2];exact lastS ((hL2.step hi3).eq fun j=>by rw[Bk];simp;omega)
 refine Jj h1 hp.u3 hndU (runU a1 _ e1A e1p (hWp f0)) fun v w1 ew=>?_;rw[ew,hp.u2]
 have hL2:=(hL1.step hi2).eq (S':=fun j=>decide (j<i+1)||j==i+3) fun j=>by rw[Bk];simp;omega
 have rdy:i+1∈Region.ready .any ops ((listed.setIfInBounds i true).setIfInBounds (i+3) true):=hL2.ready (by omega) (by simp) (bw _ (by omega)) fun j hj=>by simp;omega
 refine⟨fun e=>(by rw[e]at rdy;cases rdy),fun i3 hi3=>?_⟩;obtain⟨h1,h2,h3⟩:=hL2.not hi3
 have ik:i3=i+1:=by
  simp at h2
  rcases Q6 (i+1) i3 with h|h
  ·have:=h3 (i+1) (by omega) (rch i3 (i+1) h1 (by omega) h (by omega));exact absurd this (by simp<;>omega)
  omega
 subst ik;refine Jj h1 hp.i3 hndI (runI _) fun v w1 ⟨ev1,ew1⟩=>?_;subst ev1;subst ew1;rw[hp.i2];have:=lastS ((hL2.step hi3).eq fun j=>by rw[Bk];simp;omega)
 rw[←ha2]at this
 exact this
end
end Go.Ab
namespace Go.Ab
open Go.RowKit
variable [N9][Ar]
def Nl:List Nat→Nat→Bool
 |[],_=>false
 |x::l,n=>match Nat.beq n x with|true=>true|false=>Nl l n
abbrev Vr:=List (Nat×List V)
def lkp:Vr→Nat→Option (List V)
 |[],_=>none
 |(k,x)::l,t=>match Nat.beq t k with|true=>some x|false=>lkp l t
section
variable (E:FL)(T:GY)(nt:Nat)(A:Nat→Bool)
def xqd (G:List (Nat×Bool)) (o:Oper) (l:Fl) (H:A5) (k:Sl→Prop):Prop:=
 match o.op with
 | .call c=>
  (match c.callee with
   | .value x=>E.pcall H (U2 G l x).V (c.args.toList.map fun x=>(U2 G l x).V) fun v=>k (.v v)
   |_=>xq E T G o l H k)
 |_=>xq E T G o l H k
def ZT (pv:Vr)(d:Option Tmp):Bool:=
 match d with
 |some d=>(match lkp pv d with|none=>true|some _=>false)
 |none=>true
abbrev Pe:=Option (Nat×Nat×List V)
def ZB (tk:List Nat)(d:Option Tmp):Bool:=
 match d with
 |some d=> !Nl tk d
 |none=>true
def Ve:List Nat→Nat→List Nat
 |[],_=>[]
 |x::l,n=>match Nat.beq n x with|true=>Ve l n|false=>x::Ve l n
def QX (s:Option Nat)(tk:List Nat):List Nat:=
 match s with
 |some d=>Ve tk d
 |none=>tk
def AU8 (tk:List Nat)(sx:Operand)(tl:E7):Option (Option Nat):=
 match tl with
 | .nil=>some none
 | .full=>some none
 | .ro=>(match sx with| .tmp d=>(match Nl tk d with|true=>some (some d)|false=>none)|_=>none)
 |_=>none
def Au9 (x:Bool)(ex:Option E7)(tk:List Nat)(sx:Operand)(tl:E7)(k:Option Nat→Option E7→Prop):Prop:=
 match x with
 |true=>(match ex with|some τ=>E.need (tl=τ) fun _=>k none none|none=>False)
 |false=>(match AU8 tk sx tl with|some s=>k s ex|none=>False)
def KI (A:Nat→Bool)(n:Nat):List Oper→Option Nat
 |[]=>none
 |o::l=>match o.dst with|some d=>(match A (d+n)with|true=>some d|false=>KI A n l)|none=>KI A n l
def Av1 (x :Bool) (ex:Option E7) (o:Oper) (l:Fl) (tk:List Nat) (k:Nat→Option Nat→Option E7→V→Prop):Prop:=
 match o.op,o.dst,o.guard with
 | .call { callee:=.builtin .append,args:=⟨[sx,sy]⟩,argTypes:=⟨[sT,yT]⟩},some dd,none=>
  (match (U2 [] l sx).V,(U2 [] l sy).V with
   | .sl xs tlx,.sl ys _=>
    Au9 E x ex tk sx tlx fun src ex'=>
     (match tg T sT,tg T yT with
      | some I,some I2=>
       (match I.sl,I2.sl with
        | some e,some _=>
         (match tg T e with
          | some J=>
           (match J.ze with
            |some z=>if 0<J.sz∧0<J.by_∧z.one=true∧z.cells.length=J.sz then E.appq J.sz J.by_ xs ys fun v=>k dd src ex' v else False
            |none=>False)
          |none=>False)
        |_,_=>False)
      |_,_=>False)
   |_,_=>False)
 |_,_,_=>False
def xdB (ads :List Nat) (ops:Array Oper):List Oper→Fl→Vr→Pe→List Nat→Option E7→A5→(Fl→Vr→Pe→List Nat→Prop)→Prop
 |[],l,pv,pe,tk,_,_,K=>K l pv pe tk
 | o :: rest,l,pv,pe,tk,ex,H,K=>
  match GV nt o.dst,ZT pv o.dst,ZB tk o.dst with
  | true, true,true=>
   (match A (o.dst.getD 0+3000000)with
    |true=>Av1 E T (A (o.dst.getD 0+8000000)) ex o l tk fun dd src ex' v=>xdB ads ops rest ((dd,.v v)::l) pv pe (dd::QX src tk) ex' H K
    | false =>
     (match o.op with
      | .alloc t=>
       (match o.guard,o.dst,tg T t with
        | none,some d,some I=>
         (match I.ze with
          |some z=>(match z.one with|true=>xdB ads ops rest ((d,.v .bad)::l) ((d,z.cells)::pv) pe tk ex H K|false=>False)
          |none=>False)
        |_,_,_=>False)
      | .store t (.tmp d) y=>
       (match o.guard,tg T t with
        | none,some I=>
         (match lkp pv d with
          |some cs=>if(U2 [] l y).V.one=true∧(U2 [] l y).V.cells.length=I.sz∧I.sz≤cs.length then xdB ads ops rest (Dv o.dst (.v .bad) l) ((d,V4 cs 0 (U2 [] l y).V.cells)::pv) pe tk ex H K else False
          | none=>
           (match Nl ads d,XP [] l d,pe with
            |true,some (.v (.ref id off)),some (ds,id',cs)=>
             if(U2 [] l y).V.one=true∧(U2 [] l y).V.cells.length=I.sz∧off+I.sz≤cs.length then E.need (id=id') fun _=>xdB ads ops rest (Dv o.dst (.v .bad) l) pv (some (ds,id',V4 cs off (U2 [] l y).V.cells)) tk ex H K else False
            |_,_,_=>False))
        |_,_=>False)
      | .store _ _ _=>False
      |_=>HD E ops o 4 l (fun G l' wr=>xqd E T G o l' H fun s=>xdB ads ops rest (Dv o.dst (wr s) l') pv pe tk ex H K) fun l'=>xdB ads ops rest (Dv o.dst (.v (.tup [])) l') pv pe tk ex H K))
  |_,_,_=>False
def Nx:List Nat→Vr→Fl→A5→(Fl→A5→Prop)→Prop
 |[],_,l,H,K=>K l H
 |d::ds,pv,l,H,K=>
  match lkp pv d with
  |some cs=>(match A d with|true=>E.alloc H cs fun id H'=>Nx ds pv ((d,.v (.ref id 0))::l) H' K|false=>Nx ds pv ((d,.v (.eref cs 0))::l) H K)
  |none=>False
def RJ (dx:Option Nat)(tk:List Nat)(l:Fl)(H:A5)(K:Fl→A5→Prop):Prop:=
 match dx with
 |none=>K l H
 |some d=>(match Nl tk d,lk l d with|true,.v (.sl xs .ro)=>E.nameT H fun tl H'=>K ((d,.v (.sl xs tl))::l) H'|_,_=>False)
def QD (ops:Array Oper):List Oper→Fl→A5→(Fl→A5→Prop)→Prop
 |[],l,H,K=>K l H
 |o::rest,l,H,K=>
  match GV nt o.dst with
  |true=>HD E ops o 4 l (fun G l' wr=>xop E T A G o l' H fun s H'=>QD ops rest (Dv o.dst (wr s) l') H' K) fun l'=>QD ops rest (Dv o.dst (.v (.tup [])) l') H K
  |false=>False
def GE:List Oper→List Nat
 |[]=>[]
 |o::l=>match o.op,o.dst with| .alloc _,some d=>d::GE l|_,_=>GE l
def AS5 (pe:Pe)(H:A5)(K:A5→Prop):Prop:=
 match pe with
 |some (_,id,cs)=>E.give H id cs K
 |none=>K H
def Au7 (w:Option (Nat×List Nat))(l:Fl)(H:A5)(K:List Nat→Pe→A5→Prop):Prop:=
 match w with
 |none=>K [] none H
 |some (d,ads)=>(match lk l d with| .v (.ref id 0)=>E.frz H id fun cs H'=>K ads (some (d,id,cs)) H'|_=>False)
def Au6 (x:Option Nat)(H:A5)(K:Option E7→A5→Prop):Prop:=
 match x with
 |none=>K none H
 |some _=>E.takeT H fun τ H'=>K (some τ) H'
def Av4 (w:Option (Nat×List Nat))(k:Nat)(ops:Array Oper)(l:Fl)(H:A5)(K:Fl→A5→Prop):Prop:=
 Au6 E (KI A 8000000 (ops.toList.take k)) H fun ex H0=>Au7 E w l H0 fun ads pe H1=>xdB E T nt A ads ops (ops.toList.take k) l [] pe [] ex H1 fun l' pv pe' tk=>AS5 E pe' H1 fun H2=>RJ E (KI A 9000000 (ops.toList.take k)) tk l' H2 fun l1 H3=>Nx E A (GE (ops.toList.take k)) pv l1 H3 fun l'' H'=>QD E T nt A ops (ops.toList.drop k) l'' H' K
end
section
variable {P:Program}{nt:Nat}{rd:Option Nat}{T:GY}{A:Nat→Bool}{df:List Nat}
def Al9 (hT:Lf P T) {G:List (Nat×Bool)} {o:Oper} {l:Fl} (hG:Lj G l) {H:A5} {k:Sl→Prop} (h:xqd (I6 P nt rd) T G o l H k):∃s:Sl,Om P o (ev (I8 ⟨l,df⟩)) H s.V∧k s:=by
 unfold xqd at h
 split at h
 ·rename_i c ho
  split at h
  ·rename_i x hc;obtain⟨v,h1,h2⟩:=h
   rw[ES (df:=df) hG,show(c.args.toList.map fun x=>(U2 G l x).V)=c.args.toList.map (ev (I8 ⟨l,df⟩))from DR fun p _=>ES hG p]at h1
   grind[Om,Sl.V]
  exact Oq hT hG h
 exact Oq hT hG h
def AI9 (hT:Lf P T) {G:List (Nat×Bool)} {o:Oper} {l:Fl} {H:A5} {k:Sl→Prop} (ht:Mv G o l=true) (h:xqd (I6 P nt rd) T G o l H k):∃s,k s:=by
 unfold xqd at h
 split at h
 ·rename_i c ho
  split at h
  ·obtain⟨v,h1,h2⟩:=h
   grind
  exact Zs hT ht h
 exact Zs hT ht h
theorem Gt (hT:Lf P T) {ops:Array Oper} {K:Fl→A5→Prop}:∀(rest:List Oper) (l:Fl) (H:A5),QD (I6 P nt rd) T nt A ops rest l H K→Jp P A nt ops rest (I8 ⟨l,df⟩) H fun fr H'=>∃l',fr=I8 ⟨l',df⟩∧K l' H'
 |[],l,H,h=>⟨l,rfl,h⟩
 | o::rest,l,H,h=>by
  unfold QD at h
  split at h
  ·rename_i hd;simp only[Jp];refine⟨hd,?_⟩;obtain⟨l',e,h⟩:=Ex (df:=df) 4 l h
   have e:I8 ⟨l',df⟩=I8 ⟨l,df⟩:=by simp_all[I8]
   rcases h with⟨hg,G,wr,hG,hwr,h⟩|⟨hg,h⟩
   ·rw[hg];rw[←e];refine Mp (PF (df:=df) hT hG h) fun v H' ⟨s,hv,hk⟩=>?_;subst hv;rw[←hwr s,←P3];exact Gt hT rest _ _ hk
   rw[hg];rw[←e]
   rcases h with h|⟨G,d,want,ht,hb,h⟩
   ·have:=Gt hT rest _ _ h
    rw[P3]at this
    exact this
   obtain⟨s,h⟩:=Vv hT ht h;have:=Gt hT rest _ _ h
   rw[P3]at this
   simp_all[slV]
  grind
def Az (pv:Vr)(pe:Pe)(tk:List Nat)(ex:Option E7):Pv
 | .inl d=>lkp pv d
 | .inr x=>(match pe with|some (_,id,cs)=>if x=id then some cs else none|none=>none)
 | .tk d=>(match Nl tk d with|true=>some []|false=>none)
 | .ex=>ex.map fun τ=>[.sl [] τ]
def AG4 {a b:Nat}:Nat.beq a b=true↔a=b:=⟨Cc,fun h=>by simp_all⟩
theorem AC8 {pv:Vr} {d t:Nat} {cs:List V}:lkp ((d,cs)::pv) t=if t=d then some cs else lkp pv t:=by
 simp only[lkp]
 by_cases h:t=d
 ·simp_all
 have:Nat.beq t d=false:=by
  cases hb:Nat.beq t d with
  |false=>rfl
  |true=>simp_all
 grind
theorem Hr {tk:List Nat} {d t:Nat}:Nl (d::tk) t=(decide (t=d)||Nl tk t):=by
 simp only[Nl]
 by_cases h:t=d
 ·simp_all
 have:Nat.beq t d=false:=by
  cases hb:Nat.beq t d with
  |false=>rfl
  |true=>simp_all
 grind
def Qf {d t:Nat}:∀{tk:List Nat},Nl (Ve tk d) t=(!decide (t=d)&&Nl tk t)
 |[]=>by simp[Nl,Ve]
 | x::l=>by
  simp only[Ve]
  split
  ·rename_i h;have:=AG4.1 h;subst this;rw[Qf (tk:=l),Hr]
   by_cases e:t=d<;>simp[e]
  rename_i h
  have hne:d≠x:=fun e=>by rw[AG4.2 e]at h;cases h
  rw[Hr,Hr,Qf (tk:=l)]
  grind
def UE {pv:Vr} {pe:Pe} {tk:List Nat} {ex:Option E7} {d:Nat} {cs:List V}:Az ((d,cs)::pv) pe tk ex=Q5 (Az pv pe tk ex) (.inl d) cs:=by
 funext t
 cases t with
 |inl t=>
  grind[Az,Q5,AC8]
 |inr x=>simp[Az,Q5]
 |tk x=>simp[Az,Q5]
 |ex=>simp[Az,Q5]
def AL1 {pv:Vr} {tk:List Nat} {ex:Option E7} {ds id:Nat} {cs cs':List V}:Az pv (some (ds,id,cs')) tk ex=Q5 (Az pv (some (ds,id,cs)) tk ex) (.inr id) cs':=by
 funext t
 cases t with
 |inl t=>simp[Az,Q5]
 |inr x=>
  grind[Az,Q5]
 |tk x=>simp[Az,Q5]
 |ex=>simp[Az,Q5]
def AL2 {pv:Vr} {pe:Pe} {tk:List Nat} {ex:Option E7} {d:Nat}:Az pv pe (d::tk) none=Q5 (W2 (Az pv pe tk ex) (some .ex)) (.tk d) []:=by
 funext t
 cases t with
 |inl t=>rw[J4 (by simp),S8 (by simp)];rfl
 |inr x=>rw[J4 (by simp),S8 (by simp)];rfl
 |ex=>rw[J4 (by simp)];simp[Az,W2]
 |tk x=>
  grind[Hr,Az,Q5,S8]
def AL0 {pv:Vr} {pe:Pe} {tk:List Nat} {ex:Option E7} {d:Nat} {src:Option Nat}:Az pv pe (d::QX src tk) ex=Q5 (W2 (Az pv pe tk ex) (src.map .tk)) (.tk d) []:=by
 funext t
 cases t with
 |inl t=>rw[J4 (by simp),S8 (by cases src<;>simp)];rfl
 |inr x=>rw[J4 (by simp),S8 (by cases src<;>simp)];rfl
 |ex=>rw[J4 (by simp),S8 (by cases src<;>simp)];rfl
 | tk x=>
  by_cases h:x=d
  ·grind[Hr,Az,Q5]
  rw[J4 (fun e=>by simp_all)]
  have e1:Nl (d::QX src tk) x=Nl (QX src tk) x:=by rw[Hr];simp[h]
  cases src with
  |none=>simp_all[Az,QX,W2]
  |some c=>
   have e2:Nl (QX (some c) tk) x=(!decide (x=c)&&Nl tk x):=Qf
   grind[Az,W2]
def Ap1 {pv:Vr} {pe:Pe} {tk:List Nat} {ex:Option E7} {d:Option Tmp} (h:ZT pv d=true) (h2:ZB tk d=true):T7 (Az pv pe tk ex) d:=by
 cases d with
 |none=>trivial
 |some d=>
  grind[T7,Az,ZT,ZB]
def AI8 {l:Fl}{pv:Vr}{pe:Pe}{tk:List Nat}{ex:Option E7}{sx:Operand}{tl:E7}{src:Option Nat}(h:AU8 tk sx tl=some src):KS (Az pv pe tk ex) sx tl (src.map .tk):=by
 unfold AU8 at h
 split at h
 ·grind[KS]
 ·grind[KS]
 ·grind[KS,Az]
 cases h
def Au8 {l:Fl} {pv:Vr} {pe:Pe} {tk:List Nat} {x:Bool} {ex:Option E7} {sx:Operand} {tl:E7} {k:Option Nat→Option E7→Prop} (h:Au9 (I6 P nt rd) x ex tk sx tl k):
 ∃key,KS (Az pv pe tk ex) sx tl key∧∃src ex',k src ex'∧(ex=none→ex'=none)∧∀d,Az pv pe (d::QX src tk) ex'=Q5 (W2 (Az pv pe tk ex) key) (.tk d) []:=by
 unfold Au9 at h
 split at h
 ·split at h
  ·obtain⟨e,h⟩:=h;subst e;exact⟨some .ex,rfl,none,none,h,fun _=>rfl,fun d=>AL2⟩
  grind
 split at h
 ·rename_i s hs;exact⟨_,AI8 (l:=l) hs,s,ex,h,id,fun d=>AL0⟩
 grind
def WL (hT:Lf P T) {x:Bool} {ex:Option E7} {o:Oper} {l:Fl} {pv:Vr} {pe:Pe} {tk:List Nat} {k:Nat→Option Nat→Option E7→V→Prop} (h:Av1 (I6 P nt rd) T x ex o l tk k):∃dd key v,o.dst=some dd∧PApp P o (I8 ⟨l,df⟩) (Az pv pe tk ex) key v∧∃src ex',k dd src ex' v∧(ex=none→ex'=none)∧Az pv pe (dd::QX src tk) ex'=Q5 (W2 (Az pv pe tk ex) key) (.tk dd) []:=by
 unfold Av1 at h
 split at h
 ·rename_i sx sy sT yT dd ho hdst hg
  split at h
  ·rename_i xs tlx ys tly e1 e2
   rw[ES (l:=l) (df:=df) Lj.nil]at e1 e2
   obtain⟨key,hs,src,ex',h,hen,hpe⟩:=Au8 (l:=l) (pv:=pv) (pe:=pe) h
   split at h
   ·rename_i I I2 hI hI2
    split at h
    ·rename_i e e2' he he2
     split at h
     ·rename_i J hJ
      split at h
      ·rename_i z hz
       have ez:=(H7 hT hJ).ze;rw[hz]at ez;simp only[Co]at ez
       split at h
       ·rename_i hc;obtain⟨c1,c2,c3,c4⟩:=hc;obtain⟨xs',ys',l1,l2,k1,k2,k3,k4⟩:=h;exact⟨dd,key,_,hdst,⟨hg,sx,sy,sT,yT,xs,tlx,ys,tly,xs',ys',ho,e1,e2,hs,⟨e,J.sz,J.by_,z,(H7 hT hI).sl.trans he,by rw[(H7 hT hI2).sl,he2];rfl,(H7 hT hJ).sz,c1,(H7 hT hJ).by_,c2,ez,c3,c4,l1,l2,k1,k2,k3⟩,rfl⟩,src,ex',k4,hen,hpe dd⟩
       grind
      grind
     grind
    grind
   grind
  grind
 grind
def Ia {ops:Array Oper}{H:A5}{K K':Fr→Pv→Prop}(hk:∀fr pv,K fr pv→K' fr pv):∀(l:List Oper) (fr:Fr) (pv:Pv),JX P nt ops H l fr pv K→JX P nt ops H l fr pv K'
 |[],_,_,h=>hk _ _ h
 |_::l,_,_,h=>Tr h fun fr pv h=>Ia hk l fr pv h
def Cq (hT:Lf P T) {ads:List Nat} {ops:Array Oper} {H:A5} {K:Fl→Vr→Pe→List Nat→Prop}:∀(rest:List Oper) (l:Fl) (pv:Vr) (pe:Pe) (tk:List Nat) (ex:Option E7),xdB (I6 P nt rd) T nt A ads ops rest l pv pe tk ex H K→
 JX P nt ops H rest (I8 ⟨l,df⟩) (Az pv pe tk ex) fun fr pv'=>∃l' pl pe' tk' ex',fr=I8 ⟨l',df⟩∧pv'=Az pl pe' tk' ex'∧(ex=none→ex'=none)∧pe'.map (fun p=>p.2.1)=pe.map (fun p=>p.2.1)∧K l' pl pe' tk'
 |[],l,pv,pe,tk,ex,h=>⟨l,pv,pe,tk,ex,rfl,rfl,id,rfl,h⟩
 | o ::rest,l,pv,pe,tk,ex,h=>by
  unfold xdB at h
  split at h
  ·rename_i hd hf hft;simp only[JX];unfold MF;refine⟨⟨hd,Ap1 hf hft⟩,?_⟩
   split at h
   ·obtain⟨dd,key,v,hdst,hP,src,ex2,h,hen,hpe⟩:=WL (df:=df) (pv:=pv) (pe:=pe) hT h;refine⟨v,_,.inr (.inr (.inr ⟨dd,key,hdst,hP,rfl⟩)),?_⟩;have:=Cq hT rest _ _ _ _ _ h
    rw[hpe,show(dd,Sl.v v)::l=Dv (some dd) (.v v) l from rfl,P3]at this
    rw[hdst];exact Ia (fun fr pv ⟨l',pl,pe',tk',ex',e1,e2,e3,h⟩=>⟨l',pl,pe',tk',ex',e1,e2,fun he=>e3 (hen he),h⟩) _ _ _ this
   split at h
   ·rename_i t ho
    split at h
    ·rename_i d I hg hdst hI
     split at h
     ·rename_i z hz
      have ez:=(H7 hT hI).ze;rw[hz]at ez;simp only[Co]at ez
      split at h
      ·rename_i h1;refine⟨.bad,_,.inr (.inl ⟨t,z,d,ho,hg,hdst,ez,h1,rfl,rfl⟩),?_⟩;have:=Cq hT rest _ _ _ _ _ h
       rw[UE,show(d,Sl.v V.bad)::l=Dv (some d) (.v .bad) l from rfl,P3]at this
       rw[hdst];exact this
      grind
     grind
    grind
   ·rename_i t d y ho
    split at h
    ·rename_i I hg hI;have hev:=ES (l:=l) (df:=df) Lj.nil y
     split at h
     ·rename_i cs hcs
      split at h
      ·rename_i hc;obtain⟨c1,c2,c3⟩:=hc
       rw[hev]at c1 c2 h
       refine⟨.bad,_,.inr (.inr (.inl ⟨t,d,y,.inl d,0,cs,ho,hg,.inl ⟨rfl,rfl,hcs⟩,c1,by rw[c2];exact(H7 hT hI).sz,by rw[c2];omega,rfl,rfl⟩)),?_⟩;have:=Cq hT rest _ _ _ _ _ h
       rw[UE,P3]at this
       exact this
      grind
     rename_i hcs
     split at h
     ·rename_i id off ds id' cs _ hop
      split at h
      ·rename_i hc;obtain⟨c1,c2,c3⟩:=hc;obtain⟨he,h⟩:=h;subst he
       rw[hev]at c1 c2 h
       have hd:(I8 ⟨l,df⟩).s d= .ref id off:=(Mn Lj.nil hop).1.symm;refine⟨.bad,_,.inr (.inr (.inl ⟨t,d,y,.inr id,off,cs,ho,hg,.inr ⟨id,rfl,hd,hcs,by simp[Az]⟩,c1,by rw[c2];exact(H7 hT hI).sz,by rw[c2];exact c3,rfl,rfl⟩)),?_⟩;have:=Cq hT rest _ _ _ _ _ h
       rw[AL1 (cs:=cs),P3]at this
       exact this
      grind
     grind
    grind
   ·exact h.elim
   rename_i n1 n2 n3
   have key:∃v,Rg P ops H o (I8 ⟨l,df⟩) v∧JX P nt ops H rest ((I8 ⟨l,df⟩).put o.dst v) (Az pv pe tk ex) fun fr pv'=>∃l' pl pe' tk' ex',fr=I8 ⟨l',df⟩∧pv'=Az pl pe' tk' ex'∧(ex=none→ex'=none)∧pe'.map (fun p=>p.2.1)=pe.map (fun p=>p.2.1)∧K l' pl pe' tk':=by
    obtain⟨l',e,h⟩:=Ex (df:=df) 4 l h
    have e:I8 ⟨l',df⟩=I8 ⟨l,df⟩:=by simp_all[I8]
    rcases h with⟨hg,G,wr,hG,hwr,h⟩|⟨hg,h⟩
    ·obtain⟨s,h1,h2⟩:=Al9 (df:=df) hT hG h;refine⟨s.V,by simp_all[Rg],?_⟩;have:=Cq hT rest _ _ _ _ _ h2
     rw[P3,hwr s,e]at this
     exact this
    refine⟨.tup [],by grind[Rg],?_⟩
    rcases h with h|⟨G,d,want,ht,hb,h⟩
    ·have:=Cq hT rest _ _ _ _ _ h
     rw[P3,e]at this
     exact this
    obtain⟨s,h⟩:=AI9 hT ht h;have:=Cq hT rest _ _ _ _ _ h
    rw[P3,e]at this
    simp_all[slV]
   obtain⟨v,h1,h2⟩:=key;refine⟨v,_,.inl ⟨?_,?_,h1,rfl⟩,h2⟩
   ·cases hx:o.op<;>first|rfl|simp_all
   simp[OZ]
  grind
theorem Kf {pe:Pe} {tk:List Nat} {ex:Option E7} {K:Fl→A5→Prop}:∀(ds:List Nat) (pv:Vr) (l:Fl) (H:A5),Nx (I6 P nt rd) A ds pv l H K→JP A ds (Az pv pe tk ex) (I8 ⟨l,df⟩) H fun fr H'=>∃l',fr=I8 ⟨l',df⟩∧K l' H'
 |[],pv,l,H,h=>⟨l,rfl,h⟩
 | d::ds,pv,l,H,h=>by
  unfold Nx at h
  simp only[JP]
  split at h
  ·rename_i cs hcs;have hcs':Az pv pe tk ex (.inl d)=some cs:=hcs;rw[hcs']
   simp only
   split at h
   ·rename_i hA;rw[A2 hA];intro id hid;have:=Kf (pe:=pe) (tk:=tk) (ex:=ex) ds pv _ _ (h id hid)
    rw[show(d,Sl.v (V.ref id 0))::l=Dv (some d) (.v (.ref id 0)) l from rfl,P3]at this
    exact this
   rename_i hA;rw[A1 (by rw[hA];simp)];have:=Kf (pe:=pe) (tk:=tk) (ex:=ex) ds pv _ _ h
   rw[show(d,Sl.v (V.eref cs 0))::l=Dv (some d) (.v (.eref cs 0)) l from rfl,P3]at this
   exact this
  grind
theorem NQ {A:Nat→Bool} {K K':Fr→A5→Prop} (hk:∀fr H,K fr H→K' fr H):∀(ds:List Nat) (pv:Pv) (fr:Fr) (H:A5),JP A ds pv fr H K→JP A ds pv fr H K'
 |[],_,_,_,h=>hk _ _ h
 | d::ds,pv,fr,H,h=>by
  simp only[JP]at h ⊢
  split at h
  ·split at h
   ·rename_i hA;rw[A2 hA];exact fun id hid=>NQ hk ds _ _ _ (h id hid)
   rename_i hA;rw[A1 hA];exact NQ hk ds _ _ _ h
  omega
def PW {ops:Array Oper} {K K':Fr→A5→Prop} (hk:∀fr H,K fr H→K' fr H):∀(l:List Oper) (fr:Fr) (H:A5),Jp P A nt ops l fr H K→Jp P A nt ops l fr H K'
 |[],_,_,h=>hk _ _ h
 |o::l,fr,H,h=>by
  simp only[Jp]at h ⊢
  refine⟨h.1,?_⟩;obtain⟨_,h⟩:=h
  split at h
  ·rename_i hg;exact Mp h fun v H' h=>PW hk l _ _ h
  ·rename_i hg;exact PW hk l _ _ h
  omega
theorem XU {dx:Option Nat}{pv:Pv}{fr:Fr}{H:A5}{K K':Fr→A5→Prop}(hk:∀fr H,K fr H→K' fr H)(h:Kz dx pv fr H K):Kz dx pv fr H K':=by
 unfold Kz at h ⊢
 grind
def AC9 {d:Nat} {x:V}:∀{l:Fl},lk l d= .v x→CD l d=x
 |[],h=>by cases h;rfl
 |(k,s)::l,h=>by
  simp only[lk]at h
  simp only[CD]
  cases hb:Nat.beq d k with
  |true=>rw[hb]at h;subst h;rfl
  |false=>rw[hb]at h;exact AC9 h
theorem Vw {dx:Option Nat} {pl:Vr} {pe:Pe} {tk:List Nat} {ex:Option E7} {l:Fl} {H:A5} {K:Fl→A5→Prop} (h:RJ (I6 P nt rd) dx tk l H K):Kz dx (Az pl pe tk ex) (I8 ⟨l,df⟩) H fun fr H'=>∃l',fr=I8 ⟨l',df⟩∧K l' H':=by
 unfold RJ at h
 unfold Kz
 split at h
 ·grind
 rename_i d
 split at h
 ·rename_i xs h1 h2;obtain⟨h3,h4⟩:=h;refine⟨xs,by simp[Az,h1],AC9 h2,fun tl htl=>⟨_,?_,h3 tl htl⟩,fun t ht=>⟨_,?_,h4 t ht⟩⟩
  ·exact(P3 l (some d) (.v (.sl xs tl))).symm
  exact(P3 l (some d) (.v (.sl xs (.tok t)))).symm
 grind
def Am0 (hT:Lf P T) {w:Option (Nat×List Nat)} {k:Nat} {ops:Array Oper} {l:Fl} {H:A5} {K:Fl→A5→Prop} (hok:Tt ops k=true) (hnd:(GE (ops.toList.take k)).Nodup)
 (h:Av4 (I6 P nt rd) T nt A w k ops l H K):KR P nt rd ops (I8 ⟨l,df⟩) H fun e fr H'=>e= .normal∧∃l',fr=I8 ⟨l',df⟩∧K l' H':=by
 have rest:∀(l':Fl) (pl:Vr) (pe:Pe) (tk:List Nat) (ex:Option E7) (H2:A5),RJ (I6 P nt rd) (KI A 9000000 (ops.toList.take k)) tk l' H2 (fun l1 H3=>Nx (I6 P nt rd) A (GE (ops.toList.take k)) pl l1 H3 fun l'' H'=>QD (I6 P nt rd) T nt A ops (ops.toList.drop k) l'' H' K)→
  Kz (KI A 9000000 (ops.toList.take k)) (Az pl pe tk ex) (I8 ⟨l',df⟩) H2 fun fr1 H3=>JP A (GE (ops.toList.take k)) (Az pl pe tk ex) fr1 H3 fun fr H'=>Jp P A nt ops (ops.toList.drop k) fr H' fun fr H'=>.normal=Exit.normal∧∃l',fr=I8 ⟨l',df⟩∧K l' H':=fun l' pl pe tk ex H2 h=>by
  grind[XU,Vw,NQ,Kf,Gt]
 unfold Av4 at h
 obtain⟨ex,hX,h⟩:∃ex,(∀τ,ex=some τ→Fb H τ)∧Au7 (I6 P nt rd) w l (Jx H ex) fun ads pe H1=>xdB (I6 P nt rd) T nt A ads ops (ops.toList.take k) l [] pe [] ex H1 fun l' pv pe' tk=>AS5 (I6 P nt rd) pe' H1 fun H2=>RJ (I6 P nt rd) (KI A 9000000 (ops.toList.take k)) tk l' H2 fun l1 H3=>Nx (I6 P nt rd) A (GE (ops.toList.take k)) pv l1 H3 fun l'' H'=>QD (I6 P nt rd) T nt A ops (ops.toList.drop k) l'' H' K:=by
  unfold Au6 at h
  split at h
  ·exact⟨none,fun _ h=>(by cases h),h⟩
  obtain⟨τ,h1,h2⟩:=h;exact⟨some τ,fun _ h=>(by simp_all),h2⟩
 unfold Au7 at h
 cases w with
 |none=>
  refine KR.drawF (A:=A) (W:=[]) (dx:=KI A 9000000 (ops.toList.take k)) hok hnd hX (fun p hp=>by simp at hp) ?_
  have e0:pvW [] ex=Az [] none [] ex:=by funext x;cases x<;>rfl
  rw[e0];refine Ia (fun fr pv ⟨l',pl,pe',tk',ex',e1,e2,_,e3,h⟩=>?_) _ _ _ (Cq (df:=df) hT _ _ _ _ _ _ h);subst e1;subst e2
  cases pe' with
  |some p=>cases e3
  |none=>exact rest _ _ _ _ _ _ h
 | some p=>
  obtain⟨d,ads⟩:=p
  simp only at h
  split at h
  ·rename_i bid hl;obtain⟨cs,hk,h⟩:=h;refine KR.drawF (A:=A) (W:=[(bid,cs)]) (dx:=KI A 9000000 (ops.toList.take k)) hok hnd hX (fun p hp=>by simp_all) ?_
   have e0:pvW [(bid,cs)] ex=Az [] (some (d,bid,cs)) [] ex:=by
    funext x
    cases x with
    |inl x=>rfl
    |inr x=>
     grind[pvW,Az]
    |tk x=>rfl
    |ex=>rfl
   rw[e0];refine Ia (fun fr pv ⟨l',pl,pe',tk',ex',e1,e2,_,e3,h⟩=>?_) _ _ _ (Cq (df:=df) hT _ _ _ _ _ _ h);subst e1;subst e2
   cases pe' with
   |none=>cases e3
   |some q=>
    obtain⟨d',id',cs'⟩:=q
    simp only[K4,E6]at e3
    subst e3
    have hp:Az pl (some (d',id',cs')) tk' ex' (.inr id')=some cs':=by simp[Az]
    unfold UW;rw[hp];exact rest _ _ (some (d',id',cs')) _ _ _ h
  grind
end
noncomputable def AD5 (xs:List V):Int:=List.rec (motive:=fun _=>Int) 0 (fun _ _ n=>n+1) xs
def Aj1 (xs:List V):AD5 xs=(xs.length:Nat):=by
 induction xs with
 |nil=>rfl
 |cons x xs ih=>
  have e:AD5 (x::xs)=AD5 xs+1:=rfl;rw[e,ih];simp
def Pp (ops:Array Oper) (k:Nat):Bool:=
 k +3<ops.size&&(List.range ops.size).all fun i=>
  BO (ops.getD i default) i&&
   (List.range i).all fun j=>(i<k&&My ops (ops.getD j default) (ops.getD i default))||KZ ops PT i j||(i==k+3&&decide (k<j))
def Ts {ops:Array Oper}{k:Nat}(h:Pp ops k=true):k+3<ops.size∧∀i,i<ops.size→BO (ops.getD i default) i=true∧
 ∀j,j<i→(KZ ops PT i j=true∨(i<k∧My ops (ops.getD j default) (ops.getD i default)=true))∨(i=k+3∧k<j):=by
 simp only[Pp,M6,C8,Gr,Gj,P0,Ge]at h
 exact⟨h.1,fun i hi=>⟨(h.2 i hi).1,fun j hj=>((h.2 i hi).2 j hj).imp Or.symm id⟩⟩
def neT (x:Operand)(t:Nat):Bool:=
 match x with
 | .tmp u=> !Nat.beq u t
 |_=>true
def Aa4 {x:Operand}{t:Nat}(h:neT x t=true):x≠ .tmp t:=by
 intro e;subst e;simp[neT]at h
def isNone {α:Type}:Option α→Bool
 |none=>true
 |some _=>false
def Hq {α:Type}{o:Option α}(h:isNone o=true):o=none:=by
 cases o<;>simp[isNone]at h;rfl
def AH2 (nt k:Nat) (ops:Array Oper):Option TN:=
 match(ops.getD k default).op,(ops.getD k default).dst,(ops.getD (k+1) default).op,(ops.getD (k+1) default).dst,(ops.getD (k+2) default).op,(ops.getD (k+3) default).op with
 | .call {callee:=.builtin .append,args:=⟨[sx,sy]⟩,argTypes:=⟨[sT,yT]⟩},some tA,.indexAddr t2 (.tmp tA2) nn,some tI,.store eT (.tmp tI2) zz,.store t3 (.tmp tp) (.tmp tA3)=>
  if(Nat.beq tA2 tA&&Nat.beq tA3 tA&&Nat.beq tI2 tI&&isNone (ops.getD k default).guard&&isNone (ops.getD (k+1) default).guard&&isNone (ops.getD (k+2) default).guard&&isNone (ops.getD (k+3) default).guard&&
   isNone (ops.getD (k+2) default).dst&&isNone (ops.getD (k+3) default).dst&& !Nat.beq tA tI&& !Nat.beq tp tA&& !Nat.beq tp tI&&neT nn tA&&neT zz tA&&neT zz tI&&Nat.ble (tA+1) nt&&Nat.ble (tI+1) nt)=true then
   some ⟨sx,sy,nn,zz,sT,yT,t2,eT,t3,tA,tI,tp⟩else none
 |_,_,_,_,_,_=>none
def AH1 {nt k:Nat} {ops:Array Oper} {p:TN} (hl:k+3<ops.size) (h:AH2 nt k ops=some p):Bb1 ops nt k p:=by
 unfold AH2 at h
 split at h
 ·rename_i sx sy sT yT tA t2 tA2 nn tI eT tI2 zz t3 tp tA3 e1 e2 e3 e4 e5 e6
  rw[Option.ite_none_right_eq_some]at h
  obtain⟨hc,h⟩:=h;cases h
  simp only[M6,P1]at hc
  obtain⟨⟨⟨⟨⟨⟨⟨⟨⟨⟨⟨⟨⟨⟨⟨⟨c1,c2⟩,c3⟩,c4⟩,c5⟩,c6⟩,c7⟩,c8⟩,c9⟩,c10⟩,c11⟩,c12⟩,c13⟩,c14⟩,c15⟩,c16⟩,c17⟩:=hc;have f1:=Cc c1;have f2:=Cc c2;have f3:=Cc c3;subst f1;subst f2;subst f3
  have ne:∀{a b:Nat},Nat.beq a b=false→a≠b:=fun h e=>by subst e;rw[Nat.beq_refl]at h;cases h
  exact⟨hl,e1,e2,Hq c4,e3,e4,Hq c5,e5,Hq c8,Hq c6,e6,Hq c9,Hq c7,ne c10,ne c11,ne c12,Aa4 c13,Aa4 c14,Aa4 c15,HB c16,HB c17⟩
 cases h
section
variable {P:Program}{nt:Nat}{ops:Array Oper}{H0:A5}
def AppT (P:Program) (nt:Nat) (A:TP) (ops:Array Oper) (k:Nat) (p:TN) (fr:Fr) (H:A5) (K:Fr→A5→Prop):Prop:=
 ∃ (xs:List V) (tl tl':E7) (y0 vV z:V) (kk:IntKind) (e:TypeId) (sz by_ idp offp:Nat),
  Cp (ev fr p.sx) (.sl xs tl)∧ev fr p.sy= .sl [y0] tl'∧y0.cells.length=sz∧ev fr p.nn= .int kk (xs.length:Nat)∧Cp (ev fr p.zz) vV∧vV.one=true∧vV.cells.length=sz∧
  Fd P p.sT=some e∧(Fd P p.yT).isSome=true∧Fd P p.t2=some e∧Ev P e=some sz∧Ev P p.eT=some sz∧0<sz∧Qj P e=some by_∧0<by_∧ID P e=some z∧z.one=true∧z.cells.length=sz∧Fb H tl∧
  xs.all (fun x=>x.cells.length==sz)=true∧(xs.length+1)*by_≤140737488355328∧fr.s p.tp= .ref idp offp∧Ev P p.t3=some 1∧
  ∀t,G0 H tl t=none→∃cs,upd (G0 H tl) t (some .spare) idp=some (.cells cs)∧offp+1≤cs.length∧
   Jp P A nt ops (ops.toList.drop (k+4)) ((fr.put (some p.tA) (.sl (xs++[vV]) (.tok t))).put (some p.tI) .bad) (upd (upd (G0 H tl) t (some .spare)) idp (some (.cells (V4 cs offp [.sl (xs++[vV]) (.tok t)])))) K
def W4.appF {A:TP} {rd:Option Nat} {id k:Nat} {p:TN} {fr:Fr} {Q:Exit→Fr→A5→Prop} (hm:P.follows .mixedOrders=true) (hok:Pp ops k=true) (hp:Bb1 ops nt k p)
 (h:JX P nt ops H0 (ops.toList.take k) fr (fun _=>none) fun fr' pv=>(∀x,pv x=none)∧AppT P nt A ops k p fr' H0 (Q .normal)):W4 P nt rd (.region id ops true) fr H0 Q:=by
 intro r g w a _ hR hF;refine wpIn_region_any hm ?_;obtain⟨hk3,hat⟩:=Ts hok
 have hk:k≤ops.size:=by omega
 have sd:W1 g w g w.drew:=⟨fun _ _ e=>e,fun _ _ e=>e,fun _ _ e=>e,rfl,fun _ _ _=>rfl,(W6 _ _).drew,fun _ _ _=>rfl,Ed _⟩
 have hRd:Rl g H0 w.drew:=by
  refine⟨fun id b hb=>(hR.blk id b hb).mono hb sd fun _ _=>⟨rfl,fun _ ho=>ho⟩,hR.inj,hR.frz,hR.nxt,hR.bnd,fun n=>(hR.glb n).mono sd⟩
 have hI:Af2 nt H0 g w.drew fr (fun _=>none) g w.drew a:=
  ⟨H0,fun _=>0,W1.refl _ _,hRd,hF.mono sd,fun _ _ h=>h,fun d cs h=>(by cases h),fun d d' cs cs' h=>(by cases h),fun _=>none,fun d cs h=>(by cases h),fun d d' cs cs' t h=>(by cases h),fun cs h=>(by cases h)⟩
 have hmap:(List.range k).map (fun i=>ops.getD i default)=ops.toList.take k:=by
  apply Lz
  ·simp;omega
  intro i h1 h2
  simp at h1
  simp[Array.getD,show i<ops.size by omega]
 have hb:=TH (r:=r) (Q:=Vs nt g w Q) hk (fun i hi=>⟨(hat i hi).1,fun j hj=>by
  rcases(hat i hi).2 j hj with h|h
  ·exact h.imp (fun h=>h) .inl
  exact .inr (.inr (by omega))⟩) (K:=fun fr' pv=>(∀x,pv x=none)∧AppT P nt A ops k p fr' H0 (Q .normal)) (g0:=g) (w0:=w.drew)
  (fun g' w' a' fr' pv listed hsz hl hI' hK=>?_) k (List.range k) (Array.replicate ops.size false) fr (fun _=>none) (by simp) (Qu) (fun i hi=>by simpa using hi) (by simp) (fun i b hi=>by simp[Array.getD,hi]) (fun m j hm _=>by simp[Array.getD]at hm) (by rw[hmap];exact h) g w.drew a hI
 ·rw[show k+(ops.size-k)=ops.size by omega]at hb
  exact hb
 obtain⟨H,ids,s,hR',hF',hext,hpv,hinj,_⟩:=hI';obtain⟨_,xs,tl,tl',y0,vV,z,kk,e,sz,by_,idp,offp,b1,b2,b3,b4,b5,b6,b7,b8,b9,b10,b11,b12,b13,b14,b15,b16,b17,b18,b19,b20,b21,b22,b23,b24⟩:=hK;have hR0:=hR'.less hext
 have hfresh:G0 H0 tl g'.nx=none:=by
  have:=(hR0.nxt _ (D5 _)).2.2
  cases hd:G0 H0 tl g'.nx with
  |none=>rfl
  |some b=>rw[EV hd]at this;cases this
 obtain⟨cs,c1,c2,_⟩:=b24 _ hfresh
 have hlc:LC ops listed fun i=>decide (i<k):=⟨hsz,hl,fun m j hm hj=>by
  have hms:m<ops.size:=by
   rcases Q6 m ops.size with h|h
   ·exact h
   simp[Array.getD,show¬m<listed.size by omega]at hm
  rw[hl m false hms]at hm
  simp only[C8]at hm
  have hbw:=(hat m hms).1
  simp only[BO,Array.all_eq_true]at hbw
  simp only[ET,LF,M6,Ge]at hj
  obtain⟨x,hx,rfl,hbx⟩:=hj;have:=hbw x hx
  simp only[hbx,R3,DN,C8]at this
  rw[hl _ false (by omega)]
  simp only[C8];omega⟩
 have hidp:∀t cs,G0 H0 tl t=none→upd (G0 H0 tl) t (some .spare) idp=some (.cells cs)→H0 idp=some (.cells cs):=fun t cs ht h=>by
  by_cases e:idp=t
  ·subst e;rw[E4]at h;cases h
  rw[D2 _ _ e]at h;exact EV h
 have hUc:=hidp _ _ hfresh c1
 exact AG7 (A:=A) (r:=r) (K:=Q .normal) (g0:=g) (w0:=w) hp (fun i hi=>⟨(hat i hi).1,fun j hj=>by
  rcases(hat i hi).2 j hj with(h|h)|h
  ·exact .inl h
  ·exact .inr (.inl h.1)
  exact .inr (.inr h)⟩)
  (fun g3 w3 a3 fr3 H3 s3 hR3 hF3 hK3=>⟨g3,fr3,H3,s3,hR3,hF3,hK3⟩) hlc b1 b2 b3 b4 b5 b6 b7 b8 b9 b10 b11 b12 b13 b14 b15 b16 b17 b18 b19 b20 b21 b22 hUc b23 c2
  (fun t ht=>by
   obtain⟨cs',d1,d2,d3⟩:=b24 t ht;have:=hidp _ _ ht d1
   rw[hUc]at this
   cases this
   exact d3) g' w' a' (sd.trans s) hR0 hF'
end
section
variable (E:FL)(T:GY)(nt:Nat)(A:Nat→Bool)
def AS7 (k :Nat) (p:TN) (ops:Array Oper) (l:Fl) (H:A5) (K:Fl→A5→Prop):Prop:=
 match(U2 [] l p.sx).V,(U2 [] l p.sy).V,(U2 [] l p.nn).V,lk l p.tp with
 | .sl xs tl,.sl [y0] _,.int _ m,.v (.ref idp offp)=>
  (match tg T p.sT,tg T p.yT,tg T p.t2,tg T p.eT,tg T p.t3 with
   | some I,some I2,some I3,some I4,some I5=>
    (match I.sl,I2.sl,I3.sl with
     | some e,some _,some e3=>
      (match tg T e with
       | some J=>
        (match J.ze with
         | some z=>
          if 0<J.sz∧0<J.by_∧z.one=true∧z.cells.length=J.sz∧e3=e∧I4.sz=J.sz∧I5.sz=1∧y0.cells.length=J.sz∧(U2 [] l p.zz).V.one=true∧(U2 [] l p.zz).V.cells.length=J.sz then
           E.need (m=AD5 xs) fun _=>
           E.appn J.sz J.by_ H tl xs [(U2 [] l p.zz).V] fun r H'=>E.storeP H' idp offp 1 [r] fun H''=>QD E T nt A ops (ops.toList.drop (k+4)) ((p.tI,.v .bad)::(p.tA,.v r)::l) H'' K
          else False
         |none=>False)
       |none=>False)
     |_,_,_=>False)
   |_,_,_,_,_=>False)
 |_,_,_,_=>False
def AV0 (k:Nat)(ops:Array Oper)(l:Fl)(H:A5)(K:Fl→A5→Prop):Prop:=
 match AH2 nt k ops with
 |some p=>xdB E T nt A [] ops (ops.toList.take k) l [] none [] none H fun l' pv pe tk=>(match pv,pe,tk with|[],none,[]=>AS7 E T nt A k p ops l' H K|_,_,_=>False)
 |none=>False
end
section
variable {P:Program}{nt:Nat}{rd:Option Nat}{T:GY}{A:Nat→Bool}{df:List Nat}
def Zz (hT:Lf P T) {k:Nat} {ops:Array Oper} {l:Fl} {H:A5} {K:Fl→A5→Prop} {id:Nat} (hm:P.follows .mixedOrders=true) (hok:Pp ops k=true)
 (h:AV0 (I6 P nt rd) T nt A k ops l H K):W4 P nt rd (.region id ops true) (I8 ⟨l,df⟩) H fun e fr H'=>e= .normal∧∃l',fr=I8 ⟨l',df⟩∧K l' H':=by
 unfold AV0 at h
 split at h
 ·rename_i p hpat;have hp:=AH1 (Ts hok).1 hpat;refine W4.appF (A:=A) hm hok hp ?_
  have e0:(fun _=>none:Pv)=Az [] none [] none:=by funext x;cases x<;>rfl
  rw[e0];refine Ia (fun fr pv ⟨l',pl,pe',tk',ex',e1,e2,e4,e3,h⟩=>?_) _ _ _ (Cq (df:=df) hT _ _ _ _ _ _ h);cases e4 rfl;subst e1;subst e2
  split at h
  ·refine ⟨fun x=>by cases x<;>rfl,?_⟩
   unfold AS7 at h
   split at h
   ·rename_i xs tl y0 tl' kk m idp offp hx hy hn htp
    split at h
    ·rename_i I I2 I3 I4 I5 h1 h2 h3 h4 h5
     split at h
     ·rename_i e e2 e3' q1 q2 q3
      split at h
      ·rename_i J hJ
       split at h
       ·rename_i z hz
        have ez:=(H7 hT hJ).ze;rw[hz]at ez;simp only[Co]at ez
        split at h
        ·rename_i hc;obtain⟨c1,c2,c3,c4,c5,c6,c7,c8,c9,c10⟩:=hc;obtain⟨hm',xs',ys',a1,a2,a3,a4,a5,a6,a7,a8⟩:=h;have E':∀x,(U2 [] l' x).V=ev (I8 ⟨l',df⟩) x:=fun x=>ES Lj.nil x
         rw[E']at hx hy hn c9 c10
         rw[E']at a2
         obtain⟨vV,rfl,hle⟩:∃vV,ys'=[vV]∧Cp (ev (I8 ⟨l',df⟩) p.zz) vV:=by
          cases a2 with
          |cons q r=>cases r;exact⟨_,rfl,q⟩
         have hl:=a1.length
         refine⟨xs',tl,tl',y0,vV,z,kk,e,J.sz,J.by_,idp,offp,by rw[hx];exact .slt _ a1,hy,c8,by rw[hn,hm',Aj1,hl],hle,hle.one c9,by rw[←hle.cells.length];exact c10,
          (H7 hT h1).sl.trans q1,by rw[(H7 hT h2).sl,q2];rfl,by rw[(H7 hT h3).sl,q3,c5],(H7 hT hJ).sz,by rw[(H7 hT h4).sz,c6],c1,(H7 hT hJ).by_,c2,ez,c3,c4,a3,a4,by simpa using a6,
          Mu l' p.tp _ htp (fun _ _ _ h=>by cases h),by rw[(H7 hT h5).sz,c7],fun t ht=>?_⟩
         obtain⟨cs,g1,g2,g3⟩:=a8 t (by simp) ht;refine⟨cs,g1,HB g2,?_⟩;have:=Gt (df:=df) hT _ _ _ g3
         have ef:I8 ⟨(p.tI,.v .bad)::(p.tA,.v (.sl (xs'++[vV]) (.tok t)))::l',df⟩=((I8 ⟨l',df⟩).put (some p.tA) (.sl (xs'++[vV]) (.tok t))).put (some p.tI) .bad:=by
          have e1:=P3 (df:=df) ((p.tA,.v (.sl (xs'++[vV]) (.tok t)))::l') (some p.tI) (.v .bad);have e2:=P3 (df:=df) l' (some p.tA) (.v (.sl (xs'++[vV]) (.tok t)))
          simp only[Dv]at e1 e2
          rw[e1,e2];rfl
         rw[ef]at this
         exact PW (fun fr H' ⟨l'',e,hk⟩=>⟨rfl,l'',e,hk⟩) _ _ _ this
        exact h.elim
       exact h.elim
      exact h.elim
     exact h.elim
    exact h.elim
   exact h.elim
  exact h.elim
 exact h.elim
end
end Go.Ab
namespace Go.Ab
open Go.RowKit
variable [N9]
section
variable (P:Program)(A:TP)(nt:Nat)(ops:Array Oper)
def AT0 (o:Oper) (fr:Fr) (H:A5) (K:Fr→A5→Prop):Prop:=
 GV nt o.dst=true∧
  match BL ops fr o with
  |some true=>Ih P A o (ev fr) H fun v H'=>K (fr.put o.dst v) H'
  |some false=>K (fr.put o.dst (.tup [])) H
  |none=>False
def Zi:Nat→Array Bool→Fr→A5→(Fr→A5→Prop)→Prop
 |0,listed,fr,H,K=>Region.ready .any ops listed=[]∧K fr H
 | n +1,listed,fr,H,K=>(Region.ready .any ops listed=[]→K fr H)∧
     ∀i∈Region.ready .any ops listed,AT0 P A nt ops (ops.getD i default) fr H fun fr' H'=>Zi n (listed.setIfInBounds i true) fr' H' K
end
section
variable {P:Program}{nt:Nat}{ops:Array Oper}{A:TP}{r:Option Nat}{K:Fr→A5→Prop}{Q:Exit→Act→World→Prop}{g0:Gh}{w0:World}
def Al5 (hQ:∀g w a fr H,W1 g0 w0 g w→Rl g H w→FR nt g w a fr→K fr H→Q .normal a w):
 ∀(n:Nat) (listed:Array Bool) (fr:Fr) (H:A5),Zi P A nt ops n listed fr H K→
  ∀g w a,W1 g0 w0 g w→Rl g H w→FR nt g w a fr→wpAnyIn (Fw r) 0 P .any ops Q n listed a w
 |0,listed,fr,H,h,g,w,a,s,hR,hF=>⟨h.1,hQ g w a fr H s hR hF h.2⟩
 |n+1,listed,fr,H,h,g,w,a,s,hR,hF=>by
  refine⟨fun e=>hQ g w a fr H s hR hF (h.1 e),fun i hi=>?_⟩;obtain⟨h1,_,_⟩:=Dl hi;have hs:=h.2 i hi
  have eo:ops.getD i default=ops[i]:=by simp[Array.getD,h1]
  rw[eo]at hs
  obtain⟨hd,hs⟩:=hs;have ih:=Al5 hQ n (listed.setIfInBounds i true);simp only[wpOpIn,CK h1]
  split at hs
  ·rename_i hg;rw[A2 (X9 hF.s hg)];exact Uo hR hF hd hs fun g' w' a' v H' s' hR' hF' hK=>ih _ _ hK g' w' a' (s.trans s') hR' hF'
  ·rename_i hg;rw[A1 (by rw[X9 hF.s hg];simp)];exact⟨fun _ _=>trivial,ih _ _ hs g w _ s hR (hF.put (EU hd) (VR.und _ _))⟩
  exact hs.elim
def KR.all {rd:Option Nat} {fr:Fr} {H0:A5} {Q:Exit→Fr→A5→Prop} (h:Zi P A nt ops ops.size (Array.replicate ops.size false) fr H0 (Q .normal)):KR P nt rd ops fr H0 Q:=by
 intro r g w a _ hR hF;have sd:W1 g w g w.drew:=⟨fun _ _ e=>e,fun _ _ e=>e,fun _ _ e=>e,rfl,fun _ _ _=>rfl,(W6 _ _).drew,fun _ _ _=>rfl,Ed _⟩
 have hRd:Rl g H0 w.drew:=by
  refine⟨fun id b hb=>(hR.blk id b hb).mono hb sd fun _ _=>⟨rfl,fun _ ho=>ho⟩,hR.inj,hR.frz,hR.nxt,hR.bnd,fun n=>(hR.glb n).mono sd⟩
 exact Al5 (r:=r) (g0:=g) (w0:=w) (fun g' w' a' fr' H' s' hR' hF' hK=>⟨g',fr',H',s',hR',hF',hK⟩) _ _ fr H0 h g w.drew a sd hRd (hF.mono sd)
end
end Go.Ab
namespace Go.Ab
open Go.RowKit
variable [N9][Ar]
def AZ7:List Nat→(Nat→Prop)→Prop
 |[],_=>True
 |[i],f=>f i
 |i::l,f=>f i∧AZ7 l f
def Zh:∀{l:List Nat} {f:Nat→Prop},AZ7 l f→∀i∈l,f i
 |[],_,_,i,h=>by cases h
 |[a],f,h,i,hi=>by rw[List.mem_singleton.1 hi];exact h
 |a::b::l,f,h,i,hi=>by
  rcases List.mem_cons.1 hi with rfl|hi
  ·exact h.1
  exact Zh h.2 i hi
section
variable (E:FL)(T:GY)(nt:Nat)(A:Nat→Bool)(ops:Array Oper)
def AS2 (o:Oper)(l:Fl)(H:A5)(K:Fl→A5→Prop):Prop:=
 match GV nt o.dst with
 |true=>HD E ops o 4 l (fun G l' wr=>xop E T A G o l' H fun s H'=>K (Dv o.dst (wr s) l') H') fun l'=>K (Dv o.dst (.v (.tup [])) l') H
 |false=>False
end
section
variable {P:Program}{nt:Nat}{rd:Option Nat}{T:GY}{A:Nat→Bool}{df:List Nat}
end
end Go.Ab
namespace Go.Ab
open Go.RowKit
variable [N9]
section
variable {P:Program}
def Ap8 {A:TP} {o:Oper} {ρ ρ':Operand→V} {H:A5} {K:V→A5→Prop} (hρ:∀x∈o.op.operands,ρ x=ρ' x) (h:Ih P A o ρ H K):Ih P A o ρ' H K:=by
 have hq:∀{v},Om P o ρ H v→Om P o ρ' H v:=PY hρ
 unfold Ih at h ⊢
 cases ho:o.op<;>simp only[ho]at h ⊢ hρ<;>first
  |exact h
  |(obtain⟨v,h1,h2⟩:=h;exact⟨v,hq h1,h2⟩)
  | (simp only[Op.operands,Gq,Gi,LA,or_false,forall_eq_or_imp,forall_eq]at hρ
     first
      |(rw[←hρ];exact h)
      |(rw[←hρ.1,←hρ.2];exact h)
      |(rw[←hρ.1,←hρ.2.1,←hρ.2.2];exact h))
  |skip
 ·rename_i t n ps
  have e:ps.toList.map (fun p=>(p.1,ρ p.2))=ps.toList.map (fun p=>(p.1,ρ' p.2)):=Y8 fun p hp=>by rw[hρ p.2 (by simp only[Op.operands,Gq,Ee];grind)]
  rw[←e]
  grind
 ·rename_i op t x y _;rw[←hρ x (by simp[Op.operands]),←hρ y (by simp[Op.operands])]
  grind
 rename_i c;have hargs:c.args.toList.map ρ=c.args.toList.map ρ':=Y8 fun p hp=>hρ p (by simp only[Op.operands,Call.operands,It];simp_all);rw[←hargs]
 cases hc:c.callee with
 |value f=>
  simp only[hc]at h ⊢
  rw[←hρ f (by simp[Op.operands,Call.operands,hc])];exact h
 |builtin b=>rw[hc]at h;cases b<;>exact h
 |_=>rw[hc]at h;exact h.elim
def PL:Op→Bool
 | .move _=>true
 | .assign _=>true
 | .pick _ _ _=>true
 | .build _ _=>true
 | .binOp _ _ _ _ _=>true
 | .unOp _ _ _=>true
 | .fieldAddr _ _ _=>true
 | .field _ _ _=>true
 | .extract _ _=>true
 | .load _ _=>true
 | .call c=>match c.callee with| .builtin .len=>true|_=>false
 |_=>false
def AA9 {A:TP}{o:Oper}{ρ:Operand→V}{H:A5}{K:V→A5→Prop}{v:V}(hs:PL o.op=true)(h:Om P o ρ H v)(hk:K v H):Ih P A o ρ H K:=by
 grind[Ih,PL,Om]
variable {A:TP}{nt:Nat}{ops:Array Oper}
def Te (ops:Array Oper)(i:Nat):Bool:=
 PL (ops.getD i default).op&&(ops.getD i default).guard.isNone&&(List.range ops.size).all fun j=>j==i||ET (ops.getD j default) i||ET (ops.getD i default) j||(ops.getD i default).apart ops (ops.getD j default)
theorem At8 {i:Nat} (hi:i<ops.size) (hf:Te ops i=true) (hdst:GV nt (ops.getD i default).dst=true) {K:Fr→A5→Prop} {v:V}:∀(n:Nat) (listed:Array Bool) (fr:Fr) (H:A5),i∈Region.ready .any ops listed→(∀H',Om P (ops.getD i default) (ev fr) H' v)→
 Zi P A nt ops n (listed.setIfInBounds i true) (fr.put (ops.getD i default).dst v) H K→Zi P A nt ops (n+1) listed fr H K:=by
 simp only[Te,M6,Gr,Gj,P0,Ge]at hf
 obtain⟨⟨hso,hg⟩,hfree⟩:=hf
 have hg:(ops.getD i default).guard=none:=by simpa using hg
 have first:∀(fr:Fr) (H:A5) (K':Fr→A5→Prop),(∀H',Om P (ops.getD i default) (ev fr) H' v)→K' (fr.put (ops.getD i default).dst v) H→AT0 P A nt ops (ops.getD i default) fr H K':=fun fr H K' hq hk=>by
  refine⟨hdst,?_⟩
  have:BL ops fr (ops.getD i default)=some true:=by simp_all[BL]
  rw[this];exact AA9 hso (hq H) hk
 intro n
 induction n with
 |zero=>
  intro listed fr H hr hq h;refine⟨fun e=>(by rw[e]at hr;cases hr),fun j hj=>?_⟩
  by_cases hji:j=i
  ·simp_all
  have:=Go.ready_mono hj hji
  rw[h.1]at this;cases this
 | succ n ih=>
  intro listed fr H hr hq h;refine⟨fun e=>(by rw[e]at hr;cases hr),fun j hj=>?_⟩
  by_cases hji:j=i
  ·simp_all
  have h1:=h.2 j (Go.ready_mono hj hji);obtain⟨hjs,hjl,hje⟩:=Dl hj;obtain⟨_,hil,_⟩:=Dl hr
  have hap:(ops.getD i default).apart ops (ops.getD j default)=true:=by
   grind
  obtain⟨p1,p2,p3⟩:=Oper.apart_spec hap
  have hn:∀(u:V) (H':A5),Zi P A nt ops n ((listed.setIfInBounds i true).setIfInBounds j true) ((fr.put (ops.getD i default).dst v).put (ops.getD j default).dst u) H' K→Zi P A nt ops (n+1) (listed.setIfInBounds j true) (fr.put (ops.getD j default).dst u) H' K:=fun u H' hk=>by
   refine ih _ _ _ (Go.ready_mono hr fun e=>hji e.symm) (fun H2=>PY (fun x hx=>(Mt p3 x hx).symm) (hq H2)) ?_;rw[Array.setIfInBounds_comm _ _ hji,←XI p2];exact hk
  obtain⟨hd,hs⟩:=h1;refine⟨hd,?_⟩
  rw[QS p1]at hs
  split at hs
  ·exact Mp (Ap8 (Mt p1) hs) fun u H' hk=>hn u H' hk
  ·grind
  omega
end
end Go.Ab
namespace Go.Ab
open Go.RowKit
variable [N9][Ar]
def Ac0:List Nat→Nat→Bool
 |[],_=>false
 |a::l,n=>match n==a with|true=>true|false=>Ac0 l n
def Yp:∀{l:List Nat} {n:Nat},Ac0 l n=true→n∈l
 |[],_,h=>by cases h
 |a::l,n,h=>by
  unfold Ac0 at h
  cases e:n==a with
  |true=>rw[beq_iff_eq.1 e];simp
  |false=>rw[e]at h;exact HA _ (Yp h)
section
variable (E:FL)(T:GY)(nt:Nat)(A:Nat→Bool)(ops:Array Oper)(fl:List Nat)
def Rp (o:Oper)(l:Fl):Bool:=
 match o.op with
 | .load _ x=>(match U2 [] l x with| .v (.eref _ _)=>true|_=>false)
 |_=>true
def JV (l:Fl):List Nat→Option Nat
 |[]=>none
 |i::r=>match Ac0 fl i with
  |true=>(match Rp (ops.getD i default) l with|true=>some i|false=>JV l r)
  |false=>JV l r
def Um:Nat→Array Bool→Fl→A5→(Fl→A5→Prop)→Prop
 |0,listed,l,H,K=>match Region.ready .any ops listed with|[]=>K l H|_::_=>False
 | n +1,listed,l,H,K=>
  match Region.ready .any ops listed with
  |[]=>K l H
  | i::r=>
   match JV ops fl l (i::r)with
   | some j=>
    (match GV nt (ops.getD j default).dst with
     |true=>xq E T [] (ops.getD j default) l H fun s=>Um n (listed.setIfInBounds j true) (Dv (ops.getD j default).dst (Sl.n s) l) H K
     |false=>False)
   |none=>AZ7 (i::r) fun i=>AS2 E T nt A ops (ops.getD i default) l H fun l' H'=>Um n (listed.setIfInBounds i true) l' H' K
end
def HT {ops:Array Oper} {fl:List Nat} {l:Fl} {j:Nat}:∀{r:List Nat},JV ops fl l r=some j→j∈r∧Ac0 fl j=true∧Rp (ops.getD j default) l=true
 |[],h=>by cases h
 | i::r,h=>by
  unfold JV at h
  cases h1:Ac0 fl i with
  |true=>
   rw[h1]at h
   cases h2:Rp (ops.getD i default) l with
   |true=>rw[h2]at h;simp_all
   |false=>rw[h2]at h;have:=HT h;simp_all
  |false=>rw[h1]at h;have:=HT h;simp_all
section
variable {P:Program}{nt:Nat}{rd:Option Nat}{T:GY}{A:Nat→Bool}{df:List Nat}
theorem Ap6 {o:Oper} {ρ:Operand→V} {H:A5} {v:V} (hs:PL o.op=true) (hl:∀t x,o.op= .load t x→∃cs off,ρ x= .eref cs off) (h:Om P o ρ H v) (H':A5):Om P o ρ H' v:=by
 unfold Om at h ⊢
 cases ho:o.op<;>simp only[ho,PL,D6]at hs h ⊢ <;>first
  |exact h
  |skip
 ·rename_i t x;obtain⟨cs,off,e⟩:=hl t x ho
  rw[e]at h ⊢
  rcases h with h|h
  ·left
   unfold IY at h ⊢
   grind
  simp_all[Nu]
 rename_i c
 cases hcc:c.callee with
 | builtin b=>
  rw[hcc]at hs h
  cases b with
  | len=>
   have h:Dc P .len c.argTypes.toList (c.args.toList.map ρ) v∨NU P H .len c.argTypes.toList (c.args.toList.map ρ) v:=h
   have k:∀(ts:List TypeId) (vs:List V),NU P H .len ts vs v→NU P H' .len ts vs v:=fun ts vs h=>by
    rcases ts with _|⟨t,_|⟨t2,ts⟩⟩<;>rcases vs with _|⟨x,_|⟨x2,vs⟩⟩<;>first
     |exact h
     |exact h.elim
   grind
  |_=>cases hs
 |_=>rw[hcc]at hs;cases hs
def Gu (hT:Lf P T) {ops:Array Oper} {fl:List Nat} (hfl:∀i,Ac0 fl i=true→Te ops i=true) {K:Fl→A5→Prop}:∀(n:Nat) (listed:Array Bool) (l:Fl) (H:A5),Um (I6 P nt rd) T nt A ops fl n listed l H K→Zi P A nt ops n listed (I8 ⟨l,df⟩) H fun fr H'=>∃l',fr=I8 ⟨l',df⟩∧K l' H'
 |0,listed,l,H,h=>by
  unfold Um at h
  split at h
  ·rename_i e;exact⟨e,l,rfl,h⟩
  grind
 | n +1,listed,l,H,h=>by
  unfold Um at h
  split at h
  ·rename_i e;exact⟨fun _=>⟨l,rfl,h⟩,fun i hi=>by rw[e]at hi;cases hi⟩
  rename_i i0 r0 e
  split at h
  ·rename_i j hj;obtain⟨j1,j2,j3⟩:=HT hj
   rw[←e]at j1
   obtain⟨js,_,_⟩:=Dl j1;have hf:=hfl j j2
   split at h
   ·rename_i hd;obtain⟨s,hq,hk⟩:=Oq (df:=df) hT Lj.nil h
    have hso:PL (ops.getD j default).op=true:=by
     have:=hf
     simp_all[Te]
    have hst:∀t x,(ops.getD j default).op= .load t x→∃cs off,ev (I8 ⟨l,df⟩) x= .eref cs off:=fun t x ho=>by
     unfold Rp at j3
     rw[ho]at j3
     dsimp only at j3
     split at j3
     ·rename_i cs off he;exact⟨cs,off,by rw[←ES (df:=df) Lj.nil x,he];rfl⟩
     cases j3
    have hall:=Gu hT hfl n _ _ _ hk
    rw[P3]at hall
    have hv:slV l (Sl.n s)=s.V:=by cases s<;>rfl
    rw[hv]at hall
    grind[At8,Ap6]
   grind
  refine⟨(fun e'=>by rw[e]at e';cases e'),fun i hi=>?_⟩
  rw[e]at hi
  have h:=Zh h i hi
  unfold AS2 at h
  split at h
  ·rename_i hd;refine⟨hd,?_⟩;obtain⟨l',e,h⟩:=Ex (df:=df) 4 l h
   have e:I8 ⟨l',df⟩=I8 ⟨l,df⟩:=by simp_all[I8]
   rcases h with⟨hg,G,wr,hG,hwr,h⟩|⟨hg,h⟩
   ·rw[hg];rw[←e];refine Mp (PF (df:=df) hT hG h) fun v H' ⟨s,hv,hk⟩=>?_;subst hv;rw[←hwr s,←P3];exact Gu hT hfl n _ _ _ hk
   rw[hg];rw[←e]
   rcases h with h|⟨G,d,want,ht,hb,h⟩
   ·have:=Gu hT hfl n _ _ _ h
    rw[P3]at this
    exact this
   obtain⟨s,h⟩:=Vv hT ht h;have:=Gu hT hfl n _ _ _ h
   rw[P3]at this
   simp_all[slV]
  grind
end
def NS:List Nat→Nat→Bool
 |[],_=>false
 |x::l,n=>match n==x with|true=>true|false=>NS l n
def Ar7:List (Nat×Nat)→Nat→Nat
 |[],_=>0
 |(x,y)::l,n=>match Nat.beq n x with|true=>y|false=>Ar7 l n
def Wn:List (Nat×Nat)→Nat→List Nat
 |[],_=>[]
 |(x,y)::l,n=>match n==x with|true=>y::Wn l n|false=>Wn l n
structure Cf where
 A:List Nat
 hk:List (Nat×Nat)
 J:List (Nat×Nat)
 JB:List Nat
 Z:List (Nat×Nat)
 W:List (Nat×Nat×List Nat)
def wAt:List (Nat×Nat×List Nat)→Nat→Option (Nat×List Nat)
 |[],_=>none
 |(q,d)::l,n=>match Nat.beq n q with|true=>some d|false=>wAt l n
def zAt:List (Nat×Nat)→Nat→List Nat
 |[],_=>[]
 |(q,d)::l,n=>match n==q with|true=>d::zAt l n|false=>zAt l n
def AU7:List (Nat×Nat)→Nat→List Nat
 |[],_=>[]
 |(q,d)::l,n=>match n==q with|true=>d::AU7 l n|false=>AU7 l n
def memP:List (Nat×Nat)→Nat→Nat→Bool
 |[],_,_=>false
 |(x,y)::l,a,b=>match Nat.beq a x&&Nat.beq b y with|true=>true|false=>memP l a b
def Uc:Code→Nat
 | .region id _ _=>id+1
 | .seq a b=>(match Uc a with|0=>Uc b|n+1=>n+1)
 | .cond _ a b=>(match Uc a with|0=>Uc b|n+1=>n+1)
 | .block _ c=>Uc c
 | .loop c=>Uc c
 | .rangeFunc _ _ a b=>(match Uc a with|0=>Uc b|n+1=>n+1)
 |_=>0
def K2 (cf:Cf):Code→Bool
 | .seq a b=>K2 cf a&&K2 cf b
 | .cond _ a b=>K2 cf a&&K2 cf b
 | .block _ c=>K2 cf c
 | .loop c=>K2 cf c
 | .rangeFunc _ _ a b=>K2 cf a&&K2 cf b
 | .region id ops true=>match NS cf.JB (id+2000000)with|true=>(Wn cf.hk (id+3000000)).all (Te ops)|false=>match NS cf.JB (id+1000000)with|true=>Pp ops (Ar7 cf.hk id)|false=>Tt ops (Ar7 cf.hk id)&&decide (GE (ops.toList.take (Ar7 cf.hk id))).Nodup
 |_=>true
section
variable (E:FL)(T:GY)(nt:Nat)(cf:Cf)
def Ak7 (c:Operand) (st:St) (ra rb:St→Prop):Prop:=
 match U2 [] st.l c with
 | .b true=>ra st
 | .b false=>rb st
 | .v (.bool t)=>
  (match c with
   | .tmp d=>E.br t (fun _=>ra ⟨PM st.l d true,st.df⟩) (fun _=>rb ⟨PM st.l d false,st.df⟩)
   |_=>E.br t (fun _=>ra st) (fun _=>rb st))
 |_=>False
def WC (id:Nat)(K:Exit→St→A5→Prop)(e:Exit)(st':St)(H':A5):Prop:=
 match e with
 | .exit id'=>(match Nat.beq id' id with|true=>K .normal st' H'|false=>K (.exit id') st' H')
 |e=>K e st' H'
def Be7 (c:Operand)(a b:Code):Bool:=
 match c with
 | .tmp d=>memP cf.J d (match Uc a with|0=>Uc b|n+1=>n+1)
 |_=>false
def run:Code→St→A5→(Exit→St→A5→Prop)→Prop
 | .skip,st,H,K=>K .normal st H
 | .ret,st,H,K=>K .ret st H
 | .exit id,st,H,K=>K (.exit id) st H
 | .seq a b,st,H,K=>run a st H fun e st' H'=>match e with| .normal=>run b st' H' K|e=>K e st' H'
 | .cond c a b,st,H,K=>
  (match Be7 cf c a b with
   |true=>E.sim (.cond c a b) st H K
   |false=>Ak7 E c st (fun st=>run a st H K) (fun st=>run b st H K))
 | .block id c,st,H,K=>
  (match NS cf.JB id with
   |true=>E.sim (.block id c) st H K
   |false=>run c st H (WC id K))
 | .region _ ops false,st,H,K=>Ot E T nt (NS cf.A) (zAt cf.Z) ops ops.toList st.l H fun l' H'=>K .normal ⟨l',st.df⟩ H'
 | .region id ops true,st,H,K=>
  (match NS cf.JB (id+2000000)with
   |true=>E.sim (.region id ops true) st H K
   | false=>
    (match NS cf.JB (id+1000000)with
     |true=>AV0 E T nt (NS cf.A) (Ar7 cf.hk id) ops st.l H fun l' H'=>K .normal ⟨l',st.df⟩ H'
     |false=>Ou E none (AU7 cf.Z (id+400000000)) st.l H fun l H=>Av4 E T nt (NS cf.A) (wAt cf.W id) (Ar7 cf.hk id) ops l H fun l' H'=>K .normal ⟨l',st.df⟩ H'))
 |c,st,H,K=>E.sim c st H K
def Az0:Code→St→A5→(Exit→St→A5→Prop)→Prop
 | .cond c a b,st,H,K=>Ak7 E c st (fun st=>run E T nt cf a st H K) (fun st=>run E T nt cf b st H K)
 | .block id c,st,H,K=>run E T nt cf c st H (WC id K)
 | .region id ops true,st,H,K=>
  (match NS cf.JB (id+2000000)with
   |true=>Um E T nt (NS cf.A) ops (Wn cf.hk (id+3000000)) ops.size (Array.replicate ops.size false) st.l H fun l' H'=>K .normal ⟨l',st.df⟩ H'
   |false=>run E T nt cf (.region id ops true) st H K)
 |c,st,H,K=>run E T nt cf c st H K
end
section
variable {P:Program}{nt:Nat}{rd:Option Nat}{T:GY}{cf:Cf}
def W4.frLe {c:Code}{fr:Fr}{st:St}{H:A5}{Q:Exit→Fr→A5→Prop}(hf:Fa fr st)(h:W4 P nt rd c (I8 st) H Q):W4 P nt rd c fr H Q:=
 h.less hf.s hf.df.symm fun _ _ h=>h
theorem Fa.refl (st:St):Fa (I8 st) st:=⟨fun _=>Wk.refl _,rfl⟩
def W4.of_frz {c:Code} {ds:List Nat} {st:St} {H:A5} {Q:Exit→Fr→A5→Prop} {k:Fl→A5→Prop} (h:Ou (I6 P nt rd) none ds st.l H k) (hk:∀l' H',k l' H'→W4 P nt rd c (I8 ⟨l',st.df⟩) H' Q):W4 P nt rd c (I8 st) H Q:=
 fun r g w a hr hR hF=>by
  obtain⟨g',l',H',s,hR',hF',h'⟩:=Ce none ds st.l H g k (fun _ _ _ _ h=>by cases h) hR hF h;exact wpIn_mono (hk l' H' h' r g' w a (Au2.mono hr s) hR' hF') fun _ _ _=>Vs.later s
theorem QZ {c:Operand} {a b:Code} {st:St} {H:A5} {Q:Exit→Fr→A5→Prop} {ra rb:St→Prop} (h:Ak7 (I6 P nt rd) c st ra rb) (ha:∀st',I8 st'=I8 st→ra st'→W4 P nt rd a (I8 st') H Q) (hb:∀st',I8 st'=I8 st→rb st'→W4 P nt rd b (I8 st') H Q):W4 P nt rd (.cond c a b) (I8 st) H Q:=by
 have hev:ev (I8 st) c=(U2 [] st.l c).V:=(ES (df:=st.df) Lj.nil c).symm
 unfold Ak7 at h
 split at h
 ·rename_i he;exact W4.cond (t:=true) (by rw[hev,he];rfl) (fun _=>ha st rfl h) (fun e=>by cases e)
 ·rename_i he;exact W4.cond (t:=false) (by rw[hev,he];rfl) (fun e=>by cases e) (fun _=>hb st rfl h)
 ·rename_i t he
  split at h
  ·rename_i d
   have he':CD st.l d= .bool t:=by
    have:=Ah7 (l:=st.l) Lj.nil d
    rw[show AL6 [] st.l d= .v (.bool t)from he]at this
    exact this.symm
   obtain⟨h1,h2⟩:=h;refine W4.cond (t:=t) (by rw[hev,he];rfl) (fun e=>?_) (fun e=>?_)
   ·grind[I8,Qg]
   grind[I8,Qg]
  obtain⟨h1,h2⟩:=h;exact W4.cond (t:=t) (by rw[hev,he];rfl) (fun e=>ha st rfl (h1 e)) (fun e=>hb st rfl (h2 e))
 grind
theorem O6 (hT:Lf P T) (hm:P.follows .mixedOrders=true):∀(c:Code) (st:St) (H:A5) (K:Exit→St→A5→Prop),K2 cf c=true→run (I6 P nt rd) T nt cf c st H K→W4 P nt rd c (I8 st) H fun e fr' H'=>∃st',Fa fr' st'∧K e st' H'
 | .skip,st,H,K,hd,h=>W4.skip ⟨st,Fa.refl _,h⟩
 | .ret,st,H,K,hd,h=>W4.ret ⟨st,Fa.refl _,h⟩
 | .exit id,st,H,K,hd,h=>W4.exit ⟨st,Fa.refl _,h⟩
 | .seq a b,st,H,K,hd,h=>by
  simp only[K2,M6]at hd
  refine W4.seq ((O6 hT hm a st H _ hd.1 h).mono fun e fr' H' ⟨st',hf,hk⟩=>?_)
  cases e with
  |normal=>exact W4.frLe hf (O6 hT hm b st' H' K hd.2 hk)
  |_=>exact⟨st',hf,hk⟩
 | .cond c a b,st,H,K,hd,h=>by
  simp only[K2,M6]at hd
  unfold run at h
  split at h
  ·exact h
  exact QZ h (fun st' _ h=>O6 hT hm a st' H K hd.1 h) (fun st' _ h=>O6 hT hm b st' H K hd.2 h)
 | .block id c,st,H,K,hd,h=>by
  unfold run at h
  split at h
  ·exact h
  refine W4.block ((O6 hT hm c st H _ hd h).mono fun e fr' H' ⟨st',hf,hk⟩=>?_)
  cases e with
  |exit id'=>
   unfold WC at hk
   dsimp only at hk ⊢
   split at hk
   ·rename_i e;rw[A2 (Cc e)];grind
   rename_i e;rw[A1 (fun x=>by simp_all)];grind
  |_=>exact⟨st',hf,hk⟩
 | .region id ops false,st,H,K,hd,h=>by
  unfold run at h
  intro r g w a hr hR hF;refine wpIn_region ?_
  have:=Zt (P:=P) (nt:=nt) (rd:=rd) (T:=T) (A:=NS cf.A) (Z:=zAt cf.Z) (df:=st.df) hT (ops:=ops) (r:=r) (K:=fun l' H'=>K .normal ⟨l',st.df⟩ H') (Q:=Vs nt g w fun e fr' H'=>∃st',Fa fr' st'∧K e st' H') (g0:=g) (w0:=w)
   (fun g' w' a' l' H' s hR hF hK=>⟨g',_,H',s,hR,hF,⟨l',st.df⟩,Fa.refl _,hK⟩) ops.size 0 st.l H (by omega) (by grind) g w a (W1.refl _ _) hR hF
  rwa[←Kb]at this
 | .region id ops true,st,H,K,hd,h=>by
  cases hj2:NS cf.JB (id+2000000)with
  |true=>
   unfold run at h
   rw[hj2]at h
   exact h
  |false=>
  cases hj:NS cf.JB (id+1000000)with
  |true=>
   simp only[K2,hj2,hj]at hd
   unfold run at h
   rw[hj2]at h
   simp only[hj]at h
   refine(Zz (df:=st.df) hT hm hd h).mono fun e fr H' ⟨he,l',hfr,hk⟩=>?_
   grind[Fa.refl]
  |false=>
   simp only[K2,hj2,hj,M6,C8]at hd
   unfold run at h
   rw[hj2]at h
   simp only[hj]at h
   refine W4.of_frz h fun l1 H1 h=>?_;refine(W4.of_any hm (Am0 (df:=st.df) hT hd.1 hd.2 h)).mono fun e fr H' ⟨he,l',hfr,hk⟩=>?_
   grind[Fa.refl]
 | .loop c,st,H,K,hd,h=>h
 | .rangeFunc g ps a b,st,H,K,hd,h=>h
 | .scope c,st,H,K,hd,h=>h
 | .label l,st,H,K,hd,h=>h
 | .goto l,st,H,K,hd,h=>h
 | .refuse w,st,H,K,hd,h=>h
def ZN (hT:Lf P T) (hm:P.follows .mixedOrders=true):∀(c:Code) (st:St) (H:A5) (K:Exit→St→A5→Prop),K2 cf c=true→Az0 (I6 P nt rd) T nt cf c st H K→W4 P nt rd c (I8 st) H fun e fr' H'=>∃st',Fa fr' st'∧K e st' H'
 | .cond c a b,st,H,K,hd,h=>by
  simp only[K2,M6]at hd
  grind[Az0,QZ,O6]
 | .block id c,st,H,K,hd,h=>by
  unfold Az0 at h
  refine W4.block ((O6 hT hm c st H _ hd h).mono fun e fr' H' ⟨st',hf,hk⟩=>?_)
  cases e with
  |exit id'=>
   unfold WC at hk
   dsimp only at hk ⊢
   split at hk
   ·rename_i e;rw[A2 (Cc e)];grind
   rename_i e;rw[A1 (fun x=>by simp_all)];grind
  |_=>exact⟨st',hf,hk⟩
 | .skip,st,H,K,hd,h=>O6 hT hm _ st H K hd h
 | .ret,st,H,K,hd,h=>O6 hT hm _ st H K hd h
 | .exit id,st,H,K,hd,h=>O6 hT hm _ st H K hd h
 | .seq a b,st,H,K,hd,h=>O6 hT hm _ st H K hd h
 | .region id ops false,st,H,K,hd,h=>O6 hT hm _ st H K hd h
 | .region id ops true,st,H,K,hd,h=>by
  unfold Az0 at h
  dsimp only at h
  cases hj2:NS cf.JB (id+2000000)with
  |false=>rw[hj2]at h;grind[O6]
  |true=>
   rw[hj2]at h
   simp only[K2,hj2]at hd
   have h':=Gu (df:=st.df) hT (fun i hi=>List.all_eq_true.1 hd i (Yp hi)) _ _ _ _ h;refine(W4.of_any hm (KR.all (Q:=fun e fr H'=>match e with| .normal=>∃l',fr=I8 ⟨l',st.df⟩∧K .normal ⟨l',st.df⟩ H'|_=>False) h')).mono fun e fr H' hq=>?_
   grind[Fa.refl]
 | .loop c,st,H,K,hd,h=>h
 | .rangeFunc g ps a b,st,H,K,hd,h=>h
 | .scope c,st,H,K,hd,h=>h
 | .label l,st,H,K,hd,h=>h
 | .goto l,st,H,K,hd,h=>h
 | .refuse w,st,H,K,hd,h=>h
def Xv (K:V→A5→Prop)(H:A5)(vs:List V):Prop:=
 match vs with
 |[x]=>K x H
 |l=>K (.tup l) H
theorem Sj {K:V→A5→Prop}{H:A5}{vs:List V}(h:Xv K H vs):K (QO vs) H:=by
 unfold Xv at h
 grind[QO]
def Bf7 (v:V)(k:List V→Prop)(vs:List V):Prop:=k (v::vs)
def Ua (E:FL)(T:GY)(l:Fl)(H:A5):List ResultVar→(List V→Prop)→Prop
 |[],k=>k []
 | .tmp t::r,k=>Ua E T l H r fun vs=>Bf7 (CD l t) k vs
 | .cell a t::r,k=>(match CD l a with| .elem _ _ _ _=>False|x=>Ag0 E T t x H fun v=>Ua E T l H r fun vs=>k (v::vs))
def Km (hT:Lf P T) {l:Fl} {H:A5} {df:List Nat}:∀(rs:List ResultVar) (k:List V→Prop),Ua (I6 P nt rd) T l H rs k→∃vs,Cv P (I8 ⟨l,df⟩) H rs=some vs∧k vs
 |[],k,h=>⟨[],rfl,h⟩
 | .tmp t::r,k,h=>by
  obtain⟨vs,h1,h2⟩:=Km (df:=df) hT r _ h;exact⟨_,by grind[Cv,I8],h2⟩
 | .cell a t::r,k,h=>by
  unfold Ua at h
  split at h
  ·exact h.elim
  rename_i x hne;obtain⟨v,h1,h2⟩:=LR hT h
  have h1:IY P H t (CD l a)=some v:=h1.elim (fun h=>h) fun h=>by
   simp_all[Nu]
  obtain⟨vs,h3,h4⟩:=Km (df:=df) hT r _ h2
  simp_all[Cv,I8]
def W4.post_le {c:Code}{fr:Fr}{H:A5}{K:Exit→St→A5→Prop}(h:W4 P nt rd c fr H fun e fr' H'=>∃st',Fa fr' st'∧K e st' H'):W4 P nt rd c fr H fun e fr' H'=>∃st',fr'=I8 st'∧K e st' H':=by
 intro r g w a hr hR hF;refine wpIn_mono (h r g w a hr hR hF) fun e a' w' ⟨g',fr',H',s,hR',hF',st',hle,hk⟩=>⟨g',I8 st',H',s,hR',⟨hF'.size,fun t=>hle.s t _ _ _ (hF'.s t),?_⟩,st',rfl,hk⟩;have:=hF'.df
 rw[hle.df]at this
 exact this
def Cj:List V→Nat→Fl
 |[],_=>[]
 |v::l,i=>(i,.v v)::Cj l (i+1)
def UM:∀(args:List V) (i t:Nat),CD (Cj args i) t=if i≤t then args.getD (t-i) .bad else .bad
 |[],i,t=>by simp[CD,Cj]
 | v::l,i,t=>by
  simp only[Cj,CD]
  by_cases h:t=i
  ·simp_all
  have hb:Nat.beq t i=false:=by
   cases hb:Nat.beq t i with
   |false=>rfl
   |true=>simp_all
  simp only[hb];rw[UM l (i+1) t]
  grind
def AF5 (args:List V):entry args=I8 ⟨Cj args 0,[]⟩:=by
 simp_all[entry,I8,UM]
def Oa (E:FL)(T:GY)(rs:List ResultVar)(K:V→A5→Prop)(e:Exit)(st:St)(H:A5):Prop:=
 match e with
 | .normal=>(match st.df with|[]=>Ua E T st.l H rs fun vs=>Xv K H vs|df=>E.fin df H fun H'=>Ua E T st.l H' rs fun vs=>Xv K H' vs)
 | .ret=>(match st.df with|[]=>Ua E T st.l H rs fun vs=>Xv K H vs|df=>E.fin df H fun H'=>Ua E T st.l H' rs fun vs=>Xv K H' vs)
 |_=>False
theorem As2 (hT:Lf P T) {fn:Func} {K:V→A5→Prop} {e:Exit} {st:St} {H:A5} (h:Oa (I6 P nt rd) T fn.results.toList K e st H):Ret P fn K e (I8 st) H:=by
 have key:∀(h:match st.df with|[]=>Ua (I6 P nt rd) T st.l H fn.results.toList fun vs=>Xv K H vs|df=>(I6 P nt rd).fin df H fun H'=>Ua (I6 P nt rd) T st.l H' fn.results.toList fun vs=>Xv K H' vs),
  AP5 H (I8 st).df∧∃l,Cv P (I8 st) (clear H (I8 st).df) fn.results.toList=some l∧K (QO l) (clear H (I8 st).df):=by
  obtain⟨l,df⟩:=st;intro h
  cases df with
  |nil=>
   have hcl:clear H []=H:=by funext x;simp[clear]
   obtain⟨vs,h1,h2⟩:=Km (df:=[]) hT _ _ h;refine⟨⟨by simp[I8],fun id hi=>by simp[I8]at hi⟩,vs,?_,?_⟩
   ·simp_all[I8]
   show K _ (clear H [])
   rw[hcl];grind[Sj]
  |cons d ds=>
   obtain⟨hd,h⟩:=h;obtain⟨vs,h1,h2⟩:=Km (df:=d::ds) hT _ _ h;exact⟨hd,vs,h1,Sj h2⟩
 cases e<;>first|exact h.elim|skip
 ·exact⟨.inl rfl,key h⟩
 exact⟨.inr rfl,key h⟩
def T8 {f:FuncId}{fn:Func}{c:Code}{n:Nat}{rs:List ResultVar}{args:List V}{H:A5}{K:V→A5→Prop}(cf:Cf)(hT:Lf P T)(hm:P.follows .mixedOrders=true)(hf:P.funcs[f]? =some fn)(hb:fn.body=some c)(hd:K2 cf c=true)(hcall:∀vals w,(callFunc f vals).run P w= .ok (.enter f vals) w)
 (hnt:fn.ntmps=n) (hrs:fn.results.toList=rs) (hn:Nat.ble args.length n=true) (h:∀E:FL,E=I6 P n none→run E T n cf c ⟨Cj args 0,[]⟩ H (Oa E T rs K)):J5 P f args H K:=by
 subst hnt;subst hrs;refine Ui hf hb hcall (HB hn) ?_;rw[AF5];refine(W4.post_le (O6 hT hm c _ H _ hd (h _ rfl))).mono fun e fr' H' ⟨st',hfr,hq⟩=>?_
 grind[As2]
end
def Cp.wk {x y:V}(h:Cp x y):Wk x y:=fun _ _ _ hv=>hv.le h
theorem Args.le {g:Gh}{w:World}{vals:Array Value}{xs ys:List V}(h:Args g w vals xs)(k:M1 xs ys):Args g w vals ys:=
 ⟨h.1.trans k.length,fun i hi=>(h.2 i (k.length▸hi)).le (k.at i)⟩
def J5.args {P:Program}{f:FuncId}{xs ys:List V}{H:A5}{K:V→A5→Prop}(h:J5 P f ys H K)(k:M1 xs ys):J5 P f xs H K:=
 fun g w vals hR hA=>h g w vals hR (hA.le k)
def Df.args {P:Program}{fv:V}{xs ys:List V}{H:A5}{K:V→A5→Prop}(h:Df P fv ys H K)(k:M1 xs ys):Df P fv xs H K:=
 fun g w v vals hR hv hA=>h g w v vals hR hv (hA.le k)
def C3.args {P:Program}{f:FuncId}{xs ys:List V}{r:V}(h:C3 P f ys r)(k:M1 xs ys):C3 P f xs r:=fun H=>(h H).args k
def AM.args {P:Program}{fv:V}{xs ys:List V}{r:V}(h:AM P fv ys r)(k:M1 xs ys):AM P fv xs r:=fun H=>(h H).args k
def Fc (H H':A5):Prop:=∀id b,H id=some b→H' id=some b
theorem Fc.refl (H:A5):Fc H H:=fun _ _ h=>h
def Fc.trans {H H' H'':A5}(h:Fc H H')(k:Fc H' H''):Fc H H'':=fun id b e=>k id b (h id b e)
theorem J5.le {P:Program}{f:FuncId}{args:List V}{H:A5}{K:V→A5→Prop}(h:J5 P f args H fun x H'=>∃y H2,Cp x y∧Fc H2 H'∧K y H2):J5 P f args H K:=
 fun g w vals hR hA=>(h g w vals hR hA).mono fun v w' ⟨g',x,H',s,hR',hv,y,H2,hxy,hH,hK⟩=>⟨g',y,H2,s,hR'.less hH,hv.le hxy,hK⟩
inductive En where
 |tl (t:E7)
 |blk (id:Nat) (b:Ds)
def En.id:En→Option (Nat×Ds)
 | .tl (.tok t)=>some (t,.spare)
 | .tl _=>none
 | .blk id b=>some (id,b)
structure Bt (H0:A5) (L:List En) (H:A5):Prop where
 ext:Fc H0 H
 has:∀(i:Nat) e id b,L[i]? =some e→e.id=some (id,b)→H0 id=none∧H id=some b
 inj:∀(i j:Nat) e e' id b b',L[i]? =some e→L[j]? =some e'→e.id=some (id,b)→e'.id=some (id,b')→i=j
 only:∀x b,H x=some b→H0 x=some b∨∃(i:Nat) (e:En),L[i]? =some e∧e.id=some (x,b)
def Bt.start (H:A5):Bt H [] H:=⟨Fc.refl H,fun i e id b h=>by simp at h,fun i j e e' id b b' h=>by simp at h,fun x b h=>.inl h⟩
def Bt.free {H0 H:A5}{L:List En}(h:Bt H0 L H){id:Nat}(hn:H id=none):H0 id=none:=by
 cases e:H0 id with
 |none=>rfl
 |some b=>rw[h.ext id b e]at hn;cases hn
theorem Bt.tl0 {H0 H:A5} {L:List En} (h:Bt H0 L H) {t:E7} (ht:(En.tl t).id=none):Bt H0 (.tl t::L) H:=by
 refine⟨h.ext,fun i e id b hi he=>?_,fun i j e e' id b b' hi hj he he'=>?_,fun x b hx=>(h.only x b hx).imp (fun h=>h) fun⟨i,e,h1,h2⟩=>⟨i+1,e,by grind,h2⟩⟩
 ·cases i with
  |zero=>simp_all
  |succ i=>exact h.has i e id b (by grind) he
 cases i with
 |zero=>simp_all
 |succ i=>
  cases j with
  |zero=>simp_all
  |succ j=>rw[h.inj i j e e' id b b' (by grind) (by grind) he he']
def Bt.push {H0 H:A5} {L:List En} (h:Bt H0 L H) {en:En} {id:Nat} {b:Ds} (hn:H id=none) (he:en.id=some (id,b)):Bt H0 (en::L) (upd H id (some b)):=by
 refine⟨fun x bb hx=>?_,fun i e x bb hi hx=>?_,fun i j e e' x bb bb' hi hj hx hx'=>?_,fun x bb hx=>?_⟩
 rotate_right
 ·by_cases hxi:x=id
  ·subst hxi;rw[E4]at hx;cases hx;exact .inr ⟨0,en,by simp,he⟩
  rw[D2 _ _ hxi]at hx
  exact(h.only x bb hx).imp (fun h=>h) fun⟨i,e,h1,h2⟩=>⟨i+1,e,by grind,h2⟩
 ·rw[D2 _ _ (AH (h.free hn) hx)];exact h.ext x bb hx
 ·cases i with
  |zero=>simp at hi;subst hi;rw[he]at hx;cases hx;exact⟨h.free hn,E4 _ _ _⟩
  |succ i=>
   have:=h.has i e x bb (by grind) hx
   grind[upd]
 cases i with
 | zero=>
  cases j with
  |zero=>rfl
  |succ j=>
   simp at hi;subst hi;rw[he]at hx;cases hx
   have:=(h.has j e' _ bb' (by grind) hx').2
   rw[hn]at this;cases this
 | succ i=>
  cases j with
  |zero=>
   simp at hj;subst hj;rw[he]at hx';cases hx'
   have:=(h.has i e _ bb (by grind) hx).2
   rw[hn]at this;cases this
  |succ j=>rw[h.inj i j e e' x bb bb' (by grind) (by grind) hx hx']
def Bt.get {H0 H:A5}{L:List En}(h:Bt H0 L H)(i:Nat){id:Nat}{b:Ds}(hi:L[i]? =some (.blk id b)):H id=some b:=(h.has i _ id b hi rfl).2
def Bt.set {H0 H:A5} {L:List En} (h:Bt H0 L H) (i:Nat) {id:Nat} {b b':Ds} (hi:L[i]? =some (.blk id b)):Bt H0 (L.set i (.blk id b')) (upd H id (some b')):=by
 have hid:=h.has i _ id b hi rfl
 have hlt:i<L.length:=by
  grind
 have Nj:∀(j:Nat) e,(L.set i (.blk id b'))[j]? =some e→(j=i∧e= .blk id b')∨(j≠i∧L[j]? =some e):=fun j e hj=>by
  rw[W9]at hj
  grind
 refine⟨fun x bb hx=>?_,fun j e x bb hj hx=>?_,fun j k e e' x bb bb' hj hk hx hx'=>?_,fun x bb hx=>?_⟩
 rotate_right
 ·by_cases hxi:x=id
  ·grind[En.id,upd]
  rw[D2 _ _ hxi]at hx
  refine(h.only x bb hx).imp (fun h=>h) fun⟨j,e,h1,h2⟩=>⟨j,e,?_,h2⟩;rw[W9]
  grind[En.id]
 ·rw[D2 _ _ (AH hid.1 hx)];exact h.ext x bb hx
 ·rcases Nj j e hj with⟨_,rfl⟩|⟨hne,hj'⟩
  ·grind[upd,En.id]
  have:=h.has j e x bb hj' hx
  have hxid:x≠id:=fun eq=>by subst eq;exact hne (h.inj j i e _ x bb b hj' hi hx rfl)
  simp_all[upd]
 rcases Nj j e hj with⟨hji,rfl⟩|⟨hne,hj'⟩<;>rcases Nj k e' hk with⟨hki,rfl⟩|⟨hne',hk'⟩
 ·rw[hji,hki]
 ·cases hx;exact absurd (h.inj k i e' _ id bb' b hk' hi hx' rfl) hne'
 ·cases hx';exact absurd (h.inj j i e _ id bb b hj' hi hx rfl) hne
 exact h.inj j k e e' x bb bb' hj' hk' hx hx'
theorem Bt.tok {H0 H:A5} {L:List En} (h:Bt H0 L H) (i:Nat) {tl:E7} (hi:L[i]? =some (.tl tl)) {t:Nat} (ht:G0 H tl t=none):
 Bt H0 (L.set i (.tl (.tok t))) (upd (G0 H tl) t (some .spare)):=by
 have hlt:i<L.length:=by
  grind
 have Nj:∀(j:Nat) e,(L.set i (.tl (.tok t)))[j]? =some e→(j=i∧e= .tl (.tok t))∨(j≠i∧L[j]? =some e):=fun j e hj=>by
  rw[W9]at hj
  grind
 have left:∀x b,H x=some b→(∀t',tl= .tok t'→x≠t')→G0 H tl x=some b:=fun x b hx hne=>by
  cases tl with
  |tok t'=>simp_all[G0,D2]
  |_=>exact hx
 have h0:∀x b,H0 x=some b→G0 H tl x=some b:=fun x b hx=>left x b (h.ext x b hx) fun t' e eq=>by
  subst e;subst eq
  rw[(h.has i _ x _ hi rfl).1]at hx;cases hx
 have hoth:∀(j:Nat) e x b,j≠i→L[j]? =some e→e.id=some (x,b)→H0 x=none∧G0 H tl x=some b:=fun j e x b hne hj hx=>by
  have:=h.has j e x b hj hx;refine⟨this.1,left x b this.2 fun t' et eq=>?_⟩;subst et;subst eq;exact hne (h.inj j i e _ x b _ hj hi hx rfl)
 have hid0:H0 t=none:=by
  cases e:H0 t with
  |none=>rfl
  |some b=>rw[h0 t b e]at ht;cases ht
 refine⟨fun x bb hx=>?_,fun j e x bb hj hx=>?_,fun j k e e' x bb bb' hj hk hx hx'=>?_,fun x bb hx=>?_⟩
 rotate_right
 ·by_cases hxi:x=t
  ·grind[En.id,upd]
  rw[D2 _ _ hxi]at hx
  have hx2:H x=some bb∧∀t',tl= .tok t'→x≠t':=by
   cases tl with
   |tok t'=>
    simp_all[G0,upd]
   |_=>exact⟨hx,fun t'' e'=>by cases e'⟩
  refine(h.only x bb hx2.1).imp (fun h=>h) fun⟨j,e,h1,h2⟩=>⟨j,e,?_,h2⟩;rw[W9]
  split
  ·rename_i hij;subst hij;rw[hi]at h1;cases h1
   cases tl with
   |tok t'=>cases h2;simp_all
   |_=>cases h2
  exact h1
 ·rw[D2 _ _ (AH hid0 hx)];simp_all
 ·grind[upd,En.id]
 rcases Nj j e hj with⟨hji,rfl⟩|⟨hne,hj'⟩<;>rcases Nj k e' hk with⟨hki,rfl⟩|⟨hne',hk'⟩
 ·rw[hji,hki]
 ·grind[En.id]
 ·grind[En.id]
 exact h.inj j k e e' x bb bb' hj' hk' hx hx'
def Bt.del {H0 H:A5} {L:List En} (h:Bt H0 L H) (i:Nat) {id:Nat} {b:Ds} (hi:L[i]? =some (.blk id b)):Bt H0 (L.eraseIdx i) (upd H id none):=by
 have hid:=h.has i _ id b hi rfl
 have Nj:∀(j:Nat) e,(L.eraseIdx i)[j]? =some e→∃j',j'≠i∧L[j']? =some e∧(j'=if j<i then j else j+1):=fun j e hj=>by
  rw[LO]at hj
  grind
 refine⟨fun x bb hx=>?_,fun j e x bb hj hx=>?_,fun j k e e' x bb bb' hj hk hx hx'=>?_,fun x bb hx=>?_⟩
 rotate_right
 ·by_cases hxi:x=id
  ·simp_all[upd]
  rw[D2 _ _ hxi]at hx
  refine(h.only x bb hx).imp (fun h=>h) fun⟨j,e,h1,h2⟩=>?_
  have hji:j≠i:=fun eq=>by grind[En.id]
  rcases Q6 j i with hlt|hge
  ·exact⟨j,e,by rw[LO,A2 hlt];exact h1,h2⟩
  exact⟨j-1,e,by rw[LO,A1 (by omega),show j-1+1=j by omega];exact h1,h2⟩
 ·rw[D2 _ _ (AH hid.1 hx)];exact h.ext x bb hx
 ·obtain⟨j',hne,hj',_⟩:=Nj j e hj;have:=h.has j' e x bb hj' hx
  have hxid:x≠id:=fun eq=>by subst eq;exact hne (h.inj j' i e _ x bb b hj' hi hx rfl)
  simp_all[upd]
 obtain⟨j',hne,hj',ej⟩:=Nj j e hj;obtain⟨k',hne',hk',ek⟩:=Nj k e' hk;have:=h.inj j' k' e e' x bb bb' hj' hk' hx hx'
 rw[ej,ek]at this
 split at this<;>split at this<;>omega
def Oe (H:A5)(e:En):A5:=
 match e.id with
 |some (id,_)=>upd H id none
 |none=>H
def Bt.tail {H0 H:A5} {L:List En} {e:En} (h:Bt H0 (e::L) H):Bt H0 L (Oe H e):=by
 have inj0:∀(j:Nat) e' x b b',L[j]? =some e'→e'.id=some (x,b)→e.id=some (x,b')→False:=fun j e' x b b' hj hx hx'=>by
  have:=h.inj (j+1) 0 e' e x b b' (by grind) (by simp) hx hx';omega
 cases he:e.id with
 |none=>
  have ed:Oe H e=H:=by simp_all[Oe]
  rw[ed];refine⟨h.ext,fun i e id b hi=>h.has (i+1) e id b (by grind),fun i j e e' id b b' hi hj he he'=>?_,fun x b hx=>(h.only x b hx).imp (fun h=>h) fun⟨i,e',h1,h2⟩=>?_⟩
  ·have:=h.inj (i+1) (j+1) e e' id b b' (by grind) (by grind) he he';omega
  grind
 | some p=>
  obtain⟨id,b0⟩:=p
  have ed:Oe H e=upd H id none:=by grind[Oe]
  rw[ed];have hid:=h.has 0 e id b0 (by simp) he;refine⟨fun x b hx=>?_,fun i e' x b hi hx=>?_,fun i j e e' id b b' hi hj he he'=>?_,fun x b hx=>?_⟩
  ·rw[D2 _ _ (AH hid.1 hx)];exact h.ext x b hx
  ·have:=h.has (i+1) e' x b (by grind) hx
   have hne:x≠id:=fun eq=>by grind
   simp_all[upd]
  ·have:=h.inj (i+1) (j+1) e e' id b b' (by grind) (by grind) he he';omega
  by_cases hxi:x=id
  ·simp_all[upd]
  rw[D2 _ _ hxi]at hx
  refine(h.only x b hx).imp (fun h=>h) fun⟨i,e',h1,h2⟩=>?_
  grind
theorem Fc.upd {H H':A5}(h:Fc H H')(id:Nat)(b:Option Ds):Fc (upd H id b) (upd H' id b):=fun x bb hx=>by
 by_cases e:x=id
 ·grind[E4]
 rw[D2 _ _ e]at hx ⊢;exact h x bb hx
def Fc.less {H H':A5}(h:Fc H H')(id:Nat):Fc (Go.Ab.upd H id none) H':=fun x bb hx=>by
 by_cases e:x=id
 ·grind[E4]
 rw[D2 _ _ e]at hx;exact h x bb hx
def Fc.none {H H':A5}(h:Fc H H'){id:Nat}(hn:H' id=none):H id=none:=by
 cases e:H id with
 |none=>rfl
 |some b=>rw[h id b e]at hn;cases hn
def E0:G5 (Eq:A5→A5→Prop):=⟨fun h id b hb=>h▸hb,fun id b h _=>by subst h;rfl⟩
def B6 (Φ:A5→A5→Prop)(F:A5)(L:List En)(H:A5):Prop:=G5 Φ∧∃F' H1,Bt F L F'∧Φ F' H1∧Fc H1 H
section
variable {Φ:A5→A5→Prop}{F H:A5}{L:List En}
def B6.start (hs:G5 Φ)(h:Φ F H):B6 Φ F [] H:=⟨hs,F,H,Bt.start F,h,Fc.refl H⟩
def B6.ext (h:B6 Φ F L H):Fc F H:=by
 obtain⟨hs,F',H1,h0,h1,h2⟩:=h;exact h0.ext.trans fun id b hb=>h2 _ _ (hs.le h1 id b hb)
theorem B6.tl0 (h:B6 Φ F L H){t:E7}(ht:(En.tl t).id=none):B6 Φ F (.tl t::L) H:=by
 obtain⟨hs,F',H1,h0,h1,h2⟩:=h;exact⟨hs,F',H1,h0.tl0 ht,h1,h2⟩
def B6.push (h:B6 Φ F L H){en:En}{id:Nat}{b:Ds}(hn:H id=none)(he:en.id=some (id,b)):B6 Φ F (en::L) (upd H id (some b)):=by
 obtain⟨hs,F',H1,h0,h1,h2⟩:=h;have hn1:=h2.none hn;have hn':=hs.fresh h1 hn1;exact⟨hs,_,_,h0.push hn' he,hs.chg id (some b) h1 (by rw[hn1,hn']),h2.upd id _⟩
def B6.get (h:B6 Φ F L H)(i:Nat){id:Nat}{b:Ds}(hi:L[i]? =some (.blk id b)):H id=some b:=by
 obtain⟨hs,F',H1,h0,h1,h2⟩:=h;exact h2 _ _ (hs.le h1 _ _ (h0.get i hi))
def B6.set (h:B6 Φ F L H)(i:Nat){id:Nat}{b b':Ds}(hi:L[i]? =some (.blk id b)):B6 Φ F (L.set i (.blk id b')) (upd H id (some b')):=by
 obtain⟨hs,F',H1,h0,h1,h2⟩:=h;have e:=h0.get i hi;exact⟨hs,_,_,h0.set i hi,hs.chg id _ h1 (by rw[e,hs.le h1 _ _ e]),h2.upd id _⟩
def B6.del (h:B6 Φ F L H)(i:Nat){id:Nat}{b:Ds}(hi:L[i]? =some (.blk id b)):B6 Φ F (L.eraseIdx i) (upd H id none):=by
 obtain⟨hs,F',H1,h0,h1,h2⟩:=h;have e:=h0.get i hi;exact⟨hs,_,_,h0.del i hi,hs.chg id _ h1 (by rw[e,hs.le h1 _ _ e]),h2.upd id _⟩
def B6.tail {e:En} (h:B6 Φ F (e::L) H):B6 Φ F L H:=by
 obtain⟨hs,F',H1,h0,h1,h2⟩:=h
 cases he:e.id with
 |none=>
  have:=h0.tail
  grind[B6,Oe]
 |some p=>
  obtain⟨id,b⟩:=p;have h3:=h0.tail
  simp only[Oe,he]at h3
  have e1:=(h0.has 0 e id b (by simp) he).2;exact⟨hs,_,_,h3,hs.chg id none h1 (by rw[e1,hs.le h1 _ _ e1]),h2.less id⟩
theorem B6.tok (h:B6 Φ F L H) (i:Nat) {tl:E7} (hi:L[i]? =some (.tl tl)) {t:Nat} (ht:G0 H tl t=none):B6 Φ F (L.set i (.tl (.tok t))) (upd (G0 H tl) t (some .spare)):=by
 obtain⟨hs,F',H1,h0,h1,h2⟩:=h
 have h3:Φ (G0 F' tl) (G0 H1 tl):=by
  cases tl with
  |tok t'=>
   have e:=(h0.has i _ t' _ hi rfl).2;exact hs.chg t' none h1 (by rw[e,hs.le h1 _ _ e])
  |_=>exact h1
 have h4:Fc (G0 H1 tl) (G0 H tl):=by
  cases tl with
  |tok t'=>exact h2.upd t' none
  |_=>exact h2
 have ht1:=h4.none ht;have ht':=hs.fresh h3 ht1;exact⟨hs,_,_,h0.tok i hi ht',hs.chg t _ h3 (by rw[ht1,ht']),h4.upd t _⟩
def B6.stable (hs:G5 Φ) (L:List En):G5 fun F H=>B6 Φ F L H:=by
 refine⟨fun h id b hb=>h.ext id b hb,fun{F H} id b h e=>?_⟩;obtain⟨hs,F',H1,h0,h1,h2⟩:=h
 have hne:∀(i:Nat) en x bb,L[i]? =some en→en.id=some (x,bb)→x≠id:=fun i en x bb hi he eq=>by
  subst eq;have h3:=h0.has i en x bb hi he;have h4:=h2 _ _ (hs.le h1 _ _ h3.2)
  rw[e,h3.1]at h4;cases h4
 have hF':F' id=F id:=by
  cases hf:F id with
  |some x=>exact h0.ext id x hf
  | none=>
   cases hf':F' id with
   |none=>rfl
   |some x=>
    rcases h0.only id x hf' with h|⟨i,en,hi,he⟩
    ·rw[hf]at h;cases h
    grind
 have hH1:H1 id=F id:=by
  cases hf:F id with
  |some x=>rw[←hF']at hf;exact hs.le h1 id x hf
  |none=>rw[hf]at e;exact h2.none e
 refine⟨hs,upd F' id b,upd H1 id b,⟨fun x bb hx=>?_,fun i en x bb hi he=>?_,h0.inj,fun x bb hx=>?_⟩,hs.chg id b h1 (by rw[hF',hH1]),h2.upd id b⟩
 ·by_cases hxi:x=id
  ·simp_all[upd]
  rw[D2 _ _ hxi]at hx ⊢;exact h0.ext x bb hx
 ·have:=h0.has i en x bb hi he;have hxi:=hne i en x bb hi he;rw[D2 _ _ hxi,D2 _ _ hxi];exact this
 by_cases hxi:x=id
 ·simp_all[upd]
 rw[D2 _ _ hxi]at hx ⊢;exact h0.only x bb hx
def B6.out:∀{L:List En},B6 Φ F L H→∃H1,Φ F H1∧Fc H1 H
 | [],h=>by
  obtain⟨hs,F',H1,h0,h1,h2⟩:=h
  have:F'=F:=by
   funext x
   cases hf:F' x with
   |some b=>
    rcases h0.only x b hf with h|⟨i,e,hi,_⟩
    ·exact h.symm
    grind
   |none=>exact(h0.free hf).symm
  grind
 |_::L,h=>B6.out (L:=L) h.tail
end
def G5.ex {ι:Type}{p:ι→Prop}{I:ι→A5→A5→Prop}(h:∀i,G5 (I i)):G5 fun F H=>∃i,p i∧I i F H:=
 ⟨fun⟨i,_,hi⟩=>(h i).le hi,fun id b ⟨i,hp,hi⟩ e=>⟨i,hp,(h i).chg id b hi e⟩⟩
def G5.con {p:Prop}{I:A5→A5→Prop}(h:G5 I):G5 fun F H=>p∧I F H:=
 ⟨fun⟨_,hi⟩=>h.le hi,fun id b ⟨hp,hi⟩ e=>⟨hp,h.chg id b hi e⟩⟩
def K6:E7→Prop
 | .ro=>False
 |_=>True
def B6.appOk {Φ:A5→A5→Prop}{F H:A5}{L:List En}(h:B6 Φ F L H)(i:Nat){tl:E7}(hi:L[i]? =some (.tl tl))(ha:K6 tl):Fb H tl:=by
 obtain⟨hs,F',H1,h0,h1,h2⟩:=h
 cases tl with
 |tok t=>exact h2 _ _ (hs.le h1 _ _ (h0.has i _ t _ hi rfl).2)
 |nil=>trivial
 |full=>trivial
 |ro=>exact ha
end Go.Ab
namespace Go.Ab
def B8 {α:Type}(l:List α)(i:Int):Option α:=if 0≤i then l[i.toNat]? else none
def T4 {α:Type} (l:List α) (lo hi mx:Option Int):Option (List α):=
 if 0≤lo.getD 0∧lo.getD 0≤hi.getD l.length∧hi.getD l.length≤mx.getD l.length∧mx.getD l.length≤l.length∧(mx.isSome=true→hi.isSome=true)then
  some ((l.drop (lo.getD 0).toNat).take ((hi.getD l.length).toNat-(lo.getD 0).toNat))
 else none
def G6 {α:Type}(l m:List α):Option (List α):=if l.length+m.length≤1073741824 then some (l++m)else none
def Du (b:Bool):Option Unit:=if b=true then some ()else none
def loopN {σ R:Type} (step:σ→Option (σ⊕R)):Nat→σ→Option R
 |0,_=>none
 |n+1,s=>
  match step s with
  |none=>none
  |some (.inl s')=>loopN step n s'
  |some (.inr r)=>some r
def G3 {α σ R:Type} (step:σ→α→Option (σ⊕R)):List α→σ→Option (σ⊕R)
 |[],s=>some (.inl s)
 |x::l,s=>
  match step s x with
  |none=>none
  |some (.inl s')=>G3 step l s'
  |some (.inr r)=>some (.inr r)
def Z5 {β σ R:Type} (step:σ→Option (List β×(σ⊕R))):Nat→σ→Option (List β×R)
 |0,_=>none
 | n+1,s=>
  match step s with
  |none=>none
  | some (w,.inl s')=>
   (match Z5 step n s' with
    |none=>none
    |some (w',r)=>some (w++w',r))
  |some (w,.inr r)=>some (w,r)
def CU {α β σ R:Type} (step:σ→α→Option (List β×(σ⊕R))):List α→σ→Option (List β×(σ⊕R))
 |[],s=>some ([],.inl s)
 | x::l,s=>
  match step s x with
  |none=>none
  | some (w,.inl s')=>
   (match CU step l s' with
    |none=>none
    |some (w',o)=>some (w++w',o))
  |some (w,.inr r)=>some (w,.inr r)
def L6 {β σ τ:Type}(m:Option (List β×σ))(f:σ→Option (List β×τ)):Option (List β×τ):=
 m.bind fun q=>(f q.2).bind fun p=>some (q.1++p.1,p.2)
def U1 {β σ τ:Type} {m:Option (List β×σ)} {f:σ→Option (List β×τ)} {w:List β} {o:τ} (h:L6 m f=some (w,o)):∃w1 w2 x,m=some (w1,x)∧f x=some (w2,o)∧w=w1++w2:=by
 unfold L6 at h
 cases m with
 |none=>cases h
 | some p=>
  simp only[A4]at h
  cases hf:f p.2 with
  |none=>rw[hf]at h;cases h
  |some t=>
   rw[hf]at h
   grind
def Z4 {β σ τ:Type}{a:List β}{x:σ}{f:σ→Option (List β×τ)}{w:List β}{o:τ}(h:L6 (some (a,x)) f=some (w,o)):∃w2,f x=some (w2,o)∧w=a++w2:=by
 obtain⟨w1,w2,y,h1,h2,h3⟩:=U1 h
 simp_all
def F9 {α β:Type}{a c:α}{b d:β}(h:some (a,b)=some (c,d)):a=c∧b=d:=by simp_all
def A7 {α β:Type}{m:Option α}{F:α→Option β}{r:β}(h:m.bind F=some r):∃x,m=some x∧F x=some r:=by
 cases m with
 |none=>cases h
 |some x=>simp_all
def O8 {α:Type}{a b:α}(h:some a=some b):a=b:=Bl h
end Go.Ab
