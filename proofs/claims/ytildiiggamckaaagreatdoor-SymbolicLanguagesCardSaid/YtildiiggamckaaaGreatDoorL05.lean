/- AbA21 AbA22 AbA23 AbP1 AbD1 -/
import Derived.Test.YtildiiggamckaaaGreatDoorL04
set_option linter.all false
open Go.Ab.Ar (an_eq cmp_eq nt_eq)
namespace Go.Ab
open Go.RowKit
variable [K9][Ar]
section
variable {P:Program}{nt:Nat}{rd:Option Nat}{T:FQ}{l:Fl}{df:List Nat}{H:A1}
def IP (G:List (Nat×Bool))(l:Fl):Prop:=∀j w,Ac8 G j w=true→Xj (BY l j) w=true
theorem IP.nil :IP [] l:=fun j w h=>by simp[Ac8]at h
theorem IP.add {G:List (Nat×Bool)}(h:IP G l){d:Nat}{w:Bool}(hd:Xj (BY l d) w=true):IP ((d,w)::G) l:=by
 intro j w' hg
 simp only[Ac8]at hg
 split at hg
 ·simp_all
 exact h j w' hg
theorem Kd :∀(l:Fl) (t:Nat) (s:Sl),lk l t=s→(∀j w x,s≠ .g j w x)→BY l t=s.V
 |[],t,s,h,_=>by grind [BY,Sl.V,lk]
 | (k,x)::l,t,s,h,hn=>by
  simp only[lk]at h
  simp only[BY]
  cases hb:Nat.beq t k with
  |true=>
   simp only[hb]at h
   subst h
   cases x with
   |v x=>rfl
   |b c=>rfl
   |g j w x=>simp_all
  |false=>simp only[hb]at h;exact Kd l t s h hn
theorem SH :∀(l:Fl) (t j:Nat) (w:Bool) (x:V),lk l t= .g j w x→Yr l t j=true→BY l t=bif Xj (BY l j) w then x else .tup []
 |[],_,_,_,_,_,h=>by simp[Yr]at h
 | (k,s)::l,t,j,w,x,h,hf=>by
  simp only[Yr]at hf
  simp only[lk]at h
  cases hj:Nat.beq k j with
  |true=>grind
  | false=>
   simp only[hj]at hf
   have hj':Nat.beq j k=false:=by
    cases e:Nat.beq j k with
    |false=>rfl
    |true=>simp_all
   have ej:BY ((k,s)::l) j=BY l j:=by simp_all[BY]
   rw[ej];simp only[BY]
   cases ht:Nat.beq t k with
   |true=>
    simp_all
   | false=>
    have ht':Nat.beq k t=false:=by
     cases e:Nat.beq k t with
     |false=>rfl
     |true=>simp_all
    simp only[ht',ht]at hf h ⊢
    exact SH l t j w x h hf
theorem JQ {G:List (Nat×Bool)} (hG:IP G l) {t:Nat} {s:Sl} (h:TY G l t=some s):s.V=BY l t∧∀j w x,s≠ .g j w x:=by
 unfold TY at h
 split at h
 ·rename_i j w x hl
  split at h
  ·rename_i hf;have e:=SH l t j w x hl hf
   split at h
   ·rename_i hg;cases h;rw[e,hG j w hg];simp[Sl.V]
   split at h
   ·rename_i c hc;have ec:=Kd l j _ hc (fun _ _ _ h=>by cases h)
    rw[ec]at e
    grind [Sl.V,Xj]
   cases h
  cases h
 grind [Kd]
theorem WS {G:List (Nat×Bool)}(hG:IP G l)(t:Nat):(Ak1 G l t).V=BY l t:=by
 unfold Ak1
 split
 ·grind [JQ]
 rfl
theorem Ds {G:List (Nat×Bool)} (hG:IP G l) (x:Operand):(Q3 G l x).V=ev (G9 ⟨l,df⟩) x:=by
 cases x with
 |tmp t=>exact WS hG t
 |const v=>
  cases v<;>first|rfl|skip
 |global n=>rfl
 |func f=>rfl
theorem Oy :∀(l:Fl) (d:Nat) (c:Bool),BY l d= .bool c→∀t,BY (Lp l d c) t=BY l t
 |[],_,_,_,_=>rfl
 | (k,s)::l,d,c,h,t=>by
  simp only[Lp]
  cases hd:Nat.beq d k with
  |true=>
   have e:=Bs hd
   simp_all[BY]
  |false=>
   have hl:BY l d= .bool c:=by simp_all[BY]
   have ih:=Oy l d c hl
   simp_all[BY]
theorem Nm {d:Nat}{c:Bool}(h:BY l d= .bool c):G9 ⟨Lp l d c,df⟩=G9 ⟨l,df⟩:=by
 simp_all[G9,Oy]
theorem DT {o:Option V}{k:V→Prop}(h:JA o k):∃y,o=some y∧k y:=by
 unfold JA at h
 grind
theorem JC (hT:IM P T) {t:Nat} {v:V} {k:V→Prop} (h:Wy (G7 P nt rd) T t v H k):∃y,(Ho P H t v=some y∨Le P H t v=some y)∧k y:=by
 unfold Wy at h
 split at h
 ·exact h.elim
 rename_i I hI;have ok:=G5 hT hI
 split at h
 ·rename_i cs off
  split at h
  ·rename_i y hy;exact⟨y,.inl (by simp only[Ho,ok.ag,ok.sz];exact hy),h⟩
  grind
 ·rename_i id off;obtain⟨cs,hk,h⟩:=h
  split at h
  ·rename_i y hy;exact⟨y,.inl (by simp only[Ho,ok.ag,ok.sz,hk];exact hy),h⟩
  grind
 ·rename_i id i esz off;obtain⟨sz,xs,hk,hb,h⟩:=h
  split at h
  ·rename_i y hy;exact⟨y,.inr (by simp only[Le,ok.ag,ok.sz,FB,hk];rw[A2 hb];exact hy),h⟩
  grind
 grind
theorem Aq9 (hT:IM P T){t f:Nat}{I:YI}{p:Nat×Nat}(hI:tg T t=some I)(hf:I.fs[f]? =some (some p)):fdO P t f=some p:=by
 have:=SG I.fs 0 f p (G5 hT hI).fs hf
 rwa[U9]at this
theorem HL (hT:IM P T){t f:Nat}{v:V}{k:V→Prop}(h:Ll T t v f k):∃y,GH P t v f=some y∧k y:=by
 unfold Ll at h
 grind [DT,GH,Aq9]
theorem LW (hT:IM P T) {t f:Nat} {v:V} {k:V→Prop} (h:Vh T t v f k):∃y,PP P t v f=some y∧k y:=by
 unfold Vh at h
 split at h
 ·exact h.elim
 rename_i I hI
 split at h
 ·rename_i p hp
  split at h
  ·exact h.elim
  rename_i J hJ
  split at h
  ·obtain⟨y,h1,h2⟩:=DT h;exact⟨y,by simp only[PP,Aq9 hT hI hp,(G5 hT hJ).ag,(G5 hT hJ).sz];exact h1,h2⟩
  grind
 grind
theorem MQ (hT:IM P T) {t:Nat} {v i:V} {k:V→Prop} (h:Lk (G7 P nt rd) T t v i k):∃ki j u y,i= .int ki j∧Dr P t v j=some u∧BQ u y∧k y:=by
 unfold Lk at h
 split at h
 ·rename_i ki j
  split at h
  ·exact h.elim
  rename_i I hI;have ok:=G5 hT hI;refine⟨ki,j,?_⟩
  split at h
  ·rename_i e he
   split at h
   ·exact h.elim
   rename_i J hJ;have okJ:=G5 hT hJ
   split at h
   ·rename_i xs tl;obtain⟨hb,h⟩:=h
    split at h
    ·rename_i hsz;refine⟨_,_,rfl,?_,.refl _,h⟩;simp only[Dr,ok.sl,he,okJ.sz];rw[A2 ⟨hb,by rw[Bs hsz]⟩]
    grind
   grind
  rename_i he
  split at h
  ·rename_i n e hae
   split at h
   ·exact h.elim
   rename_i J hJ
   split at h
   ·obtain⟨⟨hb1,hb2,hb3⟩,h⟩:=h;rename_i cs off
    have hle:off+j.toNat*J.sz+J.sz≤cs.length:=by
     have h1:j.toNat+1≤n:=by omega
     have h2:=J3 J.sz h1
     rw[G2,Au]at h2
     omega
    refine⟨_,_,rfl,?_,.sub hle,h⟩;simp only[Dr,ok.sl,he,ok.ar,hae,(G5 hT hJ).sz];rw[A2 ⟨hb1,hb2⟩];rfl
   obtain⟨hb,h⟩:=h;obtain⟨y,h1,h2⟩:=DT h;refine⟨y,y,rfl,?_,.refl _,h2⟩;simp only[Dr,ok.sl,he,ok.ar,hae,(G5 hT hJ).sz];rw[A2 hb];exact h1
  grind
 grind
theorem RO (hT:IM P T) {t:Nat} {v i:V} {k:V→Prop} (h:Vg (G7 P nt rd) T t v i k):∃ki j y,i= .int ki j∧Nh P t v j=some y∧k y:=by
 unfold Vg at h
 split at h
 ·rename_i ki j
  split at h
  ·exact h.elim
  rename_i I hI;have ok:=G5 hT hI;refine⟨ki,j,?_⟩
  split at h
  ·rename_i n e hae
   split at h
   ·exact h.elim
   rename_i J hJ
   split at h
   ·obtain⟨hb,h⟩:=h;obtain⟨y,h1,h2⟩:=DT h;refine⟨y,rfl,?_,h2⟩;simp only[Nh,ok.ar,hae,(G5 hT hJ).ag,(G5 hT hJ).sz];rw[A2 hb];exact h1
   grind
  rename_i hae
  split at h
  ·split at h
   ·rename_i hs;obtain⟨hb,h⟩:=h;refine⟨_,rfl,?_,h⟩;rename_i str _
    have hb:0≤j∧j<(str.size:Nat):=by
     rw[an_eq,cmp_eq,cmp_eq,Ar.slen_eq]at hb
     grind [EK]
    simp only[Nh,ok.ar,hae,ok.st];rw[A2 ⟨hs,hb.1⟩,Ar.sat_eq]
    have hlt:j.toNat<str.size:=by omega
    simp[hlt]
   grind
  grind
 grind
theorem Vi :∀xs ys:List V,xeq xs ys=Ai xs ys
 |[],[]=>rfl
 |[],_::_=>rfl
 |x::xs,[]=>by grind [xeq,Ai]
 | x::xs,y::ys=>by
  have ih:=Vi xs ys
  have hAn:(Ar.an:Bool→Bool→Bool)=fun a b=>a&&b:=by funext a b;simp[an_eq]
  unfold xeq Ai;rw[ih,hAn]
  cases x<;>cases y<;>simp only[HN,cmp_eq,Ar.scmp_eq,Ar.beq_eq,EK,Au6]<;>first
   |rfl
   |(cases Ai xs ys<;>rfl)
   |(split<;>cases Ai xs ys<;>rfl)
theorem VX {op:BinOp}{ki:IntKind}{a b:Int}(h:PI op=true):Kh op ki a b=some (.bool (Ar.cmp op a b)):=by
 rw[cmp_eq]
 cases op<;>simp[PI]at h<;>rfl
theorem Yn {op:BinOp}{ki:IntKind}{a b:Int}(h:Am4 op=true):Kh op ki a b=some (.int ki (Ar.ar op ki a b)):=by
 rw[Ar.ar_eq]
 cases op<;>simp[Am4]at h<;>rfl
theorem VW {op:BinOp}{ki:IntKind}{a b:Int}(h:Ac2 op=true)(hb:b≠0):Kh op ki a b=some (.int ki (Ar.ar op ki a b)):=by
 rw[Ar.ar_eq]
 cases op<;>simp[Ac2]at h<;>simp[Kh,arI,hb]
theorem Vn {op:BinOp}{a b:ByteArray}(h:PI op=true):OX op a b=some (.bool (Ar.scmp op a b)):=by
 rw[Ar.scmp_eq]
 cases op<;>simp[PI]at h<;>rfl
theorem XR {op:BinOp}{ki:IntKind}{a b:Int}(h:Hp op=true)(hb:0≤b):Pg op ki a b=some (.int ki (Ar.sh op ki a b)):=by
 rw[Ar.sh_eq]
 cases op<;>simp[Hp]at h<;>simp only[Pg,shI]<;>rw[A3 (by omega)]
theorem OP (hT:IM P T) {op:BinOp} {t:Nat} {x y:V} {k:V→Prop} (h:Ar6 (G7 P nt rd) T op t x y k):∃v,Oo P op t x y=some v∧k v:=by
 unfold Ar6 at h
 split at h
 ·rename_i ka a kb b
  split at h
  ·rename_i hs;obtain⟨hb,h⟩:=h
   have hb:0≤b:=by rw[cmp_eq]at hb;grind [EK]
   simp_all[Oo,XR]
  rename_i hs
  split at h
  ·rename_i hk
   have e:Oo P op t (.int ka a) (.int kb b)=Kh op ka a b:=by simp[Oo,hs,hk]
   split at h
   ·grind [VX]
   split at h
   ·grind [Yn]
   split at h
   ·rename_i hc;obtain⟨hb,h⟩:=h
    have hb:b≠0:=by rw[cmp_eq]at hb;grind [EK]
    grind [VW]
   grind
  grind
 ·rename_i a b
  split at h
  ·rename_i hc;exact⟨_,Vn hc,h⟩
  split at h
  ·obtain⟨hb,h⟩:=h
   have hb:((a.size+b.size:Nat):Int)≤9223372036854775807:=by
    rw[cmp_eq,Ar.slen_eq,Ar.cat_eq]at hb
    have e:(a++b).size=a.size+b.size:=by simp
    rw[e]at hb
    grind [EK]
   simp_all[Oo,OX,Ar.cat_eq]
  grind
 ·rename_i a b
  split at h
  ·exact h.elim
  rename_i I hI
  split at h
  ·rename_i hbo;have hbo':=(G5 hT hI).bo hbo
   split at h
   ·simp_all[Oo,Ar.beq_eq]
   ·simp_all[Oo,Ar.beq_eq,nt_eq]
   grind
  grind
 ·rename_i xs ys
  split at h
  ·exact h.elim
  rename_i I hI;have ok:=G5 hT hI
  split at h
  ·rename_i hc;obtain⟨h1,h2,h3⟩:=hc
   have hek:FM P 9 t=some (xs.map kd):=by
    have:=ok.ek
    rw[h2]at this
    exact this
   have hcond:UW P t=some true∧FM P 9 t=some (xs.map kd)∧ys.map kd=xs.map kd:=⟨by rw[ok.ag,h1],hek,h3⟩;cases op<;>try exact h.elim
   ·cases hx:xeq xs ys with
    |none=>simp_all
    |some b=>
     simp_all[Vi,Oo]
   cases hx:xeq xs ys with
   |none=>simp_all
   |some b=>
    simp_all[Vi,Oo,nt_eq]
  grind
 grind
theorem QS {op:UnOp}{x:Sl}{k:Sl→Prop}(h:xun op x k):∃s:Sl,unV op x.V=some s.V∧k s:=by
 unfold xun at h
 grind [unV,Sl.V,nt_eq,Ar.neg_eq]
theorem Ta (hT:IM P T) {s d:Nat} {x:V} {H:A1} {k:V→Prop} (h:Zc (G7 P nt rd) T s d x H k):∃v,(RD P s d x=some v∨RE P H s d x v)∧k v:=by
 unfold Zc at h
 split at h
 ·rename_i I J hI hJ;have okI:=G5 hT hI;have okJ:=G5 hT hJ
  split at h
  ·rename_i ki kj n hi hj
   have e1:=okI.ik;rw[hi]at e1
   have e2:=okJ.ik;rw[hj]at e2
   simp_all[BF,RD,Ar.wr_eq]
  ·rename_i b _
   split at h
   ·rename_i h1 h2;have e1:=Kv (okI.st.trans h1);have e2:=Kv (okJ.st.trans h2)
    simp_all[RD]
   grind
  ·obtain⟨v,h1,h2⟩:=h;grind
  ·obtain⟨v,h1,h2⟩:=h;grind
  grind
 grind
theorem LX (hT:IM P T) {t:Nat} {parts:List (Nat×V)} {k:V→Prop} (h:Vj T t parts k):∃v,Ns P t parts=some v∧k v:=by
 unfold Vj at h
 split at h
 ·exact h.elim
 rename_i I hI;have ok:=G5 hT hI
 split at h
 ·rename_i cs hz
  have ez:=ok.ze;rw[hz]at ez;simp only[BF]at ez
  split at h
  ·rename_i n e ha
   split at h
   ·exact h.elim
   rename_i J hJ
   split at h
   ·rename_i c hc;exact⟨_,by simp only[Ns,ok.ar,ha,ez,(G5 hT hJ).sz,hc];rfl,h⟩
   grind
  rename_i ha
  split at h
  ·rename_i pl hpl
   have ep:=ok.pl;rw[hpl]at ep;simp only[BF]at ep
   split at h
   ·rename_i c hc;have hc':Km (pl[·]?) cs parts=some c:=hc;exact⟨_,by simp only[Ns,ok.ar,ha,ez,ep,hc'];rfl,h⟩
   grind
  grind
 grind
theorem Hj (hT:IM P T){t n:Nat}{parts:List (Nat×V)}{k:V→Prop}(h:Hk T t n parts k):∃v,AA P t n parts=some v∧k v:=by
 unfold Hk at h
 split at h
 ·exact h.elim
 rename_i I hI
 split at h
 ·exact h.elim
 rename_i e he
 split at h
 ·exact h.elim
 rename_i J hJ
 split at h
 ·exact h.elim
 rename_i z hz
 have ez:=(G5 hT hJ).ze;rw[hz]at ez;simp only[BF]at ez
 split at h
 ·rename_i hc;refine⟨_,?_,h⟩;simp only[AA,(G5 hT hI).sl,he,(G5 hT hJ).sz,ez];rw[A2 hc]
 grind
theorem RN (hT:IM P T) {t:Nat} {l c:V} {k:V→Prop} (h:Vf T t l c k):∃v,Ab2 P t l c v∧k v:=by
 unfold Vf at h
 split at h
 ·split at h
  ·exact h.elim
  rename_i I hI
  split at h
  ·exact h.elim
  rename_i e he
  split at h
  ·exact h.elim
  rename_i J hJ
  split at h
  ·exact h.elim
  rename_i z hz
  have ez:=(G5 hT hJ).ze;rw[hz]at ez;simp only[BF]at ez
  split at h
  ·rename_i hc;obtain⟨h1,h2,h3,h4,rfl,h6,h7⟩:=hc;exact⟨_,⟨_,_,_,e,J.sz,J.by_,z,rfl,rfl,by rw[(G5 hT hI).sl,he],(G5 hT hJ).sz,h1,(G5 hT hJ).by_,h2,ez,h3,h4,h6,h7,rfl⟩,h⟩
  grind
 grind
theorem RI (hT:IM P T) {t:Nat} {v:V} {lo hi mx:Option (Option Int)} {k:V→Prop} (h:Vc (G7 P nt rd) T t v lo hi mx k):
 ∃a b c y,lo=some a∧hi=some b∧mx=some c∧OZ P t v a b c=some y∧k y:=by
 unfold Vc at h
 split at h
 ·rename_i a b c;refine⟨a,b,c,?_⟩
  split at h
  ·exact h.elim
  rename_i I hI
  split at h
  ·rename_i e he
   split at h
   ·exact h.elim
   rename_i J hJ
   split at h
   ·obtain⟨hc,h⟩:=h;refine⟨_,rfl,rfl,rfl,?_,h⟩;simp only[OZ,(G5 hT hI).sl,he,(G5 hT hJ).sz];rw[A2 hc]
   grind
  grind
 grind
theorem Qy (hT:IM P T) {t id:Nat} {l0 n:Int} {lo hi mx:Option (Option Int)} {k:V→Prop} (h:RJ (G7 P nt rd) T t H id l0 n lo hi mx k):
 ∃a b c y,lo=some a∧hi=some b∧mx=some c∧JG P H t (.own id l0 n) a b c=some y∧k y:=by
 unfold RJ at h
 split at h
 ·rename_i a b c;refine⟨a,b,c,?_⟩
  split at h
  ·exact h.elim
  rename_i I hI
  split at h
  ·rename_i e he
   split at h
   ·exact h.elim
   rename_i J hJ;obtain⟨xs,hk,hc,h⟩:=h;refine⟨_,rfl,rfl,rfl,?_,h⟩;simp only[JG,(G5 hT hI).sl,he,(G5 hT hJ).sz,FB,hk];rw[A2 ⟨trivial,hc⟩];rfl
  grind
 grind
theorem II (hT:IM P T) {b:Builtin} {ts:List TypeId} {vs:List V} {k:V→Prop} (h:MR (G7 P nt rd) T b ts vs k):∃v,Cy P b ts vs v∧k v:=by
 unfold MR at h
 split at h
 ·rename_i t x
  split at h
  ·exact h.elim
  rename_i I hI;have ok:=G5 hT hI
  split at h
  ·rename_i e he
   split at h
   ·exact⟨_,by simp only[Cy,Yk,ok.sl,he],h⟩
   grind
  rename_i he
  split at h
  ·rename_i n e ha;exact⟨_,by simp only[Cy,Yk,ok.sl,he,ok.ar,ha,Ar.ofN_eq],h⟩
  rename_i ha
  split at h
  ·split at h
   ·rename_i hs;exact⟨_,by simp only[Cy,Yk,ok.sl,he,ok.ar,ha,ok.st,hs,C7,Ar.slen_eq],h⟩
   grind
  grind
 ·grind [Ar.mx_eq,Cy]
 ·grind [Ar.mn_eq,Cy]
 ·rename_i sT yT xs tl ys tl'
  split at h
  ·rename_i I I2 hI hI2
   split at h
   ·rename_i e e2 he he2
    split at h
    ·rename_i J hJ
     split at h
     ·rename_i z hz
      have ez:=(G5 hT hJ).ze;rw[hz]at ez;simp only[BF]at ez
      split at h
      ·rename_i hc;obtain⟨c1,c2,c3,c4,c5⟩:=hc;obtain⟨xs',ys',l1,l2,k1,k2,k3,k4⟩:=h;refine⟨_,⟨?_,e,J.sz,J.by_,z,xs',ys',(G5 hT hI).sl.trans he,by rw[(G5 hT hI2).sl,he2];rfl,(G5 hT hJ).sz,c1,(G5 hT hJ).by_,c2,ez,c3,c4,l1,l2,k1,k2,k3,rfl⟩,k4⟩;cases tl<;>first|exact .inl rfl|exact .inr rfl|cases c5
      grind
     grind
    grind
   grind
  grind
 grind
theorem NL {t:Bool}{x y:Sl}{k:Sl→Prop}(h:YW (G7 P nt rd) t x y k):∃s:Sl,(t=true→s.V=x.V)∧(t=false→s.V=y.V)∧k s:=by
 unfold YW at h
 split at h
 ·grind
 ·exact⟨_,fun e=>(by simp[Sl.V,e]),fun e=>(by simp[Sl.V,e]),h⟩
 ·grind [Sl.V,Ar.or_eq]
 ·grind [Sl.V,nt_eq]
 ·grind
 ·grind [Sl.V,nt_eq,an_eq]
 ·grind [Sl.V,nt_eq,Ar.or_eq]
 ·grind [Sl.V,an_eq]
 ·grind [Ar.pk_eq]
 obtain⟨h1,h2⟩:=h;cases t
 ·grind
 grind
theorem IP.arm {G:List (Nat×Bool)} (hG:IP G l) {c:Operand} {w:Bool} (h:ev (G9 ⟨l,df⟩) c= .bool w):IP (Av0 c w G) l:=by
 cases c with
 |tmp d=>
  refine hG.add ?_;have:BY l d= .bool w:=h;rw[this];simp[Xj]
 |const _=>exact hG
 |global _=>exact hG
 |func _=>exact hG
theorem NM (hT:IM P T) {b:Builtin} {ts:List TypeId} {vs:List V} {w:V} {k:V→Prop} (hid:VI b vs=some w) (h:YZ (G7 P nt rd) T b ts H w k):∃v,LD P H b ts vs v∧k v:=by
 unfold VI at hid
 unfold YZ at h
 split at hid
 ·cases hid
  split at h
  ·split at h
   ·exact h.elim
   rename_i I hI
   split at h
   ·rename_i e he;exact⟨_,by simp only[LD,Al9,(G5 hT hI).sl,he],h⟩
   grind
  grind
 ·cases hid
  split at h
  ·split at h
   ·exact h.elim
   rename_i I hI
   split at h
   ·rename_i e he
    split at h
    ·simp_all
    ·obtain⟨sz,xs,hk,h⟩:=h;exact⟨_,by simp only[LD,Wo,(G5 hT hI).sl,he,FB,hk];rfl,h⟩
    ·exact⟨_,by simp only[LD,Wo,(G5 hT hI).sl,he],h⟩
    ·exact⟨_,by simp only[LD,Wo,(G5 hT hI).sl,he],h⟩
    grind
   grind
  grind
 cases hid
theorem LT (hT:IM P T) {G:List (Nat×Bool)} (hG:IP G l) {o:Oper} {k:Sl→Prop} (h:xq (G7 P nt rd) T G o l H k):∃s:Sl,LS P o (ev (G9 ⟨l,df⟩)) H s.V∧k s:=by
 have E:∀x,(Q3 G l x).V=ev (G9 ⟨l,df⟩) x:=fun x=>Ds hG x;have Em:∀xs:List Operand,(xs.map fun x=>(Q3 G l x).V)=xs.map (ev (G9 ⟨l,df⟩)):=fun xs=>Cb fun p _=>E p
 have Eo:∀x:Option Operand,(x.map fun x=>(Q3 G l x).V)=x.map (ev (G9 ⟨l,df⟩)):=fun x=>by cases x<;>simp[E]
 have Ep:∀ps:List (Nat×Operand),(ps.map fun p=>(p.1,(Q3 G l p.2).V))=ps.map fun p=>(p.1,ev (G9 ⟨l,df⟩) p.2):=fun ps=>Cb fun p _=>by rw[E]
 unfold xq at h
 unfold LS
 split at h<;>rename_i ho<;>try simp only[ho]
 ·grind
 ·grind
 ·rename_i c x y
  split at h
  ·rename_i hc
   have:ev (G9 ⟨l,df⟩) c= .bool true:=by rw[←E,hc];rfl
   grind
  ·rename_i hc
   have:ev (G9 ⟨l,df⟩) c= .bool false:=by rw[←E,hc];rfl
   grind
  ·rename_i b hc
   have hb:ev (G9 ⟨l,df⟩) c= .bool b:=by rw[←E,hc];rfl
   obtain⟨s,h1,h2,h3⟩:=NL h;refine⟨s,?_,h3⟩;simp only[hb];cases b
   ·simp only[F6,E3];rw[h2 rfl];exact Ds (hG.arm hb) _
   simp only[C7];rw[h1 rfl];exact Ds (hG.arm hb) _
  grind
 ·split at h
  ·rename_i h1;rw[E]at h1;exact⟨_,⟨h1,by rw[E];rfl⟩,h⟩
  grind
 ·obtain⟨v,h1,h2⟩:=LX hT h
  rw[Ep]at h1;exact⟨.v v,h1,h2⟩
 ·obtain⟨v,h1,h2⟩:=Hj hT h
  rw[Ep]at h1;exact⟨.v v,h1,h2⟩
 ·obtain⟨v,h1,h2⟩:=RN hT h
  rw[E,E]at h1;exact⟨.v v,h1,h2⟩
 ·obtain⟨v,h1,h2⟩:=JC hT h
  rw[E]at h1;exact⟨.v v,h1,h2⟩
 ·grind
 ·obtain⟨v,h1,h2⟩:=OP hT h
  rw[E,E]at h1;exact⟨.v v,h1,h2⟩
 ·grind [QS]
 ·obtain⟨v,h1,h2⟩:=Ta hT h
  rw[E]at h1;exact⟨.v v,h1,h2⟩
 ·obtain⟨v,h1,h2⟩:=h
  rw[E,E]at h1;exact⟨.v v,h1,h2⟩
 ·split at h
  ·rename_i I hI
   split at h
   ·rename_i hn;exact⟨_,⟨(G5 hT hI).nif hn,by rw[E];rfl⟩,h⟩
   grind
  grind
 ·grind [Sl.V]
 ·split at h
  ·rename_i id l0 n hx;obtain⟨a,b,c,y,h1,h2,h3,h4,h5⟩:=Qy hT h
   rw[Eo]at h1 h2 h3
   rw[E]at hx
   exact⟨.v y,by simp only[h1,h2,h3,hx];exact .inr h4,h5⟩
  obtain⟨a,b,c,y,h1,h2,h3,h4,h5⟩:=RI hT h
  rw[Eo]at h1 h2 h3
  rw[E]at h4
  exact⟨.v y,by simp only[h1,h2,h3];exact .inl h4,h5⟩
 ·obtain⟨v,h1,h2⟩:=HL hT h
  rw[E]at h1;exact⟨.v v,h1,h2⟩
 ·obtain⟨v,h1,h2⟩:=LW hT h
  rw[E]at h1;exact⟨.v v,h1,h2⟩
 ·split at h
  ·rename_i id lo n hx
   unfold Ap5 at h
   split at h
   ·rename_i i hi
    split at h
    ·exact h.elim
    rename_i I hI
    split at h
    ·rename_i e he
     split at h
     ·exact h.elim
     rename_i J hJ;obtain⟨⟨xs,hk⟩,hb,h⟩:=h
     rw[E]at hx hi
     refine⟨.v _,?_,h⟩;simp only[hi,hx];refine .inr ?_;simp only[VZ,(G5 hT hI).sl,he,FB,hk,(G5 hT hJ).sz,Ar.ofs_eq];rw[A2 ⟨hb,trivial⟩];rfl
    grind
   grind
  obtain⟨ki,j,u,y,h1,h2,h4,h3⟩:=MQ hT h
  rw[E]at h1 h2
  exact⟨.v y,by simp only[h1];exact .inl ⟨u,h2,h4⟩,h3⟩
 ·obtain⟨ki,j,y,h1,h2,h3⟩:=RO hT h
  rw[E]at h1 h2
  exact⟨.v y,by simp only[h1];exact h2,h3⟩
 ·split at h
  ·rename_i cs hc
   rw[E]at hc
   obtain⟨y,h1,h2⟩:=DT h;exact⟨.v y,by simp only[hc];exact h1,h2⟩
  grind
 ·rename_i c
  split at h
  ·rename_i b hb
   split at h
   ·rename_i w hid
    rw[Em]at hid
    obtain⟨v,h1,h2⟩:=NM hT hid h;exact⟨.v v,by simp only[hb];exact .inr h1,h2⟩
   obtain⟨v,h1,h2⟩:=II hT h
   rw[Em]at h1
   exact⟨.v v,by simp only[hb];exact .inl h1,h2⟩
  grind
 grind
end
end Go.Ab
namespace Go.Ab
open Go.RowKit
variable [K9][Ar]
def CW (d:Option Tmp)(s:Sl)(l:Fl):Fl:=
 match d with
 |some d=>(d,s)::l
 |none=>l
section
variable (E:Eu)(T:FQ)(nt:Nat)(A:Nat→Bool)(Z:Nat→List Nat)
def Wz (H:A1) (k:V→A1→Prop) (ts:List TypeId) (vs:List V):Prop:=
 match ts,vs with
 | [sT, yT],[.sl xs tl,.sl ys _]=>
  (match tg T sT,tg T yT with
   | some I,some I2=>
    (match I.sl,I2.sl with
     | some e,some _=>
      (match tg T e with
       | some J=>
        (match J.ze with
         |some z=>if 0<J.sz∧0<J.by_∧z.one=true∧z.cells.length=J.sz then E.appn J.sz J.by_ H tl xs ys k else False
         |none=>False)
       |none=>False)
     |_,_=>False)
   |_,_=>False)
 |_,_=>False
def Tb (H:A1) (k:V→A1→Prop) (ts:List TypeId) (vs:List V):Prop:=
 match ts,vs with
 | [sT, yT],[.sl xs tl,.sl ys _]=>
  (match tg T sT,tg T yT with
   | some I,some I2=>
    (match I.sl,I2.sl with
     | some e,some _=>
      (match tg T e with
       | some J=>
        (match J.ze with
         |some z=>if 0<J.sz∧0<J.by_∧z.one=true∧z.cells.length=J.sz then E.appw J.sz J.by_ H tl xs ys k else False
         |none=>False)
       |none=>False)
     |_,_=>False)
   |_,_=>False)
 |_,_=>False
def ZQ (a:Bool)(vs:List V):Bool:=
 match vs with
 | .own _ _ _::_=>true
 |_=>a
def Tc (H : A1) (k:V→A1→Prop) (ts:List TypeId) (vs:List V):Prop:=
 match ts,vs with
 | [sT, yT],[x,y]=>
  (match tg T sT,tg T yT with
   | some I,some I2=>
    (match I.sl with
     | some e=>
      (match tg T e with
       | some J=>
        (match J.ze with
         | some z=>
          if 0<J.sz∧0<J.by_∧z.one=true∧z.cells.length=J.sz then
           (match I2.sl,I2.ik,y with
            |some _,_,y=>E.oapp J.sz J.by_ z H x y k
            |none,some _,.int _ m=>E.oappz J.sz J.by_ z H x m k
            |none,none,.str s=>(match I2.st,J.sz with|true,1=>E.oapps J.by_ z H x s k|_,_=>False)
            |_,_,_=>False)
          else False
         |none=>False)
       |none=>False)
     |_=>False)
   |_,_=>False)
 |_,_=>False
def Ap8 (H:A1) (k:V→A1→Prop) (ts:List TypeId) (vs:List V):Prop:=
 match ts,vs with
 | [sT,_],[.own id lo n,y]=>
  (match tg T sT with
   | some I=>
    (match I.sl with
     |some e=>(match tg T e with|some J=>if 0<J.sz then E.ocopy J.sz H (.own id lo n) y k else False|none=>False)
     |_=>False)
   |_=>False)
 |_,_=>False
def Zd (H:A1) (k:V→A1→Prop) (ts:List TypeId) (vs:List V):Prop:=
 match ts,vs with
 | [sT],[.own id lo n]=>
  (match tg T sT with
   | some I=>
    (match I.sl with
     | some e=>
      (match tg T e with
       |some J=>(match J.ze with|some z=>if 0<J.sz∧z.one=true∧z.cells.length=J.sz then E.oclear J.sz z H (.own id lo n) fun H'=>k (.tup []) H' else False|none=>False)
       |none=>False)
     |_=>False)
   |_=>False)
 |_,_=>False
def Ap6 (t:Nat) (H:A1) (k:V→A1→Prop) (l c:V):Prop:=
 match l,c with
 | .int _ n,.int _ m=>
  (match tg T t with
   | some I=>
    (match I.sl with
     | some e=>
      (match tg T e with
       | some J=>
        (match J.ze with
         |some z=>if 0<J.sz∧0<J.by_∧z.one=true∧z.cells.length=J.sz then E.omk J.sz J.by_ z n m H k else False
         |none=>False)
       |none=>False)
     |none=>False)
   |none=>False)
 |_,_=>False
def Ag7 (t:Nat)(H:A1)(k:Sl→A1→Prop):Prop:=
 match tg T t with
 |some I=>(match I.sl with|some e=>(match tg T e with|some J=>E.onil J.sz H fun v H'=>k (.v v) H'|none=>False)|none=>False)
 |none=>False
def xlit (t n:Nat) (H:A1) (parts:List (Nat×V)) (k:Sl→A1→Prop):Prop:=
 match tg T t with
 |none=>False
 | some I=>
  match I.sl with
  |none=>False
  | some e=>
   match tg T e with
   |none=>False
   |some J=>
    match J.ze with
    |none=>False
    |some _=>if n*J.sz≤16777216∧parts.length=n∧Cp J.sz 0 parts=true then E.olit J.sz H (parts.map fun q=>q.2) fun v H'=>k (.v v) H' else False
def YY (G:List (Nat×Bool)) (o:Oper) (l:Fl) (H:A1) (k:Sl→A1→Prop):Prop:=
 match o.op with
 | .alloc t=>
  (match tg T t with
   | some I=>
    (match I.ze with
     | some z=>
      (match A (o.dst.getD 0+5000000),Kf z with
       |true,true=>(match I.sl with|some e=>(match tg T e with|some J=>E.oalloc J.sz H fun id H'=>k (.v (.ref id 0)) H'|none=>False)|none=>False)
       |_,_=>(match z.one with|true=>E.alloc H z.cells fun id H'=>(match A (o.dst.getD 0+10000000)with|true=>E.wkB H' id fun H2=>k (.v (.ref id 0)) H2|false=>k (.v (.ref id 0)) H')|false=>False))
     |none=>False)
   |none=>False)
 | .box _ x=>
  match A (o.dst.getD 0+1000000)with
  |true=>E.need ((Q3 G l x).V.one=true∧(Q3 G l x).V.cells=[(Q3 G l x).V]) fun _=>(match A (o.dst.getD 0)with|true=>E.alloc H [(Q3 G l x).V] fun id H'=>k (.v (.ref id 0)) H'|false=>k (.v (.eref [(Q3 G l x).V] 0)) H)
  |false=>
  (match(Q3 G l x).V.one with
   |true=>(match A (o.dst.getD 0)with|true=>E.alloc H (Q3 G l x).V.cells fun id H'=>k (.v (.ref id 0)) H'|false=>k (.v (.eref (Q3 G l x).V.cells 0)) H)
   |false=>False)
 | .store t x y=>
  (match tg T t with
   | some I=>
    (match(Q3 G l x).V with
     | .ref id off=>
      (match(Q3 G l y).V.one with
       | true=>
        (match Nat.beq (Q3 G l y).V.cells.length I.sz with
         |true=>E.store H id off I.sz (Q3 G l y).V.cells fun H'=>k (.v .bad) H'
         |false=>False)
       |false=>False)
     | .elem id i esz off=>E.ostore H id i esz I.sz off (Q3 G l y).V fun H'=>k (.v .bad) H'
     |_=>False)
   |none=>False)
 | .binOp op t x y _=>
  (match Xp op,Kf (Q3 G l y).V with
   |some q,true=>(match tg T t with|some I=>(match I.sl with|some _=>E.nilc (Q3 G l x).V (fun _=>k (.b q) H) (fun _=>k (.b (!q)) H)|none=>xq E T G o l H fun s=>k s H)|none=>False)
   |_,_=>xq E T G o l H fun s=>k s H)
 | .makeSlice t x y=>Ap6 E T t H (fun v H'=>k (.v v) H') (Q3 G l x).V (Q3 G l y).V
 | .assign x=>(match A (o.dst.getD 0+6000000),Am3 x with|true,true=>(match Kf (Q3 G l x).V with|true=>Ag7 E T o.type H k|false=>k (Q3 G l x) H)|_,_=>k (Q3 G l x) H)
 | .move x=>(match A (o.dst.getD 0+6000000),Am3 x with|true,true=>(match Kf (Q3 G l x).V with|true=>Ag7 E T o.type H k|false=>k (Q3 G l x) H)|_,_=>k (Q3 G l x) H)
 | .buildSlice t n ps=>
  (match A (o.dst.getD 0+6000000)with
   |true=>xlit E T t n H (ps.toList.map fun p=>(p.1,(Q3 G l p.2).V)) k
   |false=>Hk T t n (ps.toList.map fun p=>(p.1,(Q3 G l p.2).V)) fun v=>k (.v v) H)
 | .makeMap _ r=>(match r with|none=>E.mmk H fun v H'=>k (.v v) H'|some _=>False)
 | .mapUpdate t x y z=>E.mset t H (Q3 G l x).V (Q3 G l y).V (Q3 G l z).V fun H'=>k (.v .bad) H'
 | .insert t x y z=>E.mset t H (Q3 G l x).V (Q3 G l y).V (Q3 G l z).V fun H'=>k (.v .bad) H'
 | .range t x=>E.mrg t H (Q3 G l x).V fun v H'=>k (.v v) H'
 | .next x s=>(match s with|false=>E.mnx H (Q3 G l x).V fun v H'=>k (.v v) H'|true=>False)
 | .entry x=>E.men H (Q3 G l x).V fun v H'=>k (.v v) H'
 | .call c=>
  (match c.callee with
   | .value x=>E.call (Q3 G l x).V (c.args.toList.map fun x=>(Q3 G l x).V) H fun v H'=>k (.v v) H'
   | .builtin .append=>
    (match ZQ (A (o.dst.getD 0)) (c.args.toList.map fun x=>(Q3 G l x).V)with
     |true=>Tc E T H (fun v H'=>k (.v v) H') c.argTypes.toList (c.args.toList.map fun x=>(Q3 G l x).V)
     | false=>
      (match A (o.dst.getD 0+4000000)with
       |true=>Tb E T H (fun v H'=>k (.v v) H') c.argTypes.toList (c.args.toList.map fun x=>(Q3 G l x).V)
       |false=>Wz E T H (fun v H'=>k (.v v) H') c.argTypes.toList (c.args.toList.map fun x=>(Q3 G l x).V)))
   | .builtin .copy=>Ap8 E T H (fun v H'=>k (.v v) H') c.argTypes.toList (c.args.toList.map fun x=>(Q3 G l x).V)
   | .builtin .clear=>Zd E T H (fun v H'=>k (.v v) H') c.argTypes.toList (c.args.toList.map fun x=>(Q3 G l x).V)
   | .builtin .delete=>E.mdel c.argTypes.toList H (c.args.toList.map fun x=>(Q3 G l x).V) fun v H'=>k (.v v) H'
   | .builtin _=>xq E T G o l H fun s=>k s H
   |_=>False)
 |_=>xq E T G o l H fun s=>k s H
def VU (o o2:Oper):Option (Nat×TypeId×TypeId×Operand):=
 match o.op,o.dst,o.guard with
 | .alloc t,some d,none=>
  (match o2.op,o2.dst,o2.guard with
   | .store t2 (.tmp d2) x,none,none=>
    (match A d,Nat.beq d d2 with
     |false,true=>(match x with| .tmp d3=>(match Nat.beq d d3 with|true=>none|false=>some (d,t,t2,x))|_=>some (d,t,t2,x))
     |_,_=>none)
   |_,_,_=>none)
 |_,_,_=>none
def Aq4 (l:Fl) (t t2:TypeId) (x:Operand):Option (List V):=
 match tg T t,tg T t2 with
 | some I,some I2=>
  (match I.ze with
   |some z=>if z.one=true∧(Q3 [] l x).V.one=true∧(Q3 [] l x).V.cells.length=I2.sz∧I2.sz≤z.cells.length then some (S7 z.cells 0 (Q3 [] l x).V.cells)else none
   |none=>none)
 |_,_=>none
def Gu (ops : Array Oper) (o:Oper):Nat→Fl→(List (Nat×Bool)→Fl→(Sl→Sl)→Prop)→(Fl→Prop)→Prop
 | n, l, go, skip=>
  match o.guard with
  |none=>go [] l Sl.n
  | some (j, want)=>
   (match (ops[j]?).bind (·.dst)with
    |none=>False
    | some d =>
     (match TY [] l d with
      |some (.b c)=>(match c==want with|true=>go [] l Sl.n|false=>skip l)
      | some (.v (.bool c))=>
       (match Ke [(d,want)] o l with
        |true=>go [(d,want)] l fun s=>.g d want s.V
        | false=>
         E.br c (fun _=>match want with|true=>go [] (Lp l d true) Sl.n|false=>skip (Lp l d true))
          (fun _=>match want with|false=>go [] (Lp l d false) Sl.n|true=>skip (Lp l d false)))
      |some (.v (.tup _))=>skip l
      |some _=>False
      | none =>
       (match lk l d with
        | .g j' _ (.bool _)=>
         (match Yr l d j' with
          | true=>
           (match Ke [(d,want)] o l with
            |true=>go [(d,want)] l fun s=>.g d want s.V
            | false=>
             (match lk l j',n with
              | .v (.bool c),n+1=>E.br c (fun _=>Gu ops o n (Lp l j' true) go skip) (fun _=>Gu ops o n (Lp l j' false) go skip)
              |_,_=>False))
          |false=>False)
        |_=>False)))
def LV :Option (Nat×Int×Int×List V)→List Nat→Fl→A1→(Fl→A1→Prop)→Prop
 |_,[],l,H,k=>k l H
 | some (id,lo,n,xs),d::ds,l,H,k=>
  (match lk l d with
   | .v (.own id' lo' n')=>E.need (id'=id∧lo'=lo∧n'=n) fun _=>LV (some (id,lo,n,xs)) ds ((d,.v (.sl xs .ro))::l) H k
   |_=>LV none ds l H k)
 | none,d::ds,l,H,k=>
  match decide (1000000≤d)with
  | true=>
   (match lk l (d % 1000000)with
    | .v (.ref id 0)=>
     (match decide (100000000≤d)with
      |true=>E.adoptIn H id ((d - 100000000) / 1000000) fun H'=>LV none ds l H' k
      |false=>E.frzIn H id (d / 1000000 - 1) fun H'=>LV none ds l H' k)
    |_=>False)
  |false=>
   match lk l d with
   | .v (.ref id 0)=>E.frzL H id fun cs H'=>LV none ds ((d,.v (.eref cs 0))::l) H' k
   | .v (.own id lo n)=>E.ofrz H id lo n fun xs H'=>LV (some (id,lo,n,xs)) ds ((d,.v (.sl xs .ro))::l) H' k
   | .v (.sl _ _)=>LV none ds l H k
   |_=>False
def Ay9 (o:Oper):List Nat:=
 match o.dst with
 |some q=>Z q
 |none=>[]
def LU (ops:Array Oper):List Oper→Fl→A1→(Fl→A1→Prop)→Prop
 |[],l,H,K=>K l H
 | o ::rest,l,H,K=>
  match FY nt o.dst with
  |false=>False
  | true=>
   LV E none (Ay9 Z o) l H fun l H=>
   match rest with
   |[]=>Gu E ops o 4 l (fun G l' wr=>YY E T A G o l' H fun s H'=>K (CW o.dst (wr s) l') H') fun l'=>K (CW o.dst (.v (.tup [])) l') H
   | o2::rest'=>
    (match VU A o o2 with
     | some (d,t,t2,x)=>
      (match Aq4 T l t t2 x with
       |some cs=>LU ops rest' ((d,.v (.eref cs 0))::l) H K
       |none=>False)
     |none=>Gu E ops o 4 l (fun G l' wr=>YY E T A G o l' H fun s H'=>LU ops (o2::rest') (CW o.dst (wr s) l') H' K) fun l'=>LU ops (o2::rest') (CW o.dst (.v (.tup [])) l') H K)
end
section
variable {P:Program}{nt:Nat}{rd:Option Nat}{T:FQ}{A:Nat→Bool}{df:List Nat}
theorem Xc (l:Fl) (d t:Nat) (s:Sl):BY ((d,s)::l) t=if t=d then XE l s else BY l t:=by
 simp only[BY]
 by_cases h:t=d
 ·subst h;simp only[Nat.beq_refl,C7];cases s<;>rfl
 have:Nat.beq t d=false:=by
  cases hb:Nat.beq t d with
  |false=>rfl
  |true=>simp_all
 grind
theorem M6 (l:Fl) (d:Option Tmp) (s:Sl):G9 ⟨CW d s l,df⟩=(G9 ⟨l,df⟩).put d (XE l s):=by
 cases d with
 |none=>rfl
 |some d=>
  simp only[G9,CW,Fr.put,Fr.mk.injEq,I9]
  funext t
  exact Xc l d t s
theorem DU {ops:Array Oper} {o:Oper} {go:List (Nat×Bool)→Fl→(Sl→Sl)→Prop} {skip:Fl→Prop}:∀(n:Nat) (l:Fl),Gu (G7 P nt rd) ops o n l go skip→
 ∃l',(∀t,BY l' t=BY l t)∧((Be ops (G9 ⟨l,df⟩) o=some true∧∃G wr,IP G l'∧(∀s,XE l' (wr s)=s.V)∧go G l' wr)∨
  (Be ops (G9 ⟨l,df⟩) o=some false∧(skip l'∨∃G d want,Ke G o l'=true∧Xj (BY l' d) want=false∧go G l' fun s=>.g d want s.V)))
 | n, l,h=>by
  unfold Gu at h
  split at h
  ·rename_i hg;exact⟨l,fun _=>rfl,.inl ⟨by simp[Be,hg],[],_,IP.nil,fun s=>by cases s<;>rfl,h⟩⟩
  rename_i j want hg
  split at h
  ·exact h.elim
  rename_i d hjd
  have gv:∀x,BY l d=x→Be ops (G9 ⟨l,df⟩) o=match x with| .bool c=>some (c==want)| .tup _=>some false|_=>none:=fun x hx=>by
   simp only[Be,hg,hjd,G9,hx]
   grind
  have idok:∀(l':Fl) (s:Sl),XE l' s.n=s.V:=fun l' s=>by cases s<;>rfl
  have tot:∀c,BY l d= .bool c→Ke [(d,want)] o l=true→go [(d,want)] l (fun s=>.g d want s.V)→∃l',(∀t,BY l' t=BY l t)∧((Be ops (G9 ⟨l,df⟩) o=some true∧∃G wr,IP G l'∧(∀s,XE l' (wr s)=s.V)∧go G l' wr)∨
   (Be ops (G9 ⟨l,df⟩) o=some false∧(skip l'∨∃G d want,Ke G o l'=true∧Xj (BY l' d) want=false∧go G l' fun s=>.g d want s.V))):=by
   intro c hc ht h;have:=gv _ hc
   simp only at this
   cases hcw:c==want with
   |true=>exact⟨l,fun _=>rfl,.inl ⟨by rw[this,hcw],_,_,IP.nil.add (by rw[hc];simp_all[Xj]),fun s=>by simp only[XE,hc,Xj,hcw,cond_true],h⟩⟩
   |false=>exact⟨l,fun _=>rfl,.inr ⟨by rw[this,hcw],.inr ⟨_,d,want,ht,by rw[hc];simp_all[Xj],h⟩⟩⟩
  split at h
  ·rename_i c hc;have hv:BY l d= .bool c:=(JQ IP.nil hc).1.symm;have:=gv _ hv
   split at h
   ·rename_i e;exact⟨l,fun _=>rfl,.inl ⟨by rw[this];grind,[],_,IP.nil,idok l,h⟩⟩
   grind
  ·rename_i c hc;have hv:BY l d= .bool c:=(JQ IP.nil hc).1.symm;have hgv:=gv _ hv
   split at h
   ·simp_all
   have e:=Oy l d c hv;obtain⟨h1,h2⟩:=h;cases c
   ·have h:=h2 rfl;cases want
    ·exact⟨_,e,.inl ⟨hgv,[],_,IP.nil,idok _,h⟩⟩
    grind
   have h:=h1 rfl;cases want
   ·grind
   exact⟨_,e,.inl ⟨hgv,[],_,IP.nil,idok _,h⟩⟩
  ·rename_i vs hc;have hv:BY l d= .tup vs:=(JQ IP.nil hc).1.symm
   grind
  ·exact h.elim
  split at h
  ·rename_i j' w' cx hl
   split at h
   ·rename_i hf;have hv:=SH l d j' w' _ hl hf
    split at h
    ·rename_i ht
     cases hb:Xj (BY l j') w' with
     |true=>
      rw[hb]at hv
      simp_all
     |false=>
      rw[hb]at hv
      have hv:BY l d= .tup []:=hv;exact⟨l,fun _=>rfl,.inr ⟨gv _ hv,.inr ⟨_,d,want,ht,by rw[hv];rfl,h⟩⟩⟩
    split at h
    ·rename_i c m hc;have hvj:=Kd l j' _ hc (fun _ _ _ h=>by cases h);obtain⟨h1,h2⟩:=h
     have key:∀b,c=b→Gu (G7 P nt rd) ops o m (Lp l j' b) go skip→∃l',(∀t,BY l' t=BY l t)∧((Be ops (G9 ⟨l,df⟩) o=some true∧∃G wr,IP G l'∧(∀s,XE l' (wr s)=s.V)∧go G l' wr)∨
      (Be ops (G9 ⟨l,df⟩) o=some false∧(skip l'∨∃G d want,Ke G o l'=true∧Xj (BY l' d) want=false∧go G l' fun s=>.g d want s.V))):=by
      intro b hb h
      have hk:BY l j'= .bool b:=by rw[hvj,hb];rfl
      have e:=Oy l j' b hk;obtain⟨l',e',h⟩:=DU m _ h
      rw[Nm hk]at h
      grind
     cases c
     ·simp_all
     simp_all
    grind
   grind
  grind
theorem L8.whole {y:V} {vs:List V} (h:L8 y.cells vs) (h1:y.one=true):∃z,BQ y z∧z.cells=vs:=by
 have one:∀{y:V} {vs:List V},L8 [y] vs→(∀z,BQ y z→z.cells=[z])→∃z,BQ y z∧z.cells=vs:=by
  intro y vs h hz
  cases h with
  |cons q r=>cases r;grind
 cases y with
 |agg cs=>exact⟨.agg vs,.agg h,rfl⟩
 |tup vs=>cases h1
 |_=>exact one h fun z hz=>by cases hz<;>rfl
theorem MP (hT:IM P T) {G:List (Nat×Bool)} {o:Oper} {l:Fl} (hG:IP G l) {H:A1} {k:Sl→A1→Prop} (h:YY (G7 P nt rd) T A G o l H k):GO P A o (ev (G9 ⟨l,df⟩)) H fun v H'=>∃s:Sl,v=s.V∧k s H':=by
 have E:∀x,(Q3 G l x).V=ev (G9 ⟨l,df⟩) x:=fun x=>Ds hG x;have Em:∀xs:List Operand,(xs.map fun x=>(Q3 G l x).V)=xs.map (ev (G9 ⟨l,df⟩)):=fun xs=>Cb fun p _=>E p
 have quiet:xq (G7 P nt rd) T G o l H (fun s=>k s H)→∃v,LS P o (ev (G9 ⟨l,df⟩)) H v∧∃s:Sl,v=s.V∧k s H:=fun h=>by
  obtain⟨s,h1,h2⟩:=LT (df:=df) hT hG h
  grind
 unfold YY at h
 split at h
 ·rename_i t ho;simp only[GO,ho]
  split at h
  ·rename_i I hI
   split at h
   ·rename_i z hz
    have ez:=(G5 hT hI).ze;rw[hz]at ez;simp only[BF]at ez
    split at h
    ·rename_i hA hn
     split at h
     ·split at h
      ·rename_i J _
       have e2:z= .sl [] .nil:=by
        unfold Kf at hn
        grind
       rw[e2]at ez
       exact .inr ⟨ez,J.sz,fun q id hq hid=>⟨.v (.ref id 0),rfl,h q id hq hid⟩⟩
      grind
     grind
    split at h
    ·rename_i h1;refine .inl ⟨z,ez,h1,fun id hid=>?_⟩;have h:=h id hid
     split at h
     ·obtain⟨cs,ds,q1,q2,q3⟩:=h
      rw[C8]at q1;cases q1
      rw[X1]at q3
      grind [Sl.V]
     exact⟨_,.refl _,.v (.ref id 0),rfl,h⟩
    grind
   grind
  grind
 ·rename_i t x ho;simp only[GO,ho]
  split at h
  ·rw[E]at h
   obtain⟨⟨h1,h2⟩,h⟩:=h;refine⟨h1,?_⟩;rw[h2]
   split at h
   ·rename_i hA;rw[A2 hA];exact fun id hid=>⟨.v (.ref id 0),rfl,h id hid⟩
   grind [Sl.V]
  split at h
  ·rename_i h1
   rw[E]at h1
   refine⟨h1,?_⟩
   split at h
   ·rename_i hA;rw[A2 hA];intro id hid;have:=h id hid
    rw[E]at this
    exact⟨.v (.ref id 0),rfl,this⟩
   rename_i hA;rw[A3 (by rw[hA];simp)]
   rw[E]at h
   grind [Sl.V]
  grind
 ·rename_i t x y ho;simp only[GO,ho]
  split at h
  ·rename_i I hI
   split at h
   ·rename_i id off hx
    split at h
    ·rename_i h1
     split at h
     ·rename_i h2;obtain⟨cs,vs',hle,hk,h3,h⟩:=h
      rw[E]at hx h1 h2 hle
      obtain⟨z,hz,hzc⟩:=hle.whole h1;subst hzc;refine .inl ⟨z,_,hz,?_,.v .bad,rfl,h⟩;simp only[Lm,(G5 hT hI).sz,hx,hk];rw[A2 ⟨hz.one h1,by rw[←hz.cells.length];simp_all,Gp h3⟩]
     grind
    grind
   ·rename_i id i esz off hx;obtain⟨xs,y',q1,q2,q3,q4,q5,q6,h⟩:=h
    rw[E]at hx q1
    refine .inr ⟨y',_,q1,?_,.v .bad,rfl,h⟩;simp only[RT,(G5 hT hI).sz,hx,FB,q5];rw[A2 ⟨q6,trivial,q2,q3,q4⟩]
   grind
  grind
 ·rename_i op t x y ty ho
  have old:xq (G7 P nt rd) T G o l H (fun s=>k s H)→GO P A o (ev (G9 ⟨l,df⟩)) H fun v H'=>∃s:Sl,v=s.V∧k s H':=fun h=>by
   obtain⟨v,h1,h2⟩:=quiet h;simp only[GO,ho]
   simp_all
  split at h
  ·rename_i q hq hn
   split at h
   ·rename_i I hI
    split at h
    ·rename_i e he;obtain⟨p,h1,h2,h3⟩:=h
     rw[E]at h1 hn
     simp only[GO,ho];refine .inr ⟨q,e,p,hq,(G5 hT hI).sl.trans he,h1,?_,fun hx=>⟨.b q,rfl,h2 hx⟩,⟨.b (!q),rfl,h3⟩⟩
     unfold Kf at hn
     grind
    grind
   grind
  grind
 ·rename_i t x y ho;simp only[GO,ho]
  rw[E,E]at h
  refine .inr ?_
  unfold Ap6 at h
  unfold NV
  split at h
  ·rename_i k1 n k2 m e1 e2;rw[e1,e2]
   simp only
   split at h
   ·rename_i I hI
    split at h
    ·rename_i e he
     split at h
     ·rename_i J hJ
      split at h
      ·rename_i z hz
       have ez:=(G5 hT hJ).ze;rw[hz]at ez;simp only[BF]at ez
       split at h
       ·rename_i hc;obtain⟨c1,c2,c3,c4⟩:=hc;obtain⟨⟨q1,q2,q3⟩,ys,hle,h⟩:=h;exact⟨e,J.sz,J.by_,z,(G5 hT hI).sl.trans he,(G5 hT hJ).sz,c1,(G5 hT hJ).by_,c2,ez,c3,c4,q1,q2,q3,fun id hid=>⟨id,J.sz,_,ys,C8 _ _ _,hle,.v _,rfl,by rw[X1];grind⟩⟩
       grind
      grind
     grind
    grind
   grind
  grind
 ·rename_i x ho;simp only[GO,ho]
  split at h
  ·split at h
   ·rename_i hn
    rw[E]at hn
    unfold Ag7 at h
    split at h
    ·split at h
     ·split at h
      ·rename_i J _;refine .inr ⟨?_,J.sz,fun q hq=>⟨.v _,rfl,h q hq⟩⟩
       unfold Kf at hn
       grind
      grind
     grind
    grind
   grind
  grind
 ·rename_i x ho;simp only[GO,ho]
  split at h
  ·split at h
   ·rename_i hn
    rw[E]at hn
    unfold Ag7 at h
    split at h
    ·split at h
     ·split at h
      ·rename_i J _;refine .inr ⟨?_,J.sz,fun q hq=>⟨.v _,rfl,h q hq⟩⟩
       unfold Kf at hn
       grind
      grind
     grind
    grind
   grind
  grind
 ·rename_i t n ps ho
  have Ep:∀ps:List (Nat×Operand),(ps.map fun p=>(p.1,(Q3 G l p.2).V))=ps.map fun p=>(p.1,ev (G9 ⟨l,df⟩) p.2):=fun ps=>Cb fun p _=>by rw[E]
  split at h
  ·simp only[GO,ho];refine .inr ?_
   rw[Ep]at h
   unfold xlit at h
   split at h
   ·exact h.elim
   rename_i I hI
   split at h
   ·exact h.elim
   rename_i e he
   split at h
   ·exact h.elim
   rename_i J hJ
   split at h
   ·exact h.elim
   rename_i z hz
   have ez:=(G5 hT hJ).ze;rw[hz]at ez;simp only[BF]at ez
   split at h
   ·rename_i hc;obtain⟨ys,hle,h⟩:=h;refine⟨e,J.sz,_,ys,?_,(G5 hT hI).sl.trans he,(G5 hT hJ).sz,hle,fun q hq=>⟨.v _,rfl,h q hq⟩⟩;simp only[AA,(G5 hT hI).sl,he,(G5 hT hJ).sz,ez];rw[A2 hc]
   grind
  obtain⟨v,h1,h2⟩:=Hj hT h
  rw[Ep]at h1
  simp only[GO,ho];exact .inl ⟨v,by simp_all[LS],.v v,rfl,h2⟩
 ·rename_i t r ho;simp only[GO,ho]
  split at h
  ·exact⟨rfl,Yj (K:=fun v H'=>k (.v v) H') h fun v H' hk=>⟨.v v,rfl,hk⟩⟩
  grind
 ·rename_i t x y z ho;simp only[GO,ho]
  rw[E,E,E]at h
  exact Ge (K:=fun _ H'=>k (.v .bad) H') h fun H' hk=>⟨.v .bad,rfl,hk⟩
 ·rename_i t x y z ho;simp only[GO,ho]
  rw[E,E,E]at h
  exact Ge (K:=fun _ H'=>k (.v .bad) H') h fun H' hk=>⟨.v .bad,rfl,hk⟩
 ·rename_i t x ho;simp only[GO,ho]
  rw[E]at h
  exact TQ (K:=fun v H'=>k (.v v) H') h fun v H' hk=>⟨.v v,rfl,hk⟩
 ·rename_i x s ho;simp only[GO,ho]
  cases s with
  |true=>exact h.elim
  |false=>
   rw[E]at h
   exact⟨rfl,VK (K:=fun v H'=>k (.v v) H') h fun v H' hk=>⟨.v v,rfl,hk⟩⟩
 ·rename_i x ho;simp only[GO,ho]
  rw[E]at h
  exact UB (K:=fun v H'=>k (.v v) H') h fun v H' hk=>⟨.v v,rfl,hk⟩
 ·rename_i c ho
  split at h
  ·rename_i x hc;simp only[GO,ho,hc]
   rw[E,Em]at h
   exact Cz.mono h fun v H' hk=>⟨.v v,rfl,hk⟩
  ·rename_i hc;simp only[GO,ho,hc]
   rw[Em]at h
   split at h
   ·refine .inr (.inl ?_)
    unfold Tc at h
    unfold ML
    split at h
    ·rename_i sT yT x y hts hvs;rw[hts,hvs]
     simp only
     split at h
     ·rename_i I I2 hI hI2
      split at h
      ·rename_i e he
       split at h
       ·rename_i J hJ
        split at h
        ·rename_i z hz
         have ez:=(G5 hT hJ).ze;rw[hz]at ez;simp only[BF]at ez
         split at h
         ·rename_i hc;obtain⟨c1,c2,c3,c4⟩:=hc;refine⟨e,J.sz,J.by_,z,(G5 hT hI).sl.trans he,(G5 hT hJ).sz,c1,(G5 hT hJ).by_,c2,ez,c3,c4,?_⟩
          split at h
          ·rename_i he2;obtain⟨ys',q1,h⟩:=h;exact .inl ⟨by rw[(G5 hT hI2).sl,he2];rfl,ys',q1,EO h fun v H' hk=>⟨.v _,rfl,hk⟩⟩
          ·rename_i k0 he2 hik;have eik:=(G5 hT hI2).ik
           rw[hik]at eik
           obtain⟨q1,h⟩:=h;exact .inr (.inl ⟨⟨_,eik⟩,_,_,rfl,q1.1,q1.2,EO h fun v H' hk=>⟨.v _,rfl,hk⟩⟩)
          ·split at h
           ·rename_i hst hj1;have est:=(G5 hT hI2).st
            rw[hst]at est
            have h:FZ H (fun v H'=>k (.v v) H') 1 J.by_ z x (FF _):=h
            rw[←hj1]at h
            exact .inr (.inr ⟨Kv est,_,rfl,hj1,EO h fun v H' hk=>⟨.v _,rfl,hk⟩⟩)
           grind
          grind
         grind
        grind
       grind
      grind
     grind
    grind
   split at h
   ·refine .inr (.inr ?_)
    unfold Tb at h
    unfold Gk
    split at h
    ·rename_i sT yT xs tl ys tl' hts hvs;rw[hts,hvs]
     simp only
     split at h
     ·rename_i I I2 hI hI2
      split at h
      ·rename_i e e2 he he2
       split at h
       ·rename_i J hJ
        split at h
        ·rename_i z hz
         have ez:=(G5 hT hJ).ze;rw[hz]at ez;simp only[BF]at ez
         split at h
         ·rename_i hc;obtain⟨c1,c2,c3,c4⟩:=hc;obtain⟨xs',ys',l1,l2,k1,k2,k3,k4,k5⟩:=h;exact⟨e,J.sz,J.by_,z,(G5 hT hI).sl.trans he,by rw[(G5 hT hI2).sl,he2];rfl,(G5 hT hJ).sz,c1,(G5 hT hJ).by_,c2,ez,c3,c4,xs',ys',l1,l2,k1,k2,k3,k4,fun e=>⟨_,_,by subst e;rw[H7];exact .ro _ _,fun _ _ hx=>Ek hx,⟨.v _,rfl,k5⟩⟩,fun t h1 h2=>⟨_,_,.ro _ _,fun id b hx=>by rw[C1 _ _ fun e=>by simp_all];exact hx,⟨.v _,rfl,k5⟩⟩⟩
         grind
        grind
       grind
      grind
     grind
    grind
   refine .inl ?_
   unfold Wz at h
   unfold Gk
   split at h
   ·rename_i sT yT xs tl ys tl' hts hvs;rw[hts,hvs]
    simp only
    split at h
    ·rename_i I I2 hI hI2
     split at h
     ·rename_i e e2 he he2
      split at h
      ·rename_i J hJ
       split at h
       ·rename_i z hz
        have ez:=(G5 hT hJ).ze;rw[hz]at ez;simp only[BF]at ez
        split at h
        ·rename_i hc;obtain⟨c1,c2,c3,c4⟩:=hc;obtain⟨xs',ys',l1,l2,k1,k2,k3,k4,k5,k6⟩:=h;exact⟨e,J.sz,J.by_,z,(G5 hT hI).sl.trans he,by rw[(G5 hT hI2).sl,he2];rfl,(G5 hT hJ).sz,c1,(G5 hT hJ).by_,c2,ez,c3,c4,xs',ys',l1,l2,k1,k2,k3,k4,fun e=>⟨.v _,rfl,k5 e⟩,fun t h1 h2=>⟨.v _,rfl,k6 t h1 h2⟩⟩
        grind
       grind
      grind
     grind
    grind
   grind
  ·rename_i hc;simp only[GO,ho,hc]
   rw[Em]at h
   unfold Ap8 at h
   unfold UK
   split at h
   ·rename_i sT yT id lo n y hts hvs;rw[hts,hvs]
    simp only
    split at h
    ·rename_i I hI
     split at h
     ·rename_i e he
      split at h
      ·rename_i J hJ
       split at h
       ·rename_i c1;obtain⟨xs,ys',q1,q2,h⟩:=h;exact⟨e,J.sz,xs,ys',(G5 hT hI).sl.trans he,(G5 hT hJ).sz,c1,q1,q2,.v _,rfl,h⟩
       grind
      grind
     grind
    grind
   grind
  ·rename_i hc;simp only[GO,ho,hc]
   rw[Em]at h
   unfold Zd at h
   unfold PZ
   split at h
   ·rename_i sT id lo n hts hvs;rw[hts,hvs]
    simp only
    split at h
    ·rename_i I hI
     split at h
     ·rename_i e he
      split at h
      ·rename_i J hJ
       split at h
       ·rename_i z hz
        have ez:=(G5 hT hJ).ze;rw[hz]at ez;simp only[BF]at ez
        split at h
        ·rename_i c1;obtain⟨xs,q1,h⟩:=h;exact⟨e,J.sz,z,xs,(G5 hT hI).sl.trans he,(G5 hT hJ).sz,c1.1,ez,c1.2.1,c1.2.2,q1,.v _,rfl,h⟩
        grind
       grind
      grind
     grind
    grind
   grind
  ·rename_i hc;simp only[GO,ho,hc]
   rw[Em]at h
   exact ME (K:=fun v H'=>k (.v v) H') h fun v H' hk=>⟨.v v,rfl,hk⟩
  ·rename_i b hb _ _ _ hc;obtain⟨v,h1,h2⟩:=quiet h
   simp only[LS,ho,hc]at h1
   simp only[GO,ho,hc]
   grind
  grind
 rename_i n1 n2 n3 n4 n5 n6 n7 n8 n9 n10 n11 n12 n13 n14 n15;obtain⟨v,h1,h2⟩:=quiet h;unfold GO
 split<;>rename_i ho<;>first|exact⟨v,h1,h2⟩|exact(n1 _ ho).elim|exact(n1 _ _ ho).elim|exact(n1 _ _ _ ho).elim|exact(n1 _ _ _ _ ho).elim|exact(n1 _ _ _ _ _ ho).elim|exact(n2 _ ho).elim|exact(n2 _ _ ho).elim|exact(n2 _ _ _ ho).elim|exact(n2 _ _ _ _ ho).elim|exact(n2 _ _ _ _ _ ho).elim|exact(n3 _ ho).elim|exact(n3 _ _ ho).elim|exact(n3 _ _ _ ho).elim|exact(n3 _ _ _ _ ho).elim|exact(n3 _ _ _ _ _ ho).elim|exact(n4 _ ho).elim|exact(n4 _ _ ho).elim|exact(n4 _ _ _ ho).elim|exact(n4 _ _ _ _ ho).elim|exact(n4 _ _ _ _ _ ho).elim|exact(n5 _ ho).elim|exact(n5 _ _ ho).elim|exact(n5 _ _ _ ho).elim|exact(n5 _ _ _ _ ho).elim|exact(n5 _ _ _ _ _ ho).elim|exact(n6 _ ho).elim|exact(n6 _ _ ho).elim|exact(n6 _ _ _ ho).elim|exact(n6 _ _ _ _ ho).elim|exact(n6 _ _ _ _ _ ho).elim|exact(n7 _ ho).elim|exact(n7 _ _ ho).elim|exact(n7 _ _ _ ho).elim|exact(n7 _ _ _ _ ho).elim|exact(n7 _ _ _ _ _ ho).elim|exact(n8 _ ho).elim|exact(n8 _ _ ho).elim|exact(n8 _ _ _ ho).elim|exact(n8 _ _ _ _ ho).elim|exact(n8 _ _ _ _ _ ho).elim|exact(n9 _ ho).elim|exact(n9 _ _ ho).elim|exact(n9 _ _ _ ho).elim|exact(n9 _ _ _ _ ho).elim|exact(n9 _ _ _ _ _ ho).elim|exact(n10 _ ho).elim|exact(n10 _ _ ho).elim|exact(n10 _ _ _ ho).elim|exact(n10 _ _ _ _ ho).elim|exact(n10 _ _ _ _ _ ho).elim|exact(n11 _ ho).elim|exact(n11 _ _ ho).elim|exact(n11 _ _ _ ho).elim|exact(n11 _ _ _ _ ho).elim|exact(n11 _ _ _ _ _ ho).elim|exact(n12 _ ho).elim|exact(n12 _ _ ho).elim|exact(n12 _ _ _ ho).elim|exact(n12 _ _ _ _ ho).elim|exact(n12 _ _ _ _ _ ho).elim|exact(n13 _ ho).elim|exact(n13 _ _ ho).elim|exact(n13 _ _ _ ho).elim|exact(n13 _ _ _ _ ho).elim|exact(n13 _ _ _ _ _ ho).elim|exact(n14 _ ho).elim|exact(n14 _ _ ho).elim|exact(n14 _ _ _ ho).elim|exact(n14 _ _ _ _ ho).elim|exact(n14 _ _ _ _ _ ho).elim|simp_all|exact(n15 _ _ ho).elim|exact(n15 _ _ _ ho).elim|exact(n15 _ _ _ _ ho).elim|exact(n15 _ _ _ _ _ ho).elim
theorem VR.nil_inv {g:Gh}{w:World}{u:Value}(h:VR g w u (.sl [] .nil)):u= .slice none 0 0:=by
 cases h with
 |sl0 _=>rfl
 |sle ht=>rcases ht with h|⟨h,_⟩<;>cases h
 |sl _ _ _ _ _ _ _ _ ht=>exact ht.elim
theorem DP {cs:List V}{i j:Nat}{x:V}(hi:i<cs.length):(cs.set i x).getD j .bad=if j=i then x else cs.getD j .bad:=by
 grind
theorem VR.erefLe {g:Gh} {w:World} {v:Value} {cs ds:List V} {off:Nat} (h:VR g w v (.eref cs off)) (hl:L8 cs ds):VR g w v (.eref ds off):=by
 have e:=hl.length
 cases h with
 |eref vs hf hw h1 hv=>
  exact .eref vs (fun j hj=>hf j (by omega)) (fun j hj=>hw j (by omega)) (fun j hj=>h1 j (by omega)) fun j hj=>(hv j (by omega)).le (hl.at j)
theorem Bu {w:World} {a:Act}:∀(q:Option (Nat×Int×Int×List V)) (ds:List Nat) (l:Fl) (H:A1) (g:Gh) (k:Fl→A1→Prop),(∀id lo n xs,q=some (id,lo,n,xs)→∀v,VR g w v (.own id lo n)→VR g w v (.sl xs .ro))→Rl g H w→FR nt g w a (G9 ⟨l,df⟩)→LV (G7 P nt rd) q ds l H k→∃g' l' H',U1 g w g' w∧Rl g' H' w∧FR nt g' w a (G9 ⟨l',df⟩)∧k l' H'
 |q,[],l,H,g,k,_,hR,hF,h=>⟨g,l,H,U1.refl _ _,hR,hF,by simp_all[LV]⟩
 | some (id,lo,n,xs),d::ds,l,H,g,k,hq,hR,hF,h=>by
  unfold LV at h
  split at h
  ·rename_i id' lo' n' hl;obtain⟨⟨e,e2,e3⟩,h⟩:=h;subst e;subst e2;subst e3
   have hF1:FR nt g w a (G9 ⟨(d,.v (.sl xs .ro))::l,df⟩):=by
    have e:=M6 (df:=df) l (some d) (.v (.sl xs .ro))
    rw[show CW (some d) (.v (.sl xs .ro)) l=(d,Sl.v (.sl xs .ro))::l from rfl]at e
    rw[e];refine⟨hF.size,fun t=>?_,hF.df⟩;simp only[Fr.put]
    split
    ·rename_i ht;subst ht;have h0:=hF.s t;have e0:(G9 ⟨l,df⟩).s t= .own id' lo' n':=Kd l t _ hl (fun _ _ _ h=>by cases h)
     rw[e0]at h0
     simp_all[XE]
    exact hF.s t
   exact Bu _ ds _ _ g k hq hR hF1 h
  exact Bu none ds _ _ g k (fun _ _ _ _ h=>by cases h) hR hF h
 | none,d::ds,l,H,g,k,_,hR,hF,h=>by
  unfold LV at h
  split at h
  ·split at h
   ·rename_i id hl
    split at h
    ·obtain⟨cs,sz,hk,hj,h⟩:=h;obtain⟨jl,_⟩:=List.getElem?_eq_some_iff.1 hj;obtain⟨g1,s1,hR1,hn,hv⟩:=DL hR sz (.inl rfl) (.sl0 rfl:VR g w (.slice none 0 0) (.sl [] .nil))
     have hk1:upd H g.nx (some (.arr sz [])) id=some (.cells cs):=by
      rw[C1 _ _ (fun e=>by rw[e]at hk;rw[hn]at hk;cases hk)];exact hk
     have hR2:=hR1.chgCells hk1 (ds:=cs.set ((d - 100000000) / 1000000) (.own g.nx 0 0)) (by simp) fun j' u hj' hu=>by
      rw[DP jl]
      split
      ·rename_i e;subst e
       rw[EA,hj]at hu
       rw[VR.nil_inv hu];exact hv
      exact hu
     obtain⟨g2,l2,H2,s2,r⟩:=Bu none ds _ _ g1 k (fun _ _ _ _ h=>by cases h) hR2 (hF.mono s1) (h _ hn);exact⟨g2,l2,H2,s1.trans s2,r⟩
    obtain⟨cs,q,lo,n,sz,xs,ys,hk,hj,hq,hle,h⟩:=h;obtain⟨jl,_⟩:=List.getElem?_eq_some_iff.1 hj;obtain⟨g1,s1,hR1,hv⟩:=hR.freezeArr hq
    have hk1:upd H q none id=some (.cells cs):=by
     rw[C1 _ _ (fun e=>by simp_all)];exact hk
    have hR2:=hR1.chgCells hk1 (ds:=cs.set (d / 1000000 - 1) (.sl ys .ro)) (by simp) fun j' u hj' hu=>by
     rw[DP jl]
     split
     ·rename_i e;subst e
      rw[EA,hj]at hu
      exact(hv _ _ _ hu).le (.sl _ hle)
     exact hu
    obtain⟨g2,l2,H2,s2,r⟩:=Bu none ds _ _ g1 k (fun _ _ _ _ h=>by cases h) hR2 (hF.mono s1) h;exact⟨g2,l2,H2,s1.trans s2,r⟩
   grind
  split at h
  ·rename_i id hl;obtain⟨cs0,cs,hk,hle,h⟩:=h;obtain⟨g1,s1,hR1,hv⟩:=hR.freeze hk
   have hF1:FR nt g1 w a (G9 ⟨(d,.v (.eref cs 0))::l,df⟩):=by
    have e:=M6 (df:=df) l (some d) (.v (.eref cs 0))
    rw[show CW (some d) (.v (.eref cs 0)) l=(d,Sl.v (.eref cs 0))::l from rfl]at e
    rw[e];have hm:=hF.mono s1;refine⟨hm.size,fun t=>?_,hm.df⟩;simp only[Fr.put]
    split
    ·rename_i ht;subst ht;have h0:=hF.s t;have e0:(G9 ⟨l,df⟩).s t= .ref id 0:=Kd l t _ hl (fun _ _ _ h=>by cases h)
     rw[e0]at h0
     exact(hv _ _ h0).erefLe hle
    exact hm.s t
   obtain⟨g2,l2,H2,s2,r⟩:=Bu none ds _ _ g1 k (fun _ _ _ _ h=>by cases h) hR1 hF1 h;exact⟨g2,l2,H2,s1.trans s2,r⟩
  ·rename_i id lo n hl;obtain⟨sz,xs,ys,hk,hle,h⟩:=h;obtain⟨g1,s1,hR1,hv0⟩:=hR.freezeArr hk;have hv:∀v,VR g1 w v (.own id lo n)→VR g1 w v (.sl ys .ro):=fun v hv1=>(hv0 v lo n hv1).le (.sl _ hle)
   have hF1:FR nt g1 w a (G9 ⟨(d,.v (.sl ys .ro))::l,df⟩):=by
    have e:=M6 (df:=df) l (some d) (.v (.sl ys .ro))
    rw[show CW (some d) (.v (.sl ys .ro)) l=(d,Sl.v (.sl ys .ro))::l from rfl]at e
    rw[e];have hm:=hF.mono s1;refine⟨hm.size,fun t=>?_,hm.df⟩;simp only[Fr.put]
    split
    ·rename_i ht;subst ht;have h0:=hm.s t;have e0:(G9 ⟨l,df⟩).s t= .own id lo n:=Kd l t _ hl (fun _ _ _ h=>by cases h)
     rw[e0]at h0
     exact hv _ h0
    exact hm.s t
   obtain⟨g2,l2,H2,s2,r⟩:=Bu (some (id,lo,n,ys)) ds _ _ g1 k (fun _ _ _ _ h=>by simp_all) hR1 hF1 h;exact⟨g2,l2,H2,s1.trans s2,r⟩
  ·exact Bu none ds _ _ g k (fun _ _ _ _ h=>by cases h) hR hF h
  grind
theorem Vd (hT:IM P T) {G:List (Nat×Bool)} {o:Oper} {l:Fl} {H:A1} {k:Sl→Prop} (ht:Ke G o l=true) (h:xq (G7 P nt rd) T G o l H k):∃s,k s:=by
 unfold Ke at ht
 unfold xq at h
 split at ht<;>rename_i ho<;>try simp only[ho]at h
 ·grind
 ·grind
 ·split at h
  ·grind
  ·grind
  ·obtain⟨s,_,_,hk⟩:=NL h;grind
  grind
 ·obtain⟨_,_,hk⟩:=JC hT h;grind
 ·obtain⟨_,_,hk⟩:=HL hT h;grind
 ·obtain⟨_,_,hk⟩:=LW hT h;grind
 ·obtain⟨_,_,hk⟩:=LX hT h;grind
 ·obtain⟨_,_,hk⟩:=OP hT h;grind
 ·obtain⟨_,_,hk⟩:=QS h;grind
 ·split at h
  ·grind [JA]
  grind
 ·split at h
  ·split at h
   ·rename_i hid;obtain⟨_,_,hk⟩:=NM hT hid h;grind
   obtain⟨_,_,hk⟩:=II hT h;grind
  grind
 cases ht
theorem RK (hT:IM P T) {G:List (Nat×Bool)} {o:Oper} {l:Fl} {H:A1} {k:Sl→A1→Prop} (ht:Ke G o l=true) (h:YY (G7 P nt rd) T A G o l H k):∃s,k s H:=by
 have key:xq (G7 P nt rd) T G o l H (fun s=>k s H)→∃s,k s H:=fun h=>Vd hT ht h
 unfold Ke at ht
 unfold YY at h
 split at ht<;>rename_i ho<;>try simp only[ho]at h
 all_goals try exact key h
 ·grind
 ·grind
 ·split at h
  ·split at h
   ·split at h
    ·obtain⟨_,_,_,h⟩:=h;grind
    grind
   grind
  grind
 ·grind
 cases ht
end
end Go.Ab
namespace Go.Ab
open Go.RowKit
variable [K9][Ar]
section
variable {P:Program}{nt:Nat}{rd:Option Nat}{T:FQ}{A:Nat→Bool}{Z:Nat→List Nat}{df:List Nat}
theorem VT {o o2:Oper}{d:Nat}{t t2:TypeId}{x:Operand}(h:VU A o o2=some (d,t,t2,x)):
 o.op= .alloc t∧o.dst=some d∧o.guard=none∧o2.op= .store t2 (.tmp d) x∧o2.dst=none∧o2.guard=none∧x≠ .tmp d:=by
 unfold VU at h
 grind [Nat.eq_of_beq_eq_true]
theorem Ve (hT:IM P T) {ops:Array Oper} {r:Option Nat} {K:Fl→A1→Prop} {Q:Exit→Act→World→Prop} {g0:Gh} {w0:World}
 (hQ:∀g w a l H,U1 g0 w0 g w→Rl g H w→FR nt g w a (G9 ⟨l,df⟩)→K l H→Q .normal a w):
 ∀(m i:Nat) (l:Fl) (H:A1),i+m=ops.size→LU (G7 P nt rd) T nt A Z ops (ops.toList.drop i) l H K→∀g w a,U1 g0 w0 g w→Rl g H w→FR nt g w a (G9 ⟨l,df⟩)→wpOpsIn (Fw r) 0 P ops Q (List.range' i m) a w:=by
 intro m
 induction m using Nat.strongRecOn with
 |_ m ih=>
 intro i l H hi h g w a s hR hF
 cases m with
 |zero=>
  have:ops.toList.drop i=[]:=by simp;omega
  rw[this]at h
  unfold LU at h
  exact hQ g w a l H s hR hF h
 | succ m=>
  have hlt:i<ops.toList.length:=by simp;omega
  have hlt':i<ops.size:=by omega
  have hdrop:=Aa hlt
  rw[hdrop]at h
  simp only[Js]at h
  generalize ho:ops[i]=o at h
  simp only[Ji,wpOpsIn,Ac hlt',ho]
  unfold LU at h
  split at h
  ·exact h.elim
  rename_i hd;obtain⟨g1,l1,H1,s1,hR1,hF1,h⟩:=Bu (df:=df) none _ _ _ _ _ (fun _ _ _ _ h=>by cases h) hR hF h;replace s:=s.trans s1;clear s1 hR hF
  revert h hF1 hR1 s
  generalize l1=l,H1=H,g1=g;intro hR hF h s
  have guarded:∀{rest:List Oper},FY nt o.dst=true→rest=ops.toList.drop (i+1)→
   Gu (G7 P nt rd) ops o 4 l (fun G l' wr=>YY (G7 P nt rd) T A G o l' H fun s H'=>LU (G7 P nt rd) T nt A Z ops rest (CW o.dst (wr s) l') H' K) (fun l'=>LU (G7 P nt rd) T nt A Z ops rest (CW o.dst (.v (.tup [])) l') H K)→
   if Region.wanted o (yielded ops a.tmps)then o.wpIn (Fw r) 0 P a w (wpOpsIn (Fw r) 0 P ops Q (List.range' (i+1) m)) Q else(∀f,o.about P w a.eval=some f→(Fw r).fn f)∧wpOpsIn (Fw r) 0 P ops Q (List.range' (i+1) m) (a.put o.dst undef) w:=by
   intro rest hd hrest h;subst hrest;obtain⟨l',e,h⟩:=DU (df:=df) 4 l h
   have ef:G9 ⟨l',df⟩=G9 ⟨l,df⟩:=by simp_all[G9]
   have hF':FR nt g w a (G9 ⟨l',df⟩):=ef▸hF
   rcases h with⟨hgv,G,wr,hG,hwr,h⟩|⟨hgv,h⟩
   ·have hw:Region.wanted o (yielded ops a.tmps)=true:=W2 hF.s hgv;rw[A2 hw];refine QU (A:=A) hR hF' hd (MP (df:=df) hT hG h) fun g' w' a' v H' s' hR' hF2 ⟨sl,hv,hK⟩=>?_;subst hv
    rw[←hwr sl,←M6]at hF2
    exact ih m (by omega) (i+1) _ _ (by omega) hK g' w' a' (s.trans s') hR' hF2
   have hw:Region.wanted o (yielded ops a.tmps)=false:=W2 hF.s hgv;rw[A3 (by rw[hw];simp)];refine⟨fun _ _=>trivial,?_⟩;have hput:FR nt g w (a.put o.dst undef) ((G9 ⟨l',df⟩).put o.dst (.tup [])):=hF'.put (Ej hd) (VR.und _ _)
   rcases h with h|⟨G,d,want,ht,hb,h⟩
   ·refine ih m (by omega) (i+1) _ _ (by omega) h g w _ s hR ?_;rw[M6];exact hput
   obtain⟨sl,h⟩:=RK hT ht h;refine ih m (by omega) (i+1) _ _ (by omega) h g w _ s hR ?_;rw[M6]
   simp_all[XE]
  split at h
  ·rename_i hrest;refine guarded hd hrest.symm ?_
   have e:(fun(G:List (Nat×Bool)) (l':Fl) (wr:Sl→Sl)=>YY (G7 P nt rd) T A G o l' H fun s H'=>LU (G7 P nt rd) T nt A Z ops [] (CW o.dst (wr s) l') H' K)=fun G l' wr=>YY (G7 P nt rd) T A G o l' H fun s H'=>K (CW o.dst (wr s) l') H':=by
    funext G l' wr
    have:(fun s H'=>LU (G7 P nt rd) T nt A Z ops [] (CW o.dst (wr s) l') H' K)=fun s H'=>K (CW o.dst (wr s) l') H':=by
     funext s H';unfold LU;rfl
    rw[this]
   have e2:(fun l'=>LU (G7 P nt rd) T nt A Z ops [] (CW o.dst (.v (.tup [])) l') H K)=fun l'=>K (CW o.dst (.v (.tup [])) l') H:=by
    funext l';unfold LU;rfl
   rw[e,e2];exact h
  rename_i o2 rest' hrest
  split at h
  ·rename_i d t t2 x hp;obtain⟨p1,p2,p3,p4,p5,p6,p7⟩:=VT hp
   have hw:∀y,Region.wanted o y=true:=fun y=>by simp[Region.wanted,p3]
   rw[A2 (hw _)]
   split at h
   ·rename_i cs hcs
    unfold Aq4 at hcs
    split at hcs
    ·rename_i I I2 hI hI2
     split at hcs
     ·rename_i z hz
      have ez:=(G5 hT hI).ze;rw[hz]at ez;simp only[BF]at ez
      split at hcs
      ·rename_i hc;obtain⟨c1,c2,c3,c4⟩:=hc;cases hcs
       have hlen:i+1<ops.toList.length:=by
        grind
       have hlen':i+1<ops.size:=by omega
       have hdrop2:=Aa hlen
       rw[hrest,Js]at hdrop2
       have ho2:ops[i+1]=o2:=by simp_all
       have hr2:rest'=ops.toList.drop (i+2):=by simp_all
       rw[hr2]at h
       obtain⟨m',rfl⟩:∃m',m=m'+1:=⟨m - 1,by omega⟩
       refine QU (A:=A) (K:=fun v H'=>∃id,v= .ref id 0∧H id=none∧H'=upd H id (some (.cells z.cells))) hR hF hd (by
        simp only[GO,p1]
        exact .inl ⟨z,ez,c1,fun id hid=>⟨_,.refl _,id,rfl,hid,rfl⟩⟩) fun g1 w1 a1 v H1 s1 hR1 hF1 hK1=>?_
       obtain⟨id,rfl,hid,rfl⟩:=hK1;simp only[Ji,wpOpsIn,Ac hlen',ho2];rw[A2 (by simp[Region.wanted,p6])]
       have hev:ev ((G9 ⟨l,df⟩).put o.dst (.ref id 0)) x=(Q3 [] l x).V:=by
        rw[Ds (df:=df) IP.nil,p2]
        cases x with
        |tmp t=>
         have:t≠d:=fun e=>p7 (by rw[e])
         grind [ev,Fr.put]
        |const _=>rfl
        |global _=>rfl
        |func _=>rfl
       have hev2:ev ((G9 ⟨l,df⟩).put o.dst (.ref id 0)) (.tmp d)= .ref id 0:=by rw[p2];simp[ev,Fr.put]
       refine QU (A:=A) (K:=fun v H'=>H'=upd (upd H id (some (.cells z.cells))) id (some (.cells (S7 z.cells 0 (Q3 [] l x).V.cells)))) hR1 hF1 (by rw[p5];rfl) (by
        simp only[GO,p4];refine .inl ⟨_,_,.refl _,?_,rfl⟩;simp only[Lm,(G5 hT hI2).sz,hev,hev2,C8]
        rw[A2 ⟨c2,c3,by omega⟩]) fun g2 w2 a2 v2 H2 s2 hR2 hF2 hK2=>?_
       subst hK2;obtain⟨g3,s3,hR3,hv3⟩:=hR2.freeze (C8 _ _ _)
       rw[X1,Tf _ _ _ hid]at hR3
       refine ih m' (by omega) (i+2) _ H (by omega) h g3 w2 a2 (((s.trans s1).trans s2).trans s3) hR3 ?_
       rw[p5,p2]at hF2
       have hF3:=hF2.mono s3;have e1:=M6 (df:=df) l (some d) (.v (.eref (S7 z.cells 0 (Q3 [] l x).V.cells) 0))
       rw[show CW (some d) (.v (.eref (S7 z.cells 0 (Q3 [] l x).V.cells) 0)) l=(d,.v (.eref (S7 z.cells 0 (Q3 [] l x).V.cells) 0))::l from rfl]at e1
       rw[e1];refine⟨hF3.size,fun q=>?_,hF3.df⟩;have hq:=hF2.s q;have hq3:=hF3.s q
       simp only[Fr.put]at hq hq3 ⊢
       split
       ·rename_i e;rw[A2 e]at hq;exact hv3 _ _ hq
       simp_all
      cases hcs
     cases hcs
    cases hcs
   grind
  simp_all
end
end Go.Ab
namespace Go.Ab
open Go.RowKit
variable [K9]
def NX (c:Array Value)(A sz:Nat)(f:Nat→Value):Array Value:=(c.toList.take A++(List.range sz).map f++c.toList.drop (A+sz)).toArray
theorem PF {c:Array Value}{A sz:Nat}{f:Nat→Value}(h:A+sz≤c.size):(NX c A sz f).size=c.size:=by simp[NX];omega
theorem Am0 {c:Array Value} {A sz:Nat} {f f':Nat→Value} (h:A+sz≤c.size):NX (NX c A sz f) A sz f'=NX c A sz f':=by
 have e1:(NX c A sz f).toList.take A=c.toList.take A:=by
  simp only[NX,E7];rw[Ih (by simp;omega),List.take_take];simp
 have e2:(NX c A sz f).toList.drop (A+sz)=c.toList.drop (A+sz):=by
  simp only[NX];rw[List.drop_append_of_le_length (by simp;omega)];rw[NA (by simp;omega)];simp
 unfold NX at e1 e2 ⊢
 rw[e1,e2]
theorem Xh {c:Array Value}{A sz:Nat}{f:Nat→Value}(h:A+sz≤c.size){k:Nat}(hk:k<c.size):(NX c A sz f)[k]? =if A≤k∧k<A+sz then some (f (k - A))else c[k]? :=by
 have:=(Xf (vs:=(List.range sz).map f) (m:=sz) (A:=A) (c:=c) (by simp) h rfl).2 k hk;rw[show NX c A sz f=(c.toList.take A++(List.range sz).map f++c.toList.drop (A+sz)).toArray from rfl,this]
 split
 ·rename_i hc;rw[Z8,Fk (by omega)];rfl
 rfl
theorem QF (w:World)(b:Nat)(c c':Array Value):(w.setRow b c).setRow b c'=w.setRow b c':=by
 simp only[World.setRow,IX,I9];apply Fa
 ·simp
 intro i h1 h2;simp only[Jr]
 split
 ·cases w.heap[i]'(by simpa using h1)<;>rfl
 rfl
theorem TB (w:World){b b':Nat}(c c':Array Value)(h:b≠b'):(w.setRow b c).setRow b' c'=(w.setRow b' c').setRow b c:=by
 simp only[World.setRow,IX,I9];apply Fa
 ·simp
 intro i h1 h2;simp only[Jr]
 by_cases e1:b=i<;>by_cases e2:b'=i
 ·omega
 ·simp[e1,e2]
 ·simp[e1,e2]
 simp[e1,e2]
theorem SQ (w:World)(C C':Array Value)(e:TypeId):(w.alloc (.cells C e)).setRow w.heap.size C'=w.alloc (.cells C' e):=by
 simp only[World.alloc,World.setRow,IX,I9];apply Fa
 ·simp
 intro i h1 h2;simp only[Jr,Array.getElem_push]
 have:i<w.heap.size+1:=by simpa using h2
 by_cases e:w.heap.size=i
 ·subst e;simp
 rw[A3 e]
 have:i<w.heap.size:=by omega
 simp[this]
section
variable {P:Program}{H:A1}
theorem JF {w:World} {b A sz:Nat} {c:Array Value} {T:TypeId} {f:Nat→Value} (hw:w.heap[b]? =some (.cells c T (0,0))) (h:A+sz≤c.size) (hf:∀j,j<sz→(f j).oneCell'=true):
 (storeCells ⟨b,A,none⟩ ((List.range sz).map f)).run P w= .ok () (w.setRow b (NX c A sz f)):=by
 have:=run_storeCells_at P b A T ((List.range sz).map f) 0 c w hw (by simp;omega) (by
  intro v hv;obtain⟨k,hk,rfl⟩:=List.mem_map.1 hv
  exact hf k (List.mem_range.1 hk))
 simpa[NX]using this
theorem Wq {g:Gh} {w:World} (hR:Rl g H w) {sT yT e ty:TypeId} {sz by_:Nat} {z:V} {xs:List V} {tl:E5} {vs:Value} (hvs:VR g w vs (.sl xs tl)) (he:Ev P sT=some e) (hyT:(Ev P yT).isSome=true) (hsz:DS P e=some sz) (hpos:0<sz) (hby:Nr P e=some by_) (hbp:0<by_)
 (hz:Hi P e=some z) (hz1:z.one=true) (hzl:z.cells.length=sz) (hA:Gd H tl) (hax:xs.all (fun x=>x.cells.length==sz)=true) (hbound:(xs.length+1)*by_≤140737488355328):
 ∃ (b off G:Nat) (W:(Nat→Value)→World) (C:(Nat→Value)→Array Value) (T:TypeId),
  (∀(y0:V) (tl':E5) (vy:Value),VR g w vy (.sl [y0] tl')→y0.cells.length=sz→∃f0,(∀j,j<sz→(f0 j).oneCell'=true)∧(Builtin.append_ #[sT,yT] ty #[vs,vy]).run P w= .ok (.slice (some ⟨b,off,none⟩) (xs.length+1) G) (W f0))∧
  xs.length+1≤G∧
  (∀f,(W f).heap[b]? =some (.cells (C f) T (0,0))∧off+xs.length*sz+sz≤(C f).size)∧
  (∀f f',(W f).setRow b (NX (C f) (off+xs.length*sz) sz f')=W f')∧
  (∀x,x≠b→x<w.heap.size→∀f,(W f).heap[x]? =w.heap[x]?)∧
  (∀id x,g.at (F9 H tl) id=some x→x≠b)∧
  (∀(vV:V) (f:Nat→Value),vV.cells.length=sz→(∀j,j<sz→(f j).oneCell'=true∧VR g w (f j) (vV.cells.getD j .bad))→
   ∃g' t,U1 g w g' (W f)∧F9 H tl t=none∧Rl g' (upd (F9 H tl) t (some .spare)) (W f)∧VR g' (W f) (.slice (some ⟨b,off,none⟩) (xs.length+1) G) (.sl (xs++[vV]) (.tok t))):=by
 obtain⟨base,cap,fs,es,hcap,hfs,hrs,hbs⟩:=DJ (P:=P) hvs hax;have hu:=O4 he;obtain⟨e',hyT'⟩:=Option.isSome_iff_exists.1 hyT;have huy:=O4 hyT';obtain⟨zv,ez,hzv⟩:=CB hz
 have hzr:VR g w zv z:=by rw[ez];exact Du g w zv
 have hzs:zv.cells.size=sz:=by rw[(hzr.cells hz1).1,hzl]
 have hbytes:∀w,(typeInfo e).run P w= .ok ((P.info? e).getD default) w∧((P.info? e).getD default).bytes=by_:=by
  intro w
  unfold Nr at hby
  cases hi:P.info? e with
  |none=>simp[hi]at hby
  |some i=>simp[hi]at hby;simp[typeInfo,hi,hby]
 have hbi:∀w,(typeInfo e).run P w= .ok ((P.info? e).getD default) w:=fun w=>(hbytes w).1;have hbb:=(hbytes w).2;have hR1:Rl g (F9 H tl) w:=hR.less fun id b hb=>Ek hb;have hlenx:=Fy hax
 have hlenxy:∀(vV:V),vV.cells.length=sz→∀i,i<xs.length+1→((xs++[vV]).getD i .bad).cells.length=sz:=fun vV hv i hi=>by
  rw[Fz];split
  ·exact hlenx i (by assumption)
  rw[show i - xs.length=0 by omega];exact hv
 have hsrc:∀(y0:V) (tl':E5) (vy:Value),VR g w vy (.sl [y0] tl')→y0.cells.length=sz→∃ybase ycap f0,vy= .slice ybase 1 ycap∧(∀j,j<sz→(f0 j).oneCell'=true)∧
  ∀w':World,(∀b o,w'.cell? ⟨b,o,none⟩=w.cell? ⟨b,o,none⟩)→(Builtin.firstCells sz 1 vy).run P w'= .ok ((List.range sz).map f0).toArray w':=fun y0 tl' vy hvy hy0=>by
  obtain⟨ybase,ycap,fy,ey,_,hfy,hry,_⟩:=DJ (P:=P) (sz:=sz) hvy (by simp[hy0]);refine⟨ybase,ycap,fun j=>fy 0 j,ey,fun j hj=>(hfy 0 j (by simp) hj).1,fun w' hw'=>?_⟩;have:=hry w' hw'
  simp only[Gr,Au]at this
  rw[this];refine O8 (fun l:List Value=>Result.ok l.toArray w') (Cb fun k hk=>?_);have hk':=List.mem_range.1 hk;rw[Jg hk',Nat.mod_eq_of_lt hk']
 have hvals:∀(vV:V) (f:Nat→Value),(∀j,j<sz→(f j).oneCell'=true∧VR g w (f j) (vV.cells.getD j .bad))→∀(g':Gh) (w':World),U1 g w g' w'→∀i j,i<xs.length+1→j<sz→(if i<xs.length then fs i j else f j).oneCell'=true∧
  VR g' w' (if i<xs.length then fs i j else f j) (((xs++[vV]).getD i .bad).cells.getD j .bad):=by
  intro vV f hf g' w' st i j hi hj;rw[Fz]
  split
  ·rename_i hlt;exact⟨(hfs i j hlt hj).1,(hfs i j hlt hj).2.mono st⟩
  rw[show i - xs.length=0 by omega];exact⟨(hf j hj).1,(hf j hj).2.mono st⟩
 have hn63:¬(IntKind.i64.max<((xs.length+1:Nat):Int)∧(False∨by_=0)):=by
  rintro⟨_,hF|hF⟩
  ·exact hF
  omega
 by_cases hc:xs.length+1≤cap
 ·
  rcases hbs with⟨hx0,hc0|hc0,_⟩|⟨b,q,hbase,hcell,_,sz',hsz',htl⟩
  ·subst hx0;simp at hc;omega
  ·subst hc0;exact hA.elim
  cases tl with
  |nil=>exact htl.elim
  |ro=>exact hA.elim
  |full=>simp only[FT]at htl;omega
  | tok t=>
   obtain⟨hn0,lim,ht1,ht2⟩:=htl;have:=hsz' hn0;subst this;have hA':H t=some .spare:=hA;obtain⟨b2,e2,lim2,c,T,k1,k2,k3,k4,k5,k6⟩:=hR.blk t _ hA'
   rw[ht1]at k1
   simp only[D9,X6]at k1
   obtain⟨rfl,rfl,rfl⟩:=k1;have hcapsz:(xs.length+1)*sz'≤cap*sz':=J3 _ hc
   have hadd:(xs.length+1)*sz'=xs.length*sz'+sz':=by rw[G2,Au]
   have hfit:q+xs.length*sz'+sz'≤c.size:=by omega
   have hnown:∀id x,g.at (F9 H (.tok t)) id=some x→x≠b:=by
    rintro id x hid rfl
    have hat:g.at H t=some x:=by simp[Gh.at,hA',ht1]
    by_cases hid':id=t
    ·subst hid';simp[Gh.at,F9,C8]at hid
    have:g.at H id=some x:=by simpa only[Gh.at,F9,C1 _ _ hid']using hid
    exact hid' (hR.inj _ _ _ this hat)
   refine⟨b,q,cap,fun f=>w.setRow b (NX c (q+xs.length*sz') sz' f),fun f=>NX c (q+xs.length*sz') sz' f,T,fun y0 tl' vy hvy hy0=>?_,hc,fun f=>?_,fun f f'=>?_,fun x hx _ f=>O5 w b _ x hx,hnown,fun vV f hv hf=>?_⟩
   ·obtain⟨ybase,ycap,f0,ey,hf0,hry⟩:=hsrc y0 tl' vy hvy hy0;refine⟨f0,hf0,?_⟩;have hst:=JF (P:=P) (f:=f0) k3 hfit hf0;have hry':=hry w fun _ _=>rfl
    rw[ey]at hry' ⊢
    rw[es,hbase]
    simp only[Builtin.append_,B5,run_underlying hu,B2,N6 hsz,run_underlying huy,B9,Builtin.lenOf,U8,O2,
     X9,Q8,F6,E3,Z7,C7,A2 hc,hry',Y3,hst]
   ·exact⟨setRow_heap w b c _ T (0,0) k3,by rw[PF hfit];exact hfit⟩
   ·rw[QF,Am0 hfit]
   dsimp only
   have hCg:∀k,k<c.size→(NX c (q+xs.length*sz') sz' f)[k]? =if q+xs.length*sz'≤k∧k<q+xs.length*sz'+sz' then some (f (k - (q+xs.length*sz')))else c[k]? :=fun k hk=>Xh hfit hk
   generalize hC:NX c (q+xs.length*sz') sz' f=C at hCg
   have hCs:C.size=c.size:=by rw[←hC];exact PF hfit
   have hcellp:∀x o,g.fz x o→(w.setRow b C).cell? ⟨x,o,none⟩=w.cell? ⟨x,o,none⟩:=by
    intro x o hf
    by_cases hx:x=b
    ·subst hx
     have ho:o<q+xs.length*sz':=by
      rcases H6 o (q+xs.length*sz')with h|h
      ·exact h
      exact absurd hf (k6 o h)
     have hw':(w.setRow x C).heap[x]? =some (.cells C T (0,0)):=setRow_heap w x c C T (0,0) k3;simp only[World.cell?,hw',k3,Ey,F6,E3];rw[hCg o (by omega),A3 (by omega)]
    exact BW w b C x o hx
   have hbel:Below g.base w (w.setRow b C):=Gj w b C k2
   have hRn:=Rl.tok (e0:=q+xs.length*sz') (e:=q+(xs.length+1)*sz') (lim:=c.size) hR1 k2 (setRow_heap w b c C T (0,0) k3) hCs (by omega) k6 (by omega) hcellp hbel
    (fun x hx _=>O5 w b C x hx) (fun id hid=>hnown id _ hid rfl)
   have hStp:=U1.tok hR1 b (q+xs.length*sz') (q+(xs.length+1)*sz') c.size hcellp hbel;refine⟨_,g.nx,hStp,(hR1.nxt _ (D1 _)).2.2,hRn,?_⟩
   refine .sl (sz:=sz') (fun i j=>if i<xs.length then fs i j else f j) (by simp) hc (fun i hi=>hlenxy vV hv i hi) (fun i j hi hj=>?_) (fun i j hi hj=>?_)
    (fun i j hi hj=>(hvals vV f hf _ _ hStp i j hi hj).1) (fun i j hi hj=>(hvals vV f hf _ _ hStp i j hi hj).2) ?_
   ·by_cases hix:i<xs.length
    ·exact .inl (hcell i j hix hj).1
    have h2:=CY hi hj;have h1:xs.length*sz'≤i*sz':=J3 _ (by omega);exact .inr ⟨rfl,by omega,by omega⟩
   ·have h2:=CY hi hj;have hw':(w.setRow b C).heap[b]? =some (.cells C T (0,0)):=setRow_heap w b c C T (0,0) k3
    by_cases hix:i<xs.length
    ·rw[A2 hix];exact(hcellp b _ (hcell i j hix hj).1).trans (hcell i j hix hj).2
    rw[A3 hix]
    have h1:i=xs.length:=by omega
    subst h1;simp only[World.cell?,hw',Ey,F6,E3];rw[hCg _ (by omega),A2 (by omega),show q+xs.length*sz'+j - (q+xs.length*sz')=j by omega]
   refine⟨by omega,c.size,?_,by omega⟩;simp[Gh.tok]
 have hnf:¬(2 ^ 48<Builtin.nextslicecap (xs.length+1) cap*by_):=by
  have:=growslice_fits (GX hc) hbound;omega
 have hdr:∀b o,w.drew.cell? ⟨b,o,none⟩=w.cell? ⟨b,o,none⟩:=fun _ _=>rfl;generalize hG:grownCap w (xs.length+1) cap e=G
 have hGe:xs.length+1≤G:=by rw[←hG];exact grownCap_ge w _ _ _
 have hGs:(xs.length+1)*sz≤G*sz:=J3 _ hGe
 have hadd:(xs.length+1)*sz=xs.length*sz+sz:=by rw[G2,Au]
 generalize hO:((List.range (xs.length*sz)).map fun k=>fs (k / sz) (k % sz))=O at *
 have hOl:O.length=xs.length*sz:=by rw[←hO];simp
 generalize hZ:Builtin.zeroCells zv.cells (G - (xs.length+1))=Z at *
 have hZs:Z.size=G*sz - (xs.length+1)*sz:=by rw[←hZ,size_zeroCells,hzs,Bi]
 have hCs:∀f:Nat→Value,(O.toArray++((List.range sz).map f).toArray++Z).size=G*sz:=fun f=>by
  simp only[Jn,Fh,Q7,S5,hOl,hZs];omega
 have hCg:∀(f:Nat→Value) k,k<(xs.length+1)*sz→(O.toArray++((List.range sz).map f).toArray++Z)[k]? =some (if k<xs.length*sz then fs (k / sz) (k % sz)else f (k - xs.length*sz)):=by
  intro f k hk;rw[Gq,A2 (by simp[hOl];omega),Gq];simp only[Fh,hOl,O2,Z8]
  split
  ·rw[←hO,Z8,Fk (by assumption)];rfl
  rw[Fk (by omega)];rfl
 refine⟨w.heap.size,0,G,fun f=>w.drew.alloc (.cells (O.toArray++((List.range sz).map f).toArray++Z) e),fun f=>O.toArray++((List.range sz).map f).toArray++Z,e,fun y0 tl' vy hvy hy0=>?_,hGe,fun f=>⟨Aw (w:=w.drew),by rw[hCs];omega⟩,fun f f'=>?_,
  fun x hx hlt f=>heap_alloc (w:=w.drew) hlt,fun id x hid e=>absurd (e▸hR1.lt hid) (Q6 _),fun vV f hv hf=>?_⟩
 ·obtain⟨ybase,ycap,f0,ey,hf0,hry⟩:=hsrc y0 tl' vy hvy hy0;refine⟨f0,hf0,?_⟩;have hGd:(Question.appendCap (xs.length+1) cap e).cut (w.tape w.drawn (.appendCap (xs.length+1) cap e))=G:=hG;have hf:(Question.appendCap (xs.length+1) cap e).forced=false:=rfl;have hrs':=hrs w.drew hdr;have hry':=hry w.drew hdr
  rw[es]at hrs' ⊢;rw[ey]at hry' ⊢
  simp only[Builtin.append_,B5,run_underlying hu,B2,N6 hsz,run_underlying huy,B9,Builtin.lenOf,U8,hbi,hbb,O2,
   X9,Q8,F6,E3,Z7,C7,gt_iff_lt,false_or,A3 hc,A3 hnf,run_choose,hf,hGd,GS,run_askRoom,hrs',hry',hzv,newRow,run_newObj,
   DC,GW,hO,hZ]
  rw[A3 (by simpa using hn63)]
 ·rw[show w.heap.size=w.drew.heap.size from rfl,SQ]
  congr 2
  apply Array.ext';simp only[NX,U9,Array.toList_append,List.toList_toArray,E7];rw[Ih (by omega),P7 (by omega),show xs.length*sz+sz=O.length+sz by omega,←Fb,List.drop_left]
  congr 1
  congr 1
  exact List.drop_left' (by simp)
 have hcellp:∀x o,g.fz x o→(w.drew.alloc (.cells (O.toArray++((List.range sz).map f).toArray++Z) e)).cell? ⟨x,o,none⟩=w.cell? ⟨x,o,none⟩:=fun x o hf=>Cx (w:=w.drew) (hR.fz_lt hf);have hbel:Below g.base w (w.drew.alloc (.cells (O.toArray++((List.range sz).map f).toArray++Z) e)):=(U7 _ _).drew.alloc hR.bnd _
 have hnown:∀id,g.at (F9 H tl) id≠some w.heap.size:=fun id hid=>absurd (hR1.lt hid) (Q6 _)
 have hRn:=Rl.tok (e0:=0) (e:=(xs.length+1)*sz) (lim:=G*sz) hR1 hR.bnd (Aw (w:=w.drew) (o:=.cells (O.toArray++((List.range sz).map f).toArray++Z) e)) (hCs f) hGs (fun o _ hf=>absurd (hR.fz_lt hf) (Q6 _)) (Ci _) hcellp hbel
  (fun x hx hlt=>heap_alloc (w:=w.drew) hlt) hnown
 have hStp:=U1.tok hR1 w.heap.size 0 ((xs.length+1)*sz) (G*sz) hcellp hbel;refine⟨_,g.nx,hStp,(hR1.nxt _ (D1 _)).2.2,hRn,?_⟩
 refine .sl (sz:=sz) (fun i j=>if i<xs.length then fs i j else f j) (by simp) hGe (fun i hi=>hlenxy vV hv i hi) (fun i j hi hj=>.inr ⟨rfl,Ci _,by have:=CY hi hj;omega⟩) (fun i j hi hj=>?_)
  (fun i j hi hj=>(hvals vV f hf _ _ hStp i j hi hj).1) (fun i j hi hj=>(hvals vV f hf _ _ hStp i j hi hj).2) ?_
 ·have h2:=CY hi hj;rw[show(⟨w.heap.size,0+i*sz+j,none⟩:Addr)=⟨w.drew.heap.size,i*sz+j,none⟩ by simp];rw[MG (w:=w.drew),hCg f _ h2]
  congr 1
  by_cases hix:i<xs.length
  ·have h3:=CY hix hj;rw[A2 h3,A2 hix,(P9 hj).1,(P9 hj).2]
  have h1:i=xs.length:=by omega
  subst h1;rw[A3 (by omega),A3 hix,show xs.length*sz+j - xs.length*sz=j by omega]
 refine⟨by omega,G*sz,?_,by simp⟩;simp[Gh.tok]
end
end Go.Ab
namespace Go.Ab
open Go.RowKit
variable [K9][Ar]
section
variable {P:Program}{nt:Nat}{ops:Array Oper}{H0:A1}
def HW (A:Nat→Bool):List Nat→Pv→Fr→A1→(Fr→A1→Prop)→Prop
 |[],_,fr,H,K=>K fr H
 |d::ds,pv,fr,H,K=>
  match pv (.inl d)with
  |some cs=>if A d then∀id,H id=none→HW A ds pv (fr.put (some d) (.ref id 0)) (upd H id (some (.cells cs))) K else HW A ds pv (fr.put (some d) (.eref cs 0)) H K
  |none=>False
theorem Py {A:Nat→Bool} {w:World} {a:Act} {ids:Pk→Nat} {pv:Pv} {K:Fr→A1→Prop} (hinj:∀d d' cs cs',pv d=some cs→pv d'=some cs'→d.var=true→d'.var=true→ids d=ids d'→d=d'):
 ∀(ds:List Nat) (fr:Fr) (g:Gh) (H H1:A1),Rl g H w→ds.Nodup→(∀d∈ds,∀cs,pv (.inl d)=some cs→H (ids (.inl d))=some (.cells cs)∧∃b,g.mu (ids (.inl d))=some b∧a.tmps.getD d undef= .pointer (some ⟨b,0,none⟩))→
  (∀id b,H1 id=some b→H id=some b)→(∀d∈ds,∀cs,pv (.inl d)=some cs→H1 (ids (.inl d))=none)→FR nt g w a fr→HW A ds pv fr H1 K→∃g' fr' H',U1 g w g' w∧Rl g' H' w∧FR nt g' w a fr'∧K fr' H'
 |[],fr,g,H,H1,hR,_,_,hl,_,hF,h=>⟨g,fr,H1,U1.refl _ _,hR.less hl,hF,h⟩
 | d::ds,fr,g,H,H1,hR,hnd,hpv,hl,hfr,hF,h=>by
  simp only[HW]at h
  have hnd':=List.nodup_cons.1 hnd
  split at h
  ·rename_i cs hcs;obtain⟨k1,b,k2,k3⟩:=hpv d (by simp) cs hcs
   split at h
   ·refine Py hinj ds _ g H _ hR hnd'.2 (fun d' hd'=>hpv d' (by simp[hd'])) (fun id bk hb=>?_) (fun d' hd' cs' hp=>?_) ?_ (h (ids (.inl d)) (hfr d (by simp) cs hcs))
    ·grind [upd]
    ·grind [upd,Pk.var]
    refine⟨hF.size,fun t=>?_,hF.df⟩;simp only[Fr.put]
    split
    ·rename_i e;subst e;rw[k3];exact .ref k2
    exact hF.s t
   obtain⟨g',s,hR',hv⟩:=hR.freeze k1;have hF':=hF.mono s
   have e1:∀d'∈ds,∀cs',pv (.inl d')=some cs'→(upd H (ids (.inl d)) none) (ids (.inl d'))=some (.cells cs')∧∃b,g'.mu (ids (.inl d'))=some b∧a.tmps.getD d' undef= .pointer (some ⟨b,0,none⟩):=fun d' hd' cs' hp=>by
    obtain⟨q1,b',q2,q3⟩:=hpv d' (by simp[hd']) cs' hp;have hne:ids (.inl d')≠ids (.inl d):=fun e=>absurd (hinj _ _ _ _ hp hcs rfl rfl e) fun x=>hnd'.1 (by simp_all);exact⟨by rw[C1 _ _ hne];exact q1,b',s.mu _ _ q2,q3⟩
   have e2:∀id bk,H1 id=some bk→(upd H (ids (.inl d)) none) id=some bk:=fun id bk hb=>by
    have hne:id≠ids (.inl d):=fun e=>by simp_all
    rw[C1 _ _ hne];grind
   have e3:FR nt g' w a (fr.put (some d) (.eref cs 0)):=by
    refine⟨hF'.size,fun t=>?_,hF'.df⟩;simp only[Fr.put]
    split
    ·rename_i e;subst e;rw[k3];exact hv _ _ (.ref k2)
    exact hF'.s t
   obtain⟨g2,fr2,H2,s2,r⟩:=Py hinj ds _ g' _ H1 hR' hnd'.2 e1 e2 (fun d' hd'=>hfr d' (by simp[hd'])) e3 h;exact⟨g2,fr2,H2,s.trans s2,r⟩
  grind
abbrev Tk :=List (Nat×List V)
def pvW (W:Tk)(ex:Option E5):Pv
 | .inl _=>none
 | .inr id=>(W.find? fun p=>p.1==id).map (·.2)
 | .tk _=>none
 | .ex=>ex.map fun τ=>[.sl [] τ]
def HI (H:A1):Option E5→A1
 |some τ=>F9 H τ
 |none=>H
def It (dx:Option Nat)(pv:Pv)(fr:Fr)(H:A1)(K:Fr→A1→Prop):Prop:=
 match dx with
 |none=>K fr H
 |some d=>∃xs,(pv (.tk d)).isSome=true∧fr.s d= .sl xs .ro∧(∀tl,tl= .nil∨tl= .full→K (fr.put (some d) (.sl xs tl)) H)∧∀t,H t=none→K (fr.put (some d) (.sl xs (.tok t))) (upd H t (some .spare))
theorem LK {H:A1} {ex:Option E5} {id:Nat} {b:CT} (h:HI H ex id=some b):H id=some b∧∀t,ex=some (.tok t)→id≠t:=by
 cases ex with
 |none=>simp_all[HI]
 | some τ=>
  cases τ with
  |tok t=>
   simp_all[HI,F9,upd]
  |_=>exact⟨h,fun t ht=>by cases ht⟩
def EQ (H:A1):Tk→A1
 |[]=>H
 |(id,_)::W=>upd (EQ H W) id none
def Rr :Tk→Pv→A1→(A1→Prop)→Prop
 |[],_,H,K=>K H
 |(id,_)::W,pv,H,K=>Rr W pv H fun H'=>match pv (.inr id)with|some cs=>K (upd H' id (some (.cells cs)))|none=>False
theorem JD {H:A1}:∀{W:Tk} {id:Nat} {b:CT},EQ H W id=some b→H id=some b∧∀p∈W,p.1≠id
 |[],id,b,h=>⟨h,fun p hp=>by simp at hp⟩
 |(i,c)::W,id,b,h=>by
  simp only[EQ]at h
  by_cases e:id=i
  ·simp_all[upd]
  rw[C1 _ _ e]at h
  obtain⟨h1,h2⟩:=JD h
  grind
theorem LY {H:A1}:∀{W:Tk} {p:Nat×List V},p∈W→EQ H W p.1=none
 |(i,c)::W,p,h=>by
  simp only[EQ]
  by_cases e:p.1=i
  ·rw[e,C8]
  rw[C1 _ _ e]
  rcases List.mem_cons.1 h with rfl|h
  ·omega
  exact LY h
theorem Ut {Hw:A1} {pv:Pv} (hpv:∀id cs,pv (.inr id)=some cs→Hw id=some (.cells cs)):∀(W:Tk) (H:A1) (K:A1→Prop),(∀id b,H id=some b→Hw id=some b)→Rr W pv H K→∃H',(∀id b,H' id=some b→Hw id=some b)∧(∀id,H' id≠none→H id≠none∨∃cs,pv (.inr id)=some cs)∧K H'
 |[],H,K,hl,h=>⟨H,hl,fun id hn=>.inl hn,h⟩
 |(i,c)::W,H,K,hl,h=>by
  simp only[Rr]at h
  obtain⟨H',h1,h2,h3⟩:=Ut hpv W H _ hl h
  grind [upd]
end
def BB (P:Program)(nt:Nat)(rd:Option Nat)(ops:Array Oper)(fr:Fr)(H:A1)(Q:Exit→Fr→A1→Prop):Prop:=
 ∀r g w a,YK g rd r→Rl g H w→FR nt g w a fr→wpAnyIn (Fw r) 0 P .any ops (Qv nt g w Q) ops.size (Array.replicate ops.size false) a w.drew
theorem S0.of_any {P:Program}{nt id:Nat}{rd:Option Nat}{ops:Array Oper}{fr:Fr}{H:A1}{Q:Exit→Fr→A1→Prop}(hm:P.follows .mixedOrders=true)(h:BB P nt rd ops fr H Q):S0 P nt rd (.region id ops true) fr H Q:=
 fun r g w a hr hR hF=>wpIn_region_any hm (h r g w a hr hR hF)
section
variable {P:Program}{nt:Nat}{ops:Array Oper}{H0:A1}
theorem BB.drawF {A:Qw} {rd:Option Nat} {k:Nat} {al:List Nat} {W:Tk} {ex:Option E5} {dx:Option Nat} {fr:Fr} {Q:Exit→Fr→A1→Prop} (hok:PY ops k=true) (hnd:al.Nodup)
 (hX:∀τ,ex=some τ→Gd H0 τ) (hW:∀p∈W,HI H0 ex p.1=some (.cells p.2))
 (h:Ic P nt ops (EQ (HI H0 ex) W) (ops.toList.take k) fr (pvW W ex) fun fr' pv=>Rr W pv (EQ (HI H0 ex) W) fun H1=>It dx pv fr' H1 fun fr1 H2=>HW A al pv fr1 H2 fun fr'' H=>HB P A nt ops (ops.toList.drop k) fr'' H (Q .normal)):BB P nt rd ops fr H0 Q:=by
 intro r g w a _ hR hF;obtain⟨hk,hat⟩:=YC hok;have sd:U1 g w g w.drew:=⟨fun _ _ e=>e,fun _ _ e=>e,fun _ _ e=>e,rfl,fun _ _ _=>rfl,(U7 _ _).drew,fun _ _ _=>rfl,Dw _⟩
 have hRd:Rl g H0 w.drew:=by
  refine⟨fun id b hb=>(hR.blk id b hb).mono hb sd fun _ _=>⟨rfl,fun _ ho=>ho⟩,hR.inj,hR.frz,hR.nxt,hR.bnd,fun n=>(hR.glb n).mono sd⟩
 have hI:Wu nt (EQ (HI H0 ex) W) g w.drew fr (pvW W ex) g w.drew a:=by
  refine⟨H0,fun k=>match k with| .inl _=>0| .inr n=>n| .tk _=>0| .ex=>0,U1.refl _ _,hRd,hF.mono sd,fun id b hb=>(LK (JD hb).1).1,fun d cs h hv=>?_,fun d d' cs cs' h h' hv hv' e=>?_,fun _=>none,fun d cs h=>(by cases h),fun d d' cs cs' t h=>(by cases h),fun cs h=>?_⟩
  ·cases d with
   |inl d=>cases h
   | inr n=>
    simp only[pvW]at h
    cases hf:W.find? fun p=>p.1==n with
    |none=>rw[hf]at h;cases h
    |some p=>
     rw[hf]at h
     simp only[H8,D9]at h
     have hp:=Ez hf
     have hn:p.1=n:=by have:=Fc hf;simp_all
     subst h;subst hn;exact⟨(LK (hW p hp)).1,LY hp,rfl⟩
   |tk d=>cases h
   |ex=>cases hv
  ·cases d with
   |inl d=>cases h
   |tk d=>cases h
   |ex=>cases hv
   |inr n=>
    cases d' with
    |inl d'=>cases h'
    |tk d'=>cases h'
    |ex=>cases hv'
    |inr n'=>simp_all
  cases hx:ex with
  |none=>rw[hx]at h;cases h
  | some τ=>
   rw[hx]at h
   cases h;refine⟨τ,rfl,?_⟩;have hA:=hX τ hx
   cases τ with
   |nil=>simp_all
   |full=>simp_all
   |ro=>exact hA.elim
   |tok t=>
    refine .inr ⟨t,rfl,hA,?_,fun d cs' h=>by cases h⟩
    cases hn:EQ (HI H0 (some (.tok t))) W t with
    |none=>rfl
    |some b=>grind [LK,JD]
 have hmap:(List.range k).map (fun i=>ops.getD i default)=ops.toList.take k:=by
  apply Jf
  ·simp;omega
  intro i h1 h2
  simp at h1
  simp[Array.getD,show i<ops.size by omega]
 have hb:=Qk (r:=r) (Q:=Qv nt g w Q) hk (fun i hi=>⟨(hat i hi).1,fun j hj=>((hat i hi).2 j hj).imp (fun h=>h) .inl⟩) (K:=fun fr' pv=>Rr W pv (EQ (HI H0 ex) W) fun H1=>It dx pv fr' H1 fun fr1 H2=>HW A al pv fr1 H2 fun fr'' H=>HB P A nt ops (ops.toList.drop k) fr'' H (Q .normal)) (g0:=g) (w0:=w.drew)
  (fun g' w' a' fr' pv listed hsz hl hI' hK=>?_) k (List.range k) (Array.replicate ops.size false) fr (pvW W ex) (by simp) (Nz) (fun i hi=>by grind) (by simp) (fun i b hi=>by simp_all) (fun m j hm _=>by simp[Array.getD]at hm) (by rw[hmap];exact h) g w.drew a hI
 ·rw[show k+(ops.size - k)=ops.size by omega]at hb
  exact hb
 obtain⟨H,ids,s,hR',hF',hext,hpv,hinj,tks,htk,_⟩:=hI'
 have hex:∀n cs,pv (.inr n)=some cs→H n=some (.cells cs):=fun n cs hn=>by
  obtain⟨k1,_,k3⟩:=hpv _ cs hn rfl;have k3:ids (.inr n)=n:=k3
  rwa[k3]at k1
 obtain⟨H1,g1,g2,hK⟩:=Ut hex W _ _ hext hK
 have hfree:∀d cs,pv (.inl d)=some cs→H1 (ids (.inl d))=none:=fun d cs hd=>by
  obtain⟨k1,k2,_⟩:=hpv _ cs hd rfl
  cases hn:H1 (ids (.inl d))with
  |none=>rfl
  |some b=>
   exfalso
   rcases g2 _ (by rw[hn];simp)with h|⟨cs',hp⟩
   ·exact h k2
   have k3:ids (.inr (ids (.inl d)))=ids (.inl d):=(hpv _ cs' hp rfl).2.2;cases hinj _ _ _ _ hp hd rfl rfl k3
 have hmid:∃fr1 H1',FR nt g' w' a' fr1∧(∀id b,H1' id=some b→H id=some b)∧(∀d cs,pv (.inl d)=some cs→H1' (ids (.inl d))=none)∧HW A al pv fr1 H1' fun fr'' H=>HB P A nt ops (ops.toList.drop k) fr'' H (Q .normal):=by
  rcases dx with _|d
  ·exact⟨fr',H1,hF',g1,hfree,hK⟩
  simp only[It]at hK
  obtain⟨xs,e1,e2,e3,e4⟩:=hK;obtain⟨c,hc⟩:=Option.isSome_iff_exists.1 e1;obtain⟨xs',tl,q1,q2,q3⟩:=htk d c hc
  rw[e2]at q1
  cases q1
  have hFR:FR nt g' w' a' (fr'.put (some d) (.sl xs tl)):=by
   refine⟨hF'.size,fun t=>?_,hF'.df⟩;simp only[Fr.put]
   split
   ·simp_all
   exact hF'.s t
  rcases q3 with⟨_,q⟩|⟨t,_,q,q4,q5⟩
  ·grind
  subst q
  have ht:H1 t=none:=by
   grind
  refine⟨_,_,hFR,fun id b hb=>?_,fun d' cs hd'=>?_,e4 t ht⟩
  ·grind [C8,C1]
  have hne:ids (.inl d')≠t:=fun e=>by
   have:=(hpv _ cs hd' rfl).1
   rw[e,q4]at this;cases this
  rw[C1 _ _ hne];simp_all
 obtain⟨fr1,H1',hF1,g1',hfree',hK⟩:=hmid
 obtain⟨g3,fr2,H2,s2,hR2,hF2,hK2⟩:=Py hinj al fr1 g' H H1' hR' hnd (fun d _ cs hd=>by
  obtain⟨k1,_,_,b,k4,k5⟩:=hpv _ cs hd rfl
  simp_all) g1' (fun d _ cs hd=>hfree' d cs hd) hF1 hK
 exact OT (A:=A) (r:=r) (K:=Q .normal) (k:=k) (fun i hi=>⟨(hat i hi).1,fun j hj hkj=>((hat i hi).2 j hj).elim (fun h=>h) fun h=>absurd h.1 (by omega)⟩) (g0:=g) (w0:=w) (fun g3 w3 a3 fr3 H3 s3 hR3 hF3 hK3=>⟨g3,fr3,H3,s3,hR3,hF3,hK3⟩) (ops.size - k) k listed fr2 H2 (by omega) (by omega) hsz hl hK2 g3 w' a' ((sd.trans s).trans s2) hR2 hF2
end
end Go.Ab
