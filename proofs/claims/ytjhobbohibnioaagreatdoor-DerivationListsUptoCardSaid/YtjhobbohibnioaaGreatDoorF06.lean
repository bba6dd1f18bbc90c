/- . -/
import Derived.Test.YtjhobbohibnioaaGreatDoorF05
set_option linter.all false
open Go.Ab.Ar (lst lst_eq)
namespace Go.Ab
open Go.RowKit
variable [O5][Ar]
def Nx:List Nat→Nat→Bool
 |[],_=>false
 |x::l,n=>match Nat.beq n x with|true=>true|false=>Nx l n
abbrev VE:=List (Nat×List V)
def lkp:VE→Nat→Option (List V)
 |[],_=>none
 |(k,x)::l,t=>match Nat.beq t k with|true=>some x|false=>lkp l t
section
variable (E:Fo)(T:Ih)(nt:Nat)(A:Nat→Bool)
def xqd (G:List (Nat×Bool)) (o:Oper) (l:Fl) (H:A5) (k:Sl→Prop):Prop:=
 match o.op with
 | .call c=>
  (match c.callee with
   | .value x=>E.pcall H (V5 G l x).V (c.args.toList.map fun x=>(V5 G l x).V) fun v=>k (.v v)
   |_=>xq E T G o l H k)
 |_=>xq E T G o l H k
def Ac6 (pv:VE)(d:Option Tmp):Bool:=
 match d with
 |some d=>(match lkp pv d with|none=>true|some _=>false)
 |none=>true
abbrev Pe:=Option (Nat×Nat×List V)
def Aa0 (tk:List Nat)(d:Option Tmp):Bool:=
 match d with
 |some d=> !Nx tk d
 |none=>true
def Vr:List Nat→Nat→List Nat
 |[],_=>[]
 |x::l,n=>match Nat.beq n x with|true=>Vr l n|false=>x::Vr l n
def Rq (s:Option Nat)(tk:List Nat):List Nat:=
 match s with
 |some d=>Vr tk d
 |none=>tk
def AX5 (tk:List Nat)(sx:Operand)(tl:G6):Option (Option Nat):=
 match tl with
 | .nil=>some none
 | .full=>some none
 | .ro=>(match sx with| .tmp d=>(match Nx tk d with|true=>some (some d)|false=>none)|_=>none)
 |_=>none
def Ax5 (x:Bool)(ex:Option G6)(tk:List Nat)(sx:Operand)(tl:G6)(k:Option Nat→Option G6→Prop):Prop:=
 match x with
 |true=>(match ex with|some τ=>E.need (tl=τ) fun _=>k none none|none=>False)
 |false=>(match AX5 tk sx tl with|some s=>k s ex|none=>False)
def KA (A:Nat→Bool)(n:Nat):List Oper→Option Nat
 |[]=>none
 |o::l=>match o.dst with|some d=>(match A (d+n)with|true=>some d|false=>KA A n l)|none=>KA A n l
def Ax7 (x :Bool) (ex:Option G6) (o:Oper) (l:Fl) (tk:List Nat) (k:Nat→Option Nat→Option G6→V→Prop):Prop:=
 match o.op,o.dst,o.guard with
 | .call { callee:=.builtin .append,args:=⟨[sx,sy]⟩,argTypes:=⟨[sT,yT]⟩},some dd,none=>
  (match (V5 [] l sx).V,(V5 [] l sy).V with
   | .sl xs tlx,.sl ys _=>
    Ax5 E x ex tk sx tlx fun src ex'=>
     (match tg T sT,tg T yT with
      | some I,some I2=>
       (match I.sl,I2.sl with
        | some e,some _=>
         (match tg T e with
          | some J=>
           (match J.ze with
            |some z=>if 0<J.sz∧0<J.by_∧z.one=true∧z.cells.length=J.sz then E.appq J.sz J.by_ xs ys fun v=>k dd src ex' v else False
            |none=>False)
          |none=>False)
        |_,_=>False)
      |_,_=>False)
   |_,_=>False)
 |_,_,_=>False
def xdB (ads :List Nat) (ops:Array Oper):List Oper→Fl→VE→Pe→List Nat→Option G6→A5→(Fl→VE→Pe→List Nat→Prop)→Prop
 |[],l,pv,pe,tk,_,_,K=>K l pv pe tk
 | o :: rest,l,pv,pe,tk,ex,H,K=>
  match GV nt o.dst,Ac6 pv o.dst,Aa0 tk o.dst with
  | true, true,true=>
   (match A (o.dst.getD 0+3000000)with
    |true=>Ax7 E T (A (o.dst.getD 0+8000000)) ex o l tk fun dd src ex' v=>xdB ads ops rest ((dd,.v v)::l) pv pe (dd::Rq src tk) ex' H K
    | false =>
     (match o.op with
      | .alloc t=>
       (match o.guard,o.dst,tg T t with
        | none,some d,some I=>
         (match I.ze with
          |some z=>(match z.one with|true=>xdB ads ops rest ((d,.v .bad)::l) ((d,z.cells)::pv) pe tk ex H K|false=>False)
          |none=>False)
        |_,_,_=>False)
      | .store t (.tmp d) y=>
       (match o.guard,tg T t with
        | none,some I=>
         (match lkp pv d with
          |some cs=>if(V5 [] l y).V.one=true∧(V5 [] l y).V.cells.length=I.sz∧I.sz≤cs.length then xdB ads ops rest (DZ o.dst (.v .bad) l) ((d,Z0 cs 0 (V5 [] l y).V.cells)::pv) pe tk ex H K else False
          | none=>
           (match Nx ads d,Yn [] l d,pe with
            |true,some (.v (.ref id off)),some (ds,id',cs)=>
             if(V5 [] l y).V.one=true∧(V5 [] l y).V.cells.length=I.sz∧off+I.sz≤cs.length then E.need (id=id') fun _=>xdB ads ops rest (DZ o.dst (.v .bad) l) pv (some (ds,id',Z0 cs off (V5 [] l y).V.cells)) tk ex H K else False
            |_,_,_=>False))
        |_,_=>False)
      | .store _ _ _=>False
      |_=>HB E ops o 4 l (fun G l' wr=>xqd E T G o l' H fun s=>xdB ads ops rest (DZ o.dst (wr s) l') pv pe tk ex H K) fun l'=>xdB ads ops rest (DZ o.dst (.v (.tup [])) l') pv pe tk ex H K))
  |_,_,_=>False
def NT:List Nat→VE→Fl→A5→(Fl→A5→Prop)→Prop
 |[],_,l,H,K=>K l H
 |d::ds,pv,l,H,K=>
  match lkp pv d with
  |some cs=>(match A d with|true=>E.alloc H cs fun id H'=>NT ds pv ((d,.v (.ref id 0))::l) H' K|false=>NT ds pv ((d,.v (.eref cs 0))::l) H K)
  |none=>False
def Sn (dx:Option Nat)(tk:List Nat)(l:Fl)(H:A5)(K:Fl→A5→Prop):Prop:=
 match dx with
 |none=>K l H
 |some d=>(match Nx tk d,lk l d with|true,.v (.sl xs .ro)=>E.nameT H fun tl H'=>K ((d,.v (.sl xs tl))::l) H'|_,_=>False)
def Sk (ops:Array Oper):List Oper→Fl→A5→(Fl→A5→Prop)→Prop
 |[],l,H,K=>K l H
 |o::rest,l,H,K=>
  match GV nt o.dst with
  |true=>HB E ops o 4 l (fun G l' wr=>xop E T A G o l' H fun s H'=>Sk ops rest (DZ o.dst (wr s) l') H' K) fun l'=>Sk ops rest (DZ o.dst (.v (.tup [])) l') H K
  |false=>False
def GI:List Oper→List Nat
 |[]=>[]
 |o::l=>match o.op,o.dst with| .alloc _,some d=>d::GI l|_,_=>GI l
def AU6 (pe:Pe)(H:A5)(K:A5→Prop):Prop:=
 match pe with
 |some (_,id,cs)=>E.give H id cs K
 |none=>K H
def Ax3 (w:Option (Nat×List Nat))(l:Fl)(H:A5)(K:List Nat→Pe→A5→Prop):Prop:=
 match w with
 |none=>K [] none H
 |some (d,ads)=>(match lk l d with| .v (.ref id 0)=>E.frz H id fun cs H'=>K ads (some (d,id,cs)) H'|_=>False)
def Ax2 (x:Option Nat)(H:A5)(K:Option G6→A5→Prop):Prop:=
 match x with
 |none=>K none H
 |some _=>E.takeT H fun τ H'=>K (some τ) H'
def Ay0 (w:Option (Nat×List Nat))(k:Nat)(ops:Array Oper)(l:Fl)(H:A5)(K:Fl→A5→Prop):Prop:=
 Ax2 E (KA A 8000000 (ops.toList.take k)) H fun ex H0=>Ax3 E w l H0 fun ads pe H1=>xdB E T nt A ads ops (ops.toList.take k) l [] pe [] ex H1 fun l' pv pe' tk=>AU6 E pe' H1 fun H2=>Sn E (KA A 9000000 (ops.toList.take k)) tk l' H2 fun l1 H3=>NT E A (GI (ops.toList.take k)) pv l1 H3 fun l'' H'=>Sk E T nt A ops (ops.toList.drop k) l'' H' K
end
section
variable {P:Program}{nt:Nat}{rd:Option Nat}{T:Ih}{A:Nat→Bool}{df:List Nat}
theorem Ap2 (hT:Lc P T) {G:List (Nat×Bool)} {o:Oper} {l:Fl} (hG:MI G l) {H:A5} {k:Sl→Prop} (h:xqd (I5 P nt rd) T G o l H k):∃s:Sl,OP P o (ev (I9 ⟨l,df⟩)) H s.V∧k s:=by
 unfold xqd at h
 split at h
 ·rename_i c ho
  split at h
  ·rename_i x hc;obtain⟨v,h1,h2⟩:=h
   rw[FF (df:=df) hG,show(c.args.toList.map fun x=>(V5 G l x).V)=c.args.toList.map (ev (I9 ⟨l,df⟩))from V6 fun p _=>FF hG p]at h1
   grind[OP,Sl.V]
  exact OQ hT hG h
 exact OQ hT hG h
theorem AL0 (hT:Lc P T) {G:List (Nat×Bool)} {o:Oper} {l:Fl} {H:A5} {k:Sl→Prop} (ht:Mq G o l=true) (h:xqd (I5 P nt rd) T G o l H k):∃s,k s:=by
 unfold xqd at h
 split at h
 ·rename_i c ho
  split at h
  ·obtain⟨v,h1,h2⟩:=h
   grind
  exact ZQ hT ht h
 exact ZQ hT ht h
theorem IQ (hT:Lc P T) {ops:Array Oper} {K:Fl→A5→Prop}:∀(rest:List Oper) (l:Fl) (H:A5),Sk (I5 P nt rd) T nt A ops rest l H K→Nu P A nt ops rest (I9 ⟨l,df⟩) H fun fr H'=>∃l',fr=I9 ⟨l',df⟩∧K l' H'
 |[],l,H,h=>⟨l,rfl,h⟩
 | o::rest,l,H,h=>by
  unfold Sk at h
  split at h
  ·rename_i hd;simp only[Nu];refine⟨hd,?_⟩;obtain⟨l',e,h⟩:=EH (df:=df) 4 l h
   have e:I9 ⟨l',df⟩=I9 ⟨l,df⟩:=by simp_all[I9]
   rcases h with⟨hg,G,wr,hG,hwr,h⟩|⟨hg,h⟩
   ·rw[hg];rw[←e];refine Po (PZ (df:=df) hT hG h) fun v H' ⟨s,hv,hk⟩=>?_;subst hv;rw[←hwr s,←Q1];exact IQ hT rest _ _ hk
   rw[hg];rw[←e]
   rcases h with h|⟨G,d,want,ht,hb,h⟩
   ·have:=IQ hT rest _ _ h
    rw[Q1]at this
    exact this
   obtain⟨s,h⟩:=VJ hT ht h;have:=IQ hT rest _ _ h
   rw[Q1]at this
   simp_all[slV]
  grind
def AI (pv:VE)(pe:Pe)(tk:List Nat)(ex:Option G6):Pv
 | .inl d=>lkp pv d
 | .inr x=>(match pe with|some (_,id,cs)=>if x=id then some cs else none|none=>none)
 | .tk d=>(match Nx tk d with|true=>some []|false=>none)
 | .ex=>ex.map fun τ=>[.sl [] τ]
theorem AI8 {a b:Nat}:Nat.beq a b=true↔a=b:=⟨Fv,fun h=>by simp_all⟩
theorem AF2 {pv:VE} {d t:Nat} {cs:List V}:lkp ((d,cs)::pv) t=if t=d then some cs else lkp pv t:=by
 simp only[lkp]
 by_cases h:t=d
 ·simp_all
 have:Nat.beq t d=false:=by
  cases hb:Nat.beq t d with
  |false=>rfl
  |true=>simp_all
 grind
theorem Hv {tk:List Nat} {d t:Nat}:Nx (d::tk) t=(decide (t=d)||Nx tk t):=by
 simp only[Nx]
 by_cases h:t=d
 ·simp_all
 have:Nat.beq t d=false:=by
  cases hb:Nat.beq t d with
  |false=>rfl
  |true=>simp_all
 grind
theorem Qt {d t:Nat}:∀{tk:List Nat},Nx (Vr tk d) t=(!decide (t=d)&&Nx tk t)
 |[]=>by simp[Nx,Vr]
 | x::l=>by
  simp only[Vr]
  split
  ·rename_i h;have:=AI8.1 h;subst this;rw[Qt (tk:=l),Hv]
   by_cases e:t=d<;>simp[e]
  rename_i h
  have hne:d≠x:=fun e=>by rw[AI8.2 e]at h;cases h
  rw[Hv,Hv,Qt (tk:=l)]
  grind
theorem UW {pv:VE} {pe:Pe} {tk:List Nat} {ex:Option G6} {d:Nat} {cs:List V}:AI ((d,cs)::pv) pe tk ex=Q5 (AI pv pe tk ex) (.inl d) cs:=by
 funext t
 cases t with
 |inl t=>
  grind[AI,Q5,AF2]
 |inr x=>simp[AI,Q5]
 |tk x=>simp[AI,Q5]
 |ex=>simp[AI,Q5]
theorem AN5 {pv:VE} {tk:List Nat} {ex:Option G6} {ds id:Nat} {cs cs':List V}:AI pv (some (ds,id,cs')) tk ex=Q5 (AI pv (some (ds,id,cs)) tk ex) (.inr id) cs':=by
 funext t
 cases t with
 |inl t=>simp[AI,Q5]
 |inr x=>
  grind[AI,Q5]
 |tk x=>simp[AI,Q5]
 |ex=>simp[AI,Q5]
theorem AN6 {pv:VE} {pe:Pe} {tk:List Nat} {ex:Option G6} {d:Nat}:AI pv pe (d::tk) none=Q5 (W6 (AI pv pe tk ex) (some .ex)) (.tk d) []:=by
 funext t
 cases t with
 |inl t=>rw[J9 (by simp),T5 (by simp)];rfl
 |inr x=>rw[J9 (by simp),T5 (by simp)];rfl
 |ex=>rw[J9 (by simp)];simp[AI,W6]
 |tk x=>
  grind[Hv,AI,Q5,T5]
theorem AN4 {pv:VE} {pe:Pe} {tk:List Nat} {ex:Option G6} {d:Nat} {src:Option Nat}:AI pv pe (d::Rq src tk) ex=Q5 (W6 (AI pv pe tk ex) (src.map .tk)) (.tk d) []:=by
 funext t
 cases t with
 |inl t=>rw[J9 (by simp),T5 (by cases src<;>simp)];rfl
 |inr x=>rw[J9 (by simp),T5 (by cases src<;>simp)];rfl
 |ex=>rw[J9 (by simp),T5 (by cases src<;>simp)];rfl
 | tk x=>
  by_cases h:x=d
  ·grind[Hv,AI,Q5]
  rw[J9 (fun e=>by simp_all)]
  have e1:Nx (d::Rq src tk) x=Nx (Rq src tk) x:=by rw[Hv];simp[h]
  cases src with
  |none=>simp_all[AI,Rq,W6]
  |some c=>
   have e2:Nx (Rq (some c) tk) x=(!decide (x=c)&&Nx tk x):=Qt
   grind[AI,W6]
theorem As0 {pv:VE} {pe:Pe} {tk:List Nat} {ex:Option G6} {d:Option Tmp} (h:Ac6 pv d=true) (h2:Aa0 tk d=true):U5 (AI pv pe tk ex) d:=by
 cases d with
 |none=>trivial
 |some d=>
  grind[U5,AI,Ac6,Aa0]
theorem AK9 {l:Fl}{pv:VE}{pe:Pe}{tk:List Nat}{ex:Option G6}{sx:Operand}{tl:G6}{src:Option Nat}(h:AX5 tk sx tl=some src):KO (AI pv pe tk ex) sx tl (src.map .tk):=by
 unfold AX5 at h
 split at h
 ·grind[KO]
 ·grind[KO]
 ·grind[KO,AI]
 cases h
theorem Ax4 {l:Fl} {pv:VE} {pe:Pe} {tk:List Nat} {x:Bool} {ex:Option G6} {sx:Operand} {tl:G6} {k:Option Nat→Option G6→Prop} (h:Ax5 (I5 P nt rd) x ex tk sx tl k):
 ∃key,KO (AI pv pe tk ex) sx tl key∧∃src ex',k src ex'∧(ex=none→ex'=none)∧∀d,AI pv pe (d::Rq src tk) ex'=Q5 (W6 (AI pv pe tk ex) key) (.tk d) []:=by
 unfold Ax5 at h
 split at h
 ·split at h
  ·obtain⟨e,h⟩:=h;subst e;exact⟨some .ex,rfl,none,none,h,fun _=>rfl,fun d=>AN6⟩
  grind
 split at h
 ·rename_i s hs;exact⟨_,AK9 (l:=l) hs,s,ex,h,id,fun d=>AN4⟩
 grind
theorem Xc (hT:Lc P T) {x:Bool} {ex:Option G6} {o:Oper} {l:Fl} {pv:VE} {pe:Pe} {tk:List Nat} {k:Nat→Option Nat→Option G6→V→Prop} (h:Ax7 (I5 P nt rd) T x ex o l tk k):∃dd key v,o.dst=some dd∧PApp P o (I9 ⟨l,df⟩) (AI pv pe tk ex) key v∧∃src ex',k dd src ex' v∧(ex=none→ex'=none)∧AI pv pe (dd::Rq src tk) ex'=Q5 (W6 (AI pv pe tk ex) key) (.tk dd) []:=by
 unfold Ax7 at h
 split at h
 ·rename_i sx sy sT yT dd ho hdst hg
  split at h
  ·rename_i xs tlx ys tly e1 e2
   rw[FF (l:=l) (df:=df) MI.nil]at e1 e2
   obtain⟨key,hs,src,ex',h,hen,hpe⟩:=Ax4 (l:=l) (pv:=pv) (pe:=pe) h
   split at h
   ·rename_i I I2 hI hI2
    split at h
    ·rename_i e e2' he he2
     split at h
     ·rename_i J hJ
      split at h
      ·rename_i z hz
       have ez:=(I4 hT hJ).ze;rw[hz]at ez;simp only[Cs]at ez
       split at h
       ·rename_i hc;obtain⟨c1,c2,c3,c4⟩:=hc;obtain⟨xs',ys',l1,l2,k1,k2,k3,k4⟩:=h;exact⟨dd,key,_,hdst,⟨hg,sx,sy,sT,yT,xs,tlx,ys,tly,xs',ys',ho,e1,e2,hs,⟨e,J.sz,J.by_,z,(I4 hT hI).sl.trans he,by rw[(I4 hT hI2).sl,he2];rfl,(I4 hT hJ).sz,c1,(I4 hT hJ).by_,c2,ez,c3,c4,l1,l2,k1,k2,k3⟩,rfl⟩,src,ex',k4,hen,hpe dd⟩
       grind
      grind
     grind
    grind
   grind
  grind
 grind
theorem KH {ops:Array Oper}{H:A5}{K K':Fr→Pv→Prop}(hk:∀fr pv,K fr pv→K' fr pv):∀(l:List Oper) (fr:Fr) (pv:Pv),KU P nt ops H l fr pv K→KU P nt ops H l fr pv K'
 |[],_,_,h=>hk _ _ h
 |_::l,_,_,h=>TI h fun fr pv h=>KH hk l fr pv h
theorem Dk (hT:Lc P T) {ads:List Nat} {ops:Array Oper} {H:A5} {K:Fl→VE→Pe→List Nat→Prop}:∀(rest:List Oper) (l:Fl) (pv:VE) (pe:Pe) (tk:List Nat) (ex:Option G6),xdB (I5 P nt rd) T nt A ads ops rest l pv pe tk ex H K→
 KU P nt ops H rest (I9 ⟨l,df⟩) (AI pv pe tk ex) fun fr pv'=>∃l' pl pe' tk' ex',fr=I9 ⟨l',df⟩∧pv'=AI pl pe' tk' ex'∧(ex=none→ex'=none)∧pe'.map (fun p=>p.2.1)=pe.map (fun p=>p.2.1)∧K l' pl pe' tk'
 |[],l,pv,pe,tk,ex,h=>⟨l,pv,pe,tk,ex,rfl,rfl,id,rfl,h⟩
 | o ::rest,l,pv,pe,tk,ex,h=>by
  unfold xdB at h
  split at h
  ·rename_i hd hf hft;simp only[KU];unfold MD;refine⟨⟨hd,As0 hf hft⟩,?_⟩
   split at h
   ·obtain⟨dd,key,v,hdst,hP,src,ex2,h,hen,hpe⟩:=Xc (df:=df) (pv:=pv) (pe:=pe) hT h;refine⟨v,_,.inr (.inr (.inr ⟨dd,key,hdst,hP,rfl⟩)),?_⟩;have:=Dk hT rest _ _ _ _ _ h
    rw[hpe,show(dd,Sl.v v)::l=DZ (some dd) (.v v) l from rfl,Q1]at this
    rw[hdst];exact KH (fun fr pv ⟨l',pl,pe',tk',ex',e1,e2,e3,h⟩=>⟨l',pl,pe',tk',ex',e1,e2,fun he=>e3 (hen he),h⟩) _ _ _ this
   split at h
   ·rename_i t ho
    split at h
    ·rename_i d I hg hdst hI
     split at h
     ·rename_i z hz
      have ez:=(I4 hT hI).ze;rw[hz]at ez;simp only[Cs]at ez
      split at h
      ·rename_i h1;refine⟨.bad,_,.inr (.inl ⟨t,z,d,ho,hg,hdst,ez,h1,rfl,rfl⟩),?_⟩;have:=Dk hT rest _ _ _ _ _ h
       rw[UW,show(d,Sl.v V.bad)::l=DZ (some d) (.v .bad) l from rfl,Q1]at this
       rw[hdst];exact this
      grind
     grind
    grind
   ·rename_i t d y ho
    split at h
    ·rename_i I hg hI;have hev:=FF (l:=l) (df:=df) MI.nil y
     split at h
     ·rename_i cs hcs
      split at h
      ·rename_i hc;obtain⟨c1,c2,c3⟩:=hc
       rw[hev]at c1 c2 h
       refine⟨.bad,_,.inr (.inr (.inl ⟨t,d,y,.inl d,0,cs,ho,hg,.inl ⟨rfl,rfl,hcs⟩,c1,by rw[c2];exact(I4 hT hI).sz,by rw[c2];omega,rfl,rfl⟩)),?_⟩;have:=Dk hT rest _ _ _ _ _ h
       rw[UW,Q1]at this
       exact this
      grind
     rename_i hcs
     split at h
     ·rename_i id off ds id' cs _ hop
      split at h
      ·rename_i hc;obtain⟨c1,c2,c3⟩:=hc;obtain⟨he,h⟩:=h;subst he
       rw[hev]at c1 c2 h
       have hd:(I9 ⟨l,df⟩).s d= .ref id off:=(Ml MI.nil hop).1.symm;refine⟨.bad,_,.inr (.inr (.inl ⟨t,d,y,.inr id,off,cs,ho,hg,.inr ⟨id,rfl,hd,hcs,by simp[AI]⟩,c1,by rw[c2];exact(I4 hT hI).sz,by rw[c2];exact c3,rfl,rfl⟩)),?_⟩;have:=Dk hT rest _ _ _ _ _ h
       rw[AN5 (cs:=cs),Q1]at this
       exact this
      grind
     grind
    grind
   ·exact h.elim
   rename_i n1 n2 n3
   have key:∃v,RC P ops H o (I9 ⟨l,df⟩) v∧KU P nt ops H rest ((I9 ⟨l,df⟩).put o.dst v) (AI pv pe tk ex) fun fr pv'=>∃l' pl pe' tk' ex',fr=I9 ⟨l',df⟩∧pv'=AI pl pe' tk' ex'∧(ex=none→ex'=none)∧pe'.map (fun p=>p.2.1)=pe.map (fun p=>p.2.1)∧K l' pl pe' tk':=by
    obtain⟨l',e,h⟩:=EH (df:=df) 4 l h
    have e:I9 ⟨l',df⟩=I9 ⟨l,df⟩:=by simp_all[I9]
    rcases h with⟨hg,G,wr,hG,hwr,h⟩|⟨hg,h⟩
    ·obtain⟨s,h1,h2⟩:=Ap2 (df:=df) hT hG h;refine⟨s.V,by simp_all[RC],?_⟩;have:=Dk hT rest _ _ _ _ _ h2
     rw[Q1,hwr s,e]at this
     exact this
    refine⟨.tup [],by grind[RC],?_⟩
    rcases h with h|⟨G,d,want,ht,hb,h⟩
    ·have:=Dk hT rest _ _ _ _ _ h
     rw[Q1,e]at this
     exact this
    obtain⟨s,h⟩:=AL0 hT ht h;have:=Dk hT rest _ _ _ _ _ h
    rw[Q1,e]at this
    simp_all[slV]
   obtain⟨v,h1,h2⟩:=key;refine⟨v,_,.inl ⟨?_,?_,h1,rfl⟩,h2⟩
   ·cases hx:o.op<;>first|rfl|simp_all
   simp[Py]
  grind
theorem Ke {pe:Pe} {tk:List Nat} {ex:Option G6} {K:Fl→A5→Prop}:∀(ds:List Nat) (pv:VE) (l:Fl) (H:A5),NT (I5 P nt rd) A ds pv l H K→JO A ds (AI pv pe tk ex) (I9 ⟨l,df⟩) H fun fr H'=>∃l',fr=I9 ⟨l',df⟩∧K l' H'
 |[],pv,l,H,h=>⟨l,rfl,h⟩
 | d::ds,pv,l,H,h=>by
  unfold NT at h
  simp only[JO]
  split at h
  ·rename_i cs hcs;have hcs':AI pv pe tk ex (.inl d)=some cs:=hcs;rw[hcs']
   simp only
   split at h
   ·rename_i hA;rw[A2 hA];intro id hid;have:=Ke (pe:=pe) (tk:=tk) (ex:=ex) ds pv _ _ (h id hid)
    rw[show(d,Sl.v (V.ref id 0))::l=DZ (some d) (.v (.ref id 0)) l from rfl,Q1]at this
    exact this
   rename_i hA;rw[A0 (by rw[hA];simp)];have:=Ke (pe:=pe) (tk:=tk) (ex:=ex) ds pv _ _ h
   rw[show(d,Sl.v (V.eref cs 0))::l=DZ (some d) (.v (.eref cs 0)) l from rfl,Q1]at this
   exact this
  grind
theorem Om {A:Nat→Bool} {K K':Fr→A5→Prop} (hk:∀fr H,K fr H→K' fr H):∀(ds:List Nat) (pv:Pv) (fr:Fr) (H:A5),JO A ds pv fr H K→JO A ds pv fr H K'
 |[],_,_,_,h=>hk _ _ h
 | d::ds,pv,fr,H,h=>by
  simp only[JO]at h ⊢
  split at h
  ·split at h
   ·rename_i hA;rw[A2 hA];exact fun id hid=>Om hk ds _ _ _ (h id hid)
   rename_i hA;rw[A0 hA];exact Om hk ds _ _ _ h
  omega
theorem Ys {dx:Option Nat}{pv:Pv}{fr:Fr}{H:A5}{K K':Fr→A5→Prop}(hk:∀fr H,K fr H→K' fr H)(h:Kv dx pv fr H K):Kv dx pv fr H K':=by
 unfold Kv at h ⊢
 grind
theorem AF3 {d:Nat} {x:V}:∀{l:Fl},lk l d= .v x→CA l d=x
 |[],h=>by cases h;rfl
 |(k,s)::l,h=>by
  simp only[lk]at h
  simp only[CA]
  cases hb:Nat.beq d k with
  |true=>rw[hb]at h;subst h;rfl
  |false=>rw[hb]at h;exact AF3 h
theorem VK {dx:Option Nat} {pl:VE} {pe:Pe} {tk:List Nat} {ex:Option G6} {l:Fl} {H:A5} {K:Fl→A5→Prop} (h:Sn (I5 P nt rd) dx tk l H K):Kv dx (AI pl pe tk ex) (I9 ⟨l,df⟩) H fun fr H'=>∃l',fr=I9 ⟨l',df⟩∧K l' H':=by
 unfold Sn at h
 unfold Kv
 split at h
 ·grind
 rename_i d
 split at h
 ·rename_i xs h1 h2;obtain⟨h3,h4⟩:=h;refine⟨xs,by simp[AI,h1],AF3 h2,fun tl htl=>⟨_,?_,h3 tl htl⟩,fun t ht=>⟨_,?_,h4 t ht⟩⟩
  ·exact(Q1 l (some d) (.v (.sl xs tl))).symm
  exact(Q1 l (some d) (.v (.sl xs (.tok t)))).symm
 grind
theorem Ap3 (hT:Lc P T) {w:Option (Nat×List Nat)} {k:Nat} {ops:Array Oper} {l:Fl} {H:A5} {K:Fl→A5→Prop} (hok:TJ ops k=true) (hnd:(GI (ops.toList.take k)).Nodup)
 (h:Ay0 (I5 P nt rd) T nt A w k ops l H K):KN P nt rd ops (I9 ⟨l,df⟩) H fun e fr H'=>e= .normal∧∃l',fr=I9 ⟨l',df⟩∧K l' H':=by
 have rest:∀(l':Fl) (pl:VE) (pe:Pe) (tk:List Nat) (ex:Option G6) (H2:A5),Sn (I5 P nt rd) (KA A 9000000 (ops.toList.take k)) tk l' H2 (fun l1 H3=>NT (I5 P nt rd) A (GI (ops.toList.take k)) pl l1 H3 fun l'' H'=>Sk (I5 P nt rd) T nt A ops (ops.toList.drop k) l'' H' K)→
  Kv (KA A 9000000 (ops.toList.take k)) (AI pl pe tk ex) (I9 ⟨l',df⟩) H2 fun fr1 H3=>JO A (GI (ops.toList.take k)) (AI pl pe tk ex) fr1 H3 fun fr H'=>Nu P A nt ops (ops.toList.drop k) fr H' fun fr H'=>.normal=Exit.normal∧∃l',fr=I9 ⟨l',df⟩∧K l' H':=fun l' pl pe tk ex H2 h=>by
  grind[Ys,VK,Om,Ke,IQ]
 unfold Ay0 at h
 obtain⟨ex,hX,h⟩:∃ex,(∀τ,ex=some τ→Kd H τ)∧Ax3 (I5 P nt rd) w l (JC H ex) fun ads pe H1=>xdB (I5 P nt rd) T nt A ads ops (ops.toList.take k) l [] pe [] ex H1 fun l' pv pe' tk=>AU6 (I5 P nt rd) pe' H1 fun H2=>Sn (I5 P nt rd) (KA A 9000000 (ops.toList.take k)) tk l' H2 fun l1 H3=>NT (I5 P nt rd) A (GI (ops.toList.take k)) pv l1 H3 fun l'' H'=>Sk (I5 P nt rd) T nt A ops (ops.toList.drop k) l'' H' K:=by
  unfold Ax2 at h
  split at h
  ·exact⟨none,fun _ h=>(by cases h),h⟩
  obtain⟨τ,h1,h2⟩:=h;exact⟨some τ,fun _ h=>(by simp_all),h2⟩
 unfold Ax3 at h
 cases w with
 |none=>
  refine KN.drawF (A:=A) (W:=[]) (dx:=KA A 9000000 (ops.toList.take k)) hok hnd hX (fun p hp=>by simp at hp) ?_
  have e0:pvW [] ex=AI [] none [] ex:=by funext x;cases x<;>rfl
  rw[e0];refine KH (fun fr pv ⟨l',pl,pe',tk',ex',e1,e2,_,e3,h⟩=>?_) _ _ _ (Dk (df:=df) hT _ _ _ _ _ _ h);subst e1;subst e2
  cases pe' with
  |some p=>cases e3
  |none=>exact rest _ _ _ _ _ _ h
 | some p=>
  obtain⟨d,ads⟩:=p
  simp only at h
  split at h
  ·rename_i bid hl;obtain⟨cs,hk,h⟩:=h;refine KN.drawF (A:=A) (W:=[(bid,cs)]) (dx:=KA A 9000000 (ops.toList.take k)) hok hnd hX (fun p hp=>by simp_all) ?_
   have e0:pvW [(bid,cs)] ex=AI [] (some (d,bid,cs)) [] ex:=by
    funext x
    cases x with
    |inl x=>rfl
    |inr x=>
     grind[pvW,AI]
    |tk x=>rfl
    |ex=>rfl
   rw[e0];refine KH (fun fr pv ⟨l',pl,pe',tk',ex',e1,e2,_,e3,h⟩=>?_) _ _ _ (Dk (df:=df) hT _ _ _ _ _ _ h);subst e1;subst e2
   cases pe' with
   |none=>cases e3
   |some q=>
    obtain⟨d',id',cs'⟩:=q
    simp only[I6,F3]at e3
    subst e3
    have hp:AI pl (some (d',id',cs')) tk' ex' (.inr id')=some cs':=by simp[AI]
    unfold Vn;rw[hp];exact rest _ _ (some (d',id',cs')) _ _ _ h
  grind
end
end Go.Ab
namespace Go.Ab
open Go.RowKit
variable [O5]
section
variable (P:Program)(A:WY)(nt:Nat)(ops:Array Oper)
def AV1 (o:Oper) (fr:Fr) (H:A5) (K:Fr→A5→Prop):Prop:=
 GV nt o.dst=true∧
  match BA ops fr o with
  |some true=>Im P A o (ev fr) H fun v H'=>K (fr.put o.dst v) H'
  |some false=>K (fr.put o.dst (.tup [])) H
  |none=>False
def ZF:Nat→Array Bool→Fr→A5→(Fr→A5→Prop)→Prop
 |0,listed,fr,H,K=>Region.ready .any ops listed=[]∧K fr H
 | n +1,listed,fr,H,K=>(Region.ready .any ops listed=[]→K fr H)∧
     ∀i∈Region.ready .any ops listed,AV1 P A nt ops (ops.getD i default) fr H fun fr' H'=>ZF n (listed.setIfInBounds i true) fr' H' K
end
section
variable {P:Program}{nt:Nat}{ops:Array Oper}{A:WY}{r:Option Nat}{K:Fr→A5→Prop}{Q:Exit→Act→World→Prop}{g0:Gh}{w0:World}
theorem Ao7 (hQ:∀g w a fr H,Y7 g0 w0 g w→Rl g H w→FR nt g w a fr→K fr H→Q .normal a w):
 ∀(n:Nat) (listed:Array Bool) (fr:Fr) (H:A5),ZF P A nt ops n listed fr H K→
  ∀g w a,Y7 g0 w0 g w→Rl g H w→FR nt g w a fr→wpAnyIn (Fw r) 0 P .any ops Q n listed a w
 |0,listed,fr,H,h,g,w,a,s,hR,hF=>⟨h.1,hQ g w a fr H s hR hF h.2⟩
 |n+1,listed,fr,H,h,g,w,a,s,hR,hF=>by
  refine⟨fun e=>hQ g w a fr H s hR hF (h.1 e),fun i hi=>?_⟩;obtain⟨h1,_,_⟩:=FB hi;have hs:=h.2 i hi
  have eo:ops.getD i default=ops[i]:=by simp_all
  rw[eo]at hs
  obtain⟨hd,hs⟩:=hs;have ih:=Ao7 hQ n (listed.setIfInBounds i true);simp only[wpOpIn,CQ h1]
  split at hs
  ·rename_i hg;rw[A2 (Y3 hF.s hg)];exact UG hR hF hd hs fun g' w' a' v H' s' hR' hF' hK=>ih _ _ hK g' w' a' (s.trans s') hR' hF'
  ·rename_i hg;rw[A0 (by rw[Y3 hF.s hg];simp)];exact⟨fun _ _=>trivial,ih _ _ hs g w _ s hR (hF.put (Fb hd) (VR.und _ _))⟩
  simp_all
theorem KN.all {rd:Option Nat} {fr:Fr} {H0:A5} {Q:Exit→Fr→A5→Prop} (h:ZF P A nt ops ops.size (Array.replicate ops.size false) fr H0 (Q .normal)):KN P nt rd ops fr H0 Q:=by
 intro r g w a _ hR hF;have sd:Y7 g w g w.drew:=⟨fun _ _ e=>e,fun _ _ e=>e,fun _ _ e=>e,rfl,fun _ _ _=>rfl,(Y8 _ _).drew,fun _ _ _=>rfl,Gc _⟩
 have hRd:Rl g H0 w.drew:=by
  refine⟨fun id b hb=>(hR.blk id b hb).mono hb sd fun _ _=>⟨rfl,fun _ ho=>ho⟩,hR.inj,hR.frz,hR.nxt,hR.bnd,fun n=>(hR.glb n).mono sd⟩
 exact Ao7 (r:=r) (g0:=g) (w0:=w) (fun g' w' a' fr' H' s' hR' hF' hK=>⟨g',fr',H',s',hR',hF',hK⟩) _ _ fr H0 h g w.drew a sd hRd (hF.mono sd)
end
end Go.Ab
namespace Go.Ab
open Go.RowKit
variable [O5][Ar]
def Ba7:List Nat→(Nat→Prop)→Prop
 |[],_=>True
 |[i],f=>f i
 |i::l,f=>f i∧Ba7 l f
theorem ZE:∀{l:List Nat} {f:Nat→Prop},Ba7 l f→∀i∈l,f i
 |[],_,_,i,h=>by cases h
 |[a],f,h,i,hi=>by rw[List.mem_singleton.1 hi];exact h
 |a::b::l,f,h,i,hi=>by
  rcases List.mem_cons.1 hi with rfl|hi
  ·exact h.1
  exact ZE h.2 i hi
section
variable (E:Fo)(T:Ih)(nt:Nat)(A:Nat→Bool)(ops:Array Oper)
def AU3 (o:Oper)(l:Fl)(H:A5)(K:Fl→A5→Prop):Prop:=
 match GV nt o.dst with
 |true=>HB E ops o 4 l (fun G l' wr=>xop E T A G o l' H fun s H'=>K (DZ o.dst (wr s) l') H') fun l'=>K (DZ o.dst (.v (.tup [])) l') H
 |false=>False
end
section
variable {P:Program}{nt:Nat}{rd:Option Nat}{T:Ih}{A:Nat→Bool}{df:List Nat}
end
end Go.Ab
namespace Go.Ab
open Go.RowKit
variable [O5]
section
variable {P:Program}
theorem As8 {A:WY} {o:Oper} {ρ ρ':Operand→V} {H:A5} {K:V→A5→Prop} (hρ:∀x∈o.op.operands,ρ x=ρ' x) (h:Im P A o ρ H K):Im P A o ρ' H K:=by
 have hq:∀{v},OP P o ρ H v→OP P o ρ' H v:=Qn hρ
 unfold Im at h ⊢
 cases ho:o.op<;>simp only[ho]at h ⊢ hρ<;>first
  |exact h
  |(obtain⟨v,h1,h2⟩:=h;exact⟨v,hq h1,h2⟩)
  | (simp only[Op.operands,Gm,Gg,CF,or_false,forall_eq_or_imp,forall_eq]at hρ
     first
      |(rw[←hρ];exact h)
      |(rw[←hρ.1,←hρ.2];exact h)
      |(rw[←hρ.1,←hρ.2.1,←hρ.2.2];exact h))
  |skip
 ·rename_i t n ps
  have e:ps.toList.map (fun p=>(p.1,ρ p.2))=ps.toList.map (fun p=>(p.1,ρ' p.2)):=Z2 fun p hp=>by rw[hρ p.2 (by simp only[Op.operands,Gm,Ge];grind)]
  rw[←e]
  grind
 ·rename_i op t x y _;rw[←hρ x (by simp[Op.operands]),←hρ y (by simp[Op.operands])]
  grind
 rename_i c;have hargs:c.args.toList.map ρ=c.args.toList.map ρ':=Z2 fun p hp=>hρ p (by simp only[Op.operands,Call.operands,Iw];simp_all);rw[←hargs]
 cases hc:c.callee with
 |value f=>
  simp only[hc]at h ⊢
  rw[←hρ f (by simp[Op.operands,Call.operands,hc])];exact h
 |builtin b=>rw[hc]at h;cases b<;>exact h
 |_=>rw[hc]at h;exact h.elim
def Qf:Op→Bool
 | .move _=>true
 | .assign _=>true
 | .pick _ _ _=>true
 | .build _ _=>true
 | .binOp _ _ _ _ _=>true
 | .unOp _ _ _=>true
 | .fieldAddr _ _ _=>true
 | .field _ _ _=>true
 | .extract _ _=>true
 | .load _ _=>true
 | .call c=>match c.callee with| .builtin .len=>true|_=>false
 |_=>false
theorem AC5 {A:WY}{o:Oper}{ρ:Operand→V}{H:A5}{K:V→A5→Prop}{v:V}(hs:Qf o.op=true)(h:OP P o ρ H v)(hk:K v H):Im P A o ρ H K:=by
 grind[Im,Qf,OP]
variable {A:WY}{nt:Nat}{ops:Array Oper}
def TC (ops:Array Oper)(i:Nat):Bool:=
 Qf (ops.getD i default).op&&(ops.getD i default).guard.isNone&&(List.range ops.size).all fun j=>j==i||GO (ops.getD j default) i||GO (ops.getD i default) j||(ops.getD i default).apart ops (ops.getD j default)
theorem Aw4 {i:Nat} (hi:i<ops.size) (hf:TC ops i=true) (hdst:GV nt (ops.getD i default).dst=true) {K:Fr→A5→Prop} {v:V}:∀(n:Nat) (listed:Array Bool) (fr:Fr) (H:A5),i∈Region.ready .any ops listed→(∀H',OP P (ops.getD i default) (ev fr) H' v)→
 ZF P A nt ops n (listed.setIfInBounds i true) (fr.put (ops.getD i default).dst v) H K→ZF P A nt ops (n+1) listed fr H K:=by
 simp only[TC,L9,DQ,CB,AE,Gb]at hf
 obtain⟨⟨hso,hg⟩,hfree⟩:=hf
 have hg:(ops.getD i default).guard=none:=by simpa using hg
 have first:∀(fr:Fr) (H:A5) (K':Fr→A5→Prop),(∀H',OP P (ops.getD i default) (ev fr) H' v)→K' (fr.put (ops.getD i default).dst v) H→AV1 P A nt ops (ops.getD i default) fr H K':=fun fr H K' hq hk=>by
  refine⟨hdst,?_⟩
  have:BA ops fr (ops.getD i default)=some true:=by simp_all[BA]
  rw[this];exact AC5 hso (hq H) hk
 intro n
 induction n with
 |zero=>
  intro listed fr H hr hq h;refine⟨fun e=>(by rw[e]at hr;cases hr),fun j hj=>?_⟩
  by_cases hji:j=i
  ·simp_all
  have:=Go.ready_mono hj hji
  rw[h.1]at this;cases this
 | succ n ih=>
  intro listed fr H hr hq h;refine⟨fun e=>(by rw[e]at hr;cases hr),fun j hj=>?_⟩
  by_cases hji:j=i
  ·simp_all
  have h1:=h.2 j (Go.ready_mono hj hji);obtain⟨hjs,hjl,hje⟩:=FB hj;obtain⟨_,hil,_⟩:=FB hr
  have hap:(ops.getD i default).apart ops (ops.getD j default)=true:=by
   grind
  obtain⟨p1,p2,p3⟩:=Oper.apart_spec hap
  have hn:∀(u:V) (H':A5),ZF P A nt ops n ((listed.setIfInBounds i true).setIfInBounds j true) ((fr.put (ops.getD i default).dst v).put (ops.getD j default).dst u) H' K→ZF P A nt ops (n+1) (listed.setIfInBounds j true) (fr.put (ops.getD j default).dst u) H' K:=fun u H' hk=>by
   refine ih _ _ _ (Go.ready_mono hr fun e=>hji e.symm) (fun H2=>Qn (fun x hx=>(Mp p3 x hx).symm) (hq H2)) ?_;rw[Array.setIfInBounds_comm _ _ hji,←Yf p2];exact hk
  obtain⟨hd,hs⟩:=h1;refine⟨hd,?_⟩
  rw[Rh p1]at hs
  split at hs
  ·exact Po (As8 (Mp p1) hs) fun u H' hk=>hn u H' hk
  ·grind
  omega
end
end Go.Ab
namespace Go.Ab
open Go.RowKit
variable [O5][Ar]
def Af1:List Nat→Nat→Bool
 |[],_=>false
 |a::l,n=>match n==a with|true=>true|false=>Af1 l n
theorem YN:∀{l:List Nat} {n:Nat},Af1 l n=true→n∈l
 |[],_,h=>by cases h
 |a::l,n,h=>by
  unfold Af1 at h
  cases e:n==a with
  |true=>rw[beq_iff_eq.1 e];simp
  |false=>rw[e]at h;exact CI _ (YN h)
section
variable (E:Fo)(T:Ih)(nt:Nat)(A:Nat→Bool)(ops:Array Oper)(fl:List Nat)
def RT (o:Oper)(l:Fl):Bool:=
 match o.op with
 | .load _ x=>(match V5 [] l x with| .v (.eref _ _)=>true|_=>false)
 |_=>true
def JV (l:Fl):List Nat→Option Nat
 |[]=>none
 |i::r=>match Af1 fl i with
  |true=>(match RT (ops.getD i default) l with|true=>some i|false=>JV l r)
  |false=>JV l r
def UF:Nat→Array Bool→Fl→A5→(Fl→A5→Prop)→Prop
 |0,listed,l,H,K=>match Region.ready .any ops listed with|[]=>K l H|_::_=>False
 | n +1,listed,l,H,K=>
  match Region.ready .any ops listed with
  |[]=>K l H
  | i::r=>
   match JV ops fl l (i::r)with
   | some j=>
    (match GV nt (ops.getD j default).dst with
     |true=>xq E T [] (ops.getD j default) l H fun s=>UF n (listed.setIfInBounds j true) (DZ (ops.getD j default).dst (Sl.n s) l) H K
     |false=>False)
   |none=>Ba7 (i::r) fun i=>AU3 E T nt A ops (ops.getD i default) l H fun l' H'=>UF n (listed.setIfInBounds i true) l' H' K
end
theorem HU {ops:Array Oper} {fl:List Nat} {l:Fl} {j:Nat}:∀{r:List Nat},JV ops fl l r=some j→j∈r∧Af1 fl j=true∧RT (ops.getD j default) l=true
 |[],h=>by cases h
 | i::r,h=>by
  unfold JV at h
  cases h1:Af1 fl i with
  |true=>
   rw[h1]at h
   cases h2:RT (ops.getD i default) l with
   |true=>rw[h2]at h;simp_all
   |false=>rw[h2]at h;have:=HU h;simp_all
  |false=>rw[h1]at h;have:=HU h;simp_all
section
variable {P:Program}{nt:Nat}{rd:Option Nat}{T:Ih}{A:Nat→Bool}{df:List Nat}
theorem As6 {o:Oper} {ρ:Operand→V} {H:A5} {v:V} (hs:Qf o.op=true) (hl:∀t x,o.op= .load t x→∃cs off,ρ x= .eref cs off) (h:OP P o ρ H v) (H':A5):OP P o ρ H' v:=by
 unfold OP at h ⊢
 cases ho:o.op<;>simp only[ho,Qf,J7]at hs h ⊢ <;>first
  |exact h
  |skip
 ·rename_i t x;obtain⟨cs,off,e⟩:=hl t x ho
  rw[e]at h ⊢
  rcases h with h|h
  ·left
   unfold Jj at h ⊢
   grind
  simp_all[NK]
 rename_i c
 cases hcc:c.callee with
 | builtin b=>
  rw[hcc]at hs h
  cases b with
  | len=>
   have h:Dj P .len c.argTypes.toList (c.args.toList.map ρ) v∨Ov P H .len c.argTypes.toList (c.args.toList.map ρ) v:=h
   have k:∀(ts:List TypeId) (vs:List V),Ov P H .len ts vs v→Ov P H' .len ts vs v:=fun ts vs h=>by
    rcases ts with _|⟨t,_|⟨t2,ts⟩⟩<;>rcases vs with _|⟨x,_|⟨x2,vs⟩⟩<;>first
     |exact h
     |exact h.elim
   grind
  |_=>cases hs
 |_=>rw[hcc]at hs;cases hs
theorem Gt (hT:Lc P T) {ops:Array Oper} {fl:List Nat} (hfl:∀i,Af1 fl i=true→TC ops i=true) {K:Fl→A5→Prop}:∀(n:Nat) (listed:Array Bool) (l:Fl) (H:A5),UF (I5 P nt rd) T nt A ops fl n listed l H K→ZF P A nt ops n listed (I9 ⟨l,df⟩) H fun fr H'=>∃l',fr=I9 ⟨l',df⟩∧K l' H'
 |0,listed,l,H,h=>by
  unfold UF at h
  split at h
  ·rename_i e;exact⟨e,l,rfl,h⟩
  grind
 | n +1,listed,l,H,h=>by
  unfold UF at h
  split at h
  ·rename_i e;exact⟨fun _=>⟨l,rfl,h⟩,fun i hi=>by rw[e]at hi;cases hi⟩
  rename_i i0 r0 e
  split at h
  ·rename_i j hj;obtain⟨j1,j2,j3⟩:=HU hj
   rw[←e]at j1
   obtain⟨js,_,_⟩:=FB j1;have hf:=hfl j j2
   split at h
   ·rename_i hd;obtain⟨s,hq,hk⟩:=OQ (df:=df) hT MI.nil h
    have hso:Qf (ops.getD j default).op=true:=by
     have:=hf
     simp_all[TC]
    have hst:∀t x,(ops.getD j default).op= .load t x→∃cs off,ev (I9 ⟨l,df⟩) x= .eref cs off:=fun t x ho=>by
     unfold RT at j3
     rw[ho]at j3
     dsimp only at j3
     split at j3
     ·rename_i cs off he;exact⟨cs,off,by rw[←FF (df:=df) MI.nil x,he];rfl⟩
     cases j3
    have hall:=Gt hT hfl n _ _ _ hk
    rw[Q1]at hall
    have hv:slV l (Sl.n s)=s.V:=by cases s<;>rfl
    rw[hv]at hall
    grind[Aw4,As6]
   grind
  refine⟨(fun e'=>by rw[e]at e';cases e'),fun i hi=>?_⟩
  rw[e]at hi
  have h:=ZE h i hi
  unfold AU3 at h
  split at h
  ·rename_i hd;refine⟨hd,?_⟩;obtain⟨l',e,h⟩:=EH (df:=df) 4 l h
   have e:I9 ⟨l',df⟩=I9 ⟨l,df⟩:=by simp_all[I9]
   rcases h with⟨hg,G,wr,hG,hwr,h⟩|⟨hg,h⟩
   ·rw[hg];rw[←e];refine Po (PZ (df:=df) hT hG h) fun v H' ⟨s,hv,hk⟩=>?_;subst hv;rw[←hwr s,←Q1];exact Gt hT hfl n _ _ _ hk
   rw[hg];rw[←e]
   rcases h with h|⟨G,d,want,ht,hb,h⟩
   ·have:=Gt hT hfl n _ _ _ h
    rw[Q1]at this
    exact this
   obtain⟨s,h⟩:=VJ hT ht h;have:=Gt hT hfl n _ _ _ h
   rw[Q1]at this
   simp_all[slV]
  grind
end
def Tl:List Nat→Nat→Bool
 |[],_=>false
 |x::l,n=>match n==x with|true=>true|false=>Tl l n
def AR1:List (Nat×Nat)→Nat→Nat
 |[],_=>0
 |(x,y)::l,n=>match Nat.beq n x with|true=>y|false=>AR1 l n
def Wy:List (Nat×Nat)→Nat→List Nat
 |[],_=>[]
 |(x,y)::l,n=>match n==x with|true=>y::Wy l n|false=>Wy l n
structure Cf where
 A:List Nat
 hk:List (Nat×Nat)
 J:List (Nat×Nat)
 JB:List Nat
 Z:List (Nat×Nat)
 W:List (Nat×Nat×List Nat)
def wAt:List (Nat×Nat×List Nat)→Nat→Option (Nat×List Nat)
 |[],_=>none
 |(q,d)::l,n=>match Nat.beq n q with|true=>some d|false=>wAt l n
def zAt:List (Nat×Nat)→Nat→List Nat
 |[],_=>[]
 |(q,d)::l,n=>match n==q with|true=>d::zAt l n|false=>zAt l n
def AX4:List (Nat×Nat)→Nat→List Nat
 |[],_=>[]
 |(q,d)::l,n=>match n==q with|true=>d::AX4 l n|false=>AX4 l n
def memP:List (Nat×Nat)→Nat→Nat→Bool
 |[],_,_=>false
 |(x,y)::l,a,b=>match Nat.beq a x&&Nat.beq b y with|true=>true|false=>memP l a b
def Uv:Code→Nat
 | .region id _ _=>id+1
 | .seq a b=>(match Uv a with|0=>Uv b|n+1=>n+1)
 | .cond _ a b=>(match Uv a with|0=>Uv b|n+1=>n+1)
 | .block _ c=>Uv c
 | .loop c=>Uv c
 | .rangeFunc _ _ a b=>(match Uv a with|0=>Uv b|n+1=>n+1)
 |_=>0
def M6 (cf:Cf):Code→Bool
 | .seq a b=>M6 cf a&&M6 cf b
 | .cond _ a b=>M6 cf a&&M6 cf b
 | .block _ c=>M6 cf c
 | .loop c=>M6 cf c
 | .rangeFunc _ _ a b=>M6 cf a&&M6 cf b
 | .region id ops true=>match Tl cf.JB (id+2000000)with|true=>(Wy cf.hk (id+3000000)).all (TC ops)|false=>TJ ops (AR1 cf.hk id)&&decide (GI (ops.toList.take (AR1 cf.hk id))).Nodup
 |_=>true
section
variable (E:Fo)(T:Ih)(nt:Nat)(cf:Cf)
def An9 (c:Operand) (st:St) (ra rb:St→Prop):Prop:=
 match V5 [] st.l c with
 | .b true=>ra st
 | .b false=>rb st
 | .v (.bool t)=>
  (match c with
   | .tmp d=>E.br t (fun _=>ra ⟨Oe st.l d true,st.df⟩) (fun _=>rb ⟨Oe st.l d false,st.df⟩)
   |_=>E.br t (fun _=>ra st) (fun _=>rb st))
 |_=>False
def WO (id:Nat)(K:Exit→St→A5→Prop)(e:Exit)(st':St)(H':A5):Prop:=
 match e with
 | .exit id'=>(match Nat.beq id' id with|true=>K .normal st' H'|false=>K (.exit id') st' H')
 |e=>K e st' H'
def Be2 (c:Operand)(a b:Code):Bool:=
 match c with
 | .tmp d=>memP cf.J d (match Uv a with|0=>Uv b|n+1=>n+1)
 |_=>false
def run:Code→St→A5→(Exit→St→A5→Prop)→Prop
 | .skip,st,H,K=>K .normal st H
 | .ret,st,H,K=>K .ret st H
 | .exit id,st,H,K=>K (.exit id) st H
 | .seq a b,st,H,K=>run a st H fun e st' H'=>match e with| .normal=>run b st' H' K|e=>K e st' H'
 | .cond c a b,st,H,K=>
  (match Be2 cf c a b with
   |true=>E.sim (.cond c a b) st H K
   |false=>An9 E c st (fun st=>run a st H K) (fun st=>run b st H K))
 | .block id c,st,H,K=>
  (match Tl cf.JB id with
   |true=>E.sim (.block id c) st H K
   |false=>run c st H (WO id K))
 | .region _ ops false,st,H,K=>OR E T nt (Tl cf.A) (zAt cf.Z) ops ops.toList st.l H fun l' H'=>K .normal ⟨l',st.df⟩ H'
 | .region id ops true,st,H,K=>
  (match Tl cf.JB (id+2000000)with
   |true=>E.sim (.region id ops true) st H K
   |false=>
    OT E none (AX4 cf.Z (id+400000000)) st.l H fun l H=>Ay0 E T nt (Tl cf.A) (wAt cf.W id) (AR1 cf.hk id) ops l H fun l' H'=>K .normal ⟨l',st.df⟩ H')
 |c,st,H,K=>E.sim c st H K
def AA7:Code→St→A5→(Exit→St→A5→Prop)→Prop
 | .cond c a b,st,H,K=>An9 E c st (fun st=>run E T nt cf a st H K) (fun st=>run E T nt cf b st H K)
 | .block id c,st,H,K=>run E T nt cf c st H (WO id K)
 | .region id ops true,st,H,K=>
  (match Tl cf.JB (id+2000000)with
   |true=>UF E T nt (Tl cf.A) ops (Wy cf.hk (id+3000000)) ops.size (Array.replicate ops.size false) st.l H fun l' H'=>K .normal ⟨l',st.df⟩ H'
   |false=>run E T nt cf (.region id ops true) st H K)
 |c,st,H,K=>run E T nt cf c st H K
end
section
variable {P:Program}{nt:Nat}{rd:Option Nat}{T:Ih}{cf:Cf}
theorem Aa.frLe {c:Code}{fr:Fr}{st:St}{H:A5}{Q:Exit→Fr→A5→Prop}(hf:GJ fr st)(h:Aa P nt rd c (I9 st) H Q):Aa P nt rd c fr H Q:=
 h.less hf.s hf.df.symm fun _ _ h=>h
theorem GJ.refl (st:St):GJ (I9 st) st:=⟨fun _=>Wk.refl _,rfl⟩
theorem Aa.of_frz {c:Code} {ds:List Nat} {st:St} {H:A5} {Q:Exit→Fr→A5→Prop} {k:Fl→A5→Prop} (h:OT (I5 P nt rd) none ds st.l H k) (hk:∀l' H',k l' H'→Aa P nt rd c (I9 ⟨l',st.df⟩) H' Q):Aa P nt rd c (I9 st) H Q:=
 fun r g w a hr hR hF=>by
  obtain⟨g',l',H',s,hR',hF',h'⟩:=BM none ds st.l H g k (fun _ _ _ _ h=>by cases h) hR hF h;exact wpIn_mono (hk l' H' h' r g' w a (Aw7.mono hr s) hR' hF') fun _ _ _=>WV.later s
theorem Rt {c:Operand} {a b:Code} {st:St} {H:A5} {Q:Exit→Fr→A5→Prop} {ra rb:St→Prop} (h:An9 (I5 P nt rd) c st ra rb) (ha:∀st',I9 st'=I9 st→ra st'→Aa P nt rd a (I9 st') H Q) (hb:∀st',I9 st'=I9 st→rb st'→Aa P nt rd b (I9 st') H Q):Aa P nt rd (.cond c a b) (I9 st) H Q:=by
 have hev:ev (I9 st) c=(V5 [] st.l c).V:=(FF (df:=st.df) MI.nil c).symm
 unfold An9 at h
 split at h
 ·rename_i he;exact Aa.cond (t:=true) (by rw[hev,he];rfl) (fun _=>ha st rfl h) (fun e=>by cases e)
 ·rename_i he;exact Aa.cond (t:=false) (by rw[hev,he];rfl) (fun e=>by cases e) (fun _=>hb st rfl h)
 ·rename_i t he
  split at h
  ·rename_i d
   have he':CA st.l d= .bool t:=by
    have:=Aj8 (l:=st.l) MI.nil d
    rw[show AO1 [] st.l d= .v (.bool t)from he]at this
    exact this.symm
   obtain⟨h1,h2⟩:=h;refine Aa.cond (t:=t) (by rw[hev,he];rfl) (fun e=>?_) (fun e=>?_)
   ·subst e;have ef:I9 ⟨Oe st.l d true,st.df⟩=I9 st:=Qv he';have:=ha _ ef (h1 rfl)
    rwa[ef]at this
   subst e;have ef:I9 ⟨Oe st.l d false,st.df⟩=I9 st:=Qv he';have:=hb _ ef (h2 rfl)
   rwa[ef]at this
  obtain⟨h1,h2⟩:=h;exact Aa.cond (t:=t) (by rw[hev,he];rfl) (fun e=>ha st rfl (h1 e)) (fun e=>hb st rfl (h2 e))
 grind
theorem P0 (hT:Lc P T) (hm:P.follows .mixedOrders=true):∀(c:Code) (st:St) (H:A5) (K:Exit→St→A5→Prop),M6 cf c=true→run (I5 P nt rd) T nt cf c st H K→Aa P nt rd c (I9 st) H fun e fr' H'=>∃st',GJ fr' st'∧K e st' H'
 | .skip,st,H,K,hd,h=>Aa.skip ⟨st,GJ.refl _,h⟩
 | .ret,st,H,K,hd,h=>Aa.ret ⟨st,GJ.refl _,h⟩
 | .exit id,st,H,K,hd,h=>Aa.exit ⟨st,GJ.refl _,h⟩
 | .seq a b,st,H,K,hd,h=>by
  simp only[M6,L9]at hd
  refine Aa.seq ((P0 hT hm a st H _ hd.1 h).mono fun e fr' H' ⟨st',hf,hk⟩=>?_)
  cases e with
  |normal=>exact Aa.frLe hf (P0 hT hm b st' H' K hd.2 hk)
  |_=>exact⟨st',hf,hk⟩
 | .cond c a b,st,H,K,hd,h=>by
  simp only[M6,L9]at hd
  unfold run at h
  split at h
  ·exact h
  exact Rt h (fun st' _ h=>P0 hT hm a st' H K hd.1 h) (fun st' _ h=>P0 hT hm b st' H K hd.2 h)
 | .block id c,st,H,K,hd,h=>by
  unfold run at h
  split at h
  ·exact h
  refine Aa.block ((P0 hT hm c st H _ hd h).mono fun e fr' H' ⟨st',hf,hk⟩=>?_)
  cases e with
  |exit id'=>
   unfold WO at hk
   dsimp only at hk ⊢
   split at hk
   ·rename_i e;rw[A2 (Fv e)];grind
   rename_i e;rw[A0 (fun x=>by simp_all)];grind
  |_=>exact⟨st',hf,hk⟩
 | .region id ops false,st,H,K,hd,h=>by
  unfold run at h
  intro r g w a hr hR hF;refine wpIn_region ?_
  have:=ZR (P:=P) (nt:=nt) (rd:=rd) (T:=T) (A:=Tl cf.A) (Z:=zAt cf.Z) (df:=st.df) hT (ops:=ops) (r:=r) (K:=fun l' H'=>K .normal ⟨l',st.df⟩ H') (Q:=WV nt g w fun e fr' H'=>∃st',GJ fr' st'∧K e st' H') (g0:=g) (w0:=w)
   (fun g' w' a' l' H' s hR hF hK=>⟨g',_,H',s,hR,hF,⟨l',st.df⟩,GJ.refl _,hK⟩) ops.size 0 st.l H (by omega) (by grind) g w a (Y7.refl _ _) hR hF
  rwa[←Gr]at this
 | .region id ops true,st,H,K,hd,h=>by
  cases hj2:Tl cf.JB (id+2000000)with
  |true=>
   unfold run at h
   rw[hj2]at h
   exact h
  |false=>
   simp only[M6,hj2,L9,H8]at hd
   unfold run at h
   rw[hj2]at h
   refine Aa.of_frz h fun l1 H1 h=>?_;refine(Aa.of_any hm (Ap3 (df:=st.df) hT hd.1 hd.2 h)).mono fun e fr H' ⟨he,l',hfr,hk⟩=>?_;subst he;subst hfr;exact⟨⟨l',st.df⟩,GJ.refl _,hk⟩
 | .loop c,st,H,K,hd,h=>h
 | .rangeFunc g ps a b,st,H,K,hd,h=>h
 | .scope c,st,H,K,hd,h=>h
 | .label l,st,H,K,hd,h=>h
 | .goto l,st,H,K,hd,h=>h
 | .refuse w,st,H,K,hd,h=>h
theorem Ab5 (hT:Lc P T) (hm:P.follows .mixedOrders=true):∀(c:Code) (st:St) (H:A5) (K:Exit→St→A5→Prop),M6 cf c=true→AA7 (I5 P nt rd) T nt cf c st H K→Aa P nt rd c (I9 st) H fun e fr' H'=>∃st',GJ fr' st'∧K e st' H'
 | .cond c a b,st,H,K,hd,h=>by
  simp only[M6,L9]at hd
  unfold AA7 at h
  exact Rt h (fun st' _ h=>P0 hT hm a st' H K hd.1 h) (fun st' _ h=>P0 hT hm b st' H K hd.2 h)
 | .block id c,st,H,K,hd,h=>by
  unfold AA7 at h
  refine Aa.block ((P0 hT hm c st H _ hd h).mono fun e fr' H' ⟨st',hf,hk⟩=>?_)
  cases e with
  |exit id'=>
   unfold WO at hk
   dsimp only at hk ⊢
   split at hk
   ·rename_i e;rw[A2 (Fv e)];grind
   rename_i e;rw[A0 (fun x=>by simp_all)];grind
  |_=>exact⟨st',hf,hk⟩
 | .skip,st,H,K,hd,h=>P0 hT hm _ st H K hd h
 | .ret,st,H,K,hd,h=>P0 hT hm _ st H K hd h
 | .exit id,st,H,K,hd,h=>P0 hT hm _ st H K hd h
 | .seq a b,st,H,K,hd,h=>P0 hT hm _ st H K hd h
 | .region id ops false,st,H,K,hd,h=>P0 hT hm _ st H K hd h
 | .region id ops true,st,H,K,hd,h=>by
  unfold AA7 at h
  dsimp only at h
  cases hj2:Tl cf.JB (id+2000000)with
  |false=>rw[hj2]at h;exact P0 hT hm _ st H K hd h
  |true=>
   rw[hj2]at h
   simp only[M6,hj2]at hd
   have h':=Gt (df:=st.df) hT (fun i hi=>List.all_eq_true.1 hd i (YN hi)) _ _ _ _ h;refine(Aa.of_any hm (KN.all (Q:=fun e fr H'=>match e with| .normal=>∃l',fr=I9 ⟨l',st.df⟩∧K .normal ⟨l',st.df⟩ H'|_=>False) h')).mono fun e fr H' hq=>?_
   cases e with
   |normal=>obtain⟨l',hfr,hk⟩:=hq;subst hfr;exact⟨⟨l',st.df⟩,GJ.refl _,hk⟩
   |_=>exact hq.elim
 | .loop c,st,H,K,hd,h=>h
 | .rangeFunc g ps a b,st,H,K,hd,h=>h
 | .scope c,st,H,K,hd,h=>h
 | .label l,st,H,K,hd,h=>h
 | .goto l,st,H,K,hd,h=>h
 | .refuse w,st,H,K,hd,h=>h
def XU (K:V→A5→Prop)(H:A5)(vs:List V):Prop:=
 match vs with
 |[x]=>K x H
 |l=>K (.tup l) H
theorem SK {K:V→A5→Prop}{H:A5}{vs:List V}(h:XU K H vs):K (Rf vs) H:=by
 unfold XU at h
 grind[Rf]
def Bf4 (v:V)(k:List V→Prop)(vs:List V):Prop:=k (v::vs)
def Us (E:Fo)(T:Ih)(l:Fl)(H:A5):List ResultVar→(List V→Prop)→Prop
 |[],k=>k []
 | .tmp t::r,k=>Us E T l H r fun vs=>Bf4 (CA l t) k vs
 | .cell a t::r,k=>(match CA l a with| .elem _ _ _ _=>False|x=>Ah7 E T t x H fun v=>Us E T l H r fun vs=>k (v::vs))
theorem Kj (hT:Lc P T) {l:Fl} {H:A5} {df:List Nat}:∀(rs:List ResultVar) (k:List V→Prop),Us (I5 P nt rd) T l H rs k→∃vs,Co P (I9 ⟨l,df⟩) H rs=some vs∧k vs
 |[],k,h=>⟨[],rfl,h⟩
 | .tmp t::r,k,h=>by
  obtain⟨vs,h1,h2⟩:=Kj (df:=df) hT r _ h;exact⟨_,by simp_all[Co,I9],h2⟩
 | .cell a t::r,k,h=>by
  unfold Us at h
  split at h
  ·exact h.elim
  rename_i x hne;obtain⟨v,h1,h2⟩:=LP hT h
  have h1:Jj P H t (CA l a)=some v:=h1.elim (fun h=>h) fun h=>by
   unfold NK at h
   simp_all
  obtain⟨vs,h3,h4⟩:=Kj (df:=df) hT r _ h2
  simp_all[Co,I9]
theorem Aa.post_le {c:Code}{fr:Fr}{H:A5}{K:Exit→St→A5→Prop}(h:Aa P nt rd c fr H fun e fr' H'=>∃st',GJ fr' st'∧K e st' H'):Aa P nt rd c fr H fun e fr' H'=>∃st',fr'=I9 st'∧K e st' H':=by
 intro r g w a hr hR hF;refine wpIn_mono (h r g w a hr hR hF) fun e a' w' ⟨g',fr',H',s,hR',hF',st',hle,hk⟩=>⟨g',I9 st',H',s,hR',⟨hF'.size,fun t=>hle.s t _ _ _ (hF'.s t),?_⟩,st',rfl,hk⟩;have:=hF'.df
 rw[hle.df]at this
 exact this
def Dh:List V→Nat→Fl
 |[],_=>[]
 |v::l,i=>(i,.v v)::Dh l (i+1)
theorem Ve:∀(args:List V) (i t:Nat),CA (Dh args i) t=if i≤t then args.getD (t-i) .bad else .bad
 |[],i,t=>by simp[CA,Dh]
 | v::l,i,t=>by
  simp only[Dh,CA]
  by_cases h:t=i
  ·simp_all
  have hb:Nat.beq t i=false:=by
   cases hb:Nat.beq t i with
   |false=>rfl
   |true=>simp_all
  simp only[hb];rw[Ve l (i+1) t]
  grind
theorem AH3 (args:List V):entry args=I9 ⟨Dh args 0,[]⟩:=by
 simp only[entry,I9,Fr.mk.injEq,O9]
 funext t
 rw[Ve];simp
def Qx (E:Fo)(T:Ih)(rs:List ResultVar)(K:V→A5→Prop)(e:Exit)(st:St)(H:A5):Prop:=
 match e with
 | .normal=>(match st.df with|[]=>Us E T st.l H rs fun vs=>XU K H vs|df=>E.fin df H fun H'=>Us E T st.l H' rs fun vs=>XU K H' vs)
 | .ret=>(match st.df with|[]=>Us E T st.l H rs fun vs=>XU K H vs|df=>E.fin df H fun H'=>Us E T st.l H' rs fun vs=>XU K H' vs)
 |_=>False
theorem Av1 (hT:Lc P T) {fn:Func} {K:V→A5→Prop} {e:Exit} {st:St} {H:A5} (h:Qx (I5 P nt rd) T fn.results.toList K e st H):Ret P fn K e (I9 st) H:=by
 have key:∀(h:match st.df with|[]=>Us (I5 P nt rd) T st.l H fn.results.toList fun vs=>XU K H vs|df=>(I5 P nt rd).fin df H fun H'=>Us (I5 P nt rd) T st.l H' fn.results.toList fun vs=>XU K H' vs),
  AS5 H (I9 st).df∧∃l,Co P (I9 st) (clear H (I9 st).df) fn.results.toList=some l∧K (Rf l) (clear H (I9 st).df):=by
  obtain⟨l,df⟩:=st;intro h
  cases df with
  |nil=>
   have hcl:clear H []=H:=by funext x;simp[clear]
   obtain⟨vs,h1,h2⟩:=Kj (df:=[]) hT _ _ h;refine⟨⟨by simp[I9],fun id hi=>by simp[I9]at hi⟩,vs,?_,?_⟩
   ·simp_all[I9]
   show K _ (clear H [])
   rw[hcl];exact SK h2
  |cons d ds=>
   obtain⟨hd,h⟩:=h;obtain⟨vs,h1,h2⟩:=Kj (df:=d::ds) hT _ _ h;exact⟨hd,vs,h1,SK h2⟩
 cases e<;>first|exact h.elim|skip
 ·exact⟨.inl rfl,key h⟩
 exact⟨.inr rfl,key h⟩
theorem Y6 {f:FuncId}{fn:Func}{c:Code}{n:Nat}{rs:List ResultVar}{args:List V}{H:A5}{K:V→A5→Prop}(cf:Cf)(hT:Lc P T)(hm:P.follows .mixedOrders=true)(hf:P.funcs[f]? =some fn)(hb:fn.body=some c)(hd:M6 cf c=true)(hcall:∀vals w,(callFunc f vals).run P w= .ok (.enter f vals) w)
 (hnt:fn.ntmps=n) (hrs:fn.results.toList=rs) (hn:Nat.ble args.length n=true) (h:∀E:Fo,E=I5 P n none→run E T n cf c ⟨Dh args 0,[]⟩ H (Qx E T rs K)):M8 P f args H K:=by
 subst hnt;subst hrs;refine UA hf hb hcall (LH hn) ?_;rw[AH3];refine(Aa.post_le (P0 hT hm c _ H _ hd (h _ rfl))).mono fun e fr' H' ⟨st',hfr,hq⟩=>?_;subst hfr;exact Av1 hT hq
end
theorem Dx.wk {x y:V}(h:Dx x y):Wk x y:=fun _ _ _ hv=>hv.le h
theorem Args.le {g:Gh}{w:World}{vals:Array Value}{xs ys:List V}(h:Args g w vals xs)(k:M1 xs ys):Args g w vals ys:=
 ⟨h.1.trans k.length,fun i hi=>(h.2 i (k.length▸hi)).le (k.at i)⟩
theorem M8.args {P:Program}{f:FuncId}{xs ys:List V}{H:A5}{K:V→A5→Prop}(h:M8 P f ys H K)(k:M1 xs ys):M8 P f xs H K:=
 fun g w vals hR hA=>h g w vals hR (hA.le k)
theorem Cw.args {P:Program}{fv:V}{xs ys:List V}{H:A5}{K:V→A5→Prop}(h:Cw P fv ys H K)(k:M1 xs ys):Cw P fv xs H K:=
 fun g w v vals hR hv hA=>h g w v vals hR hv (hA.le k)
theorem B9.args {P:Program}{f:FuncId}{xs ys:List V}{r:V}(h:B9 P f ys r)(k:M1 xs ys):B9 P f xs r:=fun H=>(h H).args k
theorem AL.args {P:Program}{fv:V}{xs ys:List V}{r:V}(h:AL P fv ys r)(k:M1 xs ys):AL P fv xs r:=fun H=>(h H).args k
def Ik (H H':A5):Prop:=∀id b,H id=some b→H' id=some b
theorem Ik.refl (H:A5):Ik H H:=fun _ _ h=>h
theorem Ik.trans {H H' H'':A5}(h:Ik H H')(k:Ik H' H''):Ik H H'':=fun id b e=>k id b (h id b e)
theorem M8.le {P:Program}{f:FuncId}{args:List V}{H:A5}{K:V→A5→Prop}(h:M8 P f args H fun x H'=>∃y H2,Dx x y∧Ik H2 H'∧K y H2):M8 P f args H K:=
 fun g w vals hR hA=>(h g w vals hR hA).mono fun v w' ⟨g',x,H',s,hR',hv,y,H2,hxy,hH,hK⟩=>⟨g',y,H2,s,hR'.less hH,hv.le hxy,hK⟩
inductive En where
 |tl (t:G6)
 |blk (id:Nat) (b:Il)
def En.id:En→Option (Nat×Il)
 | .tl (.tok t)=>some (t,.spare)
 | .tl _=>none
 | .blk id b=>some (id,b)
structure BE (H0:A5) (L:List En) (H:A5):Prop where
 ext:Ik H0 H
 has:∀(i:Nat) e id b,L[i]? =some e→e.id=some (id,b)→H0 id=none∧H id=some b
 inj:∀(i j:Nat) e e' id b b',L[i]? =some e→L[j]? =some e'→e.id=some (id,b)→e'.id=some (id,b')→i=j
 only:∀x b,H x=some b→H0 x=some b∨∃(i:Nat) (e:En),L[i]? =some e∧e.id=some (x,b)
theorem BE.start (H:A5):BE H [] H:=⟨Ik.refl H,fun i e id b h=>by simp at h,fun i j e e' id b b' h=>by simp at h,fun x b h=>.inl h⟩
theorem BE.free {H0 H:A5}{L:List En}(h:BE H0 L H){id:Nat}(hn:H id=none):H0 id=none:=by
 cases e:H0 id with
 |none=>rfl
 |some b=>rw[h.ext id b e]at hn;cases hn
theorem BE.tl0 {H0 H:A5} {L:List En} (h:BE H0 L H) {t:G6} (ht:(En.tl t).id=none):BE H0 (.tl t::L) H:=by
 refine⟨h.ext,fun i e id b hi he=>?_,fun i j e e' id b b' hi hj he he'=>?_,fun x b hx=>(h.only x b hx).imp (fun h=>h) fun⟨i,e,h1,h2⟩=>⟨i+1,e,by grind,h2⟩⟩
 ·cases i with
  |zero=>simp_all
  |succ i=>exact h.has i e id b (by grind) he
 cases i with
 |zero=>simp_all
 |succ i=>
  cases j with
  |zero=>simp_all
  |succ j=>rw[h.inj i j e e' id b b' (by grind) (by grind) he he']
theorem BE.push {H0 H:A5} {L:List En} (h:BE H0 L H) {en:En} {id:Nat} {b:Il} (hn:H id=none) (he:en.id=some (id,b)):BE H0 (en::L) (upd H id (some b)):=by
 refine⟨fun x bb hx=>?_,fun i e x bb hi hx=>?_,fun i j e e' x bb bb' hi hj hx hx'=>?_,fun x bb hx=>?_⟩
 rotate_right
 ·by_cases hxi:x=id
  ·subst hxi;rw[G2]at hx;cases hx;exact .inr ⟨0,en,by simp,he⟩
  rw[C9 _ _ hxi]at hx
  exact(h.only x bb hx).imp (fun h=>h) fun⟨i,e,h1,h2⟩=>⟨i+1,e,by grind,h2⟩
 ·rw[C9 _ _ (AK (h.free hn) hx)];exact h.ext x bb hx
 ·cases i with
  |zero=>simp at hi;subst hi;rw[he]at hx;cases hx;exact⟨h.free hn,G2 _ _ _⟩
  |succ i=>
   have:=h.has i e x bb (by grind) hx
   grind[upd]
 cases i with
 | zero=>
  cases j with
  |zero=>rfl
  |succ j=>
   simp at hi;subst hi;rw[he]at hx;cases hx
   have:=(h.has j e' _ bb' (by grind) hx').2
   rw[hn]at this;cases this
 | succ i=>
  cases j with
  |zero=>
   simp at hj;subst hj;rw[he]at hx';cases hx'
   have:=(h.has i e _ bb (by grind) hx).2
   rw[hn]at this;cases this
  |succ j=>rw[h.inj i j e e' x bb bb' (by grind) (by grind) hx hx']
theorem BE.get {H0 H:A5}{L:List En}(h:BE H0 L H)(i:Nat){id:Nat}{b:Il}(hi:L[i]? =some (.blk id b)):H id=some b:=(h.has i _ id b hi rfl).2
theorem BE.set {H0 H:A5} {L:List En} (h:BE H0 L H) (i:Nat) {id:Nat} {b b':Il} (hi:L[i]? =some (.blk id b)):BE H0 (L.set i (.blk id b')) (upd H id (some b')):=by
 have hid:=h.has i _ id b hi rfl
 have hlt:i<L.length:=by
  grind
 have Nw:∀(j:Nat) e,(L.set i (.blk id b'))[j]? =some e→(j=i∧e= .blk id b')∨(j≠i∧L[j]? =some e):=fun j e hj=>by
  rw[Ad]at hj
  grind
 refine⟨fun x bb hx=>?_,fun j e x bb hj hx=>?_,fun j k e e' x bb bb' hj hk hx hx'=>?_,fun x bb hx=>?_⟩
 rotate_right
 ·by_cases hxi:x=id
  ·grind[En.id,upd]
  rw[C9 _ _ hxi]at hx
  refine(h.only x bb hx).imp (fun h=>h) fun⟨j,e,h1,h2⟩=>⟨j,e,?_,h2⟩;rw[Ad]
  grind[En.id]
 ·rw[C9 _ _ (AK hid.1 hx)];exact h.ext x bb hx
 ·rcases Nw j e hj with⟨_,rfl⟩|⟨hne,hj'⟩
  ·grind[upd,En.id]
  have:=h.has j e x bb hj' hx
  have hxid:x≠id:=fun eq=>by subst eq;exact hne (h.inj j i e _ x bb b hj' hi hx rfl)
  simp_all[upd]
 rcases Nw j e hj with⟨hji,rfl⟩|⟨hne,hj'⟩<;>rcases Nw k e' hk with⟨hki,rfl⟩|⟨hne',hk'⟩
 ·rw[hji,hki]
 ·cases hx;exact absurd (h.inj k i e' _ id bb' b hk' hi hx' rfl) hne'
 ·cases hx';exact absurd (h.inj j i e _ id bb b hj' hi hx rfl) hne
 exact h.inj j k e e' x bb bb' hj' hk' hx hx'
theorem BE.tok {H0 H:A5} {L:List En} (h:BE H0 L H) (i:Nat) {tl:G6} (hi:L[i]? =some (.tl tl)) {t:Nat} (ht:M0 H tl t=none):
 BE H0 (L.set i (.tl (.tok t))) (upd (M0 H tl) t (some .spare)):=by
 have hlt:i<L.length:=by
  grind
 have Nw:∀(j:Nat) e,(L.set i (.tl (.tok t)))[j]? =some e→(j=i∧e= .tl (.tok t))∨(j≠i∧L[j]? =some e):=fun j e hj=>by
  rw[Ad]at hj
  grind
 have left:∀x b,H x=some b→(∀t',tl= .tok t'→x≠t')→M0 H tl x=some b:=fun x b hx hne=>by
  cases tl with
  |tok t'=>simp_all[M0,C9]
  |_=>exact hx
 have h0:∀x b,H0 x=some b→M0 H tl x=some b:=fun x b hx=>left x b (h.ext x b hx) fun t' e eq=>by
  subst e;subst eq
  rw[(h.has i _ x _ hi rfl).1]at hx;cases hx
 have hoth:∀(j:Nat) e x b,j≠i→L[j]? =some e→e.id=some (x,b)→H0 x=none∧M0 H tl x=some b:=fun j e x b hne hj hx=>by
  have:=h.has j e x b hj hx;refine⟨this.1,left x b this.2 fun t' et eq=>?_⟩;subst et;subst eq;exact hne (h.inj j i e _ x b _ hj hi hx rfl)
 have hid0:H0 t=none:=by
  cases e:H0 t with
  |none=>rfl
  |some b=>rw[h0 t b e]at ht;cases ht
 refine⟨fun x bb hx=>?_,fun j e x bb hj hx=>?_,fun j k e e' x bb bb' hj hk hx hx'=>?_,fun x bb hx=>?_⟩
 rotate_right
 ·by_cases hxi:x=t
  ·grind[En.id,upd]
  rw[C9 _ _ hxi]at hx
  have hx2:H x=some bb∧∀t',tl= .tok t'→x≠t':=by
   cases tl with
   |tok t'=>
    simp_all[M0,upd]
   |_=>exact⟨hx,fun t'' e'=>by cases e'⟩
  refine(h.only x bb hx2.1).imp (fun h=>h) fun⟨j,e,h1,h2⟩=>⟨j,e,?_,h2⟩;rw[Ad]
  split
  ·rename_i hij;subst hij;rw[hi]at h1;cases h1
   cases tl with
   |tok t'=>cases h2;simp_all
   |_=>cases h2
  exact h1
 ·rw[C9 _ _ (AK hid0 hx)];simp_all
 ·grind[upd,En.id]
 rcases Nw j e hj with⟨hji,rfl⟩|⟨hne,hj'⟩<;>rcases Nw k e' hk with⟨hki,rfl⟩|⟨hne',hk'⟩
 ·rw[hji,hki]
 ·grind[En.id]
 ·grind[En.id]
 exact h.inj j k e e' x bb bb' hj' hk' hx hx'
theorem BE.del {H0 H:A5} {L:List En} (h:BE H0 L H) (i:Nat) {id:Nat} {b:Il} (hi:L[i]? =some (.blk id b)):BE H0 (L.eraseIdx i) (upd H id none):=by
 have hid:=h.has i _ id b hi rfl
 have Nw:∀(j:Nat) e,(L.eraseIdx i)[j]? =some e→∃j',j'≠i∧L[j']? =some e∧(j'=if j<i then j else j+1):=fun j e hj=>by
  rw[LJ]at hj
  grind
 refine⟨fun x bb hx=>?_,fun j e x bb hj hx=>?_,fun j k e e' x bb bb' hj hk hx hx'=>?_,fun x bb hx=>?_⟩
 rotate_right
 ·by_cases hxi:x=id
  ·simp_all[upd]
  rw[C9 _ _ hxi]at hx
  refine(h.only x bb hx).imp (fun h=>h) fun⟨j,e,h1,h2⟩=>?_
  have hji:j≠i:=fun eq=>by grind[En.id]
  rcases BG j i with hlt|hge
  ·exact⟨j,e,by rw[LJ,A2 hlt];exact h1,h2⟩
  exact⟨j-1,e,by rw[LJ,A0 (by omega),show j-1+1=j by omega];exact h1,h2⟩
 ·rw[C9 _ _ (AK hid.1 hx)];exact h.ext x bb hx
 ·obtain⟨j',hne,hj',_⟩:=Nw j e hj;have:=h.has j' e x bb hj' hx
  have hxid:x≠id:=fun eq=>by subst eq;exact hne (h.inj j' i e _ x bb b hj' hi hx rfl)
  simp_all[upd]
 obtain⟨j',hne,hj',ej⟩:=Nw j e hj;obtain⟨k',hne',hk',ek⟩:=Nw k e' hk;have:=h.inj j' k' e e' x bb bb' hj' hk' hx hx'
 rw[ej,ek]at this
 split at this<;>split at this<;>omega
def OI (H:A5)(e:En):A5:=
 match e.id with
 |some (id,_)=>upd H id none
 |none=>H
theorem BE.tail {H0 H:A5} {L:List En} {e:En} (h:BE H0 (e::L) H):BE H0 L (OI H e):=by
 have inj0:∀(j:Nat) e' x b b',L[j]? =some e'→e'.id=some (x,b)→e.id=some (x,b')→False:=fun j e' x b b' hj hx hx'=>by
  have:=h.inj (j+1) 0 e' e x b b' (by grind) (by simp) hx hx';omega
 cases he:e.id with
 |none=>
  have ed:OI H e=H:=by simp_all[OI]
  rw[ed];refine⟨h.ext,fun i e id b hi=>h.has (i+1) e id b (by grind),fun i j e e' id b b' hi hj he he'=>?_,fun x b hx=>(h.only x b hx).imp (fun h=>h) fun⟨i,e',h1,h2⟩=>?_⟩
  ·have:=h.inj (i+1) (j+1) e e' id b b' (by grind) (by grind) he he';omega
  grind
 | some p=>
  obtain⟨id,b0⟩:=p
  have ed:OI H e=upd H id none:=by grind[OI]
  rw[ed];have hid:=h.has 0 e id b0 (by simp) he;refine⟨fun x b hx=>?_,fun i e' x b hi hx=>?_,fun i j e e' id b b' hi hj he he'=>?_,fun x b hx=>?_⟩
  ·rw[C9 _ _ (AK hid.1 hx)];exact h.ext x b hx
  ·have:=h.has (i+1) e' x b (by grind) hx
   have hne:x≠id:=fun eq=>by grind
   simp_all[upd]
  ·have:=h.inj (i+1) (j+1) e e' id b b' (by grind) (by grind) he he';omega
  by_cases hxi:x=id
  ·simp_all[upd]
  rw[C9 _ _ hxi]at hx
  refine(h.only x b hx).imp (fun h=>h) fun⟨i,e',h1,h2⟩=>?_
  grind
theorem Ik.upd {H H':A5}(h:Ik H H')(id:Nat)(b:Option Il):Ik (upd H id b) (upd H' id b):=fun x bb hx=>by
 by_cases e:x=id
 ·grind[G2]
 rw[C9 _ _ e]at hx ⊢;exact h x bb hx
theorem Ik.less {H H':A5}(h:Ik H H')(id:Nat):Ik (Go.Ab.upd H id none) H':=fun x bb hx=>by
 by_cases e:x=id
 ·grind[G2]
 rw[C9 _ _ e]at hx;exact h x bb hx
theorem Ik.none {H H':A5}(h:Ik H H'){id:Nat}(hn:H' id=none):H id=none:=by
 cases e:H id with
 |none=>rfl
 |some b=>rw[h id b e]at hn;cases hn
theorem M5:G7 (Eq:A5→A5→Prop):=⟨fun h id b hb=>h▸hb,fun id b h _=>by subst h;rfl⟩
def C5 (Φ:A5→A5→Prop)(F:A5)(L:List En)(H:A5):Prop:=G7 Φ∧∃F' H1,BE F L F'∧Φ F' H1∧Ik H1 H
section
variable {Φ:A5→A5→Prop}{F H:A5}{L:List En}
theorem C5.start (hs:G7 Φ)(h:Φ F H):C5 Φ F [] H:=⟨hs,F,H,BE.start F,h,Ik.refl H⟩
theorem C5.ext (h:C5 Φ F L H):Ik F H:=by
 obtain⟨hs,F',H1,h0,h1,h2⟩:=h;exact h0.ext.trans fun id b hb=>h2 _ _ (hs.le h1 id b hb)
theorem C5.tl0 (h:C5 Φ F L H){t:G6}(ht:(En.tl t).id=none):C5 Φ F (.tl t::L) H:=by
 obtain⟨hs,F',H1,h0,h1,h2⟩:=h;exact⟨hs,F',H1,h0.tl0 ht,h1,h2⟩
theorem C5.push (h:C5 Φ F L H){en:En}{id:Nat}{b:Il}(hn:H id=none)(he:en.id=some (id,b)):C5 Φ F (en::L) (upd H id (some b)):=by
 obtain⟨hs,F',H1,h0,h1,h2⟩:=h;have hn1:=h2.none hn;have hn':=hs.fresh h1 hn1;exact⟨hs,_,_,h0.push hn' he,hs.chg id (some b) h1 (by rw[hn1,hn']),h2.upd id _⟩
theorem C5.get (h:C5 Φ F L H)(i:Nat){id:Nat}{b:Il}(hi:L[i]? =some (.blk id b)):H id=some b:=by
 obtain⟨hs,F',H1,h0,h1,h2⟩:=h;exact h2 _ _ (hs.le h1 _ _ (h0.get i hi))
theorem C5.set (h:C5 Φ F L H)(i:Nat){id:Nat}{b b':Il}(hi:L[i]? =some (.blk id b)):C5 Φ F (L.set i (.blk id b')) (upd H id (some b')):=by
 obtain⟨hs,F',H1,h0,h1,h2⟩:=h;have e:=h0.get i hi;exact⟨hs,_,_,h0.set i hi,hs.chg id _ h1 (by rw[e,hs.le h1 _ _ e]),h2.upd id _⟩
theorem C5.del (h:C5 Φ F L H)(i:Nat){id:Nat}{b:Il}(hi:L[i]? =some (.blk id b)):C5 Φ F (L.eraseIdx i) (upd H id none):=by
 obtain⟨hs,F',H1,h0,h1,h2⟩:=h;have e:=h0.get i hi;exact⟨hs,_,_,h0.del i hi,hs.chg id _ h1 (by rw[e,hs.le h1 _ _ e]),h2.upd id _⟩
theorem C5.tail {e:En} (h:C5 Φ F (e::L) H):C5 Φ F L H:=by
 obtain⟨hs,F',H1,h0,h1,h2⟩:=h
 cases he:e.id with
 |none=>
  have:=h0.tail
  grind[C5,OI]
 |some p=>
  obtain⟨id,b⟩:=p;have h3:=h0.tail
  simp only[OI,he]at h3
  have e1:=(h0.has 0 e id b (by simp) he).2;exact⟨hs,_,_,h3,hs.chg id none h1 (by rw[e1,hs.le h1 _ _ e1]),h2.less id⟩
theorem C5.tok (h:C5 Φ F L H) (i:Nat) {tl:G6} (hi:L[i]? =some (.tl tl)) {t:Nat} (ht:M0 H tl t=none):C5 Φ F (L.set i (.tl (.tok t))) (upd (M0 H tl) t (some .spare)):=by
 obtain⟨hs,F',H1,h0,h1,h2⟩:=h
 have h3:Φ (M0 F' tl) (M0 H1 tl):=by
  cases tl with
  |tok t'=>
   have e:=(h0.has i _ t' _ hi rfl).2;exact hs.chg t' none h1 (by rw[e,hs.le h1 _ _ e])
  |_=>exact h1
 have h4:Ik (M0 H1 tl) (M0 H tl):=by
  cases tl with
  |tok t'=>exact h2.upd t' none
  |_=>exact h2
 have ht1:=h4.none ht;have ht':=hs.fresh h3 ht1;exact⟨hs,_,_,h0.tok i hi ht',hs.chg t _ h3 (by rw[ht1,ht']),h4.upd t _⟩
theorem C5.stable (hs:G7 Φ) (L:List En):G7 fun F H=>C5 Φ F L H:=by
 refine⟨fun h id b hb=>h.ext id b hb,fun{F H} id b h e=>?_⟩;obtain⟨hs,F',H1,h0,h1,h2⟩:=h
 have hne:∀(i:Nat) en x bb,L[i]? =some en→en.id=some (x,bb)→x≠id:=fun i en x bb hi he eq=>by
  subst eq;have h3:=h0.has i en x bb hi he;have h4:=h2 _ _ (hs.le h1 _ _ h3.2)
  rw[e,h3.1]at h4;cases h4
 have hF':F' id=F id:=by
  cases hf:F id with
  |some x=>exact h0.ext id x hf
  | none=>
   cases hf':F' id with
   |none=>rfl
   |some x=>
    rcases h0.only id x hf' with h|⟨i,en,hi,he⟩
    ·rw[hf]at h;cases h
    grind
 have hH1:H1 id=F id:=by
  cases hf:F id with
  |some x=>rw[←hF']at hf;exact hs.le h1 id x hf
  |none=>rw[hf]at e;exact h2.none e
 refine⟨hs,upd F' id b,upd H1 id b,⟨fun x bb hx=>?_,fun i en x bb hi he=>?_,h0.inj,fun x bb hx=>?_⟩,hs.chg id b h1 (by rw[hF',hH1]),h2.upd id b⟩
 ·by_cases hxi:x=id
  ·simp_all[upd]
  rw[C9 _ _ hxi]at hx ⊢;exact h0.ext x bb hx
 ·have:=h0.has i en x bb hi he;have hxi:=hne i en x bb hi he;rw[C9 _ _ hxi,C9 _ _ hxi];exact this
 by_cases hxi:x=id
 ·simp_all[upd]
 rw[C9 _ _ hxi]at hx ⊢;exact h0.only x bb hx
theorem C5.out:∀{L:List En},C5 Φ F L H→∃H1,Φ F H1∧Ik H1 H
 | [],h=>by
  obtain⟨hs,F',H1,h0,h1,h2⟩:=h
  have:F'=F:=by
   funext x
   cases hf:F' x with
   |some b=>
    rcases h0.only x b hf with h|⟨i,e,hi,_⟩
    ·exact h.symm
    grind
   |none=>exact(h0.free hf).symm
  grind
 |_::L,h=>C5.out (L:=L) h.tail
end
theorem G7.ex {ι:Type}{p:ι→Prop}{I:ι→A5→A5→Prop}(h:∀i,G7 (I i)):G7 fun F H=>∃i,p i∧I i F H:=
 ⟨fun⟨i,_,hi⟩=>(h i).le hi,fun id b ⟨i,hp,hi⟩ e=>⟨i,hp,(h i).chg id b hi e⟩⟩
theorem G7.con {p:Prop}{I:A5→A5→Prop}(h:G7 I):G7 fun F H=>p∧I F H:=
 ⟨fun⟨_,hi⟩=>h.le hi,fun id b ⟨hp,hi⟩ e=>⟨hp,h.chg id b hi e⟩⟩
def T3:G6→Prop
 | .ro=>False
 |_=>True
theorem C5.appOk {Φ:A5→A5→Prop}{F H:A5}{L:List En}(h:C5 Φ F L H)(i:Nat){tl:G6}(hi:L[i]? =some (.tl tl))(ha:T3 tl):Kd H tl:=by
 obtain⟨hs,F',H1,h0,h1,h2⟩:=h
 cases tl with
 |tok t=>exact h2 _ _ (hs.le h1 _ _ (h0.has i _ t _ hi rfl).2)
 |nil=>trivial
 |full=>trivial
 |ro=>exact ha
end Go.Ab
namespace Go.Ab
def C3 {α:Type}(l:List α)(i:Int):Option α:=if 0≤i then l[i.toNat]? else none
def Q0 {α:Type} (l:List α) (lo hi mx:Option Int):Option (List α):=
 if 0≤lo.getD 0∧lo.getD 0≤hi.getD l.length∧hi.getD l.length≤mx.getD l.length∧mx.getD l.length≤l.length∧(mx.isSome=true→hi.isSome=true)then
  some ((l.drop (lo.getD 0).toNat).take ((hi.getD l.length).toNat-(lo.getD 0).toNat))
 else none
def Q2 {α:Type}(l m:List α):Option (List α):=if l.length+m.length≤1073741824 then some (l++m)else none
def KX (b:Bool):Option Unit:=if b=true then some ()else none
def loopN {σ R:Type} (step:σ→Option (σ⊕R)):Nat→σ→Option R
 |0,_=>none
 |n+1,s=>
  match step s with
  |none=>none
  |some (.inl s')=>loopN step n s'
  |some (.inr r)=>some r
def K7 {α σ R:Type} (step:σ→α→Option (σ⊕R)):List α→σ→Option (σ⊕R)
 |[],s=>some (.inl s)
 |x::l,s=>
  match step s x with
  |none=>none
  |some (.inl s')=>K7 step l s'
  |some (.inr r)=>some (.inr r)
def De {β σ R:Type} (step:σ→Option (List β×(σ⊕R))):Nat→σ→Option (List β×R)
 |0,_=>none
 | n+1,s=>
  match step s with
  |none=>none
  | some (w,.inl s')=>
   (match De step n s' with
    |none=>none
    |some (w',r)=>some (w++w',r))
  |some (w,.inr r)=>some (w,r)
def Af {α β σ R:Type} (step:σ→α→Option (List β×(σ⊕R))):List α→σ→Option (List β×(σ⊕R))
 |[],s=>some ([],.inl s)
 | x::l,s=>
  match step s x with
  |none=>none
  | some (w,.inl s')=>
   (match Af step l s' with
    |none=>none
    |some (w',o)=>some (w++w',o))
  |some (w,.inr r)=>some (w,.inr r)
def V0 {β σ τ:Type}(m:Option (List β×σ))(f:σ→Option (List β×τ)):Option (List β×τ):=
 m.bind fun q=>(f q.2).bind fun p=>some (q.1++p.1,p.2)
theorem X4 {β σ τ:Type} {m:Option (List β×σ)} {f:σ→Option (List β×τ)} {w:List β} {o:τ} (h:V0 m f=some (w,o)):∃w1 w2 x,m=some (w1,x)∧f x=some (w2,o)∧w=w1++w2:=by
 unfold V0 at h
 cases m with
 |none=>cases h
 | some p=>
  simp only[A4]at h
  cases hf:f p.2 with
  |none=>rw[hf]at h;cases h
  |some t=>
   rw[hf]at h
   grind
theorem BZ {β σ τ:Type}{a:List β}{x:σ}{f:σ→Option (List β×τ)}{w:List β}{o:τ}(h:V0 (some (a,x)) f=some (w,o)):∃w2,f x=some (w2,o)∧w=a++w2:=by
 obtain⟨w1,w2,y,h1,h2,h3⟩:=X4 h
 simp_all
theorem J4 {α β:Type}{a c:α}{b d:β}(h:some (a,b)=some (c,d)):a=c∧b=d:=by simp_all
theorem bind_some {α β:Type}{m:Option α}{F:α→Option β}{r:β}(h:m.bind F=some r):∃x,m=some x∧F x=some r:=by
 cases m with
 |none=>cases h
 |some x=>simp_all
theorem F2 {α:Type}{a b:α}(h:some a=some b):a=b:=BL h
end Go.Ab
namespace Go.Ab
open Go.RowKit
variable [O5][Ar]
def Ju (l:Fl):Fl→Prop
 |[]=>True
 |(k,s)::r=>Dx (CA l k) s.V∧(∀j w x,s≠ .g j w x)∧Ju l r
theorem Ju.wk {l:Fl}:∀{r:Fl},Ju l r→∀t,Wk (CA l t) (CA r t)
 |[],_,t=>Wk.bad _
 | (k,s)::r,h,t=>by
  simp only[CA]
  cases hb:Nat.beq t k with
  |true=>
   have:=Fv hb;subst this
   cases s with
   |v x=>exact h.1.wk
   |b c=>exact h.1.wk
   |g j w x=>exact absurd rfl (h.2.1 j w x)
  |false=>exact Ju.wk h.2.2 t
theorem Ju.v {l r:Fl}{k:Nat}{x:V}(h:Dx (CA l k) x)(hr:Ju l r):Ju l ((k,.v x)::r):=⟨h,fun _ _ _ h=>(by cases h),hr⟩
theorem Ju.b {l r:Fl}{k:Nat}{c:Bool}(h:CA l k= .bool c)(hr:Ju l r):Ju l ((k,.b c)::r):=⟨h▸ .refl _,fun _ _ _ h=>(by cases h),hr⟩
theorem Ju.e {l r:Fl}{k:Nat}{x:V}(h:CA l k=x)(hr:Ju l r):Ju l ((k,.v x)::r):=⟨h▸ .refl _,fun _ _ _ h=>(by cases h),hr⟩
theorem Ju.z {l:Fl}:Ju l []:=trivial
theorem Wk.trans {x y z:V}(h:Wk x y)(k:Wk y z):Wk x z:=fun g w v hv=>k g w v (h g w v hv)
theorem GJ.le {fr:Fr}{l l':Fl}{df:List Nat}(h:GJ fr ⟨l,df⟩)(k:Ju l l'):GJ fr ⟨l',df⟩:=⟨fun t=>(h.s t).trans (k.wk t),h.df⟩
theorem E4 {α:Type}{f:α→V}:([]:List V)=lst f []:=by rw[lst_eq];rfl
theorem G8 {α:Type}{f:α→V}{v:V}{vs:List V}{x:α}{l:List α}(h:v=f x)(k:vs=lst f l):v::vs=lst f (x::l):=by
 rw[h,k,lst_eq,lst_eq];rfl
theorem Nc {α:Type}{f:α→V}(l m:List α):lst f l++lst f m=lst f (l++m):=by simp[lst_eq]
theorem M9 {α:Type}{f:α→V}(l:List α):(lst f l).length=l.length:=by simp[lst_eq]
theorem Oq {α:Type}{f:α→V}{sz:Nat}(h:∀x,(f x).cells.length=sz)(l:List α):(lst f l).all (fun x=>x.cells.length==sz)=true:=by
 rw[lst_eq];simp[h]
theorem M1.lst0 {α:Type}{f:α→V}:M1 [] (lst f []):=by rw[←E4];exact .nil
theorem M1.lstc {α:Type}{f:α→V}{v:V}{vs:List V}{x:α}{l:List α}(h:Dx v (f x))(k:M1 vs (lst f l)):M1 (v::vs) (lst f (x::l)):=by
 rw[←G8 rfl rfl];exact .cons h k
theorem Dx.eq {v x y:V}(h:y=x)(k:Dx v x):Dx v y:=h▸k
theorem Dx.lit {xs ys:List V}(t:G6)(h:xs=ys):Dx (.sl xs t) (.sl ys .ro):=h▸ .ro _ _
section
variable {P:Program}{nt:Nat}{rd:Option Nat}{T:Ih}{E:Fo}
variable (hE:E=I5 P nt rd)
include hE
theorem C4 {R:Type}{c:Bool}{x y:Unit→Prop}{a b:Option R}{r:R}(h:(if c=true then a else b)=some r)(h1:c=true→a=some r→x ())(h2:c=false→b=some r→y ()):E.br c x y:=by
 grind[I5]
theorem On {p:Prop}{k:Unit→Prop}(h:p)(hk:k ()):E.need p k:=by simp_all[I5]
theorem RZ {R:Type}{b:Bool}{k:Unit→Prop}{F:Unit→Option R}{r:R}(h:(KX b).bind F=some r)(hk:F ()=some r→k ()):E.needB b k:=by
 grind[I5,KX]
theorem Ak5 {b:Bool}{k:Unit→Prop}(hb:b=true)(hk:k ()):E.needB b k:=by simp_all[I5]
theorem Zu {op:BinOp}{a b:Int}(h:PG op a b=true):Ar.cmp op a b=true:=by rw[Ar.cmp_eq];exact h
theorem I8 {α:Type}{f:α→V}{l:List α}{k:Int→Prop}(h:k (Ar.len l)):E.ln (lst f l) k:=by
 subst hE
 show k _
 rw[M9,←Ar.len_eq];exact h
theorem D9 {α R:Type} {f g:α→V} (hf:∀x,f x=g x) {l:List α} {i:Int} {k:V→Prop} {F:α→Option R} {r:R} (h:(C3 l i).bind F=some r) (hk:∀x,F x=some r→k (g x)):E.idx (lst f l) i k:=by
 subst hE;obtain⟨x,h1,h2⟩:=bind_some h
 unfold C3 at h1
 split at h1
 ·rename_i h0
  have hlt:i.toNat<l.length:=by
   grind
  refine⟨⟨h0,by rw[M9];omega⟩,?_⟩;rw[lst_eq,X3,R6,h1]
  simp_all
 cases h1
theorem Ct {α R:Type} {f:α→V} {sz:Nat} (hsz:∀x,(f x).cells.length=sz) {l:List α} {tl:G6} {lo hi mx:Option Int} {k:V→Prop} {F:List α→Option R} {r:R} (h:(Q0 l lo hi mx).bind F=some r)
 (hk:∀x t,F x=some r→k (.sl (lst f x) t)):E.slice sz (lst f l) tl lo hi mx k:=by
 subst hE;obtain⟨x,h1,h2⟩:=bind_some h
 unfold Q0 at h1
 split at h1
 ·rename_i hc;obtain⟨c1,c2,c3,c4,c5⟩:=hc;cases h1;refine⟨?_,?_⟩
  ·rw[M9]
   simp_all[Oq]
  rw[M9,lst_eq,←List.map_drop,←List.map_take];have:=hk _ (Jr (lo.getD 0).toNat (hi.getD l.length).toNat l.length mx tl) h2
  rwa[lst_eq]at this
 cases h1
theorem B0 {R S:Type}{m:Option S}{F:S→Option R}{r:R}{f:FuncId}{args args':List V}{g:S→V}{H:A5}{k:V→A5→Prop}(h:m.bind F=some r)(hc:∀x,m=some x→B9 P f args' (g x))(hl:M1 args args')
 (hk:∀x,F x=some r→k (g x) H):E.call (.func (.func f) [] []) args H k:=by
 subst hE;obtain⟨x,h1,h2⟩:=bind_some h
 exact AL.at (B9.value (F:=[]) (C:=[]) (by simpa using(hc x h1).args hl)) (hk x h2)
theorem E5 {R S:Type}{m:Option S}{F:S→Option R}{r:R}{f:FuncId}{args args':List V}{g:S→V}{H:A5}{k:V→Prop}(h:m.bind F=some r)(hc:∀x,m=some x→B9 P f args' (g x))(hl:M1 args args')
 (hk:∀x,F x=some r→k (g x)):E.pcall H (.func (.func f) [] []) args k:=by
 subst hE;obtain⟨x,h1,h2⟩:=bind_some h;exact⟨g x,(B9.value (F:=[]) (C:=[]) (by simpa using(hc x h1).args hl)).toH H,hk x h2⟩
theorem BP {R S:Type}{m:Option S}{F:S→Option R}{r:R}{fv:V}{args args':List V}{g:S→V}{H:A5}{k:V→A5→Prop}(h:m.bind F=some r)(hc:∀x,m=some x→AL P fv args' (g x))(hl:M1 args args')
 (hk:∀x,F x=some r→k (g x) H):E.call fv args H k:=by
 subst hE;obtain⟨x,h1,h2⟩:=bind_some h
 exact AL.at ((hc x h1).args hl) (hk x h2)
theorem AD1 {R S:Type}{m:Option S}{F:S→Option R}{r:R}{fv:V}{args args':List V}{g:S→V}{H:A5}{k:V→Prop}(h:m.bind F=some r)(hc:∀x,m=some x→AL P fv args' (g x))(hl:M1 args args')
 (hk:∀x,F x=some r→k (g x)):E.pcall H fv args k:=by
 subst hE;obtain⟨x,h1,h2⟩:=bind_some h;exact⟨g x,((hc x h1).args hl).toH H,hk x h2⟩
theorem C0 {Φ:A5→A5→Prop}{H0 H:A5}{L:List En}(hO:C5 Φ H0 L H)(i:Nat){id:Nat}{cs:List V}{k:List V→Prop}(hi:L[i]? =some (.blk id (.cells cs)))(hk:k cs):E.load H id k:=by
 subst hE;exact⟨cs,hO.get i hi,hk⟩
theorem C1 {Φ:A5→A5→Prop}{H0 H:A5}{L:List En}(hO:C5 Φ H0 L H)(i:Nat){id off sz:Nat}{cs vs:List V}{k:A5→Prop}(hi:L[i]? =some (.blk id (.cells cs)))(hb:Nat.ble (off+sz) cs.length=true)
 (hk:∀H',C5 Φ H0 (L.set i (.blk id (.cells (Z0 cs off vs)))) H'→k H'):E.store H id off sz vs k:=by
 subst hE;exact⟨cs,vs,.refl _,hO.get i hi,hb,hk _ (hO.set i hi)⟩
theorem Mm {Φ:A5→A5→Prop}{H0 H:A5}{L:List En}(hO:C5 Φ H0 L H)(i:Nat){id off sz:Nat}{cs vs vs':List V}{k:A5→Prop}(hi:L[i]? =some (.blk id (.cells cs)))(hb:Nat.ble (off+sz) cs.length=true)(hl:M1 vs vs')
 (hk:∀H',C5 Φ H0 (L.set i (.blk id (.cells (Z0 cs off vs')))) H'→k H'):E.store H id off sz vs k:=by
 subst hE;exact⟨cs,vs',hl,hO.get i hi,hb,hk _ (hO.set i hi)⟩
theorem E2 {Φ:A5→A5→Prop}{H0 H:A5}{L:List En}(hO:C5 Φ H0 L H){cs:List V}{k:Nat→A5→Prop}(hk:∀id H',C5 Φ H0 (.blk id (.cells cs)::L) H'→k id H'):E.alloc H cs k:=by
 subst hE;exact fun id hid=>hk id _ (hO.push hid rfl)
theorem Bd9 {Φ:A5→A5→Prop}{H0 H:A5}{L:List En}(hO:C5 Φ H0 L H)(i:Nat){id:Nat}{cs:List V}{k:List V→A5→Prop}(hi:L[i]? =some (.blk id (.cells cs)))(hk:∀H',C5 Φ H0 (L.eraseIdx i) H'→k cs H'):E.frzL H id k:=by
 subst hE;exact⟨cs,cs,hO.get i hi,.refl _,hk _ (hO.del i hi)⟩
theorem AD8 {α R:Type} {g:α→V} {cs:List V} {off sz n:Nat} {l:List α} {i:Int} {k:V→Prop} {F:α→Option R} {r:R} (hcs:cs=l.flatMap fun x=>(g x).cells) (hsz:∀x,(g x).cells.length=sz) (hn:l.length=n) (ho:off=0)
 (h:(C3 l i).bind F=some r) (hk:∀x,F x=some r→k (.eref (g x).cells 0)):E.elem cs off sz n i k:=by
 subst hE;subst ho;obtain⟨x,h1,h2⟩:=bind_some h
 unfold C3 at h1
 split at h1
 ·rename_i h0
  have key:∀(l:List α) (m:Nat) (x:α),l[m]? =some x→(((l.flatMap fun x=>(g x).cells).drop (m*sz)).take sz)=(g x).cells∧m<l.length∧(l.flatMap fun x=>(g x).cells).length=l.length*sz:=by
   intro l
   induction l with
   |nil=>simp_all
   | cons y l ih=>
    intro m x h
    have hlen:∀l:List α,(l.flatMap fun x=>(g x).cells).length=l.length*sz:=by
     intro l
     induction l with
     |nil=>simp
     |cons z l ih=>grind
    refine⟨?_,?_,hlen _⟩
    ·cases m with
     |zero=>
      simp_all
     |succ m=>
      have:=(ih m x (by grind)).1;rw[U8,show(m+1)*sz=(g y).cells.length+m*sz by rw[hsz,E3,S5];omega,List.drop_append,];rw[DW (by omega),K2,show(g y).cells.length+m*sz-(g y).cells.length=m*sz by omega];exact this
    grind
  grind[I5]
 cases h1
theorem Oo {α R:Type} {f:α→V} {sz by_:Nat} (hsz:∀x,(f x).cells.length=sz) (hby:by_≤131072) {xs ys:List V} {l m:List α} {k:V→Prop} {F:List α→Option R} {r:R} (hx:M1 xs (lst f l)) (hy:M1 ys (lst f m)) (h:(Q2 l m).bind F=some r)
 (hk:∀x,F x=some r→k (.sl (lst f x) .ro)):E.appq sz by_ xs ys k:=by
 subst hE;obtain⟨x,h1,h2⟩:=bind_some h
 unfold Q2 at h1
 split at h1
 ·rename_i hc;cases h1;refine⟨_,_,hx,hy,Oq hsz l,Oq hsz m,?_,?_⟩
  ·rw[M9,M9];exact N5 (R5 hc hby) (by decide)
  grind[Nc]
 cases h1
theorem S7 {α R:Type} {f:α→V} {sz by_:Nat} (hsz:∀x,(f x).cells.length=sz) (hby:by_≤131072) {Φ:A5→A5→Prop} {H0 H:A5} {L:List En} (hO:C5 Φ H0 L H) (i:Nat) {tl:G6} (hi:L[i]? =some (.tl tl)) (ha:T3 tl)
 {xs ys:List V} {l m:List α} {k:V→A5→Prop} {F:List α→Option R} {r:R} (hx:M1 xs (lst f l)) (hy:M1 ys (lst f m)) (h:(Q2 l m).bind F=some r)
 (hk:∀x tl' H',C5 Φ H0 (L.set i (.tl tl')) H'→T3 tl'→F x=some r→k (.sl (lst f x) tl') H'):E.appn sz by_ H tl xs ys k:=by
 subst hE;obtain⟨x,h1,h2⟩:=bind_some h
 unfold Q2 at h1
 split at h1
 ·rename_i hc;cases h1;refine⟨_,_,hx,hy,hO.appOk i hi ha,Oq hsz l,Oq hsz m,?_,fun hm=>?_,fun t ht hn=>?_⟩
  ·rw[M9,M9];exact N5 (R5 hc hby) (by decide)
  ·have hm':m=[]:=by
    have:=J6 List.length hm
    rw[M9]at this
    simp_all
   subst hm'
   have:=hk _ tl H (by
    have e:L.set i (.tl tl)=L:=by
     apply Bg
     grind
    rw[e];exact hO) ha h2
   rwa[H6]at this
  rw[Nc];exact hk _ _ _ (hO.tok i hi hn) trivial h2
 cases h1
end
section
variable {P:Program}{nt:Nat}{rd:Option Nat}{T:Ih}{E:Fo}
abbrev VF (P:Program)(T:Ih):Prop:=Lc P T∧P.follows .mixedOrders=true
theorem N2 (cf:Cf)(hE:E=I5 P nt rd)(hP:VF P T){c:Code}{st:St}{H:A5}{K:Exit→St→A5→Prop}(X:Exit→Fl→A5→Prop)(hd:M6 cf c=true)
 (h:AA7 E T nt cf c st H fun e st' H'=>∃l,X e l H'∧Ju st'.l l∧st'.df=st.df) (after:∀e l H',X e l H'→K e ⟨l,st.df⟩ H'):E.sim c st H K:=by
 subst hE;refine(Ab5 hP.1 hP.2 c _ _ _ hd h).mono fun e fr2 H2 ⟨st',hle',l,h3,h1,h2⟩=>?_;exact⟨⟨l,st.df⟩,⟨fun t=>(hle'.s t).trans (h1.wk t),hle'.df.trans h2⟩,after _ _ _ h3⟩
theorem H9 (cf:Cf) (hE:E=I5 P nt rd) (hP:VF P T) {σ R:Type} {step:σ→Option (σ⊕R)} {c:Code} {st:St} {H:A5} {K:Exit→St→A5→Prop} (fm:σ→Fl) (Inv:σ→A5→Prop) (X:R→Exit→Fl→A5→Prop) (hd:M6 cf c=true)
 (round:∀s H o,Inv s H→step s=some o→run E T nt cf c ⟨fm s,st.df⟩ H fun e st' H'=>match e with
  | .normal=>∃s',o= .inl s'∧Ju st'.l (fm s')∧st'.df=st.df∧Inv s' H'
  |e=>∃x l,o= .inr x∧X x e l H'∧Ju st'.l l∧st'.df=st.df)
 {N:Nat} {s0:σ} {r:R} (h:loopN step N s0=some r) (hf:Ju st.l (fm s0)) (hI:Inv s0 H) (after:∀e l H',X r e l H'→K e ⟨l,st.df⟩ H'):E.sim (.loop c) st H K:=by
 subst hE;refine Aa.loopN (fun n fr' H'=>∃s,loopN step n s=some r∧GJ fr' ⟨fm s,st.df⟩∧Inv s H') N ⟨s0,h,⟨fun t=>hf.wk t,rfl⟩,hI⟩ fun n fr' H' ⟨s,hs,hle,hi⟩=>?_
 cases n with
 |zero=>cases hs
 | succ n=>
  simp only[loopN]at hs
  cases ho:step s with
  |none=>rw[ho]at hs;cases hs
  | some o=>
   rw[ho]at hs
   refine Aa.frLe hle ((P0 hP.1 hP.2 c _ _ _ hd (round s H' o hi ho)).mono fun e fr2 H2 ⟨st',hle',hq⟩=>?_)
   cases e with
   |normal=>
    obtain⟨s',h1,h2,h3,h4⟩:=hq;subst h1;exact⟨n,Iv n,s',hs,⟨fun t=>(hle'.s t).trans (h2.wk t),hle'.df.trans h3⟩,h4⟩
   |_=>
    obtain⟨x,l,h1,h4,h2,h3⟩:=hq;subst h1;cases hs;exact⟨⟨l,st.df⟩,⟨fun t=>(hle'.s t).trans (h2.wk t),hle'.df.trans h3⟩,after _ _ _ h4⟩
theorem P6 (cf:Cf) (hE:E=I5 P nt rd) (hP:VF P T) {σ γ R:Type} {step:σ→Option (σ⊕R)} {c:Code} {st:St} {H:A5} {K:Exit→St→A5→Prop} (fm:σ→γ→Fl) (Inv:σ→γ→A5→Prop) (X:R→Exit→Fl→A5→Prop) (hd:M6 cf c=true)
 (round:∀s g H o,Inv s g H→step s=some o→run E T nt cf c ⟨fm s g,st.df⟩ H fun e st' H'=>match e with
  | .normal=>∃s' g',o= .inl s'∧Ju st'.l (fm s' g')∧st'.df=st.df∧Inv s' g' H'
  |e=>∃x l,o= .inr x∧X x e l H'∧Ju st'.l l∧st'.df=st.df)
 {N:Nat} {s0:σ} (g0:γ) {r:R} (h:loopN step N s0=some r) (hf:Ju st.l (fm s0 g0)) (hI:Inv s0 g0 H) (after:∀e l H',X r e l H'→K e ⟨l,st.df⟩ H'):E.sim (.loop c) st H K:=by
 subst hE;refine Aa.loopN (fun n fr' H'=>∃s g,loopN step n s=some r∧GJ fr' ⟨fm s g,st.df⟩∧Inv s g H') N ⟨s0,g0,h,⟨fun t=>hf.wk t,rfl⟩,hI⟩ fun n fr' H' ⟨s,g,hs,hle,hi⟩=>?_
 cases n with
 |zero=>cases hs
 | succ n=>
  simp only[loopN]at hs
  cases ho:step s with
  |none=>rw[ho]at hs;cases hs
  | some o=>
   rw[ho]at hs
   refine Aa.frLe hle ((P0 hP.1 hP.2 c _ _ _ hd (round s g H' o hi ho)).mono fun e fr2 H2 ⟨st',hle',hq⟩=>?_)
   cases e with
   |normal=>
    obtain⟨s',g',h1,h2,h3,h4⟩:=hq;subst h1;exact⟨n,Iv n,s',g',hs,⟨fun t=>(hle'.s t).trans (h2.wk t),hle'.df.trans h3⟩,h4⟩
   |_=>
    obtain⟨x,l,h1,h4,h2,h3⟩:=hq;subst h1;cases hs;exact⟨⟨l,st.df⟩,⟨fun t=>(hle'.s t).trans (h2.wk t),hle'.df.trans h3⟩,after _ _ _ h4⟩
theorem Uz {f:FuncId}{fn:Func}{c:Code}{n:Nat}{rs:List ResultVar}{args:List V}{r:V}(cf:Cf)(hP:VF P T)(hf:P.funcs[f]? =some fn)(hb:fn.body=some c)(hd:M6 cf c=true)
 (hcall:∀vals w,(callFunc f vals).run P w= .ok (.enter f vals) w) (hnt:fn.ntmps=n) (hrs:fn.results.toList=rs) (hn:Nat.ble args.length n=true)
 (h:∀(E:Fo) (H:A5) (K:V→A5→Prop),E=I5 P n none→(∀x L H',C5 Eq H L H'→Dx x r→K x H')→run E T n cf c ⟨Dh args 0,[]⟩ H (Qx E T rs K)):B9 P f args r:=fun H=>by
 refine(Y6 (K:=fun x H'=>∃y H2,Dx x y∧Ik H2 H'∧y=r∧H2=H) cf hP.1 hP.2 hf hb hd hcall hnt hrs hn fun E hE=>?_).le;exact h E H _ hE fun x L H' hO hx=>⟨r,H,hx,hO.ext,rfl,rfl⟩
end
abbrev DB:Il:=.obj (.deferred (some []))
section
variable {P:Program}{nt:Nat}{rd:Option Nat}{T:Ih}{E:Fo}
theorem JP (hE:E=I5 P nt rd) {Φ:A5→A5→Prop} {H0 H:A5} {L:List En} (hO:C5 Φ H0 L H) (i:Nat) {d:Nat} {k:A5→Prop} (hi:L[i]? =some (.blk d DB)) (hk:∀H',C5 Φ H0 (L.eraseIdx i) H'→k H'):E.fin [d] H k:=by
 subst hE;have hd:=hO.get i hi;refine⟨⟨by simp,fun id hid=>?_⟩,?_⟩
 ·simp_all
 have e:clear H [d]=upd H d none:=by
  funext x;simp[clear,upd]
 rw[e];exact hk _ (hO.del i hi)
def MK (P:Program)(f:FuncId)(args:List V)(Q:V→Prop):Prop:=∀H,M8 P f args H fun x H'=>Q x∧H'=H
theorem MK.args {f:FuncId}{xs ys:List V}{Q:V→Prop}(h:MK P f ys Q)(k:M1 xs ys):MK P f xs Q:=fun H=>(h H).args k
theorem B9.q {f:FuncId}{args:List V}{r:V}{Q:V→Prop}(h:B9 P f args r)(hq:Q r):MK P f args Q:=fun H=>(h H).mono fun x H' ⟨e1,e2⟩=>⟨e1▸hq,e2⟩
theorem Jg (hE:E=I5 P nt rd){R S:Type}{m:Option S}{F:S→Option R}{r:R}{f:FuncId}{args args':List V}{Q:S→V→Prop}{H:A5}{k:V→A5→Prop}(h:m.bind F=some r)(hc:∀x,m=some x→MK P f args' (Q x))(hl:M1 args args')
 (hk:∀x v,Q x v→F x=some r→k v H):E.call (.func (.func f) [] []) args H k:=by
 subst hE;obtain⟨x,h1,h2⟩:=bind_some h
 have h3:M8 P f args H k:=((hc x h1).args hl H).mono fun v H' ⟨hq,hH⟩=>by grind
 exact M8.value (F:=[]) (C:=[]) (by grind)
theorem NQ {f:FuncId}{fn:Func}{c:Code}{n:Nat}{rs:List ResultVar}{args:List V}{Q:V→Prop}(cf:Cf)(hP:VF P T)(hf:P.funcs[f]? =some fn)(hb:fn.body=some c)(hd:M6 cf c=true)
 (hcall:∀vals w,(callFunc f vals).run P w= .ok (.enter f vals) w) (hnt:fn.ntmps=n) (hrs:fn.results.toList=rs) (hn:Nat.ble args.length n=true)
 (h:∀(E:Fo) (H:A5) (K:V→A5→Prop),E=I5 P n none→(∀x L H',C5 Eq H L H'→Q x→K x H')→run E T n cf c ⟨Dh args 0,[]⟩ H (Qx E T rs K)):MK P f args Q:=fun H=>by
 refine(Y6 (K:=fun x H'=>∃y H2,Dx x y∧Ik H2 H'∧Q y∧H2=H) cf hP.1 hP.2 hf hb hd hcall hnt hrs hn fun E hE=>?_).le;exact h E H _ hE fun x L H' hO hx=>⟨x,H,.refl _,hO.ext,hx,rfl⟩
def Yk:List Nat→List V→Fl→Fl
 |p::ps,x::xs,l=>Yk ps xs ((p,.v x)::l)
 |_,_,l=>l
theorem Wj:∀(ps:List Nat) (xs:List V) (l:Fl) (t:Nat),HM (fun t=>CA l t) ps xs t=CA (Yk ps xs l) t
 |[],xs,l,t=>by cases xs<;>rfl
 |p::ps,[],l,t=>rfl
 |p::ps,x::xs,l,t=>by
  simp only[HM,Yk];rw[←Wj ps xs]
  congr 1
  funext q
  rw[Al8];rfl
def jmp:Exit→Option Code
 | .ret=>some .ret
 | .exit k=>some (.exit k)
 |_=>none
variable {α σ R ι:Type}
def RgI (enc:α→List V)(step:σ→α→Option (σ⊕R))(o:σ⊕R)(Inv:σ→A5→A5→Prop)(l:List (List V))(F H:A5):Prop:=
 ∃q:σ×List α,(l=q.2.map enc∧K7 step q.2 q.1=some o)∧Inv q.1 F H
def RgD (o:σ⊕R)(X:R→Exit→A5→A5→Prop)(c:Code)(F H:A5):Prop:=∃q:R×Exit,(o= .inr q.1∧jmp q.2=some c)∧X q.1 q.2 F H
def RgJ (enc:α→List V)(step:σ→α→Option (σ⊕R))(o:σ⊕R)(fJ:ι→σ→α→Fl)(J:ι→σ→α→A5→A5→Prop)(x:List V)(l:List (List V))(fr:Fr)(F H:A5):Prop:=
 ∃q:ι×σ×α×List α,(x=enc q.2.2.1∧l=q.2.2.2.map enc∧K7 step (q.2.2.1::q.2.2.2) q.2.1=some o∧GJ fr ⟨fJ q.1 q.2.1 q.2.2.1,[]⟩)∧J q.1 q.2.1 q.2.2.1 F H
section
variable {enc:α→List V}{step:σ→α→Option (σ⊕R)}{g:Operand}{ps:Array Tmp}{asg body:Code}{st:St}{H:A5}{K:Exit→St→A5→Prop}
 {xs:List α} {s0:σ} {o:σ⊕R}
theorem Ar8 (cf:Cf) (hP:VF P T) {Inv:σ→A5→A5→Prop} {fJ:ι→σ→α→Fl} {J:ι→σ→α→A5→A5→Prop} (hda:M6 cf asg=true)
 (asgP:∀(E':Fo) (id:Nat) y s F H,E'=I5 P nt (some id)→Inv s F H→run E' T nt cf asg ⟨Yk ps.toList (enc y) st.l,[]⟩ H fun e st' H'=>match e with| .normal=>∃i,J i s y F H'∧Ju st'.l (fJ i s y)∧st'.df=[]|_=>False):
 ∀(id:Nat) (L:LpI) x l F H,RgI enc step o Inv (x::l) F H→F id=some (.loop L)→x.length=ps.size→Aa P nt (some id) asg ⟨HM (I9 st).s ps.toList x,[]⟩ H fun e fr' H1=>e= .normal∧RgJ enc step o fJ J x l fr' F H1:=by
 intro id L x l F H ⟨⟨s,ys⟩,⟨hl,hr⟩,hi⟩ _ _
 cases ys with
 |nil=>cases hl
 | cons y ys=>
  simp only[D5,U7]at hl
  obtain⟨rfl,rfl⟩:=hl
  have e:(⟨HM (I9 st).s ps.toList (enc y),[]⟩:Fr)=I9 ⟨Yk ps.toList (enc y) st.l,[]⟩:=by
   simp only[I9,Fr.mk.injEq,O9]
   funext t
   grind[Wj]
  rw[e];refine(P0 hP.1 hP.2 asg _ _ _ hda (asgP _ id y s F H rfl hi)).mono fun e fr' H1 ⟨st',hle,hq⟩=>?_
  cases e with
  |normal=>
   obtain⟨i,hj,hl,hdf⟩:=hq;exact⟨rfl,⟨i,s,y,ys⟩,⟨rfl,rfl,hr,fun t=>(hle.s t).trans (hl.wk t),hle.df.trans hdf⟩,hj⟩
  |_=>exact hq.elim
theorem AB1 (cf:Cf) (hP:VF P T) {Inv:σ→A5→A5→Prop} {X:R→Exit→A5→A5→Prop} {fJ:ι→σ→α→Fl} {J:ι→σ→α→A5→A5→Prop} (hdb:M6 cf body=true)
 (bodyP:∀(E':Fo) (id:Nat) i y s F H o',E'=I5 P nt (some id)→(∃L,F id=some (.loop L))→step s y=some o'→J i s y F H→run E' T nt cf body ⟨fJ i s y,[]⟩ H fun e _ H'=>match e with
  | .normal=>∃s',o'= .inl s'∧Inv s' F H'
  |e=>∃r,o'= .inr r∧(jmp e).isSome=true∧X r e F H'):
 ∀(id:Nat) (L:LpI) x l fr' F H,RgJ enc step o fJ J x l fr' F H→F id=some (.loop L)→Aa P nt (some id) body fr' H fun e _ H'=>YZ (RgI enc step o Inv l) (RgD o X) F e H':=by
 intro id L x l fr' F H ⟨⟨i,s,y,ys⟩,⟨hx,hl,hr,hf⟩,hj⟩ hL;subst hx;subst hl
 simp only[K7]at hr
 cases ho:step s y with
 |none=>rw[ho]at hr;cases hr
 | some o'=>
  rw[ho]at hr
  refine Aa.frLe hf ((P0 hP.1 hP.2 body _ _ _ hdb (bodyP _ id i y s F H o' rfl ⟨L,hL⟩ ho hj)).mono fun e fr2 H2 ⟨st',hle,hq⟩=>?_)
  cases e with
  |normal=>
   obtain⟨s',h1,h2⟩:=hq;subst h1;exact⟨⟨s',ys⟩,⟨rfl,hr⟩,h2⟩
  |ret=>
   obtain⟨r,h1,h2,h3⟩:=hq;subst h1;exact⟨⟨r,.ret⟩,⟨by grind,rfl⟩,h3⟩
  |exit k=>
   obtain⟨r,h1,h2,h3⟩:=hq;subst h1;exact⟨⟨r,.exit k⟩,⟨by grind,rfl⟩,h3⟩
  |_=>
   obtain⟨r,h1,h2,h3⟩:=hq;cases h2
theorem Pq (cf:Cf) (hE:E=I5 P nt none) (hP:VF P T) (Inv:σ→A5→A5→Prop) (X:R→Exit→A5→A5→Prop) (fJ:ι→σ→α→Fl) (J:ι→σ→α→A5→A5→Prop)
 (hI:∀s,G7 (Inv s)) (hX:∀r e,G7 (X r e)) (hJ:∀i s y,G7 (J i s y)) (hit:Uh P ((V5 [] st.l g).V) (xs.map enc)) (h:K7 step xs s0=some o) {F:A5} (h0:Inv s0 F H)
 (hnt:∀p∈ps,p<nt) (hps:∀x,(enc x).length=ps.size) (hda:M6 cf asg=true) (hdb:M6 cf body=true)
 (asgP:∀(E':Fo) (id:Nat) y s F H,E'=I5 P nt (some id)→Inv s F H→run E' T nt cf asg ⟨Yk ps.toList (enc y) st.l,[]⟩ H fun e st' H'=>match e with| .normal=>∃i,J i s y F H'∧Ju st'.l (fJ i s y)∧st'.df=[]|_=>False)
 (bodyP:∀(E':Fo) (id:Nat) i y s F H o',E'=I5 P nt (some id)→(∃L,F id=some (.loop L))→step s y=some o'→J i s y F H→run E' T nt cf body ⟨fJ i s y,[]⟩ H fun e _ H'=>match e with
  | .normal=>∃s',o'= .inl s'∧Inv s' F H'
  |e=>∃r,o'= .inr r∧(jmp e).isSome=true∧X r e F H')
 (done:∀d s H',o= .inl s→F d=none→Inv s (upd F d (some DB)) H'→K .normal ⟨st.l,d::st.df⟩ H')
 (stop:∀d r e H',o= .inr r→F d=none→X r e (upd F d (some DB)) H'→K e ⟨st.l,d::st.df⟩ H'):E.sim (.rangeFunc g ps asg body) st H K:=by
 subst hE;have hev:ev (I9 st) g=(V5 [] st.l g).V:=(FF (df:=st.df) MI.nil g).symm
 rw[←hev]at hit
 have sI:∀l,G7 (RgI enc step o Inv l):=fun l=>G7.ex fun q=>hI q.1;have sD:∀c,G7 (RgD o X c):=fun c=>G7.ex fun q=>hX q.1 q.2;have sJ:∀x l fr,G7 (RgJ enc step o fJ J x l fr):=fun x l fr=>G7.ex fun q=>hJ q.1 q.2.1 q.2.2.1;refine Aa.rangeOuter (nt:=nt) hnt (fun x hx=>?_) hit (RgI enc step o Inv) (RgD o X) sI sD (RgJ enc step o fJ J) sJ ⟨⟨s0,xs⟩,⟨rfl,h⟩,h0⟩ (Ar8 cf hP hda asgP) (AB1 cf hP hdb bodyP) (fun d H' hd ⟨⟨s,ys⟩,⟨hl,hr⟩,hi⟩=>?_) fun c d H' hd ⟨⟨r,e⟩,⟨ho,hj⟩,hx⟩=>?_
 ·grind
 ·have hys:ys=[]:=by
   simp_all
  subst hys;cases hr;exact⟨⟨st.l,d::st.df⟩,⟨fun t=>Wk.refl _,rfl⟩,done d s H' rfl hd hi⟩
 have hk:=stop d r e H' ho hd hx
 cases e with
 |ret=>cases hj;exact Aa.ret ⟨⟨st.l,d::st.df⟩,⟨fun t=>Wk.refl _,rfl⟩,hk⟩
 |exit k=>cases hj;exact Aa.exit ⟨⟨st.l,d::st.df⟩,⟨fun t=>Wk.refl _,rfl⟩,hk⟩
 |_=>cases hj
end
end
theorem C5.dblk {Φ:A5→A5→Prop} {H0 H:A5} {L:List En} {d:Nat} (hd:H0 d=none) (h:C5 Φ (upd H0 d (some DB)) L H):C5 Φ H0 (L++[.blk d DB]) H:=by
 obtain⟨hs,F',H1,h0,h1,h2⟩:=h;refine⟨hs,F',H1,⟨fun x b hx=>h0.ext x b ?_,fun i e x b hi he=>?_,fun i j e e' x b b' hi hj he he'=>?_,fun x b hx=>?_⟩,h1,h2⟩
 rotate_right
 ·rcases h0.only x b hx with h|⟨i,e,hi,he⟩
  ·by_cases hxd:x=d
   ·subst hxd;rw[G2]at h;cases h;exact .inr ⟨L.length,.blk x DB,by simp,rfl⟩
   simp_all[upd]
  refine .inr ⟨i,e,?_,he⟩
  grind
 ·rw[C9 _ _ (AK hd hx)];exact hx
 ·rcases BG i L.length with hlt|hge
  ·rw[IP hlt]at hi
   have:=h0.has i e x b hi he
   grind[C9]
  rw[Hy hge]at hi
  cases hm:i-L.length with
  |zero=>rw[hm]at hi;simp at hi;subst hi;cases he;exact⟨hd,h0.ext _ _ (G2 _ _ _)⟩
  |succ m=>rw[hm]at hi;simp at hi
 have hDB:∀(i:Nat) e,(L++[.blk d DB])[i]? =some e→(i<L.length∧L[i]? =some e)∨(i=L.length∧e= .blk d DB):=fun i e hi=>by
  grind
 have nd:∀(i:Nat) e x b,L[i]? =some e→e.id=some (x,b)→x≠d:=fun m e x b hm he eq=>by
  have:=(h0.has m e x b hm he).1
  rw[eq,G2]at this;cases this
 rcases hDB i e hi with⟨_,ki⟩|⟨ki,rfl⟩<;>rcases hDB j e' hj with⟨_,kj⟩|⟨kj,rfl⟩
 ·exact h0.inj i j e e' x b b' ki kj he he'
 ·cases he';grind
 ·cases he;grind
 omega
end Go.Ab
