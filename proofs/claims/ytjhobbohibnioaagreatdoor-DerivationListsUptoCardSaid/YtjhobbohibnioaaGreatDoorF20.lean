/- . -/
import Derived.Test.YtjhobbohibnioaaGreatDoorF19
import Derived.KernelRfl
set_option linter.all false
open Go.Ab.Ar (ar cmp nt sh wr)
namespace Go.Ab
open Classical
noncomputable section
def Mb (l:List A8)(i:Int):Q4:=match l[i.toNat]? with|some e=>⟨e.Time,e.Source,e.Seq⟩|none=>⟨0,0,0⟩
theorem Aa1 {α:Type}{l:List α}{k:Nat}(h:k≤l.length):Q0 l none (some (k:Int)) none=some (l.take k):=by
 simp_all[Q0]
theorem Af7 {α:Type}{l:List α}{k:Nat}(h:k≤l.length):Q0 l (some (k:Int)) none none=some (l.drop k):=by
 unfold Q0;rw[A2 (by simp;omega)];simp only[AF,Gn,CG];rw[Bh (by simp)]
theorem An7 (a:A3):dO a a=0:=by rw[QB,JR]
theorem AH9 (a b:A3):dO b a= - dO a b:=by rw[QB,QB,YH]
theorem AH8 {a b c:A3} (h1:dO a b≤0) (h2:dO b c≤0):dO a c≤0∧(dO a b<0→dO a c<0):=by
 rw[QB a b]at h1 ⊢
 rw[QB b c]at h2
 rw[QB a c]
 rcases Int.lt_or_eq_of_le h1 with h1|h1
 ·rcases Int.lt_or_eq_of_le h2 with h2|h2
  ·have:=Ky h1 h2;omega
  rw[←Pu h2];omega
 rw[Pu h1]at *;omega
abbrev DP:=A6
def dpr (b:DP):PR:=⟨b.v,b.at_⟩
def O2 (b:PR):DP:=⟨b.Var,b.At⟩
theorem AH6 (b:PR):dpr (O2 b)=b:=rfl
theorem Zg (b:DP):O2 (dpr b)=b:=rfl
abbrev N7 (s:List DP):List PR:=s.map dpr
theorem I3 (s:List PR):N7 (s.map O2)=s:=by rw[N7,J0];exact(V6 fun x _=>AH6 x).trans (List.map_id s)
theorem AS2 (s:List DP):(N7 s).map O2=s:=by rw[J0];exact(V6 fun x _=>Zg x).trans (List.map_id s)
theorem Ag2 {N:Nat} (hN:40000000≤N) {a b:List DP} (ha:a.length≤1000000) (hb:b.length≤1000000):X9 N [a,b]=some (a++b):=by
 unfold X9;rw[L5 [a,b] (by simp) (mk:=fun(s:Int) i=>(s,i)) (body:=fun(s:Int) (x:List DP)=>if cmp .lss (ar .add .i64 s (Ar.len x)) 0=true then none else some (.inl (ar .add .i64 s (Ar.len x)))) (fin:=fun s=>s) (s:=(0:Int)) (by simp;omega) ?_ ?_]
 ·have e1:ar .add .i64 0 (Ar.len a)=(a.length:Int):=by rw[B4,D3 (by omega) (by omega)];omega
  have e2:ar .add .i64 (a.length:Int) (Ar.len b)=((a.length+b.length:Nat):Int):=by rw[B4,D3 (by omega) (by omega)];omega
  simp only[K7,e1];rw[A0 (N4 (by omega))];simp only[e2];rw[A0 (N4 (by omega))];simp only[A4]
  have hg:Am N [] ((a.length+b.length:Nat):Int)=some []:=by
   unfold Am Am8;rw[A2 (by simp;omega)]
  rw[hg];simp only[A4];rw[L5 [a,b] (by simp) (mk:=fun(s:List DP) i=>(i,s)) (body:=fun(s:List DP) (x:List DP)=>(Q2 s x).bind fun r=>some (.inl r)) (fin:=fun s=>s) (s:=([]:List DP)) (by simp;omega) ?_ ?_]
  ·simp only[K7];rw[S3 (by simp;omega)];simp only[A4,K2];rw[S3 (by omega)];rfl
  ·intro s i x hx hi;have e:ar .add .i64 (i:Int) 1=i+1:=D3 (by omega) (by grind);rw[A2 (Z6 (by rw[B4];exact hi)),F6,hx,e]
   grind
  intro s;rw[A0 (N4 (by rw[B4];omega))]
 ·intro s i x hx hi;have e:ar .add .i64 (i:Int) 1=i+1:=D3 (by omega) (by grind);rw[A2 (Z6 (by rw[B4];exact hi)),F6,hx,e]
  grind
 intro s;rw[A0 (N4 (by rw[B4];omega))]
theorem Zk {N:Nat} (hN:40000000≤N) {a b:List DP} {n:Int} (hn:n≤1000000) (hla:a.length≤1000000) (hlb:b.length≤1000000) (ha:Ui (N7 a)) (hb:Ui (N7 b)) (hd:O1 (N7 a) (N7 b)) (ia:InS n (N7 a)) (ib:InS n (N7 b)):
 I0 N a b=some ((mrg (N7 a) (N7 b)).map O2):=by
 unfold I0;rw[Ag2 hN hla hlb];simp only[A4];have hm:=Jh _ (B3 _) ha hb hd;have hin:∀x∈mrg (N7 a) (N7 b),0≤x.At∧x.At<n:=fun x hx=>(M2.1 hx).elim (ia x) (ib x)
 have hs:LU (fun y1 y2=>Eg N y1 y2) (a++b)=some ((mrg (N7 a) (N7 b)).map O2):=by
  refine XA ?_ (Ez.2 ⟨?_,?_⟩) (by simp;omega)
  ·have:=(EO _ (N7 a) (N7 b) (B3 _)).map O2;refine this.trans (List.Perm.of_eq ?_);rw[←O3,J0];exact(V6 fun x _=>Zg x).trans (List.map_id _)
  ·intro x _
   show(match some (ar .sub .i64 x.at_ x.at_)with|some c=>decide (0≤c)|none=>false)=true
   rw[Kh (by omega) (by omega)];simp
  rw[S6];refine LM (fun{x y} hx hy hlt=>?_) hm;have:=hin x hx;have:=hin y hy
  constructor
  ·show(match some (ar .sub .i64 x.At y.At)with|some c=>decide (c<0)|none=>false)=true
   rw[Kh (by omega) (by omega)];simp;omega
  show(match some (ar .sub .i64 y.At x.At)with|some c=>decide (0≤c)|none=>false)=true
  rw[Kh (by omega) (by omega)];simp;omega
 rw[hs];rfl
theorem KI {N:Nat} (hN:40000000≤N) {s:List DP} (hl:s.length≤1000000) {f:DP→Option Bool} {P:DP→Bool} (hf:∀x∈s,f x=some (P x)):K3 N s f=some (s.any P):=by
 unfold K3 Al
 obtain⟨j,h,hj⟩:=YF (N:=N) (l:=s) (by omega) (by omega) (A:=Unit) (B:=Int) (step:=(fun(s1:Int)=>
  (
   if cmp .lss s1 (Ar.len s)=true then
    (C3 s s1).bind fun x3=>
    (f x3).bind fun r4=>
    if r4=true then
     some (.inr (.inr s1))
    else
     some (.inl (ar .add .i64 s1 1))
   else
    some (.inr (.inl ()))
   :Option ((Int)⊕(Unit⊕Int))))) P () (fun i=>i) (fun i x hx hi=>by
  have e:ar .add .i64 (i:Int) 1=i+1:=D3 (by omega) (by omega);simp only[D4,B4,hi,G9,D1,F6,hx,A4,e,hf x (CJ hx)]
  split<;>rfl) (by simp[D4,B4])
 rw[h]
 by_cases ha:s.any P=true
 ·rw[A2 ha,ha];simp only[A4,R4,J1 hj]
 rw[A0 ha];simp only[A4,R4]
 rw[Be]at ha
 rw[ha];rfl
theorem TM {N:Nat} (hN:40000000≤N) {a b:List DP} (ha:a.length≤1000000) (hb:b.length≤1000000):Aj N a b=some (!S8 (N7 a) (N7 b)):=by
 unfold Aj
 rw[KI hN ha (P:=fun x=>RG (N7 b) x.at_) fun x _=>by
  unfold AN
  rw[KI hN hb (P:=fun y=>decide (y.at_=x.at_)) fun y _=>by
   unfold Z8
   rw[D8,show(decide (x.at_=y.at_))=decide (y.at_=x.at_)from decide_eq_decide.2 ⟨Eq.symm,Eq.symm⟩]]
  simp only[A4,RG,N7,Ld]
  rfl]
 simp only[A4,S8,N7,Ld,R8];rfl
theorem AS4 {N:Nat}(hN:40000000≤N){s:List DP}(hl:s.length≤1000000)(i:Int):K3 N s (fun y1=>R9 N y1 i)=some (RG (N7 s) i):=by
 rw[KI hN hl (f:=fun y1=>R9 N y1 i) (P:=fun y=>decide (y.at_=i)) fun y _=>rfl];simp only[RG,N7,Ld];rfl
theorem AS3 {s:List DP}(h:s≠[]):N7 s≠[]:=fun e=>h (List.map_eq_nil_iff.1 e)
theorem Vk {s:List DP}(h:s≠[])(hl:s.length≤1000000):∃x,C3 s (ar .sub .i64 (Ar.len s) 1)=some x∧x.at_=S4 (N7 s):=by
 rw[PA h hl]
 cases hg:s.getLast? with
 |none=>simp_all
 |some x=>exact⟨x,rfl,by simp[S4,N7,List.getLast?_map,hg,dpr]⟩
theorem OK {N:Nat}{s:List DP}(h:s≠[])(hl:s.length≤1000000)(hr:0≤S4 (N7 s)∧S4 (N7 s)<1000000):Q9 N s=some (S4 (N7 s)+1):=by
 unfold Q9;obtain⟨x,hx,e⟩:=Vk h hl;rw[hx];simp only[A4];rw[e,D3 (by omega) (by omega)]
theorem An4 {N:Nat} (hN:40000000≤N) {l:List A8} {s:List DP} (hs:s.length≤1000000) (hw:WfS l (N7 s)) (c b:Int):W8 N ⟨l,c⟩ s b=some (Uw l (N7 s) b):=by
 unfold W8;have h1:mkL 16 16 ([]:List A8)=some (List.replicate 16 []):=rfl;rw[h1];simp only[A4];rw[L5 s (by omega) (mk:=fun(rows:List (List A8)) i=>(i,rows)) (body:=fun rows x=>if cmp .lss (dpr x).At b=true then(C3 rows (dpr x).Var).bind fun x9=>(C3 l (dpr x).At).bind fun x14=>(Q2 x9 [x14]).bind fun l15=>(HE rows (dpr x).Var (fun _=>l15)).bind fun l13=>some (.inl l13)else some (.inl rows)) (fin:=fun s=>s) (s:=List.replicate 16 []) (by omega) ?_ ?_]
 ·rw[SQ dpr l b hs hw];rfl
 ·intro rows i x hx hi;have e:ar .add .i64 (i:Int) 1=i+1:=D3 (by omega) (by omega);simp only[D4,B4,hi,G9,D1,F6,hx,A4,e]
  show(if decide (x.at_<b)=true then _ else _)=Option.bind (if decide (x.at_<b)=true then _ else _) _
  by_cases hb:x.at_<b
  ·rw [A2 (J1 hb),A2 (J1 hb)]
   show((C3 rows x.v).bind _)=((C3 rows x.v).bind _).bind _
   cases C3 rows x.v with
   |none=>rfl
   | some r=>
    simp only[A4]
    show((C3 l x.at_).bind _)=((C3 l x.at_).bind _).bind _
    cases C3 l x.at_ with
    |none=>rfl
    | some y=>
     simp only[A4]
     cases Q2 r [y]with
     |none=>rfl
     |some q=>
      simp only[A4]
      show((HE rows x.v _).bind _)=((HE rows x.v _).bind _).bind _
      cases HE rows x.v fun _=>q<;>rfl
  grind
 intro s;simp[D4,B4]
def Mx (l:List A8)(p:A1)(b:List PR)(i:Nat):Bool:=match l[i]? with|some e=>decide (e.Typ=p.Typ)&&LR (Uw l b i) p.Var e p.cN|none=>false
theorem Ss {N:Nat}(hN:40000000≤N){l:List A8}{s:List DP}(hs:s.length<1000000)(hw:WfS l (N7 s))(c:Int){p:A1}(hc:p.cN.bulk≤16777216){i:Nat}(hi:i<l.length):
 P2 N ⟨l,c⟩ p s i=some (Mx l p (N7 s) i):=by
 unfold P2 Mx
 dsimp only
 rw[OM hi,E0 hi];simp only[A4]
 by_cases ht:l[i].Typ=p.Typ
 ·rw[A2 (L6 ht),An4 hN (by omega) hw];simp only[A4];rw[Xr hN (JX l (by grind) _) _ _ hc];simp[ht]
 rw[A0 (by rw[Cg ht];simp)];simp[ht]
theorem VB {N:Nat} (hN:40000000≤N) {l:List A8} (hl:l.length≤100000) {p:A1} (hc:p.cN.bulk≤16777216) (hop:5≤p.Op∧p.Op≤7) {b s:List DP} (gb:Gd l (N7 b)) (gs:Gd l (N7 s)) (hn:s≠[]) (hd:O1 (N7 b) (N7 s)) (f:Int):
 U1 N ⟨l,f⟩ p b s=some (Bz l p (N7 b) (N7 s)):=by
 have lb:=gb.len;have ls:=gs.len
 rw[D6]at lb ls
 have gm:=gb.mrg gs hd;have lm:=gm.len;have hnp:=AS3 hn;have hlst:=gs.lst hnp;obtain⟨h0,h1,h2,hh⟩:=gs.hd hnp
 obtain⟨x0,hx0,e0⟩:∃x,C3 s 0=some x∧x.at_=hdA (N7 s):=by
  cases s with
  |nil=>simp_all
  |cons x s=>exact⟨x,rfl,rfl⟩
 obtain⟨x1,hx1,e1⟩:=Vk hn (by omega);have hj:=Zk (n:=l.length) hN (by omega) (by omega) (by omega) gb.asc gs.asc hd gb.wf.ins gs.wf.ins;have ec:=I3 (mrg (N7 b) (N7 s))
 generalize (mrg (N7 b) (N7 s)).map O2=c at hj ec
 have lc:c.length≤100000:=by have:=J6 List.length ec;rw[D6]at this;omega
 have wc:WfS l (N7 c):=by rw[ec];exact gm.wf
 unfold U1 Bz;rw[hx0,hx1,hj];simp only[A4]
 by_cases h6:p.Op=6
 ·rw[A2 (L6 h6),A2 h6];obtain⟨y1,hy1,t1⟩:=RP (l:=l) (i:=S4 (N7 s)) (by omega) (by omega);obtain⟨y0,hy0,t0⟩:=RP (l:=l) (i:=x0.at_) (by omega) (by omega);rw[e1,hy1,hy0];simp only[A4,BS,t1,t0,e0]
 rw[A0 h6,A0 (by rw[Cg h6];simp)]
 by_cases h7:p.Op=7
 ·rw[A2 (L6 h7),A2 h7,An4 hN (by omega) wc];simp only[A4];rw[Xr hN (JX l (show(N7 c).length<1000000 by rw[D6];omega) _) _ _ hc,ec];rfl
 rw[A0 h7,A0 (by rw[Cg h7];simp)];obtain⟨n,hnn⟩:=Ft hlst.1;obtain⟨a,ha⟩:=Ft h0;rw[e0,ha,D3 (a:=((a:Nat):Int)) (by omega) (by omega),show((a:Int)+1)=((a+1:Nat):Int) by omega];rw[Ot (A:=Unit) (n:=n) (P:=Ud l p (N7 b) (N7 s)) (u:=()) 0 ?_ ?_ n (a+1) N (by omega) (by omega) (by omega),Vh (by omega) (by omega) (by omega) hh hlst.2]
 ·cases TQ l p (N7 b) (N7 s)<;>rfl
 ·intro i _ hi
  have hil:i<l.length:=by omega
  have e:ar .add .i64 (i:Int) 1=i+1:=D3 (by omega) (by omega);rw[A2 (Z6 (by omega)),AS4 hN (by omega),Ss hN (by omega) wc _ hc hil,ec];simp only[A4,R8,e];unfold Ud Mx
  grind
 intro i hi;rw[A0 (N4 (by omega))]
theorem Js (p:A1):(A1.pres p.cL).length+1=p.pre.length:=by rw[A1.pre_eq p];simp
theorem Av3 {N:Nat} (hN:40000000≤N):∀(n:Nat) (p:A1),p.pre.length≤n→p.pre.length≤16777216→Ap N n p=some (W5 p:Int):=by
 intro n
 induction n with
 |zero=>intro p h;have:=Js p;omega
 | succ n ih=>
  intro p h hb;have hp:=Js p;have hal:=V2 p;unfold Ap
  have h0:((if cmp .eql p.Op 0=true then some 1 else some 0:Option Int))=some (if p.Op=0 then 1 else 0):=by
   rw[D8]
   by_cases h:p.Op=0<;>simp[h]
  rw[h0];simp only[A4];rw[L5 p.cL (by omega) (mk:=fun(s:Int) i=>(s,i)) (body:=fun s q=>(Ap N n q).bind fun r=>some (.inl (ar .add .i64 s r))) (fin:=fun s=>s) (s:=if p.Op=0 then 1 else 0) (by omega) ?_ ?_]
  ·obtain⟨s',h1,q,h2,h3⟩:=Dr (R:=Int) (step:=fun(s:Int) q=>(Ap N n q).bind fun r=>some (.inl (ar .add .i64 s r)))
    (fun r s=>∃q,q++r=p.cL∧s=((if p.Op=0 then 1 else 0:Int)+((A1.pres q).countP fun y=>decide (y.Op=0):Nat))) (fun x r s ⟨q,e1,e2⟩=>by
     have hx:x∈p.cL:=by rw[←e1];simp
     have hxl:=L4 hx
     have hq:(A1.pres q).length≤(A1.pres p.cL).length:=by rw[←e1,BJ];simp
     have hc:=Fp (p:=fun y:A1=>decide (y.Op=0)) (l:=A1.pres q);have hc2:=Fp (p:=fun y:A1=>decide (y.Op=0)) (l:=x.pre);rw[ih x (by omega) (by omega)];refine⟨_,rfl,q++[x],by grind,?_⟩;have he:(W5 x:Int)=((x.pre.countP fun y=>decide (y.Op=0):Nat):Int):=rfl;rw[e2,BJ,DT]
     have:A1.pres [x]=x.pre:=by simp[A1.pres]
     rw[this,he,D3 (by split<;>omega) (by split<;>omega)]
     omega) (l:=p.cL) (s:=if p.Op=0 then 1 else 0) ⟨[],rfl,by simp[A1.pres]⟩
   rw[h1];simp only[A4]
   rw[H6]at h2
   rw[h3,h2,Fa]
   by_cases h:p.Op=0<;>simp[h]
  ·intro s i x hx hi;have e:ar .add .i64 (i:Int) 1=i+1:=D3 (by omega) (by omega);simp only[D4,B4,hi,G9,D1,F6,hx,A4,e];cases Ap N n x<;>rfl
  intro s;simp[D4,B4]
theorem Yh (f:A1→Bool):∀r:List A1,(A1.pres r).any f=r.any fun x=>x.pre.any f
 |[]=>rfl
 |a::r=>by simp only[A1.pres,List.any_append,Er,Yh f r]
theorem AQ5 {N:Nat} (hN:40000000≤N):∀(n:Nat) (p:A1),p.pre.length≤n→p.pre.length≤16777216→Bw N n p=some (p.pre.any fun y=>decide (y.Op=4)):=by
 intro n
 induction n with
 |zero=>intro p h;have:=Js p;omega
 | succ n ih=>
  intro p h hb;have hp:=Js p;have hal:=V2 p;unfold Bw;rw[A1.pre_eq p,Er]
  by_cases h4:p.Op=4
  ·rw[A2 (by rw[D8];simp_all)];simp[h4]
  rw[A0 (by rw[D8];grind)]
  rw [Nf (l:=p.cL) (fun x=>x.pre.any fun y=>decide (y.Op=4)) (by omega) (by omega) (fun i x hx hi=>by
      have hm:=CJ hx;have hxl:=L4 hm;have e:ar .add .i64 (i:Int) 1=i+1:=D3 (by omega) (by omega);simp only[D4,B4,hi,G9,D1,F6,hx,A4,e,ih x (by omega) (by omega)]
      split<;>rfl) (by simp[D4,B4])]
  rw[Yh]
  grind
theorem Yi {N:Nat} (hN:40000000≤N) {b n:Nat} (hb:b≤20000000) (hn:n≤20000000):∃r,GB N (b:Int) (n:Int) 1500=some r∧(r≤1500→r=((b ^ n:Nat):Int)):=by
 unfold GB
 have key:∀(k i M:Nat) (out:Int),i+k=n→k<M→out=((b ^ i:Nat):Int)→out≤30000000000→∃r,loopN
  (fun(s1:Int×Int)=>
   (
    if Ar.an (cmp .lss s1.2 (n:Int)) (cmp .leq s1.1 1500)=true then
     some (.inl (ar .mul .i64 s1.1 (b:Int),ar .add .i64 s1.2 1))
    else
     some (.inr s1.1)
    :Option ((Int×Int)⊕(Int))))
  M (out,(i:Int))=some r∧(r≤1500→r=((b ^ n:Nat):Int)):=by
  intro k
  induction k with
  |zero=>
   intro i M out hi hM ho _;obtain⟨M,rfl⟩:∃m,M=m+1:=⟨M-1,by omega⟩;refine⟨out,?_,fun _=>by rw[ho,show i=n by omega]⟩;unfold loopN
   dsimp only
   rw[A0 (by simp only[L3,D4];simp;omega)]
  | succ k ih=>
   intro i M out hi hM ho hs;obtain⟨M,rfl⟩:∃m,M=m+1:=⟨M-1,by omega⟩
   have h0:0≤out:=by rw[ho];omega
   by_cases hle:out≤1500
   ·have hmul:out*(b:Int)≤1500*20000000:=Int.mul_le_mul hle (by omega) (by omega) (by omega);have hmul0:0≤out*(b:Int):=Int.mul_nonneg h0 (by omega);have em:ar .mul .i64 out (b:Int)=out*(b:Int):=Bs (by omega) (by omega);have e:ar .add .i64 (i:Int) 1=i+1:=D3 (by omega) (by omega);obtain⟨r,h1,h2⟩:=ih (i+1) M (out*(b:Int)) (by omega) (by omega) (by rw[ho,Le];simp) (by omega);refine⟨r,?_,h2⟩;unfold loopN
    dsimp only
    rw[A2 (by simp only[L3,D4,BS];simp;omega),em,e,show((i:Int)+1)=((i+1:Nat):Int) by omega];exact h1
   refine⟨out,?_,fun h=>absurd h hle⟩;unfold loopN
   dsimp only
   rw[A0 (by simp only[L3,D4,BS];simp;omega)]
 obtain⟨r,h1,h2⟩:=key n 0 N 1 (by omega) (by omega) (by simp) (by omega);have h0:((0:Nat):Int)=0:=rfl
 rw[h0]at h1
 grind
theorem Az6 {N:Nat} (hN:40000000≤N) {p:A1} (hb:p.bulk≤16777216) {l:List A8} (hlb:l.length≤16777216):∃b,IY N p l=some b∧(b=true→l.length≤10∧((W5 p+1) ^ l.length≤1500∨(Bo p∧l.length ^ W5 p≤1500))):=by
 obtain⟨few,hf⟩:=few9 hN hb;have hpb:=Fy p;have hev:W5 p≤p.pre.length:=Fp;unfold IY;rw[hf];simp only[A4]
 by_cases h1:Ar.or (nt few) (cmp .gtr (Ar.len l) 10)=true
 ·rw[A2 h1];simp_all
 rw[A0 h1]
 have hl:l.length≤10:=by
  simp only[P5,R8,Br,B4]at h1
  grind
 rw[Nf (l:=l) (fun x=>cmp .gtr (Ar.len x.Values) 9) (by omega) (by omega) (fun i x hx hi=>by
  have e:ar .add .i64 (i:Int) 1=i+1:=D3 (by omega) (by omega);rw[A2 (X7 hi),F6,hx]
  grind) (by rw[A0 FD])]
 simp only[A4]
 by_cases h2:(l.any fun x=>cmp .gtr (Ar.len x.Values) 9)=true
 ·rw[A2 h2];simp_all
 rw[A0 h2]
 dsimp only
 rw[Av3 hN N p (by omega) (by omega),AQ5 hN N p (by omega) (by omega)];simp only[A4];obtain⟨r1,h3,h4⟩:=Yi hN (b:=W5 p+1) (n:=l.length) (by omega) (by omega);obtain⟨r2,h5,h6⟩:=Yi hN (b:=l.length) (n:=W5 p) (by omega) (by omega);rw[D3 (a:=(W5 p:Int)) (by omega) (by omega),show((W5 p:Int)+1)=((W5 p+1:Nat):Int) by omega,B4,h3];simp only[A4]
 by_cases h7:r1≤1500
 ·rw[A2 (show cmp .leq r1 1500=true from J1 h7)]
  grind
 rw[A0 (show¬(cmp .leq r1 1500=true) by rw[BS];grind)]
 cases hp:p.pre.any fun y=>decide (y.Op=4)with
 |true=>
  rw[A0 (show¬nt true=true by decide)]
  simp_all
 | false=>
  rw[A2 (show nt false=true from rfl),h5];refine⟨decide (r2≤1500),rfl,fun h=>⟨hl,.inr ⟨fun y hy e=>?_,?_⟩⟩⟩
  ·rw[IA]at hp
   simp_all
  grind
theorem AX9 {p:A1}{l:List A8}(hp:p.pre.length≤64)(hs:(W5 p+1) ^ l.length≤1500∨(Bo p∧l.length ^ W5 p≤1500)):Sml l.length p:=by
 rcases hs with h|⟨h1,h2⟩
 ·exact .inl h
 by_cases h3:2≤l.length
 ·simp_all[Sml]
 left
 have hev:W5 p≤p.pre.length:=Fp
 have:l.length=0∨l.length=1:=by omega
 rcases this with h|h<;>rw[h]<;>simp<;>omega
theorem AE2 {p:A1}{l:List A8}(hp:p.pre.length≤64)(hl:l.length≤10):mu l p 0≤1000:=by
 unfold mu;have:=R5 hp (show l.length+2≤12 by omega);omega
theorem out0 (l:List A8):KW l [] ((0:Nat):Int):=⟨Gd.nil l,fun _ h=>absurd h CF,by omega,by omega⟩
theorem AR0 {a b:Nat} (h:a+b<1000000):wr .i64 (sh .shr .u64 (wr .u64 (ar .add .i64 (a:Int) (b:Int))) 1)=(((a+b) / 2:Nat):Int):=by
 have hw:∀{n:Int},0≤n→n<1000000→IntKind.wrap .u64 n=n:=fun{n} h0 h1=>by
  have e:IntKind.wrap .u64 n=n % 18446744073709551616:=by
   unfold IntKind.wrap;simp[IntKind.bits,IntKind.signed]
  rw[e];omega
 rw[D3 (by omega) (by omega)]
 show IntKind.wrap .i64 (shI .shr .u64 (IntKind.wrap .u64 ((a:Int)+b)) 1)=_
 rw[hw (by omega) (by omega)]
 have e:shI .shr .u64 ((a:Int)+b) 1=((a:Int)+b) / 2:=by
  show((a:Int)+b).fdiv (2 ^ (min (1:Int).toNat 64))=_
  rw[show(2:Int) ^ (min (1:Int).toNat 64)=2 from rfl,Int.fdiv_eq_ediv_of_nonneg _ (by decide)]
 rw[e,Bs (by omega) (by omega)];omega
theorem Ba4 {n:Nat} {c:Nat→Bool} (hc:∀i j,i<j→j<n→c j=true→c i=true) {step:Int×Int→Option ((Int×Int)⊕Int)}
 (hs:∀i j:Nat,i<j→j≤n→step ((i:Int),(j:Int))=some (.inl (if c ((i+j) / 2)=true then((((i+j) / 2+1:Nat):Int),(j:Int))else((i:Int),(((i+j) / 2:Nat):Int)))))
 (he:∀i:Nat,step ((i:Int),(i:Int))=some (.inr (i:Int))):∀(k i j M:Nat),j-i≤k→i≤j→j≤n→k<M→(∀m,m<i→c m=true)→(∀m,j≤m→m<n→c m=false)→
 ∃r:Nat,r≤n∧(∀m,m<r→c m=true)∧(∀m,r≤m→m<n→c m=false)∧loopN step M ((i:Int),(j:Int))=some (r:Int):=by
 intro k
 induction k with
 |zero=>
  intro i j M h1 h2 h3 h4 h5 h6;obtain⟨M,rfl⟩:∃m,M=m+1:=⟨M-1,by omega⟩
  have:i=j:=by omega
  grind[loopN]
 | succ k ih=>
  intro i j M h1 h2 h3 h4 h5 h6;obtain⟨M,rfl⟩:∃m,M=m+1:=⟨M-1,by omega⟩
  by_cases hij:i<j
  ·have key:∀(i' j':Nat),step ((i:Int),(j:Int))=some (.inl ((i':Int),(j':Int)))→j'-i'≤k→i'≤j'→j'≤n→(∀m,m<i'→c m=true)→(∀m,j'≤m→m<n→c m=false)→
    ∃r:Nat,r≤n∧(∀m,m<r→c m=true)∧(∀m,r≤m→m<n→c m=false)∧loopN step (M+1) ((i:Int),(j:Int))=some (r:Int):=by
    simp_all[loopN]
   have hst:=hs i j hij h3
   by_cases hm:c ((i+j) / 2)=true
   ·rw[A2 hm]at hst
    refine key _ _ hst (by omega) (by omega) h3 (fun m hl=>?_) h6
    by_cases e:m=(i+j) / 2
    ·rw[e];exact hm
    exact hc m _ (by omega) (by omega) hm
   rw[A0 hm]at hst
   refine key _ _ hst (by omega) (by omega) (by omega) h5 fun m hl hn=>?_
   rw[Be]at hm
   by_cases e:m=(i+j) / 2
   ·rw[e];exact hm
   grind
  have:i=j:=by omega
  subst this
  grind[loopN]
theorem Bf6 {n:Nat} {c:Nat→Bool} (hc:∀i j,i<j→j<n→c j=true→c i=true) {step:Int×Int→Option ((Int×Int)⊕Int)} {M:Nat} (hM:n<M)
 (hs:∀i j:Nat,i<j→j≤n→step ((i:Int),(j:Int))=some (.inl (if c ((i+j) / 2)=true then((((i+j) / 2+1:Nat):Int),(j:Int))else((i:Int),(((i+j) / 2:Nat):Int)))))
 (he:∀i:Nat,step ((i:Int),(i:Int))=some (.inr (i:Int))):loopN step M (0,(n:Int))=some ((Classical.epsilon fun k:Nat=>k≤n∧(∀m,m<k→c m=true)∧∀m,k≤m→m<n→c m=false:Nat):Int)∧
  ∃k:Nat,(Classical.epsilon fun k:Nat=>k≤n∧(∀m,m<k→c m=true)∧∀m,k≤m→m<n→c m=false)=k∧k≤n∧(∀m,m<k→c m=true)∧∀m,k≤m→m<n→c m=false:=by
 obtain⟨r,r1,r2,r3,r4⟩:=Ba4 hc hs he n 0 n M (by omega) (by omega) (B3 _) hM (fun m h=>absurd h (by omega)) fun m h1 h2=>absurd h2 (by omega);have sp:=Classical.epsilon_spec (p:=fun k:Nat=>k≤n∧(∀m,m<k→c m=true)∧∀m,k≤m→m<n→c m=false) ⟨r,r1,r2,r3⟩
 generalize (Classical.epsilon fun k:Nat=>k≤n∧(∀m,m<k→c m=true)∧∀m,k≤m→m<n→c m=false)=k at *
 obtain⟨s1,s2,s3⟩:=sp
 have:k=r:=by
  rcases Ew k r with h|h|h
  ·have:=s3 k (B3 _) (by omega);rw[r2 k h]at this;cases this
  ·exact h
  grind
 simp_all
def ZN:List PR→List PR→Option (List PR)
 |[],b=>some b
 |x::a,[]=>some (x::a)
 |x::a,y::b=>if x.At=y.At then none else if x.At<y.At then(ZN a (y::b)).map (x:: ·)else(ZN (x::a) b).map (y:: ·)
termination_by a b=>a.length+b.length
theorem Al3 (b:List PR):ZN [] b=some b:=by unfold ZN;rfl
theorem Yy (a:List PR):ZN a []=some a:=by cases a<;>(unfold ZN;rfl)
theorem Yz (x y:PR)(a b:List PR):ZN (x::a) (y::b)=if x.At=y.At then none else if x.At<y.At then(ZN a (y::b)).map (x:: ·)else(ZN (x::a) b).map (y:: ·):=by rw[ZN]
theorem Mn:∀(n:Nat) {a b:List PR},a.length+b.length≤n→Ui a→Ui b→ZN a b=if O1 a b then some (mrg a b)else none
 |n,[],b,_,_,_=>by rw[Al3,Ds,A2];simp[O1]
 |n,x::a,[],_,_,_=>by rw[Yy,V8,A2];simp[O1]
 |0,x::a,y::b,h,_,_=>by simp at h
 | n+1,x::a,y::b,h,ha,hb=>by
  have ha':=List.pairwise_cons.1 ha;have hb':=List.pairwise_cons.1 hb
  simp only[H7]at h
  rw[Yz,Pr]
  by_cases e:x.At=y.At
  ·rw[A2 e,A0];simp_all[O1]
  rw[A0 e]
  by_cases hl:x.At<y.At
  ·rw[A2 hl,A2 hl,Mn n (by simp;omega) ha'.2 hb]
   by_cases hd:O1 a (y::b)
   ·rw[A2 hd,A2]
    ·rfl
    intro u hu v hv
    rcases List.mem_cons.1 hu with rfl|hu
    ·grind
    exact hd u hu v hv
   rw[A0 hd,A0]
   ·rfl
   simp_all[O1]
  rw[A0 hl,A0 hl,Mn n (by simp;omega) ha hb'.2]
  by_cases hd:O1 (x::a) b
  ·rw[A2 hd,A2]
   ·rfl
   intro u hu v hv
   rcases List.mem_cons.1 hv with rfl|hv
   ·grind
   exact hd u hu v hv
  rw[A0 hd,A0]
  ·rfl
  exact fun hh=>hd fun u hu v hv=>hh u hu v (.tail _ hv)
theorem HP {step:List PR×List PR×List PR→Option ((List PR×List PR×List PR)⊕(List PR⊕Unit))}
 (h00:∀o,step ([],[],o)=some (.inr (.inl o))) (h10:∀x a o,o.length≤1000000→step (x::a,[],o)=some (.inl (a,[],o++[x]))) (h01:∀y b o,o.length≤1000000→step ([],y::b,o)=some (.inl ([],b,o++[y])))
 (h11:∀x a y b o,o.length≤1000000→step (x::a,y::b,o)=if x.At=y.At then some (.inr (.inr ()))else if x.At<y.At then some (.inl (a,y::b,o++[x]))else some (.inl (x::a,b,o++[y]))):
 ∀(k:Nat) (a b o:List PR) (n:Nat),a.length+b.length≤k→k<n→o.length+k≤1000000→loopN step n (a,b,o)=some (match ZN a b with|some m=>.inl (o++m)|none=>.inr ())
 |k,[],[],o,n,_,hn,_=>by
  obtain⟨n,rfl⟩:∃m,n=m+1:=⟨n-1,by omega⟩
  simp_all[loopN,ZN]
 |0,x::a,b,o,n,h,_,_=>by simp at h
 |0,[],y::b,o,n,h,_,_=>by simp at h
 |k+1,x::a,[],o,n,h,hn,ho=>by
  obtain⟨n,rfl⟩:∃m,n=m+1:=⟨n-1,by omega⟩
  simp only[H7,W9]at h
  unfold loopN;rw[h10 _ _ _ (by omega)];have:=HP h00 h10 h01 h11 k a [] (o++[x]) n (by simp;omega) (by omega) (by simp;omega);simp only[this,Yy];simp
 |k+1,[],y::b,o,n,h,hn,ho=>by
  obtain⟨n,rfl⟩:∃m,n=m+1:=⟨n-1,by omega⟩
  simp only[H7,W9]at h
  unfold loopN;rw[h01 _ _ _ (by omega)];have:=HP h00 h10 h01 h11 k [] b (o++[y]) n (by simp;omega) (by omega) (by simp;omega);simp only[this,Al3];simp
 |k+1,x::a,y::b,o,n,h,hn,ho=>by
  obtain⟨n,rfl⟩:∃m,n=m+1:=⟨n-1,by omega⟩
  simp only[H7]at h
  unfold loopN;rw[h11 _ _ _ _ _ (by omega),Yz]
  by_cases e:x.At=y.At
  ·rw[A2 e,A2 e]
  rw[A0 e,A0 e]
  by_cases hl:x.At<y.At
  ·rw[A2 hl,A2 hl];have:=HP h00 h10 h01 h11 k a (y::b) (o++[x]) n (by simp;omega) (by omega) (by simp;omega);simp only[this];cases ZN a (y::b)<;>simp
  rw[A0 hl,A0 hl];have:=HP h00 h10 h01 h11 k (x::a) b (o++[y]) n (by simp;omega) (by omega) (by simp;omega)
  grind
theorem Tz {α:Type}(x:α)(l:List α):cmp .gtr (Ar.len (x::l)) 0=true:=Y4 (by rw[B4,H7];omega)
theorem Ww {α:Type}:cmp .gtr (Ar.len ([]:List α)) 0=false:=by rw[B4,Br];simp
theorem Zf {α:Type}(x:α)(l:List α):cmp .eql (Ar.len (x::l)) 0=false:=Cg (by rw[B4,H7];omega)
theorem AS1 {α:Type}:cmp .eql (Ar.len ([]:List α)) 0=true:=L6 rfl
theorem JQ {N:Nat}(hN:40000000≤N){a b:List PR}(h:a.length+b.length≤100000):AT N a b=some (match ZN a b with|some m=>(m,true)|none=>([],false)):=by
 unfold AT;rw[HP (fun o=>?_) (fun x a o ho=>?_) (fun y b o ho=>?_) (fun x a y b o ho=>?_) (a.length+b.length) a b [] N (B3 _) (by omega) (by simp;omega)]
 ·cases ZN a b<;>rfl
 ·simp only[Ww,P5,Lj,J7,G4]
 ·simp only[Ww,Tz,AS1,P5,L3,Lj,Bool.and_false,J7,G4,D1,Tx,NX,A4];rw[S3 (by simp;omega)];rfl
 ·simp only[Ww,Tz,Zf,P5,L3,Et,Bool.false_and,J7,G4,D1,Tx,NX,A4];rw[S3 (by simp;omega)];rfl
 simp only[Tz,Zf,P5,L3,Bool.or_self,Bool.and_self,J7,G4,D1,Tx,NX,A4];rw[S3 (by simp;omega),S3 (by simp;omega)]
 by_cases e:x.At=y.At
 ·rw[A2 (L6 e),A2 e]
 rw[A0 (by rw[Cg e];simp),A0 e]
 by_cases hl:x.At<y.At
 ·rw[A2 (Z6 hl),A2 hl];rfl
 rw[A0 (N4 hl),A0 hl];rfl
theorem At5 {N:Nat} (hN:40000000≤N) {s:List PR} (hl:s.length≤1000000) (i:Int):Hh N s i=some (RG s i):=by
 unfold Hh;rw[Nf (N:=N) (l:=s) (fun x=>decide (x.At=i)) (by omega) (by omega) ?_ ?_]
 ·unfold RG;cases s.any fun x=>decide (x.At=i)<;>rfl
 ·intro j x hx hj;have e:ar .add .i64 (j:Int) 1=j+1:=D3 (by omega) (by omega);rw[A2 (X7 hj),F6,hx];simp only[A4,e,D8]
  split<;>rfl
 rw[A0 FD]
theorem AR2 {N:Nat}(hN:40000000≤N){l:List A8}{s:List PR}(hs:s.length<1000000)(hw:WfS l s){p:A1}(hc:p.cN.bulk≤16777216){i:Nat}(hi:i<l.length):
 Kk N p l s i=some (Mx l p s i):=by
 unfold Kk Mx;rw[OM hi,E0 hi];simp only[A4]
 by_cases ht:l[i].Typ=p.Typ
 ·rw[A2 (L6 ht),Wg hN (by omega) hw];simp only[A4];rw[Qh hN (JX l (by omega) _) _ _ hc];simp[ht]
 rw[A0 (by rw[Cg ht];simp)];simp[ht]
theorem Ae4 {N:Nat} (hN:40000000≤N) {l:List A8} (hl:l.length≤10000) {p:A1} (hc:p.cN.bulk≤16777216) {b s:List PR} (gb:Gd l b) (gs:Gd l s) (hn:s≠[]) (hd:O1 b s):
 IW N p l b s=some (if 5≤p.Op∧p.Op≤7 then Bz l p b s else true):=by
 have lb:=gb.len;have ls:=gs.len;have gm:=gb.mrg gs hd;have lm:=gm.len;have hlst:=gs.lst hn;obtain⟨h0,h1,h2,hh⟩:=gs.hd hn;obtain⟨x0,hx0,e0⟩:=AZ7 hn;obtain⟨x1,hx1,_,e1⟩:=FE hn;unfold IW;rw[JQ hN (by omega),Mn _ (B3 _) gb.asc gs.asc,A2 hd,hx0,PA hn (by omega),hx1];simp only[A4]
 by_cases h6:p.Op=6
 ·rw[A2 (L6 h6),A2 (by omega),Bz,A2 h6];obtain⟨y1,hy1,t1⟩:=RP (l:=l) (i:=x1.At) (by omega) (by omega);obtain⟨y0,hy0,t0⟩:=RP (l:=l) (i:=x0.At) (by omega) (by omega);rw[hy1,hy0];simp only[A4,BS,t1,t0,e0,e1]
 rw[A0 (by rw[Cg h6];simp)]
 by_cases h7:p.Op=7
 ·rw[A2 (L6 h7),A2 (by omega),Bz,A0 h6,A2 h7,Wg hN (by omega) gm.wf];simp only[A4];rw[Qh hN (JX l (by omega) _) _ _ hc];rfl
 rw[A0 (by rw[Cg h7];simp)];obtain⟨n,hnn⟩:=Ft hlst.1;obtain⟨a,ha⟩:=Ft h0;rw[e0,ha,D3 (a:=((a:Nat):Int)) (by omega) (by omega),show((a:Int)+1)=((a+1:Nat):Int) by omega]
 by_cases h5:p.Op=5
 ·rw[A2 (by omega),Bz,A0 h6,A0 h7];rw[Ot (A:=Unit) (n:=n) (P:=Ud l p b s) (u:=()) 0 ?_ ?_ n (a+1) N (by omega) (by omega) (by omega),Vh (by omega) (by omega) (by omega) hh hlst.2]
  ·cases TQ l p b s<;>rfl
  ·intro i _ hi
   have hil:i<l.length:=by omega
   have e:ar .add .i64 (i:Int) 1=i+1:=D3 (by omega) (by omega);rw[A2 (by rw[L3,Z6 (by omega),L6 h5];rfl),At5 hN (by omega),OM hil];simp only[A4];rw[Wg hN (by omega) gm.wf];simp only[A4,e];rw[Qh hN (JX l (by omega) _) _ _ hc];simp only[A4,R8,D8];unfold Ud
   grind
  intro i hi;rw[A0 (by rw[L3];have:=N4 (a:=(i:Int)) (b:=x1.At) (by omega);rw[Be]at this;rw[this];simp)]
 rw[A0 (by omega)];obtain⟨M,rfl⟩:∃m,N=m+1:=⟨N-1,by omega⟩;unfold loopN;rw[A0 (by rw[L3,Cg h5];simp)];rfl
def Mj (l:List A8)(r:Q4):Option Nat:=l.findIdx? fun e=>decide (Z3 e=X8 r)
theorem scmp_eq {N:Nat}(hN:40000000≤N)(e:A8)(r:Q4):Bu N e r=some (O4 (Z3 e) (X8 r)):=by
 unfold Bu;rw[Np,Np,Np];simp only[A4];rw[or_eq hN (by simp),Z3,X8,lex3];rfl
theorem AI2 {l:List A8} (hl:l.length≤4096) (h:Cy l=0):∀(d i:Nat),i+d+1<l.length→∀(h1:i<l.length) (h2:i+d+1<l.length),O4 (Z3 l[i]) (Z3 l[i+d+1])<0:=by
 have hc:∀i,i<l.length→UB l i=0:=by
  unfold Cy at h
  rw[A0 (by omega)]at h
  exact fun i hi=>FM.1 h i (List.mem_range.2 hi)
 have h1:∀i,∀(h2:i+1<l.length),O4 (Z3 l[i]) (Z3 l[i+1])<0:=fun i h2=>by
  have:=hc (i+1) h2
  grind[UB]
 intro d
 induction d with
 |zero=>simp_all
 |succ d ih=>
  intro i _ hi h2;exact Ky (ih i (by omega) hi (by omega)) (h1 (i+d+1) h2)
theorem Ah1 {l:List A8}(hl:l.length≤4096)(h:Cy l=0){i j:Nat}(hij:i<j)(hj:j<l.length):O4 (Z3 (l[i]'(by omega))) (Z3 l[j])<0:=by
 have:=AI2 hl h (j-i-1) i (by omega) (by omega) (by omega)
 grind
theorem Ht {l:List A8}{r:Q4}{i:Nat}(h:Mj l r=some i):∃hi:i<l.length,Z3 l[i]=X8 r:=by
 unfold Mj at h
 obtain⟨hi,h1,_⟩:=List.findIdx?_eq_some_iff_getElem.1 h
 simp_all
theorem Aj6 {l:List A8}(hl:l.length≤4096)(hc:Cy l=0){r:Q4}{i:Nat}(hi:i<l.length)(h:Z3 l[i]=X8 r):Mj l r=some i:=by
 unfold Mj;rw[List.findIdx?_eq_some_iff_getElem];refine⟨hi,J1 h,fun j hji hp=>?_⟩;have:=Ah1 hl hc hji hi
 rw[h,←Iz hp,JR]at this
 omega
theorem AR4 {N:Nat} (hN:40000000≤N) {l:List A8} (hl:l.length≤4096) (hc:Cy l=0) (r:Q4):∃k:Nat,EA N l r=some ((k:Int),(Mj l r).isSome,0)∧∀i,Mj l r=some i→k=i:=by
 unfold EA;rw[Ai9 hN,hc];simp only[A4];rw[A0 (K8 rfl)];unfold Q7
 have hgt:∀{i:Nat} (h:i<l.length),(match l[i]? with|some x=>decide (O4 (Z3 x) (X8 r)<0)|none=>false)=decide (O4 (Z3 l[i]) (X8 r)<0):=fun{i} h=>by rw[E0 h]
 have ho:∀i j,i<j→j<l.length→(match l[j]? with|some x=>decide (O4 (Z3 x) (X8 r)<0)|none=>false)=true→(match l[i]? with|some x=>decide (O4 (Z3 x) (X8 r)<0)|none=>false)=true:=fun i j hij hj h=>by
  rw[hgt hj]at h
  rw[hgt (by omega)];exact J1 (Ky (Ah1 hl hc hij hj) (Iz h))
 rw[B4]
 have hk:=fun hs he=>Bf6 (n:=l.length) (c:=fun i=>match l[i]? with|some x=>decide (O4 (Z3 x) (X8 r)<0)|none=>false) ho (M:=N) (by omega) (step:=fun(s1:Int×Int)=>
  (
   if cmp .lss s1.1 s1.2=true then
    (C3 l (wr .i64 (sh .shr .u64 (wr .u64 (ar .add .i64 s1.1 s1.2)) 1))).bind fun x3=>
    (Bu N x3 r).bind fun r4=>
    if cmp .lss r4 0=true then
     some (.inl (ar .add .i64 (wr .i64 (sh .shr .u64 (wr .u64 (ar .add .i64 s1.1 s1.2)) 1)) 1,s1.2))
    else
     some (.inl (s1.1,wr .i64 (sh .shr .u64 (wr .u64 (ar .add .i64 s1.1 s1.2)) 1)))
   else
    some (.inr s1.1)
   :Option ((Int×Int)⊕(Int)))) hs he
 obtain⟨e,k,ek,k1,k2,k3⟩:=hk (fun i j hij hj=>by
  have hm2:(i+j) / 2<l.length:=by omega
  dsimp only
  rw[A2 (Z6 (by omega)),AR0 (by omega),F6,E0 hm2];simp only[A4];rw[scmp_eq hN];simp only[A4]
  by_cases hc:O4 (Z3 l[(i+j) / 2]) (X8 r)<0
  ·rw[A2 (Z6 hc),A2 (J1 hc),D3 (by omega) (by omega)];rfl
  rw[A0 (N4 hc),A0 (by grind)]) (fun i=>by dsimp only;rw[A0 (N4 (by omega))])
 rw[ek]at e
 rw[e];simp only[A4];have b1:∀m (hm:m<l.length),m<k→O4 (Z3 l[m]) (X8 r)<0:=fun m hm h=>Iz (by have:=k2 m h;rw[hgt hm]at this;exact this);have b2:∀m (hm:m<l.length),k≤m→¬O4 (Z3 l[m]) (X8 r)<0:=fun m hm h=>of_decide_eq_false (by have:=k3 m h hm;rw[hgt hm]at this;exact this)
 have hu:∀i,Mj l r=some i→k=i:=fun i hi=>by
  obtain⟨hil,he⟩:=Ht hi
  rcases Ew k i with h|h|h
  ·have:=Ah1 hl hc h hil
   rw[he]at this
   grind
  ·exact h
  have:=b1 i hil h
  rw[he,JR]at this;omega
 refine⟨k,?_,hu⟩
 by_cases hkl:k<l.length
 ·rw[A2 (Z6 (by omega)),F6,E0 hkl];simp only[A4];rw[scmp_eq hN];simp only[A4,D8];refine J6 (fun x=>some ((k:Int),x,(0:Int))) ?_
  by_cases h0:O4 (Z3 l[k]) (X8 r)=0
  ·rw[Aj6 hl hc hkl (Pu h0)];simp[h0]
  cases hp:Mj l r with
  |none=>simp[h0]
  |some i=>
   have:=hu i hp;subst this;obtain⟨_,he⟩:=Ht hp
   rw[he,JR]at h0;omega
 rw[A0 (N4 (by omega))];simp only[A4];refine J6 (fun x=>some ((k:Int),x,(0:Int))) ?_
 cases hp:Mj l r with
 |none=>rfl
 |some i=>
  have:=hu i hp;subst this;obtain⟨h,_⟩:=Ht hp;omega
theorem AP5:(List.range 5000).all (fun n=>match Ic 0 1 (n:Int)with|some (a,b)=>(a==0)&&(b==(n:Int))|none=>false)=true:=by kernel_rfl
theorem mul_one {N n:Nat}(h:n<5000):PL N 1 (n:Int)=some (0,(n:Int)):=by
 have h1:=List.all_eq_true.1 AP5 n (List.mem_range.2 h);have e:Ic 0 1 (n:Int)=Ic N 1 (n:Int):=rfl
 rw[e]at h1
 grind[PL]
def M4 (p:A1)(c:Int)(i:Nat):A1:=if p.Op=1∨p.Op=3 then(p.cL[i]?).getD p else if p.Op=2 then(p.cL[c.toNat]?).getD p else(p.cL[0]?).getD p
def KL (p:A1)(n:Nat):Prop:=if p.Op=0 then n≠0 else if p.Op=1∨p.Op=3 then n≠p.cL.length else if p.Op=4 then n=0 else n≠1
mutual
def IU:A3→A1→Int
 |⟨r,c,ks⟩,p=>if(p.Op≠0∧¬(r.Time=0∧r.Source=0∧r.Seq=0))∨(p.Op≠2∧c≠0)then 3 else if p.Op=2∧(c<0∨(p.cL.length:Int)≤c)then 2 else if KL p ks.length then 15 else Ci ks p c 0
def Ci:List A3→A1→Int→Nat→Int
 |[],_,_,_=>0
 |k::ks,p,c,i=>if IU k (M4 p c i)=0 then Ci ks p c (i+1)else IU k (M4 p c i)
end
theorem Jv (d:A3)(p:A1):IU d p=if(p.Op≠0∧¬(d.Ref.Time=0∧d.Ref.Source=0∧d.Ref.Seq=0))∨(p.Op≠2∧d.Choice≠0)then 3 else if p.Op=2∧(d.Choice<0∨(p.cL.length:Int)≤d.Choice)then 2 else if KL p d.Kids.length then 15 else Ci d.Kids p d.Choice 0:=by
 cases d;simp only[IU]
theorem K4 {p:A1} (hw:WfN p) {c:Int} {i n:Nat} (h:¬KL p n) (hi:i<n) (hc:p.Op=2→0≤c∧c<p.cL.length):M4 p c i∈p.cL∧(p.Op=1∨p.Op=3→p.cL[i]? =some (M4 p c i))∧(p.Op=2→p.cL[c.toNat]? =some (M4 p c i))∧(4≤p.Op→p.cL=[M4 p c i]):=by
 have ho:=hw.op
 unfold KL at h
 unfold M4
 by_cases h0:p.Op=0
 ·rw[A2 h0]at h;omega
 rw[A0 h0]at h
 by_cases h1:p.Op=1∨p.Op=3
 ·rw[A2 h1]at h
  have hi':i<p.cL.length:=by omega
  rw[A2 h1,E0 hi']
  grind
 rw[A0 h1]
 by_cases h2:p.Op=2
 ·have:=hc h2
  have hi':c.toNat<p.cL.length:=by omega
  rw[A2 h2,E0 hi']
  simp_all
 rw[A0 h2];obtain⟨q,hq⟩:=hw.a2 (by omega);rw[hq]
 simp_all
theorem PW {a b:Int}(h:¬a=b):¬(cmp .eql a b=true):=by rw[Cg h];simp
theorem AV0:∀{ks:List A3} {p:A1} {c:Int} {j:Nat},Ci ks p c j=0→∀i (h:i<ks.length),IU ks[i] (M4 p c (j+i))=0
 |[],_,_,_,_,i,h=>absurd h (by simp)
 | k::ks,p,c,j,hs,i,h=>by
  rw[Ci]at hs
  by_cases hz:IU k (M4 p c j)=0
  ·rw[A2 hz]at hs
   cases i with
   |zero=>exact hz
   |succ i=>
    have:=AV0 hs i (by grind)
    rw[show j+1+i=j+(i+1) by omega]at this
    exact this
  omega
structure Su (d:A3) (p:A1):Prop where
 n:¬KL p d.Kids.length
 c:p.Op=2→0≤d.Choice∧d.Choice<p.cL.length
 k:∀i (h:i<d.Kids.length),IU d.Kids[i] (M4 p d.Choice i)=0
theorem DE {d:A3} {p:A1} (h:IU d p=0):Su d p:=by
 rw[Jv]at h
 split at h
 ·cases h
 split at h
 ·cases h
 split at h
 ·cases h
 next h1 h2 h3=>
 exact⟨h3,fun e=>by
  omega,fun i hi=>by have:=AV0 h i hi;rwa[K1]at this⟩
theorem Su.pos {d:A3} {p:A1} (h:Su d p) (hw:WfN p) (h0:p.Op≠0):1≤d.Kids.length:=by
 have hn:=h.n;have ho:=hw.op
 unfold KL at hn
 rw[A0 h0]at hn
 by_cases h1:p.Op=1∨p.Op=3
 ·rw[A2 h1]at hn
  have:=List.length_pos_iff.2 (hw.a1 (by omega) (by omega));omega
 rw[A0 h1]at hn
 grind
theorem Su.one {d:A3}{p:A1}(h:Su d p)(h0:p.Op≠0)(h1:¬(p.Op=1∨p.Op=3))(h4:p.Op≠4):d.Kids.length=1:=by
 have hn:=h.n
 simp_all[KL]
theorem Qj {a b:Int}(h0:0≤a)(h:a<b):ar .rem .i64 a b=a:=by
 have e:ar .rem .i64 a b=a.tmod b:=rfl;rw[e,Int.tmod_eq_of_lt h0 h]
theorem Aj2 (a:Int):ar .rem .i64 a 1=0:=by
 have e:ar .rem .i64 a 1=a.tmod 1:=rfl;rw[e,Int.tmod_one]
theorem AS9 {p:A1} (hw:Ga p) (hpp:p.pre.length≤64) {d:A3} (hs:Su d p) (h0:p.Op≠0) (h2:p.Op≠2) {i:Nat} (hi:i<d.Kids.length):C3 p.cL (ar .rem .i64 (i:Int) (Ar.len p.cL))=some (M4 p d.Choice i):=by
 have hm:=K4 hw.self hs.n hi hs.c;have hal:=V2 p;have ho:=hw.self.op
 by_cases h1:p.Op=1∨p.Op=3
 ·have:=hm.2.1 h1
  have hlt:i<p.cL.length:=by
   grind
  rw[B4,Qj (by omega) (by omega),F6];exact this
 have:=hm.2.2.2 (by omega);rw[this,B4,CM,show((1:Nat):Int)=1 from rfl,Aj2];rfl
def BV (p:A1):Prop:=p.Op=1∨p.Op=4
def Eb (p:A1)(b s:List PR):List PR:=if BV p then mrg b s else b
def AP (p:A1)(f:Int)(s:List PR):Int:=if BV p∧s≠[]then S4 s+1 else f
mutual
def OX (l:List A8):A3→A1→List PR→Int→Option (List PR)
 |⟨r,c,ks⟩,p,b,f=>if p.Op=0 then(match Mj l r with|some i=>if f≤(i:Int)∧Mx l p b i=true then some [⟨p.Var,(i:Int)⟩]else none|none=>none)
  else(Dz l ks p c 0 b f []).bind fun s=>if 5≤p.Op∧¬Bz l p b s=true then none else some s
def Dz (l:List A8):List A3→A1→Int→Nat→List PR→Int→List PR→Option (List PR)
 |[],_,_,_,_,_,s=>some s
 |k::ks,p,c,i,b,f,s=>(OX l k (M4 p c i) (Eb p b s) (AP p f s)).bind fun x=>if S8 s x=true then none else Dz l ks p c (i+1) b f (mrg s x)
end
theorem HC (l:List A8)(d:A3)(p:A1)(b:List PR)(f:Int):OX l d p b f=if p.Op=0 then(match Mj l d.Ref with|some i=>if f≤(i:Int)∧Mx l p b i=true then some [⟨p.Var,(i:Int)⟩]else none|none=>none)
 else(Dz l d.Kids p d.Choice 0 b f []).bind fun s=>if 5≤p.Op∧¬Bz l p b s=true then none else some s:=by
 cases d;simp only[OX]
def Uu (l:List A8)(p:A1)(c:Int)(b:List PR)(f:Int)(k:A3)(i:Nat)(s:List PR):Option (List PR):=(OX l k (M4 p c i) (Eb p b s) (AP p f s)).bind fun x=>if S8 s x=true then none else some (mrg s x)
theorem W2 (l:List A8) (k:A3) (ks:List A3) (p:A1) (c:Int) (i:Nat) (b:List PR) (f:Int) (s:List PR):Dz l (k::ks) p c i b f s=(Uu l p c b f k i s).bind fun t=>Dz l ks p c (i+1) b f t:=by
 rw[Dz,Uu]
 cases OX l k (M4 p c i) (Eb p b s) (AP p f s)with
 |none=>rfl
 |some x=>
  grind
theorem At7 {S T R:Type} {ks:List A3} {step:S→Option (S⊕(R⊕Unit))} {rep:Nat→T→S} {nx:A3→Nat→T→Option T} {G:List A3→Nat→T→Option T} {I:Nat→T→Prop} {res:T→R}
 (g0:∀i t,G [] i t=some t) (g1:∀k ks i t,G (k::ks) i t=(nx k i t).bind (G ks (i+1)))
 (hs:∀i (h:i<ks.length) t,I i t→(nx ks[i] i t=none∧step (rep i t)=some (.inr (.inr ())))∨∃t',nx ks[i] i t=some t'∧step (rep i t)=some (.inl (rep (i+1) t'))∧I (i+1) t')
 (he:∀t,I ks.length t→step (rep ks.length t)=some (.inr (.inl (res t)))) {N:Nat} (hN:ks.length<N) {t0:T} (h0:I 0 t0):
 (G ks 0 t0=none∧loopN step N (rep 0 t0)=some (.inr ()))∨∃t,G ks 0 t0=some t∧I ks.length t∧loopN step N (rep 0 t0)=some (.inl (res t)):=by
 have key:∀(d i N:Nat) (t:T),i+d=ks.length→d<N→I i t→(G (ks.drop i) i t=none∧loopN step N (rep i t)=some (.inr ()))∨∃t',G (ks.drop i) i t=some t'∧I ks.length t'∧loopN step N (rep i t)=some (.inl (res t')):=by
  intro d
  induction d with
  |zero=>
   intro i N t hi hN ht;obtain⟨N,rfl⟩:∃m,N=m+1:=⟨N-1,by omega⟩
   have:i=ks.length:=by omega
   simp_all[loopN]
  |succ d ih=>
   intro i N t hi hN ht;obtain⟨N,rfl⟩:∃m,N=m+1:=⟨N-1,by omega⟩
   have hik:i<ks.length:=by omega
   rw[R7 hik,g1]
   grind[loopN]
 grind
theorem Ay8 {S T R X:Type}{ks:List A3}{step:S→Option (S⊕(R⊕Unit))}{s0:S}{k:R⊕Unit→Option X}{Q:X→Prop}(rep:Nat→T→S)(nx:A3→Nat→T→Option T)(G:List A3→Nat→T→Option T)(I:Nat→T→Prop)(res:T→R){t0:T}(e0:s0=rep 0 t0)
 (g0:∀i t,G [] i t=some t) (g1:∀k ks i t,G (k::ks) i t=(nx k i t).bind (G ks (i+1))) {N:Nat} (hN:ks.length<N) (h0:I 0 t0)
 (hs:∀i (h:i<ks.length) t,I i t→(nx ks[i] i t=none∧step (rep i t)=some (.inr (.inr ())))∨∃t',nx ks[i] i t=some t'∧step (rep i t)=some (.inl (rep (i+1) t'))∧I (i+1) t')
 (he:∀t,I ks.length t→step (rep ks.length t)=some (.inr (.inl (res t))))
 (k1:G ks 0 t0=none→∃r,k (.inr ())=some r∧Q r) (k2:∀t,G ks 0 t0=some t→I ks.length t→∃r,k (.inl (res t))=some r∧Q r):∃r,(loopN step N s0).bind k=some r∧Q r:=by
 subst e0
 rcases At7 g0 g1 hs he hN h0 with⟨h1,h2⟩|⟨t,h1,h2,h3⟩
 ·rw[h2];exact k1 h1
 simp_all
theorem Ad6 {s x:List PR}(h:x≠[]):S4 (s++x)=S4 x:=by
 unfold S4;rw[List.getLast?_append]
 cases hx:x.getLast? with
 |none=>simp_all
 |some y=>rfl
theorem Tn {l:List A8}{s x:List PR}{f:Int}(hs:s=[]∨GR l f s)(hx:GR l (if s≠[]then S4 s+1 else f) x):S4 (mrg s x)=S4 x:=by
 rcases hs with rfl|hs
 ·rw[Ds]
 rw[A2 hs.ne]at hx
 rw[Th fun a ha b hb=>by have:=Ie hs.gd.asc a ha;have:=hx.ge b hb;omega,Ad6 hx.ne]
theorem Pn {l:List A8} {p:A1} {b s:List PR} {f:Int} (ho:KW l b f) (hs:s=[]∨GR l f s):KW l (Eb p b s) (AP p f s):=by
 unfold Eb AP
 by_cases hc:BV p
 ·rw[A2 hc]
  rcases hs with rfl|hs
  ·rw[A0 (fun h=>h.2 rfl),V8];exact ho
  rw[A2 ⟨hc,hs.ne⟩];exact ho.next hs
 simp_all
theorem Ph {l:List A8} {p:A1} {s x:List PR} {f:Int} (hs:s=[]∨GR l f s) (hx:GR l (AP p f s) x) (hm:S8 s x=false):GR l f (mrg s x):=by
 rcases hs with rfl|hs
 ·rw[Ds]
  simp_all[AP]
 unfold AP at hx
 by_cases hc:BV p
 ·rw[A2 ⟨hc,hs.ne⟩]at hx
  exact(hs.seq hx).1
 rw[A0 fun h=>hc h.1]at hx
 exact hs.all hx (T7.1 hm)
theorem AG6 {l:List A8} {p:A1} {s x:List PR} {f:Int} (hs:s=[]∨GR l f s) (hx:GR l (AP p f s) x) (hc:BV p):AP p f (mrg s x)=S4 x+1:=by
 have hx':GR l (if s≠[]then S4 s+1 else f) x:=by
  simp_all[AP]
 have hne:mrg s x≠[]:=fun e=>by
  have h1:=J6 List.length e
  rw[Kx,W9]at h1
  have:=List.length_pos_iff.2 hx.ne;omega
 unfold AP;rw[A2 ⟨hc,hne⟩,Tn hs hx']
theorem WL (p:A1):Ar.or (cmp .eql p.Op 1) (cmp .eql p.Op 4)=true↔BV p:=by
 simp only[P5,D8,BV];simp
theorem AG1 {l:List A8}{s:List PR}(h:Gd l s):InS l.length s:=fun x hx=>(h.wf x hx).2
theorem Ni {N:Nat}(hN:40000000≤N){l:List A8}(hl:l.length≤4096){a b:List DP}(ha:Gd l (N7 a))(hb:Gd l (N7 b))(hd:O1 (N7 a) (N7 b)):I0 N a b=some ((mrg (N7 a) (N7 b)).map O2):=by
 have la:=ha.len;have lb:=hb.len
 rw[D6]at la lb
 exact Zk hN (n:=l.length) (by omega) (by omega) (by omega) ha.asc hb.asc hd (AG1 ha) (AG1 hb)
def okd (r:List DP×Bool):Option (List PR):=if r.2=true then some (N7 r.1)else none
theorem Xm {N:Nat} (hN:40000000≤N) {l:List A8} (hl:l.length≤4096) (hchk:Cy l=0) (c:Int):∀(n:Nat) (p:A1) (d:A3) (o:List DP) (f:Int),PX d≤n→GK d≤4096→Ga p→p.pre.length≤64→IU d p=0→KW l (N7 o) f→
 ∃r,N1 N n ⟨l,c⟩ p d o f=some r∧okd r=OX l d p (N7 o) f∧(r.2=true→GR l f (N7 r.1))
 |0,p,d,o,f,h,_,_,_,_,_=>by rw[Z5]at h;omega
 | n +1,p,d,o,f,h,hs,hw,hpp,hsu,ho=>by
  have hsz:=HF d;have hdp:=Z5 d;have hkl:=LT d.Kids;have hop:=hw.self.op;have hol:=ho.gd.len
  rw[D6]at hol
  unfold N1;rw[HC]
  by_cases h0:p.Op=0
  ·rw [A2 (L6 h0),A2 h0];obtain⟨k,hf,hk⟩:=AR4 hN hl hchk d.Ref
   dsimp only
   rw[hf];simp only[A4]
   cases hp:Mj l d.Ref with
   |none=>
    refine⟨([⟨p.Var,(k:Int)⟩],false),?_,rfl,fun h=>by cases h⟩;rw[A0 (by simp[L3])]
   | some i=>
    have hki:=hk i hp;subst hki;obtain⟨hil,_⟩:=Ht hp
    by_cases hfi:f≤(k:Int)
    ·rw[A2 (by rw[L3,R4];grind),Ss hN (by omega) ho.gd.wf c hw.self.cond hil];refine⟨([⟨p.Var,(k:Int)⟩],Mx l p (N7 o) k),rfl,?_,fun _=>⟨⟨fun x hx=>?_,LL _ _⟩,fun x hx=>?_,by simp⟩⟩
     ·unfold okd
      by_cases ht:Mx l p (N7 o) k=true<;>simp[ht,hfi,dpr]
     ·rw[List.mem_singleton.1 hx];exact⟨hw.self.var h0,by simp_all[dpr]⟩
     rw[List.mem_singleton.1 hx];exact hfi
    rw[A0 (by rw[L3,R4];grind)];exact⟨([⟨p.Var,(k:Int)⟩],false),rfl,by simp[okd,hfi],fun h=>by cases h⟩
  rw[A0 (PW h0),A0 h0];have hS:=DE hsu;have hpos:=hS.pos hw.self h0
  have kid:∀(i:Nat) (hi:i<d.Kids.length) (o':List DP) (f':Int),KW l (N7 o') f'→∃r,N1 N n ⟨l,c⟩ (M4 p d.Choice i) d.Kids[i] o' f'=some r∧okd r=OX l d.Kids[i] (M4 p d.Choice i) (N7 o') f'∧(r.2=true→GR l f' (N7 r.1)):=by
   intro i hi o' f' ho';have hm:=G3 hi;have hma:=(K4 hw.self hS.n hi hS.c).1;have h1:=AZ hm;have h2:=Gw hm;have h3:=L4 hma;exact Xm hN hl hchk c n _ _ o' f' (by omega) (by omega) (hw.arg hma) (by omega) (hS.k i hi) ho'
  by_cases h2:p.Op=2
  ·rw[A2 (L6 h2)];have hc:=hS.c h2;have hone:=hS.one h0 (by omega) (by omega)
   obtain⟨k0,hk0⟩:∃k0,d.Kids=[k0]:=by
    match hk:d.Kids,hone with
    |[k0],_=>simp_all
   have hi:0<d.Kids.length:=by omega
   obtain⟨r,e1,e2,e3⟩:=kid 0 hi o f ho;have ha:=(K4 hw.self hS.n hi hS.c).2.2.1 h2
   have e4:d.Kids[0]=k0:=by simp[hk0]
   rw[e4]at e1 e2
   have hci:C3 p.cL d.Choice=some (M4 p d.Choice 0):=by
    simp_all[C3]
   have hk:C3 d.Kids 0=some k0:=by rw[hk0];rfl
   rw[hci,hk];simp only[A4];rw[e1];refine⟨r,rfl,?_,e3⟩;rw[hk0,W2]
   have hnc:¬BV p:=by simp_all[BV]
   simp only[Uu,Eb,AP,hnc,G4,false_and];rw[←e2];unfold okd;cases r.2
   ·rfl
   simp[Dz,Ds,S8,h2]
  rw[A0 (PW h2)]
  refine Ay8 (ks:=d.Kids) (T:=List PR) (fun i s=>(AP p f s,s.map O2,(i:Int))) (Uu l p d.Choice (N7 o) f) (fun ks i s=>Dz l ks p d.Choice i (N7 o) f s) (fun i s=>(i=0∧s=[])∨GR l f s) (fun s=>s.map O2) (t0:=[]) (by simp[AP])
   (fun i t=>by rw[Dz]) (fun k ks i t=>W2 l k ks p d.Choice i (N7 o) f t) (by omega) (.inl ⟨rfl,rfl⟩) ?_ ?_ (fun h1=>by rw[h1];exact⟨([],false),rfl,rfl,fun h=>by cases h⟩) ?_
  ·intro i hi s hI;have hs':s=[]∨GR l f s:=hI.imp (fun h=>h.2) id;have hon:=Pn (p:=p) ho hs';have gs:Gd l s:=hs'.elim (fun h=>h▸Gd.nil l) fun h=>h.gd;have ls:=gs.len;have hap:O1 (N7 o) s:=hs'.elim (fun h=>h▸fun _ _ y hy=>absurd hy (CF)) fun h=>ho.apart h
   dsimp only
   rw[A2 (X7 (by omega)),F6,E0 hi];simp only[A4]
   have e1:((if Ar.or (cmp .eql p.Op 1) (cmp .eql p.Op 4)=true then
    (I0 N o (s.map O2)).bind fun r11=>
    some r11
    else
     some o:Option (List A6)))=some ((Eb p (N7 o) s).map O2):=by
    unfold Eb
    by_cases hc:BV p
    ·rw[A2 ((WL p).2 hc),A2 hc,Ni hN hl ho.gd (by rw[I3];exact gs) (by rw[I3];exact hap),I3];rfl
    rw[A0 (fun h=>hc ((WL p).1 h)),A0 hc,AS2]
   rw[e1];simp only[A4]
   have hne:p.cL≠[]:=fun e=>by
    have:=(K4 hw.self hS.n hi hS.c).1
    rw[e]at this;cases this
   have hq:KX (cmp .neq (Ar.len p.cL) 0)=some ():=by
    unfold KX;rw[A2 (K9 (by rw[B4];have:=List.length_pos_iff.2 hne;omega))]
   rw[hq,AS9 hw hpp hS h0 h2 hi];simp only[A4];obtain⟨r,v1,v2,v3⟩:=kid i hi ((Eb p (N7 o) s).map O2) (AP p f s) (by rw[I3];exact hon)
   rw[I3]at v2
   rw[v1];simp only[A4]
   by_cases hok:r.2=true
   ·rw[A0 (by rw[R8,hok];simp)];have hx:=v3 hok;have lx:=hx.gd.len
    rw[D6]at lx
    have v4:OX l d.Kids[i] (M4 p d.Choice i) (Eb p (N7 o) s) (AP p f s)=some (N7 r.1):=by rw[←v2,okd,A2 hok]
    rw[TM hN (by rw[D6];omega) (by omega),I3];simp only[A4]
    by_cases hm:S8 s (N7 r.1)=true
    ·refine .inl ⟨by simp_all[Uu],?_⟩;rw[hm];rfl
    rw[Be]at hm
    have hnx:Uu l p d.Choice (N7 o) f d.Kids[i] i s=some (mrg s (N7 r.1)):=by simp_all[Uu]
    refine .inr ⟨_,hnx,?_,.inr (Ph hs' hx hm)⟩;rw[hm,A0 (by simp[R8])]
    have hj:I0 N (s.map O2) r.1=some ((mrg s (N7 r.1)).map O2):=by
     rw[Ni hN hl (by rw[I3];exact gs) hx.gd (by rw[I3];exact T7.1 hm),I3]
    have ha:ar .add .i64 (i:Int) 1=((i+1:Nat):Int):=by rw[D3 (by omega) (by omega)];omega
    by_cases hc:BV p
    ·have hlx:=hx.gd.lst hx.ne;rw[A2 ((WL p).2 hc),OK (fun e=>hx.ne (by rw[e];rfl)) (by omega) ⟨hlx.1,by omega⟩,hj];simp only[A4];rw[ha,AG6 hs' hx hc]
    rw[A0 (fun h=>hc ((WL p).1 h)),hj];simp only[A4];rw[ha];simp only[AP,hc,false_and,G4]
   refine .inl ⟨?_,by rw[A2 (by rw[Be]at hok;rw[R8,hok];rfl)]⟩;simp only[Uu];rw[←v2,okd,A0 hok];rfl
  ·intro s hI
   dsimp only
   rw[A0 FD]
  intro t h1 h3;rw[h1]
  have hr:GR l f t:=h3.resolve_left fun e=>by omega
  simp only[A4]
  by_cases h5:5≤p.Op
  ·rw[A0 (by simp only[R8,P5,D8];simp;omega)];rw[VB hN (by omega) hw.self.cond ⟨h5,hop.2⟩ ho.gd (by rw[I3];exact hr.gd) (by simpa using hr.ne) (by rw[I3];exact ho.apart hr) c,I3];refine⟨_,rfl,?_,fun _=>by rw[I3];exact hr⟩;unfold okd
   dsimp only
   rw[I3];cases Bz l p (N7 o) t<;>simp[h5]
  rw[A2 (by simp only[R8,P5,D8];simp;omega),A0 (fun h=>h5 h.1)];exact⟨_,rfl,by simp only[okd,D1,I3],fun _=>by rw[I3];exact hr⟩
theorem AE9 {S T R:Type} {m:Nat} {step:S→Option (S⊕(R⊕Unit))} {rep:Nat→T→S} {I:Nat→T→Prop} {Bad:Prop} {res:T→R}
 (hs:∀i,i<m→∀t,I i t→(Bad∧step (rep i t)=some (.inr (.inr ())))∨∃t',step (rep i t)=some (.inl (rep (i+1) t'))∧I (i+1) t')
 (he:∀t,I m t→step (rep m t)=some (.inr (.inl (res t)))) {N:Nat} (hN:m<N) {t0:T} (h0:I 0 t0):
 (Bad∧loopN step N (rep 0 t0)=some (.inr ()))∨∃t,I m t∧loopN step N (rep 0 t0)=some (.inl (res t)):=by
 have key:∀(d i N:Nat) (t:T),i+d=m→d<N→I i t→(Bad∧loopN step N (rep i t)=some (.inr ()))∨∃t',I m t'∧loopN step N (rep i t)=some (.inl (res t')):=by
  intro d
  induction d with
  |zero=>
   intro i N t hi hN ht;obtain⟨N,rfl⟩:∃m,N=m+1:=⟨N-1,by omega⟩
   have:i=m:=by omega
   grind[loopN]
  |succ d ih=>
   intro i N t hi hN ht;obtain⟨N,rfl⟩:∃m,N=m+1:=⟨N-1,by omega⟩
   have hik:i<m:=by omega
   grind[loopN]
 simp_all
theorem Ai2 {S T R X:Type}{m:Nat}{step:S→Option (S⊕(R⊕Unit))}{s0:S}{k:R⊕Unit→Option X}{Q:X→Prop}(rep:Nat→T→S)(I:Nat→T→Prop)(Bad:Prop)(res:T→R){t0:T}(e0:s0=rep 0 t0){N:Nat}(hN:m<N)(h0:I 0 t0)
 (hs:∀i,i<m→∀t,I i t→(Bad∧step (rep i t)=some (.inr (.inr ())))∨∃t',step (rep i t)=some (.inl (rep (i+1) t'))∧I (i+1) t')
 (he:∀t,I m t→step (rep m t)=some (.inr (.inl (res t)))) (k1:Bad→∃r,k (.inr ())=some r∧Q r) (k2:∀t,I m t→∃r,k (.inl (res t))=some r∧Q r):∃r,(loopN step N s0).bind k=some r∧Q r:=by
 subst e0
 rcases AE9 hs he hN h0 with⟨h1,h2⟩|⟨t,h1,h3⟩
 ·rw[h2];exact k1 h1
 simp_all
mutual
def bnA:A3→A1→List E1
 |⟨r,c,ks⟩,p=>if p.Op=0 then[⟨p.Var,r⟩]else NB ks p c 0
def NB:List A3→A1→Int→Nat→List E1
 |[],_,_,_=>[]
 |k::ks,p,c,i=>bnA k (M4 p c i)++NB ks p c (i+1)
end
theorem Ub (d:A3)(p:A1):bnA d p=if p.Op=0 then[⟨p.Var,d.Ref⟩]else NB d.Kids p d.Choice 0:=by cases d;simp only[bnA]
theorem AI5:∀{ks:List A3} {p:A1} {c:Int} {j i:Nat} (h:i<ks.length) {y:E1},y∈bnA ks[i] (M4 p c (j+i))→y∈NB ks p c j
 |[],_,_,_,i,h,_,_=>absurd h (by simp)
 |k::ks,p,c,j,0,h,y,hy=>by rw[NB];simp_all
 |k::ks,p,c,j,i+1,h,y,hy=>by
  rw[NB];refine IL _ (AI5 (i:=i) (by grind) ?_);rw[show j+1+i=j+(i+1) by omega];exact hy
def Fnd (l:List A8)(d:A3)(p:A1):Prop:=∀y∈bnA d p,(Mj l y.Ref).isSome=true
theorem Fnd.kid {l:List A8}{d:A3}{p:A1}(h:Fnd l d p)(h0:p.Op≠0){i:Nat}(hi:i<d.Kids.length):Fnd l d.Kids[i] (M4 p d.Choice i):=fun y hy=>by
 refine h y ?_;rw[Ub,A0 h0];exact AI5 hi (by rwa[K1])
end
end Go.Ab
