/- . -/
import Derived.Test.YtildiiggamckaaaGreatDoorK18
import Derived.KernelRfl
set_option linter.all false
open Go.Ab.Ar (ar cmp nt)
namespace Go.Ab
noncomputable def Jf (types:Int)(p:B3):Int:=if types<1∨16<types then 2 else if(p.cX.length:Int)≠types then 15 else fb (fun _ x=>ck x) 0 p.cX
def Ab9 {N:Nat} {types:Int} {p:B3} (hN:256<N):Az N types p=some (Jf types p):=by
 unfold Az Jf;simp only[C8,U5,N8,GT,C9,Y2,V7,B2,Cs]
 by_cases h1:types<1∨16<types
 ·rw[A1 h1,A1 h1]
 rw[A3 h1,A3 h1]
 by_cases h2:(p.cX.length:Int)=types
 ·rw[A3 (by simpa using h2),A3 (by simpa using h2)];rw[Bi (l:=p.cX) (f:=fun _ x=>ck x) (e:=.inl ()) (b:=.inr) (N:=N) ?_ ?_ (by omega)]
  ·simp only[A5]
   by_cases h:fb (fun _ x=>ck x) 0 p.cX=0
   ·simp[h]
   simp[h]
  ·intro i x hx hi;simp only[E7,hx,A5,RB hN];rw[A1 (by omega),I6 hi (by omega)]
   by_cases h:ck x=0
   ·simp[h]
   simp[h]
  rw[A3 (by omega)]
 rw[A1 (by simpa using h2),A1 (by simpa using h2)]
def Al8 {N:Nat} {types:Int} {p:B3} (hN:256<N):FT N types p=some (Jf types p):=by
 unfold FT Jf;simp only[C8,U5,N8,GT,C9,Y2,V7,B2,Cs]
 by_cases h1:types<1∨16<types
 ·rw[A1 h1,A1 h1]
 rw[A3 h1,A3 h1]
 by_cases h2:(p.cX.length:Int)=types
 ·rw[A3 (by simpa using h2),A3 (by simpa using h2)];subst h2;rw[Bi (l:=p.cX) (f:=fun _ x=>ck x) (e:=.inl ()) (b:=.inr) (N:=N) ?_ ?_ (by omega)]
  ·simp only[A5]
   by_cases h:fb (fun _ x=>ck x) 0 p.cX=0
   ·simp[h]
   simp[h]
  ·intro i x hx hi;simp only[E7,hx,A5,Yv hN];rw[A1 (by omega),I6 hi (by omega)]
   by_cases h:ck x=0
   ·simp[h]
   simp[h]
  rw[A3 (by omega)]
 rw[A1 (by simpa using h2),A1 (by simpa using h2)]
noncomputable abbrev Lg (p:B3):Int:=Jf (p.cX.length:Int) p
def DZ {p:B3}(h:Lg p=0):(1≤p.cX.length∧p.cX.length≤16)∧∀x∈p.cX,Zp x:=by
 unfold Lg Jf at h
 split at h
 ·cases h
 rw[A3 (by simp)]at h
 refine⟨by omega,fun x hx=>?_⟩;obtain⟨k,hk⟩:=L8 hx;exact Tb (EG.1 h k x hk)
def Qp {N:Nat} {l:List B3} (hN:256<N) (hl:l.length<N) (hb:l.length<1000000000):N7 N l=some (fb (fun _ x=>Lg x) 0 l):=by
 unfold N7;rw[Bi (l:=l) (f:=fun _ x=>Lg x) (e:=.inl ()) (b:=.inr) (N:=N) ?_ ?_ hl]
 ·simp only[A5]
  by_cases h:fb (fun _ x=>Lg x) 0 l=0
  ·simp[h]
  simp[h]
 ·intro i x hx hi;simp only[C8,N8,C9,E7,hx,A5,Ab9 hN,B2];rw[A1 (by omega),I6 hi (by omega)]
  by_cases h:Lg x=0
  ·simp[h]
  simp[h]
 simp[C8,C9]
def Vg {N:Nat}{p:B3}(hN:256<N):N7 N [p]=some (Lg p):=by
 rw[Qp hN (by simp;omega) (by simp)];unfold fb fb
 split
 ·rename_i h;rw[h]
 rfl
def InP (p:B3)(s:H9):Prop:=0≤s.Typ∧∃l,p.cX[s.Typ.toNat]? =some l∧Dg l s.Num
def Ah8 {a b:Bool}{P:Prop}(h:a=true↔P)(k:b=true↔P):a=b:=by
 cases a<;>cases b<;>simp_all
noncomputable def ZQ (n:Nat)(t:Int)(m:B5):Int:=if(0≤m.cW∧m.cW<(n:Int))∧0≤m.To∧m.To<(n:Int)then Jf t m.On else 2
noncomputable def DV (s:A0):Int:=if s.cV<1∨16<s.cV then 2 else if((s.cT.length:Int)<1∨256<(s.cT.length:Int))∨2048<(s.cU.length:Int)then 5 else fb (fun _ m=>ZQ s.cT.length s.cV m) 0 s.cU
def DX {N:Nat} {s:A0} (hN:3000<N):P3 N s=some (DV s):=by
 unfold P3 DV;simp only[C8,U5,GT,C9,Y2,B2]
 by_cases h1:s.cV<1∨16<s.cV
 ·rw[A1 h1,A1 h1]
 rw[A3 h1,A3 h1]
 by_cases h2:((s.cT.length:Int)<1∨256<(s.cT.length:Int))∨2048<(s.cU.length:Int)
 ·rw[A1 h2,A1 h2]
 rw[A3 h2,A3 h2];rw[Bi (l:=s.cU) (f:=fun _ m=>ZQ s.cT.length s.cV m) (e:=.inl ()) (b:=.inr) (N:=N) ?_ ?_ (by omega)]
 ·simp only[A5]
  by_cases h:fb (fun _ m=>ZQ s.cT.length s.cV m) 0 s.cU=0
  ·simp[h]
  simp[h]
 ·intro i x hx hi;simp only[Ba,SZ,C8,N8,CQ,Ao,C9,E7,hx,A5,Ab9 (show 256<N by omega)];rw[A1 (by omega),I6 hi (by omega)]
  by_cases h3:0≤x.cW∧x.cW<(s.cT.length:Int)
  ·rw[A3 (by simp;omega)]
   by_cases h4:0≤x.To∧x.To<(s.cT.length:Int)
   ·rw[A3 (by simp;omega),show ZQ s.cT.length s.cV x=Jf s.cV x.On from A1 ⟨h3,h4⟩]
    by_cases h:Jf s.cV x.On=0
    ·simp[h]
    simp[h]
   rw[A1 (by simp;omega),show ZQ s.cT.length s.cV x=2 from A3 (fun h=>h4 h.2)];simp
  rw[A1 (by simp;omega),show ZQ s.cT.length s.cV x=2 from A3 (fun h=>h3 h.1)];simp
 rw[A3 (by omega)]
def Dz {N:Nat} {s:A0} (hN:3000<N):AD N s=some (DV s):=by
 unfold AD DV;simp only[C8,U5,SZ,N8,GT,C9,Y2,B2]
 by_cases h1:s.cV<1∨16<s.cV
 ·rw[A1 h1,A1 h1]
 rw[A3 h1,A3 h1]
 by_cases h2:((s.cT.length:Int)<1∨256<(s.cT.length:Int))∨2048<(s.cU.length:Int)
 ·rw[A1 h2,A1 h2]
 rw[A3 h2,A3 h2];rw[Bi (l:=s.cU) (f:=fun _ m=>ZQ s.cT.length s.cV m) (e:=.inl ()) (b:=.inr) (N:=N) ?_ ?_ (by omega)]
 ·simp only[A5]
  by_cases h:fb (fun _ m=>ZQ s.cT.length s.cV m) 0 s.cU=0
  ·simp[h]
  simp[h]
 ·intro i x hx hi;simp only[E7,hx,A5,Al8 (show 256<N by omega)];rw[A1 (by omega),I6 hi (by omega)];unfold ZQ
  by_cases h3:(0≤x.cW∧x.cW<(s.cT.length:Int))∧0≤x.To∧x.To<(s.cT.length:Int)
  ·rw[A3 (by omega),A1 h3]
   by_cases h:Jf s.cV x.On=0
   ·simp[h]
   simp[h]
  rw[A1 (by omega),A3 h3];simp
 rw[A3 (by omega)]
structure Jc (s:A0):Prop where
 ty:1≤s.cV∧s.cV≤16
 fi:1≤s.cT.length∧s.cT.length≤256
 mv:s.cU.length≤2048
 each:∀m∈s.cU,((0≤m.cW∧m.cW<(s.cT.length:Int))∧0≤m.To∧m.To<(s.cT.length:Int))∧Jf s.cV m.On=0
def Cy {s:A0}(h:DV s=0):Jc s:=by
 unfold DV at h
 split at h
 ·cases h
 rename_i h1
 split at h
 ·cases h
 rename_i h2;refine⟨by omega,by omega,by omega,fun m hm=>?_⟩;obtain⟨k,hk⟩:=L8 hm;have:=EG.1 h k m hk
 unfold ZQ at this
 split at this
 ·rename_i h3;exact⟨h3,this⟩
 cases this
def OR {N:Nat} {s:A0} {i:Int} (hN:3000<N) (hs:s.cU.length≤2048):K2 N s i=some (s.cU.filter fun m=>decide (m.cW=i)):=by
 unfold K2 Dp;rw[Wg (β:=B5) (σ:=Unit) (R:=Unit) s.cU (fun _ i=>i) (fun _ m=>if m.cW=i then some ([m],.inl ())else some ([],.inl ())) (fun _=>()) () (by omega)]
 ·have key:∀l:List B5,Dc (β:=B5) (σ:=Unit) (R:=Unit) (fun _ m=>if m.cW=i then some ([m],.inl ())else some ([],.inl ())) l ()=some (l.filter (fun m=>decide (m.cW=i)),.inl ()):=by
   intro l
   induction l with
   |nil=>rfl
   |cons m l ih=>
    by_cases h:m.cW=i
    ·simp[Dc,h,ih]
    simp[Dc,h,ih]
  rw[key];simp[W6]
 ·intro _ j x hx hj;simp only[C8,Z8,C9,E7,hx,A5,B2];rw[A1 hj,M8 (by omega) (by omega)]
  by_cases h:x.cW=i
  ·simp[h,W6]
  simp[h]
 intro _;simp[C8,C9]
noncomputable def Vu (p:B3)(x:H9):Bool:=@decide (InP p x) (Classical.propDecidable _)
def KA {p:B3}{x:H9}:Vu p x=true↔InP p x:=by unfold Vu;exact@decide_eq_true_iff _ (Classical.propDecidable _)
def Gy {t:Int}{p:B3}(h:Jf t p=0):(p.cX.length:Int)=t∧Lg p=0:=by
 have h0:=h
 unfold Jf at h
 split at h
 ·cases h
 split at h
 ·cases h
 rename_i h2
 have h2:(p.cX.length:Int)=t:=by omega
 subst h2;exact⟨rfl,h0⟩
def Tru (S:List (Int×Bool)):Prop:=S.Nodup∧∀p∈S,p.2=true
def Ag3 {S:List (Int×Bool)} (h:Tru S) {k:Int} (hk:(k,true)∈S):Ay S k (false:Bool)=some (true,true):=by
 unfold Ay
 cases hf:S.find? (fun p=>decide (p.1=k))with
 |none=>have:=List.find?_eq_none.1 hf _ hk;simp at this
 |some p=>
  have h1:=h.2 p (EU hf);simp only[h1]
def XC {S:List (Int×Bool)} (h:Tru S) {k:Int} (hk:¬(k,true)∈S):Ay S k (false:Bool)=some (false,false)∧BC S k true=some (S++[(k,true)])∧Tru (S++[(k,true)]):=by
 have hn:∀p∈S,¬p.1=k:=fun p hp e=>hk (by have:=h.2 p hp;obtain⟨a,b⟩:=p;simp only at this e;subst this;subst e;exact hp);refine⟨?_,?_,?_,?_⟩
 ·unfold Ay;rw[List.find?_eq_none.2 (fun p hp=>by simpa using hn p hp)]
 ·unfold BC;rw[A3];simp only[DP,B2];rintro⟨p,hp,e⟩;exact hn p hp e
 ·rw[DU];refine⟨h.1,by simp,fun a ha b hb=>?_⟩
  simp only[M6]at hb
  subst hb;rintro rfl;exact hk ha
 intro p hp
 rcases List.mem_append.1 hp with hp|hp
 ·exact h.2 p hp
 simp only[M6]at hp;rw[hp]
section
variable {x:H9}{t:Int}
variable {s:A0}
end
structure Rset (n:Nat) (S:List (Int×Bool)) (b:List Bool):Prop where
 len:b.length=n
 tru:Tru S
 mem:∀k:Int,(k,true)∈S↔∃i:Nat,k=(i:Int)∧b[i]? =some true
def RF {α:Type}(p:α→Bool):Nat→List α→Option (Nat×α)
 |_,[]=>none
 |i,x::r=>if p x then some (i,x)else RF p (i+1) r
def RG {α R:Type} {l:List α} {step:Int→Option (Int⊕R)} {p:α→Bool} {e:R} {b:Nat→α→R}
 (hs:∀(i:Nat) x,l[i]? =some x→i<l.length→step (i:Int)=if p x then some (.inr (b i x))else some (.inl ((i+1:Nat):Int)))
 (he:step (l.length:Int)=some (.inr e)):∀{N:Nat},l.length<N→loopN step N 0=some (match RF p 0 l with|some q=>b q.1 q.2|none=>e):=by
 have key:∀(k i N:Nat),i+k=l.length→k<N→loopN step N (i:Int)=some (match RF p i (l.drop i)with|some q=>b q.1 q.2|none=>e):=by
  intro k
  induction k with
  |zero=>
   intro i N hi hN;obtain⟨N,rfl⟩:∃M,N=M+1:=⟨N-1,by omega⟩;rw[show i=l.length by omega,Hq];simp[loopN,he,RF]
  |succ k ih=>
   intro i N hi hN;obtain⟨N,rfl⟩:∃M,N=M+1:=⟨N-1,by omega⟩
   have hlt:i<l.length:=by omega
   rw[Aj hlt];simp only[loopN,hs i _ (D5 hlt) hlt,RF]
   by_cases h:p l[i]
   ·simp only[h,D1]
   simp only[h,D7];exact ih (i+1) N (by omega) (by omega)
 intro N hN;have:=key l.length 0 N (by omega) hN
 simpa using this
def fl:Nat→List (List A2)→List (Int×List A2)
 |_,[]=>[]
 |i,x::r=>if 0<x.length then((i:Int),x)::fl (i+1) r else fl (i+1) r
abbrev ne1 (x:List A2):Bool:=decide (0<x.length)
def XG:∀(l:List (List A2)) (i:Nat),(fl i l).head? =(RF ne1 i l).map fun q=>((q.1:Int),q.2)
 |[],i=>rfl
 |x::r,i=>by
  unfold fl RF
  by_cases h:0<x.length
  ·simp[h,ne1]
  simp only[h,D7,ne1,FB,E2];exact XG r (i+1)
def YX {N:Nat} {p:B3} (hb:p.cX.length<1000000000) (hN:p.cX.length<N):Af N p=some (fl 0 p.cX):=by
 unfold Af BD
 have key:∀(k i N:Nat),i+k=p.cX.length→k<N→CG
  (fun(s1:Int)=>
   (
    if cmp .lss s1 (Ar.len p.cX)=true then
     (C6 p.cX s1).bind fun x7=>
     if cmp .gtr (Ar.len x7) 0=true then
      W6 (some ([(s1,x7)],())) fun _=>
      some ([],.inl (ar .add .i64 s1 1))
     else
      some ([],.inl (ar .add .i64 s1 1))
    else
     some ([],.inr ())
    :Option (List (Int×(List A2))×((Int)⊕(Unit))))) N (i:Int)=some (fl i (p.cX.drop i),()):=by
  intro k
  induction k with
  |zero=>
   intro i N hi hN;obtain⟨N,rfl⟩:∃M,N=M+1:=⟨N-1,by omega⟩;rw[show i=p.cX.length by omega,Hq];simp[CG,fl,C8,C9]
  |succ k ih=>
   intro i N hi hN;obtain⟨N,rfl⟩:∃M,N=M+1:=⟨N-1,by omega⟩
   have hlt:i<p.cX.length:=by omega
   have hx:=D5 hlt;have h1:=ih (i+1) N (by omega) (by omega);rw[Aj hlt];unfold CG
   simp only[C8,U5,C9,E7,hx,A5,B2,W6,G9]at h1 ⊢
   rw[A1 (by omega),I6 hlt (by omega)];unfold fl
   by_cases h:0<p.cX[i].length
   ·rw[A1 (by omega),A1 h];simp only[h1];rfl
   rw[A3 (by omega),A3 h];simp only[h1];rfl
 have:=key p.cX.length 0 N (by omega) hN
 rw[show((0:Nat):Int)=0 from rfl]at this
 rw[this];simp[W6]
abbrev YS (p:B3):Option (Nat×List A2):=RF ne1 0 p.cX
def Qd {α:Type} {p:α→Bool}:∀{l:List α} {i k:Nat} {x:α},RF p i l=some (k,x)→i≤k∧l[k-i]? =some x∧p x=true∧∀(j:Nat) y,j<k-i→l[j]? =some y→p y=false
 |[],_,_,_,h=>by cases h
 |y::r,i,k,x,h=>by
  unfold RF at h
  split at h
  ·rename_i hp;cases h;exact⟨by omega,by simp,hp,fun j y hj=>by omega⟩
  rename_i hp;obtain⟨h1,h2,h3,h4⟩:=Qd h;refine⟨by omega,by rw[show k-i=(k-(i+1))+1 by omega];simpa using h2,h3,fun j z hj hz=>?_⟩
  cases j with
  |zero=>simp at hz;subst hz;simpa using hp
  |succ j=>exact h4 j z (by omega) (by simpa using hz)
def Qe {α:Type} {p:α→Bool}:∀{l:List α} {i:Nat},RF p i l=none→∀x∈l,p x=false
 |[],_,_=>fun x hx=>by cases hx
 |y::r,i,h=>by
  unfold RF at h
  split at h
  ·cases h
  rename_i hp;intro x hx
  rcases List.mem_cons.1 hx with rfl|hx
  ·simpa using hp
  exact Qe h x hx
abbrev vd (p:B3):Bool:=(YS p).isNone
def JU {N:Nat} {t:Int} {p:B3} (hN:300<N) (hp:Jf t p=0):O5 N p=some (vd p):=by
 obtain⟨_,h0⟩:=Gy hp;unfold O5 Dr;simp only[Vg (show 256<N by omega),A5,h0,show cmp .neq (0:Int) 0=false from rfl,E2,D7];obtain⟨hlen,_⟩:=DZ h0;rw[YX (by omega) (by omega)];simp only[A5];have hh:=XG p.cX 0;unfold vd
 cases hf:fl 0 p.cX with
 |nil=>
  rw[hf]at hh
  cases hq:YS p with
  |none=>rfl
  |some q=>rw[show RF ne1 0 p.cX=some q from hq]at hh;cases hh
 |cons y r=>
  rw[hf]at hh
  cases hq:YS p with
  |none=>rw[show RF ne1 0 p.cX=none from hq]at hh;cases hh
  |some q=>rfl
def Ed (s:A0)(i j:Nat):Prop:=∃m∈s.cU,m.cW=(i:Int)∧m.To=(j:Int)∧vd m.On=false
def Rc (s:A0):Nat→Nat→Prop
 |0,i=>s.cT[i]? =some true
 |k+1,i=>∃j,Ed s i j∧Rc s k j
def OV (s:A0)(i k:Nat):Prop:=Rc s k i∧∀j,j<k→¬Rc s j i
def Kv {s:A0}{i k l:Nat}(h:OV s i k)(h':OV s i l):k=l:=by
 rcases Nat.lt_trichotomy k l with c|c|c
 ·exact absurd h.1 (h'.2 k c)
 ·exact c
 exact absurd h'.1 (h.2 l c)
def SO {s:A0} {i:Nat}:∀{k:Nat},Rc s k i→∃l,l≤k∧OV s i l:=by
 intro k
 induction k using Nat.strongRecOn with
 |_ k ih=>
  intro h
  by_cases c:∃j,j<k∧Rc s j i
  ·obtain⟨j,hj,hr⟩:=c;obtain⟨l,h1,h2⟩:=ih j hj hr;exact⟨l,by omega,h2⟩
  exact⟨k,D3 _,h,fun j hj hr=>c ⟨j,hj,hr⟩⟩
def Kw {s:A0} {i k:Nat} (h:OV s i (k+1)):∃j,Ed s i j∧OV s j k:=by
 obtain⟨j,he,hr⟩:=h.1;obtain⟨l,h1,h2⟩:=SO hr
 have:l=k:=by
  rcases G6 l k with c|c
  ·exact absurd ⟨j,he,h2.1⟩ (h.2 (l+1) (by omega))
  omega
 subst this;exact⟨j,he,h2⟩
def Ry {s:A0}:∀{k i:Nat},OV s i k→∀j,j≤k→∃i',OV s i' j
 |0,i,h,j,hj=>⟨i,by rw[show j=0 by omega];exact h⟩
 |k+1,i,h,j,hj=>by
  by_cases c:j=k+1
  ·exact⟨i,by rw[c];exact h⟩
  obtain⟨i',_,h'⟩:=Kw h;exact Ry h' j (by omega)
def WX {s:A0} (hs:Jc s):∀{k i:Nat},Rc s k i→i<s.cT.length
 |0,i,h=>by
  rcases G6 i s.cT.length with c|c
  ·exact c
  have h':s.cT[i]? =some true:=h
  rw[ES c]at h';cases h'
 |k+1,i,h=>by
  obtain⟨j,⟨m,hm,f,_⟩,_⟩:=h;have:=(hs.each m hm).1;omega
def Rx {s:A0}:∀{k i:Nat},OV s i k→∃l:List Nat,l.length=k+1∧∀j:Nat,j≤k→∃x,l[j]? =some x∧OV s x (k-j)
 |0,i,h=>⟨[i],rfl,fun j hj=>⟨i,by rw[show j=0 by omega];rfl,by rw[show 0-j=0 by omega];exact h⟩⟩
 | k+1,i,h=>by
  obtain⟨i',_,h'⟩:=Kw h;obtain⟨l,h1,h2⟩:=Rx h';refine⟨i::l,by simp[h1],fun j hj=>?_⟩
  cases j with
  |zero=>exact⟨i,rfl,h⟩
  |succ j=>
   obtain⟨x,h3,h4⟩:=h2 j (by omega);exact⟨x,h3,by rw[show k+1-(j+1)=k-j by omega];exact h4⟩
def Kk:∀{n:Nat} {l:List Nat},l.Nodup→(∀x∈l,x<n)→l.length≤n
 |0,[],_,_=>D3 _
 |0,x::_,_,h=>absurd (h x (by simp)) (by omega)
 | n +1,l,hn,h=>by
  have h1:=Kk (n:=n) (l:=l.filter (fun x=>decide (x≠n))) (hn.filter _) (fun x hx=>by
   obtain⟨a,b⟩:=List.mem_filter.1 hx;have:=h x a;have:x≠n:=Dw b
   omega)
  have h2:l.length≤(l.filter (fun x=>decide (x≠n))).length+1:=by
   clear h h1
   induction l with
   |nil=>simp
   | cons x l ih=>
    obtain⟨hx,hl⟩:=List.nodup_cons.1 hn
    by_cases e:x=n
    ·subst e;rw[List.filter_cons_of_neg (by simp)]
     rw[List.filter_eq_self.2 (fun y hy=>by
      have:y≠x:=by rintro rfl;exact hx hy
      simpa using this)]
     simp
    rw[List.filter_cons_of_pos (by simpa using e)];have:=ih hl;simp only[N3];omega
  omega
def Af5 {s:A0} (hs:Jc s) {i k:Nat} (h:OV s i k):k<s.cT.length:=by
 obtain⟨l,h1,h2⟩:=Rx h
 have hn:l.Nodup:=by
  rw[JM,JL];intro a b ha hb hab e;obtain⟨x,e1,d1⟩:=h2 a (by omega);obtain⟨y,e2,d2⟩:=h2 b (by omega)
  rw[D5 ha]at e1;rw[D5 hb]at e2
  cases e1;cases e2
  rw[e]at d1
  have:=Kv d1 d2;omega
 have:=Kk hn (n:=s.cT.length) (fun x hx=>by
  obtain⟨j,hj⟩:=L8 hx
  have hlt:j<l.length:=by
   rcases G6 j l.length with c|c
   ·exact c
   rw[ES c]at hj;cases hj
  obtain⟨y,e,d⟩:=h2 j (by omega)
  rw[hj]at e;cases e
  exact WX hs d.1)
 omega
structure Mp (M:List (Int×Int)):Prop where
 nd:(M.map (·.1)).Nodup
def UF {k v v':Int}:∀{M:List (Int×Int)},(M.map (·.1)).Nodup→(k,v)∈M→(k,v')∈M→v=v'
 |[],_,h,_=>by cases h
 | p::M,hn,h,h'=>by
  rw[G2,Ho]at hn
  rcases List.mem_cons.1 h with e|h
  ·rcases List.mem_cons.1 h' with e'|h'
   ·rw[←e]at e';cases e';rfl
   exact absurd (List.mem_map.2 ⟨_,h',by rw[←e]⟩) hn.1
  rcases List.mem_cons.1 h' with e'|h'
  ·exact absurd (List.mem_map.2 ⟨_,h,by rw[←e']⟩) hn.1
  exact UF hn.2 h h'
def RE {M:List (Int×Int)} {k:Int} (h:∀v,¬(k,v)∈M):Ay M k (0:Int)=some (0,false):=by
 unfold Ay
 rw[List.find?_eq_none.2 (fun p hp=>by
  obtain⟨a,b⟩:=p;simp only[B2];rintro rfl
  exact h b hp)]
def Nq {M:List (Int×Int)} (hM:Mp M) {k v:Int} (h:(k,v)∈M):Ay M k (0:Int)=some (v,true):=by
 unfold Ay
 cases hf:M.find? (fun p=>decide (p.1=k))with
 |none=>have:=List.find?_eq_none.1 hf _ h;simp at this
 | some p=>
  have h1:=EU hf;have h2:=FF hf
  simp only[B2]at h2
  have:p=(k,v):=by
   obtain⟨a,b⟩:=p
   simp only at h2
   subst h2;rw[UF hM.nd h1 h]
  simp only[this]
def TR {M:List (Int×Int)}(hM:Mp M){k v:Int}(h:∀v,¬(k,v)∈M):BC M k v=some (M++[(k,v)])∧Mp (M++[(k,v)]):=by
 constructor
 ·unfold BC;rw[A3];simp only[DP,B2];rintro⟨p,hp,e⟩;exact h p.2 (by rw[←e];exact hp)
 refine⟨?_⟩;rw[AL,DU];refine⟨hM.nd,by simp,fun a ha b hb=>?_⟩
 simp only[G2,J3,M6]at hb
 subst hb;obtain⟨p,hp,e⟩:=List.mem_map.1 ha;rintro rfl;exact h p.2 (by rw[←e];exact hp)
structure WJ (s:A0) (a:Nat) (T1 T2:List Int) (M:List (Int×Int)):Prop where
 mp:Mp M
 ok:∀k v,(k,v)∈M→∃i d:Nat,k=(i:Int)∧v=(d:Int)∧OV s i d∧d≤a+1
 t1:∀k∈T1,(k,(a:Int))∈M
 t2:∀k∈T2,(k,(a:Int)+1)∈M
 kn:∀i k:Nat,k≤a→Rc s k i→∃v,((i:Int),v)∈M
 up:∀k,(k,(a:Int)+1)∈M→k∈T2
 dn:∀i j:Nat,Ed s i j→OV s j a→¬(j:Int)∈T1→∃v,((i:Int),v)∈M
def WJ.next {s:A0} {a:Nat} {T2:List Int} {M:List (Int×Int)} (h:WJ s a [] T2 M):WJ s (a+1) T2 [] M:=by
 refine⟨h.mp,fun k v hk=>?_,fun k hk=>by simpa using h.t2 k hk,(fun k hk=>by cases hk),fun i k hk hr=>?_,fun k hk=>?_,fun i j he hj hn=>?_⟩
 ·obtain⟨i,d,e1,e2,e3,e4⟩:=h.ok k v hk;exact⟨i,d,e1,e2,e3,by omega⟩
 ·rcases G6 a k with c|c
  ·obtain⟨l,h1,h2⟩:=SO hr
   rcases G6 a l with c'|c'
   ·have:l=a+1:=by omega
    subst this;obtain⟨j,he,hj⟩:=Kw h2;exact h.dn i j he hj (by simp)
   exact h.kn i l c' h2.1
  exact h.kn i k c hr
 ·obtain⟨i,d,e1,e2,e3,e4⟩:=h.ok _ _ hk;omega
 obtain⟨j',he',hj'⟩:=Kw hj;obtain⟨v,hv⟩:=h.dn j j' he' hj' (by simp);obtain⟨i2,d,e1,e2,e3,e4⟩:=h.ok _ _ hv
 have:i2=j:=by omega
 subst this;have:=Kv hj e3;subst this;exact absurd (h.up _ (by rw[e2]at hv;exact_mod_cast hv)) hn
noncomputable def Ol (s:A0) (s4:Int×(List Int)×(List (Int×Int))):Option ((Int×(List Int)×(List (Int×Int)))⊕(((List Int)×(List (Int×Int))))):=
 if cmp .lss s4.1 (Ar.len s.cT)=true then
  (C6 s.cT s4.1).bind fun x8=>
  if x8=true then
   (BC s4.2.2 s4.1 0).bind fun l10=>
   (I1 s4.2.1 ([s4.1])).bind fun l12=>
   some (.inl (ar .add .i64 s4.1 1,l12,l10))
  else
   some (.inl (ar .add .i64 s4.1 1,s4.2.1,s4.2.2))
 else
  some (.inr (s4.2.1,s4.2.2))
noncomputable def PZ (N:Nat) (s:A0) (s19:Int×(List Int)×(List (Int×Int))):Option ((Int×(List Int)×(List (Int×Int)))⊕(((List Int)×(List (Int×Int))))):=
 if cmp .lss s19.1 (Ar.len s.cU)=true then
  (C6 s.cU s19.1).bind fun x23=>
  (Ay s19.2.2 x23.cW (0:Int)).bind fun r24=>
  (X1 (Z9 s19.2.1 0)).bind fun _=>
  (C6 s19.2.1 0).bind fun x25=>
  if Ar.an (cmp .eql x23.To x25) (nt r24.2)=true then
   (O5 N x23.On).bind fun r26=>
   if nt r26=true then
    (X1 (Z9 s19.2.1 0)).bind fun _=>
    (C6 s19.2.1 0).bind fun x27=>
    (Ay s19.2.2 x27 (0:Int)).bind fun r28=>
    (BC s19.2.2 x23.cW (ar .add .i64 r28.1 1)).bind fun l30=>
    (I1 s19.2.1 ([x23.cW])).bind fun l32=>
    some (.inl (ar .add .i64 s19.1 1,l32,l30))
   else
    some (.inl (ar .add .i64 s19.1 1,s19.2.1,s19.2.2))
  else
   some (.inl (ar .add .i64 s19.1 1,s19.2.1,s19.2.2))
 else
  some (.inr (s19.2.1,s19.2.2))
noncomputable def Ac2 (N:Nat) (s:A0) (s15:(List Int)×(List (Int×Int))):Option (((List Int)×(List (Int×Int)))⊕(((List Int)×(List (Int×Int))))):=
 if cmp .gtr (Ar.len s15.1) 0=true then
  (loopN (PZ N s) N (0,s15.1,s15.2)).bind fun s22=>
  (S8 s22.1 (some 1) none none).bind fun l36=>
  some (.inl (l36,s22.2))
 else
  some (.inr (s15.1,s15.2))
def Ah1 (N:Nat)(s:A0):R9 N s=(loopN (Ol s) N (0,([]:List Int),([]:List (Int×Int)))).bind fun s7=>(loopN (Ac2 N s) N (s7.1,s7.2)).bind fun s18=>some s18.2:=rfl
structure Ini (s:A0) (i:Nat) (T:List Int) (M:List (Int×Int)):Prop where
 mp:Mp M
 mem:∀k v,(k,v)∈M↔v=0∧∃j:Nat,j<i∧k=(j:Int)∧s.cT[j]? =some true
 t:∀k,k∈T↔(k,0)∈M
 le:T.length=M.length
 li:T.length≤i
def Qa {s:A0} (hs:Jc s):∀(d i N:Nat) (T:List Int) (M:List (Int×Int)),i+d=s.cT.length→d<N→Ini s i T M→
 ∃T' M',loopN (Ol s) N ((i:Int),T,M)=some (T',M')∧Ini s s.cT.length T' M'
 | 0,i,N,T,M,hi,hN,h=>by
  obtain⟨N,rfl⟩:∃K,N=K+1:=⟨N-1,by omega⟩;refine⟨T,M,?_,by rw[←hi];exact h⟩
  have e:Ol s ((i:Int),T,M)=some (.inr (T,M)):=by
   unfold Ol;rw[A3 (by simp[C8,C9];omega)]
  rw[loopN,e]
 | d +1,i,N,T,M,hi,hN,h=>by
  obtain⟨N,rfl⟩:∃K,N=K+1:=⟨N-1,by omega⟩;have hf:=hs.fi
  have hlt:i<s.cT.length:=by omega
  have hx:=D5 hlt;have hinc:ar .add .i64 (i:Int) 1=((i+1:Nat):Int):=I6 hlt (by omega)
  cases hv:s.cT[i]with
  | false=>
   have e:Ol s ((i:Int),T,M)=some (.inl (((i+1:Nat):Int),T,M)):=by
    unfold Ol;rw[A1 (by simp[C8,C9];omega)];simp only[E7,hx,A5,hv,E2,D7,hinc]
   rw[loopN,e];refine Qa hs d (i+1) N T M (by omega) (by omega) ⟨h.mp,fun k v=>?_,h.t,h.le,by have:=h.li;omega⟩;rw[h.mem]
   constructor
   ·rintro⟨h1,j,h2,h3,h4⟩;exact⟨h1,j,by omega,h3,h4⟩
   rintro⟨h1,j,h2,h3,h4⟩;refine⟨h1,j,?_,h3,h4⟩
   rcases G6 j i with c|c
   ·exact c
   rw[show j=i by omega,hx,hv]at h4;cases h4
  | true=>
   have hnew:∀v,¬((i:Int),v)∈M:=fun v hm=>by
    obtain⟨_,j,h2,h3,_⟩:=(h.mem _ _).1 hm;omega
   obtain⟨e1,h1⟩:=TR h.mp (v:=0) hnew;have hli:=h.li
   have e2:I1 T [(i:Int)]=some (T++[(i:Int)]):=by unfold I1;rw[A1 (by simp;omega)]
   have e:Ol s ((i:Int),T,M)=some (.inl (((i+1:Nat):Int),T++[(i:Int)],M++[((i:Int),0)])):=by
    unfold Ol;rw[A1 (by simp[C8,C9];omega)];simp only[E7,hx,A5,hv,D1,hinc,e1,e2]
   rw[loopN,e];refine Qa hs d (i+1) N _ _ (by omega) (by omega) ⟨h1,fun k v=>?_,fun k=>?_,by simp[h.le],by simp;omega⟩
   ·rw[AK,h.mem];simp only[M6,AJ]
    constructor
    ·rintro(⟨h1,j,h2,h3,h4⟩|⟨rfl,rfl⟩)
     ·exact⟨h1,j,by omega,h3,h4⟩
     exact⟨rfl,i,by omega,rfl,by rw[hx,hv]⟩
    rintro⟨h1,j,h2,h3,h4⟩
    rcases G6 j i with c|c
    ·exact .inl ⟨h1,j,c,h3,h4⟩
    exact .inr ⟨by omega,h1⟩
   rw[AK,AK,h.t];simp
def Ini.bfs {s:A0} (hs:Jc s) {T:List Int} {M:List (Int×Int)} (h:Ini s s.cT.length T M):WJ s 0 T [] M:=by
 have h0:∀j:Nat,s.cT[j]? =some true→OV s j 0:=fun j hj=>⟨hj,fun k hk=>by omega⟩;refine⟨h.mp,fun k v hk=>?_,fun k hk=>by simpa using(h.t k).1 hk,(fun k hk=>by cases hk),fun i k hk hr=>?_,fun k hk=>?_,fun i j he hj hn=>?_⟩
 ·obtain⟨rfl,j,_,h2,h3⟩:=(h.mem k v).1 hk;exact⟨j,0,h2,rfl,h0 j h3,by omega⟩
 ·obtain rfl:k=0:=by omega
  exact⟨0,(h.mem _ _).2 ⟨rfl,i,WX hs hr,rfl,hr⟩⟩
 ·have:=((h.mem k _).1 hk).1
  simp at this
 exact absurd ((h.t _).2 ((h.mem _ _).2 ⟨rfl,j,WX hs hj.1,rfl,hj.1⟩)) hn
def WJ.len {s:A0} (hs:Jc s) {a:Nat} {T1 T2:List Int} {M:List (Int×Int)} (h:WJ s a T1 T2 M):M.length≤s.cT.length:=by
 have:(M.map fun p=>p.1.toNat).Nodup:=by
  have hn:=h.mp.nd
  rw[JM,JA]at hn ⊢
  refine JK ?_ hn;intro p q hp hq hne e;obtain⟨i,d,e1,_⟩:=h.ok p.1 p.2 hp;obtain⟨i',d',e2,_⟩:=h.ok q.1 q.2 hq;omega
 have:=Kk this (n:=s.cT.length) (fun x hx=>by
  obtain⟨p,hp,rfl⟩:=List.mem_map.1 hx;obtain⟨i,d,e1,_,e3,_⟩:=h.ok p.1 p.2 hp;have:=WX hs e3.1
  omega)
 simpa using this
def SQ {s:A0} (hs:Jc s) {a:Nat} {x:Int} {T1:List Int}:∀(d i N:Nat) (T2:List Int) (M:List (Int×Int)),i+d=s.cU.length→d<N→WJ s a (x::T1) T2 M→(x::T1++T2).length≤M.length→
 (∀j:Nat,j<i→∀m,s.cU[j]? =some m→m.To=x→vd m.On=false→∃v,(m.cW,v)∈M)→
 ∃T2' M',loopN (PZ 40000000 s) N ((i:Int),x::T1++T2,M)=some (x::T1++T2',M')∧WJ s a (x::T1) T2' M'∧T2'.length+M.length=T2.length+M'.length∧(∀m∈s.cU,m.To=x→vd m.On=false→∃v,(m.cW,v)∈M')
 | 0,i,N,T2,M,hi,hN,h,hl,hd=>by
  obtain⟨N,rfl⟩:∃K,N=K+1:=⟨N-1,by omega⟩;refine⟨T2,M,?_,h,rfl,fun m hm=>?_⟩
  ·have e:PZ 40000000 s ((i:Int),x::T1++T2,M)=some (.inr (x::T1++T2,M)):=by
    unfold PZ;rw[A3 (by simp[C8,C9];omega)]
   rw[loopN,e]
  obtain⟨j,hj⟩:=L8 hm;refine hd j ?_ m hj
  rcases G6 j s.cU.length with c|c
  ·omega
  rw[ES c]at hj;cases hj
 | d + 1,i,N,T2,M,hi,hN,h,hl,hd=>by
  obtain⟨N,rfl⟩:∃K,N=K+1:=⟨N-1,by omega⟩;have hmv:=hs.mv
  have hlt:i<s.cU.length:=by omega
  have hx:=D5 hlt;have hinc:ar .add .i64 (i:Int) 1=((i+1:Nat):Int):=I6 hlt (by omega);obtain⟨m,hm⟩:∃m,s.cU[i]=m:=⟨_,rfl⟩
  rw[hm]at hx
  have hmem:m∈s.cU:=by rw[←hm];exact Bt hlt
  obtain⟨⟨⟨f0,f1⟩,t0,t1⟩,hp⟩:=hs.each m hmem
  have hin:Z9 (x::T1++T2) 0=true:=by unfold Z9;simp;omega
  have hix:C6 (x::T1++T2) 0=some x:=by simp[C6]
  have hsv:=JU (N:=40000000) (by omega) hp;have hMl:=h.len hs;have hfi:=hs.fi
  have skip:PZ 40000000 s ((i:Int),x::T1++T2,M)=some (.inl (((i+1:Nat):Int),x::T1++T2,M))→(m.To=x→vd m.On=false→∃v,(m.cW,v)∈M)→
   ∃T2' M',loopN (PZ 40000000 s) (N+1) ((i:Int),x::T1++T2,M)=some (x::T1++T2',M')∧WJ s a (x::T1) T2' M'∧T2'.length+M.length=T2.length+M'.length∧(∀m∈s.cU,m.To=x→vd m.On=false→∃v,(m.cW,v)∈M'):=by
   intro e hk;rw[loopN,e]
   exact SQ hs d (i+1) N T2 M (by omega) (by omega) h hl (fun j hj y hy hty hvy=>by
    rcases G6 j i with c|c
    ·exact hd j c y hy hty hvy
    rw[show j=i by omega,hx]at hy;cases hy;exact hk hty hvy)
  by_cases hkn:∃v,(m.cW,v)∈M
  ·obtain⟨v,hv⟩:=hkn;refine skip ?_ fun _ _=>⟨v,hv⟩;unfold PZ;rw[A1 (by simp[C8,C9];omega)];simp only[E7,hx,A5,Nq h.mp hv,X1,hin,D1,hix,Ao,CQ,M5,Bool.and_false,E2,D7,hinc]
  have hno:∀v,¬(m.cW,v)∈M:=fun v hv=>hkn ⟨v,hv⟩;have hg:=RE hno
  by_cases ht:m.To=x
  ·cases hvd:vd m.On with
   |true=>
    refine skip ?_ fun _ h2=>by rw[hvd]at h2;cases h2
    unfold PZ;rw[A1 (by simp[C8,C9];omega)];simp only[E7,hx,A5,hg,X1,hin,D1,hix,Ao,CQ,ht,Z8,U9,V4,Jl,hsv,hvd,M5,E2,D7,hinc]
   | false=>
    have hxa:=h.t1 x (by simp);obtain⟨ix,dx,ex1,ex2,ex3,_⟩:=h.ok _ _ hxa
    have hdx:dx=a:=by omega
    subst hdx;obtain⟨jf,hjf⟩:∃j:Nat,m.cW=(j:Int):=⟨m.cW.toNat,by omega⟩;have hda:=Af5 hs ex3
    have hD:OV s jf (dx+1):=by
     refine⟨⟨ix,⟨m,hmem,hjf,by omega,hvd⟩,ex3.1⟩,fun k hk hr=>?_⟩;obtain⟨v,hv⟩:=h.kn jf k (by omega) hr;exact hno v (by rw[hjf];exact hv)
    obtain⟨e1,hMp⟩:=TR h.mp (v:=(dx:Int)+1) hno
    have e2:I1 (x::T1++T2) [m.cW]=some (x::T1++(T2++[m.cW])):=by
     unfold I1;rw[A1 (by simp only[GJ];omega),F6]
    have e:PZ 40000000 s ((i:Int),x::T1++T2,M)=some (.inl (((i+1:Nat):Int),x::T1++(T2++[m.cW]),M++[(m.cW,(dx:Int)+1)])):=by
     unfold PZ;rw[A1 (by simp[C8,C9];omega)];simp only[E7,hx,A5,hg,X1,hin,D1,hix,Ao,CQ,ht,Z8,U9,V4,Jl,hsv,hvd,Nq h.mp hxa,M8 (show -9223372036854775808≤(dx:Int)+1 by omega) (show(dx:Int)+1<9223372036854775808 by omega),e1,e2,hinc]
    rw[loopN,e]
    obtain⟨T2',M',e3,h3,h4,h5⟩:=SQ hs (a:=dx) (x:=x) (T1:=T1) d (i+1) N (T2++[m.cW]) (M++[(m.cW,(dx:Int)+1)]) (by omega) (by omega)
     ⟨hMp,fun k v hk=>by
      rcases List.mem_append.1 hk with hk|hk
      ·exact h.ok k v hk
      simp only[M6,AJ]at hk
      obtain⟨rfl,rfl⟩:=hk
      exact⟨jf,dx+1,hjf,by omega,hD,by omega⟩,
      fun k hk=>R6 _ (h.t1 k hk),
      fun k hk=>by
       rcases List.mem_append.1 hk with hk|hk
       ·exact R6 _ (h.t2 k hk)
       simp only[M6]at hk
       exact ET _ (by rw[hk];simp),
      fun y k hk hr=>by obtain⟨v,hv⟩:=h.kn y k hk hr;exact⟨v,R6 _ hv⟩,
      fun k hk=>by
       rcases List.mem_append.1 hk with hk|hk
       ·exact R6 _ (h.up k hk)
       simp only[M6,AJ]at hk
       exact ET _ (by rw[hk.1];simp),
      fun y j he hj hn=>by obtain⟨v,hv⟩:=h.dn y j he hj hn;exact⟨v,R6 _ hv⟩⟩
     (by simp only[I8,N3,V6]at hl ⊢;omega)
     (fun j hj y hy hty hvy=>by
      rcases G6 j i with c|c
      ·obtain⟨v,hv⟩:=hd j c y hy hty hvy;exact⟨v,R6 _ hv⟩
      rw[show j=i by omega,hx]at hy;cases hy;exact⟨(dx:Int)+1,ET _ (by simp)⟩)
    refine⟨T2',M',e3,h3,?_,h5⟩
    simp only[I8,N3,V6]at h4
    omega
  refine skip ?_ fun h1=>absurd h1 ht;unfold PZ;rw[A1 (by simp[C8,C9];omega)];simp only[E7,hx,A5,hg,X1,hin,D1,hix,Ao,CQ,ht,Z8,FB,Hn,E2,D7,hinc]
def Ac1 {s:A0} (hs:Jc s) {a:Nat} {x:Int} {T1 T2:List Int} {M:List (Int×Int)} (h:WJ s a (x::T1) T2 M) (hl:(x::T1++T2).length≤M.length):
 ∃T2' M',Ac2 40000000 s (x::T1++T2,M)=some (.inl (T1++T2',M'))∧WJ s a T1 T2' M'∧(T1++T2').length≤M'.length∧(T1++T2').length+(s.cT.length-M'.length)<(x::T1++T2).length+(s.cT.length-M.length):=by
 have hmv:=hs.mv;obtain⟨T2',M',e,h1,h2,h3⟩:=SQ hs s.cU.length 0 40000000 T2 M (by omega) (by omega) h hl (fun j hj=>by omega);have hl1:=h.len hs;have hl2:=h1.len hs;refine⟨T2',M',?_,⟨h1.mp,h1.ok,fun k hk=>h1.t1 k (Y5 _ hk),h1.t2,h1.kn,h1.up,fun i j he hj hn=>?_⟩,?_,?_⟩
 ·unfold Ac2;rw[A1 (by simp[U5,C9];omega)]
  rw[show((0:Nat):Int)=0 from rfl]at e
  rw[e];simp only[A5];unfold S8;rw[A1 (by simp;omega)];simp only[A5,Bu,Cm]
  congr 2
  rw[show((x::T1++T2').drop (1:Int).toNat)=T1++T2' from rfl];rw[P2 (by simp;omega)]
 ·by_cases c:(j:Int)=x
  ·obtain⟨m,hm,f,t,v⟩:=he;obtain⟨w,hw⟩:=h3 m hm (by omega) v;exact⟨w,by rw[←f];exact hw⟩
  exact h1.dn i j he hj (by simp only[FC,not_or];exact⟨c,hn⟩)
 ·simp only[I8,N3]at hl ⊢;omega
 simp only[I8,N3]at hl ⊢;omega
def An4 {s:A0} (hs:Jc s):∀(μ N a:Nat) (T1 T2:List Int) (M:List (Int×Int)),(T1++T2).length+(s.cT.length-M.length)≤μ→μ<N→WJ s a T1 T2 M→(T1++T2).length≤M.length→
 ∃a' M',loopN (Ac2 40000000 s) N (T1++T2,M)=some ([],M')∧WJ s a' [] [] M':=by
 intro μ
 induction μ with
 |zero=>
  intro N a T1 T2 M hm hN h hl;obtain⟨N,rfl⟩:∃K,N=K+1:=⟨N-1,by omega⟩;have e1:T1=[]:=Iu (by rw[I8]at hm;omega);have e2:T2=[]:=Iu (by rw[I8]at hm;omega);subst e1;subst e2;exact⟨a,M,rfl,h⟩
 | succ μ ih=>
  intro N a T1 T2 M hm hN h hl;obtain⟨N,rfl⟩:∃K,N=K+1:=⟨N-1,by omega⟩
  have go:∀(a:Nat) (x:Int) (T1 T2:List Int),(x::T1++T2).length+(s.cT.length-M.length)≤μ+1→WJ s a (x::T1) T2 M→(x::T1++T2).length≤M.length→∃a' M',loopN (Ac2 40000000 s) (N+1) (x::T1++T2,M)=some ([],M')∧WJ s a' [] [] M':=by
   intro a x T1 T2 hm h hl;obtain⟨T2',M',e,h1,h2,h3⟩:=Ac1 hs h hl;rw[loopN,e];exact ih N a T1 T2' M' (by omega) (by omega) h1 h2
  cases T1 with
  |cons x T1=>exact go a x T1 T2 hm h hl
  | nil=>
   cases T2 with
   |nil=>exact⟨a,M,rfl,h⟩
   |cons x T2=>
    have:=go (a+1) x T2 [] (by simpa using hm) h.next (by simpa using hl)
    simpa using this
def Aq4 {s:A0} (hs:Jc s):∃M,R9 40000000 s=some M∧Mp M∧∀k v,(k,v)∈M↔∃i d:Nat,k=(i:Int)∧v=(d:Int)∧OV s i d:=by
 have hf:=hs.fi;obtain⟨T,M,e,h⟩:=Qa hs s.cT.length 0 40000000 [] [] (by omega) (by omega) ⟨⟨Jp⟩,fun k v=>by simp,fun k=>by simp,rfl,by simp⟩;have hb:=h.bfs hs;have hl:=hb.len hs;obtain⟨a,M',e2,h2⟩:=An4 hs 600 40000000 0 T [] M (by simp;have:=h.li;omega) (by omega) hb (by simp[h.le]);refine⟨M',?_,h2.mp,fun k v=>⟨fun hk=>?_,?_⟩⟩
 ·rw[Ah1]
  rw[show((0:Nat):Int)=0 from rfl]at e
  rw[e]
  rw[G9]at e2
  simp only[A5,e2]
 ·obtain⟨i,d,e1,e2,e3,_⟩:=h2.ok k v hk;exact⟨i,d,e1,e2,e3⟩
 rintro⟨i,d,rfl,rfl,hd⟩
 have hall:∃v,((i:Int),v)∈M':=by
  rcases G6 a d with c|c
  ·obtain⟨i',hi'⟩:=Ry hd (a+1) (by omega);obtain⟨j,he,hj⟩:=Kw hi';obtain⟨v,hv⟩:=h2.dn i' j he hj (by simp);obtain⟨i2,d2,q1,q2,q3,q4⟩:=h2.ok _ _ hv
   have:i2=i':=by omega
   subst this;have:=Kv hi' q3;subst this;have:=h2.up _ (by rw[q2]at hv;exact_mod_cast hv);cases this
  exact h2.kn i d c hd.1
 obtain⟨v,hv⟩:=hall;obtain⟨i2,d2,q1,q2,q3,_⟩:=h2.ok _ _ hv
 have:i2=i:=by omega
 subst this;have:=Kv hd q3;subst this;rw[←q2];exact hv
def Ak7 {N:Nat} {p:B3} (hb:p.cX.length<1000000000) (hN:p.cX.length<N):S0 N p=some (YS p).isNone:=by
 unfold S0;rw[RG (l:=p.cX) (p:=ne1) (e:=.inl ()) (b:=fun _ _=>.inr ()) (N:=N) ?_ ?_ hN]
 ·simp only[A5];unfold YS;cases RF ne1 0 p.cX<;>rfl
 ·intro i x hx hi;simp only[C8,U5,C9,E7,hx,A5,B2];rw[A1 (by omega),I6 hi (by omega)]
  by_cases h:0<x.length
  ·rw[A1 (by omega),A1 h]
  rw[A3 (by omega),A3 h]
 simp[C8,C9]
def Mn {N:Nat}{t:Int}{p:B3}(hN:300<N)(hp:Jf t p=0):S0 N p=some (vd p):=by
 obtain⟨_,h0⟩:=Gy hp;obtain⟨hlen,_⟩:=DZ h0;exact Ak7 (by omega) (by omega)
def Sc {l:List Int}{i:Nat}{v:Int}(h:i<l.length):Z9 l (i:Int)=true∧Y6 l (i:Int) (fun _=>v)=some (l.set i v):=by
 constructor
 ·unfold Z9;simp;omega
 unfold Y6;rw[E7,D5 h];rfl
noncomputable def TX (s:A0) (s3:Int×(List Int)):Option ((Int×(List Int))⊕(((List Int)))):=
 if cmp .lss s3.1 (Ar.len s3.2)=true then
  (X1 (Z9 s3.2 s3.1)).bind fun _=>
  (Y6 s3.2 s3.1 (fun x6:Int=>(-1))).bind fun l7=>
  (C6 s.cT s3.1).bind fun x8=>
  if x8=true then
   (X1 (Z9 l7 s3.1)).bind fun _=>
   (Y6 l7 s3.1 (fun x9:Int=>0)).bind fun l10=>
   some (.inl (ar .add .i64 s3.1 1,l10))
  else
   some (.inl (ar .add .i64 s3.1 1,l7))
 else
  some (.inr s3.2)
noncomputable def Pt (N:Nat) (s:A0) (r:Int) (s15:Int×(List Int)):Option ((Int×(List Int))⊕(((List Int)))):=
 if cmp .lss s15.1 (Ar.len s.cU)=true then
  (C6 s.cU s15.1).bind fun x18=>
  (X1 (Z9 s15.2 x18.cW)).bind fun _=>
  (C6 s15.2 x18.cW).bind fun x19=>
  if cmp .lss x19 0=true then
   (X1 (Z9 s15.2 x18.To)).bind fun _=>
   (C6 s15.2 x18.To).bind fun x20=>
   if cmp .eql x20 (ar .sub .i64 r 1)=true then
    (S0 N x18.On).bind fun r21=>
    if nt r21=true then
     (X1 (Z9 s15.2 x18.cW)).bind fun _=>
     (Y6 s15.2 x18.cW (fun x22:Int=>r)).bind fun l23=>
     some (.inl (ar .add .i64 s15.1 1,l23))
    else
     some (.inl (ar .add .i64 s15.1 1,s15.2))
   else
    some (.inl (ar .add .i64 s15.1 1,s15.2))
  else
   some (.inl (ar .add .i64 s15.1 1,s15.2))
 else
  some (.inr s15.2)
noncomputable def Yr (N:Nat) (s:A0) (s12:Int×(List Int)):Option ((Int×(List Int))⊕(((List Int)))):=
 if cmp .leq s12.1 (Ar.len s12.2)=true then
  (loopN (Pt N s s12.1) N (0,s12.2)).bind fun s17=>
  some (.inl (ar .add .i64 s12.1 1,s17))
 else
  some (.inr s12.2)
def Yu (N:Nat)(s:A0):BM N s=(PO (Ar.len s.cT) (Ar.len s.cT) (0:Int)).bind fun l2=>(loopN (TX s) N (0,l2)).bind fun s5=>(loopN (Yr N s) N (1,s5)).bind fun s14=>some s14:=rfl
def Sw {s:A0} (hs:Jc s):∀(d i N:Nat) (l:List Int),i+d=s.cT.length→d<N→l.length=s.cT.length→(∀j:Nat,j<i→l[j]? =some (if s.cT[j]? =some true then 0 else -1))→
 ∃l',loopN (TX s) N ((i:Int),l)=some l'∧l'.length=s.cT.length∧∀j:Nat,j<s.cT.length→l'[j]? =some (if s.cT[j]? =some true then 0 else -1)
 | 0,i,N,l,hi,hN,hl,h=>by
  obtain⟨N,rfl⟩:∃K,N=K+1:=⟨N-1,by omega⟩
  have e:TX s ((i:Int),l)=some (.inr l):=by
   unfold TX;rw[A3 (by simp[C8,C9];omega)]
  exact⟨l,by rw[loopN,e],hl,fun j hj=>h j (by omega)⟩
 | d+1,i,N,l,hi,hN,hl,h=>by
  obtain⟨N,rfl⟩:∃K,N=K+1:=⟨N-1,by omega⟩;have hf:=hs.fi
  have hlt:i<s.cT.length:=by omega
  have hx:=D5 hlt;have hinc:ar .add .i64 (i:Int) 1=((i+1:Nat):Int):=I6 hlt (by omega);obtain⟨u1,u2⟩:=Sc (l:=l) (i:=i) (v:= -1) (by omega);obtain⟨u3,u4⟩:=Sc (l:=l.set i (-1)) (i:=i) (v:=0) (by simp;omega)
  have hcond:cmp .lss (i:Int) (Ar.len l)=true:=by simp[C8,C9];omega
  cases hv:s.cT[i]with
  | false=>
   have e:TX s ((i:Int),l)=some (.inl (((i+1:Nat):Int),l.set i (-1))):=by
    unfold TX;rw[A1 hcond];simp only[u1,u2,X1,D1,A5,E7,hx,hv,E2,D7,hinc]
   rw[loopN,e];refine Sw hs d (i+1) N _ (by omega) (by omega) (by simpa using hl) fun j hj=>?_;rw[O0]
   by_cases c:i=j
   ·subst c;rw[A1 rfl,A1 (by omega),hx,hv];simp
   rw[A3 c];exact h j (by omega)
  | true=>
   have e:TX s ((i:Int),l)=some (.inl (((i+1:Nat):Int),(l.set i (-1)).set i 0)):=by
    unfold TX;rw[A1 hcond];simp only[u1,u2,u3,u4,X1,D1,A5,E7,hx,hv,hinc]
   rw[loopN,e];refine Sw hs d (i+1) N _ (by omega) (by omega) (by simpa using hl) fun j hj=>?_;rw[O0]
   by_cases c:i=j
   ·subst c;rw[A1 rfl,A1 (by simp;omega),hx,hv];simp
   rw[A3 c,O0,A3 c];exact h j (by omega)
structure Dl (s:A0) (m:Nat) (l:List Int):Prop where
 len:l.length=s.cT.length
 at':∀j:Nat,j<s.cT.length→∃v,l[j]? =some v∧((∃k,k≤m∧v=(k:Int)∧OV s j k)∨(v= -1∧∀k,k≤m→¬Rc s k j))
structure Di (s:A0) (m i:Nat) (l:List Int):Prop where
 len:l.length=s.cT.length
 at':∀j:Nat,j<s.cT.length→∃v,l[j]? =some v∧((∃k,k≤m+1∧v=(k:Int)∧OV s j k)∨
  (v= -1∧(∀k,k≤m→¬Rc s k j)∧∀(q:Nat) y,q<i→s.cU[q]? =some y→y.cW=(j:Int)→vd y.On=false→∀t:Nat,y.To=(t:Int)→¬OV s t m))
def Sv {s:A0} (hs:Jc s) {m:Nat} (hm:m<1000):∀(d i N:Nat) (l:List Int),i+d=s.cU.length→d<N→Di s m i l→
 ∃l',loopN (Pt 40000000 s ((m:Int)+1)) N ((i:Int),l)=some l'∧Di s m s.cU.length l'
 | 0,i,N,l,hi,hN,h=>by
  obtain⟨N,rfl⟩:∃K,N=K+1:=⟨N-1,by omega⟩
  have e:Pt 40000000 s ((m:Int)+1) ((i:Int),l)=some (.inr l):=by
   unfold Pt;rw[A3 (by simp[C8,C9];omega)]
  exact⟨l,by rw[loopN,e],by rw[show s.cU.length=i by omega];exact h⟩
 | d +1,i,N,l,hi,hN,h=>by
  obtain⟨N,rfl⟩:∃K,N=K+1:=⟨N-1,by omega⟩;have hf:=hs.fi;have hmv:=hs.mv
  have hlt:i<s.cU.length:=by omega
  have hx:=D5 hlt;have hinc:ar .add .i64 (i:Int) 1=((i+1:Nat):Int):=I6 hlt (by omega);obtain⟨y,hy⟩:∃y,s.cU[i]=y:=⟨_,rfl⟩
  rw[hy]at hx
  have hmem:y∈s.cU:=by rw[←hy];exact Bt hlt
  obtain⟨⟨⟨f0,f1⟩,t0,t1⟩,hp⟩:=hs.each y hmem;obtain⟨f,hfr⟩:∃f:Nat,y.cW=(f:Int):=⟨y.cW.toNat,by omega⟩;obtain⟨t,hto⟩:∃t:Nat,y.To=(t:Int):=⟨y.To.toNat,by omega⟩
  have hfl:f<l.length:=by rw[h.len];omega
  have htl:t<l.length:=by rw[h.len];omega
  obtain⟨v,hv,hvc⟩:=h.at' f (by omega);obtain⟨w,hw,hwc⟩:=h.at' t (by omega)
  have hcond:cmp .lss (i:Int) (Ar.len s.cU)=true:=by simp[C8,C9];omega
  have hsub:ar .sub .i64 ((m:Int)+1) 1=(m:Int):=by
   show IntKind.wrap .i64 (((m:Int)+1)-1)=_
   rw[GO (by omega) (by omega)];omega
  obtain⟨uf,uu⟩:=Sc (l:=l) (i:=f) (v:=(m:Int)+1) hfl;obtain⟨ut,_⟩:=Sc (l:=l) (i:=t) (v:=0) htl;have hrv:=Mn (N:=40000000) (by omega) hp
  have skip:Pt 40000000 s ((m:Int)+1) ((i:Int),l)=some (.inl (((i+1:Nat):Int),l))→(v= -1→vd y.On=false→¬OV s t m)→
   ∃l',loopN (Pt 40000000 s ((m:Int)+1)) (N+1) ((i:Int),l)=some l'∧Di s m s.cU.length l':=by
   intro e hk;rw[loopN,e];refine Sv hs hm d (i+1) N l (by omega) (by omega) ⟨h.len,fun j hj=>?_⟩;obtain⟨v',e1,hc⟩:=h.at' j hj;refine⟨v',e1,?_⟩
   rcases hc with hc|⟨c1,c2,c3⟩
   ·exact .inl hc
   refine .inr ⟨c1,c2,fun q z hq hz hzf hzv u hu=>?_⟩
   rcases G6 q i with c|c
   ·exact c3 q z c hz hzf hzv u hu
   rw[show q=i by omega,hx]at hz;cases hz
   have:f=j:=by omega
   subst this
   have:u=t:=by omega
   subst this
   rw[hv]at e1;cases e1
   exact hk c1 hzv
  rcases hvc with⟨k,hk1,hk2,hk3⟩|⟨c1,c2,c3⟩
  ·refine skip ?_ fun h1=>by omega
   unfold Pt;rw[A1 hcond];simp only[E7,hx,A5,hfr,uf,X1,D1,hv,C8];rw[A3 (by simp;omega),hinc]
  by_cases hwm:w=(m:Int)
  ·have hD:OV s t m:=by
    rcases hwc with⟨k,hk1,hk2,hk3⟩|⟨d1,_⟩
    ·rw[show m=k by omega];exact hk3
    omega
   cases hvd:vd y.On with
   |true=>
    refine skip ?_ fun _ h2=>by rw[hvd]at h2;cases h2
    unfold Pt;rw[A1 hcond];simp only[E7,hx,A5,hfr,uf,X1,D1,hv,C8,c1,hto,ut,hw,Z8,hsub,hwm,U9,hrv,hvd,Ao,M5,E2,D7,hinc];rfl
   | false=>
    have hfD:OV s f (m+1):=by
     refine⟨⟨t,⟨y,hmem,hfr,hto,hvd⟩,hD.1⟩,fun k hk=>c2 k (by omega)⟩
    have e:Pt 40000000 s ((m:Int)+1) ((i:Int),l)=some (.inl (((i+1:Nat):Int),l.set f ((m:Int)+1))):=by
     unfold Pt;rw[A1 hcond];simp only[E7,hx,A5,hfr,uf,X1,D1,hv,C8,c1,hto,ut,hw,Z8,hsub,hwm,U9,hrv,hvd,Ao,V4,hinc,uu];rfl
    rw[loopN,e];refine Sv hs hm d (i+1) N _ (by omega) (by omega) ⟨by simpa using h.len,fun j hj=>?_⟩;rw[O0]
    by_cases c:f=j
    ·subst c;rw[A1 rfl,A1 hfl];exact⟨_,rfl,.inl ⟨m+1,by omega,by omega,hfD⟩⟩
    rw[A3 c];obtain⟨v',e1,hc⟩:=h.at' j hj;refine⟨v',e1,?_⟩
    rcases hc with hc|⟨d1,d2,d3⟩
    ·exact .inl hc
    refine .inr ⟨d1,d2,fun q z hq hz hzf hzv u hu=>?_⟩
    rcases G6 q i with c'|c'
    ·exact d3 q z c' hz hzf hzv u hu
    rw[show q=i by omega,hx]at hz;cases hz
    omega
  refine skip ?_ fun _ _ hD=>?_
  ·unfold Pt;rw[A1 hcond];simp only[E7,hx,A5,hfr,uf,X1,D1,hv,C8,c1,hto,ut,hw,Z8,hsub,hwm,FB,E2,D7,hinc];rfl
  rcases hwc with⟨k,hk1,hk2,hk3⟩|⟨d1,d2,_⟩
  ·have:=Kv hD hk3;omega
  exact d2 m (D3 _) hD.1
def Di.done {s:A0} {m:Nat} {l:List Int} (h:Di s m s.cU.length l):Dl s (m+1) l:=by
 refine⟨h.len,fun j hj=>?_⟩;obtain⟨v,e,hc⟩:=h.at' j hj;refine⟨v,e,?_⟩
 rcases hc with hc|⟨c1,c2,c3⟩
 ·exact .inl hc
 refine .inr ⟨c1,fun k hk hr=>?_⟩
 rcases G6 m k with c|c
 ·obtain rfl:k=m+1:=by omega
  obtain⟨t,⟨y,hy,hf,ht,hvd⟩,hrt⟩:=hr;obtain⟨q,hq⟩:=L8 hy;obtain⟨k',hk',hD⟩:=SO hrt
  have hkm:k'=m:=by
   rcases G6 k' m with c'|c'
   ·exact absurd (show Rc s (k'+1) j from⟨t,⟨y,hy,hf,ht,hvd⟩,hD.1⟩) (c2 (k'+1) (by omega))
   omega
  subst hkm
  exact c3 q y (by
   rcases G6 q s.cU.length with c'|c'
   ·exact c'
   rw[ES c']at hq;cases hq) hq hf hvd t ht hD
 exact c2 k c hr
def WW {s:A0} (hs:Jc s):∀(d m N:Nat) (l:List Int),m+d=s.cT.length→d<N→Dl s m l→
 ∃l',loopN (Yr 40000000 s) N ((m:Int)+1,l)=some l'∧Dl s s.cT.length l'
 | 0,m,N,l,hm,hN,h=>by
  obtain⟨N,rfl⟩:∃K,N=K+1:=⟨N-1,by omega⟩
  have e:Yr 40000000 s ((m:Int)+1,l)=some (.inr l):=by
   unfold Yr;rw[A3 (by simp only[GB,C9,B2];rw[h.len];omega)]
  exact⟨l,by rw[loopN,e],by rw[←hm];exact h⟩
 | d+1,m,N,l,hm,hN,h=>by
  obtain⟨N,rfl⟩:∃K,N=K+1:=⟨N-1,by omega⟩;have hf:=hs.fi;have hmv:=hs.mv
  obtain⟨l1,e1,h1⟩:=Sv hs (m:=m) (by omega) s.cU.length 0 40000000 l (by omega) (by omega) ⟨h.len,fun j hj=>by
   obtain⟨v,e,hc⟩:=h.at' j hj;refine⟨v,e,?_⟩
   rcases hc with⟨k,hk⟩|⟨c1,c2⟩
   ·exact .inl ⟨k,by omega,hk.2⟩
   exact .inr ⟨c1,c2,fun q _ hq=>by omega⟩⟩
  have e:Yr 40000000 s ((m:Int)+1,l)=some (.inl (((m+1:Nat):Int)+1,l1)):=by
   unfold Yr;rw[A1 (by simp only[GB,C9,B2];rw[h.len];omega)]
   rw[show((0:Nat):Int)=0 from rfl]at e1
   simp only[e1,A5];rw[M8 (by omega) (by omega)]
   congr 3
  rw[loopN,e];exact WW hs d (m+1) N l1 (by omega) (by omega) h1.done
def Ab0 {s:A0} (hs:Jc s):∃l,BM 40000000 s=some l∧l.length=s.cT.length∧∀j:Nat,j<s.cT.length→∃v,l[j]? =some v∧((∃k:Nat,v=(k:Int)∧OV s j k)∨(v= -1∧∀k,¬Rc s k j)):=by
 have hf:=hs.fi;obtain⟨l0,e0,h0,h1⟩:=Sw hs s.cT.length 0 40000000 (List.replicate s.cT.length 0) (by omega) (by omega) (by simp) (fun j hj=>by omega)
 obtain⟨l,e,h⟩:=WW hs s.cT.length 0 40000000 l0 (by omega) (by omega) ⟨h0,fun j hj=>⟨_,h1 j hj,by
  by_cases c:s.cT[j]? =some true
  ·rw[A1 c];exact .inl ⟨0,by omega,rfl,c,fun k hk=>by omega⟩
  rw[A3 c];refine .inr ⟨rfl,fun k hk hr=>c ?_⟩
  obtain rfl:k=0:=by omega
  exact hr⟩⟩
 refine⟨l,?_,h.len,fun j hj=>?_⟩
 ·rw[Yu];simp only[C9,PO];rw[A1 (by omega)];simp only[A5,show((s.cT.length:Int)).toNat=s.cT.length by omega]
  rw[show((0:Nat):Int)=0 from rfl]at e0 e
  rw[show(0:Int)+1=1 from rfl]at e
  simp only[e0,e,A5]
 obtain⟨v,e1,hc⟩:=h.at' j hj;refine⟨v,e1,?_⟩
 rcases hc with⟨k,_,hk2,hk3⟩|⟨c1,c2⟩
 ·exact .inl ⟨k,hk2,hk3⟩
 refine .inr ⟨c1,fun k hr=>?_⟩;obtain⟨k',_,hD⟩:=SO hr;have:=Af5 hs hD;exact c2 k' (by omega) hD.1
def Ax3 {p:B3} {x:H9} (h:Vu p x=true):vd p=false:=by
 obtain⟨h0,l,hl,y,hy,_⟩:=KA.1 h
 cases hv:vd p with
 |false=>rfl
 | true=>
  have:RF ne1 0 p.cX=none:=by
   have:(YS p).isNone=true:=hv
   simpa using this
  have:=Qe this l (G1 hl)
  cases l with
  |nil=>cases hy
  |cons a l=>simp[ne1]at this
def bef (x y:H9):Bool:=decide (x.Typ<y.Typ)||(decide (x.Typ=y.Typ)&&decide (x.Num<y.Num))
def nxt (st:Bool×H9)(c:H9):Bool×H9:=if st.1=false then(true,c)else if bef c st.2=true then(true,c)else st
section
variable {s:A0}{M:List (Int×Int)}{left:Nat}
structure As3 (s:A0) (M:List (Int×Int)):Prop where
 mp:Mp M
 mem:∀k v,(k,v)∈M↔∃i d:Nat,k=(i:Int)∧v=(d:Int)∧OV s i d
end
end Go.Ab
namespace Go.Ab
set_option maxRecDepth 100000
def Ax5 {N:Nat} {p:B3} (hN:10<N):∃b,EZ N p=some b∧(b=true→p.cX.length≤4∧∀x∈p.cX,x.length≤12):=by
 unfold EZ;rw[Bi (l:=p.cX.take 5) (f:=fun _ x=>if x.length≤12 then 0 else 1) (e:=.inl ()) (b:=fun _=>.inr ()) (N:=N) ?_ ?_ (by simp;omega)]
 ·simp only[A5]
  by_cases h:fb (fun _ (x:List A2)=>if x.length≤12 then(0:Int)else 1) 0 (p.cX.take 5)=0
  ·rw[A1 h];refine⟨_,rfl,fun hb=>?_⟩
   simp only[GB,C9,B2]at hb
   refine⟨by omega,fun x hx=>?_⟩;obtain⟨k,hk⟩:=L8 hx;have hkl:=(List.getElem?_eq_some_iff.1 hk).1;have:=EG.1 h k x (by rw[Co];rw[A1 (by omega)];exact hk)
   split at this
   ·assumption
   cases this
  rw[A3 h];exact⟨_,rfl,fun h=>by cases h⟩
 ·intro i x hx hi
  rw[Co]at hx
  have hi5:i<5∧i<p.cX.length:=by simp at hi;omega
  rw[A1 hi5.1]at hx
  unfold KQ;simp only[C8,GB,CQ,Ao,C9,E7,hx,A5,H7,B2,V7,Cs];rw[A1 (by omega),I6 hi5.1 (by omega)]
  by_cases h:x.length≤12
  ·rw[A3 (by omega),A1 (by rw[A1 h])]
  rw[A1 (by omega),A3 (by rw[A3 h];decide)]
 simp only[C8,CQ,C9,H7,B2,Y4];rw[A3 (by omega)]
def Ai0 (a:Bool):Ar.beq a a=true:=by cases a<;>rfl
end Go.Ab
namespace Go.Ab
def WT {N:Nat} {s:A0} (hN:30<N):∃b,GE N s=some b∧(b=true→s.cT.length≤8∧s.cU.length≤16∧∀m∈s.cU,m.On.cX.length≤4∧∀x∈m.On.cX,x.length≤12):=by
 unfold GE;have hc:∀m:B5,∃b,EZ N m.On=some b∧(b=true→m.On.cX.length≤4∧∀x∈m.On.cX,x.length≤12):=fun m=>Ax5 (by omega);obtain⟨F,hF⟩:∃F:B5→Bool,∀m,EZ N m.On=some (F m)∧(F m=true→m.On.cX.length≤4∧∀x∈m.On.cX,x.length≤12):=⟨fun m=>(hc m).choose,fun m=>(hc m).choose_spec⟩;rw[Bi (l:=s.cU.take 20) (f:=fun _ m=>if F m=true then 0 else 1) (e:=.inl ()) (b:=fun _=>.inr ()) (N:=N) ?_ ?_ (by simp;omega)]
 ·simp only[A5]
  by_cases h:fb (fun _ (m:B5)=>if F m=true then(0:Int)else 1) 0 (s.cU.take 20)=0
  ·rw[A1 h];refine⟨_,rfl,fun hb=>?_⟩
   simp only[GB,CQ,C9,H7,B2]at hb
   refine⟨by omega,by omega,fun m hm=>?_⟩;obtain⟨k,hk⟩:=L8 hm;have hkl:=(List.getElem?_eq_some_iff.1 hk).1;have:=EG.1 h k m (by rw[Co];rw[A1 (by omega)];exact hk)
   split at this
   ·rename_i h2;exact(hF m).2 h2
   cases this
  rw[A3 h];exact⟨_,rfl,fun h=>by cases h⟩
 ·intro i x hx hi
  rw[Co]at hx
  have hi5:i<20∧i<s.cU.length:=by simp at hi;omega
  rw[A1 hi5.1]at hx
  simp only[C8,CQ,Ao,C9,E7,hx,A5,(hF x).1,H7,B2,V7];rw[A1 (by omega),I6 hi5.1 (by omega)];cases F x<;>simp
 simp only[C8,CQ,C9,H7,B2,Y4];rw[A3 (by omega)]
end Go.Ab
