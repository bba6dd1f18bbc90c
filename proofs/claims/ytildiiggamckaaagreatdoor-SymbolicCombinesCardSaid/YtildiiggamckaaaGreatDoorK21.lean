/- . -/
import Derived.Test.YtildiiggamckaaaGreatDoorK20
set_option linter.all false
open Go.Ab.Ar (cmp)
namespace Go.Ab
def Ak9 {a b:A0} {n:B5}:n∈Ty a b↔((∃m∈a.cU,m.cW=0∧n=⟨0,m.To+1,m.On⟩)∨(∃m∈b.cU,m.cW=0∧n=⟨0,m.To+((1+a.cT.length:Nat):Int),m.On⟩))∨(∃m∈a.cU,n=⟨m.cW+1,m.To+1,m.On⟩)∨∃m∈b.cU,n=⟨m.cW+((1+a.cT.length:Nat):Int),m.To+((1+a.cT.length:Nat):Int),m.On⟩:=by
 have hf:∀(s:A0) (k:Int) (n:B5),n∈Qb (OJ s k) k↔∃m∈s.cU,m.cW=0∧n=⟨0,m.To+k,m.On⟩:=by
  intro s k n;rw[Ag4]
  constructor
  ·rintro⟨q,hq,e,rfl⟩;obtain⟨m,hm,rfl⟩:=KO.1 hq;exact⟨m,hm,by dsimp only at e;omega,rfl⟩
  rintro⟨m,hm,e,rfl⟩;exact⟨⟨m.cW+k,m.To+k,m.On⟩,KO.2 ⟨m,hm,rfl⟩,by dsimp only;omega,rfl⟩
 unfold Ty;rw[AK,AK,AK,hf,hf,KO,KO,or_assoc]
def ZJ {a b:A0}{c:Bool}(ha:Jc a)(hb:Jc b)(ht:a.cV=b.cV)(hfa:a.cT.length≤100)(hma:a.cU.length≤100)(hfb:b.cT.length≤100)(hmb:b.cU.length≤100):Jc (Sd a b c):=by
 have l1:=KP a 1;have l2:=KP b ((1+a.cT.length:Nat):Int);have l3:=MD (OJ a 1) 1;have l4:=MD (OJ b ((1+a.cT.length:Nat):Int)) ((1+a.cT.length:Nat):Int)
 have hl:(Sd a b c).cT.length=1+a.cT.length+b.cT.length:=by unfold Sd;simp;omega
 refine⟨ha.ty,by omega,by show(Ty a b).length≤2048;unfold Ty;simp only[I8];omega,fun n hn=>?_⟩;rw[hl]
 show((0≤n.cW∧n.cW<((1+a.cT.length+b.cT.length:Nat):Int))∧0≤n.To∧n.To<((1+a.cT.length+b.cT.length:Nat):Int))∧Jf a.cV n.On=0
 have pa:∀m∈a.cU,Jf a.cV m.On=0:=fun m hm=>(ha.each m hm).2
 have pb:∀m∈b.cU,Jf a.cV m.On=0:=fun m hm=>by rw[ht];exact(hb.each m hm).2
 rcases Ak9.1 hn with(⟨m,hm,_,rfl⟩|⟨m,hm,_,rfl⟩)|⟨m,hm,rfl⟩|⟨m,hm,rfl⟩
 ·have:=(ha.each m hm).1;exact⟨⟨by dsimp only;omega,by dsimp only;omega⟩,pa m hm⟩
 ·have:=(hb.each m hm).1;exact⟨⟨by dsimp only;omega,by dsimp only;omega⟩,pb m hm⟩
 ·have:=(ha.each m hm).1;exact⟨⟨by dsimp only;omega,by dsimp only;omega⟩,pa m hm⟩
 have:=(hb.each m hm).1;exact⟨⟨by dsimp only;omega,by dsimp only;omega⟩,pb m hm⟩
def Ka {s:A0}(h:DV s≠5):S9 40000000 s=some (s,0):=by
 unfold S9;rw[Dz (by omega)];simp only[A5];rw[A3 (by rw[Z8];simpa using h)]
def TS {s:A0} (h0:DV s=0) (hf:s.cT.length≤100) (hm:s.cU.length≤100):AR 40000000 s=some (Aa8 s,0):=by
 have hs:=Cy h0;have hfi:=hs.fi;have hok:=Wc (Aa5 hs hf hm);unfold AR;rw[Dz (by omega),h0];simp only[A5,N8,U9,M5,E2,D7,C9];rw[M8 (by omega) (by omega)]
 have e1:PO ((s.cT.length:Int)+1) ((s.cT.length:Int)+1) (false:Bool)=some (List.replicate (s.cT.length+1) false):=by
  unfold PO;rw[A1 (by omega),show((s.cT.length:Int)+1).toNat=s.cT.length+1 by omega]
 obtain⟨k,hk⟩:∃k,s.cT.length=k+1:=⟨s.cT.length-1,by omega⟩
 have e2:C6 s.cT 0=some ((s.cT[0]?).getD false):=by
  have:C6 s.cT ((0:Nat):Int)=s.cT[0]? :=E7
  rw[show((0:Nat):Int)=0 from rfl]at this
  rw[this,D5 (by omega)];rfl
 rw[e1,e2,hk,Dy,Dy];simp only[A5]
 have e3:∀(z:Bool) (l:List Bool),X1 (Z9 (z::l) 0)=some ():=fun z l=>by unfold X1 Z9;rw[A1];simp
 have e4:∀(y z:Bool) (l:List Bool),X1 (Z9 (y::z::l) 1)=some ():=fun y z l=>by unfold X1 Z9;rw[A1];simp;omega
 have e5:∀(u z:Bool) (l:List Bool),Y6 (z::l) 0 (fun _=>u)=some (u::l):=fun u z l=>rfl;have e6:∀(u y z:Bool) (l:List Bool),Y6 (y::z::l) 1 (fun _=>u)=some (y::u::l):=fun u y z l=>rfl;rw[e3];simp only[A5];rw[e5];simp only[A5];rw[e4];simp only[A5];rw[e6];simp only[A5]
 rw [Ft (l:=s.cU) (rep:=fun i (acc:List B5)=>((i:Int),(⟨s.cV,[],acc⟩:A0))) (g:=fun m=>if s.cT[m.To.toNat]? =some true then[(⟨0,m.cW+1,m.On⟩:B5)]else[]) (fin:=fun acc=>(⟨s.cV,[],acc⟩:A0)) (fun m _=>by split<;>simp) []
  (fun i m acc hx hi ha=>by
   have hr:=(hs.each m (G1 hx)).1
   rw[V6]at ha
   simp only[C8,B2];rw[A1 (by omega),E7,hx];simp only[A5];obtain⟨t,ht⟩:∃t:Nat,m.To=t:=⟨m.To.toNat,by omega⟩
   have htl:t<s.cT.length:=by omega
   rw[ht,E7,K0,D5 htl];simp only[A5];rw[I6 hi (by omega)]
   cases s.cT[t]with
   |true=>
    simp only[D1];rw[M8 (by omega) (by omega),L1 (by simp;omega)];rfl
   |false=>simp) (fun acc _=>by simp only[C8,B2];rw[A3 (by omega)]) (by omega) (by rfl)]
 simp only[A5,N1];have hl1:=Dk (l:=s.cU) (g:=fun m=>if s.cT[m.To.toNat]? =some true then[(⟨0,m.cW+1,m.On⟩:B5)]else[]) (fun m _=>by split<;>simp)
 rw[Ft (l:=s.cU) (rep:=fun i (acc:List B5)=>((i:Int),(⟨s.cV,[],acc⟩:A0))) (g:=fun m=>[(⟨m.To+1,m.cW+1,m.On⟩:B5)]) (fin:=fun acc=>(⟨s.cV,[],acc⟩:A0)) (fun m _=>by simp) (s.cU.flatMap fun m=>if s.cT[m.To.toNat]? =some true then[(⟨0,m.cW+1,m.On⟩:B5)]else[])
  (fun i m acc hx hi ha=>by
   have hr:=(hs.each m (G1 hx)).1;simp only[C8,B2];rw[A1 (by omega),E7,hx];simp only[A5];rw[I6 hi (by omega),M8 (by omega) (by omega),M8 (by omega) (by omega),L1 (by simp;omega)]
   rfl) (fun acc _=>by simp only[C8,B2];rw[A3 (by omega)]) (by omega) (by rfl)]
 simp only[A5]
 have ef:OA s=(s.cT[0]?).getD false::true::List.replicate k false:=by unfold OA;rw[hk];rfl
 rw[←ef];exact Q0 (fun o:Option (A0×Int)=>o.bind fun r=>some (r.1,r.2)) (Ka (s:=Aa8 s) (by omega))
def Vl (l:List B5)(k:Int):List B5:=l.flatMap fun m=>if m.cW=0 then[(⟨0,m.To+k,m.On⟩:B5)]else[]
def UN (s:A0)(k:Int):Qb (OJ s k) k=Vl s.cU k:=by
 unfold Qb OJ Vl;rw[List.flatMap_assoc]
 congr 1
 funext m
 simp only[Dx,List.flatMap_nil,G9]
 by_cases h:m.cW=0
 ·rw[A1 (by omega),A1 h]
 rw[A3 (by omega),A3 h]
def Px {s:A0} (hs:Jc s) (hm:s.cU.length≤100) {k:Nat} (hk:k≤1000):P9 40000000 s.cU (k:Int)=some (Vl s.cU k):=by
 have hfi:=hs.fi;unfold P9;simp only[C9]
 rw[Ft (l:=s.cU) (rep:=fun i (acc:List B5)=>(acc,(i:Int))) (g:=fun m=>if m.cW=0 then[(⟨0,m.To+(k:Int),m.On⟩:B5)]else[]) (fin:=fun acc=>acc) (fun m _=>by split<;>simp) []
  (fun i m acc hx hi ha=>by
   have hr:=(hs.each m (G1 hx)).1
   rw[V6]at ha
   simp only[C8,Z8,B2];rw[A1 (by omega),E7,hx];simp only[A5];rw[I6 hi (by omega)]
   by_cases h:m.cW=0
   ·rw[A1 h,A1 h,M8 (by omega) (by omega),L1 (by simp;omega)];rfl
   rw[A3 h,A3 h];simp) (fun acc _=>by simp only[C8,B2];rw[A3 (by omega)]) (by omega) (by rfl)]
 rfl
def Oc {s:A0} (hs:Jc s) (hm:s.cU.length≤100) {k:Nat} (hk:k≤1000):Q6 40000000 s.cU (k:Int)=some (OJ s k):=by
 have hfi:=hs.fi;unfold Q6;simp only[C9]
 rw[Ft (l:=s.cU) (rep:=fun i (acc:List B5)=>(acc,(i:Int))) (g:=fun m=>[(⟨m.cW+(k:Int),m.To+(k:Int),m.On⟩:B5)]) (fin:=fun acc=>acc) (fun m _=>by simp) []
  (fun i m acc hx hi ha=>by
   have hr:=(hs.each m (G1 hx)).1
   rw[V6]at ha
   simp only[C8,B2];rw[A1 (by omega),E7,hx];simp only[A5];rw[I6 hi (by omega),M8 (by omega) (by omega),M8 (by omega) (by omega),L1 (by simp;omega)]
   rfl) (fun acc _=>by simp only[C8,B2];rw[A3 (by omega)]) (by omega) (by rfl)]
 rfl
def Se {a b:A0}:EY 40000000 a b=some (if DV a=0 then(if DV b=0 then(if a.cV=b.cV then 0 else 15)else DV b)else DV a):=by
 unfold EY;rw[Dz (by omega),Dz (by omega)];simp only[A5,N8]
 by_cases ha:DV a=0
 ·by_cases hb:DV b=0
  ·by_cases ht:a.cV=b.cV<;>simp[ha,hb,ht]
  simp[ha,hb]
 simp[ha]
def SE {a b:A0}:W7 40000000 a b=some (if DV a=0 then(if DV b=0 then(if a.cV=b.cV then 0 else 15)else DV b)else DV a):=by
 unfold W7;rw[DX (by omega),DX (by omega)];simp only[A5,N8]
 by_cases ha:DV a=0
 ·by_cases hb:DV b=0
  ·by_cases ht:a.cV=b.cV<;>simp[ha,hb,ht]
  simp[ha,hb]
 simp[ha]
def Yp {a b:A0} (ha:DV a=0) (hb:DV b=0) (ht:a.cV=b.cV) (hfa:a.cT.length≤100) (hma:a.cU.length≤100) (hfb:b.cT.length≤100) (hmb:b.cU.length≤100):
 ∃c,CD 40000000 a b=some (Sd a b c,0)∧(c=true↔a.cT[0]? =some true∨b.cT[0]? =some true):=by
 have hsa:=Cy ha;have hsb:=Cy hb;have ea:C6 a.cT 0=a.cT[0]? :=E7 (i:=0);have eb:C6 b.cT 0=b.cT[0]? :=E7 (i:=0);have ga:a.cT[0]? =some (a.cT[0]'(by have:=hsa.fi;omega)):=D5 _;have gb:b.cT[0]? =some (b.cT[0]'(by have:=hsb.fi;omega)):=D5 _
 have en:Ar.ar .add .i64 1 (Ar.len a.cT)=((1+a.cT.length:Nat):Int):=by rw[C9,M8 (by omega) (by omega)];omega
 have b1:P9 40000000 a.cU 1=some (Vl a.cU 1):=Px (k:=1) hsa hma (by omega);have b2:=Px (k:=1+a.cT.length) hsb hmb (by omega);have s1:Q6 40000000 a.cU 1=some (OJ a 1):=Oc (k:=1) hsa hma (by omega);have s2:=Oc (k:=1+a.cT.length) hsb hmb (by omega);have l1:=KP a 1;have l2:=KP b ((1+a.cT.length:Nat):Int)
 have l3:(Vl a.cU 1).length≤a.cU.length:=Dk fun m _=>by split<;>simp
 have l4:(Vl b.cU ((1+a.cT.length:Nat):Int)).length≤b.cU.length:=Dk fun m _=>by split<;>simp
 have eu:Ty a b=(Vl a.cU 1++Vl b.cU ((1+a.cT.length:Nat):Int))++OJ a 1++OJ b ((1+a.cT.length:Nat):Int):=by unfold Ty;rw[UN,UN]
 have tail:∀c:Bool,((I1 ([c]) a.cT).bind fun l457=>
  (I1 l457 b.cT).bind fun l458=>
  ((
   (P9 40000000 a.cU 1).bind fun l540=>
   (P9 40000000 b.cU (Ar.ar .add .i64 1 (Ar.len a.cT))).bind fun r700=>
   (I1 l540 r700).bind fun l741=>
   some (⟨a.cV,l458,l741⟩:A0)
  ):Option (A0)).bind fun s459=>
  (Q6 40000000 a.cU 1).bind fun r901=>
  (I1 s459.cU r901).bind fun l902=>
  (Q6 40000000 b.cU (Ar.ar .add .i64 1 (Ar.len a.cT))).bind fun r903=>
  (I1 l902 r903).bind fun l904=>
  (S9 40000000 ({s459 with cU:=l904})).bind fun r906=>
  some (r906.1,r906.2))=some (Sd a b c,0):=fun c=>by
  have hok:=Wc (ZJ (c:=c) hsa hsb ht hfa hma hfb hmb);rw[L1 (by simp;omega)];simp only[A5];rw[L1 (by simp;omega),b1,en,b2];simp only[A5];rw[L1 (by omega)];simp only[A5];rw[s1];simp only[A5];rw[L1 (by simp only[I8];omega),s2];simp only[A5];rw[L1 (by simp only[I8];omega)];simp only[A5];rw[←eu];exact Q0 (fun o:Option (A0×Int)=>o.bind fun r=>some (r.1,r.2)) (Ka (s:=Sd a b c) (by omega))
 unfold CD;rw[Se,A1 ha,A1 hb,A1 ht];simp only[A5];rw[A3 (show¬cmp .neq (0:Int) 0=true by decide),ea,ga];simp only[A5]
 cases h:a.cT[0]'(by have:=hsa.fi;omega)with
 |true=>
  rw[A1 rfl,tail true];exact⟨true,rfl,by simp⟩
 |false=>
  rw[A3 (by simp),eb,gb];simp only[A5];rw[tail];exact⟨_,rfl,by simp⟩
def CnI (P:Int→Prop)(l:List A2):Prop:=Lt l∧l.length≤256∧∀n,Dg l n↔P n
def UI {N:Nat}{a b:List A2}{bel:Bool→Bool→Option Bool}{f:Bool→Bool→Bool}(hf:∀x y,bel x y=some (f x y))(hff:f false false=false)
 (ha:ck a=0) (hb:ck b=0) (hl:a.length+b.length≤100) (hN:2000<N) {P:Int→Prop} (hP:∀n x y,(x=true↔Dg a n)→(y=true↔Dg b n)→(f x y=true↔P n)):
 ∃r,W5 N a b bel=some (r,0)∧CnI P r∧r.length≤2*(a.length+b.length):=by
 obtain⟨r,h1,h2,h3,h4⟩:=ZM hf hff (Tb ha) (Tb hb) hN hP;refine⟨r,?_,⟨h2,by omega,h4⟩,h3⟩;unfold W5 Fv Bg;simp only[RB (show 256<N by omega),A5,ha,hb,N8,U9,M5,E2,D7,h1,U5,C9,B2];rw[A3 (by omega)];rfl
def Aq3 {N n:Nat} {set:Int→Option (List A2×Int)} {Q:Nat→List A2→Prop} (h:∀i,i<n→∃r,set (i:Int)=some (r,0)∧Q i r) (hn:n≤100000) (hN:n<N):
 ∃R,Bd N (n:Int) set=some (⟨R⟩,0)∧R.length=n∧∀(i:Nat) r,R[i]? =some r→Q i r:=by
 unfold Bd
 obtain⟨r,h1,h2⟩:=Y7 (N:=N) (l:=List.range n) (Q:=fun(t:B3⊕(Int×B3))=>∃R,t= .inl ⟨R⟩∧R.length=n∧∀(i:Nat) r,R[i]? =some r→Q i r)
  (I:=fun i (t:Int×B3)=>t.1=(i:Int)∧t.2.cX.length=i∧∀(k:Nat) r,t.2.cX[k]? =some r→Q k r)
  (s0:=((0:Int),(⟨[]⟩:B3)))
  (step:=fun(s3:Int×B3)=>
   (
    if cmp .lss s3.1 (n:Int)=true then
     (set s3.1).bind fun r6=>
     if cmp .neq r6.2 0=true then
      some (.inr (.inr (r6.2,s3.2)))
     else
      (I1 s3.2.cX ([r6.1])).bind fun l8=>
      some (.inl (Ar.ar .add .i64 s3.1 1,{s3.2 with cX:=l8}))
    else
     some (.inr (.inl s3.2))
    :Option ((Int×B3)⊕(B3⊕(Int×B3)))))
  (fun i x t hx hi ⟨e1,e2,e3⟩=>by
   obtain⟨j,⟨S⟩⟩:=t
   simp only at e1 e2 e3
   subst e1
   rw[Ah]at hi
   obtain⟨r,k1,k2⟩:=h i hi;simp only[C8,N8,k1,A5,B2,U9,M5,E2,D7];rw[A1 (by omega),L1 (by simp;omega),I6 hi (by omega)];refine⟨_,rfl,rfl,by simp[e2],fun k z hz=>?_⟩
   simp only at hz
   by_cases hk:k<S.length
   ·rw[Bx hk]at hz;exact e3 k z hz
   have hkl:=(List.getElem?_eq_some_iff.1 hz).1
   simp at hkl
   have:k=S.length:=by omega
   subst this
   simp at hz;subst hz;rw[e2];exact k2)
  (fun t ⟨e1,e2,e3⟩=>by
   obtain⟨j,⟨S⟩⟩:=t
   simp only at e1 e2 e3
   rw[Ah]at e1 e2
   subst e1;simp only[C8,B2];rw[A3 (by omega)]
   exact⟨_,rfl,S,rfl,e2,e3⟩) ⟨rfl,rfl,fun k r hr=>by simp at hr⟩ (by rw[Ah];exact hN)
 rw[h1];obtain⟨R,rfl,h3,h4⟩:=h2;exact⟨R,rfl,h3,h4⟩
def Xe {p:B3}(h:Lg p=0){i:Nat}{a:List A2}(ha:p.cX[i]? =some a):ck a=0:=by
 unfold Lg Jf at h
 split at h
 ·cases h
 rw[A3 (by simp)]at h
 exact EG.1 h i a ha
def Vf {N:Nat} {p q:B3} (hN:256<N):N7 N [p,q]=some (if Lg p=0 then Lg q else Lg p):=by
 rw[Qp hN (by simp;omega) (by simp)];simp only[fb]
 split
 ·split
  ·rename_i h;rw[h]
  rfl
 rfl
def Ak2 {x:A2}(h: -1099511627776≤x.Low∧x.Low≤x.cZ∧x.cZ≤1099511627776):fm x=0:=by
 unfold fm;rw[A3 (by omega),A3 (by omega)]
def Ak3 {l:List A2} (h:Zp l):ck l=0:=by
 unfold ck;rw[A3 (by have:=h.1;omega)];refine EG.2 fun k x hx=>?_;unfold fiq;have hxb:=h.2.1 x (G1 hx);rw[A1 (Ak2 hxb)]
 split
 ·rename_i hk
  split
  ·rename_i y hy;have:=h.2.2 (k-1) y x (by simpa using hy) (by rw[←hx];congr 1;omega);have hyb:=h.2.1 y (G1 hy);rw[M8 (by omega) (by omega),A3 (by omega)]
  rfl
 rfl
def Zq {p:B3}(h0:1≤p.cX.length∧p.cX.length≤16)(h:∀x∈p.cX,Zp x):Lg p=0:=by
 unfold Lg Jf;rw[A3 (by omega),A3 (by simp)];exact EG.2 fun k x hx=>Ak3 (h x (G1 hx))
def QR {N:Nat} {a b:List A2} (ha:ck a=0) (hb:ck b=0) (hl:a.length+b.length≤100) (hN:100000<N):
 ∃r,O2 N a b=some (r,0)∧CnI (fun n=>Dg a n∧Dg b n) r:=by
 obtain⟨r,h1,h2,h3⟩:=UI (N:=N) (bel:=fun y1 y2=>X4 N y1 y2) (f:=fun x y=>x&&y) (fun x y=>rfl) rfl ha hb hl (by omega) (P:=fun n=>Dg a n∧Dg b n) (fun n x y h k=>by
  rw[←h,←k,H7])
 refine⟨r,?_,h2⟩;unfold O2;rw[h1];rfl
def An2 {t:Int}{p:B3}(h:Lg p=0)(ht:(p.cX.length:Int)=t):Jf t p=0:=by subst ht;exact h
def Ra (p:B3):Prop:=∀x∈p.cX,x.length≤12
def Xd {t:Int} {p q:B3} (hp:Jf t p=0) (hq:Jf t q=0) (sp:Ra p) (sq:Ra q):
 ∃r,AS 40000000 p q=some (r,0)∧Jf t r=0∧∀x,Vu r x=true↔Vu p x=true∧Vu q x=true:=by
 obtain⟨lp,op⟩:=Gy hp;obtain⟨lq,oq⟩:=Gy hq;have hlen:=(DZ op).1
 obtain⟨R,k1,k2,k3⟩:=Aq3 (N:=40000000) (n:=p.cX.length) (set:=fun y1=>Ag 40000000 y1 (fun y1 y2=>O2 40000000 y1 y2) p q)
  (Q:=fun i r=>∀a b,p.cX[i]? =some a→q.cX[i]? =some b→CnI (fun n=>Dg a n∧Dg b n) r)
  (fun i hi=>by
   have ha:=D5 hi;have hb:=D5 (show i<q.cX.length by omega);have:=sp _ (G1 ha);have:=sq _ (G1 hb);obtain⟨r,e1,e2⟩:=QR (N:=40000000) (Xe op ha) (Xe oq hb) (by omega) (by decide);refine⟨r,?_,fun a b ha' hb'=>?_⟩
   ·unfold Ag;simp only[E7,ha,hb,A5,e1]
   rw[ha]at ha';cases ha';rw[hb]at hb';cases hb'
   exact e2) (by omega) (by omega)
 refine⟨⟨R⟩,?_,An2 (Zq (by show 1≤R.length∧R.length≤16;omega) fun x hx=>?_) (by show(R.length:Int)=t;omega),fun x=>?_⟩
 ·unfold AS Ev;rw[Vf (by decide)];simp only[A5,N8,C9,op,oq,D1];have hd:decide ((p.cX.length:Int)=(q.cX.length:Int))=true:=FD (by omega);simp only[hd,U9,M5,E2,D7,k1,A5]
 ·obtain⟨i,hi⟩:=L8 hx;have hil:=(List.getElem?_eq_some_iff.1 hi).1;have hil:i<R.length:=hil;have:=k3 i x hi _ _ (D5 (show i<p.cX.length by omega)) (D5 (show i<q.cX.length by omega));exact this.1.srt this.2.1
 rw[KA,KA,KA];unfold InP
 constructor
 ·rintro⟨h0,c,hc,hn⟩;have hil:=(List.getElem?_eq_some_iff.1 hc).1;have hil:x.Typ.toNat<R.length:=hil;have ha:=D5 (show x.Typ.toNat<p.cX.length by omega);have hb:=D5 (show x.Typ.toNat<q.cX.length by omega);have:=(k3 _ c hc _ _ ha hb).2.2 x.Num;obtain⟨n1,n2⟩:=this.1 hn;exact⟨⟨h0,_,ha,n1⟩,h0,_,hb,n2⟩
 rintro⟨⟨h0,a,ha,n1⟩,_,b,hb,n2⟩;have hil:=(List.getElem?_eq_some_iff.1 ha).1;have hc:R[x.Typ.toNat]? =some R[x.Typ.toNat]:=D5 (by omega);exact⟨h0,_,hc,((k3 _ _ hc _ _ ha hb).2.2 x.Num).2 ⟨n1,n2⟩⟩
end Go.Ab
namespace Go.Ab
noncomputable section
abbrev PS:=A0×List D4×List (D4×Int)
def prI (N:Nat) (i:Int) (m:B5) (s37:PS) (y36:B5):Option (PS⊕(A0×(List D4)×(List (D4×Int))×Int)):=
 (AS N m.On y36.On).bind fun r44=>
 if cmp .neq r44.2 0=true then
  some (.inr (s37.1,s37.2.1,s37.2.2,r44.2))
 else
  (O5 N r44.1).bind fun r45=>
  if r45=true then
   some (.inl (s37.1,s37.2.1,s37.2.2))
  else
   (Ay s37.2.2 (⟨m.To,y36.To⟩:D4) (0:Int)).bind fun r46=>
   ((
    if Ar.nt r46.2=true then
     (BC s37.2.2 (⟨m.To,y36.To⟩:D4) (Ar.len s37.2.1)).bind fun l49=>
     (I1 s37.2.1 ([(⟨m.To,y36.To⟩:D4)])).bind fun l51=>
     some (Ar.len s37.2.1,l51,l49)
    else
     some (r46.1,s37.2.1,s37.2.2)
   ):Option ((Int×(List D4)×(List (D4×Int))))).bind fun s47=>
   (I1 s37.1.cU ([(⟨i,s47.1,r44.1⟩:B5)])).bind fun l55=>
   some (.inl ({s37.1 with cU:=l55},s47.2.1,s47.2.2))
def prO (N:Nat) (aD:A0) (i:Int) (e1:Int) (s27:PS) (y26:B5):Option (PS⊕(A0×(List D4)×(List (D4×Int))×Int)):=
 (K2 N aD e1).bind fun r34=>
 (J2 (fun(s37:PS) (y36:B5)=>prI N i y26 s37 y36) r34 (s27.1,s27.2.1,s27.2.2)).bind fun o43=>
 match o43 with
 | .inl s61=>
  some (.inl (s61.1,s61.2.1,s61.2.2))
 | .inr y65=>
  some (.inr (y65.1,y65.2.1,y65.2.2.1,y65.2.2.2))
def prR (N:Nat) (aC aD:A0) (s12:Int×PS) (x19:D4) (l23:List Bool):Option ((Int×PS)⊕((Int×PS)⊕(Int×A0×(List D4)×(List (D4×Int))×Int))):=
 (K2 N aC x19.E0).bind fun r24=>
 (J2 (fun(s27:PS) (y26:B5)=>prO N aD s12.1 x19.E1 s27 y26) r24 ({s12.2.1 with cT:=l23},s12.2.2.1,s12.2.2.2)).bind fun o33=>
 match o33 with
 | .inl s74=>
  if Ar.or (cmp .gtr (Ar.len s74.2.1) 256) (cmp .gtr (Ar.len s74.1.cU) 2048)=true then
   some (.inr (.inr (s12.1,s74.1,s74.2.1,s74.2.2,5)))
  else
   some (.inl (Ar.ar .add .i64 s12.1 1,s74.1,s74.2.1,s74.2.2))
 | .inr y79=>
  some (.inr (.inr (s12.1,y79.1,y79.2.1,y79.2.2.1,y79.2.2.2)))
def pqS (N:Nat) (aC aD:A0) (s12:Int×PS):Option ((Int×PS)⊕((Int×PS)⊕(Int×A0×(List D4)×(List (D4×Int))×Int))):=
 if cmp .lss s12.1 (Ar.len s12.2.2.1)=true then
  (C6 s12.2.2.1 s12.1).bind fun x19=>
  (C6 aC.cT x19.E0).bind fun x20=>
  if x20=true then
   (C6 aD.cT x19.E1).bind fun x21=>
   (I1 s12.2.1.cT ([x21])).bind fun l23=>prR N aC aD s12 x19 l23
  else
   (I1 s12.2.1.cT ([false])).bind fun l84=>prR N aC aD s12 x19 l84
 else
  some (.inr (.inl (s12.1,s12.2.1,s12.2.2.1,s12.2.2.2)))
def Uk (N:Nat) (a b:A0):Ac N a b=(W7 N a b).bind fun r3=>
 if cmp .neq r3 0=true then
  some ((⟨0,[],[]⟩:A0),r3)
 else
  (BC ([]:List (D4×Int)) (⟨0,0⟩:D4) 0).bind fun l7=>
  (loopN (fun s12=>pqS N a b s12) N (0,(⟨a.cV,[],[]⟩:A0),[(⟨0,0⟩:D4)],l7)).bind fun s18=>
  match s18 with
  | .inl y144=>
   some (y144.2.1,0)
  | .inr y150=>
   some ((⟨0,[],[]⟩:A0),y150.2.2.2.2):=rfl
def MOk (M:List (D4×Int))(Q:List D4):Prop:=∀q v,(q,v)∈M↔∃k:Nat,v=(k:Int)∧Q[k]? =some q
def XD {M:List (D4×Int)} {Q:List D4} (h:MOk M Q) (q:D4):(∃k:Nat,Q[k]? =some q∧Ay M q (0:Int)=some ((k:Int),true))∨(q∉Q∧Ay M q (0:Int)=some (0,false)):=by
 unfold Ay
 cases hf:M.find? (fun p=>decide (p.1=q))with
 |none=>
  refine .inr ⟨fun hq=>?_,rfl⟩;obtain⟨k,hk⟩:=L8 hq;have:=List.find?_eq_none.1 hf _ ((h q (k:Int)).2 ⟨k,rfl,hk⟩)
  simp at this
 |some p=>
  have h1:=EU hf;have h2:=FF hf
  simp only[B2]at h2
  obtain⟨p1,p2⟩:=p
  dsimp only at h2
  subst h2;obtain⟨k,rfl,hk⟩:=(h _ _).1 h1;exact .inl ⟨k,hk,rfl⟩
def WU {M:List (D4×Int)} {Q:List D4} (h:MOk M Q) {q:D4} (hq:q∉Q):∃M',BC M q ((Q.length:Nat):Int)=some M'∧MOk M' (Q++[q]):=by
 refine⟨M++[(q,(Q.length:Int))],?_,fun q' v=>?_⟩
 ·unfold BC;rw[A3];simp only[DP,B2];rintro⟨p,hp,e⟩;obtain⟨k,_,hk⟩:=(h p.1 p.2).1 hp;exact hq (by rw[←e];exact G1 hk)
 rw[AK,M6,h]
 constructor
 ·rintro(⟨k,e,hk⟩|e)
  ·exact⟨k,e,by rw[Bx (List.getElem?_eq_some_iff.1 hk).1];exact hk⟩
  cases e;exact⟨Q.length,rfl,by simp⟩
 rintro⟨k,e,hk⟩
 by_cases hkl:k<Q.length
 ·rw[Bx hkl]at hk
  exact .inl ⟨k,e,hk⟩
 rw[GL (by omega)]at hk
 have h0:k-Q.length=0:=by
  have:=(List.getElem?_eq_some_iff.1 hk).1
  simp at this;omega
 rw[h0]at hk
 simp at hk
 subst hk;exact .inr (by rw[e,show k=Q.length by omega])
def Snd (a b:A0)(Q:List D4)(z:B5):Prop:=∃(i k:Nat) (q q':D4),Q[i]? =some q∧Q[k]? =some q'∧z.cW=(i:Int)∧z.To=(k:Int)∧Jf a.cV z.On=0∧∀x,Vu z.On x=true→(∃m∈a.cU,m.cW=q.E0∧m.To=q'.E0∧Vu m.On x=true)∧∃n∈b.cU,n.cW=q.E1∧n.To=q'.E1∧Vu n.On x=true
def Cmp (i:Nat)(m n:B5)(s:PS):Prop:=∀x,Vu m.On x=true→Vu n.On x=true→∃z∈s.1.cU,z.cW=(i:Int)∧Vu z.On x=true∧∃k:Nat,z.To=(k:Int)∧s.2.1[k]? =some ⟨m.To,n.To⟩
structure XQ (s t:PS):Prop where
 mv:∃u,t.1.cU=s.1.cU++u
 q:∃v,t.2.1=s.2.1++v
 ty:t.1.cV=s.1.cV
 fi:t.1.cT=s.1.cT
theorem XQ.refl (s:PS):XQ s s:=⟨⟨[],by simp⟩,⟨[],by simp⟩,rfl,rfl⟩
def XQ.trans {s t r:PS}(h:XQ s t)(g:XQ t r):XQ s r:=by
 obtain⟨u,hu⟩:=h.mv;obtain⟨u',hu'⟩:=g.mv;obtain⟨v,hv⟩:=h.q;obtain⟨v',hv'⟩:=g.q;exact⟨⟨u++u',by rw[hu',hu,F6]⟩,⟨v++v',by rw[hv',hv,F6]⟩,g.ty.trans h.ty,g.fi.trans h.fi⟩
def Ha {Q v:List D4}{k:Nat}{q:D4}(h:Q[k]? =some q):(Q++v)[k]? =some q:=by
 rw[Bx (List.getElem?_eq_some_iff.1 h).1];exact h
def Cmp.ext {i:Nat}{m n:B5}{s t:PS}(h:Cmp i m n s)(e:XQ s t):Cmp i m n t:=fun x h1 h2=>by
 obtain⟨z,hz,f,c,k,hk,hq⟩:=h x h1 h2;obtain⟨u,hu⟩:=e.mv;obtain⟨v,hv⟩:=e.q;exact⟨z,by rw[hu];exact R6 _ hz,f,c,k,hk,by rw[hv];exact Ha hq⟩
def Snd.ext {a b:A0}{Q v:List D4}{z:B5}(h:Snd a b Q z):Snd a b (Q++v) z:=by
 obtain⟨i,k,q,q',h1,h2,r⟩:=h;exact⟨i,k,q,q',Ha h1,Ha h2,r⟩
structure PW (a b:A0) (s:PS):Prop where
 nd:s.2.1.Nodup
 rg:∀q∈s.2.1,(0≤q.E0∧q.E0<(a.cT.length:Int))∧0≤q.E1∧q.E1<(b.cT.length:Int)
 mp:MOk s.2.2 s.2.1
 snd:∀z∈s.1.cU,Snd a b s.2.1 z
def Ac8 {n:Nat}:∀{l:List Nat},l.Nodup→(∀x∈l,x<n)→l.length≤n:=Kk
def PW.len {a b:A0} {s:PS} (h:PW a b s):s.2.1.length≤a.cT.length*b.cT.length:=by
 have hn:(s.2.1.map fun q=>q.E0.toNat*b.cT.length+q.E1.toNat).Nodup:=by
  unfold List.Nodup;rw[JA];refine JK (fun{p q} hp hq hne e=>hne ?_) h.nd;have r1:=h.rg p hp;have r2:=h.rg q hq
  have hb:p.E1.toNat<b.cT.length:=by omega
  have hb':q.E1.toNat<b.cT.length:=by omega
  have d1:(p.E0.toNat*b.cT.length+p.E1.toNat) / b.cT.length=p.E0.toNat:=by
   rw[Hk,Nat.mul_add_div (by omega),Jx hb];omega
  have d2:(q.E0.toNat*b.cT.length+q.E1.toNat) / b.cT.length=q.E0.toNat:=by
   rw[Hk,Nat.mul_add_div (by omega),Jx hb'];omega
  have e0:p.E0.toNat=q.E0.toNat:=by rw[←d1,←d2,e]
  have e1:p.E1.toNat=q.E1.toNat:=by rw[e0]at e;omega
  obtain⟨p0,p1⟩:=p;obtain⟨q0,q1⟩:=q
  dsimp only at *
  rw[show p0=q0 by omega,show p1=q1 by omega]
 have:=Ac8 (n:=a.cT.length*b.cT.length) hn fun x hx=>by
  obtain⟨q,hq,rfl⟩:=List.mem_map.1 hx;have r:=h.rg q hq;have:(q.E0.toNat+1)*b.cT.length≤a.cT.length*b.cT.length:=J7 _ (by omega)
  rw[G5]at this
  omega
 simpa using this
structure AB (a b:A0):Prop where
 oa:Jc a
 ob:Jc b
 ty:a.cV=b.cV
 fa:a.cT.length≤8
 fb:b.cT.length≤8
 ma:a.cU.length≤16
 mb:b.cU.length≤16
 sa:∀m∈a.cU,Ra m.On
 sb:∀m∈b.cU,Ra m.On
def An1 {a b:A0} (hab:AB a b) {i:Nat} {q:D4} {s:PS} (hw:PW a b s) (hi:s.2.1[i]? =some q) (hl:s.1.cU.length≤100000) {m n:B5} (hm:m∈a.cU) (hmf:m.cW=q.E0) (hn:n∈b.cU) (hnf:n.cW=q.E1):
 ∃t,prI 40000000 (i:Int) m s n=some (.inl t)∧PW a b t∧XQ s t∧t.1.cU.length≤s.1.cU.length+1∧Cmp i m n t:=by
 obtain⟨pm1,pm2⟩:=hab.oa.each m hm;obtain⟨pn1,pn2⟩:=hab.ob.each n hn;obtain⟨r,e1,e2,e3⟩:=Xd pm2 (by rw[hab.ty];exact pn2) (hab.sa m hm) (hab.sb n hn);have hql:=hw.len;have hab2:a.cT.length*b.cT.length≤8*8:=V3 hab.fa hab.fb;unfold prI;rw[e1];simp only[A5];rw[A3 (show¬cmp .neq (0:Int) 0=true by decide),JU (by omega) e2];simp only[A5]
 by_cases hv:vd r=true
 ·rw[A1 hv];refine⟨_,rfl,hw,.refl s,by dsimp only;omega,fun x h1 h2=>?_⟩;have:=Ax3 ((e3 x).2 ⟨h1,h2⟩)
  rw[this]at hv;cases hv
 rw[A3 hv]
 have key:∀(k:Nat) (Q':List D4) (M':List (D4×Int)) (v:List D4),(∀y∈v,y=⟨m.To,n.To⟩)→Q'=s.2.1++v→Q'[k]? =some ⟨m.To,n.To⟩→MOk M' Q'→Q'.Nodup→
  PW a b ({s.1 with cU:=s.1.cU++[⟨(i:Int),(k:Int),r⟩]},Q',M')∧XQ s ({s.1 with cU:=s.1.cU++[⟨(i:Int),(k:Int),r⟩]},Q',M')∧Cmp i m n ({s.1 with cU:=s.1.cU++[⟨(i:Int),(k:Int),r⟩]},Q',M'):=by
  rintro k Q' M' v hv2 rfl hk hM hnd;refine⟨⟨hnd,fun q' hq'=>?_,hM,fun z hz=>?_⟩,⟨⟨_,rfl⟩,⟨v,rfl⟩,rfl,rfl⟩,fun x h1 h2=>⟨⟨(i:Int),(k:Int),r⟩,by simp,rfl,(e3 x).2 ⟨h1,h2⟩,k,rfl,hk⟩⟩
  ·rcases List.mem_append.1 hq' with h|h
   ·exact hw.rg q' h
   rw[hv2 q' h];exact⟨pm1.2,pn1.2⟩
  rcases List.mem_append.1 hz with h|h
  ·exact(hw.snd z h).ext
  rw[M6]at h
  subst h;refine⟨i,k,q,⟨m.To,n.To⟩,Ha hi,hk,rfl,rfl,e2,fun x hx=>?_⟩;obtain⟨h1,h2⟩:=(e3 x).1 hx;exact⟨⟨m,hm,hmf,rfl,h1⟩,n,hn,hnf,rfl,h2⟩
 rcases XD hw.mp ⟨m.To,n.To⟩with⟨k,hk,eg⟩|⟨hnq,eg⟩
 ·rw[eg];simp only[A5,Ao,M5,E2,D7];rw[L1 (by simp;omega)];simp only[A5];obtain⟨k1,k2,k3⟩:=key k s.2.1 s.2.2 [] (fun y h=>by cases h) (by simp) hk hw.mp hw.nd;exact⟨_,rfl,k1,k2,by simp,k3⟩
 rw[eg];simp only[A5,Ao,V4,D1];obtain⟨M',em,hM'⟩:=WU hw.mp hnq;rw[C9,em];simp only[A5];rw[L1 (by simp;omega)];simp only[A5];rw[L1 (by simp;omega)];simp only[A5]
 have hnd:(s.2.1++[(⟨m.To,n.To⟩:D4)]).Nodup:=by
  rw[DU];exact⟨hw.nd,by simp,fun x hx y hy=>by rw[M6]at hy;subst hy;rintro rfl;exact hnq hx⟩
 obtain⟨k1,k2,k3⟩:=key s.2.1.length (s.2.1++[⟨m.To,n.To⟩]) M' [⟨m.To,n.To⟩] (fun y h=>List.mem_singleton.1 h) rfl (by simp) hM' hnd;exact⟨_,rfl,k1,k2,by simp,k3⟩
def cm (l:List B5)(k:Int):List B5:=l.filter fun m=>decide (m.cW=k)
def Nw {l:List B5}{k:Int}{m:B5}:m∈cm l k↔m∈l∧m.cW=k:=by unfold cm;simp
def Nx (l:List B5)(k:Int):(cm l k).length≤l.length:=FN _ _
def OM {a b:A0} (hab:AB a b) {i:Nat} {q:D4} {m:B5} (hm:m∈a.cU) (hmf:m.cW=q.E0):∀(ns:List B5) (s:PS),(∀n∈ns,n∈b.cU∧n.cW=q.E1)→PW a b s→s.2.1[i]? =some q→s.1.cU.length+ns.length≤100000→
 ∃t,J2 (fun(s37:PS) (y36:B5)=>prI 40000000 (i:Int) m s37 y36) ns s=some (.inl t)∧PW a b t∧XQ s t∧t.1.cU.length≤s.1.cU.length+ns.length∧∀n∈ns,Cmp i m n t
 |[],s,_,hw,_,_=>⟨s,rfl,hw,.refl s,by simp,fun n h=>by cases h⟩
 |n::ns,s,hn,hw,hi,hl=>by
  rw[N3]at hl
  obtain⟨h1,h2⟩:=hn n (by simp);obtain⟨t,e1,w1,x1,l1,c1⟩:=An1 hab hw hi (by omega) hm hmf h1 h2;obtain⟨v,hv⟩:=x1.q;obtain⟨r,e2,w2,x2,l2,c2⟩:=OM hab hm hmf ns t (fun y hy=>hn y (Y5 _ hy)) w1 (by rw[hv];exact Ha hi) (by omega);refine⟨r,?_,w2,x1.trans x2,by rw[N3];omega,fun y hy=>?_⟩
  ·rw[J2];simp only[e1,A5,e2]
  rcases List.mem_cons.1 hy with rfl|hy
  ·exact c1.ext x2
  exact c2 y hy
def SB {a b:A0} (hab:AB a b) {i:Nat} {q:D4}:∀(ms:List B5) (s:PS),(∀m∈ms,m∈a.cU∧m.cW=q.E0)→PW a b s→s.2.1[i]? =some q→s.1.cU.length+ms.length*16≤100000→
 ∃t,J2 (fun(s27:PS) (y26:B5)=>prO 40000000 b (i:Int) q.E1 s27 y26) ms s=some (.inl t)∧PW a b t∧XQ s t∧t.1.cU.length≤s.1.cU.length+ms.length*(cm b.cU q.E1).length∧∀m∈ms,∀n∈b.cU,n.cW=q.E1→Cmp i m n t
 |[],s,_,hw,_,_=>⟨s,rfl,hw,.refl s,by simp,fun n h=>by cases h⟩
 | m::ms,s,hm,hw,hi,hl=>by
  rw[N3]at hl
  obtain⟨h1,h2⟩:=hm m (by simp);have hcl:=Nx b.cU q.E1;have hb:=hab.mb;obtain⟨t,e1,w1,x1,l1,c1⟩:=OM hab h1 h2 (cm b.cU q.E1) s (fun n hn=>Nw.1 hn) hw hi (by omega);obtain⟨v,hv⟩:=x1.q;obtain⟨r,e2,w2,x2,l2,c2⟩:=SB hab ms t (fun y hy=>hm y (Y5 _ hy)) w1 (by rw[hv];exact Ha hi) (by omega);refine⟨r,?_,w2,x1.trans x2,?_,fun y hy n hn hnf=>?_⟩
  ·have ef:K2 40000000 b q.E1=some (cm b.cU q.E1):=OR (by omega) (by omega)
   have e0:prO 40000000 b (i:Int) q.E1 s m=some (.inl t):=by
    unfold prO;rw[ef];simp only[A5];rw[e1];rfl
   rw[J2];simp only[e0,A5,e2]
  ·rw[N3,G5];omega
  rcases List.mem_cons.1 hy with rfl|hy
  ·exact(c1 n (Nw.2 ⟨hn,hnf⟩)).ext x2
  exact c2 y hy n hn hnf
def cq (a b:A0)(q:D4):Nat:=(cm a.cU q.E0).length*(cm b.cU q.E1).length
def prs (a b:List B5):List (B5×B5):=a.flatMap fun m=>b.map fun n=>(m,n)
def My (q:D4)(p:B5×B5):Bool:=decide (p.1.cW=q.E0)&&decide (p.2.cW=q.E1)
def WZ (b:List B5):∀a:List B5,(prs a b).length=a.length*b.length
 |[]=>by simp[prs]
 |m::a=>by
  have:=WZ b a
  unfold prs at *
  rw[Dx,I8,this,N2,N3,G5];omega
def Xb (b:List B5) (q:D4):∀a:List B5,((prs a b).filter (My q)).length=(cm a q.E0).length*(cm b q.E1).length
 |[]=>by simp[prs,cm]
 | m::a=>by
  have:=Xb b q a
  unfold prs at *
  rw[Dx,List.filter_append,I8,this]
  have e:((b.map fun n=>(m,n)).filter (My q)).length=if m.cW=q.E0 then(cm b q.E1).length else 0:=by
   rw[List.filter_map,N2]
   by_cases h:m.cW=q.E0
   ·rw[A1 h];unfold cm
    congr 1
    refine List.filter_congr fun n _=>?_;simp[My,h]
   rw[A3 h];rw[List.length_eq_zero_iff,List.filter_eq_nil_iff];intro n _;simp[My,h]
  rw[e]
  by_cases h:m.cW=q.E0
  ·rw[A1 h,show cm (m::a) q.E0=m::cm a q.E0 by unfold cm;simp[h],N3,G5];omega
  rw[A3 h,show cm (m::a) q.E0=cm a q.E0 by unfold cm;simp[h]];omega
def UR {α:Type} (P:α→Bool):∀L:List α,(L.filter P).length+(L.filter fun p=> !P p).length=L.length
 |[]=>rfl
 |x::L=>by
  have:=UR P L;rw[FG,FG];cases P x<;>simp<;>omega
def WR:∀(Q:List D4),Q.Nodup→∀L:List (B5×B5),(Q.map fun q=>(L.filter (My q)).length).sum≤L.length
 |[],_,L=>by simp
 | q ::Q,hn,L=>by
  rw[Ho]at hn
  have ih:=WR Q hn.2 (L.filter fun p=> !My q p)
  have e:(Q.map fun r=>(L.filter (My r)).length)=Q.map fun r=>((L.filter fun p=> !My q p).filter (My r)).length:=by
   refine Cp fun r hr=>?_;rw[List.filter_filter]
   congr 1
   refine List.filter_congr fun p _=>?_
   by_cases h:My r p=true
   ·have:My q p=false:=by
     rw[Bool.eq_false_iff];intro h2
     simp only[My,H7,B2]at h h2
     have:q=r:=by
      obtain⟨q0,q1⟩:=q;obtain⟨r0,r1⟩:=r
      dsimp only at *
      rw[←h.1,←h.2,h2.1,h2.2]
     exact hn.1 (this▸hr)
    simp[h,this]
   simp[h]
  rw[G2,Jk,e];have:=UR (My q) L;omega
def TC {Q:List D4} {f:D4→Nat}:∀(Q:List D4) (i:Nat),((Q.take i).map f).sum≤(Q.map f).sum
 |[],i=>by simp
 |q::Q,0=>by simp
 |q::Q,i+1=>by
  have:=TC (Q:=Q) (f:=f) Q i;simp only[JF,G2,Jk];omega
def SX {a b:A0}(hab:AB a b){Q:List D4}(hn:Q.Nodup)(i:Nat):((Q.take i).map (cq a b)).sum≤256:=by
 have h1:=TC (Q:=Q) (f:=cq a b) Q i;have h2:=WR Q hn (prs a.cU b.cU)
 rw[WZ]at h2
 have h3:a.cU.length*b.cU.length≤16*16:=V3 hab.ma hab.mb;have e:(Q.map fun q=>((prs a.cU b.cU).filter (My q)).length)=Q.map (cq a b):=Cp fun q _=>Xb b.cU q a.cU
 rw[e]at h2
 omega
def QS (a b:A0)(q:D4):Bool:=decide (a.cT[q.E0.toNat]? =some true)&&decide (b.cT[q.E1.toNat]? =some true)
structure MI (a b:A0) (i:Nat) (s:PS):Prop where
 w:PW a b s
 ty:s.1.cV=a.cV
 fi:s.1.cT=(s.2.1.take i).map (QS a b)
 le:i≤s.2.1.length
 mv:s.1.cU.length≤((s.2.1.take i).map (cq a b)).sum
 hd:s.2.1[0]? =some ⟨0,0⟩
 cp:∀i'<i,∀q,s.2.1[i']? =some q→∀m∈a.cU,m.cW=q.E0→∀n∈b.cU,n.cW=q.E1→Cmp i' m n s
def Aw4 {a b:A0} (hab:AB a b) {i:Nat} {s:PS} (h:MI a b i s) {q:D4} (hq:s.2.1[i]? =some q):∃t,(prR 40000000 a b ((i:Int),s) q (s.1.cT++[QS a b q])=some (.inl (((i+1:Nat):Int),t))∧J2 (fun(s27:PS) (y26:B5)=>prO 40000000 b (i:Int) q.E1 s27 y26) (cm a.cU q.E0) ({s.1 with cT:=s.1.cT++[QS a b q]},s.2.1,s.2.2)=some (.inl t))∧MI a b (i+1) t:=by
 have hil:=(List.getElem?_eq_some_iff.1 hq).1;have hc1:=SX hab h.w.nd i;have hma:=hab.ma;have hcl:=Nx a.cU q.E0;have hmv:=h.mv;obtain⟨t,e1,w1,x1,l1,c1⟩:=SB hab (i:=i) (q:=q) (cm a.cU q.E0) ({s.1 with cT:=s.1.cT++[QS a b q]},s.2.1,s.2.2) (fun m hm=>Nw.1 hm) ⟨h.w.nd,h.w.rg,h.w.mp,h.w.snd⟩ hq (by dsimp only;omega);have hc2:=SX hab w1.nd (i+1);obtain⟨v,hv⟩:=x1.q
 dsimp only at hv
 have htk:t.2.1.take i=s.2.1.take i:=by rw[hv,Iv (by omega)]
 have hti:t.2.1[i]? =some q:=by rw[hv];exact Ha hq
 have htk1:t.2.1.take (i+1)=s.2.1.take i++[q]:=by rw[Cn,htk,hti];rfl
 have hmv2:t.1.cU.length≤((t.2.1.take (i+1)).map (cq a b)).sum:=by
  rw[htk1,AL,List.sum_append];simp only[G2,J3,Jk,List.sum_nil]
  dsimp only at l1
  unfold cq at *
  omega
 have hql:=w1.len;have hqs:=h.w.len;have hab2:a.cT.length*b.cT.length≤8*8:=V3 hab.fa hab.fb;refine⟨t,⟨?_,e1⟩,w1,x1.ty.trans h.ty,?_,?_,hmv2,?_,?_⟩
 ·unfold prR;have ef:K2 40000000 a q.E0=some (cm a.cU q.E0):=OR (by omega) (by omega);rw[ef];simp only[A5];rw[e1];simp only[A5];rw[A3 (by simp[U5,GT,C9];omega),M8 (by omega) (by omega)];rfl
 ·rw[x1.fi,htk1,AL,←h.fi];rfl
 ·rw[hv,I8];omega
 ·rw[hv];exact Ha h.hd
 intro i' hi' q' hq' m hm hmf n hn hnf
 by_cases hii:i'=i
 ·subst hii
  rw[hti]at hq';cases hq'
  exact c1 m (Nw.2 ⟨hm,hmf⟩) n hn hnf
 have:s.2.1[i']? =some q':=by
  rw[hv,Bx (by omega)]at hq';exact hq'
 have hc:=h.cp i' (by omega) q' this m hm hmf n hn hnf;have x2:XQ s ({s.1 with cT:=s.1.cT++[QS a b q]},s.2.1,s.2.2)→True:=fun _=>trivial;intro x h1 h2;obtain⟨z,hz,f,c,k,hk,hqk⟩:=hc x h1 h2;obtain⟨u,hu⟩:=x1.mv;exact⟨z,by rw[hu];exact R6 _ hz,f,c,k,hk,by rw[hv];exact Ha hqk⟩
def Xc {a b:A0}(hab:AB a b){s:PS}(h:MI a b s.2.1.length s):Jc s.1:=by
 have hl:s.1.cT.length=s.2.1.length:=by rw[h.fi,N2,Cl]
 have hql:=h.w.len;have hab2:a.cT.length*b.cT.length≤8*8:=V3 hab.fa hab.fb;have h1:=(List.getElem?_eq_some_iff.1 h.hd).1;have hc:=SX hab h.w.nd s.2.1.length;have hm:=h.mv;refine⟨by rw[h.ty];exact hab.oa.ty,by omega,by omega,fun z hz=>?_⟩;obtain⟨i,k,q,q',hi,hk,f,t,p,_⟩:=h.w.snd z hz;have:=(List.getElem?_eq_some_iff.1 hi).1;have:=(List.getElem?_eq_some_iff.1 hk).1;rw[hl,h.ty];exact⟨by omega,p⟩
end
end Go.Ab
namespace Go.Ab
open Classical
noncomputable section
def Lv (s:A0)(S:List (Int×Bool))(n:Nat):Prop:=(∃d,OV s n d)∧((n:Int),true)∈S
def tb (s:A0)(S:List (Int×Bool))(k:Int):Bool:=decide (∃n:Nat,k=(n:Int)∧Lv s S n)
def kp (s:A0)(S:List (Int×Bool))(i:Nat):List Nat:=(List.range i).filter fun k=>decide (k=0∨Lv s S k)
def Zk (T:List (Int×Int))(K:List Nat):Prop:=∀k v,(k,v)∈T↔∃j n:Nat,k=(n:Int)∧v=(j:Int)∧K[j]? =some n
def EF (s:A0)(K:List Nat):List Bool:=K.map fun k=>decide (s.cT[k]? =some true)
section
variable {s:A0}{M:List (Int×Int)}{S:List (Int×Bool)}
def MZ {N:Nat} (hM:As3 s M) (hS:NB s [] S) (k:Int):P8 N k M S=some (tb s S k):=by
 unfold P8
 by_cases h:∃v,(k,v)∈M
 ·obtain⟨v,hv⟩:=h;obtain⟨j,d,e2,_,h2⟩:=(hM.mem k v).1 hv;rw[Nq hM.mp hv];simp only[A5,D1]
  by_cases hin:(k,true)∈S
  ·rw[Ag3 hS.tru hin];simp only[A5]
   have:tb s S k=true:=by unfold tb;exact FD ⟨j,e2,⟨d,h2⟩,by rw[←e2];exact hin⟩
   rw[this]
  obtain⟨g1,_⟩:=XC hS.tru hin;rw[g1];simp only[A5]
  have:tb s S k=false:=by
   unfold tb;refine Cw ?_;rintro⟨n,e,h3,h4⟩;exact hin (by rw[e];exact h4)
  rw[this]
 rw[RE fun v hv=>h ⟨v,hv⟩];simp only[A5,E2,D7]
 have:tb s S k=false:=by
  unfold tb;refine Cw ?_;rintro⟨n,e,⟨d,h3⟩,h4⟩;exact h ⟨(d:Int),(hM.mem k d).2 ⟨n,d,e,rfl,h3⟩⟩
 rw[this]
def Au0 {i n:Nat}(h:n∈kp s S i):n<i:=by
 unfold kp at h
 exact List.mem_range.1 (List.mem_filter.1 h).1
def HI (i:Nat):kp s S (i+1)=kp s S i++if i=0∨Lv s S i then[i]else[]:=by
 unfold kp;rw[List.range_succ,List.filter_append]
 congr 1
 by_cases h:i=0∨Lv s S i
 ·rw[A1 h];simp[h]
 rw[A3 h];simp[h]
def Zk.snoc {T:List (Int×Int)} {K:List Nat} (h:Zk T K) {i:Nat} (hi:∀n∈K,n<i):BC T (i:Int) ((K.length:Nat):Int)=some (T++[((i:Int),(K.length:Int))])∧Zk (T++[((i:Int),(K.length:Int))]) (K++[i]):=by
 constructor
 ·unfold BC;rw[A3];simp only[DP,B2];rintro⟨p,hp,e⟩;obtain⟨j,n,h1,h2,h3⟩:=(h p.1 p.2).1 hp;have:=hi n (G1 h3);omega
 intro k v;rw[AK,M6,h]
 constructor
 ·rintro(⟨j,n,h1,h2,h3⟩|e)
  ·exact⟨j,n,h1,h2,by rw[Bx (List.getElem?_eq_some_iff.1 h3).1];exact h3⟩
  cases e;exact⟨K.length,i,rfl,rfl,by simp⟩
 rintro⟨j,n,h1,h2,h3⟩
 by_cases hj:j<K.length
 ·rw[Bx hj]at h3
  exact .inl ⟨j,n,h1,h2,h3⟩
 rw[GL (by omega)]at h3
 have h0:j-K.length=0:=by
  have:=(List.getElem?_eq_some_iff.1 h3).1
  simp at this;omega
 rw[h0]at h3
 simp at h3
 subst h3;exact .inr (by rw[h1,h2,show j=K.length by omega])
def Zk.get {T:List (Int×Int)} {K:List Nat} (h:Zk T K) {n:Nat} (hn:n∈K):∃j:Nat,Ay T (n:Int) (0:Int)=some ((j:Int),true)∧K[j]? =some n:=by
 unfold Ay
 cases hf:T.find? (fun p=>decide (p.1=(n:Int)))with
 |none=>
  obtain⟨j,hj⟩:=L8 hn;have:=List.find?_eq_none.1 hf _ ((h (n:Int) (j:Int)).2 ⟨j,n,rfl,rfl,hj⟩)
  simp at this
 |some p=>
  have h1:=EU hf;have h2:=FF hf
  simp only[B2]at h2
  obtain⟨p1,p2⟩:=p
  dsimp only at h2
  obtain⟨j,n',e1,e2,h3⟩:=(h _ _).1 h1
  have:n'=n:=by omega
  subst this;exact⟨j,by rw[e2],h3⟩
def Av6 (hs:Jc s) (hM:As3 s M) (hS:NB s [] S):∃T,loopN (trA 40000000 s (M,S)) 40000000 (0,(⟨s.cV,[],[]⟩:A0),([]:List (Int×Int)))=some (⟨s.cV,EF s (kp s S s.cT.length),[]⟩,T)∧Zk T (kp s S s.cT.length):=by
 have hfi:=hs.fi
 obtain⟨r,h1,h2⟩:=Y7 (N:=40000000) (l:=s.cT) (Q:=fun(r:A0×List (Int×Int))=>r.1=⟨s.cV,EF s (kp s S s.cT.length),[]⟩∧Zk r.2 (kp s S s.cT.length))
  (I:=fun i (t:Int×A0×List (Int×Int))=>t.1=(i:Int)∧t.2.1=⟨s.cV,EF s (kp s S i),[]⟩∧Zk t.2.2 (kp s S i))
  (s0:=((0:Int),(⟨s.cV,[],[]⟩:A0),([]:List (Int×Int)))) (step:=trA 40000000 s (M,S))
  (fun i x t hx hi ⟨e1,e2,e3⟩=>by
   obtain⟨j,o,T⟩:=t
   simp only at e1 e2 e3
   subst e1;subst e2
   have hkl:(kp s S i).length≤i:=by unfold kp;exact V2 (FN _ _) (by simp)
   have hb:x=decide (s.cT[i]? =some true):=by rw[hx];cases x<;>rfl
   have hcond:cmp .lss (i:Int) (Ar.len s.cT)=true:=by simp only[C8,C9,B2];omega
   obtain⟨g1,g2⟩:=e3.snoc (i:=i) fun n hn=>Au0 hn
   have hlen:Ar.len (EF s (kp s S i))=(((kp s S i).length:Nat):Int):=by rw[C9];unfold EF;rw[N2]
   have hap:I1 (EF s (kp s S i)) [x]=some (EF s (kp s S i++[i])):=by
    rw[L1 (by unfold EF;rw[N2];simp;omega)];unfold EF;rw[AL];simp only[G2,J3,←hb]
   have hinc:Ar.ar .add .i64 (i:Int) 1=((i+1:Nat):Int):=I6 hi (by omega);have hyes:∃t',some (Sum.inl (Ar.ar .add .i64 (i:Int) 1,(⟨s.cV,EF s (kp s S i++[i]),[]⟩:A0),T++[((i:Int),((kp s S i).length:Int))]):(Int×A0×List (Int×Int))⊕(A0×List (Int×Int)))=some (.inl t')∧((i=0∨Lv s S i)→t'.1=((i+1:Nat):Int)∧t'.2.1=⟨s.cV,EF s (kp s S (i+1)),[]⟩∧Zk t'.2.2 (kp s S (i+1))):=⟨_,rfl,fun h=>⟨hinc,by rw[HI,A1 h],by rw[HI,A1 h];exact g2⟩⟩;unfold trA;rw[A1 hcond];simp only[E7,hx,A5]
   by_cases h0:i=0
   ·rw[A1 (by simp only[Z8,B2];omega)];simp only[hlen,g1,A5,hap];obtain⟨t',q1,q2⟩:=hyes;exact⟨t',q1,q2 (.inl h0)⟩
   rw[A3 (by simp only[Z8,B2];omega),MZ hM hS];simp only[A5]
   by_cases hl:Lv s S i
   ·have:tb s S (i:Int)=true:=FD ⟨i,rfl,hl⟩;rw[A1 this];simp only[hlen,g1,A5,hap];obtain⟨t',q1,q2⟩:=hyes;exact⟨t',q1,q2 (.inr hl)⟩
   have:¬tb s S (i:Int)=true:=by
    intro h;obtain⟨n,e,h⟩:=Dw h;exact hl (by rw[show i=n by omega];exact h)
   rw[A3 this];refine⟨_,rfl,hinc,?_,?_⟩
   ·rw[HI,A3 (by simp[h0,hl]),G9]
   rw[HI,A3 (by simp[h0,hl]),G9];exact e3)
  (fun t ⟨e1,e2,e3⟩=>by
   obtain⟨j,o,T⟩:=t
   simp only at e1 e2 e3
   subst e1;subst e2;refine⟨(⟨s.cV,EF s (kp s S s.cT.length),[]⟩,T),?_,rfl,e3⟩;unfold trA
   rw[A3 (by simp only[C8,C9,B2];omega)])
  ⟨rfl,rfl,fun k v=>⟨fun h=>(by cases h),fun⟨j,n,_,_,h⟩=>(by simp[kp]at h)⟩⟩ (by omega)
 obtain⟨r1,r2⟩:=r;obtain⟨q1,q2⟩:=h2
 dsimp only at q1 q2
 subst q1;exact⟨r2,h1,q2⟩
def num (T:List (Int×Int))(k:Int):Int:=((Ay T k (0:Int)).getD (0,false)).1
def VF (s:A0)(S:List (Int×Bool))(T:List (Int×Int))(m:B5):List B5:=if tb s S m.cW=true∧tb s S m.To=true∧vd m.On=false then[⟨num T m.cW,num T m.To,m.On⟩]else[]
def XW (s:A0)(S:List (Int×Bool))(T:List (Int×Int)):A0:=⟨s.cV,EF s (kp s S s.cT.length),s.cU.flatMap (VF s S T)⟩
def Av5 (hs:Jc s) (hM:As3 s M) (hS:NB s [] S) (T:List (Int×Int)) (F:List Bool):loopN (trB 40000000 s (M,S) (⟨s.cV,F,[]⟩,T)) 40000000 (0,(⟨s.cV,F,[]⟩:A0))=some ⟨s.cV,F,s.cU.flatMap (VF s S T)⟩:=by
 have hmv:=hs.mv
 rw [Ft (l:=s.cU) (rep:=fun i (acc:List B5)=>((i:Int),(⟨s.cV,F,acc⟩:A0))) (g:=VF s S T) (fin:=fun acc=>(⟨s.cV,F,acc⟩:A0)) (fun m _=>by unfold VF;split<;>simp) []
  (fun i m acc hx hi ha=>by
   have hm1:=G1 hx;have hp:=(hs.each m hm1).2
   rw[V6]at ha
   unfold trB VF;rw[A1 (by simp only[C8,C9,B2];omega)];simp only[E7,hx,A5];rw[MZ hM hS,MZ hM hS];simp only[A5];rw[I6 hi (by omega)]
   cases h1:tb s S m.cW with
   |false=>simp
   | true=>
    cases h2:tb s S m.To with
    |false=>simp
    | true=>
     rw[JU (by omega) hp];simp only[A5,D1]
     cases h3:vd m.On with
     |true=>simp[Ao]
     |false=>
      rw[Lf (by omega) hp];have e1:Ay T m.cW (0:Int)=some ((Ay T m.cW (0:Int)).getD (0,false)):=rfl;have e2:Ay T m.To (0:Int)=some ((Ay T m.To (0:Int)).getD (0,false)):=rfl;rw[e1,e2];simp only[A5,Ao,V4,D1];rw[L1 (by simp;omega)]
      rfl) (fun acc _=>by unfold trB;rw[A3 (by simp only[C8,C9,B2];omega)]) (by omega) (by rfl)]
 rfl
end
def XU {s:A0}(h0:DV s=0):∃S T,AO 40000000 s=some (XW s S T,0)∧NB s [] S∧Cls s [] S∧((0:Int),true)∈S∧Zk T (kp s S s.cT.length):=by
 rw[ZL,DX (by omega)];simp only[A5,h0,show cmp .neq (0:Int) 0=false from rfl,E2,D7];have hs:=Cy h0;obtain⟨M,e1,h1,h2⟩:=Aq4 hs;have hM:As3 s M:=⟨h1,h2⟩;obtain⟨S,e2,hS,hc,hz⟩:=Aa9 hs;simp only[e1,e2,A5];obtain⟨T,e3,hT⟩:=Av6 hs hM hS;rw[e3];simp only[A5];rw[Av5 hs hM hS T];exact⟨S,T,rfl,hS,hc,hz,hT⟩
section
variable {s:A0}{S:List (Int×Bool)}{T:List (Int×Int)}
def Wj {n i:Nat}:n∈kp s S i↔n<i∧(n=0∨Lv s S n):=by unfold kp;simp
def Ap2 {i:Nat}(hi:1≤i):(kp s S i)[0]? =some 0:=by
 obtain⟨k,rfl⟩:∃k,i=k+1:=⟨i-1,by omega⟩;unfold kp;rw[List.range_succ_eq_map,FG,A1 (by simp)];rfl
def Al0 (hs:Jc s) (hT:Zk T (kp s S s.cT.length)) {z:B5}:z∈(XW s S T).cU↔∃m∈s.cU,∃f t j k:Nat,m.cW=(f:Int)∧m.To=(t:Int)∧Lv s S f∧Lv s S t∧vd m.On=false∧num T m.cW=(j:Int)∧num T m.To=(k:Int)∧(kp s S s.cT.length)[j]? =some f∧(kp s S s.cT.length)[k]? =some t∧z=⟨(j:Int),(k:Int),m.On⟩:=by
 show z∈s.cU.flatMap (VF s S T)↔_
 rw[DQ]
 constructor
 ·rintro⟨m,hm,hz⟩
  unfold VF at hz
  split at hz
  ·next h=>
   obtain⟨h1,h2,h3⟩:=h;obtain⟨f,ef,lf⟩:=Dw h1;obtain⟨t,et,lt⟩:=Dw h2;have hr:=(hs.each m hm).1;obtain⟨j,gj,kj⟩:=hT.get (n:=f) (Wj.2 ⟨by omega,.inr lf⟩);obtain⟨k,gk,kk⟩:=hT.get (n:=t) (Wj.2 ⟨by omega,.inr lt⟩)
   have nj:num T m.cW=(j:Int):=by unfold num;rw[ef,gj];rfl
   have nk:num T m.To=(k:Int):=by unfold num;rw[et,gk];rfl
   exact⟨m,hm,f,t,j,k,ef,et,lf,lt,h3,nj,nk,kj,kk,by rw[List.mem_singleton.1 hz,nj,nk]⟩
  cases hz
 rintro⟨m,hm,f,t,j,k,ef,et,lf,lt,h3,nj,nk,kj,kk,rfl⟩;refine⟨m,hm,?_⟩;unfold VF;rw[A1 ⟨FD ⟨f,ef,lf⟩,FD ⟨t,et,lt⟩,h3⟩,nj,nk];simp
def Av4 (hs:Jc s) (hT:Zk T (kp s S s.cT.length)):Jc (XW s S T):=by
 have hfi:=hs.fi
 have hkl:(kp s S s.cT.length).length≤s.cT.length:=by unfold kp;exact V2 (FN _ _) (by simp)
 have hk1:=(List.getElem?_eq_some_iff.1 (Ap2 (s:=s) (S:=S) hfi.1)).1
 have hl:(XW s S T).cT.length=(kp s S s.cT.length).length:=by show(EF _ _).length=_;unfold EF;rw[N2]
 refine⟨hs.ty,by omega,?_,fun z hz=>?_⟩
 ·have:=Dk (l:=s.cU) (g:=VF s S T) (fun m _=>by unfold VF;split<;>simp);have:=hs.mv
  show(s.cU.flatMap (VF s S T)).length≤2048
  omega
 obtain⟨m,hm,f,t,j,k,_,_,_,_,_,_,_,kj,kk,rfl⟩:=(Al0 hs hT).1 hz;have:=(List.getElem?_eq_some_iff.1 kj).1;have:=(List.getElem?_eq_some_iff.1 kk).1;rw[hl];exact⟨⟨by dsimp only;omega,by dsimp only;omega⟩,(hs.each m hm).2⟩
end
end
end Go.Ab
namespace Go.Ab
open Classical
def IC {α:Type}{l:List α}{k:Nat}(h:k<l.length):X1 (Z9 l (k:Int))=some ():=by unfold X1 Z9;rw[A1];simp;omega
def OH {α:Type}{l:List α}{k:Nat}(y:α)(h:k<l.length):Y6 l (k:Int) (fun _=>y)=some (l.set k y):=by
 unfold Y6;rw[E7,D5 h,K0];rfl
def Ah4:∀(l l':List Bool),l.length=l'.length→(∀j:Nat,l[j]? =some true→l'[j]? =some true)→l.count true≤l'.count true∧∀j:Nat,l[j]? =some false→l'[j]? =some true→l.count true<l'.count true
 |[],[],_,_=>⟨D3 _,fun j h=>by simp at h⟩
 |[],_::_,h,_=>by simp at h
 |_::_,[],h,_=>by simp at h
 | x::l,y::l',hl,h=>by
  have hxy:x=true→y=true:=fun e=>by have:=h 0;simp[e]at this;exact this
  obtain⟨h1,h2⟩:=Ah4 l l' (by simpa using hl) fun j hj=>by have:=h (j+1);simpa using this hj
  refine⟨?_,fun j hj hj'=>?_⟩
  ·cases x<;>cases y<;>simp_all<;>omega
  cases j with
  |zero=>
   simp at hj hj'
   subst hj;subst hj'
   simp;omega
  |succ j=>
   have:=h2 j (by simpa using hj) (by simpa using hj');cases x<;>cases y<;>simp_all<;>omega
def Rch (s:A0)(j:Nat):Prop:=∃k,Rp s k j
def Clo (s:A0)(l:List Bool):Prop:=∀m∈s.cU,l[m.cW.toNat]? =some true→vd m.On=false→l[m.To.toNat]? =some true
structure Rl1 (s:A0) (l:List Bool):Prop where
 len:l.length=s.cT.length
 zero:l[0]? =some true
 snd:∀j:Nat,l[j]? =some true→Rch s j
def AA9 {s:A0} (hs:Jc s) {l:List Bool} (h:Rl1 s l):∃l',loopN
 (fun (s8:Int×(List Bool))=>
  (
   if cmp .lss s8.1 (Ar.len s.cU)=true then
    (C6 s.cU s8.1).bind fun x11=>
    (X1 (Z9 s8.2 x11.cW)).bind fun _=>
    (C6 s8.2 x11.cW).bind fun x12=>
    if x12=true then
     (S0 40000000 x11.On).bind fun r13=>
     if Ar.nt r13=true then
      (X1 (Z9 s8.2 x11.To)).bind fun _=>
      (Y6 s8.2 x11.To (fun x14:Bool=>true)).bind fun l15=>
      some (.inl (Ar.ar .add .i64 s8.1 1,l15))
     else
      some (.inl (Ar.ar .add .i64 s8.1 1,s8.2))
    else
     some (.inl (Ar.ar .add .i64 s8.1 1,s8.2))
   else
    some (.inr s8.2)
   :Option ((Int×(List Bool))⊕(((List Bool))))))
 40000000 (0,l)=some l'∧Rl1 s l'∧(∀j:Nat,l[j]? =some true→l'[j]? =some true)∧(∀m∈s.cU,l[m.cW.toNat]? =some true→vd m.On=false→l'[m.To.toNat]? =some true)∧(Clo s l→l'=l):=by
 have hmv:=hs.mv
 obtain⟨r,h1,h2⟩:=Y7 (N:=40000000) (l:=s.cU) (Q:=fun(r:List Bool)=>Rl1 s r∧(∀j:Nat,l[j]? =some true→r[j]? =some true)∧(∀m∈s.cU,l[m.cW.toNat]? =some true→vd m.On=false→r[m.To.toNat]? =some true)∧(Clo s l→r=l))
  (I:=fun i (t:Int×List Bool)=>t.1=(i:Int)∧Rl1 s t.2∧(∀j:Nat,l[j]? =some true→t.2[j]? =some true)∧(∀i'<i,∀m,s.cU[i']? =some m→l[m.cW.toNat]? =some true→vd m.On=false→t.2[m.To.toNat]? =some true)∧(Clo s l→t.2=l))
  (s0:=((0:Int),l))
  (step:=fun(s8:Int×(List Bool))=>
   (
    if cmp .lss s8.1 (Ar.len s.cU)=true then
     (C6 s.cU s8.1).bind fun x11=>
     (X1 (Z9 s8.2 x11.cW)).bind fun _=>
     (C6 s8.2 x11.cW).bind fun x12=>
     if x12=true then
      (S0 40000000 x11.On).bind fun r13=>
      if Ar.nt r13=true then
       (X1 (Z9 s8.2 x11.To)).bind fun _=>
       (Y6 s8.2 x11.To (fun x14:Bool=>true)).bind fun l15=>
       some (.inl (Ar.ar .add .i64 s8.1 1,l15))
      else
       some (.inl (Ar.ar .add .i64 s8.1 1,s8.2))
     else
      some (.inl (Ar.ar .add .i64 s8.1 1,s8.2))
    else
     some (.inr s8.2)
    :Option ((Int×(List Bool))⊕(((List Bool))))))
  (fun i m t hx hi ⟨e1,e2,e3,e4,e5⟩=>by
   obtain⟨j,T⟩:=t
   simp only at e1 e2 e3 e4 e5
   subst e1;obtain⟨hr,hp⟩:=hs.each m (G1 hx);obtain⟨f,hf⟩:∃f:Nat,m.cW=f:=⟨m.cW.toNat,by omega⟩;obtain⟨t,ht⟩:∃t:Nat,m.To=t:=⟨m.To.toNat,by omega⟩
   have hfl:f<T.length:=by have:=e2.len;omega
   have htl:t<T.length:=by have:=e2.len;omega
   have hcond:cmp .lss (i:Int) (Ar.len s.cU)=true:=by simp only[C8,C9,B2];omega
   have hinc:Ar.ar .add .i64 (i:Int) 1=((i+1:Nat):Int):=I6 hi (by omega);have hq:=D5 hfl
   have keep:(l[m.cW.toNat]? =some true→vd m.On=false→T[m.To.toNat]? =some true)→∃t':Int×List Bool,(some (Sum.inl (Ar.ar .add .i64 (i:Int) 1,T)):Option ((Int×List Bool)⊕List Bool))=some (.inl t')∧t'.1=((i+1:Nat):Int)∧Rl1 s t'.2∧(∀j:Nat,l[j]? =some true→t'.2[j]? =some true)∧(∀i'<i+1,∀m,s.cU[i']? =some m→l[m.cW.toNat]? =some true→vd m.On=false→t'.2[m.To.toNat]? =some true)∧(Clo s l→t'.2=l):=fun hk=>
    ⟨_,rfl,hinc,e2,e3,fun i' h' m' hm'=>by
     by_cases hii:i'=i
     ·subst hii;rw[hx]at hm';cases hm';exact hk
     exact e4 i' (by omega) m' hm',e5⟩
   rw[A1 hcond,E7,hx];simp only[A5];rw[hf,IC hfl,E7,hq];simp only[A5]
   cases hb:T[f]with
   |false=>
    rw[A3 (by simp)];refine keep fun h1 _=>?_;have:=e3 f (by rw[hf,K0]at h1;exact h1)
    rw[hq,hb]at this;cases this
   | true=>
    rw[A1 rfl,Mn (by omega) hp];simp only[A5]
    cases hv:vd m.On with
    |true=>
     rw[A3 (by decide)];refine keep fun _ h2=>?_
     rw[hv]at h2;cases h2
    | false=>
     rw[A1 (by decide),ht,IC htl];simp only[A5];rw[OH true htl];simp only[A5]
     have hset:∀j:Nat,(T.set t true)[j]? =if t=j then some true else T[j]? :=fun j=>by
      rw[O0]
      by_cases h:t=j
      ·rw[A1 h,A1 h,A1 htl]
      rw[A3 h,A3 h]
     refine⟨_,rfl,hinc,⟨by simp[e2.len],?_,fun j hj=>?_⟩,fun j hj=>?_,fun i' h' m' hm' h1 h2=>?_,fun hc=>?_⟩
     ·rw[hset];split
      ·rfl
      exact e2.zero
     ·rw[hset]at hj
      split at hj
      ·next h=>
       subst h;obtain⟨k,hk⟩:=e2.snd f (by rw[hq,hb]);exact⟨k+1,f,hk,m,G1 hx,hf,ht,hv⟩
      exact e2.snd j hj
     ·rw[hset];split
      ·rfl
      exact e3 j hj
     ·rw[hset];split
      ·rfl
      next h=>
      by_cases hii:i'=i
      ·subst hii;rw[hx]at hm';cases hm'
       rw[ht,K0]at h
       exact absurd rfl h
      exact e4 i' (by omega) m' hm' h1 h2
     have e:=e5 hc;have h3:=hc m (G1 hx) (by rw[hf,K0,←e,hq,hb]) hv
     rw[ht,K0]at h3
     refine Bv fun j=>?_;rw[hset]
     split
     ·next h=>subst h;exact h3.symm
     rw[e])
  (fun t ⟨e1,e2,e3,e4,e5⟩=>by
   obtain⟨j,T⟩:=t
   simp only at e1 e2 e3 e4 e5
   subst e1;refine⟨T,by rw[A3 (by simp[C8,C9])],e2,e3,fun m hm h1 h2=>?_,e5⟩;obtain⟨i,hi⟩:=L8 hm
   exact e4 i (List.getElem?_eq_some_iff.1 hi).1 m hi h1 h2) ⟨rfl,h,fun j h=>h,fun i' h'=>absurd h' (Jr _),fun _=>rfl⟩ (by omega)
 exact⟨r,h1,h2⟩
def Yq {s:A0} (hs:Jc s):∃l,BL 40000000 s=some l∧l.length=s.cT.length∧∀j:Nat,l[j]? =some true↔Rch s j:=by
 have hfi:=hs.fi;unfold BL;obtain⟨k,hk⟩:∃k,s.cT.length=k+1:=⟨s.cT.length-1,by omega⟩
 have e1:PO (Ar.len s.cT) (Ar.len s.cT) (false:Bool)=some (false::List.replicate k false):=by
  unfold PO;rw[C9,A1 (by omega),K0,hk];rfl
 rw[e1];simp only[A5]
 have e3:X1 (Z9 (false::List.replicate k false) 0)=some ():=by unfold X1 Z9;rw[A1];simp
 have e5:Y6 (false::List.replicate k false) 0 (fun _=>true)=some (true::List.replicate k false):=rfl;rw[e3];simp only[A5];rw[e5];simp only[A5]
 obtain ⟨r,h1,h2⟩:=Y7 (N:=40000000) (l:=s.cT) (Q:=fun(r:List Bool)=>Rl1 s r∧Clo s r)
  (I:=fun i (t:Int×List Bool)=>t.1=(i:Int)∧Rl1 s t.2∧(Clo s t.2∨i+1≤t.2.count true))
  (s0:=((0:Int),true::List.replicate k false))
  (step := fun(s5:Int×(List Bool))=>
   (
    if cmp .lss s5.1 (Ar.len s5.2)=true then
     (loopN
      (fun (s8:Int×(List Bool))=>
       (
        if cmp .lss s8.1 (Ar.len s.cU)=true then
         (C6 s.cU s8.1).bind fun x11=>
         (X1 (Z9 s8.2 x11.cW)).bind fun _=>
         (C6 s8.2 x11.cW).bind fun x12=>
         if x12=true then
          (S0 40000000 x11.On).bind fun r13=>
          if Ar.nt r13=true then
           (X1 (Z9 s8.2 x11.To)).bind fun _=>
           (Y6 s8.2 x11.To (fun x14:Bool=>true)).bind fun l15=>
           some (.inl (Ar.ar .add .i64 s8.1 1,l15))
          else
           some (.inl (Ar.ar .add .i64 s8.1 1,s8.2))
         else
          some (.inl (Ar.ar .add .i64 s8.1 1,s8.2))
        else
         some (.inr s8.2)
        :Option ((Int×(List Bool))⊕(((List Bool))))))
      40000000 (0,s5.2)).bind fun s10=>
     some (.inl (Ar.ar .add .i64 s5.1 1,s10))
    else
     some (.inr s5.2)
    :Option ((Int×(List Bool))⊕(((List Bool))))))
  (fun i m t hx hi ⟨e1,e2,e3⟩=>by
   obtain⟨j,T⟩:=t
   simp only at e1 e2 e3
   subst e1;obtain⟨l',g1,g2,g3,g4,g5⟩:=AA9 hs e2;rw[A1 (by simp only[C8,C9,B2];have:=e2.len;omega)];simp only[g1,A5];refine⟨_,rfl,I6 hi (by omega),g2,?_⟩
   show Clo s l'∨i+1+1≤l'.count true
   by_cases hc:Clo s T
   ·rw[g5 hc];exact .inl hc
   rcases e3 with h|h
   ·exact absurd h hc
   right
   obtain⟨m,hm⟩:=Classical.not_forall.1 hc
   simp only[Classical.not_imp]at hm
   obtain⟨m1,m2,m3,m4⟩:=hm;have hr:=(hs.each m m1).1;have hto:=g4 m m1 m2 m3
   have hT:T[m.To.toNat]? =some false:=by
    have hl:m.To.toNat<T.length:=by have:=e2.len;omega
    rw[D5 hl]at m4 ⊢
    cases hb:T[m.To.toNat]with
    |true=>rw[hb]at m4;exact absurd rfl m4
    |false=>rfl
   have:=(Ah4 T l' (by rw[e2.len,g2.len]) g3).2 _ hT hto
   omega)
  (fun t ⟨e1,e2,e3⟩=>by
   obtain⟨j,T⟩:=t
   simp only at e1 e2 e3
   subst e1;refine⟨T,by rw[A3 (by simp only[C8,C9,B2];have:=e2.len;omega)],e2,?_⟩
   rcases e3 with h|h
   ·exact h
   have:=List.count_le_length (a:=true) (l:=T);have:=e2.len
   omega)
  ⟨rfl,⟨by simp[hk],rfl,fun j hj=>by
   cases j with
   |zero=>exact⟨0,rfl⟩
   |succ j=>simp[List.getElem?_replicate]at hj⟩,.inr (by simp)⟩ (by omega)
 rw[h1];refine⟨r,rfl,h2.1.len,fun j=>⟨h2.1.snd j,fun⟨k,hk⟩=>?_⟩⟩
 have:∀(k j:Nat),Rp s k j→r[j]? =some true:=by
  intro k
  induction k with
  |zero=>intro j h;have h:j=0:=h;rw[h];exact h2.1.zero
  |succ k ih=>
   rintro j ⟨i,hi,m,hm,f,t,v⟩;have:=h2.2 m hm (by rw[f,K0];exact ih i hi) v
   rwa[t,K0]at this
 exact this k j hk
def Aa1 {s:A0} {S:List (Int×Bool)} (hS:NB s [] S) (hc:Cls s [] S) (hz:((0:Int),true)∈S) (j:Nat):((j:Int),true)∈S↔Rch s j:=by
 constructor
 ·intro h;obtain⟨i,l,e,_,hr⟩:=hS.ok _ h
  have:i=j:=by omega
  subst this;exact⟨l,hr⟩
 rintro⟨k,hk⟩
 have:∀(k j:Nat),Rp s k j→((j:Int),true)∈S:=by
  intro k
  induction k with
  |zero=>intro j h;have h:j=0:=h;rw[h];exact hz
  |succ k ih=>
   rintro j ⟨i,hi,m,hm,f,t,v⟩
   rcases hc _ (ih i hi)with h|h
   ·cases h
   rw[←t];exact h m hm f v
 exact this k j hk
section
variable {s:A0}{S:List (Int×Bool)}{T:List (Int×Int)}
def Nmk (Nn:List Int)(K:List Nat):Prop:=∀j k:Nat,K[j]? =some k→Nn[k]? =some (j:Int)
def Aa3 (h0:DV s=0) (hf:s.cT.length≤8) (hm:s.cU.length≤16) (hS:NB s [] S) (hc:Cls s [] S) (hz:((0:Int),true)∈S) (hT:Zk T (kp s S s.cT.length)):DA 40000000 s=some (XW s S T,0):=by
 have hs:=Cy h0;have hfi:=hs.fi;obtain⟨l,e1,l1,l2⟩:=Yq hs;obtain⟨d,e2,d1,d2⟩:=Ab0 hs;unfold DA;rw[Dz (by omega),h0];simp only[A5];rw[A3 (show¬cmp .neq (0:Int) 0=true by decide),e1,e2];simp only[A5]
 have e3:PO (Ar.len l) (Ar.len l) (0:Int)=some (List.replicate s.cT.length 0):=by
  unfold PO;rw[C9,A1 (by omega),K0,l1]
 rw[e3];simp only[A5]
 have hin:∀j:Nat,j<s.cT.length→∀b,l[j]? =some b→∃v,d[j]? =some v∧(b&&decide (0≤v))=decide (Lv s S j):=by
  intro j hj b hb;obtain⟨v,hv,h⟩:=d2 j hj;refine⟨v,hv,?_⟩;have hr:=Aa1 hS hc hz j;have hl2:=l2 j
  rw[hb]at hl2
  rw[Bs,H7,B2,B2];unfold Lv;rw[hr]
  constructor
  ·rintro⟨h1,h2⟩;refine⟨?_,hl2.1 (by rw[h1])⟩
   rcases h with⟨k,rfl,hk⟩|⟨rfl,_⟩
   ·exact⟨k,hk⟩
   omega
  rintro⟨⟨k,hk⟩,h2⟩;refine⟨Ck (hl2.2 h2),?_⟩
  rcases h with⟨k',rfl,_⟩|⟨_,h⟩
  ·omega
  exact absurd hk.1 (h k)
 obtain⟨r,g1,g2⟩:=Y7 (N:=40000000) (l:=s.cT) (Q:=fun(r:A0×List Int×List Bool)=>r.1=⟨s.cV,EF s (kp s S s.cT.length),[]⟩∧r.2.1.length=s.cT.length∧Nmk r.2.1 (kp s S s.cT.length)∧r.2.2.length=s.cT.length∧∀j:Nat,j<s.cT.length→r.2.2[j]? =some (decide (Lv s S j)))
  (I:=fun i (t:Int×A0×List Int×List Bool)=>t.1=(i:Int)∧t.2.1=⟨s.cV,EF s (kp s S i),[]⟩∧t.2.2.1.length=s.cT.length∧Nmk t.2.2.1 (kp s S i)∧t.2.2.2.length=s.cT.length∧∀j:Nat,j<s.cT.length→t.2.2.2[j]? =if j<i then some (decide (Lv s S j))else l[j]?)
  (s0:=((0:Int),(⟨s.cV,[],[]⟩:A0),List.replicate s.cT.length 0,l))
  (step:=fun(s288:Int×A0×(List Int)×(List Bool))=>
   (
    if cmp .lss s288.1 (Ar.len s288.2.2.2)=true then
     (X1 (Z9 s288.2.2.2 s288.1)).bind fun _=>
     (C6 s288.2.2.2 s288.1).bind fun x293=>
     if x293=true then
      (C6 d s288.1).bind fun x294=>
      (X1 (Z9 s288.2.2.2 s288.1)).bind fun _=>
      (Y6 s288.2.2.2 s288.1 (fun x295:Bool=>cmp .geq x294 0)).bind fun l296=>
      (X1 (Z9 l296 s288.1)).bind fun _=>
      (C6 l296 s288.1).bind fun x297=>
      if Ar.or x297 (cmp .eql s288.1 0)=true then
       (X1 (Z9 s288.2.2.1 s288.1)).bind fun _=>
       (Y6 s288.2.2.1 s288.1 (fun x298:Int=>Ar.len s288.2.1.cT)).bind fun l299=>
       (C6 s.cT s288.1).bind fun x300=>
       (I1 s288.2.1.cT ([x300])).bind fun l302=>
       some (.inl (Ar.ar .add .i64 s288.1 1,{s288.2.1 with cT:=l302,cU:=[]},l299,l296))
      else
       some (.inl (Ar.ar .add .i64 s288.1 1,{s288.2.1 with cU:=[]},s288.2.2.1,l296))
     else
      (X1 (Z9 s288.2.2.2 s288.1)).bind fun _=>
      (Y6 s288.2.2.2 s288.1 (fun x303:Bool=>false)).bind fun l304=>
      (X1 (Z9 l304 s288.1)).bind fun _=>
      (C6 l304 s288.1).bind fun x305=>
      if Ar.or x305 (cmp .eql s288.1 0)=true then
       (X1 (Z9 s288.2.2.1 s288.1)).bind fun _=>
       (Y6 s288.2.2.1 s288.1 (fun x306:Int=>Ar.len s288.2.1.cT)).bind fun l307=>
       (C6 s.cT s288.1).bind fun x308=>
       (I1 s288.2.1.cT ([x308])).bind fun l310=>
       some (.inl (Ar.ar .add .i64 s288.1 1,{s288.2.1 with cT:=l310,cU:=[]},l307,l304))
      else
       some (.inl (Ar.ar .add .i64 s288.1 1,{s288.2.1 with cU:=[]},s288.2.2.1,l304))
    else
     some (.inr ({s288.2.1 with cU:=[]},s288.2.2.1,s288.2.2.2))
    :Option ((Int×A0×(List Int)×(List Bool))⊕((A0×(List Int)×(List Bool))))))
  (fun i x t hx hi ⟨a1,a2,a3,a4,a5,a6⟩=>by
   obtain⟨j,o,Nn,In⟩:=t
   simp only at a1 a2 a3 a4 a5 a6
   subst a1;subst a2
   have hkl:(kp s S i).length≤i:=by unfold kp;exact V2 (FN _ _) (by simp)
   have hb:x=decide (s.cT[i]? =some true):=by rw[hx];cases x<;>rfl
   have hlen:Ar.len (EF s (kp s S i))=(((kp s S i).length:Nat):Int):=by rw[C9];unfold EF;rw[N2]
   have hap:I1 (EF s (kp s S i)) [x]=some (EF s (kp s S i++[i])):=by
    rw[L1 (by unfold EF;rw[N2];simp;omega)];unfold EF;rw[AL];simp only[G2,J3,←hb]
   have hinc:Ar.ar .add .i64 (i:Int) 1=((i+1:Nat):Int):=I6 hi (by omega)
   have hil:i<In.length:=by omega
   have hiN:i<Nn.length:=by omega
   obtain⟨b,hbb⟩:∃b,l[i]? =some b:=⟨_,D5 (by omega)⟩
   have hIi:In[i]? =some b:=by rw[a6 i hi,A3 (by omega)];exact hbb
   obtain⟨v,hv,hlv⟩:=hin i hi b hbb
   have hsetI:∀(y:Bool),y=decide (Lv s S i)→∀j:Nat,j<s.cT.length→(In.set i y)[j]? =if j<i+1 then some (decide (Lv s S j))else l[j]? :=fun y hy j hj=>by
    rw[O0]
    by_cases h:i=j
    ·subst h;rw[A1 rfl,A1 hil,A1 (by omega),hy]
    rw[A3 h,a6 j hj]
    by_cases h2:j<i
    ·rw[A1 h2,A1 (by omega)]
    rw[A3 h2,A3 (by omega)]
   have hnm:Nmk (Nn.set i ((kp s S i).length:Int)) (kp s S i++[i]):=fun j k hjk=>by
    rw[O0]
    by_cases hj:j<(kp s S i).length
    ·rw[Bx hj]at hjk
     have:=Au0 (G1 hjk);rw[A3 (by omega)];exact a4 j k hjk
    rw[GL (by omega)]at hjk
    have h0:j-(kp s S i).length=0:=by
     have:=(List.getElem?_eq_some_iff.1 hjk).1
     simp at this;omega
    rw[h0]at hjk
    simp at hjk
    subst hjk;rw[A1 rfl,A1 hiN,show j=(kp s S i).length by omega]
   have fin:∀(y:Bool),y=decide (Lv s S i)→∃t',(
    (X1 (Z9 (In.set i y) (i:Int))).bind fun _=>
    (C6 (In.set i y) (i:Int)).bind fun x297=>
    if Ar.or x297 (cmp .eql (i:Int) 0)=true then
     (X1 (Z9 Nn (i:Int))).bind fun _=>
     (Y6 Nn (i:Int) (fun x298:Int=>Ar.len (EF s (kp s S i)))).bind fun l299=>
     (C6 s.cT (i:Int)).bind fun x300=>
     (I1 (EF s (kp s S i)) ([x300])).bind fun l302=>
     some (.inl (Ar.ar .add .i64 (i:Int) 1,(⟨s.cV,l302,[]⟩:A0),l299,In.set i y))
    else
     some (.inl (Ar.ar .add .i64 (i:Int) 1,(⟨s.cV,EF s (kp s S i),[]⟩:A0),Nn,In.set i y)):Option ((Int×A0×(List Int)×(List Bool))⊕((A0×(List Int)×(List Bool)))))=some (.inl t')∧t'.1=((i+1:Nat):Int)∧t'.2.1=⟨s.cV,EF s (kp s S (i+1)),[]⟩∧t'.2.2.1.length=s.cT.length∧Nmk t'.2.2.1 (kp s S (i+1))∧t'.2.2.2.length=s.cT.length∧∀j:Nat,j<s.cT.length→t'.2.2.2[j]? =if j<i+1 then some (decide (Lv s S j))else l[j]? :=fun y hy=>by
    rw[IC (by simpa using hil),E7,O0,A1 rfl,A1 hil];simp only[A5]
    by_cases hk:i=0∨Lv s S i
    ·rw[A1 (by
      rw[hy,GT,Z8,Y2,B2,B2]
      rcases hk with h|h
      ·exact .inr (by omega)
      exact .inl h),IC hiN]
     simp only[A5];rw[OH _ hiN,E7,hx];simp only[A5,hap,hlen];exact⟨_,rfl,hinc,by rw[HI,A1 hk],by simpa using a3,by rw[HI,A1 hk];exact hnm,by simpa using a5,hsetI y hy⟩
    rw[A3 (by
     rw[hy,GT,Z8,Y2,B2,B2];rintro(h|h)
     ·exact hk (.inr h)
     exact hk (.inl (by omega)))]
    exact⟨_,rfl,hinc,by rw[HI,A3 hk,G9],a3,by rw[HI,A3 hk,G9];exact a4,by simpa using a5,hsetI y hy⟩
   rw[A1 (by simp only[C8,C9,B2];omega),IC hil,E7,hIi];simp only[A5]
   cases b with
   |true=>
    rw[A1 rfl,E7,hv];simp only[A5];rw[OH _ hil];simp only[A5];exact fin _ (by rw[←hlv,Jj];rfl)
   |false=>
    rw[A3 (by simp),OH _ hil];simp only[A5]
    exact fin _ (by rw[←hlv,Hn]))
  (fun t ⟨a1,a2,a3,a4,a5,a6⟩=>by
   obtain⟨j,o,Nn,In⟩:=t
   simp only at a1 a2 a3 a4 a5 a6
   subst a1;subst a2;refine⟨_,by rw[A3 (by simp only[C8,C9,B2];omega)],rfl,a3,a4,a5,fun j hj=>?_⟩;have:=a6 j hj
   rwa[A1 hj]at this)
  ⟨rfl,rfl,by simp,fun j k h=>by simp[kp]at h,l1,fun j hj=>by rw[A3 (Jr _)]⟩ (by omega)
 rw[g1];obtain⟨o,Nn,In⟩:=r;obtain⟨b1,b2,b3,b4,b5⟩:=g2
 dsimp only at b1 b2 b3 b4 b5
 subst b1;simp only[A5]
 have hg:∀m∈s.cU,VF s S T m=if Lv s S m.cW.toNat∧Lv s S m.To.toNat∧vd m.On=false then[(⟨(Nn[m.cW.toNat]?).getD 0,(Nn[m.To.toNat]?).getD 0,m.On⟩:B5)]else[]:=fun m hm=>by
  have hr:=(hs.each m hm).1
  have ht:∀k:Int,0≤k→(tb s S k=true↔Lv s S k.toNat):=fun k hk=>by
   unfold tb;rw[B2]
   constructor
   ·rintro⟨n,e,h⟩;rw[show k.toNat=n by omega];exact h
   intro h;exact⟨k.toNat,by omega,h⟩
  have hn:∀k:Int,0≤k→k<(s.cT.length:Int)→Lv s S k.toNat→num T k=(Nn[k.toNat]?).getD 0:=fun k hk hkl h=>by
   obtain⟨j,gj,kj⟩:=hT.get (n:=k.toNat) (Wj.2 ⟨by omega,.inr h⟩)
   rw[show((k.toNat:Nat):Int)=k by omega]at gj
   unfold num;rw[gj,b3 j _ kj];rfl
  unfold VF
  by_cases h:Lv s S m.cW.toNat∧Lv s S m.To.toNat∧vd m.On=false
  ·rw[A1 h,A1 ⟨(ht _ hr.1.1).2 h.1,(ht _ hr.2.1).2 h.2.1,h.2.2⟩,hn _ hr.1.1 hr.1.2 h.1,hn _ hr.2.1 hr.2.2 h.2.1]
  rw[A3 h,A3 fun h2=>h ⟨(ht _ hr.1.1).1 h2.1,(ht _ hr.2.1).1 h2.2.1,h2.2.2⟩]
 rw [Ft (l:=s.cU) (rep:=fun i (acc:List B5)=>((i:Int),(⟨s.cV,EF s (kp s S s.cT.length),acc⟩:A0))) (g:=VF s S T) (fin:=fun acc=>(⟨s.cV,EF s (kp s S s.cT.length),acc⟩:A0)) (fun m _=>by unfold VF;split<;>simp) []
  (fun i m acc hx hi ha=>by
   have hm1:=G1 hx;obtain⟨hr,hp⟩:=hs.each m hm1
   rw[V6]at ha
   rw[hg m hm1];obtain⟨f,hf⟩:∃f:Nat,m.cW=f:=⟨m.cW.toNat,by omega⟩;obtain⟨t,ht⟩:∃t:Nat,m.To=t:=⟨m.To.toNat,by omega⟩
   have hfl:f<s.cT.length:=by omega
   have htl:t<s.cT.length:=by omega
   have nf:Nn[f]? =some (Nn[f]'(by omega)):=D5 _;have nt:Nn[t]? =some (Nn[t]'(by omega)):=D5 _;rw[A1 (by simp only[C8,C9,B2];omega),E7,hx];simp only[A5];rw[hf,ht,K0,K0,IC (by omega),E7,b5 f hfl];simp only[A5];rw[I6 hi (by omega)]
   by_cases h1:Lv s S f
   case neg=>rw[A3 (by simpa using h1),A3 fun h=>h1 h.1];simp
   rw[A1 (by simpa using h1),IC (by omega),E7,b5 t htl];simp only[A5]
   by_cases h2:Lv s S t
   case neg=>rw[A3 (by simpa using h2),A3 fun h=>h2 h.2.1];simp
   rw[A1 (by simpa using h2),Mn (by omega) hp];simp only[A5]
   cases h3:vd m.On with
   |true=>rw[A3 (by decide),A3 (by simp)];simp
   |false=>
    rw[A1 (by decide),A1 ⟨h1,h2,rfl⟩,IC (by omega),E7,nf];simp only[A5];rw[IC (by omega),E7,nt];simp only[A5];rw[L1 (by simp;omega)]
    rfl) (fun acc _=>by rw[A3 (by simp only[C8,C9,B2];omega)]) (by omega) (by rfl)]
 rfl
end
end Go.Ab
namespace Go.Ab
def Wr {p:B3}{i:Nat}{a:List A2}{n:Int}(h:p.cX[i]? =some a):Vu p ⟨(i:Int),n⟩=true↔Dg a n:=by
 rw[KA];unfold InP;simp only[K0,h,E8,exists_eq_left']
 constructor
 ·exact fun h=>h.2
 exact fun h=>⟨by omega,h⟩
def Ab1 {t:Int} {p q r:B3} (hp:Jf t p=0) (hq:Jf t q=0) (hr:Jf t r=0) (sp:Ra p) (sq:Ra q) (h:∀x,Vu r x=true↔Vu p x=true∧Vu q x=true):DC 40000000 p q=some r:=by
 obtain⟨lp,op⟩:=Gy hp;obtain⟨lq,oq⟩:=Gy hq;obtain⟨lr,or'⟩:=Gy hr;obtain⟨np,ap⟩:=DZ op;obtain⟨nq,aq⟩:=DZ oq;obtain⟨nr,ar⟩:=DZ or';unfold DC
 obtain⟨s,h1,h2⟩:=Y7 (N:=40000000) (l:=p.cX) (Q:=fun(s:B3)=>s=r)
  (I:=fun i (s:Int×B3)=>s.1=(i:Int)∧s.2.cX=r.cX.take i)
  (s0:=((0:Int),(⟨[]⟩:B3)))
  (step:=fun(s3:Int×B3)=>
   (
    if cmp .lss s3.1 (Ar.len p.cX)=true then
     (C6 p.cX s3.1).bind fun x6=>
     (C6 q.cX s3.1).bind fun x7=>
     (Fa 40000000 x6 x7).bind fun r8=>
     (I1 s3.2.cX ([r8])).bind fun l10=>
     some (.inl (Ar.ar .add .i64 s3.1 1,{s3.2 with cX:=l10}))
    else
     some (.inr s3.2)
    :Option ((Int×B3)⊕(B3))))
  (fun i a s hx hi ⟨e1,e2⟩=>by
   obtain⟨j,S⟩:=s
   simp only at e1 e2
   subst e1;have hb:=D5 (show i<q.cX.length by omega);have hc:=D5 (show i<r.cX.length by omega)
   generalize q.cX[i]=b at hb
   generalize r.cX[i]=c at hc
   have sa:=sp _ (G1 hx);have sb:=sq _ (G1 hb);have hmul:a.length*b.length≤12*12:=V3 sa sb;obtain⟨d,k1,k2,_,k4⟩:=Ar3 (N:=40000000) (ap _ (G1 hx)).ord (aq _ (G1 hb)).ord (by omega) (by omega) (by omega) (by omega)
   have hdc:d=c:=Xf k2 (ar _ (G1 hc)).ord fun n=>by
    rw[k4,←Wr hx,←Wr hb,←h,Wr hc]
   subst hdc;rw[A1 (by simp only[C8,C9,B2];omega),E7,hx];simp only[A5];rw[E7,hb];simp only[A5];rw[k1];simp only[A5];rw[e2,L1 (by simp;omega)];refine⟨_,rfl,I6 hi (by omega),?_⟩
   show r.cX.take i++[d]=r.cX.take (i+1)
   rw[Cn,hc];rfl)
  (fun s ⟨e1,e2⟩=>by
   obtain⟨j,S⟩:=s
   simp only at e1 e2
   subst e1;refine⟨S,by rw[A3 (by simp[C8,C9])],?_⟩;obtain⟨S⟩:=S;obtain⟨R⟩:=r
   simp only at e2 lr
   rw[e2,P2 (by omega)]) ⟨rfl,by simp⟩ (by omega)
 rw[h1,h2];rfl
def Ie (q:D4):C2:=⟨q.E0,q.E1⟩
def Od {Q:List D4} (hl:Q.length≤1000) (q:D4):loopN
 (fun(s1:Int)=>
  (
   if cmp .lss s1 (Ar.len (Q.map Ie))=true then
    (C6 (Q.map Ie) s1).bind fun x3=>
    if Ar.an (cmp .eql x3.a (Ie q).a) (Ar.an (cmp .eql x3.b (Ie q).b) true)=true then
     some (.inr (.inr s1))
    else
     some (.inl (Ar.ar .add .i64 s1 1))
   else
    some (.inr (.inl ()))
   :Option ((Int)⊕(Unit⊕Int))))
 40000000 0=some (match RF (fun p=>decide (p=q)) 0 Q with|some r=>(.inr (r.1:Int))|none=>.inl ()):=by
 rw[RG (l:=Q) (p:=fun p=>decide (p=q)) (e:=.inl ()) (b:=fun i _=>.inr (i:Int)) ?_ ?_ (by omega)]
 ·cases RF (fun p=>decide (p=q)) 0 Q<;>rfl
 ·intro i x hx hi
  have hm:(Q.map Ie)[i]? =some (Ie x):=by rw[V8,hx];rfl
  rw[A1 (by simp only[C8,C9,N2,B2];omega),E7,hm];simp only[A5];rw[I6 hi (by omega)]
  by_cases h:x=q
  ·subst h;rw[A1 (by simp[Z8,CQ]),A1 (by simp)]
  rw[A3 (fun hc=>h ?_),A3 (by simpa using h)]
  simp only[Z8,CQ,Bool.and_true,H7,B2]at hc
  obtain⟨a,b⟩:=x;obtain⟨c,d⟩:=q
  unfold Ie at hc
  simp only at hc
  rw[hc.1,hc.2]
 rw[A3 (by simp[C8,C9])]
def Ys {Q:List D4} (hl:Q.length≤1000) (hn:Q.Nodup) {q:D4} {k:Nat} (hk:Q[k]? =some q):AC 40000000 (Q.map Ie) (Ie q)=some ((k:Int),Q.map Ie):=by
 unfold AC;rw[Od hl q]
 cases hf:RF (fun p=>decide (p=q)) 0 Q with
 |none=>
  have:=Qe hf q (G1 hk)
  simp at this
 |some r=>
  obtain⟨j,x⟩:=r;obtain⟨_,h2,h3,_⟩:=Qd hf
  simp only[B2]at h3
  subst h3
  have h2:Q[j]? =some x:=by simpa using h2
  have hj:=List.getElem?_eq_some_iff.1 h2;have hkk:=List.getElem?_eq_some_iff.1 hk;obtain⟨hj1,hj2⟩:=hj;obtain⟨hk1,hk2⟩:=hkk;have e:j=k:=(List.getElem_inj hn).1 (hj2.trans hk2.symm);subst e;rfl
def VT {Q:List D4} (hl:Q.length≤1000) {q:D4} (hq:q∉Q):AC 40000000 (Q.map Ie) (Ie q)=some ((Q.length:Int),(Q++[q]).map Ie):=by
 unfold AC;rw[Od hl q]
 cases hf:RF (fun p=>decide (p=q)) 0 Q with
 |some r=>
  obtain⟨j,x⟩:=r;obtain⟨_,h2,h3,_⟩:=Qd hf
  simp only[B2]at h3
  subst h3;exact absurd (G1 h2) hq
 |none=>
  simp only[A5];rw[L1 (by simp;omega),C9];simp
end Go.Ab
