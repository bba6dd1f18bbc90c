/- GVM4 GVM5 GVM6 GVM7 GVN1 GVD1 GVD2 GVD3 GVD4 GVD5 GVD6 GVR1 GVR2 GVV0 GVV1 GVV2 -/
import Derived.Test.YtjhobbohibnioaaGreatDoorE16
import Derived.Laws.Strings
set_option linter.all false
open Go.Ab.Ar (an ar cmp nt scmp)
namespace Go.Ab
theorem Lb {a b:ByteArray}:a.toList=b.toList↔a=b:=by
 rw[ByteArray.toList_eq,ByteArray.toList_eq]
 constructor
 ·intro h;obtain⟨⟨a⟩⟩:=a;obtain⟨⟨b⟩⟩:=b
  simp at h
  subst h;rfl
 intro h;rw[h]
theorem PA (a b:ByteArray):scmp .neq a b= !decide (a=b):=by
 show(!(a.toList==b.toList))=_
 by_cases h:a=b
 ·subst h;simp
 have:a.toList≠b.toList:=fun e=>h (Lb.1 e);simp[h,this]
theorem PB (a b:ByteArray):scmp .eql a b=decide (a=b):=by
 show(a.toList==b.toList)=_
 by_cases h:a=b
 ·subst h;simp
 have:a.toList≠b.toList:=fun e=>h (Lb.1 e);simp[h,this]
theorem Ab7 (N:Nat)(op:Int):Ec N op=some (if op<0∨12<op then(0,false)else if op<5 then(0,true)else if op=12 then(1,true)else(2,true)):=by
 unfold Ec;simp only[C8,X9,G5,M4,Bool.or_eq_true,decide_eq_true_eq]
 split
 ·rfl
 split
 ·rfl
 split<;>rfl
theorem YS (N:Nat) (op:Int):Dd N op=some (if op<0∨12<op then -1 else if op<5 then 0 else if op=12 then 1 else 2):=by
 have h:op<0∨op=0∨op=1∨op=2∨op=3∨op=4∨op=5∨op=6∨op=7∨op=8∨op=9∨op=10∨op=11∨op=12∨12<op:=by omega
 unfold Dd;simp only[G5]
 rcases h with h|h|h|h|h|h|h|h|h|h|h|h|h|h|h
 all_goals first
  |(subst h;rfl)
  | (have h0:op≠0:=by omega
     have h1:op≠1:=by omega
     have h2:op≠2:=by omega
     have h3:op≠3:=by omega
     have h4:op≠4:=by omega
     have h5:op≠5:=by omega
     have h6:op≠6:=by omega
     have h7:op≠7:=by omega
     have h8:op≠8:=by omega
     have h9:op≠9:=by omega
     have ha:op≠10:=by omega
     have hb:op≠11:=by omega
     have hc:op≠12:=by omega
     simp[h0,h1,h2,h3,h4,h5,h6,h7,h8,h9,ha,hb,hc,h])
theorem Ad6 (N:Nat)(op:Int):Fk N op=some (decide (op=1∨op=2∨op=3∨op=4),decide (op=1∨op=4)):=by
 unfold Fk;simp only[G5,decide_eq_true_eq]
 by_cases h1:op=1
 ·simp[h1]
 by_cases h4:op=4
 ·simp[h4]
 by_cases h2:op=2
 ·simp[h2]
 by_cases h3:op=3<;>simp[h1,h2,h3,h4]
theorem ZM (N:Nat)(op:Int):DT N op=some (decide (op=1∨op=2∨op=3∨op=4),decide (op=1∨op=4)):=by
 unfold DT;simp only[G5,M4]
 by_cases h1:op=1
 ·simp[h1]
 by_cases h4:op=4
 ·simp[h4]
 by_cases h2:op=2
 ·simp[h2]
 by_cases h3:op=3<;>simp[h1,h2,h3,h4]
def P6 (v:B3):Int:=
 if v.Kind=0∨v.Kind=1 then
  if v.Text≠⟨#[]⟩then 3
  else if v.Kind=0∧(v.Num< -1099511627776∨1099511627776<v.Num)∨v.Kind=1∧v.Num≠0∧v.Num≠1 then 2 else 0
 else if v.Kind=2 then(if v.Num≠0 then 3 else if 64<(v.Text.size:Int)then 13 else 0)else 1
theorem Vp (N:Nat) (v:B3):Y6 N v=some (P6 v):=by
 obtain⟨k,n,t⟩:=v;unfold Y6 DQ P6;simp only[G5,K2,C8,X9,K0,M4,PA,Po]
 by_cases h0:k=0
 ·subst h0
  by_cases ht:t=⟨#[]⟩
  ·subst ht
   by_cases h1:n< -1099511627776∨1099511627776<n
   ·simp[h1]
   simp[h1];decide
  simp[ht]
 by_cases h1:k=1
 ·subst h1
  by_cases ht:t=⟨#[]⟩
  ·subst ht
   by_cases h2:n=0
   ·simp[h2];decide
   by_cases h3:n=1
   ·simp[h3];decide
   simp[h2,h3]
  simp[ht]
 by_cases h2:k=2
 ·subst h2
  by_cases hn:n=0
  ·simp[hn];split<;>rfl
  simp[hn]
 simp[h0,h1,h2]
theorem TO (N:Nat) (v:B3):Df N v=some (P6 v):=by
 obtain⟨k,n,t⟩:=v;unfold Df P6;simp only[G5,K2,C8,X9,K0,M4,PA,Po]
 by_cases h0:k=0
 ·subst h0
  by_cases ht:t=⟨#[]⟩
  ·subst ht
   by_cases h1:n< -1099511627776∨1099511627776<n
   ·simp[h1]
   simp[h1]
  simp[ht]
 by_cases h1:k=1
 ·subst h1
  by_cases ht:t=⟨#[]⟩
  ·subst ht
   by_cases h2:n=0
   ·simp[h2]
   by_cases h3:n=1
   ·simp[h3]
   have:n<0∨1<n:=by omega
   simp[h2,h3,this]
  simp[ht]
 by_cases h2:k=2
 ·subst h2
  by_cases hn:n=0
  ·simp[hn];split<;>rfl
  simp[hn]
 have:k<0∨2<k:=by omega
 simp[h0,h1,h2,this]
theorem Vu (N:Nat)(k:Int)(v:B3):Eb N k v=some (decide (v.Kind=0∨k=4∨k=5)):=by
 unfold Eb;simp only[G5,M4]
 by_cases h1:v.Kind=0<;>by_cases h2:k=4<;>by_cases h3:k=5<;>simp[h1,h2,h3]
theorem TQ (N:Nat)(k:Int)(v:B3)(h:k≠0):De N k v=some (decide (v.Kind=0∨k=4∨k=5)):=by
 unfold De;simp only[G5,M4]
 by_cases h1:v.Kind=0<;>by_cases h2:k=4<;>by_cases h3:k=5<;>simp[h,h1,h2,h3]
def Zh (op:Int):Bool:=decide (op=1∨op=2∨op=3∨op=4)
def Zi (op:Int):Bool:=decide (op=1∨op=4)
noncomputable def Uq (x:B1):Bool:=Ar.or (an (Zh x.Op) (Ar.or (cmp .lss x.Var 0) (cmp .geq x.Var 16))) (an (Zi x.Op) (Ar.or (cmp .lss x.Field 0) (cmp .geq x.Field 8)))
noncomputable def LN (x:B1):Bool:=an (cmp .eql x.Op 4) (Ar.or (cmp .lss x.Kind 1) (cmp .gtr x.Kind 5))
noncomputable def MN (v:B3):Bool:=an (cmp .eql v.Kind 0) (an (cmp .eql v.Num 0) (an (scmp .eql v.Text (⟨#[]⟩)) true))
noncomputable def EX (x:B1):Bool:=Ar.or (nt (decide (x.Value.Kind=0∨x.Kind=4∨x.Kind=5))) (an (cmp .eql x.Kind 1) (nt (MN x.Value)))
noncomputable def DY (x:B1):Bool:=Ar.or (Ar.or (Ar.or (an (nt (Zh x.Op)) (cmp .neq x.Var 0)) (an (nt (Zi x.Op)) (cmp .neq x.Field 0))) (an (nt (cmp .eql x.Op 4)) (cmp .neq x.Kind 0))) (an (nt (Ar.or (cmp .eql x.Op 4) (cmp .eql x.Op 0))) (nt (MN x.Value)))
noncomputable def FJ (x:B1):Int:=
 if x.Op<0∨12<x.Op then 1
 else if(x.cK.length:Int)≠(if x.Op<5 then 0 else if x.Op=12 then 1 else 2)then 15
 else if Uq x=true then 2
 else if LN x=true then 1
 else if(x.Op=4∨x.Op=0)∧P6 x.Value≠0 then P6 x.Value
 else if x.Op=4∧EX x=true then 9
 else if DY x=true then 3 else 0
theorem Uw (N:Nat) (x:B1):Cx N x=some (FJ x):=by
 unfold Cx FJ;rw[YS,ZM];simp only[Option.bind_some]
 by_cases h0:x.Op<0∨12<x.Op
 ·rw[if_pos h0,if_pos h0];rfl
 rw[if_neg h0,if_neg h0]
 have ha:¬(cmp .lss (if x.Op<5 then 0 else if x.Op=12 then 1 else 2) 0=true):=by
  rw[C8];simp only[decide_eq_true_eq];split
  ·omega
  split<;>omega
 rw[if_neg ha]
 by_cases h1:(x.cK.length:Int)≠(if x.Op<5 then 0 else if x.Op=12 then 1 else 2)
 ·rw[if_pos h1,if_pos (by simp[K2,C0,h1])]
 rw[if_neg h1,if_neg (by simp only[K2,C0];simpa using h1)]
 change (if Uq x=true then some 2 else _)=_
 by_cases h2:Uq x=true
 ·rw[if_pos h2,if_pos h2]
 rw[if_neg h2,if_neg h2]
 change (if LN x=true then some 1 else _)=_
 by_cases h3:LN x=true
 ·rw[if_pos h3,if_pos h3]
 rw[if_neg h3,if_neg h3];rw[TO]
 have e4:(Ar.or (cmp .eql x.Op 4) (cmp .eql x.Op 0)=true)↔(x.Op=4∨x.Op=0):=by simp[G5,M4]
 have e6:(cmp .eql x.Op 4=true)↔x.Op=4:=by simp[G5]
 by_cases h4:x.Op=4∨x.Op=0
 ·rw [if_pos (e4.2 h4)];simp only[Option.bind_some]
  by_cases h5:P6 x.Value=0
  ·have n5:¬(cmp .neq (P6 x.Value) 0=true):=by simp[K2,h5]
   have n5':¬((x.Op=4∨x.Op=0)∧P6 x.Value≠0):=fun h=>h.2 h5;rw[if_neg n5,if_neg n5'];simp only[Option.bind_some]
   by_cases h6:x.Op=4
   ·rw[if_pos (e6.2 h6)]
    have hk:x.Kind≠0:=by
     intro e;apply h3;simp[LN,K0,M4,G5,C8,h6,e]
    rw[TQ N _ _ hk];simp only[Option.bind_some]
    change (if EX x=true then some 9 else if DY x=true then some 3 else some 0)=_
    by_cases h7:EX x=true
    ·rw[if_pos h7,if_pos (show x.Op=4∧EX x=true from⟨h6,h7⟩)]
    rw[if_neg h7,if_neg (show¬(x.Op=4∧EX x=true)from fun h=>h7 h.2)]
    by_cases h8:DY x=true
    ·rw[if_pos h8,if_pos h8]
    rw[if_neg h8,if_neg h8]
   rw[if_neg (show¬(cmp .eql x.Op 4=true)from fun h=>h6 (e6.1 h)),if_neg (show¬(x.Op=4∧EX x=true)from fun h=>h6 h.1)]
   change (if DY x=true then some 3 else some 0)=_
   by_cases h8:DY x=true
   ·rw[if_pos h8,if_pos h8]
   rw[if_neg h8,if_neg h8]
  have n5:cmp .neq (P6 x.Value) 0=true:=by simp[K2,h5]
  rw[if_pos n5,if_pos (show(x.Op=4∨x.Op=0)∧P6 x.Value≠0 from⟨h4,h5⟩)];rfl
 rw[if_neg (show¬(Ar.or (cmp .eql x.Op 4) (cmp .eql x.Op 0)=true)from fun h=>h4 (e4.1 h)),if_neg (show¬((x.Op=4∨x.Op=0)∧P6 x.Value≠0)from fun h=>h4 h.1)];simp only[Option.bind_some];have h6:¬x.Op=4:=fun e=>h4 (.inl e);rw[if_neg (show¬(cmp .eql x.Op 4=true)from fun h=>h6 (e6.1 h)),if_neg (show¬(x.Op=4∧EX x=true)from fun h=>h6 h.1)]
 change (if DY x=true then some 3 else some 0)=_
 by_cases h8:DY x=true
 ·rw[if_pos h8,if_pos h8]
 rw[if_neg h8,if_neg h8]
theorem Wa (N:Nat) (x:B1):DM N x=some (FJ x):=by
 unfold DM FJ;rw[Ab7,Ad6];simp only[Option.bind_some]
 by_cases h0:x.Op<0∨12<x.Op
 ·rw[if_pos h0,if_pos h0];rfl
 rw[if_neg h0,if_neg h0]
 have ha:(if x.Op<5 then((0:Int),true)else if x.Op=12 then(1,true)else(2,true))=((if x.Op<5 then 0 else if x.Op=12 then 1 else 2),true):=by
  split
  ·rfl
  split<;>rfl
 rw[ha];rw[if_neg (by simp[V3])]
 by_cases h1:(x.cK.length:Int)≠(if x.Op<5 then 0 else if x.Op=12 then 1 else 2)
 ·rw[if_pos h1,if_pos (by simp[K2,C0,h1])]
 rw[if_neg h1,if_neg (by simp only[K2,C0];simpa using h1)]
 change (if Uq x=true then some 2 else _)=_
 by_cases h2:Uq x=true
 ·rw[if_pos h2,if_pos h2]
 rw[if_neg h2,if_neg h2]
 change (if LN x=true then some 1 else _)=_
 by_cases h3:LN x=true
 ·rw[if_pos h3,if_pos h3]
 rw[if_neg h3,if_neg h3];unfold Ci;rw[Vp]
 have e4:(Ar.or (cmp .eql x.Op 4) (cmp .eql x.Op 0)=true)↔(x.Op=4∨x.Op=0):=by simp[G5,M4]
 have e6:(cmp .eql x.Op 4=true)↔x.Op=4:=by simp[G5]
 by_cases h4:x.Op=4∨x.Op=0
 ·rw[if_pos (e4.2 h4)];simp only[Option.bind_some]
  by_cases h5:P6 x.Value=0
  ·have n5:¬(cmp .neq (P6 x.Value) 0=true):=by simp[K2,h5]
   have n5':¬((x.Op=4∨x.Op=0)∧P6 x.Value≠0):=fun h=>h.2 h5;rw[if_neg n5,if_neg n5']
   by_cases h6:x.Op=4
   ·rw[if_pos (e6.2 h6),Vu];simp only[Option.bind_some]
    change (((if EX x=true then some 9 else some 0):Option Int).bind _).bind _=_
    by_cases h7:EX x=true
    ·rw[if_pos h7,if_pos (show x.Op=4∧EX x=true from⟨h6,h7⟩)];rfl
    rw[if_neg h7,if_neg (show¬(x.Op=4∧EX x=true)from fun h=>h7 h.2)]
    change (if DY x=true then some 3 else some 0)=_
    by_cases h8:DY x=true
    ·rw[if_pos h8,if_pos h8]
    rw[if_neg h8,if_neg h8]
   rw[if_neg (show¬(cmp .eql x.Op 4=true)from fun h=>h6 (e6.1 h)),if_neg (show¬(x.Op=4∧EX x=true)from fun h=>h6 h.1)]
   change (if DY x=true then some 3 else some 0)=_
   by_cases h8:DY x=true
   ·rw[if_pos h8,if_pos h8]
   rw[if_neg h8,if_neg h8]
  have n5:cmp .neq (P6 x.Value) 0=true:=by simp[K2,h5]
  rw[if_pos n5,if_pos (show(x.Op=4∨x.Op=0)∧P6 x.Value≠0 from⟨h4,h5⟩)];simp only[Option.bind_some];rw[if_pos n5];rfl
 rw[if_neg (show¬(Ar.or (cmp .eql x.Op 4) (cmp .eql x.Op 0)=true)from fun h=>h4 (e4.1 h)),if_neg (show¬((x.Op=4∨x.Op=0)∧P6 x.Value≠0)from fun h=>h4 h.1)];have h6:¬x.Op=4:=fun e=>h4 (.inl e);rw[if_neg (show¬(x.Op=4∧EX x=true)from fun h=>h6 h.1)]
 change (if DY x=true then some 3 else some 0)=_
 by_cases h8:DY x=true
 ·rw[if_pos h8,if_pos h8]
 rw[if_neg h8,if_neg h8]
end Go.Ab
namespace Go.Ab
theorem P4 {a b:Int}(h:b<a):cmp .gtr a b=true:=by rw[X9];exact decide_eq_true h
theorem M5 {a b:Int}(h:¬b<a):¬(cmp .gtr a b=true):=by rw[X9];simpa using h
theorem O2 {a b:Int}(h:a≠b):cmp .neq a b=true:=by rw[K2];simpa using h
theorem R6 {a b:Int}(h:a=b):¬(cmp .neq a b=true):=by rw[K2];simpa using h
noncomputable def P0 (x:B1):Int:=if 64<x.pre.length then 5 else if 12<x.dep then 12 else W8 FJ x.pre
theorem UP {N:Nat}(hN:40000000≤N){x:B1}(hb:x.bulk≤16777216):CC N x=some (P0 x):=by
 unfold CC P0;rw[TS hN N x (by omega) hb];simp only[Option.bind_some]
 by_cases h1:64<x.pre.length
 ·rw[if_pos h1,if_pos (P4 (by omega))]
 rw[if_neg h1,if_neg (M5 (by omega))]
 by_cases h2:12<x.dep
 ·rw[if_pos h2,if_pos (P4 (by omega))]
 rw[if_neg h2,if_neg (M5 (by omega)),Vo hN N x (by omega) hb fun y _=>Wa N y];rfl
theorem Sy {N:Nat}(hN:40000000≤N){x:B1}(hb:x.bulk≤16777216):BH N x=some (P0 x):=by
 unfold BH P0;obtain⟨r,h0,c1,c2,c3⟩:=QF hN 64 N x (by omega) hb;rw[h0];simp only[Option.bind_some]
 by_cases h1:64<x.pre.length
 ·rw[if_pos h1,if_pos (P4 (by omega))]
 rw[if_neg h1,if_neg (M5 (by omega)),Mg hN N x (by omega) hb];simp only[Option.bind_some]
 by_cases h2:12<x.dep
 ·rw[if_pos h2,if_pos (P4 (by omega))]
 rw[if_neg h2,if_neg (M5 (by omega)),Uv hN (fun y=>Uw N y) N x (by omega) hb];rfl
noncomputable def LS (a b:B1):Bool:=Ar.or (Ar.or (Ar.or (Ar.or (Ar.or (cmp .neq a.Op b.Op) (cmp .neq a.Var b.Var)) (cmp .neq a.Field b.Field)) (cmp .neq a.Kind b.Kind)) (nt (an (cmp .eql a.Value.Kind b.Value.Kind) (an (cmp .eql a.Value.Num b.Value.Num) (an (scmp .eql a.Value.Text b.Value.Text) true))))) (cmp .neq (Ar.len a.cK) (Ar.len b.cK))
theorem MZ (N:Nat):∀(n:Nat) (a b:B1),DN N n a b=P7 N n a b
 |0,_,_=>rfl
 |n+1,a,b=>by
  unfold DN P7;simp only[MZ N n]
theorem MY {N:Nat} (hN:40000000≤N) (x:B1):∃b,P7 N N x (⟨0,[],0,0,0,(⟨0,0,⟨#[]⟩⟩:B3)⟩:B1)=some b:=by
 obtain⟨M,rfl⟩:∃M,N=M+1:=⟨N - 1,by omega⟩;rw[P7];generalize hz:(⟨0,[],0,0,0,(⟨0,0,⟨#[]⟩⟩:B3)⟩:B1)=z
 change ∃b,(if LS x z=true then some false else _)=some b
 by_cases h:LS x z=true
 ·rw[if_pos h];exact⟨_,rfl⟩
 rw[if_neg h]
 have hlen:x.cK.length=0:=by
  subst hz
  simp only[LS,M4,K2,C0,List.length_nil]at h
  simp at h
  simpa using h.2
 have:x.cK=[]:=List.length_eq_zero_iff.1 hlen;refine⟨true,?_⟩;rw[show M+1=(M+1 - 1)+1 by omega];simp only[loopN,this,C8,C0];rfl
end Go.Ab
namespace Go.Ab
def Di (u:Bool)(n m:Int):Bool:=u&&(decide (n<0)||decide (m<n))
def N8 (u:Bool)(n:Int):Bool:=u||decide (n=0)
theorem Hf (N:Nat)(u:Bool)(n m:Int):R5 N u n m=some (!Di u n m):=by
 unfold R5;simp only[M4,K0,V3,Ak,Ac,Di];cases u
 ·rfl
 by_cases h1:n<0<;>by_cases h2:m<n<;>simp[h1,h2]<;>omega
theorem TP (N:Nat)(u:Bool)(n:Int):K8 N u n=some (N8 u n):=rfl
theorem Ab6 (N:Nat)(u:Bool)(n m:Int):Y2 N u n m=some (Di u n m):=rfl
noncomputable def Ii (s:J5)(x:A0)(sz:Bool):Int:=
 if Di s.cN x.Typ 15=true then 2
 else if Di s.cN x.Var 15=true then 2
 else if Di s.scope x.cO 63=true then 2
 else if Di s.span x.Span 1099511627776=true then 2
 else if s.cond=true∧P0 x.cL≠0 then P0 x.cL
 else if(s.cond||sz)=true∧N8 s.cN x.Typ=true∧N8 s.cN x.Var=true∧N8 s.scope x.cO=true∧N8 s.span x.Span=true then 0 else 3
structure Jp (N:Nat) (x:A0) (s:J5) (ng:Bool):Prop where
 tab:C1 G6 x.Op=some s
 var:U9 N x=some s.cN
 neg:X3 N x=some ng
 tim:U0 N x=some s.span
 con:Ad N x=some s.cond
 sco:s.scope=(ng||s.span)
 ari:Db N x=some (decide (s.cR≤x.cK.length∧(x.cK.length:Int)≤s.most))
theorem Ab0 (n k:Int):decide (n=k)=(decide (k≤n)&&decide (n≤k)):=by
 rw[←Bool.decide_and];exact decide_eq_decide.2 ⟨fun h=>by omega,fun h=>by omega⟩
theorem Lm (N:Nat) (x:A0) (h0:0≤x.Op) (h1:x.Op≤10) (hl:x.cK.length≤64):∃s ng,Jp N x s ng:=by
 obtain⟨op,args,typ,var,scope,span,c⟩:=x
 simp only at h0 h1 hl
 have h:op=0∨op=1∨op=2∨op=3∨op=4∨op=5∨op=6∨op=7∨op=8∨op=9∨op=10:=by omega
 rcases h with h|h|h|h|h|h|h|h|h|h|h
 all_goals
  subst h;refine⟨_,_,rfl,rfl,rfl,rfl,rfl,rfl,?_⟩;unfold Db;simp only[G5,Ak,C0];simp
  try first|omega|exact Ab0 _ _
theorem Ae5 {x:A0}(h0:0≤x.Op)(h1:x.Op≤10):¬(Ar.or (cmp .lss x.Op 0) (cmp .geq x.Op 11)=true):=by
 simp only[M4,C8,Ak,Bool.or_eq_true,decide_eq_true_eq];omega
theorem ZU {x:A0}(h0:0≤x.Op)(h1:x.Op≤10):¬(Ar.or (cmp .lss x.Op 0) (cmp .gtr x.Op 10)=true):=by
 simp only[M4,C8,X9,Bool.or_eq_true,decide_eq_true_eq];omega
theorem Zs {x:A0}(h:¬(0≤x.Op∧x.Op≤10)):Ar.or (cmp .lss x.Op 0) (cmp .geq x.Op 11)=true∧Ar.or (cmp .lss x.Op 0) (cmp .gtr x.Op 10)=true:=by
 simp only[M4,C8,Ak,X9,Bool.or_eq_true,decide_eq_true_eq];omega
theorem UO {N:Nat} (hN:40000000≤N) {x:A0} (hb:x.cL.bulk≤16777216) (h0:0≤x.Op) (h1:x.Op≤10) {s:J5} {ng:Bool} (hs:Jp N x s ng) {sz:Bool}
 (hz:P7 N N x.cL (⟨0,[],0,0,0,(⟨0,0,⟨#[]⟩⟩:B3)⟩:B1)=some sz):
 Q5 N x=some (if s.cR≤x.cK.length∧(x.cK.length:Int)≤s.most then Ii s x sz else 15):=by
 unfold Q5;rw[if_neg (Ae5 h0 h1),hs.tab];simp only[Option.bind_some]
 by_cases ha:s.cR≤x.cK.length∧(x.cK.length:Int)≤s.most
 ·rw [if_pos ha,if_neg (by simp only[M4,C8,X9,C0,Bool.or_eq_true,decide_eq_true_eq];omega)];rw[Hf,Hf,Hf,Hf,UP hN hb,MZ,hz];simp only[TP,Option.bind_some];unfold Ii;generalize Di s.cN x.Typ 15=b1;generalize Di s.cN x.Var 15=b2;generalize Di s.scope x.cO 63=b3;generalize Di s.span x.Span 1099511627776=b4;generalize N8 s.cN x.Typ=c1;generalize N8 s.cN x.Var=c2;generalize N8 s.scope x.cO=c3;generalize N8 s.span x.Span=c4;generalize P0 x.cL=ec
  cases b1 with
  |true=>rfl
  | false =>
   cases b2 with
   |true=>rfl
   | false =>
    cases b3 with
    |true=>rfl
    | false=>
     cases b4 with
     |true=>rfl
     | false=>
      cases s.cond with
      | false=>
       cases sz with
       |false=>rfl
       | true=>
        cases c1 with
        |false=>rfl
        | true=>
         cases c2 with
         |false=>rfl
         | true=>
          cases c3 with
          |false=>rfl
          |true=>
           cases c4<;>rfl
      | true=>
       by_cases he:ec=0
       ·subst he
        cases c1 with
        |false=>cases sz<;>rfl
        | true=>
         cases c2 with
         |false=>cases sz<;>rfl
         | true=>
          cases c3 with
          |false=>cases sz<;>rfl
          |true=>
           cases c4<;>cases sz<;>rfl
       simp[V3,O2 he,he]
 rw[if_neg ha,if_pos (by simp only[M4,C8,X9,C0,Bool.or_eq_true,decide_eq_true_eq];omega)]
theorem LO (u:Bool)(n:Int):an (nt u) (cmp .neq n 0)= !N8 u n:=by
 simp only[K0,V3,K2,N8,Bool.not_or]
theorem Tr (u w:Bool)(t v sc:Int):Ar.or (an (nt u) (Ar.or (cmp .neq t 0) (cmp .neq v 0))) (an (nt w) (cmp .neq sc 0))=((!N8 u t|| !N8 u v)|| !N8 w sc):=by
 rw[LO];simp only[M4,K0,V3,K2,N8];cases u<;>simp
theorem FO {N:Nat} (hN:40000000≤N) {x:A0} (hb:x.cL.bulk≤16777216) (h0:0≤x.Op) (h1:x.Op≤10) {s:J5} {ng:Bool} (hs:Jp N x s ng) {sz:Bool}
 (hz:P7 N N x.cL (⟨0,[],0,0,0,(⟨0,0,⟨#[]⟩⟩:B3)⟩:B1)=some sz):
 V0 N x=some (if s.cR≤x.cK.length∧(x.cK.length:Int)≤s.most then Ii s x sz else 15):=by
 unfold V0;rw[if_neg (ZU h0 h1),hs.ari,hs.var,hs.neg,hs.tim,hs.con,Sy hN hb,hz];simp only[Option.bind_some]
 by_cases ha:s.cR≤x.cK.length∧(x.cK.length:Int)≤s.most
 ·rw [if_pos ha,if_neg (by simp[V3,ha])];have sco:=hs.sco;simp only[Ab6,Option.bind_some];cases ng
  ·rw [if_neg (by simp)]
   simp only[Bool.false_or]at sco
   rw[Tr,LO];unfold Ii;rw[sco];generalize Di s.cN x.Typ 15=b1;generalize Di s.cN x.Var 15=b2;generalize Di s.span x.cO 63=b3;generalize Di s.span x.Span 1099511627776=b4;generalize N8 s.cN x.Typ=c1;generalize N8 s.cN x.Var=c2;generalize N8 s.span x.cO=c3;generalize N8 s.span x.Span=c4;generalize P0 x.cL=ec
   cases b1 with
   |true=>rfl
   | false=>
    cases b2 with
    |true=>rfl
    | false=>
     cases b3 with
     |true=>rfl
     | false=>
      cases b4 with
      |true=>rfl
      | false=>
       cases s.cond with
       |false=>cases sz<;>cases c1<;>cases c2<;>cases c3<;>cases c4<;>rfl
       |true=>
        by_cases he:ec=0
        ·subst he;cases sz<;>cases c1<;>cases c2<;>cases c3<;>cases c4<;>rfl
        simp[O2 he,he]
  rw[if_pos rfl]
  simp only[Bool.true_or]at sco
  rw[Tr,LO];unfold Ii;rw[sco];generalize Di s.cN x.Typ 15=b1;generalize Di s.cN x.Var 15=b2;generalize Di true x.cO 63=b3;generalize Di s.span x.Span 1099511627776=b4;generalize N8 s.cN x.Typ=c1;generalize N8 s.cN x.Var=c2;generalize N8 true x.cO=c3;generalize N8 s.span x.Span=c4;generalize P0 x.cL=ec
  cases b1 with
  |true=>rfl
  | false=>
   cases b2 with
   |true=>rfl
   | false=>
    cases b3 with
    |true=>rfl
    | false=>
     cases b4 with
     |true=>rfl
     | false=>
      cases s.cond with
      |false=>cases sz<;>cases c1<;>cases c2<;>cases c3<;>cases c4<;>rfl
      |true=>
       by_cases he:ec=0
       ·subst he;cases sz<;>cases c1<;>cases c2<;>cases c3<;>cases c4<;>rfl
       simp[O2 he,he]
 rw[if_neg ha,if_pos (by simp only[V3,decide_eq_false ha];rfl)]
end Go.Ab
namespace Go.Ab
mutual
theorem EB :∀(x y:A0),y∈x.pre→y.bulk≤x.bulk∧y.pre.length≤x.pre.length
 |⟨op,args,typ,var,scope,span,c⟩,y,h=>by
  rw[A0.pre]at h
  rcases List.mem_cons.1 h with rfl|h
  ·exact⟨Nat.le_refl _,Nat.le_refl _⟩
  have:=LI args y h;simp only[A0.bulk,A0.pre,List.length_cons];omega
theorem LI :∀(l:List A0) (y:A0),y∈A0.pres l→y.bulk≤A0.bulks l∧y.pre.length≤(A0.pres l).length
 |[],y,h=>by simp[A0.pres]at h
 |a::l,y,h=>by
  rw[A0.pres]at h
  rcases List.mem_append.1 h with h|h
  ·have:=EB a y h;simp only[A0.bulks,A0.pres,List.length_append];omega
  have:=LI l y h;simp only[A0.bulks,A0.pres,List.length_append];omega
end
theorem NI :∀l:List A0,l.length≤(A0.pres l).length
 |[]=>Nat.le_refl _
 |a::l=>by
  have:=NI l;simp only[A0.pres,A0.pre_eq a,List.length_append,List.length_cons];omega
theorem Eg (x:A0):x.cK.length<x.pre.length:=by
 rw[A0.pre_eq];have:=NI x.cK;simp only[List.length_cons];omega
noncomputable def AL (N:Nat)(y:A0):Int:=(V0 N y).getD 0
theorem DL {N:Nat} (hN:40000000≤N) {y:A0} (hb:y.bulk≤16777216) (hl:y.cK.length≤64):Q5 N y=some (AL N y)∧V0 N y=some (AL N y):=by
 have hc:y.cL.bulk≤16777216:=by have:=A0.bulk_eq y;omega
 have key:∃r,Q5 N y=some r∧V0 N y=some r:=by
  by_cases h:0≤y.Op∧y.Op≤10
  ·obtain⟨s,ng,hs⟩:=Lm N y h.1 h.2 hl;obtain⟨sz,hz⟩:=MY hN y.cL;exact⟨_,UO hN hc h.1 h.2 hs hz,FO hN hc h.1 h.2 hs hz⟩
  obtain⟨h1,h2⟩:=Zs h;exact⟨1,by unfold Q5;rw[if_pos h1],by unfold V0;rw[if_pos h2]⟩
 obtain⟨r,h1,h2⟩:=key
 have e:AL N y=r:=by unfold AL;rw[h2];rfl
 rw[e];exact⟨h1,h2⟩
noncomputable def P3 (N:Nat)(x:A0):Int:=if 64<x.pre.length then 5 else if 12<x.dep then 12 else W8 (AL N) x.pre
theorem GB {N:Nat}(hN:40000000≤N){x:A0}(hb:x.bulk≤16777216):N4 N x=some x.pre:=by
 unfold N4 Z7;rw[Xz hN N x (by omega) hb];simp[Ao]
theorem XM {N:Nat}(hN:40000000≤N){x:A0}(hb:x.bulk≤16777216):W4 N x=some (P3 N x):=by
 unfold W4 P3;rw[XG hN N x (by omega) hb];simp only[Option.bind_some]
 by_cases h1:64<x.pre.length
 ·rw[if_pos h1,if_pos (P4 (by omega))]
 rw[if_neg h1,if_neg (M5 (by omega))]
 by_cases h2:12<x.dep
 ·rw[if_pos h2,if_pos (P4 (by omega))]
 rw[if_neg h2,if_neg (M5 (by omega)),GB hN hb];simp only[Option.bind_some];rw[Nf (f:=AL N) fun y hy=>(DL hN (by have:=EB x y hy;omega) (by have:=EB x y hy;have:=Eg y;omega)).1]
 by_cases h3:W8 (AL N) x.pre=0
 ·rw[if_pos h3];simp[h3]
 rw[if_neg h3];rfl
theorem VN {N:Nat} (hN:40000000≤N) {x:A0} (hb:x.bulk≤16777216):Ae N x=some (P3 N x):=by
 unfold Ae P3;obtain⟨r,h0,c1,c2,c3⟩:=Pf hN 64 N x (by omega) hb;rw[h0];simp only[Option.bind_some]
 by_cases h1:64<x.pre.length
 ·rw[if_pos h1,if_pos (P4 (by omega))]
 rw[if_neg h1,if_neg (M5 (by omega)),QD hN N x (by omega) hb];simp only[Option.bind_some]
 by_cases h2:12<x.dep
 ·rw[if_pos h2,if_pos (P4 (by omega))]
 rw[if_neg h2,if_neg (M5 (by omega)),LC hN N x (by omega) hb];simp only[Option.bind_some];rw[N5 x.pre (by omega) (mk:=fun(_:Unit) i=>i) (body:=Bj (V0 N)) (fin:=fun _=>.inl ()) (s:=()) (by omega) ?_ ?_]
 ·rw[Ag (f:=AL N) fun y hy=>(DL hN (by have:=EB x y hy;omega) (by have:=EB x y hy;have:=Eg y;omega)).2]
  by_cases h3:W8 (AL N) x.pre=0
  ·simp[h3]
  simp[h3]
 ·intro s i a ha hi;have e:ar .add .i64 (i:Int) 1=i+1:=D4 (by omega) (by omega);simp only[C8,C0,hi,decide_true,if_true,F2,ha,Option.bind_some,e,Bj,K2]
  cases V0 N a with
  |none=>rfl
  |some r=>by_cases h:r=0<;>simp[h]
 intro s;simp[C8,C0]
end Go.Ab
namespace Go.Ab
def UW (N:Nat)(x:A0):Prop:=∀y∈x.pre,AL N y=0
theorem HY {a y:A0} (hy:y∈a.pre):∀l:List A0,a∈l→y∈A0.pres l
 |[],h=>by simp at h
 |b::l,h=>by
  rcases List.mem_cons.1 h with rfl|h
  ·simp[A0.pres,hy]
  simp[A0.pres,HY hy l h]
theorem UW.arg {N:Nat}{x a:A0}(h:UW N x)(ha:a∈x.cK):UW N a:=fun y hy=>h y (by
 rw[A0.pre_eq];exact List.mem_cons_of_mem _ (HY hy _ ha))
theorem BY {x a:A0}(ha:a∈x.cK):a.pre.length<x.pre.length:=by
 have:=(LI x.cK a (HY (by rw[A0.pre_eq];simp) _ ha)).2;rw[A0.pre_eq x];simp only[List.length_cons];omega
theorem Xh {N:Nat} (hN:40000000≤N) {y:A0} (hb:y.bulk≤16777216) (hl:y.cK.length≤64) (h:AL N y=0) (ho:y.Op=1∨y.Op=7∨y.Op=8∨y.Op=9∨y.Op=10):∃a r,y.cK=a::r:=by
 have hc:y.cL.bulk≤16777216:=by have:=A0.bulk_eq y;omega
 obtain⟨s,ng,hs⟩:=Lm N y (by omega) (by omega) hl;obtain⟨sz,hz⟩:=MY hN y.cL;have h1:=FO hN hc (by omega) (by omega) hs hz
 rw[(DL hN hb hl).2,h]at h1
 have h2:s.cR≤y.cK.length:=by
  have h1:=Option.some.inj h1
  by_cases hc:s.cR≤y.cK.length∧(y.cK.length:Int)≤s.most
  ·exact hc.1
  rw[if_neg hc]at h1;cases h1
 have h3:1≤s.cR:=by
  have ht:=hs.tab
  rcases ho with h|h|h|h|h<;>rw[h]at ht<;>cases ht<;>decide
 match he:y.cK,h2 with
 |[],h2=>simp at h2;omega
 |a::r,_=>exact⟨a,r,rfl⟩
theorem R8 {a b:Int}(h:a=b):cmp .eql a b=true:=by rw[G5];exact decide_eq_true h
theorem UI {a b:Int}(h:¬a=b):cmp .eql a b=false:=by rw[G5];exact decide_eq_false h
theorem few8 {N:Nat}(hN:40000000≤N){x:B1}(hb:x.bulk≤16777216):∃b,BF N x=some b:=by
 unfold BF;obtain⟨r,h0,_⟩:=QF hN 200 N x (by omega) hb;rw[h0];simp only[Option.bind_some]
 split
 ·rw[Mg hN N x (by omega) hb];exact⟨_,rfl⟩
 exact⟨_,rfl⟩
theorem Gy {α:Type} {F:α→Option Bool}:∀(l:List α),(∀a∈l,∃b,F a=some b)→∃o,J2 (fun(_:Unit) a=>(F a).bind fun r=>if nt r=true then some (Sum.inr (Sum.inr (α:=Unit) ()))else some (.inl ())) l ()=some o
 |[],_=>⟨_,rfl⟩
 |a::l,h=>by
  obtain⟨b,hb⟩:=h a (by simp);unfold J2;rw[hb]
  cases b with
  |false=>exact⟨_,rfl⟩
  |true=>exact Gy l fun a ha=>h a (by simp[ha])
theorem few9 {N:Nat} (hN:40000000≤N) {x:A0} (hb:x.bulk≤16777216):∃b,Fb N x=some b:=by
 unfold Fb;obtain⟨r,h0,_⟩:=Pf hN 150 N x (by omega) hb;rw[h0];simp only[Option.bind_some]
 split
 ·exact⟨_,rfl⟩
 rw[QD hN N x (by omega) hb];simp only[Option.bind_some]
 split
 ·exact⟨_,rfl⟩
 rw[LC hN N x (by omega) hb];simp only[Option.bind_some];have hp:=Fz x;rw[N5 x.pre (by omega) (mk:=fun(_:Unit) i=>i) (body:=fun(_:Unit) a=>(BF N a.cL).bind fun r=>if nt r=true then some (.inr (.inr ()))else some (.inl ())) (fin:=fun _=>.inl ()) (s:=()) (by omega) ?_ ?_]
 ·obtain⟨o,ho⟩:=Gy (F:=fun(a:A0)=>BF N a.cL) x.pre fun a ha=>few8 hN (by have:=(EB x a ha).1;have:=A0.bulk_eq a;omega);rw[ho]
  cases o with
  |inl _=>exact⟨_,rfl⟩
  |inr o=>cases o<;>exact⟨_,rfl⟩
 ·intro s i a ha hi;have e:ar .add .i64 (i:Int) 1=i+1:=D4 (by omega) (by omega);simp only[C8,C0,hi,decide_true,if_true,F2,ha,Option.bind_some,e]
  cases BF N a.cL with
  |none=>rfl
  |some r=>cases r<;>rfl
 intro s;simp[C8,C0]
end Go.Ab
namespace Go.Ab
theorem LL {S R:Type} {step:S→Option (S ⊕ R)} (I:Nat→S→Prop) (Q:R→Prop):∀(k i:Nat) (s:S) (N:Nat),k<N→I i s→
 (∀j s,i≤j→j<i+k→I j s→∃o,step s=some o∧(match o with| .inl s'=>I (j+1) s'| .inr r=>Q r))→
 (∀s,I (i+k) s→∃r,step s=some (.inr r)∧Q r)→∃r,loopN step N s=some r∧Q r
 |0,i,s,N,hN,h0,_,he=>by
  obtain⟨N,rfl⟩:∃M,N=M+1:=⟨N - 1,by omega⟩;obtain⟨r,h1,h2⟩:=he s h0;exact⟨r,by simp only[loopN,h1],h2⟩
 | k+1,i,s,N,hN,h0,hs,he=>by
  obtain⟨N,rfl⟩:∃M,N=M+1:=⟨N - 1,by omega⟩;obtain⟨o,h1,h2⟩:=hs i s (Nat.le_refl _) (by omega) h0
  cases o with
  |inl s'=>
   obtain⟨r,h3,h4⟩:=LL I Q k (i+1) s' N (by omega) h2 (fun j s a b c=>hs j s (by omega) (by omega) c) (fun s h=>he s (by rw[show i+(k+1)=i+1+k by omega];exact h));exact⟨r,by simp only[loopN,h1,h3],h4⟩
  |inr r=>exact⟨r,by simp only[loopN,h1],h2⟩
noncomputable instance :DecidableEq B1:=Classical.typeDecidableEq _
noncomputable instance :DecidableEq A0:=Classical.typeDecidableEq _
theorem Tt {i:Nat}(h:i<1000000000000):ar .add .i64 (i:Int) 1=((i+1:Nat):Int):=by rw[D4 (by omega) (by omega)];omega
theorem YJ {α:Type} [DecidableEq α] {N:Nat} (l m:List α) (hl:l.length=m.length) (hs:l.length<1000000000000) (f:α→α→Option Bool) (hf:∀x∈l,∀y∈m,f x y=some (decide (x=y))) (hN:l.length<N):
 loopN (fun(i:Int)=>if cmp .lss i (Ar.len l)=true then(C1 l i).bind fun x=>(C1 m i).bind fun y=>(f x y).bind fun r=>if nt r=true then some (Sum.inr (Sum.inr (α:=Unit) ()))else some (.inl (ar .add .i64 i 1))else some (.inr (.inl ()))) N 0=some (if l=m then .inl ()else .inr ()):=by
 obtain⟨r,h1,h2⟩:=LL (step:=fun(i:Int)=>if cmp .lss i (Ar.len l)=true then(C1 l i).bind fun x=>(C1 m i).bind fun y=>(f x y).bind fun r=>if nt r=true then some (Sum.inr (Sum.inr (α:=Unit) ()))else some (.inl (ar .add .i64 i 1))else some (.inr (.inl ())))
  (fun j s=>s=(j:Int)∧l.take j=m.take j) (fun r=>r=if l=m then .inl ()else .inr ()) l.length 0 0 N hN ⟨rfl,by simp⟩
  (fun j s _ hj ⟨e,ht⟩=>by
   subst e
   simp only[Nat.zero_add]at hj
   have hj2:j<m.length:=by omega
   have e1:l[j]? =some l[j]:=by simp[hj]
   have e2:m[j]? =some m[j]:=by simp[hj2]
   simp only[C8,C0,show((j:Int)<(l.length:Int)) by omega,decide_true,if_true,F2,e1,e2,Option.bind_some,hf _ (List.getElem_mem hj) _ (List.getElem_mem hj2)]
   by_cases h:l[j]=m[j]
   ·simp only[h,decide_true,V3,Bool.not_true,Bool.false_eq_true,if_false];refine⟨_,rfl,Tt (by omega),?_⟩;rw[List.take_add_one,List.take_add_one,ht,e1,e2,h]
   simp only[h,decide_false,V3,Bool.not_false,if_true];refine⟨_,rfl,?_⟩
   rw[if_neg fun he=>h (by subst he;rfl)])
  (fun s ⟨e,ht⟩=>by
   subst e
   simp only[Nat.zero_add]at ht ⊢
   refine⟨.inl (),by simp[C8,C0],?_⟩
   rw[List.take_length,hl,List.take_length]at ht
   rw[if_pos ht])
 rw[h1,h2]
theorem IY {a b:B1}:a=b↔(a.Op=b.Op∧a.Var=b.Var∧a.Field=b.Field∧a.Kind=b.Kind∧a.Value=b.Value)∧a.cK=b.cK:=by
 cases a;cases b;simp;constructor
 ·rintro⟨h1,h2,h3,h4,h5,h6⟩;exact⟨⟨h1,h3,h4,h5,h6⟩,h2⟩
 rintro⟨⟨h1,h3,h4,h5,h6⟩,h2⟩;exact⟨h1,h2,h3,h4,h5,h6⟩
theorem UE {a b:B3}:a=b↔a.Kind=b.Kind∧a.Num=b.Num∧a.Text=b.Text:=by cases a;cases b;simp
theorem Nr (a b:B1):LS a b=true↔¬((a.Op=b.Op∧a.Var=b.Var∧a.Field=b.Field∧a.Kind=b.Kind∧a.Value=b.Value)∧a.cK.length=b.cK.length):=by
 simp only[LS,M4,K0,V3,K2,G5,PB,C0,UE,Bool.or_eq_true,Bool.not_eq_true',decide_eq_false_iff_not,Bool.and_eq_false_iff,Bool.and_true,decide_eq_true_eq,Classical.not_and_iff_not_or_not]
 constructor
 ·rintro(((((h|h)|h)|h)|h)|h)
  ·simp[h]
  ·simp[h]
  ·simp[h]
  ·simp[h]
  ·rcases h with h|h|h<;>simp[h]
  right;omega
 rintro((h|h|h|h|h)|h)
 ·simp[h]
 ·simp[h]
 ·simp[h]
 ·simp[h]
 ·rcases h with h|h|h<;>simp[h]
 right;omega
theorem Zo {N:Nat} (hN:40000000≤N):∀(n:Nat) (a b:B1),a.bulk≤n→a.bulk≤16777216→P7 N n a b=some (decide (a=b)):=by
 intro n
 induction n with
 |zero=>intro a b h;have:=CI a;omega
 | succ n ih=>
  intro a b hx hb;have hl:=DW a;unfold P7
  change (if LS a b=true then some false else _)=_
  by_cases h:LS a b=true
  ·rw[if_pos h]
   rw[Nr]at h
   rw[decide_eq_false];intro e;exact h ⟨(IY.1 e).1,by rw[(IY.1 e).2]⟩
  rw[if_neg h]
  rw[Nr,Classical.not_not]at h
  rw[YJ a.cK b.cK h.2 (by omega) _ (fun x hx y hy=>ih x y (by have:=Ax hx;omega) (by have:=Ax hx;omega)) (by omega)];simp only[Option.bind_some]
  by_cases he:a.cK=b.cK
  ·rw[if_pos he,decide_eq_true (IY.2 ⟨h.1,he⟩)]
  rw[if_neg he,decide_eq_false fun e=>he (IY.1 e).2]
structure Arity (y:A0):Prop where
 op:0≤y.Op∧y.Op≤10
 ev:y.Op=0→y.cK=[]
 two:1≤y.Op→y.Op≤3→2≤y.cK.length
 one:4≤y.Op→y.Op≠8→∃a,y.cK=[a]
 more:y.Op=8→∃a b,y.cK=[a,b]
end Go.Ab
namespace Go.Ab
def zE :B1:=⟨0,[],0,0,0,⟨0,0,⟨#[]⟩⟩⟩
def nd (op:Int)(args:List A0):A0:=⟨op,args,0,0,0,0,zE⟩
end Go.Ab
namespace Go.Ab
end Go.Ab
namespace Go.Ab
def wth {α:Type}[DecidableEq α](l:List α)(x:α):List α:=if x∈l then l else l++[x]
def dd {α:Type}[DecidableEq α](l:List α):List α:=l.foldl wth []
section
variable {α:Type}[DecidableEq α]
end
end Go.Ab
namespace Go.Ab
end Go.Ab
namespace Go.Ab
theorem Ig {α R:Type} (P:α→Bool) (r:R):∀l:List α,J2 (fun(_:Unit) y=>if P y=true then some (Sum.inr r)else some (.inl ())) l ()=some (if l.any P=true then .inr r else .inl ())
 |[]=>rfl
 | y::l=>by
  unfold J2
  cases h:P y with
  |true=>simp[h]
  |false=>
   simp only[Bool.false_eq_true,if_false,List.any_cons,h,Bool.false_or];exact Ig P r l
theorem UW.sub {N:Nat}{x y:A0}(h:UW N x)(hy:y∈x.pre):AL N y=0:=h y hy
theorem Vn {N:Nat} (hN:40000000≤N) {x:A0} (hb:x.bulk≤16777216):Bb N x=some (if P3 N x≠0 then P3 N x else if x.pre.any (fun y=>cmp .geq y.Op 8)=true then 1 else 0):=by
 unfold Bb;rw[XM hN hb];simp only[Option.bind_some]
 by_cases h:P3 N x=0
 ·rw[if_neg (R6 h),if_neg (by simpa using h),GB hN hb];simp only[Option.bind_some];rw[Ig (fun y:A0=>cmp .geq y.Op 8) (1:Int) x.pre]
  by_cases h2:x.pre.any (fun y=>cmp .geq y.Op 8)=true
  ·rw[if_pos h2,if_pos h2];rfl
  rw[if_neg h2,if_neg h2];rfl
 rw[if_pos (O2 h),if_pos h]
theorem Hj {N:Nat} {x:A0} (hz:P3 N x=0):x.pre.length≤64∧x.dep≤12∧UW N x:=by
 have hp:x.pre.length≤64:=by
  by_cases h:64<x.pre.length
  ·rw[P3,if_pos h]at hz;cases hz
  omega
 have hd:¬12<x.dep:=fun h=>by rw[P3,if_neg (by omega),if_pos h]at hz;cases hz
 rw[P3,if_neg (by omega),if_neg hd]at hz
 exact⟨hp,by omega,JU.1 hz⟩
theorem IM (x:A0):x∈x.pre:=by rw[A0.pre_eq];simp
theorem TE {α β:Type}{m:Option α}{F:α→Option β}{a:α}{r:Option β}(h1:m=some a)(h2:F a=r):m.bind F=r:=by rw[h1];exact h2
end Go.Ab
namespace Go.Ab
mutual
theorem Mp :∀x:B1,(∀y∈x.pre,y.Value.Text.size≤64)→x.bulk≤74*x.pre.length
 |⟨op,args,var,field,kind,v⟩,h=>by
  have h1:=Kr args fun y hy=>h y (by rw[B1.pre];exact List.mem_cons_of_mem _ hy);have h2:v.Text.size≤64:=h ⟨op,args,var,field,kind,v⟩ (by rw[B1.pre];exact List.mem_cons_self ..);simp only[B1.bulk,B1.pre,List.length_cons];omega
theorem Kr :∀l:List B1,(∀y∈B1.pres l,y.Value.Text.size≤64)→B1.bulks l≤1+74*(B1.pres l).length
 |[],_=>by simp[B1.bulks]
 |a::l,h=>by
  have h1:=Mp a fun y hy=>h y (by rw[B1.pres];exact List.mem_append_left _ hy);have h2:=Kr l fun y hy=>h y (by rw[B1.pres];exact List.mem_append_right _ hy);simp only[B1.bulks,B1.pres,List.length_append];omega
end
theorem Ia :(⟨#[]⟩:ByteArray).size=0:=rfl
theorem QW {v:B3}(h:MN v=true):v.Text.size≤64:=by
 simp only[MN,K0,G5,PB,Bool.and_eq_true,decide_eq_true_eq]at h
 rw[h.2.2.1,Ia];omega
theorem Pb {v:B3} (h:P6 v=0):v.Text.size≤64:=by
 unfold P6 at h
 by_cases h1:v.Kind=0∨v.Kind=1
 ·rw[if_pos h1]at h
  by_cases h2:v.Text≠⟨#[]⟩
  ·rw[if_pos h2]at h;cases h
  have:v.Text=⟨#[]⟩:=Classical.not_not.1 h2;rw[this,Ia];omega
 rw[if_neg h1]at h
 by_cases h2:v.Kind=2
 ·rw[if_pos h2]at h
  by_cases h3:v.Num≠0
  ·rw[if_pos h3]at h;cases h
  rw[if_neg h3]at h
  by_cases h4:64<(v.Text.size:Int)
  ·rw[if_pos h4]at h;cases h
  omega
 rw[if_neg h2]at h;cases h
theorem OF {x:B1} (h:FJ x=0):x.Value.Text.size≤64:=by
 unfold FJ at h
 by_cases h0:x.Op<0∨12<x.Op
 ·rw[if_pos h0]at h;cases h
 rw[if_neg h0]at h
 by_cases h1:(x.cK.length:Int)≠(if x.Op<5 then 0 else if x.Op=12 then 1 else 2)
 ·rw[if_pos h1]at h;cases h
 rw[if_neg h1]at h
 by_cases h2:Uq x=true
 ·rw[if_pos h2]at h;cases h
 rw[if_neg h2]at h
 by_cases h3:LN x=true
 ·rw[if_pos h3]at h;cases h
 rw[if_neg h3]at h
 by_cases h4:x.Op=4∨x.Op=0
 ·by_cases h5:P6 x.Value=0
  ·exact Pb h5
  rw[if_pos ⟨h4,h5⟩]at h;exact absurd h h5
 rw[if_neg (fun e=>h4 e.1),if_neg (fun e=>h4 (.inl e.1))]at h
 by_cases h6:DY x=true
 ·rw[if_pos h6]at h;cases h
 have h7:MN x.Value=true:=by
  have n4:¬x.Op=4:=fun e=>h4 (.inl e);have n0:¬x.Op=0:=fun e=>h4 (.inr e)
  cases hz:MN x.Value with
  |true=>rfl
  |false=>
   refine absurd ?_ h6;simp[DY,M4,K0,V3,G5,n4,n0,hz]
 exact QW h7
theorem Kz {c:B1}(h:P0 c=0):c.bulk≤4736:=by
 have hp:¬64<c.pre.length:=fun e=>by rw[P0,if_pos e]at h;cases h
 have hd:¬12<c.dep:=fun e=>by rw[P0,if_neg hp,if_pos e]at h;cases h
 rw[P0,if_neg hp,if_neg hd]at h
 have:=Mp c fun y hy=>OF (JU.1 h y hy);omega
theorem LD {N:Nat} (hN:40000000≤N) {y:A0} (hb:y.bulk≤16777216) (hl:y.cK.length≤64) (h:AL N y=0):(0≤y.Op∧y.Op≤10)∧∃s ng,Jp N y s ng∧y.cL.bulk≤4736:=by
 have hc:y.cL.bulk≤16777216:=by have:=A0.bulk_eq y;omega
 have hop:0≤y.Op∧y.Op≤10:=by
  by_cases ho:0≤y.Op∧y.Op≤10
  ·exact ho
  have h1:=(DL hN hb hl).1
  unfold Q5 at h1
  rw[if_pos (Zs ho).1,h]at h1
  cases h1
 obtain⟨s,ng,hs⟩:=Lm N y hop.1 hop.2 hl;have hz:=Zo hN N y.cL (⟨0,[],0,0,0,(⟨0,0,⟨#[]⟩⟩:B3)⟩:B1) (by omega) hc;have h1:=FO hN hc hop.1 hop.2 hs hz
 rw[(DL hN hb hl).2,h]at h1
 have h1:=Option.some.inj h1;refine⟨hop,s,ng,hs,?_⟩
 by_cases ha:s.cR≤y.cK.length∧(y.cK.length:Int)≤s.most
 ·rw[if_pos ha]at h1
  unfold Ii at h1
  by_cases e1:Di s.cN y.Typ 15=true
  ·rw[if_pos e1]at h1;cases h1
  rw[if_neg e1]at h1
  by_cases e2:Di s.cN y.Var 15=true
  ·rw[if_pos e2]at h1;cases h1
  rw[if_neg e2]at h1
  by_cases e3:Di s.scope y.cO 63=true
  ·rw[if_pos e3]at h1;cases h1
  rw[if_neg e3]at h1
  by_cases e4:Di s.span y.Span 1099511627776=true
  ·rw[if_pos e4]at h1;cases h1
  rw[if_neg e4]at h1
  by_cases e5:s.cond=true
  ·by_cases e6:P0 y.cL=0
   ·exact Kz e6
   rw[if_pos ⟨e5,e6⟩]at h1;exact absurd h1.symm e6
  rw[if_neg (fun e=>e5 e.1)]at h1
  by_cases e6:y.cL=(⟨0,[],0,0,0,(⟨0,0,⟨#[]⟩⟩:B3)⟩:B1)
  ·rw[e6];simp only[B1.bulk,B1.bulks,Ia];omega
  rw[if_neg (fun e=>by
   have:=e.1
   rw[decide_eq_false e6]at this
   simp[e5]at this)]at h1
  cases h1
 rw[if_neg ha]at h1;cases h1
end Go.Ab
namespace Go.Ab
def cnt :List (Bool×Bool×A0)→Int→Int→Bool
 |[],_,_=>true
 |y::l,v,s=>(if y.1=true then decide (y.2.2.Var=v)else true)&&(if y.2.1=true then decide (y.2.2.cO=s)else true)&&cnt l (if y.1=true then v+1 else v) (if y.2.1=true then s+1 else s)
noncomputable def Ev (y:A0):Bool:=match C1 G6 y.Op with|some s=>s.cN|none=>false
noncomputable def Ex (y:A0):Bool:=match C1 G6 y.Op with|some s=>s.scope|none=>false
noncomputable def OH (l:List A0):Bool:=cnt (l.map fun y=>(Ev y,Ex y,y)) 0 0
def Xn (N:Nat)(y:A0):Prop:=∃s ng,Jp N y s ng
theorem LU {N:Nat}(hN:40000000≤N){x:A0}(hb:x.bulk≤16777216)(hz:P3 N x=0):∀y∈x.pre,Xn N y:=fun y hy=>by
 obtain⟨hp,hd,hg⟩:=Hj hz;have h1:=EB x y hy;have h2:=Eg y;obtain⟨_,s,ng,h,_⟩:=LD hN (by omega) (by omega) (hg y hy);exact⟨s,ng,h⟩
theorem L4 {a b:Int}(h:a<b):cmp .lss a b=true:=by rw[C8];exact decide_eq_true h
theorem K9 {a b:Int}(h:¬a<b):¬(cmp .lss a b=true):=by rw[C8];simpa using h
noncomputable def Mh (s7:Bool×Int×Int)(y6:A0):Option ((Bool×Int×Int) ⊕ Unit):=
 (C1 G6 y6.Op).bind fun x11=>((if x11.cN=true then some (an s7.1 (cmp .eql y6.Var s7.2.2),ar .add .i64 s7.2.2 1)else some (s7.1,s7.2.2)):Option (Bool×Int)).bind fun s12=>if x11.scope=true then some (.inl (an s12.1 (cmp .eql y6.cO s7.2.1),ar .add .i64 s7.2.1 1,s12.2))else some (.inl (s12.1,s7.2.1,s12.2))
theorem ND {N:Nat}:∀(l:List A0),(∀y∈l,Xn N y)→∀(b:Bool) (v s:Int),0≤v→0≤s→v+l.length≤1000000→s+l.length≤1000000→
 ∃v' s',J2 Mh l (b,s,v)=some (.inl (b&&cnt (l.map fun y=>(Ev y,Ex y,y)) v s,s',v'))
 |[],_,b,v,s,_,_,_,_=>⟨v,s,by simp[J2,cnt]⟩
 |y::l,h,b,v,s,hv,hs,hv2,hs2=>by
  simp only[List.length_cons]at hv2 hs2
  obtain⟨sh,ng,ok⟩:=h y (by simp)
  have et:Ev y=sh.cN:=by unfold Ev;rw[ok.tab]
  have es:Ex y=sh.scope:=by unfold Ex;rw[ok.tab]
  have ev:ar .add .i64 v 1=v+1:=D4 (by omega) (by omega);have ess:ar .add .i64 s 1=s+1:=D4 (by omega) (by omega);have hr:=fun b v' s' h1 h2 h3 h4=>ND l (fun z hz=>h z (by simp[hz])) b v' s' h1 h2 h3 h4;simp only[List.map_cons,cnt,et,es]
  have step:∀b' v2 s2,Mh (b,s,v) y=some (.inl (b',s2,v2))→J2 Mh (y::l) (b,s,v)=J2 Mh l (b',s2,v2):=fun b' v2 s2 h=>by simp only[J2,h]
  have hst:∀b' v2 s2,(some (.inl (b',s2,v2)):Option ((Bool×Int×Int) ⊕ Unit))=(((if sh.cN=true then some (an b (cmp .eql y.Var v),ar .add .i64 v 1)else some (b,v)):Option (Bool×Int)).bind fun s12=>if sh.scope=true then some (.inl (an s12.1 (cmp .eql y.cO s),ar .add .i64 s 1,s12.2))else some (.inl (s12.1,s,s12.2)))→J2 Mh (y::l) (b,s,v)=J2 Mh l (b',s2,v2):=fun b' v2 s2 h=>step b' v2 s2 (by rw[h];unfold Mh;rw[ok.tab];rfl);cases ht:sh.cN<;>cases hc:sh.scope
  ·obtain⟨v',s',h1⟩:=hr b v s hv hs (by omega) (by omega);exact⟨v',s',by rw[hst b v s (by rw[ht,hc];rfl)];simpa using h1⟩
  ·obtain⟨v',s',h1⟩:=hr (b&&decide (y.cO=s)) v (s+1) hv (by omega) (by omega) (by omega);exact⟨v',s',by rw[hst (b&&decide (y.cO=s)) v (s+1) (by simp[ht,hc,ess,G5,K0])];simpa[Bool.and_assoc]using h1⟩
  ·obtain⟨v',s',h1⟩:=hr (b&&decide (y.Var=v)) (v+1) s (by omega) hs (by omega) (by omega);exact⟨v',s',by rw[hst (b&&decide (y.Var=v)) (v+1) s (by rw[ht,hc,ev,G5,K0];rfl)];simpa[Bool.and_assoc]using h1⟩
  obtain⟨v',s',h1⟩:=hr (b&&decide (y.Var=v)&&decide (y.cO=s)) (v+1) (s+1) (by omega) (by omega) (by omega) (by omega);exact⟨v',s',by rw[hst (b&&decide (y.Var=v)&&decide (y.cO=s)) (v+1) (s+1) (by rw[ht,hc,ev,ess,G5,G5,K0];rfl)];simpa[Bool.and_assoc]using h1⟩
theorem Un {N:Nat}(hN:40000000≤N){x:A0}(hb:x.bulk≤16777216)(hz:P3 N x=0):∃v s,Bc N x=some (v,s,OH x.pre):=by
 obtain⟨hp,hd,hg⟩:=Hj hz;obtain⟨v,s,h⟩:=ND (N:=N) x.pre (LU hN hb hz) true 0 0 (by omega) (by omega) (by omega) (by omega);unfold Bc;rw[GB hN hb];simp only[Option.bind_some];refine⟨v,s,TE h ?_⟩;simp[OH]
noncomputable def KC (N:Nat)(x:A0):Int:=if P3 N x≠0 then P3 N x else if x.pre.any (fun y=>cmp .geq y.Op 8)=true then 1 else if OH x.pre=true then 0 else 14
theorem Uo {N:Nat} (hN:40000000≤N) {x:A0} (hb:x.bulk≤16777216):X4 N x=some (KC N x):=by
 unfold X4 KC;rw[Vn hN hb];simp only[Option.bind_some]
 by_cases h:P3 N x=0
 ·rw[if_neg (show¬(P3 N x≠0) by simpa using h),if_neg (show¬(P3 N x≠0) by simpa using h)]
  by_cases h2:x.pre.any (fun y=>cmp .geq y.Op 8)=true
  ·rw[if_pos h2,if_pos h2,if_pos (O2 (by omega))]
  rw[if_neg h2,if_neg h2,if_neg (R6 rfl)];obtain⟨v,s,hr⟩:=Un hN hb h;rw[hr];simp only[Option.bind_some];cases OH x.pre<;>simp[V3]
 rw[if_pos h,if_pos (O2 h),if_pos h]
theorem Um {N:Nat}(l:List A0)(hl:l.length<N)(hs:l.length≤1000000):BW N l=some (!(l.any fun y=>cmp .geq y.Op 8)):=by
 unfold BW;rw[N5 l (by omega) (mk:=fun(_:Unit) i=>i) (body:=fun(_:Unit) a=>if cmp .geq a.Op 8=true then some (.inr (.inr ()))else some (.inl ())) (fin:=fun _=>.inl ()) (s:=()) (by omega) ?_ ?_]
 ·rw[Ig (fun y:A0=>cmp .geq y.Op 8) (Sum.inr ():Unit ⊕ Unit) l];cases h:l.any fun y=>cmp .geq y.Op 8<;>simp
 ·intro s i a ha hi;have e:ar .add .i64 (i:Int) 1=i+1:=D4 (by omega) (by omega);simp only[C8,C0,hi,decide_true,if_true,F2,ha,Option.bind_some,e];cases cmp .geq a.Op 8<;>rfl
 intro s;simp[C8,C0]
theorem Uk {N:Nat} (hN:40000000≤N) {x:A0} (hb:x.bulk≤16777216):Dc N x=some (KC N x):=by
 unfold Dc KC;rw[VN hN hb];simp only[Option.bind_some]
 by_cases h:P3 N x=0
 ·rw [if_neg (show¬(P3 N x≠0) by simpa using h),if_neg (R6 h),LC hN N x (by omega) hb];have hpb:=Fz x;obtain⟨hp,hd,hg⟩:=Hj h;simp only[Option.bind_some];rw[Um x.pre (by omega) (by omega)];simp only[Option.bind_some]
  by_cases h2:x.pre.any (fun y=>cmp .geq y.Op 8)=true
  ·rw[if_pos h2,h2,if_pos (show nt (!true)=true from rfl)]
  rw[if_neg h2,if_neg (by simp[V3,h2])];have hk:=LU hN hb h
  obtain ⟨r,k1,k2⟩:=LL (S:=Int×Int×Int) (R:=Unit ⊕ Unit) (step:=fun(s4:Int×Int×Int)=>((if cmp .lss s4.2.2 (Ar.len x.pre)=true then(C1 x.pre s4.2.2).bind fun x6=>(U9 N x6).bind fun r7=>((if r7=true then(C1 x.pre s4.2.2).bind fun x9=>if cmp .neq x9.Var s4.1=true then some (.inr ())else some (.inl (ar .add .i64 s4.1 1))else some (.inl s4.1)):Option (Int ⊕ Unit)).bind fun s8=>match s8 with
          | .inl y10=>(C1 x.pre s4.2.2).bind fun x11=>(X3 N x11).bind fun r12=>if r12=true then(C1 x.pre s4.2.2).bind fun x13=>if cmp .neq x13.cO s4.2.1=true then some (.inr (.inr ()))else some (.inl (y10,ar .add .i64 s4.2.1 1,ar .add .i64 s4.2.2 1))else(C1 x.pre s4.2.2).bind fun x14=>(U0 N x14).bind fun r15=>if r15=true then(C1 x.pre s4.2.2).bind fun x16=>if cmp .neq x16.cO s4.2.1=true then some (.inr (.inr ()))else some (.inl (y10,ar .add .i64 s4.2.1 1,ar .add .i64 s4.2.2 1))else some (.inl (y10,s4.2.1,ar .add .i64 s4.2.2 1))
          | .inr y17=>some (.inr (.inr ()))
   else some (.inr (.inl ())))
   :Option ((Int×Int×Int) ⊕ (Unit ⊕ Unit))))
   (fun j s=>s.2.2=(j:Int)∧0≤s.1∧s.1≤j∧0≤s.2.1∧s.2.1≤j∧OH x.pre=cnt ((x.pre.drop j).map fun y=>(Ev y,Ex y,y)) s.1 s.2.1)
   (fun r=>r=if OH x.pre=true then .inl ()else .inr ()) x.pre.length 0 (0,0,0) N (by omega) ⟨rfl,by simp,by simp,by simp,by simp,rfl⟩
   (fun j s _ hj ⟨e,b1,b2,b3,b4,hc⟩=>by
    obtain⟨v,sc,i⟩:=s
    simp only at e b1 b2 b3 b4 hc
    subst e
    simp only[Nat.zero_add]at hj
    have e1:C1 x.pre (j:Int)=some x.pre[j]:=by rw[F2,List.getElem?_eq_getElem hj]
    obtain⟨sh,ng,ok⟩:=hk _ (List.getElem_mem hj)
    have et:Ev x.pre[j]=sh.cN:=by unfold Ev;rw[ok.tab]
    have es:Ex x.pre[j]=sh.scope:=by unfold Ex;rw[ok.tab]
    have ev:ar .add .i64 v 1=v+1:=D4 (by omega) (by omega);have ess:ar .add .i64 sc 1=sc+1:=D4 (by omega) (by omega);have ei:ar .add .i64 (j:Int) 1=((j+1:Nat):Int):=Tt (by omega)
    rw[List.drop_eq_getElem_cons hj,List.map_cons,cnt]at hc
    simp only[et,es]at hc
    have sco:=ok.sco;rw[if_pos (L4 (by simp only[C0];omega))];simp only[e1,Option.bind_some,ok.var,ok.neg,ok.tim,ev,ess,ei]
    by_cases hv:sh.cN=true∧x.pre[j].Var≠v
    ·rw[if_pos hv.1,if_pos (O2 hv.2)];refine⟨_,rfl,?_⟩;rw[hc];simp[hv.1,hv.2]
    have hv1:((if sh.cN=true then if cmp .neq x.pre[j].Var v=true then some (.inr ())else some (.inl (v+1))else some (.inl v)):Option (Int ⊕ Unit))=some (.inl (if sh.cN=true then v+1 else v)):=by
     by_cases ht:sh.cN=true
     ·rw[if_pos ht,if_pos ht,if_neg (R6 (Classical.not_not.1 fun e=>hv ⟨ht,e⟩))]
     rw[if_neg ht,if_neg ht]
    rw[hv1];simp only[Option.bind_some]
    have hcv:(if sh.cN=true then decide (x.pre[j].Var=v)else true)=true:=by
     by_cases ht:sh.cN=true
     ·rw[if_pos ht];exact decide_eq_true (Classical.not_not.1 fun e=>hv ⟨ht,e⟩)
     rw[if_neg ht]
    rw[hcv,Bool.true_and]at hc
    have hvb:0≤(if sh.cN=true then v+1 else v)∧(if sh.cN=true then v+1 else v)≤((j+1:Nat):Int):=by split<;>omega
    generalize (if sh.cN=true then v+1 else v)=v' at hc hvb ⊢
    by_cases hs:sh.scope=true
    ·rw[if_pos hs,if_pos hs]at hc
     by_cases hsc:x.pre[j].cO=sc
     ·have hgo:0≤sc+1∧sc+1≤((j+1:Nat):Int)∧OH x.pre=cnt ((x.pre.drop (j+1)).map fun y=>(Ev y,Ex y,y)) v' (sc+1):=by
       refine⟨?_,?_,?_⟩
       ·omega
       ·omega
       rw[hc,decide_eq_true hsc,Bool.true_and]
      by_cases hng:ng=true
      ·rw[if_pos hng,if_neg (R6 hsc)];exact⟨_,rfl,rfl,hvb.1,hvb.2,hgo⟩
      have hsp:sh.span=true:=by rw[hs]at sco;simpa[hng]using sco.symm
      rw[if_neg hng,if_pos hsp,if_neg (R6 hsc)];exact⟨_,rfl,rfl,hvb.1,hvb.2,hgo⟩
     have hno:OH x.pre=false:=by rw[hc,decide_eq_false hsc,Bool.false_and]
     by_cases hng:ng=true
     ·rw[if_pos hng,if_pos (O2 hsc)];exact⟨_,rfl,by rw[hno];rfl⟩
     have hsp:sh.span=true:=by rw[hs]at sco;simpa[hng]using sco.symm
     rw[if_neg hng,if_pos hsp,if_pos (O2 hsc)];exact⟨_,rfl,by rw[hno];rfl⟩
    rw[if_neg hs,if_neg hs,Bool.true_and]at hc
    have hs0:sh.scope=false:=by simpa using hs
    rw[hs0]at sco
    have hng:¬ng=true:=fun e=>by rw[e]at sco;cases sco
    have hsp:¬sh.span=true:=fun e=>by rw[e]at sco;simp at sco
    rw[if_neg hng,if_neg hsp];refine⟨_,rfl,rfl,hvb.1,hvb.2,b3,?_,hc⟩
    show sc≤_;omega)
   (fun s ⟨e,_,_,_,_,hc⟩=>by
    obtain⟨v,sc,i⟩:=s
    simp only[Nat.zero_add]at e hc
    subst e
    rw[List.drop_length]at hc
    rw[if_neg (K9 (by simp only[C0];omega))];refine⟨_,rfl,?_⟩
    rw[hc];rfl)
  refine TE k1 ?_;subst k2;cases OH x.pre<;>rfl
 rw[if_pos h,if_pos (O2 h)]
end Go.Ab
namespace Go.Ab
end Go.Ab
namespace Go.Ab
noncomputable section
def EM :B3:=⟨0,0,⟨#[]⟩⟩
def NS (k:Int)(v:B3):Int:=if P6 v≠0 then P6 v else if v.Kind=0∨(k≠1∧k≠2∧k≠3)then 0 else 9
def Ag2 (k:Int)(a b:B3):B3:=
 if k=1 then⟨0,ar .add .i64 a.Num b.Num,⟨#[]⟩⟩else if k=2 then⟨0,Ar.mn a.Num b.Num,⟨#[]⟩⟩else if k=3 then⟨0,Ar.mx a.Num b.Num,⟨#[]⟩⟩else if k=4 then a else if k=5 then b else EM
def Zn (k:Int)(v:B3):B3:=if k=0 then EM else v
def Af9 (k:Int):List B3→B3
 |[]=>EM
 |v::l=>l.foldl (fun a b=>Ag2 k a (Zn k b)) (Zn k v)
def aggP (k:Int)(l:List B3)(o:B3):B3×Int:=
 if k<0∨5<k then(EM,1)else if 4096<l.length then(EM,5)else if W8 (NS k) l≠0 then(EM,W8 (NS k) l)else if NS k o≠0 then(EM,NS k o)
 else if k=0 then(⟨0,l.length,⟨#[]⟩⟩,0)else if l=[]∧k≠1 then(o,0)else(Af9 k l,0)
structure GoodA (k:Int) (n:Nat) (v:B3):Prop where
 c:k=0→v=EM
 s:k=1→v.Kind=0∧v.Text=⟨#[]⟩∧ -(1099511627776*(n:Int))≤v.Num∧v.Num≤1099511627776*(n:Int)
 m:k=2∨k=3→P6 v=0∧v.Kind=0
 f:k=4∨k=5→P6 v=0
end
end Go.Ab
namespace Go.Ab
noncomputable section
def Aa8 (env:Jq)(v:Int):List B8:=if v<0∨(env.cS.length:Int)≤v then[]else env.cS.getD v.toNat []
def Mc (e:B8)(k:Int):B3×Int:=if(e.Values.length:Int)≤k then(EM,6)else(e.Values.getD k.toNat EM,0)
def ZN (rows:List B8)(x:B1):B3×Int:=
 if(rows.all fun e=>decide (x.Field<(e.Values.length:Int)))=true then aggP x.Kind (rows.map fun e=>e.Values.getD x.Field.toNat EM) x.Value else(EM,6)
def Aa3 (rows:List B8)(own:Int)(ev:B8)(v:Int):Option B8:=if v≠own then rows.getLast? else some ev
def Ae0 (y:B8)(x:B1):B3×Int:=
 if x.Op=2 then(⟨0,y.Time,⟨#[]⟩⟩,0)else if(Mc y x.Field).2≠0 then(EM,(Mc y x.Field).2)else if P6 (Mc y x.Field).1≠0 then(EM,P6 (Mc y x.Field).1)else((Mc y x.Field).1,0)
def Af4 (env:Jq)(own:Int)(ev:B8)(x:B1):B3×Int:=
 if x.Op=0 then(x.Value,0)else if x.Op=3 then(⟨0,(Aa8 env x.Var).length,⟨#[]⟩⟩,0)else if x.Op=4 then ZN (Aa8 env x.Var) x
 else match Aa3 (Aa8 env x.Var) own ev x.Var with|none=>(EM,10)|some y=>Ae0 y x
end
end Go.Ab
