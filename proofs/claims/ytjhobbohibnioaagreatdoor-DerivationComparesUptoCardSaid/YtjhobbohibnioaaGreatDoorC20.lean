/- GVM4 GVM5 GVM6 GVM7 GVN1 GVD1 GVD2 GVD3 GVD4 GVD5 GVD6 GVR1 GVR2 GVV0 GVV1 GVV2 -/
import Derived.Test.YtjhobbohibnioaaGreatDoorC19
import Derived.Laws.Strings
set_option linter.all false
open Go.Ab.Ar (an cmp nt scmp)
namespace Go.Ab
theorem Px {a b:ByteArray}:a.toList=b.toList↔a=b:=by
 rw[ByteArray.toList_eq,ByteArray.toList_eq]
 constructor
 ·intro h;obtain⟨⟨a⟩⟩:=a;obtain⟨⟨b⟩⟩:=b
  simp at h
  subst h;rfl
 intro h;rw[h]
theorem NU (a b:ByteArray):scmp .neq a b= !decide (a=b):=by
 show(!(a.toList==b.toList))=_
 by_cases h:a=b
 ·subst h;simp
 have:a.toList≠b.toList:=fun e=>h (Px.1 e);simp[h,this]
theorem XZ (N:Nat)(op:Int):CQ N op=some (if op<0∨12<op then(0,false)else if op<5 then(0,true)else if op=12 then(1,true)else(2,true)):=by
 unfold CQ;simp only[G4,Z3,R8,U8,Bool.or_eq_true,decide_eq_true_eq]
 split
 ·rfl
 split
 ·rfl
 split<;>rfl
theorem WG (N:Nat) (op:Int):Ff N op=some (if op<0∨12<op then -1 else if op<5 then 0 else if op=12 then 1 else 2):=by
 have h:op<0∨op=0∨op=1∨op=2∨op=3∨op=4∨op=5∨op=6∨op=7∨op=8∨op=9∨op=10∨op=11∨op=12∨12<op:=by omega
 unfold Ff;simp only[R8]
 rcases h with h|h|h|h|h|h|h|h|h|h|h|h|h|h|h
 all_goals first
  |(subst h;rfl)
  | (have h0:op≠0:=by omega
     have h1:op≠1:=by omega
     have h2:op≠2:=by omega
     have h3:op≠3:=by omega
     have h4:op≠4:=by omega
     have h5:op≠5:=by omega
     have h6:op≠6:=by omega
     have h7:op≠7:=by omega
     have h8:op≠8:=by omega
     have h9:op≠9:=by omega
     have ha:op≠10:=by omega
     have hb:op≠11:=by omega
     have hc:op≠12:=by omega
     simp[h0,h1,h2,h3,h4,h5,h6,h7,h8,h9,ha,hb,hc,h])
theorem Yu (N:Nat)(op:Int):DW N op=some (decide (op=1∨op=2∨op=3∨op=4),decide (op=1∨op=4)):=by
 unfold DW;simp only[R8,decide_eq_true_eq]
 by_cases h1:op=1
 ·simp[h1]
 by_cases h4:op=4
 ·simp[h4]
 by_cases h2:op=2
 ·simp[h2]
 by_cases h3:op=3<;>simp[h1,h2,h3,h4]
theorem Xy (N:Nat)(op:Int):GV N op=some (decide (op=1∨op=2∨op=3∨op=4),decide (op=1∨op=4)):=by
 unfold GV;simp only[R8,U8]
 by_cases h1:op=1
 ·simp[h1]
 by_cases h4:op=4
 ·simp[h4]
 by_cases h2:op=2
 ·simp[h2]
 by_cases h3:op=3<;>simp[h1,h2,h3,h4]
def P7 (v:B4):Int:=
 if v.Kind=0∨v.Kind=1 then
  if v.Text≠⟨#[]⟩then 3
  else if v.Kind=0∧(v.Num< -1099511627776∨1099511627776<v.Num)∨v.Kind=1∧v.Num≠0∧v.Num≠1 then 2 else 0
 else if v.Kind=2 then(if v.Num≠0 then 3 else if 64<(v.Text.size:Int)then 13 else 0)else 1
theorem Tn (N:Nat) (v:B4):T9 N v=some (P7 v):=by
 obtain⟨k,n,t⟩:=v;unfold T9 CA P7;simp only[R8,M6,G4,Z3,Ce,U8,NU,NH]
 by_cases h0:k=0
 ·subst h0
  by_cases ht:t=⟨#[]⟩
  ·subst ht
   by_cases h1:n< -1099511627776∨1099511627776<n
   ·simp[h1]
   simp[h1];decide
  simp[ht]
 by_cases h1:k=1
 ·subst h1
  by_cases ht:t=⟨#[]⟩
  ·subst ht
   by_cases h2:n=0
   ·simp[h2];decide
   by_cases h3:n=1
   ·simp[h3];decide
   simp[h2,h3]
  simp[ht]
 by_cases h2:k=2
 ·subst h2
  by_cases hn:n=0
  ·simp[hn];split<;>rfl
  simp[hn]
 simp[h0,h1,h2]
theorem RP (N:Nat) (v:B4):Fi N v=some (P7 v):=by
 obtain⟨k,n,t⟩:=v;unfold Fi P7;simp only[R8,M6,G4,Z3,Ce,U8,NU,NH]
 by_cases h0:k=0
 ·subst h0
  by_cases ht:t=⟨#[]⟩
  ·subst ht
   by_cases h1:n< -1099511627776∨1099511627776<n
   ·simp[h1]
   simp[h1]
  simp[ht]
 by_cases h1:k=1
 ·subst h1
  by_cases ht:t=⟨#[]⟩
  ·subst ht
   by_cases h2:n=0
   ·simp[h2]
   by_cases h3:n=1
   ·simp[h3]
   have:n<0∨1<n:=by omega
   simp[h2,h3,this]
  simp[ht]
 by_cases h2:k=2
 ·subst h2
  by_cases hn:n=0
  ·simp[hn];split<;>rfl
  simp[hn]
 have:k<0∨2<k:=by omega
 simp[h0,h1,h2,this]
theorem Tr (N:Nat)(k:Int)(v:B4):CP N k v=some (decide (v.Kind=0∨k=4∨k=5)):=by
 unfold CP;simp only[R8,U8]
 by_cases h1:v.Kind=0<;>by_cases h2:k=4<;>by_cases h3:k=5<;>simp[h1,h2,h3]
theorem RT (N:Nat)(k:Int)(v:B4)(h:k≠0):Fg N k v=some (decide (v.Kind=0∨k=4∨k=5)):=by
 unfold Fg;simp only[R8,U8]
 by_cases h1:v.Kind=0<;>by_cases h2:k=4<;>by_cases h3:k=5<;>simp[h,h1,h2,h3]
def WY (op:Int):Bool:=decide (op=1∨op=2∨op=3∨op=4)
def WZ (op:Int):Bool:=decide (op=1∨op=4)
noncomputable def TO (x:B6):Bool:=Ar.or (an (WY x.Op) (Ar.or (cmp .lss x.Var 0) (cmp .geq x.Var 16))) (an (WZ x.Op) (Ar.or (cmp .lss x.Field 0) (cmp .geq x.Field 8)))
noncomputable def LX (x:B6):Bool:=an (cmp .eql x.Op 4) (Ar.or (cmp .lss x.Kind 1) (cmp .gtr x.Kind 5))
noncomputable def WQ (v:B4):Bool:=an (cmp .eql v.Kind 0) (an (cmp .eql v.Num 0) (an (scmp .eql v.Text (⟨#[]⟩)) true))
noncomputable def DL (x:B6):Bool:=Ar.or (nt (decide (x.Value.Kind=0∨x.Kind=4∨x.Kind=5))) (an (cmp .eql x.Kind 1) (nt (WQ x.Value)))
noncomputable def DT (x:B6):Bool:=Ar.or (Ar.or (Ar.or (an (nt (WY x.Op)) (cmp .neq x.Var 0)) (an (nt (WZ x.Op)) (cmp .neq x.Field 0))) (an (nt (cmp .eql x.Op 4)) (cmp .neq x.Kind 0))) (an (nt (Ar.or (cmp .eql x.Op 4) (cmp .eql x.Op 0))) (nt (WQ x.Value)))
noncomputable def HQ (x:B6):Int:=
 if x.Op<0∨12<x.Op then 1
 else if(x.cJ.length:Int)≠(if x.Op<5 then 0 else if x.Op=12 then 1 else 2)then 15
 else if TO x=true then 2
 else if LX x=true then 1
 else if(x.Op=4∨x.Op=0)∧P7 x.Value≠0 then P7 x.Value
 else if x.Op=4∧DL x=true then 9
 else if DT x=true then 3 else 0
theorem Su (N:Nat) (x:B6):Ei N x=some (HQ x):=by
 unfold Ei HQ;rw[WG,Xy];simp only[Option.bind_some]
 by_cases h0:x.Op<0∨12<x.Op
 ·rw[if_pos h0,if_pos h0];rfl
 rw[if_neg h0,if_neg h0]
 have ha:¬(cmp .lss (if x.Op<5 then 0 else if x.Op=12 then 1 else 2) 0=true):=by
  rw[G4];simp only[decide_eq_true_eq];split
  ·omega
  split<;>omega
 rw[if_neg ha]
 by_cases h1:(x.cJ.length:Int)≠(if x.Op<5 then 0 else if x.Op=12 then 1 else 2)
 ·rw[if_pos h1,if_pos (by simp[M6,E7,h1])]
 rw[if_neg h1,if_neg (by simp only[M6,E7];simpa using h1)]
 change (if TO x=true then some 2 else _)=_
 by_cases h2:TO x=true
 ·rw[if_pos h2,if_pos h2]
 rw[if_neg h2,if_neg h2]
 change (if LX x=true then some 1 else _)=_
 by_cases h3:LX x=true
 ·rw[if_pos h3,if_pos h3]
 rw[if_neg h3,if_neg h3];rw[RP]
 have e4:(Ar.or (cmp .eql x.Op 4) (cmp .eql x.Op 0)=true)↔(x.Op=4∨x.Op=0):=by simp[R8,U8]
 have e6:(cmp .eql x.Op 4=true)↔x.Op=4:=by simp[R8]
 by_cases h4:x.Op=4∨x.Op=0
 ·rw [if_pos (e4.2 h4)];simp only[Option.bind_some]
  by_cases h5:P7 x.Value=0
  ·have n5:¬(cmp .neq (P7 x.Value) 0=true):=by simp[M6,h5]
   have n5':¬((x.Op=4∨x.Op=0)∧P7 x.Value≠0):=fun h=>h.2 h5;rw[if_neg n5,if_neg n5'];simp only[Option.bind_some]
   by_cases h6:x.Op=4
   ·rw[if_pos (e6.2 h6)]
    have hk:x.Kind≠0:=by
     intro e;apply h3;simp[LX,Ce,U8,R8,G4,h6,e]
    rw[RT N _ _ hk];simp only[Option.bind_some]
    change (if DL x=true then some 9 else if DT x=true then some 3 else some 0)=_
    by_cases h7:DL x=true
    ·rw[if_pos h7,if_pos (show x.Op=4∧DL x=true from⟨h6,h7⟩)]
    rw[if_neg h7,if_neg (show¬(x.Op=4∧DL x=true)from fun h=>h7 h.2)]
    by_cases h8:DT x=true
    ·rw[if_pos h8,if_pos h8]
    rw[if_neg h8,if_neg h8]
   rw[if_neg (show¬(cmp .eql x.Op 4=true)from fun h=>h6 (e6.1 h)),if_neg (show¬(x.Op=4∧DL x=true)from fun h=>h6 h.1)]
   change (if DT x=true then some 3 else some 0)=_
   by_cases h8:DT x=true
   ·rw[if_pos h8,if_pos h8]
   rw[if_neg h8,if_neg h8]
  have n5:cmp .neq (P7 x.Value) 0=true:=by simp[M6,h5]
  rw[if_pos n5,if_pos (show(x.Op=4∨x.Op=0)∧P7 x.Value≠0 from⟨h4,h5⟩)];rfl
 rw[if_neg (show¬(Ar.or (cmp .eql x.Op 4) (cmp .eql x.Op 0)=true)from fun h=>h4 (e4.1 h)),if_neg (show¬((x.Op=4∨x.Op=0)∧P7 x.Value≠0)from fun h=>h4 h.1)];simp only[Option.bind_some];have h6:¬x.Op=4:=fun e=>h4 (.inl e);rw[if_neg (show¬(cmp .eql x.Op 4=true)from fun h=>h6 (e6.1 h)),if_neg (show¬(x.Op=4∧DL x=true)from fun h=>h6 h.1)]
 change (if DT x=true then some 3 else some 0)=_
 by_cases h8:DT x=true
 ·rw[if_pos h8,if_pos h8]
 rw[if_neg h8,if_neg h8]
theorem TS (N:Nat) (x:B6):Cx N x=some (HQ x):=by
 unfold Cx HQ;rw[XZ,Yu];simp only[Option.bind_some]
 by_cases h0:x.Op<0∨12<x.Op
 ·rw[if_pos h0,if_pos h0];rfl
 rw[if_neg h0,if_neg h0]
 have ha:(if x.Op<5 then((0:Int),true)else if x.Op=12 then(1,true)else(2,true))=((if x.Op<5 then 0 else if x.Op=12 then 1 else 2),true):=by
  split
  ·rfl
  split<;>rfl
 rw[ha];rw[if_neg (by simp[Fq])]
 by_cases h1:(x.cJ.length:Int)≠(if x.Op<5 then 0 else if x.Op=12 then 1 else 2)
 ·rw[if_pos h1,if_pos (by simp[M6,E7,h1])]
 rw[if_neg h1,if_neg (by simp only[M6,E7];simpa using h1)]
 change (if TO x=true then some 2 else _)=_
 by_cases h2:TO x=true
 ·rw[if_pos h2,if_pos h2]
 rw[if_neg h2,if_neg h2]
 change (if LX x=true then some 1 else _)=_
 by_cases h3:LX x=true
 ·rw[if_pos h3,if_pos h3]
 rw[if_neg h3,if_neg h3];unfold AY;rw[Tn]
 have e4:(Ar.or (cmp .eql x.Op 4) (cmp .eql x.Op 0)=true)↔(x.Op=4∨x.Op=0):=by simp[R8,U8]
 have e6:(cmp .eql x.Op 4=true)↔x.Op=4:=by simp[R8]
 by_cases h4:x.Op=4∨x.Op=0
 ·rw[if_pos (e4.2 h4)];simp only[Option.bind_some]
  by_cases h5:P7 x.Value=0
  ·have n5:¬(cmp .neq (P7 x.Value) 0=true):=by simp[M6,h5]
   have n5':¬((x.Op=4∨x.Op=0)∧P7 x.Value≠0):=fun h=>h.2 h5;rw[if_neg n5,if_neg n5']
   by_cases h6:x.Op=4
   ·rw[if_pos (e6.2 h6),Tr];simp only[Option.bind_some]
    change (((if DL x=true then some 9 else some 0):Option Int).bind _).bind _=_
    by_cases h7:DL x=true
    ·rw[if_pos h7,if_pos (show x.Op=4∧DL x=true from⟨h6,h7⟩)];rfl
    rw[if_neg h7,if_neg (show¬(x.Op=4∧DL x=true)from fun h=>h7 h.2)]
    change (if DT x=true then some 3 else some 0)=_
    by_cases h8:DT x=true
    ·rw[if_pos h8,if_pos h8]
    rw[if_neg h8,if_neg h8]
   rw[if_neg (show¬(cmp .eql x.Op 4=true)from fun h=>h6 (e6.1 h)),if_neg (show¬(x.Op=4∧DL x=true)from fun h=>h6 h.1)]
   change (if DT x=true then some 3 else some 0)=_
   by_cases h8:DT x=true
   ·rw[if_pos h8,if_pos h8]
   rw[if_neg h8,if_neg h8]
  have n5:cmp .neq (P7 x.Value) 0=true:=by simp[M6,h5]
  rw[if_pos n5,if_pos (show(x.Op=4∨x.Op=0)∧P7 x.Value≠0 from⟨h4,h5⟩)];simp only[Option.bind_some];rw[if_pos n5];rfl
 rw[if_neg (show¬(Ar.or (cmp .eql x.Op 4) (cmp .eql x.Op 0)=true)from fun h=>h4 (e4.1 h)),if_neg (show¬((x.Op=4∨x.Op=0)∧P7 x.Value≠0)from fun h=>h4 h.1)];have h6:¬x.Op=4:=fun e=>h4 (.inl e);rw[if_neg (show¬(x.Op=4∧DL x=true)from fun h=>h6 h.1)]
 change (if DT x=true then some 3 else some 0)=_
 by_cases h8:DT x=true
 ·rw[if_pos h8,if_pos h8]
 rw[if_neg h8,if_neg h8]
end Go.Ab
namespace Go.Ab
theorem Ew {a b:Int}(h:b<a):cmp .gtr a b=true:=by rw[Z3];exact decide_eq_true h
theorem CM {a b:Int}(h:¬b<a):¬(cmp .gtr a b=true):=by rw[Z3];simpa using h
theorem De {a b:Int}(h:a≠b):cmp .neq a b=true:=by rw[M6];simpa using h
theorem CI {a b:Int}(h:a=b):¬(cmp .neq a b=true):=by rw[M6];simpa using h
noncomputable def T5 (x:B6):Int:=if 64<x.pre.length then 5 else if 12<x.dep then 12 else Bf HQ x.pre
theorem SN {N:Nat}(hN:40000000≤N){x:B6}(hb:x.bulk≤16777216):Bw N x=some (T5 x):=by
 unfold Bw T5;rw[RV hN N x (by omega) hb];simp only[Option.bind_some]
 by_cases h1:64<x.pre.length
 ·rw[if_pos h1,if_pos (Ew (by omega))]
 rw[if_neg h1,if_neg (CM (by omega))]
 by_cases h2:12<x.dep
 ·rw[if_pos h2,if_pos (Ew (by omega))]
 rw[if_neg h2,if_neg (CM (by omega)),Tm hN N x (by omega) hb fun y _=>TS N y];rfl
theorem QC {N:Nat}(hN:40000000≤N){x:B6}(hb:x.bulk≤16777216):Dc N x=some (T5 x):=by
 unfold Dc T5;obtain⟨r,h0,c1,c2,c3⟩:=UV hN 64 N x (by omega) hb;rw[h0];simp only[Option.bind_some]
 by_cases h1:64<x.pre.length
 ·rw[if_pos h1,if_pos (Ew (by omega))]
 rw[if_neg h1,if_neg (CM (by omega)),Qz hN N x (by omega) hb];simp only[Option.bind_some]
 by_cases h2:12<x.dep
 ·rw[if_pos h2,if_pos (Ew (by omega))]
 rw[if_neg h2,if_neg (CM (by omega)),Ss hN (fun y=>Su N y) N x (by omega) hb];rfl
noncomputable def UA (a b:B6):Bool:=Ar.or (Ar.or (Ar.or (Ar.or (Ar.or (cmp .neq a.Op b.Op) (cmp .neq a.Var b.Var)) (cmp .neq a.Field b.Field)) (cmp .neq a.Kind b.Kind)) (nt (an (cmp .eql a.Value.Kind b.Value.Kind) (an (cmp .eql a.Value.Num b.Value.Num) (an (scmp .eql a.Value.Text b.Value.Text) true))))) (cmp .neq (Ar.len a.cJ) (Ar.len b.cJ))
theorem LM (N:Nat):∀(n:Nat) (a b:B6),Cy N n a b=U5 N n a b
 |0,_,_=>rfl
 |n+1,a,b=>by
  unfold Cy U5;simp only[LM N n]
theorem LL {N:Nat} (hN:40000000≤N) (x:B6):∃b,U5 N N x (⟨0,[],0,0,0,(⟨0,0,⟨#[]⟩⟩:B4)⟩:B6)=some b:=by
 obtain⟨M,rfl⟩:∃M,N=M+1:=⟨N - 1,by omega⟩;rw[U5];generalize hz:(⟨0,[],0,0,0,(⟨0,0,⟨#[]⟩⟩:B4)⟩:B6)=z
 change ∃b,(if UA x z=true then some false else _)=some b
 by_cases h:UA x z=true
 ·rw[if_pos h];exact⟨_,rfl⟩
 rw[if_neg h]
 have hlen:x.cJ.length=0:=by
  subst hz
  simp only[UA,U8,M6,E7,List.length_nil]at h
  simp at h
  simpa using h.2
 have:x.cJ=[]:=List.length_eq_zero_iff.1 hlen;refine⟨true,?_⟩;rw[show M+1=(M+1 - 1)+1 by omega];simp only[loopN,this,G4,E7];rfl
end Go.Ab
namespace Go.Ab
def EG (u:Bool)(n m:Int):Bool:=u&&(decide (n<0)||decide (m<n))
def L7 (u:Bool)(n:Int):Bool:=u||decide (n=0)
theorem FQ (N:Nat)(u:Bool)(n m:Int):O4 N u n m=some (!EG u n m):=by
 unfold O4;simp only[U8,Ce,Fq,EE,Gk,EG];cases u
 ·rfl
 by_cases h1:n<0<;>by_cases h2:m<n<;>simp[h1,h2]<;>omega
theorem RQ (N:Nat)(u:Bool)(n:Int):J9 N u n=some (L7 u n):=rfl
theorem XY (N:Nat)(u:Bool)(n m:Int):Y3 N u n m=some (EG u n m):=rfl
noncomputable def Kh (s:I0)(x:A1)(sz:Bool):Int:=
 if EG s.cL x.Typ 15=true then 2
 else if EG s.cL x.Var 15=true then 2
 else if EG s.scope x.cP 63=true then 2
 else if EG s.span x.Span 1099511627776=true then 2
 else if s.cond=true∧T5 x.cK≠0 then T5 x.cK
 else if(s.cond||sz)=true∧L7 s.cL x.Typ=true∧L7 s.cL x.Var=true∧L7 s.scope x.cP=true∧L7 s.span x.Span=true then 0 else 3
structure No (N:Nat) (x:A1) (s:I0) (ng:Bool):Prop where
 tab:D4 J5 x.Op=some s
 var:CF N x=some s.cL
 neg:Dw N x=some ng
 tim:Az N x=some s.span
 con:BY N x=some s.cond
 sco:s.scope=(ng||s.span)
 ari:Fe N x=some (decide (s.cQ≤x.cJ.length∧(x.cJ.length:Int)≤s.most))
theorem XQ (n k:Int):decide (n=k)=(decide (k≤n)&&decide (n≤k)):=by
 rw[←Bool.decide_and];exact decide_eq_decide.2 ⟨fun h=>by omega,fun h=>by omega⟩
theorem NS (N:Nat) (x:A1) (h0:0≤x.Op) (h1:x.Op≤10) (hl:x.cJ.length≤64):∃s ng,No N x s ng:=by
 obtain⟨op,args,typ,var,scope,span,c⟩:=x
 simp only at h0 h1 hl
 have h:op=0∨op=1∨op=2∨op=3∨op=4∨op=5∨op=6∨op=7∨op=8∨op=9∨op=10:=by omega
 rcases h with h|h|h|h|h|h|h|h|h|h|h
 all_goals
  subst h;refine⟨_,_,rfl,rfl,rfl,rfl,rfl,rfl,?_⟩;unfold Fe;simp only[R8,EE,E7];simp
  try first|omega|exact XQ _ _
theorem YC {x:A1}(h0:0≤x.Op)(h1:x.Op≤10):¬(Ar.or (cmp .lss x.Op 0) (cmp .geq x.Op 11)=true):=by
 simp only[U8,G4,EE,Bool.or_eq_true,decide_eq_true_eq];omega
theorem XC {x:A1}(h0:0≤x.Op)(h1:x.Op≤10):¬(Ar.or (cmp .lss x.Op 0) (cmp .gtr x.Op 10)=true):=by
 simp only[U8,G4,Z3,Bool.or_eq_true,decide_eq_true_eq];omega
theorem YD {x:A1}(h:¬(0≤x.Op∧x.Op≤10)):Ar.or (cmp .lss x.Op 0) (cmp .geq x.Op 11)=true∧Ar.or (cmp .lss x.Op 0) (cmp .gtr x.Op 10)=true:=by
 simp only[U8,G4,EE,Z3,Bool.or_eq_true,decide_eq_true_eq];omega
theorem SM {N:Nat} (hN:40000000≤N) {x:A1} (hb:x.cK.bulk≤16777216) (h0:0≤x.Op) (h1:x.Op≤10) {s:I0} {ng:Bool} (hs:No N x s ng) {sz:Bool}
 (hz:U5 N N x.cK (⟨0,[],0,0,0,(⟨0,0,⟨#[]⟩⟩:B4)⟩:B6)=some sz):
 Q0 N x=some (if s.cQ≤x.cJ.length∧(x.cJ.length:Int)≤s.most then Kh s x sz else 15):=by
 unfold Q0;rw[if_neg (YC h0 h1),hs.tab];simp only[Option.bind_some]
 by_cases ha:s.cQ≤x.cJ.length∧(x.cJ.length:Int)≤s.most
 ·rw [if_pos ha,if_neg (by simp only[U8,G4,Z3,E7,Bool.or_eq_true,decide_eq_true_eq];omega)];rw[FQ,FQ,FQ,FQ,SN hN hb,LM,hz];simp only[RQ,Option.bind_some];unfold Kh;generalize EG s.cL x.Typ 15=b1;generalize EG s.cL x.Var 15=b2;generalize EG s.scope x.cP 63=b3;generalize EG s.span x.Span 1099511627776=b4;generalize L7 s.cL x.Typ=c1;generalize L7 s.cL x.Var=c2;generalize L7 s.scope x.cP=c3;generalize L7 s.span x.Span=c4;generalize T5 x.cK=ec
  cases b1 with
  |true=>rfl
  | false =>
   cases b2 with
   |true=>rfl
   | false =>
    cases b3 with
    |true=>rfl
    | false=>
     cases b4 with
     |true=>rfl
     | false=>
      cases s.cond with
      | false=>
       cases sz with
       |false=>rfl
       | true=>
        cases c1 with
        |false=>rfl
        | true=>
         cases c2 with
         |false=>rfl
         | true=>
          cases c3 with
          |false=>rfl
          |true=>
           cases c4<;>rfl
      | true=>
       by_cases he:ec=0
       ·subst he
        cases c1 with
        |false=>cases sz<;>rfl
        | true=>
         cases c2 with
         |false=>cases sz<;>rfl
         | true=>
          cases c3 with
          |false=>cases sz<;>rfl
          |true=>
           cases c4<;>cases sz<;>rfl
       simp[Fq,De he,he]
 rw[if_neg ha,if_pos (by simp only[U8,G4,Z3,E7,Bool.or_eq_true,decide_eq_true_eq];omega)]
theorem KA (u:Bool)(n:Int):an (nt u) (cmp .neq n 0)= !L7 u n:=by
 simp only[Ce,Fq,M6,L7,Bool.not_or]
theorem Rs (u w:Bool)(t v sc:Int):Ar.or (an (nt u) (Ar.or (cmp .neq t 0) (cmp .neq v 0))) (an (nt w) (cmp .neq sc 0))=((!L7 u t|| !L7 u v)|| !L7 w sc):=by
 rw[KA];simp only[U8,Ce,Fq,M6,L7];cases u<;>simp
theorem KR {N:Nat} (hN:40000000≤N) {x:A1} (hb:x.cK.bulk≤16777216) (h0:0≤x.Op) (h1:x.Op≤10) {s:I0} {ng:Bool} (hs:No N x s ng) {sz:Bool}
 (hz:U5 N N x.cK (⟨0,[],0,0,0,(⟨0,0,⟨#[]⟩⟩:B4)⟩:B6)=some sz):
 Br N x=some (if s.cQ≤x.cJ.length∧(x.cJ.length:Int)≤s.most then Kh s x sz else 15):=by
 unfold Br;rw[if_neg (XC h0 h1),hs.ari,hs.var,hs.neg,hs.tim,hs.con,QC hN hb,hz];simp only[Option.bind_some]
 by_cases ha:s.cQ≤x.cJ.length∧(x.cJ.length:Int)≤s.most
 ·rw [if_pos ha,if_neg (by simp[Fq,ha])];have sco:=hs.sco;simp only[XY,Option.bind_some];cases ng
  ·rw [if_neg (by simp)]
   simp only[Bool.false_or]at sco
   rw[Rs,KA];unfold Kh;rw[sco];generalize EG s.cL x.Typ 15=b1;generalize EG s.cL x.Var 15=b2;generalize EG s.span x.cP 63=b3;generalize EG s.span x.Span 1099511627776=b4;generalize L7 s.cL x.Typ=c1;generalize L7 s.cL x.Var=c2;generalize L7 s.span x.cP=c3;generalize L7 s.span x.Span=c4;generalize T5 x.cK=ec
   cases b1 with
   |true=>rfl
   | false=>
    cases b2 with
    |true=>rfl
    | false=>
     cases b3 with
     |true=>rfl
     | false=>
      cases b4 with
      |true=>rfl
      | false=>
       cases s.cond with
       |false=>cases sz<;>cases c1<;>cases c2<;>cases c3<;>cases c4<;>rfl
       |true=>
        by_cases he:ec=0
        ·subst he;cases sz<;>cases c1<;>cases c2<;>cases c3<;>cases c4<;>rfl
        simp[De he,he]
  rw[if_pos rfl]
  simp only[Bool.true_or]at sco
  rw[Rs,KA];unfold Kh;rw[sco];generalize EG s.cL x.Typ 15=b1;generalize EG s.cL x.Var 15=b2;generalize EG true x.cP 63=b3;generalize EG s.span x.Span 1099511627776=b4;generalize L7 s.cL x.Typ=c1;generalize L7 s.cL x.Var=c2;generalize L7 true x.cP=c3;generalize L7 s.span x.Span=c4;generalize T5 x.cK=ec
  cases b1 with
  |true=>rfl
  | false=>
   cases b2 with
   |true=>rfl
   | false=>
    cases b3 with
    |true=>rfl
    | false=>
     cases b4 with
     |true=>rfl
     | false=>
      cases s.cond with
      |false=>cases sz<;>cases c1<;>cases c2<;>cases c3<;>cases c4<;>rfl
      |true=>
       by_cases he:ec=0
       ·subst he;cases sz<;>cases c1<;>cases c2<;>cases c3<;>cases c4<;>rfl
       simp[De he,he]
 rw[if_neg ha,if_pos (by simp only[Fq,decide_eq_false ha];rfl)]
end Go.Ab
namespace Go.Ab
mutual
theorem Wc :∀(x y:A1),y∈x.pre→y.bulk≤x.bulk∧y.pre.length≤x.pre.length
 |⟨op,args,typ,var,scope,span,c⟩,y,h=>by
  rw[A1.pre]at h
  rcases List.mem_cons.1 h with rfl|h
  ·exact⟨Nat.le_refl _,Nat.le_refl _⟩
  have:=Ku args y h;simp only[A1.bulk,A1.pre,List.length_cons];omega
theorem Ku :∀(l:List A1) (y:A1),y∈A1.pres l→y.bulk≤A1.bulks l∧y.pre.length≤(A1.pres l).length
 |[],y,h=>by simp[A1.pres]at h
 |a::l,y,h=>by
  rw[A1.pres]at h
  rcases List.mem_append.1 h with h|h
  ·have:=Wc a y h;simp only[A1.bulks,A1.pres,List.length_append];omega
  have:=Ku l y h;simp only[A1.bulks,A1.pres,List.length_append];omega
end
noncomputable def Er (N:Nat)(y:A1):Int:=(Br N y).getD 0
theorem Sv {N:Nat} (hN:40000000≤N) {y:A1} (hb:y.bulk≤16777216) (hl:y.cJ.length≤64):Q0 N y=some (Er N y)∧Br N y=some (Er N y):=by
 have hc:y.cK.bulk≤16777216:=by have:=A1.bulk_eq y;omega
 have key:∃r,Q0 N y=some r∧Br N y=some r:=by
  by_cases h:0≤y.Op∧y.Op≤10
  ·obtain⟨s,ng,hs⟩:=NS N y h.1 h.2 hl;obtain⟨sz,hz⟩:=LL hN y.cK;exact⟨_,SM hN hc h.1 h.2 hs hz,KR hN hc h.1 h.2 hs hz⟩
  obtain⟨h1,h2⟩:=YD h;exact⟨1,by unfold Q0;rw[if_pos h1],by unfold Br;rw[if_pos h2]⟩
 obtain⟨r,h1,h2⟩:=key
 have e:Er N y=r:=by unfold Er;rw[h2];rfl
 rw[e];exact⟨h1,h2⟩
end Go.Ab
namespace Go.Ab
def Vk (N:Nat)(x:A1):Prop:=∀y∈x.pre,Er N y=0
theorem GP {a y:A1} (hy:y∈a.pre):∀l:List A1,a∈l→y∈A1.pres l
 |[],h=>by simp at h
 |b::l,h=>by
  rcases List.mem_cons.1 h with rfl|h
  ·simp[A1.pres,hy]
  simp[A1.pres,GP hy l h]
theorem Vk.arg {N:Nat}{x a:A1}(h:Vk N x)(ha:a∈x.cJ):Vk N a:=fun y hy=>h y (by
 rw[A1.pre_eq];exact List.mem_cons_of_mem _ (GP hy _ ha))
theorem Ek {x a:A1}(ha:a∈x.cJ):a.pre.length<x.pre.length:=by
 have:=(Ku x.cJ a (GP (by rw[A1.pre_eq];simp) _ ha)).2;rw[A1.pre_eq x];simp only[List.length_cons];omega
theorem Vc {N:Nat} (hN:40000000≤N) {y:A1} (hb:y.bulk≤16777216) (hl:y.cJ.length≤64) (h:Er N y=0) (ho:y.Op=1∨y.Op=7∨y.Op=8∨y.Op=9∨y.Op=10):∃a r,y.cJ=a::r:=by
 have hc:y.cK.bulk≤16777216:=by have:=A1.bulk_eq y;omega
 obtain⟨s,ng,hs⟩:=NS N y (by omega) (by omega) hl;obtain⟨sz,hz⟩:=LL hN y.cK;have h1:=KR hN hc (by omega) (by omega) hs hz
 rw[(Sv hN hb hl).2,h]at h1
 have h2:s.cQ≤y.cJ.length:=by
  have h1:=Option.some.inj h1
  by_cases hc:s.cQ≤y.cJ.length∧(y.cJ.length:Int)≤s.most
  ·exact hc.1
  rw[if_neg hc]at h1;cases h1
 have h3:1≤s.cQ:=by
  have ht:=hs.tab
  rcases ho with h|h|h|h|h<;>rw[h]at ht<;>cases ht<;>decide
 match he:y.cJ,h2 with
 |[],h2=>simp at h2;omega
 |a::r,_=>exact⟨a,r,rfl⟩
theorem UP {a b:Int}(h:a=b):cmp .eql a b=true:=by rw[R8];exact decide_eq_true h
end Go.Ab
namespace Go.Ab
noncomputable instance :DecidableEq B6:=Classical.typeDecidableEq _
noncomputable instance :DecidableEq A1:=Classical.typeDecidableEq _
structure Arity (y:A1):Prop where
 op:0≤y.Op∧y.Op≤10
 ev:y.Op=0→y.cJ=[]
 two:1≤y.Op→y.Op≤3→2≤y.cJ.length
 one:4≤y.Op→y.Op≠8→∃a,y.cJ=[a]
 more:y.Op=8→∃a b,y.cJ=[a,b]
end Go.Ab
namespace Go.Ab
def zE :B6:=⟨0,[],0,0,0,⟨0,0,⟨#[]⟩⟩⟩
def nd (op:Int)(args:List A1):A1:=⟨op,args,0,0,0,0,zE⟩
end Go.Ab
namespace Go.Ab
end Go.Ab
namespace Go.Ab
def wth {α:Type}[DecidableEq α](l:List α)(x:α):List α:=if x∈l then l else l++[x]
def dd {α:Type}[DecidableEq α](l:List α):List α:=l.foldl wth []
section
variable {α:Type}[DecidableEq α]
end
end Go.Ab
namespace Go.Ab
end Go.Ab
namespace Go.Ab
theorem Vk.sub {N:Nat}{x y:A1}(h:Vk N x)(hy:y∈x.pre):Er N y=0:=h y hy
theorem HD (x:A1):x∈x.pre:=by rw[A1.pre_eq];simp
end Go.Ab
namespace Go.Ab
end Go.Ab
namespace Go.Ab
def cnt :List (Bool×Bool×A1)→Int→Int→Bool
 |[],_,_=>true
 |y::l,v,s=>(if y.1=true then decide (y.2.2.Var=v)else true)&&(if y.2.1=true then decide (y.2.2.cP=s)else true)&&cnt l (if y.1=true then v+1 else v) (if y.2.1=true then s+1 else s)
theorem HL {a b:Int}(h:a<b):cmp .lss a b=true:=by rw[G4];exact decide_eq_true h
theorem Fs {a b:Int}(h:¬a<b):¬(cmp .lss a b=true):=by rw[G4];simpa using h
end Go.Ab
namespace Go.Ab
end Go.Ab
namespace Go.Ab
noncomputable section
def Dt :B4:=⟨0,0,⟨#[]⟩⟩
def Mx (k:Int)(v:B4):Int:=if P7 v≠0 then P7 v else if v.Kind=0∨(k≠1∧k≠2∧k≠3)then 0 else 9
def YV (k:Int)(a b:B4):B4:=
 if k=1 then⟨0,Ar.ar .add .i64 a.Num b.Num,⟨#[]⟩⟩else if k=2 then⟨0,Ar.mn a.Num b.Num,⟨#[]⟩⟩else if k=3 then⟨0,Ar.mx a.Num b.Num,⟨#[]⟩⟩else if k=4 then a else if k=5 then b else Dt
def Xe (k:Int)(v:B4):B4:=if k=0 then Dt else v
def YT (k:Int):List B4→B4
 |[]=>Dt
 |v::l=>l.foldl (fun a b=>YV k a (Xe k b)) (Xe k v)
def aggP (k:Int)(l:List B4)(o:B4):B4×Int:=
 if k<0∨5<k then(Dt,1)else if 4096<l.length then(Dt,5)else if Bf (Mx k) l≠0 then(Dt,Bf (Mx k) l)else if Mx k o≠0 then(Dt,Mx k o)
 else if k=0 then(⟨0,l.length,⟨#[]⟩⟩,0)else if l=[]∧k≠1 then(o,0)else(YT k l,0)
structure GoodA (k:Int) (n:Nat) (v:B4):Prop where
 c:k=0→v=Dt
 s:k=1→v.Kind=0∧v.Text=⟨#[]⟩∧ -(1099511627776*(n:Int))≤v.Num∧v.Num≤1099511627776*(n:Int)
 m:k=2∨k=3→P7 v=0∧v.Kind=0
 f:k=4∨k=5→P7 v=0
end
end Go.Ab
namespace Go.Ab
noncomputable section
def XO (env:Id)(v:Int):List B5:=if v<0∨(env.cR.length:Int)≤v then[]else env.cR.getD v.toNat []
def KJ (e:B5)(k:Int):B4×Int:=if(e.Values.length:Int)≤k then(Dt,6)else(e.Values.getD k.toNat Dt,0)
def Xz (rows:List B5)(x:B6):B4×Int:=
 if(rows.all fun e=>decide (x.Field<(e.Values.length:Int)))=true then aggP x.Kind (rows.map fun e=>e.Values.getD x.Field.toNat Dt) x.Value else(Dt,6)
def XK (rows:List B5)(own:Int)(ev:B5)(v:Int):Option B5:=if v≠own then rows.getLast? else some ev
def Yy (y:B5)(x:B6):B4×Int:=
 if x.Op=2 then(⟨0,y.Time,⟨#[]⟩⟩,0)else if(KJ y x.Field).2≠0 then(Dt,(KJ y x.Field).2)else if P7 (KJ y x.Field).1≠0 then(Dt,P7 (KJ y x.Field).1)else((KJ y x.Field).1,0)
def YO (env:Id)(own:Int)(ev:B5)(x:B6):B4×Int:=
 if x.Op=0 then(x.Value,0)else if x.Op=3 then(⟨0,(XO env x.Var).length,⟨#[]⟩⟩,0)else if x.Op=4 then Xz (XO env x.Var) x
 else match XK (XO env x.Var) own ev x.Var with|none=>(Dt,10)|some y=>Yy y x
end
end Go.Ab
