/- GTM4 GTM5 GTM6 GTM7 GTN1 GTD1 GTD2 GTD3 GTD4 GTD5 GTD6 GTR1 GTR2 GTV0 -/
import Derived.Test.YtanbgjgaafeplaaGreatDoorM15
import Derived.Laws.Strings
set_option linter.all false
open Go.Ab.Ar (an ar cmp nt scmp)
namespace Go.Ab
theorem LH {a b:ByteArray}:a.toList=b.toList↔a=b:=by
 rw[ByteArray.toList_eq,ByteArray.toList_eq]
 constructor
 ·intro h;obtain⟨⟨a⟩⟩:=a;obtain⟨⟨b⟩⟩:=b
  simp at h
  subst h;rfl
 intro h;rw[h]
theorem Qi (a b:ByteArray):scmp .neq a b= !decide (a=b):=by
 show(!(a.toList==b.toList))=_
 by_cases h:a=b
 ·subst h;simp
 have:a.toList≠b.toList:=fun e=>h (LH.1 e);simp[h,this]
theorem CN (a b:ByteArray):scmp .eql a b=decide (a=b):=by
 show(a.toList==b.toList)=_
 by_cases h:a=b
 ·subst h;simp
 have:a.toList≠b.toList:=fun e=>h (LH.1 e);simp[h,this]
theorem Af9 (N:Nat)(op:Int):Ek N op=some (if op<0∨12<op then(0,false)else if op<5 then(0,true)else if op=12 then(1,true)else(2,true)):=by
 unfold Ek;simp only[C2,Q6,C0,I8,Bool.or_eq_true,decide_eq_true_eq]
 split
 ·rfl
 split
 ·rfl
 split<;>rfl
theorem ZH (N:Nat) (op:Int):CW N op=some (if op<0∨12<op then -1 else if op<5 then 0 else if op=12 then 1 else 2):=by
 have h:op<0∨op=0∨op=1∨op=2∨op=3∨op=4∨op=5∨op=6∨op=7∨op=8∨op=9∨op=10∨op=11∨op=12∨12<op:=by omega
 unfold CW;simp only[C0]
 rcases h with h|h|h|h|h|h|h|h|h|h|h|h|h|h|h
 all_goals first
  |(subst h;rfl)
  | (have h0:op≠0:=by omega
     have h1:op≠1:=by omega
     have h2:op≠2:=by omega
     have h3:op≠3:=by omega
     have h4:op≠4:=by omega
     have h5:op≠5:=by omega
     have h6:op≠6:=by omega
     have h7:op≠7:=by omega
     have h8:op≠8:=by omega
     have h9:op≠9:=by omega
     have ha:op≠10:=by omega
     have hb:op≠11:=by omega
     have hc:op≠12:=by omega
     simp[h0,h1,h2,h3,h4,h5,h6,h7,h8,h9,ha,hb,hc,h])
theorem Ai8 (N:Nat)(op:Int):Fz N op=some (decide (op=1∨op=2∨op=3∨op=4),decide (op=1∨op=4)):=by
 unfold Fz;simp only[C0,decide_eq_true_eq]
 by_cases h1:op=1
 ·simp[h1]
 by_cases h4:op=4
 ·simp[h4]
 by_cases h2:op=2
 ·simp[h2]
 by_cases h3:op=3<;>simp[h1,h2,h3,h4]
theorem Ac4 (N:Nat)(op:Int):DS N op=some (decide (op=1∨op=2∨op=3∨op=4),decide (op=1∨op=4)):=by
 unfold DS;simp only[C0,I8]
 by_cases h1:op=1
 ·simp[h1]
 by_cases h4:op=4
 ·simp[h4]
 by_cases h2:op=2
 ·simp[h2]
 by_cases h3:op=3<;>simp[h1,h2,h3,h4]
def H6 (v:A4):Int:=
 if v.Kind=0∨v.Kind=1 then
  if v.Text≠⟨#[]⟩then 3
  else if v.Kind=0∧(v.Num< -1099511627776∨1099511627776<v.Num)∨v.Kind=1∧v.Num≠0∧v.Num≠1 then 2 else 0
 else if v.Kind=2 then(if v.Num≠0 then 3 else if 64<(v.Text.size:Int)then 13 else 0)else 1
theorem Jj (N:Nat) (v:A4):T9 N v=some (H6 v):=by
 obtain⟨k,n,t⟩:=v;unfold T9 DO H6;simp only[C0,F6,C2,Q6,L7,I8,Qi,PX]
 by_cases h0:k=0
 ·subst h0
  by_cases ht:t=⟨#[]⟩
  ·subst ht
   by_cases h1:n< -1099511627776∨1099511627776<n
   ·simp[h1]
   simp[h1];decide
  simp[ht]
 by_cases h1:k=1
 ·subst h1
  by_cases ht:t=⟨#[]⟩
  ·subst ht
   by_cases h2:n=0
   ·simp[h2];decide
   by_cases h3:n=1
   ·simp[h3];decide
   simp[h2,h3]
  simp[ht]
 by_cases h2:k=2
 ·subst h2
  by_cases hn:n=0
  ·simp[hn];split<;>rfl
  simp[hn]
 simp[h0,h1,h2]
theorem Hz (N:Nat) (v:A4):W7 N v=some (H6 v):=by
 obtain⟨k,n,t⟩:=v;unfold W7 H6;simp only[C0,F6,C2,Q6,L7,I8,Qi,PX]
 by_cases h0:k=0
 ·subst h0
  by_cases ht:t=⟨#[]⟩
  ·subst ht
   by_cases h1:n< -1099511627776∨1099511627776<n
   ·simp[h1]
   simp[h1]
  simp[ht]
 by_cases h1:k=1
 ·subst h1
  by_cases ht:t=⟨#[]⟩
  ·subst ht
   by_cases h2:n=0
   ·simp[h2]
   by_cases h3:n=1
   ·simp[h3]
   have:n<0∨1<n:=by omega
   simp[h2,h3,this]
  simp[ht]
 by_cases h2:k=2
 ·subst h2
  by_cases hn:n=0
  ·simp[hn];split<;>rfl
  simp[hn]
 have:k<0∨2<k:=by omega
 simp[h0,h1,h2,this]
theorem WA (N:Nat)(k:Int)(v:A4):Ej N k v=some (decide (v.Kind=0∨k=4∨k=5)):=by
 unfold Ej;simp only[C0,I8]
 by_cases h1:v.Kind=0<;>by_cases h2:k=4<;>by_cases h3:k=5<;>simp[h1,h2,h3]
theorem UE (N:Nat)(k:Int)(v:A4)(h:k≠0):U5 N k v=some (decide (v.Kind=0∨k=4∨k=5)):=by
 unfold U5;simp only[C0,I8]
 by_cases h1:v.Kind=0<;>by_cases h2:k=4<;>by_cases h3:k=5<;>simp[h,h1,h2,h3]
def Wv (op:Int):Bool:=decide (op=1∨op=2∨op=3∨op=4)
def Ww (op:Int):Bool:=decide (op=1∨op=4)
noncomputable def OM (x:B0):Bool:=Ar.or (an (Wv x.Op) (Ar.or (cmp .lss x.Var 0) (cmp .geq x.Var 16))) (an (Ww x.Op) (Ar.or (cmp .lss x.Field 0) (cmp .geq x.Field 8)))
noncomputable def Mv (x:B0):Bool:=an (cmp .eql x.Op 4) (Ar.or (cmp .lss x.Kind 1) (cmp .gtr x.Kind 5))
noncomputable def No (v:A4):Bool:=an (cmp .eql v.Kind 0) (an (cmp .eql v.Num 0) (an (scmp .eql v.Text (⟨#[]⟩)) true))
noncomputable def Fh (x:B0):Bool:=Ar.or (nt (decide (x.Value.Kind=0∨x.Kind=4∨x.Kind=5))) (an (cmp .eql x.Kind 1) (nt (No x.Value)))
noncomputable def Ed (x:B0):Bool:=Ar.or (Ar.or (Ar.or (an (nt (Wv x.Op)) (cmp .neq x.Var 0)) (an (nt (Ww x.Op)) (cmp .neq x.Field 0))) (an (nt (cmp .eql x.Op 4)) (cmp .neq x.Kind 0))) (an (nt (Ar.or (cmp .eql x.Op 4) (cmp .eql x.Op 0))) (nt (No x.Value)))
noncomputable def Y0 (x:B0):Int:=
 if x.Op<0∨12<x.Op then 1
 else if(x.cL.length:Int)≠(if x.Op<5 then 0 else if x.Op=12 then 1 else 2)then 15
 else if OM x=true then 2
 else if Mv x=true then 1
 else if(x.Op=4∨x.Op=0)∧H6 x.Value≠0 then H6 x.Value
 else if x.Op=4∧Fh x=true then 9
 else if Ed x=true then 3 else 0
theorem Vv (N:Nat) (x:B0):Cr N x=some (Y0 x):=by
 unfold Cr Y0;rw[ZH,Ac4];simp only[Option.bind_some]
 by_cases h0:x.Op<0∨12<x.Op
 ·rw[if_pos h0,if_pos h0];rfl
 rw[if_neg h0,if_neg h0]
 have ha:¬(cmp .lss (if x.Op<5 then 0 else if x.Op=12 then 1 else 2) 0=true):=by
  rw[C2];simp only[decide_eq_true_eq];split
  ·omega
  split<;>omega
 rw[if_neg ha]
 by_cases h1:(x.cL.length:Int)≠(if x.Op<5 then 0 else if x.Op=12 then 1 else 2)
 ·rw[if_pos h1,if_pos (by simp[F6,B1,h1])]
 rw[if_neg h1,if_neg (by simp only[F6,B1];simpa using h1)]
 change (if OM x=true then some 2 else _)=_
 by_cases h2:OM x=true
 ·rw[if_pos h2,if_pos h2]
 rw[if_neg h2,if_neg h2]
 change (if Mv x=true then some 1 else _)=_
 by_cases h3:Mv x=true
 ·rw[if_pos h3,if_pos h3]
 rw[if_neg h3,if_neg h3];rw[Hz]
 have e4:(Ar.or (cmp .eql x.Op 4) (cmp .eql x.Op 0)=true)↔(x.Op=4∨x.Op=0):=by simp[C0,I8]
 have e6:(cmp .eql x.Op 4=true)↔x.Op=4:=by simp[C0]
 by_cases h4:x.Op=4∨x.Op=0
 ·rw [if_pos (e4.2 h4)];simp only[Option.bind_some]
  by_cases h5:H6 x.Value=0
  ·have n5:¬(cmp .neq (H6 x.Value) 0=true):=by simp[F6,h5]
   have n5':¬((x.Op=4∨x.Op=0)∧H6 x.Value≠0):=fun h=>h.2 h5;rw[if_neg n5,if_neg n5'];simp only[Option.bind_some]
   by_cases h6:x.Op=4
   ·rw[if_pos (e6.2 h6)]
    have hk:x.Kind≠0:=by
     intro e;apply h3;simp[Mv,L7,I8,C0,C2,h6,e]
    rw[UE N _ _ hk];simp only[Option.bind_some]
    change (if Fh x=true then some 9 else if Ed x=true then some 3 else some 0)=_
    by_cases h7:Fh x=true
    ·rw[if_pos h7,if_pos (show x.Op=4∧Fh x=true from⟨h6,h7⟩)]
    rw[if_neg h7,if_neg (show¬(x.Op=4∧Fh x=true)from fun h=>h7 h.2)]
    by_cases h8:Ed x=true
    ·rw[if_pos h8,if_pos h8]
    rw[if_neg h8,if_neg h8]
   rw[if_neg (show¬(cmp .eql x.Op 4=true)from fun h=>h6 (e6.1 h)),if_neg (show¬(x.Op=4∧Fh x=true)from fun h=>h6 h.1)]
   change (if Ed x=true then some 3 else some 0)=_
   by_cases h8:Ed x=true
   ·rw[if_pos h8,if_pos h8]
   rw[if_neg h8,if_neg h8]
  have n5:cmp .neq (H6 x.Value) 0=true:=by simp[F6,h5]
  rw[if_pos n5,if_pos (show(x.Op=4∨x.Op=0)∧H6 x.Value≠0 from⟨h4,h5⟩)];rfl
 rw[if_neg (show¬(Ar.or (cmp .eql x.Op 4) (cmp .eql x.Op 0)=true)from fun h=>h4 (e4.1 h)),if_neg (show¬((x.Op=4∨x.Op=0)∧H6 x.Value≠0)from fun h=>h4 h.1)];simp only[Option.bind_some];have h6:¬x.Op=4:=fun e=>h4 (.inl e);rw[if_neg (show¬(cmp .eql x.Op 4=true)from fun h=>h6 (e6.1 h)),if_neg (show¬(x.Op=4∧Fh x=true)from fun h=>h6 h.1)]
 change (if Ed x=true then some 3 else some 0)=_
 by_cases h8:Ed x=true
 ·rw[if_pos h8,if_pos h8]
 rw[if_neg h8,if_neg h8]
theorem Xf (N:Nat) (x:B0):DL N x=some (Y0 x):=by
 unfold DL Y0;rw[Af9,Ai8];simp only[Option.bind_some]
 by_cases h0:x.Op<0∨12<x.Op
 ·rw[if_pos h0,if_pos h0];rfl
 rw[if_neg h0,if_neg h0]
 have ha:(if x.Op<5 then((0:Int),true)else if x.Op=12 then(1,true)else(2,true))=((if x.Op<5 then 0 else if x.Op=12 then 1 else 2),true):=by
  split
  ·rfl
  split<;>rfl
 rw[ha];rw[if_neg (by simp[Q3])]
 by_cases h1:(x.cL.length:Int)≠(if x.Op<5 then 0 else if x.Op=12 then 1 else 2)
 ·rw[if_pos h1,if_pos (by simp[F6,B1,h1])]
 rw[if_neg h1,if_neg (by simp only[F6,B1];simpa using h1)]
 change (if OM x=true then some 2 else _)=_
 by_cases h2:OM x=true
 ·rw[if_pos h2,if_pos h2]
 rw[if_neg h2,if_neg h2]
 change (if Mv x=true then some 1 else _)=_
 by_cases h3:Mv x=true
 ·rw[if_pos h3,if_pos h3]
 rw[if_neg h3,if_neg h3];unfold Ca;rw[Jj]
 have e4:(Ar.or (cmp .eql x.Op 4) (cmp .eql x.Op 0)=true)↔(x.Op=4∨x.Op=0):=by simp[C0,I8]
 have e6:(cmp .eql x.Op 4=true)↔x.Op=4:=by simp[C0]
 by_cases h4:x.Op=4∨x.Op=0
 ·rw[if_pos (e4.2 h4)];simp only[Option.bind_some]
  by_cases h5:H6 x.Value=0
  ·have n5:¬(cmp .neq (H6 x.Value) 0=true):=by simp[F6,h5]
   have n5':¬((x.Op=4∨x.Op=0)∧H6 x.Value≠0):=fun h=>h.2 h5;rw[if_neg n5,if_neg n5']
   by_cases h6:x.Op=4
   ·rw[if_pos (e6.2 h6),WA];simp only[Option.bind_some]
    change (((if Fh x=true then some 9 else some 0):Option Int).bind _).bind _=_
    by_cases h7:Fh x=true
    ·rw[if_pos h7,if_pos (show x.Op=4∧Fh x=true from⟨h6,h7⟩)];rfl
    rw[if_neg h7,if_neg (show¬(x.Op=4∧Fh x=true)from fun h=>h7 h.2)]
    change (if Ed x=true then some 3 else some 0)=_
    by_cases h8:Ed x=true
    ·rw[if_pos h8,if_pos h8]
    rw[if_neg h8,if_neg h8]
   rw[if_neg (show¬(cmp .eql x.Op 4=true)from fun h=>h6 (e6.1 h)),if_neg (show¬(x.Op=4∧Fh x=true)from fun h=>h6 h.1)]
   change (if Ed x=true then some 3 else some 0)=_
   by_cases h8:Ed x=true
   ·rw[if_pos h8,if_pos h8]
   rw[if_neg h8,if_neg h8]
  have n5:cmp .neq (H6 x.Value) 0=true:=by simp[F6,h5]
  rw[if_pos n5,if_pos (show(x.Op=4∨x.Op=0)∧H6 x.Value≠0 from⟨h4,h5⟩)];simp only[Option.bind_some];rw[if_pos n5];rfl
 rw[if_neg (show¬(Ar.or (cmp .eql x.Op 4) (cmp .eql x.Op 0)=true)from fun h=>h4 (e4.1 h)),if_neg (show¬((x.Op=4∨x.Op=0)∧H6 x.Value≠0)from fun h=>h4 h.1)];have h6:¬x.Op=4:=fun e=>h4 (.inl e);rw[if_neg (show¬(x.Op=4∧Fh x=true)from fun h=>h6 h.1)]
 change (if Ed x=true then some 3 else some 0)=_
 by_cases h8:Ed x=true
 ·rw[if_pos h8,if_pos h8]
 rw[if_neg h8,if_neg h8]
end Go.Ab
namespace Go.Ab
theorem X0 {a b:Int}(h:b<a):cmp .gtr a b=true:=by rw[Q6];exact decide_eq_true h
theorem S9 {a b:Int}(h:¬b<a):¬(cmp .gtr a b=true):=by rw[Q6];simpa using h
theorem K1 {a b:Int}(h:a≠b):cmp .neq a b=true:=by rw[F6];simpa using h
theorem J7 {a b:Int}(h:a=b):¬(cmp .neq a b=true):=by rw[F6];simpa using h
noncomputable def K0 (x:B0):Int:=if 64<x.pre.length then 5 else if 12<x.dep then 12 else P9 Y0 x.pre
theorem Ob {N:Nat}(hN:40000000≤N){x:B0}(hb:x.bulk≤16777216):Cy N x=some (K0 x):=by
 unfold Cy K0;rw[UK hN N x (by omega) hb];simp only[Option.bind_some]
 by_cases h1:64<x.pre.length
 ·rw[if_pos h1,if_pos (X0 (by omega))]
 rw[if_neg h1,if_neg (S9 (by omega))]
 by_cases h2:12<x.dep
 ·rw[if_pos h2,if_pos (X0 (by omega))]
 rw[if_neg h2,if_neg (S9 (by omega)),Wu hN N x (by omega) hb fun y _=>Xf N y];rfl
theorem MO {N:Nat}(hN:40000000≤N){x:B0}(hb:x.bulk≤16777216):AL N x=some (K0 x):=by
 unfold AL K0;obtain⟨r,h0,c1,c2,c3⟩:=Rr hN 64 N x (by omega) hb;rw[h0];simp only[Option.bind_some]
 by_cases h1:64<x.pre.length
 ·rw[if_pos h1,if_pos (X0 (by omega))]
 rw[if_neg h1,if_neg (S9 (by omega)),MK hN N x (by omega) hb];simp only[Option.bind_some]
 by_cases h2:12<x.dep
 ·rw[if_pos h2,if_pos (X0 (by omega))]
 rw[if_neg h2,if_neg (S9 (by omega)),Vu hN (fun y=>Vv N y) N x (by omega) hb];rfl
noncomputable def Mz (a b:B0):Bool:=Ar.or (Ar.or (Ar.or (Ar.or (Ar.or (cmp .neq a.Op b.Op) (cmp .neq a.Var b.Var)) (cmp .neq a.Field b.Field)) (cmp .neq a.Kind b.Kind)) (nt (an (cmp .eql a.Value.Kind b.Value.Kind) (an (cmp .eql a.Value.Num b.Value.Num) (an (scmp .eql a.Value.Text b.Value.Text) true))))) (cmp .neq (Ar.len a.cL) (Ar.len b.cL))
theorem Ny (N:Nat):∀(n:Nat) (a b:B0),DM N n a b=Q1 N n a b
 |0,_,_=>rfl
 |n+1,a,b=>by
  unfold DM Q1;simp only[Ny N n]
theorem Nx {N:Nat} (hN:40000000≤N) (x:B0):∃b,Q1 N N x (⟨0,[],0,0,0,(⟨0,0,⟨#[]⟩⟩:A4)⟩:B0)=some b:=by
 obtain⟨M,rfl⟩:∃M,N=M+1:=⟨N - 1,by omega⟩;rw[Q1];generalize hz:(⟨0,[],0,0,0,(⟨0,0,⟨#[]⟩⟩:A4)⟩:B0)=z
 change ∃b,(if Mz x z=true then some false else _)=some b
 by_cases h:Mz x z=true
 ·rw[if_pos h];exact⟨_,rfl⟩
 rw[if_neg h]
 have hlen:x.cL.length=0:=by
  subst hz
  simp only[Mz,I8,F6,B1,List.length_nil]at h
  simp at h
  simpa using h.2
 have:x.cL=[]:=List.length_eq_zero_iff.1 hlen;refine⟨true,?_⟩;rw[show M+1=(M+1 - 1)+1 by omega];simp only[loopN,this,C2,B1];rfl
end Go.Ab
namespace Go.Ab
def Da (u:Bool)(n m:Int):Bool:=u&&(decide (n<0)||decide (m<n))
def N5 (u:Bool)(n:Int):Bool:=u||decide (n=0)
theorem Hy (N:Nat)(u:Bool)(n m:Int):R0 N u n m=some (!Da u n m):=by
 unfold R0;simp only[I8,L7,Q3,M1,Ce,Da];cases u
 ·rfl
 by_cases h1:n<0<;>by_cases h2:m<n<;>simp[h1,h2]<;>omega
theorem UD (N:Nat)(u:Bool)(n:Int):K7 N u n=some (N5 u n):=rfl
theorem Af8 (N:Nat)(u:Bool)(n m:Int):Y5 N u n m=some (Da u n m):=rfl
noncomputable def ID (s:J1)(x:A1)(sz:Bool):Int:=
 if Da s.cP x.Typ 15=true then 2
 else if Da s.cP x.Var 15=true then 2
 else if Da s.scope x.cQ 63=true then 2
 else if Da s.span x.Span 1099511627776=true then 2
 else if s.cond=true∧K0 x.cN≠0 then K0 x.cN
 else if(s.cond||sz)=true∧N5 s.cP x.Typ=true∧N5 s.cP x.Var=true∧N5 s.scope x.cQ=true∧N5 s.span x.Span=true then 0 else 3
structure JT (N:Nat) (x:A1) (s:J1) (ng:Bool):Prop where
 tab:B6 G1 x.Op=some s
 var:V3 N x=some s.cP
 neg:X3 N x=some ng
 tim:U1 N x=some s.span
 con:Ah N x=some s.cond
 sco:s.scope=(ng||s.span)
 ari:CU N x=some (decide (s.cS≤x.cL.length∧(x.cL.length:Int)≤s.most))
theorem Af3 (n k:Int):decide (n=k)=(decide (k≤n)&&decide (n≤k)):=by
 rw[←Bool.decide_and];exact decide_eq_decide.2 ⟨fun h=>by omega,fun h=>by omega⟩
theorem LS (N:Nat) (x:A1) (h0:0≤x.Op) (h1:x.Op≤10) (hl:x.cL.length≤64):∃s ng,JT N x s ng:=by
 obtain⟨op,args,typ,var,scope,span,c⟩:=x
 simp only at h0 h1 hl
 have h:op=0∨op=1∨op=2∨op=3∨op=4∨op=5∨op=6∨op=7∨op=8∨op=9∨op=10:=by omega
 rcases h with h|h|h|h|h|h|h|h|h|h|h
 all_goals
  subst h;refine⟨_,_,rfl,rfl,rfl,rfl,rfl,rfl,?_⟩;unfold CU;simp only[C0,M1,B1];simp
  try first|omega|exact Af3 _ _
theorem Aj4 {x:A1}(h0:0≤x.Op)(h1:x.Op≤10):¬(Ar.or (cmp .lss x.Op 0) (cmp .geq x.Op 11)=true):=by
 simp only[I8,C2,M1,Bool.or_eq_true,decide_eq_true_eq];omega
theorem Ad6 {x:A1}(h0:0≤x.Op)(h1:x.Op≤10):¬(Ar.or (cmp .lss x.Op 0) (cmp .gtr x.Op 10)=true):=by
 simp only[I8,C2,Q6,Bool.or_eq_true,decide_eq_true_eq];omega
theorem Aa3 {x:A1}(h:¬(0≤x.Op∧x.Op≤10)):Ar.or (cmp .lss x.Op 0) (cmp .geq x.Op 11)=true∧Ar.or (cmp .lss x.Op 0) (cmp .gtr x.Op 10)=true:=by
 simp only[I8,C2,M1,Q6,Bool.or_eq_true,decide_eq_true_eq];omega
theorem VU {N:Nat} (hN:40000000≤N) {x:A1} (hb:x.cN.bulk≤16777216) (h0:0≤x.Op) (h1:x.Op≤10) {s:J1} {ng:Bool} (hs:JT N x s ng) {sz:Bool}
 (hz:Q1 N N x.cN (⟨0,[],0,0,0,(⟨0,0,⟨#[]⟩⟩:A4)⟩:B0)=some sz):
 Q4 N x=some (if s.cS≤x.cL.length∧(x.cL.length:Int)≤s.most then ID s x sz else 15):=by
 unfold Q4;rw[if_neg (Aj4 h0 h1),hs.tab];simp only[Option.bind_some]
 by_cases ha:s.cS≤x.cL.length∧(x.cL.length:Int)≤s.most
 ·rw [if_pos ha,if_neg (by simp only[I8,C2,Q6,B1,Bool.or_eq_true,decide_eq_true_eq];omega)];rw[Hy,Hy,Hy,Hy,Ob hN hb,Ny,hz];simp only[UD,Option.bind_some];unfold ID;generalize Da s.cP x.Typ 15=b1;generalize Da s.cP x.Var 15=b2;generalize Da s.scope x.cQ 63=b3;generalize Da s.span x.Span 1099511627776=b4;generalize N5 s.cP x.Typ=c1;generalize N5 s.cP x.Var=c2;generalize N5 s.scope x.cQ=c3;generalize N5 s.span x.Span=c4;generalize K0 x.cN=ec
  cases b1 with
  |true=>rfl
  | false =>
   cases b2 with
   |true=>rfl
   | false =>
    cases b3 with
    |true=>rfl
    | false=>
     cases b4 with
     |true=>rfl
     | false=>
      cases s.cond with
      | false=>
       cases sz with
       |false=>rfl
       | true=>
        cases c1 with
        |false=>rfl
        | true=>
         cases c2 with
         |false=>rfl
         | true=>
          cases c3 with
          |false=>rfl
          |true=>
           cases c4<;>rfl
      | true=>
       by_cases he:ec=0
       ·subst he
        cases c1 with
        |false=>cases sz<;>rfl
        | true=>
         cases c2 with
         |false=>cases sz<;>rfl
         | true=>
          cases c3 with
          |false=>cases sz<;>rfl
          |true=>
           cases c4<;>cases sz<;>rfl
       simp[Q3,K1 he,he]
 rw[if_neg ha,if_pos (by simp only[I8,C2,Q6,B1,Bool.or_eq_true,decide_eq_true_eq];omega)]
theorem Mw (u:Bool)(n:Int):an (nt u) (cmp .neq n 0)= !N5 u n:=by
 simp only[L7,Q3,F6,N5,Bool.not_or]
theorem Ug (u w:Bool)(t v sc:Int):Ar.or (an (nt u) (Ar.or (cmp .neq t 0) (cmp .neq v 0))) (an (nt w) (cmp .neq sc 0))=((!N5 u t|| !N5 u v)|| !N5 w sc):=by
 rw[Mw];simp only[I8,L7,Q3,F6,N5];cases u<;>simp
theorem Gi {N:Nat} (hN:40000000≤N) {x:A1} (hb:x.cN.bulk≤16777216) (h0:0≤x.Op) (h1:x.Op≤10) {s:J1} {ng:Bool} (hs:JT N x s ng) {sz:Bool}
 (hz:Q1 N N x.cN (⟨0,[],0,0,0,(⟨0,0,⟨#[]⟩⟩:A4)⟩:B0)=some sz):
 V4 N x=some (if s.cS≤x.cL.length∧(x.cL.length:Int)≤s.most then ID s x sz else 15):=by
 unfold V4;rw[if_neg (Ad6 h0 h1),hs.ari,hs.var,hs.neg,hs.tim,hs.con,MO hN hb,hz];simp only[Option.bind_some]
 by_cases ha:s.cS≤x.cL.length∧(x.cL.length:Int)≤s.most
 ·rw [if_pos ha,if_neg (by simp[Q3,ha])];have sco:=hs.sco;simp only[Af8,Option.bind_some];cases ng
  ·rw [if_neg (by simp)]
   simp only[Bool.false_or]at sco
   rw[Ug,Mw];unfold ID;rw[sco];generalize Da s.cP x.Typ 15=b1;generalize Da s.cP x.Var 15=b2;generalize Da s.span x.cQ 63=b3;generalize Da s.span x.Span 1099511627776=b4;generalize N5 s.cP x.Typ=c1;generalize N5 s.cP x.Var=c2;generalize N5 s.span x.cQ=c3;generalize N5 s.span x.Span=c4;generalize K0 x.cN=ec
   cases b1 with
   |true=>rfl
   | false=>
    cases b2 with
    |true=>rfl
    | false=>
     cases b3 with
     |true=>rfl
     | false=>
      cases b4 with
      |true=>rfl
      | false=>
       cases s.cond with
       |false=>cases sz<;>cases c1<;>cases c2<;>cases c3<;>cases c4<;>rfl
       |true=>
        by_cases he:ec=0
        ·subst he;cases sz<;>cases c1<;>cases c2<;>cases c3<;>cases c4<;>rfl
        simp[K1 he,he]
  rw[if_pos rfl]
  simp only[Bool.true_or]at sco
  rw[Ug,Mw];unfold ID;rw[sco];generalize Da s.cP x.Typ 15=b1;generalize Da s.cP x.Var 15=b2;generalize Da true x.cQ 63=b3;generalize Da s.span x.Span 1099511627776=b4;generalize N5 s.cP x.Typ=c1;generalize N5 s.cP x.Var=c2;generalize N5 true x.cQ=c3;generalize N5 s.span x.Span=c4;generalize K0 x.cN=ec
  cases b1 with
  |true=>rfl
  | false=>
   cases b2 with
   |true=>rfl
   | false=>
    cases b3 with
    |true=>rfl
    | false=>
     cases b4 with
     |true=>rfl
     | false=>
      cases s.cond with
      |false=>cases sz<;>cases c1<;>cases c2<;>cases c3<;>cases c4<;>rfl
      |true=>
       by_cases he:ec=0
       ·subst he;cases sz<;>cases c1<;>cases c2<;>cases c3<;>cases c4<;>rfl
       simp[K1 he,he]
 rw[if_neg ha,if_pos (by simp only[Q3,decide_eq_false ha];rfl)]
end Go.Ab
namespace Go.Ab
mutual
theorem EK :∀(x y:A1),y∈x.pre→y.bulk≤x.bulk∧y.pre.length≤x.pre.length
 |⟨op,args,typ,var,scope,span,c⟩,y,h=>by
  rw[A1.pre]at h
  rcases List.mem_cons.1 h with rfl|h
  ·exact⟨Nat.le_refl _,Nat.le_refl _⟩
  have:=Mo args y h;simp only[A1.bulk,A1.pre,List.length_cons];omega
theorem Mo :∀(l:List A1) (y:A1),y∈A1.pres l→y.bulk≤A1.bulks l∧y.pre.length≤(A1.pres l).length
 |[],y,h=>by simp[A1.pres]at h
 |a::l,y,h=>by
  rw[A1.pres]at h
  rcases List.mem_append.1 h with h|h
  ·have:=EK a y h;simp only[A1.bulks,A1.pres,List.length_append];omega
  have:=Mo l y h;simp only[A1.bulks,A1.pres,List.length_append];omega
end
theorem Od :∀l:List A1,l.length≤(A1.pres l).length
 |[]=>Nat.le_refl _
 |a::l=>by
  have:=Od l;simp only[A1.pres,A1.pre_eq a,List.length_append,List.length_cons];omega
theorem Bw (x:A1):x.cL.length<x.pre.length:=by
 rw[A1.pre_eq];have:=Od x.cL;simp only[List.length_cons];omega
noncomputable def AW (N:Nat)(y:A1):Int:=(V4 N y).getD 0
theorem DJ {N:Nat} (hN:40000000≤N) {y:A1} (hb:y.bulk≤16777216) (hl:y.cL.length≤64):Q4 N y=some (AW N y)∧V4 N y=some (AW N y):=by
 have hc:y.cN.bulk≤16777216:=by have:=A1.bulk_eq y;omega
 have key:∃r,Q4 N y=some r∧V4 N y=some r:=by
  by_cases h:0≤y.Op∧y.Op≤10
  ·obtain⟨s,ng,hs⟩:=LS N y h.1 h.2 hl;obtain⟨sz,hz⟩:=Nx hN y.cN;exact⟨_,VU hN hc h.1 h.2 hs hz,Gi hN hc h.1 h.2 hs hz⟩
  obtain⟨h1,h2⟩:=Aa3 h;exact⟨1,by unfold Q4;rw[if_pos h1],by unfold V4;rw[if_pos h2]⟩
 obtain⟨r,h1,h2⟩:=key
 have e:AW N y=r:=by unfold AW;rw[h2];rfl
 rw[e];exact⟨h1,h2⟩
noncomputable def O2 (N:Nat)(x:A1):Int:=if 64<x.pre.length then 5 else if 12<x.dep then 12 else P9 (AW N) x.pre
theorem GX {N:Nat}(hN:40000000≤N){x:A1}(hb:x.bulk≤16777216):Q2 N x=some x.pre:=by
 unfold Q2 Z9;rw[Yw hN N x (by omega) hb];simp[N2]
theorem YK {N:Nat}(hN:40000000≤N){x:A1}(hb:x.bulk≤16777216):W8 N x=some (O2 N x):=by
 unfold W8 O2;rw[YD hN N x (by omega) hb];simp only[Option.bind_some]
 by_cases h1:64<x.pre.length
 ·rw[if_pos h1,if_pos (X0 (by omega))]
 rw[if_neg h1,if_neg (S9 (by omega))]
 by_cases h2:12<x.dep
 ·rw[if_pos h2,if_pos (X0 (by omega))]
 rw[if_neg h2,if_neg (S9 (by omega)),GX hN hb];simp only[Option.bind_some];rw[NE (f:=AW N) fun y hy=>(DJ hN (by have:=EK x y hy;omega) (by have:=EK x y hy;have:=Bw y;omega)).1]
 by_cases h3:P9 (AW N) x.pre=0
 ·rw[if_pos h3];simp[h3]
 rw[if_neg h3];rfl
theorem WS {N:Nat} (hN:40000000≤N) {x:A1} (hb:x.bulk≤16777216):Ai N x=some (O2 N x):=by
 unfold Ai O2;obtain⟨r,h0,c1,c2,c3⟩:=PM hN 64 N x (by omega) hb;rw[h0];simp only[Option.bind_some]
 by_cases h1:64<x.pre.length
 ·rw[if_pos h1,if_pos (X0 (by omega))]
 rw[if_neg h1,if_neg (S9 (by omega)),Rp hN N x (by omega) hb];simp only[Option.bind_some]
 by_cases h2:12<x.dep
 ·rw[if_pos h2,if_pos (X0 (by omega))]
 rw[if_neg h2,if_neg (S9 (by omega)),Mj hN N x (by omega) hb];simp only[Option.bind_some];rw[F5 x.pre (by omega) (mk:=fun(_:Unit) i=>i) (body:=As (V4 N)) (fin:=fun _=>.inl ()) (s:=()) (by omega) ?_ ?_]
 ·rw[X4 (f:=AW N) fun y hy=>(DJ hN (by have:=EK x y hy;omega) (by have:=EK x y hy;have:=Bw y;omega)).2]
  by_cases h3:P9 (AW N) x.pre=0
  ·simp[h3]
  simp[h3]
 ·intro s i a ha hi;have e:ar .add .i64 (i:Int) 1=i+1:=C4 (by omega) (by omega);simp only[C2,B1,hi,decide_true,if_true,C7,ha,Option.bind_some,e,As,F6]
  cases V4 N a with
  |none=>rfl
  |some r=>by_cases h:r=0<;>simp[h]
 intro s;simp[C2,B1]
end Go.Ab
namespace Go.Ab
def Good (N:Nat)(x:A1):Prop:=∀y∈x.pre,AW N y=0
theorem Iu {a y:A1} (hy:y∈a.pre):∀l:List A1,a∈l→y∈A1.pres l
 |[],h=>by simp at h
 |b::l,h=>by
  rcases List.mem_cons.1 h with rfl|h
  ·simp[A1.pres,hy]
  simp[A1.pres,Iu hy l h]
theorem Good.arg {N:Nat}{x a:A1}(h:Good N x)(ha:a∈x.cL):Good N a:=fun y hy=>h y (by
 rw[A1.pre_eq];exact List.mem_cons_of_mem _ (Iu hy _ ha))
theorem O5 {x a:A1}(ha:a∈x.cL):a.pre.length<x.pre.length:=by
 have:=(Mo x.cL a (Iu (by rw[A1.pre_eq];simp) _ ha)).2;rw[A1.pre_eq x];simp only[List.length_cons];omega
theorem Yh {N:Nat} (hN:40000000≤N) {y:A1} (hb:y.bulk≤16777216) (hl:y.cL.length≤64) (h:AW N y=0) (ho:y.Op=1∨y.Op=7∨y.Op=8∨y.Op=9∨y.Op=10):∃a r,y.cL=a::r:=by
 have hc:y.cN.bulk≤16777216:=by have:=A1.bulk_eq y;omega
 obtain⟨s,ng,hs⟩:=LS N y (by omega) (by omega) hl;obtain⟨sz,hz⟩:=Nx hN y.cN;have h1:=Gi hN hc (by omega) (by omega) hs hz
 rw[(DJ hN hb hl).2,h]at h1
 have h2:s.cS≤y.cL.length:=by
  have h1:=Option.some.inj h1
  by_cases hc:s.cS≤y.cL.length∧(y.cL.length:Int)≤s.most
  ·exact hc.1
  rw[if_neg hc]at h1;cases h1
 have h3:1≤s.cS:=by
  have ht:=hs.tab
  rcases ho with h|h|h|h|h<;>rw[h]at ht<;>cases ht<;>decide
 match he:y.cL,h2 with
 |[],h2=>simp at h2;omega
 |a::r,_=>exact⟨a,r,rfl⟩
theorem few8 {N:Nat}(hN:40000000≤N){x:B0}(hb:x.bulk≤16777216):∃b,BK N x=some b:=by
 unfold BK;obtain⟨r,h0,_⟩:=Rr hN 200 N x (by omega) hb;rw[h0];simp only[Option.bind_some]
 split
 ·rw[MK hN N x (by omega) hb];exact⟨_,rfl⟩
 exact⟨_,rfl⟩
theorem GU {α:Type} {F:α→Option Bool}:∀(l:List α),(∀a∈l,∃b,F a=some b)→∃o,G8 (fun(_:Unit) a=>(F a).bind fun r=>if nt r=true then some (Sum.inr (Sum.inr (α:=Unit) ()))else some (.inl ())) l ()=some o
 |[],_=>⟨_,rfl⟩
 |a::l,h=>by
  obtain⟨b,hb⟩:=h a (by simp);unfold G8;rw[hb]
  cases b with
  |false=>exact⟨_,rfl⟩
  |true=>exact GU l fun a ha=>h a (by simp[ha])
theorem few9 {N:Nat} (hN:40000000≤N) {x:A1} (hb:x.bulk≤16777216):∃b,Fm N x=some b:=by
 unfold Fm;obtain⟨r,h0,_⟩:=PM hN 150 N x (by omega) hb;rw[h0];simp only[Option.bind_some]
 split
 ·exact⟨_,rfl⟩
 rw[Rp hN N x (by omega) hb];simp only[Option.bind_some]
 split
 ·exact⟨_,rfl⟩
 rw[Mj hN N x (by omega) hb];simp only[Option.bind_some];have hp:=DY x;rw[F5 x.pre (by omega) (mk:=fun(_:Unit) i=>i) (body:=fun(_:Unit) a=>(BK N a.cN).bind fun r=>if nt r=true then some (.inr (.inr ()))else some (.inl ())) (fin:=fun _=>.inl ()) (s:=()) (by omega) ?_ ?_]
 ·obtain⟨o,ho⟩:=GU (F:=fun(a:A1)=>BK N a.cN) x.pre fun a ha=>few8 hN (by have:=(EK x a ha).1;have:=A1.bulk_eq a;omega);rw[ho]
  cases o with
  |inl _=>exact⟨_,rfl⟩
  |inr o=>cases o<;>exact⟨_,rfl⟩
 ·intro s i a ha hi;have e:ar .add .i64 (i:Int) 1=i+1:=C4 (by omega) (by omega);simp only[C2,B1,hi,decide_true,if_true,C7,ha,Option.bind_some,e]
  cases BK N a.cN with
  |none=>rfl
  |some r=>cases r<;>rfl
 intro s;simp[C2,B1]
end Go.Ab
namespace Go.Ab
theorem Mt {S R:Type} {step:S→Option (S ⊕ R)} (I:Nat→S→Prop) (Q:R→Prop):∀(k i:Nat) (s:S) (N:Nat),k<N→I i s→
 (∀j s,i≤j→j<i+k→I j s→∃o,step s=some o∧(match o with| .inl s'=>I (j+1) s'| .inr r=>Q r))→
 (∀s,I (i+k) s→∃r,step s=some (.inr r)∧Q r)→∃r,loopN step N s=some r∧Q r
 |0,i,s,N,hN,h0,_,he=>by
  obtain⟨N,rfl⟩:∃M,N=M+1:=⟨N - 1,by omega⟩;obtain⟨r,h1,h2⟩:=he s h0;exact⟨r,by simp only[loopN,h1],h2⟩
 | k+1,i,s,N,hN,h0,hs,he=>by
  obtain⟨N,rfl⟩:∃M,N=M+1:=⟨N - 1,by omega⟩;obtain⟨o,h1,h2⟩:=hs i s (Nat.le_refl _) (by omega) h0
  cases o with
  |inl s'=>
   obtain⟨r,h3,h4⟩:=Mt I Q k (i+1) s' N (by omega) h2 (fun j s a b c=>hs j s (by omega) (by omega) c) (fun s h=>he s (by rw[show i+(k+1)=i+1+k by omega];exact h));exact⟨r,by simp only[loopN,h1,h3],h4⟩
  |inr r=>exact⟨r,by simp only[loopN,h1],h2⟩
noncomputable instance :DecidableEq B0:=Classical.typeDecidableEq _
noncomputable instance :DecidableEq A1:=Classical.typeDecidableEq _
noncomputable instance :DecidableEq JV:=Classical.typeDecidableEq _
noncomputable instance :DecidableEq Pt:=Classical.typeDecidableEq _
noncomputable instance :DecidableEq J3:=Classical.typeDecidableEq _
theorem Ui {i:Nat}(h:i<1000000000000):ar .add .i64 (i:Int) 1=((i+1:Nat):Int):=by rw[C4 (by omega) (by omega)];omega
theorem ZC {α:Type} [DecidableEq α] {N:Nat} (l m:List α) (hl:l.length=m.length) (hs:l.length<1000000000000) (f:α→α→Option Bool) (hf:∀x∈l,∀y∈m,f x y=some (decide (x=y))) (hN:l.length<N):
 loopN (fun(i:Int)=>if cmp .lss i (Ar.len l)=true then(B6 l i).bind fun x=>(B6 m i).bind fun y=>(f x y).bind fun r=>if nt r=true then some (Sum.inr (Sum.inr (α:=Unit) ()))else some (.inl (ar .add .i64 i 1))else some (.inr (.inl ()))) N 0=some (if l=m then .inl ()else .inr ()):=by
 obtain⟨r,h1,h2⟩:=Mt (step:=fun(i:Int)=>if cmp .lss i (Ar.len l)=true then(B6 l i).bind fun x=>(B6 m i).bind fun y=>(f x y).bind fun r=>if nt r=true then some (Sum.inr (Sum.inr (α:=Unit) ()))else some (.inl (ar .add .i64 i 1))else some (.inr (.inl ())))
  (fun j s=>s=(j:Int)∧l.take j=m.take j) (fun r=>r=if l=m then .inl ()else .inr ()) l.length 0 0 N hN ⟨rfl,by simp⟩
  (fun j s _ hj ⟨e,ht⟩=>by
   subst e
   simp only[Nat.zero_add]at hj
   have hj2:j<m.length:=by omega
   have e1:l[j]? =some l[j]:=by simp[hj]
   have e2:m[j]? =some m[j]:=by simp[hj2]
   simp only[C2,B1,show((j:Int)<(l.length:Int)) by omega,decide_true,if_true,C7,e1,e2,Option.bind_some,hf _ (List.getElem_mem hj) _ (List.getElem_mem hj2)]
   by_cases h:l[j]=m[j]
   ·simp only[h,decide_true,Q3,Bool.not_true,Bool.false_eq_true,if_false];refine⟨_,rfl,Ui (by omega),?_⟩;rw[List.take_add_one,List.take_add_one,ht,e1,e2,h]
   simp only[h,decide_false,Q3,Bool.not_false,if_true];refine⟨_,rfl,?_⟩
   rw[if_neg fun he=>h (by subst he;rfl)])
  (fun s ⟨e,ht⟩=>by
   subst e
   simp only[Nat.zero_add]at ht ⊢
   refine⟨.inl (),by simp[C2,B1],?_⟩
   rw[List.take_length,hl,List.take_length]at ht
   rw[if_pos ht])
 rw[h1,h2]
theorem JD {a b:B0}:a=b↔(a.Op=b.Op∧a.Var=b.Var∧a.Field=b.Field∧a.Kind=b.Kind∧a.Value=b.Value)∧a.cL=b.cL:=by
 cases a;cases b;simp;constructor
 ·rintro⟨h1,h2,h3,h4,h5,h6⟩;exact⟨⟨h1,h3,h4,h5,h6⟩,h2⟩
 rintro⟨⟨h1,h3,h4,h5,h6⟩,h2⟩;exact⟨h1,h2,h3,h4,h5,h6⟩
theorem VD {a b:A4}:a=b↔a.Kind=b.Kind∧a.Num=b.Num∧a.Text=b.Text:=by cases a;cases b;simp
theorem NR (a b:B0):Mz a b=true↔¬((a.Op=b.Op∧a.Var=b.Var∧a.Field=b.Field∧a.Kind=b.Kind∧a.Value=b.Value)∧a.cL.length=b.cL.length):=by
 simp only[Mz,I8,L7,Q3,F6,C0,CN,B1,VD,Bool.or_eq_true,Bool.not_eq_true',decide_eq_false_iff_not,Bool.and_eq_false_iff,Bool.and_true,decide_eq_true_eq,Classical.not_and_iff_not_or_not]
 constructor
 ·rintro(((((h|h)|h)|h)|h)|h)
  ·simp[h]
  ·simp[h]
  ·simp[h]
  ·simp[h]
  ·rcases h with h|h|h<;>simp[h]
  right;omega
 rintro((h|h|h|h|h)|h)
 ·simp[h]
 ·simp[h]
 ·simp[h]
 ·simp[h]
 ·rcases h with h|h|h<;>simp[h]
 right;omega
theorem ZZ {N:Nat} (hN:40000000≤N):∀(n:Nat) (a b:B0),a.bulk≤n→a.bulk≤16777216→Q1 N n a b=some (decide (a=b)):=by
 intro n
 induction n with
 |zero=>intro a b h;have:=CD a;omega
 | succ n ih=>
  intro a b hx hb;have hl:=Ec a;unfold Q1
  change (if Mz a b=true then some false else _)=_
  by_cases h:Mz a b=true
  ·rw[if_pos h]
   rw[NR]at h
   rw[decide_eq_false];intro e;exact h ⟨(JD.1 e).1,by rw[(JD.1 e).2]⟩
  rw[if_neg h]
  rw[NR,Classical.not_not]at h
  rw[ZC a.cL b.cL h.2 (by omega) _ (fun x hx y hy=>ih x y (by have:=X5 hx;omega) (by have:=X5 hx;omega)) (by omega)];simp only[Option.bind_some]
  by_cases he:a.cL=b.cL
  ·rw[if_pos he,decide_eq_true (JD.2 ⟨h.1,he⟩)]
  rw[if_neg he,decide_eq_false fun e=>he (JD.1 e).2]
structure Arity (y:A1):Prop where
 op:0≤y.Op∧y.Op≤10
 ev:y.Op=0→y.cL=[]
 two:1≤y.Op→y.Op≤3→2≤y.cL.length
 one:4≤y.Op→y.Op≠8→∃a,y.cL=[a]
 more:y.Op=8→∃a b,y.cL=[a,b]
end Go.Ab
namespace Go.Ab
abbrev Pr :=JV×J3
def zE :B0:=⟨0,[],0,0,0,⟨0,0,⟨#[]⟩⟩⟩
def zP :A1:=⟨0,[],0,0,0,0,zE⟩
def nd (op:Int)(args:List A1):A1:=⟨op,args,0,0,0,0,zE⟩
def Ab4 :J3:=⟨true,zP⟩
def Aa9 (op:Int)(l:List A1):A1:=match l with|[x]=>x|l=>nd op l
def Ak9 (r:J3)(more:List A1):J3:=
 match(if r.done=true then more else r.p::more)with
 |[]=>Ab4
 |l=>⟨false,Aa9 1 l⟩
def Ak4 (args:List A1)(i:Nat)(r:J3):J3:=
 ⟨false,Aa9 3 (if r.done=true then args.take i++args.drop (i+1)else args.set i r.p)⟩
def Esz (e:JV)(k:Nat):Prop:=e.Opens.length≤k∧e.Closes.length≤k∧e.Checks.length≤k∧e.Limits.length≤k∧e.Inside.length≤k
def Ai9 (p:A1) (x:JV) (done opens:Bool):JV:=
 {x with
  Opens:=if opens=true then p.cQ::x.Opens else x.Opens
  Inside:=if p.Op=5∨p.Op=9 then p.cQ::x.Inside else x.Inside
  Limits:=if p.Op=5∨p.Op=9 then x.Limits else⟨p.cQ,p.Span⟩::x.Limits
  Closes:=if done=true then x.Closes++[p.cQ]else x.Closes}
def rep (again:A1)(y:Pr):List Pr:=
 if y.2.done=true then[y,(y.1,⟨false,again⟩)]else match again.cL with|b::_=>[(y.1,⟨false,nd 8 [y.2.p,b]⟩)]|[]=>[]
def innE (x:A1)(y:Pr):JV:=
 if x.Op=7 then(if y.2.done=true then{y.1 with Checks:=y.1.Checks++[x.cN]}else y.1)
 else Ai9 x y.1 y.2.done (if x.Op=5∨x.Op=9 then decide (x.Op=5)else decide (x.Op=6))
def Ak6 (x:A1):Int:=if x.Op=7 then 7 else if x.Op=5∨x.Op=9 then 9 else 10
def innR (x:A1)(r:J3):J3:=if r.done=true then r else{r with p:={x with Op:=Ak6 x,cL:=[r.p]}}
def inn (x:A1)(y:Pr):Pr:=(innE x y,innR x y.2)
def comb (x:A1)(ls:List (List Pr)):List Pr:=
 if x.Op=0 then[(⟨0,0,x.Var,x.Typ,x.cN,[],[],[],[],[]⟩,Ab4)]
 else if x.Op=1 then(ls.headD []).map fun y=>(y.1,Ak9 y.2 (x.cL.drop 1))
 else if x.Op=2 then(List.range x.cL.length).flatMap fun i=>ls.getD i []
 else if x.Op=3 then(List.range x.cL.length).flatMap fun i=>(ls.getD i []).map fun y=>(y.1,Ak4 x.cL i y.2)
 else if x.Op=4 then(ls.headD []).flatMap (rep x)
 else if x.Op=8 then(ls.headD []).flatMap (rep (nd 4 (x.cL.drop 1)))
 else(ls.headD []).map (inn x)
mutual
def raw :A1→List Pr
 |⟨op,args,typ,var,scope,span,c⟩=>comb ⟨op,args,typ,var,scope,span,c⟩ (raws args)
def raws :List A1→List (List Pr)
 |[]=>[]
 |a::l=>raw a::raws l
end
theorem Esz.mono {e:JV}{k m:Nat}(h:Esz e k)(hm:k≤m):Esz e m:=by obtain⟨h1,h2,h3,h4,h5⟩:=h;exact⟨by omega,by omega,by omega,by omega,by omega⟩
end Go.Ab
namespace Go.Ab
end Go.Ab
namespace Go.Ab
structure Tl (B:Nat) (R:Nat) (y:Pr):Prop where
 from0:y.1.From=0
 to0:y.1.To=0
 done:y.2.done=true→y.2.p=zP
 cond:y.1.cN.bulk≤B
 checks:∀c∈y.1.Checks,c.bulk≤B
 rest:y.2.p.bulk≤R
theorem Tl.mono {B R B' R':Nat}{y:Pr}(h:Tl B R y)(hB:B≤B')(hR:R≤R'):Tl B' R' y:=⟨h.from0,h.to0,h.done,Nat.le_trans h.cond hB,fun c hc=>Nat.le_trans (h.checks c hc) hB,Nat.le_trans h.rest hR⟩
def wth {α:Type}[DecidableEq α](l:List α)(x:α):List α:=if x∈l then l else l++[x]
def dd {α:Type}[DecidableEq α](l:List α):List α:=l.foldl wth []
section
variable {α:Type}[DecidableEq α]
theorem Af4 (l m:List α):dd (l++m)=m.foldl wth (dd l):=by simp[dd,List.foldl_append]
end
end Go.Ab
namespace Go.Ab
def idxI {α:Type}(P:α→Bool)(l:List α):Int:=match l.findIdx? P with|none=> -1|some i=>(i:Int)
noncomputable abbrev idxP (l:List A1)(p:A1):Int:=idxI (fun q=>decide (p=q)) l
noncomputable def Aj0 (l:List A1)(y:Pr):List A1:=if y.2.done=true then l else wth l y.2.p
noncomputable def WR (w:List Pr):List A1:=w.foldl Aj0 []
noncomputable def toOf (l:List A1)(r:J3):Int:=if r.done=true then -1 else idxP l r.p
noncomputable def eg (l:List A1)(y:Pr):JV:={y.1 with To:=toOf l y.2}
def Yn (N:Nat)(w:List Pr):Prop:=2048<(dd w).length∨∃y∈w,y.2.done=false∧O2 N y.2.p≠0
noncomputable instance (N:Nat)(w:List Pr):Decidable (Yn N w):=Classical.propDecidable _
theorem Rq (w v:List Pr):(dd w).length≤(dd (w++v)).length:=by
 rw[Af4]
 have key:∀(v l:List Pr),l.length≤(v.foldl wth l).length:=fun v=>by
  induction v with
  |nil=>intro l;exact Nat.le_refl _
  |cons x v ih=>
   intro l;refine Nat.le_trans ?_ (ih (wth l x));unfold wth;split<;>simp
 exact key v _
theorem Yn.mono {N:Nat}{w v:List Pr}(h:Yn N w):Yn N (w++v):=by
 rcases h with h|⟨y,hy,h⟩
 ·left;have:=Rq w v;omega
 right;exact⟨y,by simp[hy],h⟩
structure DerInv (N:Nat) (w:List Pr) (s:List A1×List JV):Prop where
 rs:s.1=WR w
 es:s.2=(dd w).map (eg (WR w))
 ok:¬Yn N w
 len:(WR w).length≤(dd w).length
end Go.Ab
namespace Go.Ab
theorem IA {α R:Type} (P:α→Bool) (r:R):∀l:List α,G8 (fun(_:Unit) y=>if P y=true then some (Sum.inr r)else some (.inl ())) l ()=some (if l.any P=true then .inr r else .inl ())
 |[]=>rfl
 | y::l=>by
  unfold G8
  cases h:P y with
  |true=>simp[h]
  |false=>
   simp only[Bool.false_eq_true,if_false,List.any_cons,h,Bool.false_or];exact IA P r l
theorem Good.sub {N:Nat}{x y:A1}(h:Good N x)(hy:y∈x.pre):AW N y=0:=h y hy
theorem Wt {N:Nat} (hN:40000000≤N) {x:A1} (hb:x.bulk≤16777216):Bp N x=some (if O2 N x≠0 then O2 N x else if x.pre.any (fun y=>cmp .geq y.Op 8)=true then 1 else 0):=by
 unfold Bp;rw[YK hN hb];simp only[Option.bind_some]
 by_cases h:O2 N x=0
 ·rw[if_neg (J7 h),if_neg (by simpa using h),GX hN hb];simp only[Option.bind_some];rw[IA (fun y:A1=>cmp .geq y.Op 8) (1:Int) x.pre]
  by_cases h2:x.pre.any (fun y=>cmp .geq y.Op 8)=true
  ·rw[if_pos h2,if_pos h2];rfl
  rw[if_neg h2,if_neg h2];rfl
 rw[if_pos (K1 h),if_pos h]
theorem HE {N:Nat} {x:A1} (hz:O2 N x=0):x.pre.length≤64∧x.dep≤12∧Good N x:=by
 have hp:x.pre.length≤64:=by
  by_cases h:64<x.pre.length
  ·rw[O2,if_pos h]at hz;cases hz
  omega
 have hd:¬12<x.dep:=fun h=>by rw[O2,if_neg (by omega),if_pos h]at hz;cases hz
 rw[O2,if_neg (by omega),if_neg hd]at hz
 exact⟨hp,by omega,CE.1 hz⟩
theorem Jp (x:A1):x∈x.pre:=by rw[A1.pre_eq];simp
theorem Us {α β:Type}{m:Option α}{F:α→Option β}{a:α}{r:Option β}(h1:m=some a)(h2:F a=r):m.bind F=r:=by rw[h1];exact h2
end Go.Ab
namespace Go.Ab
mutual
theorem MQ :∀x:B0,(∀y∈x.pre,y.Value.Text.size≤64)→x.bulk≤74*x.pre.length
 |⟨op,args,var,field,kind,v⟩,h=>by
  have h1:=La args fun y hy=>h y (by rw[B0.pre];exact List.mem_cons_of_mem _ hy);have h2:v.Text.size≤64:=h ⟨op,args,var,field,kind,v⟩ (by rw[B0.pre];exact List.mem_cons_self ..);simp only[B0.bulk,B0.pre,List.length_cons];omega
theorem La :∀l:List B0,(∀y∈B0.pres l,y.Value.Text.size≤64)→B0.bulks l≤1+74*(B0.pres l).length
 |[],_=>by simp[B0.bulks]
 |a::l,h=>by
  have h1:=MQ a fun y hy=>h y (by rw[B0.pres];exact List.mem_append_left _ hy);have h2:=La l fun y hy=>h y (by rw[B0.pres];exact List.mem_append_right _ hy);simp only[B0.bulks,B0.pres,List.length_append];omega
end
theorem Iw :(⟨#[]⟩:ByteArray).size=0:=rfl
theorem RK {v:A4}(h:No v=true):v.Text.size≤64:=by
 simp only[No,L7,C0,CN,Bool.and_eq_true,decide_eq_true_eq]at h
 rw[h.2.2.1,Iw];omega
theorem PI {v:A4} (h:H6 v=0):v.Text.size≤64:=by
 unfold H6 at h
 by_cases h1:v.Kind=0∨v.Kind=1
 ·rw[if_pos h1]at h
  by_cases h2:v.Text≠⟨#[]⟩
  ·rw[if_pos h2]at h;cases h
  have:v.Text=⟨#[]⟩:=Classical.not_not.1 h2;rw[this,Iw];omega
 rw[if_neg h1]at h
 by_cases h2:v.Kind=2
 ·rw[if_pos h2]at h
  by_cases h3:v.Num≠0
  ·rw[if_pos h3]at h;cases h
  rw[if_neg h3]at h
  by_cases h4:64<(v.Text.size:Int)
  ·rw[if_pos h4]at h;cases h
  omega
 rw[if_neg h2]at h;cases h
theorem Ph {x:B0} (h:Y0 x=0):x.Value.Text.size≤64:=by
 unfold Y0 at h
 by_cases h0:x.Op<0∨12<x.Op
 ·rw[if_pos h0]at h;cases h
 rw[if_neg h0]at h
 by_cases h1:(x.cL.length:Int)≠(if x.Op<5 then 0 else if x.Op=12 then 1 else 2)
 ·rw[if_pos h1]at h;cases h
 rw[if_neg h1]at h
 by_cases h2:OM x=true
 ·rw[if_pos h2]at h;cases h
 rw[if_neg h2]at h
 by_cases h3:Mv x=true
 ·rw[if_pos h3]at h;cases h
 rw[if_neg h3]at h
 by_cases h4:x.Op=4∨x.Op=0
 ·by_cases h5:H6 x.Value=0
  ·exact PI h5
  rw[if_pos ⟨h4,h5⟩]at h;exact absurd h h5
 rw[if_neg (fun e=>h4 e.1),if_neg (fun e=>h4 (.inl e.1))]at h
 by_cases h6:Ed x=true
 ·rw[if_pos h6]at h;cases h
 have h7:No x.Value=true:=by
  have n4:¬x.Op=4:=fun e=>h4 (.inl e);have n0:¬x.Op=0:=fun e=>h4 (.inr e)
  cases hz:No x.Value with
  |true=>rfl
  |false=>
   refine absurd ?_ h6;simp[Ed,I8,L7,Q3,C0,n4,n0,hz]
 exact RK h7
theorem Lg {c:B0}(h:K0 c=0):c.bulk≤4736:=by
 have hp:¬64<c.pre.length:=fun e=>by rw[K0,if_pos e]at h;cases h
 have hd:¬12<c.dep:=fun e=>by rw[K0,if_neg hp,if_pos e]at h;cases h
 rw[K0,if_neg hp,if_neg hd]at h
 have:=MQ c fun y hy=>Ph (CE.1 h y hy);omega
theorem Mk {N:Nat} (hN:40000000≤N) {y:A1} (hb:y.bulk≤16777216) (hl:y.cL.length≤64) (h:AW N y=0):(0≤y.Op∧y.Op≤10)∧∃s ng,JT N y s ng∧y.cN.bulk≤4736:=by
 have hc:y.cN.bulk≤16777216:=by have:=A1.bulk_eq y;omega
 have hop:0≤y.Op∧y.Op≤10:=by
  by_cases ho:0≤y.Op∧y.Op≤10
  ·exact ho
  have h1:=(DJ hN hb hl).1
  unfold Q4 at h1
  rw[if_pos (Aa3 ho).1,h]at h1
  cases h1
 obtain⟨s,ng,hs⟩:=LS N y hop.1 hop.2 hl;have hz:=ZZ hN N y.cN (⟨0,[],0,0,0,(⟨0,0,⟨#[]⟩⟩:A4)⟩:B0) (by omega) hc;have h1:=Gi hN hc hop.1 hop.2 hs hz
 rw[(DJ hN hb hl).2,h]at h1
 have h1:=Option.some.inj h1;refine⟨hop,s,ng,hs,?_⟩
 by_cases ha:s.cS≤y.cL.length∧(y.cL.length:Int)≤s.most
 ·rw[if_pos ha]at h1
  unfold ID at h1
  by_cases e1:Da s.cP y.Typ 15=true
  ·rw[if_pos e1]at h1;cases h1
  rw[if_neg e1]at h1
  by_cases e2:Da s.cP y.Var 15=true
  ·rw[if_pos e2]at h1;cases h1
  rw[if_neg e2]at h1
  by_cases e3:Da s.scope y.cQ 63=true
  ·rw[if_pos e3]at h1;cases h1
  rw[if_neg e3]at h1
  by_cases e4:Da s.span y.Span 1099511627776=true
  ·rw[if_pos e4]at h1;cases h1
  rw[if_neg e4]at h1
  by_cases e5:s.cond=true
  ·by_cases e6:K0 y.cN=0
   ·exact Lg e6
   rw[if_pos ⟨e5,e6⟩]at h1;exact absurd h1.symm e6
  rw[if_neg (fun e=>e5 e.1)]at h1
  by_cases e6:y.cN=(⟨0,[],0,0,0,(⟨0,0,⟨#[]⟩⟩:A4)⟩:B0)
  ·rw[e6];simp only[B0.bulk,B0.bulks,Iw];omega
  rw[if_neg (fun e=>by
   have:=e.1
   rw[decide_eq_false e6]at this
   simp[e5]at this)]at h1
  cases h1
 rw[if_neg ha]at h1;cases h1
end Go.Ab
namespace Go.Ab
def cnt :List (Bool×Bool×A1)→Int→Int→Bool
 |[],_,_=>true
 |y::l,v,s=>(if y.1=true then decide (y.2.2.Var=v)else true)&&(if y.2.1=true then decide (y.2.2.cQ=s)else true)&&cnt l (if y.1=true then v+1 else v) (if y.2.1=true then s+1 else s)
noncomputable def EA (y:A1):Bool:=match B6 G1 y.Op with|some s=>s.cP|none=>false
noncomputable def EE (y:A1):Bool:=match B6 G1 y.Op with|some s=>s.scope|none=>false
noncomputable def Pj (l:List A1):Bool:=cnt (l.map fun y=>(EA y,EE y,y)) 0 0
def Ym (N:Nat)(y:A1):Prop:=∃s ng,JT N y s ng
theorem MA {N:Nat}(hN:40000000≤N){x:A1}(hb:x.bulk≤16777216)(hz:O2 N x=0):∀y∈x.pre,Ym N y:=fun y hy=>by
 obtain⟨hp,hd,hg⟩:=HE hz;have h1:=EK x y hy;have h2:=Bw y;obtain⟨_,s,ng,h,_⟩:=Mk hN (by omega) (by omega) (hg y hy);exact⟨s,ng,h⟩
theorem Av {a b:Int}(h:a<b):cmp .lss a b=true:=by rw[C2];exact decide_eq_true h
theorem W9 {a b:Int}(h:¬a<b):¬(cmp .lss a b=true):=by rw[C2];simpa using h
noncomputable def ML (s7:Bool×Int×Int)(y6:A1):Option ((Bool×Int×Int) ⊕ Unit):=
 (B6 G1 y6.Op).bind fun x11=>((if x11.cP=true then some (an s7.1 (cmp .eql y6.Var s7.2.2),ar .add .i64 s7.2.2 1)else some (s7.1,s7.2.2)):Option (Bool×Int)).bind fun s12=>if x11.scope=true then some (.inl (an s12.1 (cmp .eql y6.cQ s7.2.1),ar .add .i64 s7.2.1 1,s12.2))else some (.inl (s12.1,s7.2.1,s12.2))
theorem NY {N:Nat}:∀(l:List A1),(∀y∈l,Ym N y)→∀(b:Bool) (v s:Int),0≤v→0≤s→v+l.length≤1000000→s+l.length≤1000000→
 ∃v' s',G8 ML l (b,s,v)=some (.inl (b&&cnt (l.map fun y=>(EA y,EE y,y)) v s,s',v'))
 |[],_,b,v,s,_,_,_,_=>⟨v,s,by simp[G8,cnt]⟩
 |y::l,h,b,v,s,hv,hs,hv2,hs2=>by
  simp only[List.length_cons]at hv2 hs2
  obtain⟨sh,ng,ok⟩:=h y (by simp)
  have et:EA y=sh.cP:=by unfold EA;rw[ok.tab]
  have es:EE y=sh.scope:=by unfold EE;rw[ok.tab]
  have ev:ar .add .i64 v 1=v+1:=C4 (by omega) (by omega);have ess:ar .add .i64 s 1=s+1:=C4 (by omega) (by omega);have hr:=fun b v' s' h1 h2 h3 h4=>NY l (fun z hz=>h z (by simp[hz])) b v' s' h1 h2 h3 h4;simp only[List.map_cons,cnt,et,es]
  have step:∀b' v2 s2,ML (b,s,v) y=some (.inl (b',s2,v2))→G8 ML (y::l) (b,s,v)=G8 ML l (b',s2,v2):=fun b' v2 s2 h=>by simp only[G8,h]
  have hst:∀b' v2 s2,(some (.inl (b',s2,v2)):Option ((Bool×Int×Int) ⊕ Unit))=(((if sh.cP=true then some (an b (cmp .eql y.Var v),ar .add .i64 v 1)else some (b,v)):Option (Bool×Int)).bind fun s12=>if sh.scope=true then some (.inl (an s12.1 (cmp .eql y.cQ s),ar .add .i64 s 1,s12.2))else some (.inl (s12.1,s,s12.2)))→G8 ML (y::l) (b,s,v)=G8 ML l (b',s2,v2):=fun b' v2 s2 h=>step b' v2 s2 (by rw[h];unfold ML;rw[ok.tab];rfl);cases ht:sh.cP<;>cases hc:sh.scope
  ·obtain⟨v',s',h1⟩:=hr b v s hv hs (by omega) (by omega);exact⟨v',s',by rw[hst b v s (by rw[ht,hc];rfl)];simpa using h1⟩
  ·obtain⟨v',s',h1⟩:=hr (b&&decide (y.cQ=s)) v (s+1) hv (by omega) (by omega) (by omega);exact⟨v',s',by rw[hst (b&&decide (y.cQ=s)) v (s+1) (by simp[ht,hc,ess,C0,L7])];simpa[Bool.and_assoc]using h1⟩
  ·obtain⟨v',s',h1⟩:=hr (b&&decide (y.Var=v)) (v+1) s (by omega) hs (by omega) (by omega);exact⟨v',s',by rw[hst (b&&decide (y.Var=v)) (v+1) s (by rw[ht,hc,ev,C0,L7];rfl)];simpa[Bool.and_assoc]using h1⟩
  obtain⟨v',s',h1⟩:=hr (b&&decide (y.Var=v)&&decide (y.cQ=s)) (v+1) (s+1) (by omega) (by omega) (by omega) (by omega);exact⟨v',s',by rw[hst (b&&decide (y.Var=v)&&decide (y.cQ=s)) (v+1) (s+1) (by rw[ht,hc,ev,ess,C0,C0,L7];rfl)];simpa[Bool.and_assoc]using h1⟩
theorem Vn {N:Nat}(hN:40000000≤N){x:A1}(hb:x.bulk≤16777216)(hz:O2 N x=0):∃v s,Bq N x=some (v,s,Pj x.pre):=by
 obtain⟨hp,hd,hg⟩:=HE hz;obtain⟨v,s,h⟩:=NY (N:=N) x.pre (MA hN hb hz) true 0 0 (by omega) (by omega) (by omega) (by omega);unfold Bq;rw[GX hN hb];simp only[Option.bind_some];refine⟨v,s,Us h ?_⟩;simp[Pj]
noncomputable def Rs (N:Nat)(x:A1):Int:=if O2 N x≠0 then O2 N x else if x.pre.any (fun y=>cmp .geq y.Op 8)=true then 1 else if Pj x.pre=true then 0 else 14
theorem Vo {N:Nat} (hN:40000000≤N) {x:A1} (hb:x.bulk≤16777216):Br N x=some (Rs N x):=by
 unfold Br Rs;rw[Wt hN hb];simp only[Option.bind_some]
 by_cases h:O2 N x=0
 ·rw[if_neg (show¬(O2 N x≠0) by simpa using h),if_neg (show¬(O2 N x≠0) by simpa using h)]
  by_cases h2:x.pre.any (fun y=>cmp .geq y.Op 8)=true
  ·rw[if_pos h2,if_pos h2,if_pos (K1 (by omega))]
  rw[if_neg h2,if_neg h2,if_neg (J7 rfl)];obtain⟨v,s,hr⟩:=Vn hN hb h;rw[hr];simp only[Option.bind_some];cases Pj x.pre<;>simp[Q3]
 rw[if_pos h,if_pos (K1 h),if_pos h]
theorem Vm {N:Nat}(l:List A1)(hl:l.length<N)(hs:l.length≤1000000):BW N l=some (!(l.any fun y=>cmp .geq y.Op 8)):=by
 unfold BW;rw[F5 l (by omega) (mk:=fun(_:Unit) i=>i) (body:=fun(_:Unit) a=>if cmp .geq a.Op 8=true then some (.inr (.inr ()))else some (.inl ())) (fin:=fun _=>.inl ()) (s:=()) (by omega) ?_ ?_]
 ·rw[IA (fun y:A1=>cmp .geq y.Op 8) (Sum.inr ():Unit ⊕ Unit) l];cases h:l.any fun y=>cmp .geq y.Op 8<;>simp
 ·intro s i a ha hi;have e:ar .add .i64 (i:Int) 1=i+1:=C4 (by omega) (by omega);simp only[C2,B1,hi,decide_true,if_true,C7,ha,Option.bind_some,e];cases cmp .geq a.Op 8<;>rfl
 intro s;simp[C2,B1]
theorem Vj {N:Nat} (hN:40000000≤N) {x:A1} (hb:x.bulk≤16777216):CV N x=some (Rs N x):=by
 unfold CV Rs;rw[WS hN hb];simp only[Option.bind_some]
 by_cases h:O2 N x=0
 ·rw [if_neg (show¬(O2 N x≠0) by simpa using h),if_neg (J7 h),Mj hN N x (by omega) hb];have hpb:=DY x;obtain⟨hp,hd,hg⟩:=HE h;simp only[Option.bind_some];rw[Vm x.pre (by omega) (by omega)];simp only[Option.bind_some]
  by_cases h2:x.pre.any (fun y=>cmp .geq y.Op 8)=true
  ·rw[if_pos h2,h2,if_pos (show nt (!true)=true from rfl)]
  rw[if_neg h2,if_neg (by simp[Q3,h2])];have hk:=MA hN hb h
  obtain ⟨r,k1,k2⟩:=Mt (S:=Int×Int×Int) (R:=Unit ⊕ Unit) (step:=fun(s4:Int×Int×Int)=>((if cmp .lss s4.2.2 (Ar.len x.pre)=true then(B6 x.pre s4.2.2).bind fun x6=>(V3 N x6).bind fun r7=>((if r7=true then(B6 x.pre s4.2.2).bind fun x9=>if cmp .neq x9.Var s4.1=true then some (.inr ())else some (.inl (ar .add .i64 s4.1 1))else some (.inl s4.1)):Option (Int ⊕ Unit)).bind fun s8=>match s8 with
          | .inl y10=>(B6 x.pre s4.2.2).bind fun x11=>(X3 N x11).bind fun r12=>if r12=true then(B6 x.pre s4.2.2).bind fun x13=>if cmp .neq x13.cQ s4.2.1=true then some (.inr (.inr ()))else some (.inl (y10,ar .add .i64 s4.2.1 1,ar .add .i64 s4.2.2 1))else(B6 x.pre s4.2.2).bind fun x14=>(U1 N x14).bind fun r15=>if r15=true then(B6 x.pre s4.2.2).bind fun x16=>if cmp .neq x16.cQ s4.2.1=true then some (.inr (.inr ()))else some (.inl (y10,ar .add .i64 s4.2.1 1,ar .add .i64 s4.2.2 1))else some (.inl (y10,s4.2.1,ar .add .i64 s4.2.2 1))
          | .inr y17=>some (.inr (.inr ()))
   else some (.inr (.inl ())))
   :Option ((Int×Int×Int) ⊕ (Unit ⊕ Unit))))
   (fun j s=>s.2.2=(j:Int)∧0≤s.1∧s.1≤j∧0≤s.2.1∧s.2.1≤j∧Pj x.pre=cnt ((x.pre.drop j).map fun y=>(EA y,EE y,y)) s.1 s.2.1)
   (fun r=>r=if Pj x.pre=true then .inl ()else .inr ()) x.pre.length 0 (0,0,0) N (by omega) ⟨rfl,by simp,by simp,by simp,by simp,rfl⟩
   (fun j s _ hj ⟨e,b1,b2,b3,b4,hc⟩=>by
    obtain⟨v,sc,i⟩:=s
    simp only at e b1 b2 b3 b4 hc
    subst e
    simp only[Nat.zero_add]at hj
    have e1:B6 x.pre (j:Int)=some x.pre[j]:=by rw[C7,List.getElem?_eq_getElem hj]
    obtain⟨sh,ng,ok⟩:=hk _ (List.getElem_mem hj)
    have et:EA x.pre[j]=sh.cP:=by unfold EA;rw[ok.tab]
    have es:EE x.pre[j]=sh.scope:=by unfold EE;rw[ok.tab]
    have ev:ar .add .i64 v 1=v+1:=C4 (by omega) (by omega);have ess:ar .add .i64 sc 1=sc+1:=C4 (by omega) (by omega);have ei:ar .add .i64 (j:Int) 1=((j+1:Nat):Int):=Ui (by omega)
    rw[List.drop_eq_getElem_cons hj,List.map_cons,cnt]at hc
    simp only[et,es]at hc
    have sco:=ok.sco;rw[if_pos (Av (by simp only[B1];omega))];simp only[e1,Option.bind_some,ok.var,ok.neg,ok.tim,ev,ess,ei]
    by_cases hv:sh.cP=true∧x.pre[j].Var≠v
    ·rw[if_pos hv.1,if_pos (K1 hv.2)];refine⟨_,rfl,?_⟩;rw[hc];simp[hv.1,hv.2]
    have hv1:((if sh.cP=true then if cmp .neq x.pre[j].Var v=true then some (.inr ())else some (.inl (v+1))else some (.inl v)):Option (Int ⊕ Unit))=some (.inl (if sh.cP=true then v+1 else v)):=by
     by_cases ht:sh.cP=true
     ·rw[if_pos ht,if_pos ht,if_neg (J7 (Classical.not_not.1 fun e=>hv ⟨ht,e⟩))]
     rw[if_neg ht,if_neg ht]
    rw[hv1];simp only[Option.bind_some]
    have hcv:(if sh.cP=true then decide (x.pre[j].Var=v)else true)=true:=by
     by_cases ht:sh.cP=true
     ·rw[if_pos ht];exact decide_eq_true (Classical.not_not.1 fun e=>hv ⟨ht,e⟩)
     rw[if_neg ht]
    rw[hcv,Bool.true_and]at hc
    have hvb:0≤(if sh.cP=true then v+1 else v)∧(if sh.cP=true then v+1 else v)≤((j+1:Nat):Int):=by split<;>omega
    generalize (if sh.cP=true then v+1 else v)=v' at hc hvb ⊢
    by_cases hs:sh.scope=true
    ·rw[if_pos hs,if_pos hs]at hc
     by_cases hsc:x.pre[j].cQ=sc
     ·have hgo:0≤sc+1∧sc+1≤((j+1:Nat):Int)∧Pj x.pre=cnt ((x.pre.drop (j+1)).map fun y=>(EA y,EE y,y)) v' (sc+1):=by
       refine⟨?_,?_,?_⟩
       ·omega
       ·omega
       rw[hc,decide_eq_true hsc,Bool.true_and]
      by_cases hng:ng=true
      ·rw[if_pos hng,if_neg (J7 hsc)];exact⟨_,rfl,rfl,hvb.1,hvb.2,hgo⟩
      have hsp:sh.span=true:=by rw[hs]at sco;simpa[hng]using sco.symm
      rw[if_neg hng,if_pos hsp,if_neg (J7 hsc)];exact⟨_,rfl,rfl,hvb.1,hvb.2,hgo⟩
     have hno:Pj x.pre=false:=by rw[hc,decide_eq_false hsc,Bool.false_and]
     by_cases hng:ng=true
     ·rw[if_pos hng,if_pos (K1 hsc)];exact⟨_,rfl,by rw[hno];rfl⟩
     have hsp:sh.span=true:=by rw[hs]at sco;simpa[hng]using sco.symm
     rw[if_neg hng,if_pos hsp,if_pos (K1 hsc)];exact⟨_,rfl,by rw[hno];rfl⟩
    rw[if_neg hs,if_neg hs,Bool.true_and]at hc
    have hs0:sh.scope=false:=by simpa using hs
    rw[hs0]at sco
    have hng:¬ng=true:=fun e=>by rw[e]at sco;cases sco
    have hsp:¬sh.span=true:=fun e=>by rw[e]at sco;simp at sco
    rw[if_neg hng,if_neg hsp];refine⟨_,rfl,rfl,hvb.1,hvb.2,b3,?_,hc⟩
    show sc≤_;omega)
   (fun s ⟨e,_,_,_,_,hc⟩=>by
    obtain⟨v,sc,i⟩:=s
    simp only[Nat.zero_add]at e hc
    subst e
    rw[List.drop_length]at hc
    rw[if_neg (W9 (by simp only[B1];omega))];refine⟨_,rfl,?_⟩
    rw[hc];rfl)
  refine Us k1 ?_;subst k2;cases Pj x.pre<;>rfl
 rw[if_pos h,if_pos (K1 h)]
end Go.Ab
namespace Go.Ab
theorem MH :∀{l:List B0} {a:B0},a∈l→a.dep≤B0.deps l
 |b::l,a,h=>by
  simp only[B0.deps]
  rcases List.mem_cons.1 h with rfl|h
  ·exact Nat.le_max_left _ _
  exact Nat.le_trans (MH h) (Nat.le_max_right _ _)
theorem Kr :∀{l:List B0} {a y:B0},a∈l→y∈a.pre→y∈B0.pres l
 |b::l,a,y,h,hy=>by
  simp only[B0.pres,List.mem_append]
  rcases List.mem_cons.1 h with rfl|h
  ·exact .inl hy
  exact .inr (Kr h hy)
theorem IC {α R:Type} {body:Unit→α→Option (Unit ⊕ R)} {p:α→Bool} {r:R}:∀{l:List α},(∀x∈l,body () x=some (if p x=true then .inl ()else .inr r))→G8 body l ()=some (if l.all p=true then .inl ()else .inr r)
 |[],_=>rfl
 | x::l,h=>by
  unfold G8;rw[h x (by simp),List.all_cons]
  by_cases hx:p x=true
  ·rw[if_pos hx,hx]
   dsimp only
   rw[IC fun y hy=>h y (by simp[hy])];rfl
  rw[if_neg hx]
  dsimp only
  rw[Bool.not_eq_true]at hx
  rw[hx];rfl
theorem Ab2 {x:B0} (h:Y0 x=0):(x.Op=1∨x.Op=4→0≤x.Field∧x.Field<8)∧(1≤x.Op∧x.Op≤4→0≤x.Var∧x.Var<16):=by
 have h3:OM x=false:=by
  cases hh:OM x with
  |false=>rfl
  |true=>
   exfalso
   unfold Y0 at h
   by_cases a:x.Op<0∨12<x.Op
   ·rw[if_pos a]at h;cases h
   rw[if_neg a]at h
   by_cases b:(x.cL.length:Int)≠(if x.Op<5 then 0 else if x.Op=12 then 1 else 2)
   ·rw[if_pos b]at h;cases h
   rw[if_neg b,if_pos hh]at h
   cases h
 unfold OM at h3
 simp only[I8,L7,C2,M1,Bool.or_eq_false_iff,Bool.and_eq_false_iff,decide_eq_false_iff_not]at h3
 obtain⟨hv,hf⟩:=h3
 constructor
 ·intro e
  rcases hf with hf|hf
  ·exfalso
   unfold Ww at hf
   rcases e with e|e<;>simp[e,C0,I8]at hf
  omega
 intro e
 rcases hv with hv|hv
 ·exfalso
  have h4:x.Op=1∨x.Op=2∨x.Op=3∨x.Op=4:=by omega
  unfold Wv at hv
  rcases h4 with e|e|e|e<;>simp[e,C0,I8]at hv
 omega
end Go.Ab
