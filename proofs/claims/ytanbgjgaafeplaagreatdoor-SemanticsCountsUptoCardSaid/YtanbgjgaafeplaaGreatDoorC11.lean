/- GTSp -/
import Derived.Test.YtanbgjgaafeplaaGreatDoorC10
set_option linter.all false
open Go.Ab.Ar (an ar cmp mx neg nt scmp wr)
namespace Go.Ab
variable [Ar]
instance :DecidableEq D4:=fun x y=>decidable_of_iff (x.source=y.source∧x.seq=y.seq) (by cases x;cases y;simp)
def R9 (N:Nat):Nat→A0→Option (List A0)
 |0,_=>none
 |n+1,aA=>(loopN (fun(s1:(List A0)×Int)=>(if cmp .lss s1.2 (Ar.len aA.cR)then(B6 aA.cR s1.2).bind fun x4=>(R9 N n x4).bind fun r5=>(H9 s1.1 r5).bind fun l7=>some (.inl (l7,ar .add .i64 s1.2 1))else some (.inr s1.1):Option (((List A0)×Int) ⊕ (((List A0)))))) N ([aA],0)).bind fun s3=>some s3
def V2 (N:Nat):Nat→A0→Int→Option Int
 |0,_,_=>none
 |n+1,aA,bF=>(loopN (fun(s1:Int×Int)=>(if an (cmp .lss s1.2 (Ar.len aA.cR)) (cmp .leq s1.1 bF)then(B6 aA.cR s1.2).bind fun x3=>(V2 N n x3 bF).bind fun r4=>some (.inl (ar .add .i64 s1.1 r4,ar .add .i64 s1.2 1))else some (.inr s1.1):Option ((Int×Int) ⊕ (Int)))) N (1,0)).bind fun s2=>some s2
def V4 (N:Nat):Nat→A0→Option Int
 |0,_=>none
 |n+1,aA=>(loopN (fun(s1:Int×Int)=>(if cmp .lss s1.2 (Ar.len aA.cR)then(B6 aA.cR s1.2).bind fun x3=>(V4 N n x3).bind fun r4=>some (.inl (mx s1.1 r4,ar .add .i64 s1.2 1))else some (.inr s1.1):Option ((Int×Int) ⊕ (Int)))) N (0,0)).bind fun s2=>some (ar .add .i64 s2 1)
def V6 (N:Nat):Nat→B0→Int→Option Int
 |0,_,_=>none
 |n+1,aB,bF=>(loopN (fun(s1:Int×Int)=>(if an (cmp .lss s1.2 (Ar.len aB.cR)) (cmp .leq s1.1 bF)then(B6 aB.cR s1.2).bind fun x3=>(V6 N n x3 bF).bind fun r4=>some (.inl (ar .add .i64 s1.1 r4,ar .add .i64 s1.2 1))else some (.inr s1.1):Option ((Int×Int) ⊕ (Int)))) N (1,0)).bind fun s2=>some s2
def V5 (N:Nat):Nat→B0→Option Int
 |0,_=>none
 |n+1,aB=>(loopN (fun(s1:Int×Int)=>(if cmp .lss s1.2 (Ar.len aB.cR)then(B6 aB.cR s1.2).bind fun x3=>(V5 N n x3).bind fun r4=>some (.inl (mx s1.1 r4,ar .add .i64 s1.2 1))else some (.inr s1.1):Option ((Int×Int) ⊕ (Int)))) N (0,0)).bind fun s2=>some (ar .add .i64 s2 1)
def Cl (N:Nat)(aB:B0):Option Bool:=(V6 N N aB 200).bind fun r1=>if cmp .leq r1 200 then(V5 N N aB).bind fun r2=>some (cmp .leq r2 100)else some false
def FO (N:Nat) (aA:A0):Option Bool:=(V2 N N aA 150).bind fun r1=>if cmp .gtr r1 150 then some false else(V4 N N aA).bind fun r2=>if cmp .gtr r2 60 then some false else(R9 N N aA).bind fun r3=>(loopN (fun(s4:Int)=>(if cmp .lss s4 (Ar.len r3)then(B6 r3 s4).bind fun x6=>(Cl N x6.cS).bind fun r7=>if nt r7 then some (.inr (.inr ()))else some (.inl (ar .add .i64 s4 1))else some (.inr (.inl ())):Option ((Int) ⊕ (Unit ⊕ Unit)))) N 0).bind fun s5=>match s5 with
   | .inl y8=>some true
   | .inr y9=>some false
def U5 (N:Nat):Nat→A0→Option Int
 |0,_=>none
 |n+1,aA=>((if cmp .eql aA.Op 0 then some 1 else some 0):Option (Int)).bind fun s1=>(loopN (fun(s2:Int×Int)=>(if cmp .lss s2.2 (Ar.len aA.cR)then(B6 aA.cR s2.2).bind fun x4=>(U5 N n x4).bind fun r5=>some (.inl (ar .add .i64 s2.1 r5,ar .add .i64 s2.2 1))else some (.inr s2.1):Option ((Int×Int) ⊕ (Int)))) N (s1,0)).bind fun s3=>some s3
def Cj (N:Nat)(bG:Int)(aZ:Int)(bF:Int):Option Int:=(loopN (fun(s1:Int×Int)=>(if an (cmp .lss s1.2 aZ) (cmp .leq s1.1 bF)then some (.inl (ar .mul .i64 s1.1 bG,ar .add .i64 s1.2 1))else some (.inr s1.1):Option ((Int×Int) ⊕ (Int)))) N (1,0)).bind fun s2=>some s2
def Ac (N:Nat):Nat→A0→Option Bool
 |0,_=>none
 | n+1,aA=>if cmp .eql aA.Op 4 then some true else(loopN (fun(s1:Int)=>(if cmp .lss s1 (Ar.len aA.cR)then(B6 aA.cR s1).bind fun x3=>(Ac N n x3).bind fun r4=>if r4 then some (.inr (.inr ()))else some (.inl (ar .add .i64 s1 1))else some (.inr (.inl ())):Option ((Int) ⊕ (Unit ⊕ Unit)))) N 0).bind fun s2=>match s2 with
   | .inl y5=>some false
   | .inr y6=>some true
def Dv (N:Nat) (aA:A0) (aC:List A4):Option Bool:=(FO N aA).bind fun r1=>if Ar.or (nt r1) (cmp .gtr (Ar.len aC) 10)then some false else(loopN (fun(s2:Int)=>(if cmp .lss s2 (Ar.len aC)then(B6 aC s2).bind fun x4=>if cmp .gtr (Ar.len x4.Values) 9 then some (.inr (.inr ()))else some (.inl (ar .add .i64 s2 1))else some (.inr (.inl ())):Option ((Int) ⊕ (Unit ⊕ Unit)))) N 0).bind fun s3=>match s3 with
  | .inl y5=>(U5 N N aA).bind fun r6=>(Cj N (ar .add .i64 r6 1) (Ar.len aC) 1500).bind fun r7=>if cmp .leq r7 1500 then some true else(Ac N N aA).bind fun r8=>if nt r8 then(Cj N (Ar.len aC) r6 1500).bind fun r9=>some (cmp .leq r9 1500)else some false
  | .inr y10=>some false
def U6 (N:Nat):Nat→A0→Option (List A0)
 |0,_=>none
 |n+1,aA=>((O0 (some ([aA],())) fun _=>O0 (X1 (fun(s2:Int)=>(if cmp .lss s2 (Ar.len aA.cR)then(B6 aA.cR s2).bind fun x8=>(U6 N n x8).bind fun l9=>O0 (some (l9,())) fun _=>some ([],.inl (ar .add .i64 s2 1))else some ([],.inr ()):Option (List A0×((Int) ⊕ (Unit))))) N 0) fun s7=>some ([],())):Option (List A0×Unit)).bind fun q=>some q.1
def Aq (N:Nat)(aJ:A0):Option (List A0):=(((U6 N N aJ).bind fun l1=>O0 (some (l1,())) fun _=>some ([],())):Option (List A0×Unit)).bind fun q=>some q.1
def R0 (N:Nat)(aA:A0):Option (List A0):=Aq N aA
def U7 (N:Nat):Nat→A0→Option (Int×Int)
 |0,_=>none
 |n+1,aA=>(loopN (fun(s1:Int×Int×Int)=>(if cmp .lss s1.2.2 (Ar.len aA.cR)then(B6 aA.cR s1.2.2).bind fun x3=>(U7 N n x3).bind fun r4=>some (.inl (ar .add .i64 s1.1 r4.1,mx s1.2.1 r4.2,ar .add .i64 s1.2.2 1))else some (.inr (s1.1,s1.2.1)):Option ((Int×Int×Int) ⊕ ((Int×Int))))) N (1,0,0)).bind fun s2=>some (s2.1,ar .add .i64 s2.2 1)
def S0 (N:Nat)(bK:Bool)(aZ:Int)(bP:Int):Option Bool:=some (Ar.or (nt bK) (an (cmp .geq aZ 0) (cmp .leq aZ bP)))
def BA (N:Nat):Nat→B0→Option (Int×Int)
 |0,_=>none
 |n+1,aB=>(loopN (fun(s1:Int×Int×Int)=>(if cmp .lss s1.2.2 (Ar.len aB.cR)then(B6 aB.cR s1.2.2).bind fun x3=>(BA N n x3).bind fun r4=>some (.inl (ar .add .i64 s1.1 r4.1,mx s1.2.1 r4.2,ar .add .i64 s1.2.2 1))else some (.inr (s1.1,s1.2.1)):Option ((Int×Int×Int) ⊕ ((Int×Int))))) N (1,0,0)).bind fun s2=>some (s2.1,ar .add .i64 s2.2 1)
def Bl (N:Nat):Nat→B0→(B0→Option Int)→Option Int
 |0,_,_=>none
 | n+1,aB,aX=>(aX aB).bind fun r1=>if cmp .neq r1 0 then some r1 else(loopN (fun(s2:Int)=>(if cmp .lss s2 (Ar.len aB.cR)then(B6 aB.cR s2).bind fun x4=>(Bl N n x4 aX).bind fun r5=>if cmp .neq r5 0 then some (.inr (.inr r5))else some (.inl (ar .add .i64 s2 1))else some (.inr (.inl ())):Option ((Int) ⊕ (Unit ⊕ Int)))) N 0).bind fun s3=>match s3 with
   | .inl y6=>some 0
   | .inr y7=>some y7
def EM (N:Nat)(aL:Int):Option (Int×Bool):=if Ar.or (cmp .lss aL 0) (cmp .gtr aL 12)then some (0,false)else if cmp .lss aL 5 then some (0,true)else if cmp .eql aL 12 then some (1,true)else some (2,true)
def Ga (N:Nat)(aL:Int):Option (Bool×Bool):=((if cmp .eql aL 1 then some true else some (cmp .eql aL 4)):Option (Bool)).bind fun s1=>if s1 then some (true,true)else if cmp .eql aL 2 then some (true,false)else if cmp .eql aL 3 then some (true,false)else some (false,false)
def Ek (N:Nat)(aI:A6):Option Int:=if an (cmp .eql aI.Kind 0) (Ar.or (cmp .lss aI.Num (-1099511627776)) (cmp .gtr aI.Num 1099511627776))then some 2 else if an (an (cmp .eql aI.Kind 1) (cmp .neq aI.Num 0)) (cmp .neq aI.Num 1)then some 2 else if cmp .gtr (Ar.slen aI.Text) 64 then some 13 else some 0
def V0 (N:Nat)(aI:A6):Option Int:=((if cmp .eql aI.Kind 0 then some true else some (cmp .eql aI.Kind 1)):Option (Bool)).bind fun s1=>if s1 then if scmp .neq aI.Text (⟨#[]⟩:ByteArray)then some 3 else(Ek N aI).bind fun r2=>some r2 else if cmp .eql aI.Kind 2 then if cmp .neq aI.Num 0 then some 3 else(Ek N aI).bind fun r3=>some r3 else some 1
def EL (N:Nat)(aQ:Int)(aI:A6):Option Bool:=some (Ar.or (Ar.or (cmp .eql aI.Kind 0) (cmp .eql aQ 4)) (cmp .eql aQ 5))
def CG (N:Nat)(aB:B0):Option Int:=(V0 N aB.Value).bind fun r1=>if cmp .neq r1 0 then some r1 else if cmp .eql aB.Op 4 then(EL N aB.Kind aB.Value).bind fun r2=>if Ar.or (nt r2) (an (cmp .eql aB.Kind 1) (nt (an (cmp .eql aB.Value.Kind 0) (an (cmp .eql aB.Value.Num 0) (an (scmp .eql aB.Value.Text (⟨#[]⟩)) true)))))then some 9 else some 0 else some 0
def Eh (N:Nat) (aB:B0):Option Int:=(EM N aB.Op).bind fun r1=>if nt r1.2 then some 1 else if cmp .neq (Ar.len aB.cR) r1.1 then some 15 else(Ga N aB.Op).bind fun r2=>if Ar.or (an r2.1 (Ar.or (cmp .lss aB.Var 0) (cmp .geq aB.Var 16))) (an r2.2 (Ar.or (cmp .lss aB.Field 0) (cmp .geq aB.Field 8)))then some 2 else if an (cmp .eql aB.Op 4) (Ar.or (cmp .lss aB.Kind 1) (cmp .gtr aB.Kind 5))then some 1 else((if Ar.or (cmp .eql aB.Op 4) (cmp .eql aB.Op 0)then(CG N aB).bind fun r4=>if cmp .neq r4 0 then some (.inr r4)else some (.inl ())else some (.inl ())):Option (Unit ⊕ Int)).bind fun s3=>match s3 with
     | .inl y5=>if Ar.or (Ar.or (Ar.or (an (nt r2.1) (cmp .neq aB.Var 0)) (an (nt r2.2) (cmp .neq aB.Field 0))) (an (nt (cmp .eql aB.Op 4)) (cmp .neq aB.Kind 0))) (an (nt (Ar.or (cmp .eql aB.Op 4) (cmp .eql aB.Op 0))) (nt (an (cmp .eql aB.Value.Kind 0) (an (cmp .eql aB.Value.Num 0) (an (scmp .eql aB.Value.Text (⟨#[]⟩)) true)))))then some 3 else some 0
     | .inr y6=>some y6
def Dc (N:Nat)(aB:B0):Option Int:=(BA N N aB).bind fun r1=>if cmp .gtr r1.1 64 then some 5 else if cmp .gtr r1.2 12 then some 12 else(Bl N N aB (fun y1=>Eh N y1)).bind fun r2=>some r2
def Ei (N:Nat):Nat→B0→B0→Option Bool
 |0,_,_=>none
 | n+1,aD,aF=>if Ar.or (Ar.or (Ar.or (Ar.or (Ar.or (cmp .neq aD.Op aF.Op) (cmp .neq aD.Var aF.Var)) (cmp .neq aD.Field aF.Field)) (cmp .neq aD.Kind aF.Kind)) (nt (an (cmp .eql aD.Value.Kind aF.Value.Kind) (an (cmp .eql aD.Value.Num aF.Value.Num) (an (scmp .eql aD.Value.Text aF.Value.Text) true))))) (cmp .neq (Ar.len aD.cR) (Ar.len aF.cR))then some false else(loopN (fun(s1:Int)=>(if cmp .lss s1 (Ar.len aD.cR)then(B6 aD.cR s1).bind fun x3=>(B6 aF.cR s1).bind fun x4=>(Ei N n x3 x4).bind fun r5=>if nt r5 then some (.inr (.inr ()))else some (.inl (ar .add .i64 s1 1))else some (.inr (.inl ())):Option ((Int) ⊕ (Unit ⊕ Unit)))) N 0).bind fun s2=>match s2 with
   | .inl y6=>some true
   | .inr y7=>some false
def L8 (N:Nat)(bK:Bool)(aZ:Int):Option Bool:=some (Ar.or bK (cmp .eql aZ 0))
def R5 (N:Nat) (aA:A0):Option Int:=if Ar.or (cmp .lss aA.Op 0) (cmp .geq aA.Op 11)then some 1 else(B6 G2 aA.Op).bind fun x1=>if Ar.or (cmp .lss (Ar.len aA.cR) x1.cY) (cmp .gtr (Ar.len aA.cR) x1.most)then some 15 else(S0 N x1.cU aA.Typ 15).bind fun r2=>if nt r2 then some 2 else(S0 N x1.cU aA.Var 15).bind fun r3=>if nt r3 then some 2 else(S0 N x1.scope aA.cV 63).bind fun r4=>if nt r4 then some 2 else(S0 N x1.span aA.Span 1099511627776).bind fun r5=>if nt r5 then some 2 else((if x1.cond then(Dc N aA.cS).bind fun r7=>if cmp .neq r7 0 then some (.inr r7)else some (.inl ())else some (.inl ())):Option (Unit ⊕ Int)).bind fun s6=>match s6 with
       | .inl y8=>if nt x1.cond then(Ei N N aA.cS (⟨0,[],0,0,0,(⟨0,0,⟨#[]⟩⟩:A6)⟩:B0)).bind fun r9=>if nt r9 then some 3 else(L8 N x1.cU aA.Typ).bind fun r10=>if nt r10 then some 3 else(L8 N x1.cU aA.Var).bind fun r11=>if nt r11 then some 3 else(L8 N x1.scope aA.cV).bind fun r12=>if nt r12 then some 3 else(L8 N x1.span aA.Span).bind fun r13=>if nt r13 then some 3 else some 0 else(L8 N x1.cU aA.Typ).bind fun r14=>if nt r14 then some 3 else(L8 N x1.cU aA.Var).bind fun r15=>if nt r15 then some 3 else(L8 N x1.scope aA.cV).bind fun r16=>if nt r16 then some 3 else(L8 N x1.span aA.Span).bind fun r17=>if nt r17 then some 3 else some 0
       | .inr y18=>some y18
def Y2 (N:Nat) (aA:A0):Option Int:=(U7 N N aA).bind fun r2=>if cmp .gtr r2.1 64 then some 5 else if cmp .gtr r2.2 12 then some 12 else(R0 N aA).bind fun r3=>(H7 (fun(s6:Unit) (y5:A0)=>((R5 N y5).bind fun r10=>if cmp .neq r10 0 then some (.inr r10)else some (.inl ()):Option ((Unit) ⊕ (Int)))) r3 ()).bind fun o9=>match o9 with
   | .inl s13=>some 0
   | .inr y14=>some y14
def BS (N:Nat) (aA:A0):Option Int:=(Y2 N aA).bind fun r2=>if cmp .neq r2 0 then some r2 else(R0 N aA).bind fun r3=>(H7 (fun(s6:Unit) (y5:A0)=>(if cmp .geq y5.Op 8 then some (.inr 1)else some (.inl ()):Option ((Unit) ⊕ (Int)))) r3 ()).bind fun o9=>match o9 with
  | .inl s12=>some 0
  | .inr y13=>some y13
def BT (N:Nat)(aA:A0):Option (Int×Int×Bool):=(R0 N aA).bind fun r4=>(H7 (fun(s7:Bool×Int×Int) (y6:A0)=>((B6 G2 y6.Op).bind fun x11=>((if x11.cU then some (an s7.1 (cmp .eql y6.Var s7.2.2),ar .add .i64 s7.2.2 1)else some (s7.1,s7.2.2)):Option ((Bool×Int))).bind fun s12=>if x11.scope then some (.inl (an s12.1 (cmp .eql y6.cV s7.2.1),ar .add .i64 s7.2.1 1,s12.2))else some (.inl (s12.1,s7.2.1,s12.2)):Option ((Bool×Int×Int) ⊕ (Unit)))) r4 (true,0,0)).bind fun o10=>match o10 with
 | .inl s15=>some (s15.2.2,s15.2.1,s15.1)
 | .inr _=>none
def AJ (N:Nat)(aA:A0):Option Int:=(BS N aA).bind fun r1=>if cmp .neq r1 0 then some r1 else(BT N aA).bind fun r2=>if nt r2.2.2 then some 14 else some 0
def AK (N:Nat)(aB:A4):Option X5:=some (⟨aB.Time,aB.Source,aB.Seq⟩:X5)
def E0 (N:Nat)(bN:List D6)(bR:List D6)(cC:D6→D6→Option Int):Option Int:=(loopN (fun(s1:Int)=>(if cmp .lss s1 (Ar.len bN)then(B6 bN s1).bind fun x3=>if cmp .geq s1 (Ar.len bR)then some (.inr (.inr 1))else(B6 bR s1).bind fun x5=>(cC x3 x5).bind fun r6=>if cmp .neq r6 0 then some (.inr (.inr r6))else some (.inl (ar .add .i64 s1 1))else some (.inr (.inl ())):Option ((Int) ⊕ (Unit ⊕ Int)))) N 0).bind fun s2=>match s2 with
 | .inl y7=>if cmp .lss (Ar.len bN) (Ar.len bR)then some (-1)else some 0
 | .inr y8=>some y8
def Cg (N:Nat)(bS:List Int):Option Int:=(loopN (fun(s1:Int)=>(if cmp .lss s1 (Ar.len bS)then(B6 bS s1).bind fun x3=>if cmp .neq x3 0 then some (.inr (.inr x3))else some (.inl (ar .add .i64 s1 1))else some (.inr (.inl ())):Option ((Int) ⊕ (Unit ⊕ Int)))) N 0).bind fun s2=>match s2 with
 | .inl y4=>some 0
 | .inr y5=>some y5
def BX (N:Nat)(aO:Int):Option Bool:=some (cmp .neq aO aO)
def J7 (N:Nat)(aO:Int)(bJ:Int):Option Int:=(BX N aO).bind fun r1=>(BX N bJ).bind fun r2=>if r1 then if r2 then some 0 else some (-1)else if r2 then some 1 else if cmp .lss aO bJ then some (-1)else if cmp .gtr aO bJ then some 1 else some 0
def EA (N:Nat)(aD:X5)(aF:X5):Option Int:=(J7 N aD.Time aF.Time).bind fun r1=>(J7 N aD.Source aF.Source).bind fun r2=>(J7 N aD.Seq aF.Seq).bind fun r3=>(Cg N ([r1,r2,r3])).bind fun r4=>some r4
def X7 (N:Nat)(aO:D6)(bJ:D6):Option Int:=(EA N aO.Ref bJ.Ref).bind fun r1=>(J7 N aO.Var bJ.Var).bind fun r2=>(Cg N ([r1,r2])).bind fun r3=>some r3
def Z1 (N:Nat)(aD:C4)(aF:C4):Option Int:=(E0 N aD.cT aF.cT (fun y1 y2=>X7 N y1 y2)).bind fun r1=>some r1
def Dn (N:Nat)(aB:A4):Option Bool:=some (an (an (an (an (an (cmp .geq aB.Time 0) (cmp .leq aB.Time 1099511627776)) (cmp .geq aB.Source 0)) (cmp .lss aB.Source 8)) (cmp .geq aB.Seq 0)) (cmp .leq aB.Seq 1099511627776))
def BW (N:Nat)(aD:A4)(aF:A4):Option Int:=(AK N aD).bind fun r1=>(AK N aF).bind fun r2=>if an (cmp .eql r1.Time r2.Time) (an (cmp .eql r1.Source r2.Source) (an (cmp .eql r1.Seq r2.Seq) true))then some 0 else(J7 N aD.Time aF.Time).bind fun r3=>(J7 N aD.Source aF.Source).bind fun r4=>(J7 N aD.Seq aF.Seq).bind fun r5=>(Cg N ([r3,r4,r5])).bind fun r6=>some r6
def CS (N:Nat)(aB:A4):Option D4:=some (⟨aB.Source,aB.Seq⟩:D4)
def Bq (N:Nat) (aC:List A4):Option Int:=if cmp .gtr (Ar.len aC) 4096 then some 5 else(loopN (fun(s3:Int×(List (D4×Bool)))=>(if cmp .lss s3.1 (Ar.len aC)then(B6 aC s3.1).bind fun x6=>(Dn N x6).bind fun r8=>if nt r8 then some (.inr (.inr (2,s3.2)))else if cmp .gtr s3.1 0 then(B6 aC (ar .sub .i64 s3.1 1)).bind fun x9=>(BW N x9 x6).bind fun r10=>if cmp .geq r10 0 then some (.inr (.inr (14,s3.2)))else(CS N x6).bind fun r11=>(Js s3.2 r11 (false:Bool)).bind fun r12=>if r12.1 then some (.inr (.inr (7,s3.2)))else(CS N x6).bind fun r13=>(Iy s3.2 r13 true).bind fun l15=>some (.inl (ar .add .i64 s3.1 1,l15))else(CS N x6).bind fun r16=>(Js s3.2 r16 (false:Bool)).bind fun r17=>if r17.1 then some (.inr (.inr (7,s3.2)))else(CS N x6).bind fun r18=>(Iy s3.2 r18 true).bind fun l20=>some (.inl (ar .add .i64 s3.1 1,l20))else some (.inr (.inl s3.2)):Option ((Int×(List (D4×Bool))) ⊕ (((List (D4×Bool))) ⊕ (Int×(List (D4×Bool))))))) N (0,([]:List (D4×Bool)))).bind fun s5=>match s5 with
  | .inl y21=>some 0
  | .inr y23=>some y23.1
def AQ (N:Nat):Option Unit:=some ()
def Fy (N:Nat)(bC:Int):Option ByteArray:=Mt bC
def W3 (N:Nat)(bI:List Int)(bC:Int)(bG:Int):Option (List Int):=if cmp .eql bG 10 then if cmp .lss bC 100 then(Fy N (wr .i64 bC)).bind fun r1=>(H9 bI (La r1)).bind fun l3=>some l3 else none else none
def Z4 (N:Nat)(bI:List Int)(bC:Int)(bG:Int):Option (List Int):=if cmp .lss bC 0 then(H9 bI ([45])).bind fun l2=>(W3 N l2 (neg .u64 (wr .u64 bC)) bG).bind fun l3=>some l3 else(W3 N bI (wr .u64 bC) bG).bind fun l5=>some l5
def G0 (N:Nat)(bI:List Int)(bC:Int)(bG:Int):Option (List Int):=(Z4 N bI bC bG).bind fun l1=>some l1
def N1 (N:Nat)(aG:List A1):Option ByteArray:=(loopN (fun(s2:Int×(List Int))=>(if cmp .lss s2.1 (Ar.len aG)then(B6 aG s2.1).bind fun x5=>(G0 N s2.2 x5.cX 10).bind fun l6=>(((H9 l6 ([64])).bind fun l90=>(G0 N l90 x5.at_ 10).bind fun l209=>(H9 l209 ([32])).bind fun l290=>some l290):Option (((List Int)))).bind fun s8=>some (.inl (ar .add .i64 s2.1 1,s8))else some (.inr s2.2):Option ((Int×(List Int)) ⊕ (((List Int)))))) N (0,([]:List Int))).bind fun s4=>(UF s4).bind fun r411=>some r411
def P5 (N:Nat)(aZ:Int):Option A6:=some (⟨0,aZ,⟨#[]⟩⟩:A6)
def AZ (N:Nat)(aD:Int)(aF:Int)(aM:Int→Option A6):Option A6:=(aM (ar .add .i64 aD aF)).bind fun r2=>some r2
def AY (N:Nat)(aD:Int)(aF:Int)(aM:Int→Option A6):Option A6:=(aM (ar .sub .i64 aD aF)).bind fun r2=>some r2
def Gl (N:Nat)(aF:Bool):Option A6:=if aF then some (⟨1,1,⟨#[]⟩⟩:A6)else some (⟨1,0,⟨#[]⟩⟩:A6)
def Ag (N:Nat)(aF:Bool):Option A6:=(Gl N aF).bind fun r2=>some r2
def AX (N:Nat)(aD:Int)(aF:Int):Option A6:=(Ag N (cmp .lss aD aF)).bind fun r2=>some r2
def AW (N:Nat)(aD:Int)(aF:Int):Option A6:=(Ag N (cmp .leq aD aF)).bind fun r2=>some r2
def AV (N:Nat)(aD:Int)(aF:Int):Option A6:=(Ag N (an (cmp .eql aD 1) (cmp .eql aF 1))).bind fun r2=>some r2
def AU (N:Nat)(aD:Int)(aF:Int):Option A6:=(Ag N (Ar.or (cmp .eql aD 1) (cmp .eql aF 1))).bind fun r2=>some r2
def AT (N:Nat)(aD:Int)(aJ:Int):Option A6:=(Ag N (cmp .neq aD 1)).bind fun r2=>some r2
def GV (N:Nat):Option Unit:=some ()
def N5 (N:Nat)(aO:Q1)(aI:Int):Option (List A4):=if Ar.or (cmp .lss aI 0) (cmp .geq aI (Ar.len aO.env.cZ))then some ([])else(B6 aO.env.cZ aI).bind fun x1=>some x1
def Av (N:Nat)(aB:A4)(aW:Int):Option (A6×Int):=if cmp .geq aW (Ar.len aB.Values)then some ((⟨0,0,⟨#[]⟩⟩:A6),6)else(B6 aB.Values aW).bind fun x2=>some (x2,0)
def X8 (N:Nat)(aQ:Int):Option Bool:=some (an (cmp .geq aQ 0) (cmp .leq aQ 5))
def T6 (N:Nat)(aQ:Int)(aI:A6):Option Bool:=some (Ar.or (cmp .eql aI.Kind 0) (an (an (cmp .neq aQ 1) (cmp .neq aQ 2)) (cmp .neq aQ 3)))
def N7 (N:Nat)(aQ:Int)(aI:A6):Option Int:=(V0 N aI).bind fun r1=>if cmp .neq r1 0 then some r1 else(T6 N aQ aI).bind fun r2=>if nt r2 then some 9 else some 0
def G5 (N:Nat)(cD:C1)(aC:List A6)(cE:C1→A6→Option C1):Option C1:=(loopN (fun(s3:Int×C1)=>(if cmp .lss s3.1 (Ar.len aC)then(B6 aC s3.1).bind fun x5=>(cE s3.2 x5).bind fun r6=>some (.inl (ar .add .i64 s3.1 1,r6))else some (.inr s3.2):Option ((Int×C1) ⊕ (C1)))) N (0,cD)).bind fun s4=>some s4
def BM (N:Nat):Option A6:=some (⟨0,0,⟨#[]⟩⟩:A6)
def BL (N:Nat)(bH:A6)(aJ:A6):Option A6:=some (⟨0,ar .add .i64 bH.Num aJ.Num,⟨#[]⟩⟩:A6)
def BK (N:Nat)(bH:A6)(aJ:A6):Option A6:=some (⟨0,Ar.mn bH.Num aJ.Num,⟨#[]⟩⟩:A6)
def BJ (N:Nat)(bH:A6)(aJ:A6):Option A6:=some (⟨0,mx bH.Num aJ.Num,⟨#[]⟩⟩:A6)
def BI (N:Nat)(bH:A6):Option A6:=some bH
def BH (N:Nat)(bH:A6):Option A6:=some bH
def Y7 (N:Nat)(aQ:Int)(aD:A6)(aF:A6):Option A6:=if cmp .eql aQ 0 then(BM N).bind fun r2=>some r2 else if cmp .eql aQ 1 then(BL N aD aF).bind fun r3=>some r3 else if cmp .eql aQ 2 then(BK N aD aF).bind fun r4=>some r4 else if cmp .eql aQ 3 then(BJ N aD aF).bind fun r5=>some r5 else if cmp .eql aQ 4 then(BI N aD).bind fun r6=>some r6 else if cmp .eql aQ 5 then(BH N aF).bind fun r7=>some r7 else none
def BC (N:Nat)(aD:C1)(aF:C1):Option C1:=if cmp .eql aD.Count 0 then some aF else if cmp .eql aF.Count 0 then some aD else(Y7 N aD.Kind aD.Value aF.Value).bind fun r2=>some (⟨aD.Kind,ar .add .i64 aD.Count aF.Count,r2⟩:C1)
def Ah (N:Nat)(aQ:Int)(aI:A6):Option A6:=if cmp .eql aQ 0 then some (⟨0,0,⟨#[]⟩⟩:A6)else some aI
def N6 (N:Nat)(aD:C1)(aI:A6)(aM:Int):Option C1:=(Ah N aM aI).bind fun r2=>(BC N aD (⟨aM,1,r2⟩:C1)).bind fun r3=>some r3
def AD (N:Nat)(aD:C1):Option Int:=(X8 N aD.Kind).bind fun r1=>if nt r1 then some 1 else if Ar.or (cmp .lss aD.Count 0) (cmp .gtr aD.Count 4096)then some 2 else if Ar.or (cmp .eql aD.Count 0) (cmp .eql aD.Kind 0)then if nt (an (cmp .eql aD.Value.Kind 0) (an (cmp .eql aD.Value.Num 0) (an (scmp .eql aD.Value.Text (⟨#[]⟩)) true)))then some 3 else some 0 else if cmp .eql aD.Kind 1 then if nt (an (an (an (cmp .eql aD.Value.Kind 0) (scmp .eql aD.Value.Text (⟨#[]⟩:ByteArray))) (cmp .geq aD.Value.Num (neg .i64 (ar .mul .i64 aD.Count 1099511627776)))) (cmp .leq aD.Value.Num (ar .mul .i64 aD.Count 1099511627776)))then some 3 else some 0 else(V0 N aD.Value).bind fun r2=>if cmp .eql r2 0 then(T6 N aD.Kind aD.Value).bind fun r3=>if nt r3 then some 3 else some 0 else some 3
def BE (N:Nat)(aD:C1)(bA:A6):Option (A6×Int):=(AD N aD).bind fun r2=>if cmp .neq r2 0 then some ((⟨0,0,⟨#[]⟩⟩:A6),r2)else(N7 N aD.Kind bA).bind fun r3=>if cmp .neq r3 0 then some ((⟨0,0,⟨#[]⟩⟩:A6),r3)else if cmp .eql aD.Kind 0 then some ((⟨0,aD.Count,⟨#[]⟩⟩:A6),0)else if an (cmp .eql aD.Count 0) (cmp .neq aD.Kind 1)then some (bA,0)else some (aD.Value,0)
def CM (N:Nat) (aQ:Int) (aC:List A6) (bA:A6):Option (A6×Int):=(X8 N aQ).bind fun r2=>if nt r2 then some ((⟨0,0,⟨#[]⟩⟩:A6),1)else if cmp .gtr (Ar.len aC) 4096 then some ((⟨0,0,⟨#[]⟩⟩:A6),5)else(loopN (fun(s3:Int)=>(if cmp .lss s3 (Ar.len aC)then(B6 aC s3).bind fun x5=>(N7 N aQ x5).bind fun r6=>if cmp .neq r6 0 then some (.inr (.inr r6))else some (.inl (ar .add .i64 s3 1))else some (.inr (.inl ())):Option ((Int) ⊕ (Unit ⊕ Int)))) N 0).bind fun s4=>match s4 with
   | .inl y7=>(G5 N (⟨aQ,0,(⟨0,0,⟨#[]⟩⟩:A6)⟩:C1) aC (fun y1 y2=>N6 N y1 y2 aQ)).bind fun r8=>(BE N r8 bA).bind fun r9=>some (r9.1,r9.2)
   | .inr y10=>some ((⟨0,0,⟨#[]⟩⟩:A6),y10)
def S3 (N:Nat)(aO:Q1)(aB:B0):Option (A6×Int):=(N5 N aO aB.Var).bind fun r2=>(loopN (fun(s3:(List A6)×Int)=>(if cmp .lss s3.2 (Ar.len r2)then(B6 r2 s3.2).bind fun x6=>(Av N x6 aB.Field).bind fun r7=>if cmp .neq r7.2 0 then some (.inr (.inr r7.2))else(H9 s3.1 ([r7.1])).bind fun l9=>some (.inl (l9,ar .add .i64 s3.2 1))else some (.inr (.inl s3.1)):Option (((List A6)×Int) ⊕ (((List A6)) ⊕ Int)))) N ([],0)).bind fun s5=>match s5 with
 | .inl y10=>(CM N aB.Kind y10 aB.Value).bind fun r12=>some (r12.1,r12.2)
 | .inr y13=>some ((⟨0,0,⟨#[]⟩⟩:A6),y13)
def U4 (N:Nat) (aO:Q1) (aB:B0):Option (A6×Int):=(N5 N aO aB.Var).bind fun r2=>if cmp .eql aB.Op 0 then some (aB.Value,0)else if cmp .eql aB.Op 3 then some ((⟨0,Ar.len r2,⟨#[]⟩⟩:A6),0)else if cmp .eql aB.Op 4 then(S3 N aO aB).bind fun r3=>some (r3.1,r3.2)else((if cmp .neq aB.Var aO.own then if cmp .eql (Ar.len r2) 0 then some (.inr ())else(B6 r2 (ar .sub .i64 (Ar.len r2) 1)).bind fun x6=>some (.inl x6)else some (.inl aO.event)):Option (A4 ⊕ Unit)).bind fun s5=>match s5 with
    | .inl y7=>if cmp .eql aB.Op 2 then some ((⟨0,y7.Time,⟨#[]⟩⟩:A6),0)else(Av N y7 aB.Field).bind fun r8=>((if cmp .eql r8.2 0 then(V0 N r8.1).bind fun r10=>some r10 else some r8.2):Option (Int)).bind fun s9=>if cmp .neq s9 0 then some ((⟨0,0,⟨#[]⟩⟩:A6),s9)else some (r8.1,0)
    | .inr y11=>some ((⟨0,0,⟨#[]⟩⟩:A6),10)
def BV (N:Nat)(aL:Int)(bD:List Int):Option Int:=(loopN (fun(s1:Int)=>(if cmp .lss s1 (Ar.len bD)then(B6 bD s1).bind fun x3=>((if cmp .eql aL 5 then some true else if cmp .eql aL 6 then some true else if cmp .eql aL 7 then some true else some (cmp .eql aL 8)):Option (Bool)).bind fun s4=>if s4 then if nt (cmp .eql x3 0)then some (.inr (.inr ()))else some (.inl (ar .add .i64 s1 1))else((if cmp .eql aL 10 then some true else if cmp .eql aL 11 then some true else some (cmp .eql aL 12)):Option (Bool)).bind fun s5=>if s5 then if nt (cmp .eql x3 1)then some (.inr (.inr ()))else some (.inl (ar .add .i64 s1 1))else if cmp .eql aL 9 then(B6 bD 0).bind fun x6=>if nt (cmp .eql x3 x6)then some (.inr (.inr ()))else some (.inl (ar .add .i64 s1 1))else some (.inl (ar .add .i64 s1 1))else some (.inr (.inl ())):Option ((Int) ⊕ (Unit ⊕ Unit)))) N 0).bind fun s2=>match s2 with
 | .inl y7=>some 0
 | .inr y8=>some 9
def I8 (N:Nat):Nat→Q1→B0→Option (A6×Int)
 |0,_,_=>none
 | n+1,aO,aB=>if cmp .eql (Ar.len aB.cR) 0 then(U4 N aO aB).bind fun r2=>some (r2.1,r2.2)else(loopN (fun(s3:(List A6)×(List Int)×Int)=>(if cmp .lss s3.2.2 (Ar.len aB.cR)then(B6 aB.cR s3.2.2).bind fun x7=>(I8 N n aO x7).bind fun r8=>if cmp .neq r8.2 0 then some (.inr (.inr r8.2))else(H9 s3.1 ([r8.1])).bind fun l9=>(H9 s3.2.1 ([r8.1.Kind])).bind fun l12=>some (.inl (l9,l12,ar .add .i64 s3.2.2 1))else some (.inr (.inl (s3.1,s3.2.1))):Option (((List A6)×(List Int)×Int) ⊕ (((List A6)×(List Int)) ⊕ Int)))) N ([],[],0)).bind fun s6=>match s6 with
   | .inl y13=>(BV N aB.Op y13.2).bind fun r16=>if cmp .neq r16 0 then some ((⟨0,0,⟨#[]⟩⟩:A6),r16)else if cmp .eql aB.Op 9 then(B6 y13.1 0).bind fun x17=>(B6 y13.1 1).bind fun x18=>(Ag N (an (cmp .eql x17.Kind x18.Kind) (an (cmp .eql x17.Num x18.Num) (an (scmp .eql x17.Text x18.Text) true)))).bind fun r19=>some (r19,0)else if cmp .eql aB.Op 5 then(B6 y13.1 0).bind fun x20=>(B6 y13.1 (ar .sub .i64 (Ar.len y13.1) 1)).bind fun x21=>(AZ N x20.Num x21.Num (fun y1=>P5 N y1)).bind fun r22=>some (r22,0)else if cmp .eql aB.Op 6 then(B6 y13.1 0).bind fun x23=>(B6 y13.1 (ar .sub .i64 (Ar.len y13.1) 1)).bind fun x24=>(AY N x23.Num x24.Num (fun y1=>P5 N y1)).bind fun r25=>some (r25,0)else if cmp .eql aB.Op 7 then(B6 y13.1 0).bind fun x26=>(B6 y13.1 (ar .sub .i64 (Ar.len y13.1) 1)).bind fun x27=>(AX N x26.Num x27.Num).bind fun r28=>some (r28,0)else if cmp .eql aB.Op 8 then(B6 y13.1 0).bind fun x29=>(B6 y13.1 (ar .sub .i64 (Ar.len y13.1) 1)).bind fun x30=>(AW N x29.Num x30.Num).bind fun r31=>some (r31,0)else if cmp .eql aB.Op 10 then(B6 y13.1 0).bind fun x32=>(B6 y13.1 (ar .sub .i64 (Ar.len y13.1) 1)).bind fun x33=>(AV N x32.Num x33.Num).bind fun r34=>some (r34,0)else if cmp .eql aB.Op 11 then(B6 y13.1 0).bind fun x35=>(B6 y13.1 (ar .sub .i64 (Ar.len y13.1) 1)).bind fun x36=>(AU N x35.Num x36.Num).bind fun r37=>some (r37,0)else if cmp .eql aB.Op 12 then(B6 y13.1 0).bind fun x38=>(B6 y13.1 (ar .sub .i64 (Ar.len y13.1) 1)).bind fun x39=>(AT N x38.Num x39.Num).bind fun r40=>some (r40,0)else(B6 y13.1 0).bind fun x41=>(B6 y13.1 (ar .sub .i64 (Ar.len y13.1) 1)).bind fun x42=>none
   | .inr y43=>some ((⟨0,0,⟨#[]⟩⟩:A6),y43)
def Gb (N:Nat)(aB:B0)(aR:AE)(aT:Int)(aU:A4):Option (A6×Int):=(Dc N aB).bind fun r2=>if cmp .neq r2 0 then some ((⟨0,0,⟨#[]⟩⟩:A6),r2)else(((I8 N N (⟨aR,aT,aU,()⟩:Q1) aB).bind fun r244=>some (r244.2,r244.1)):Option ((Int×A6))).bind fun s3=>some (s3.2,s3.1)
def Db (N:Nat)(aB:B0)(aR:AE)(aT:Int)(aU:A4):Option Bool:=(Gb N aB aR aT aU).bind fun r1=>if cmp .eql r1.2 0 then(Ag N true).bind fun r2=>some (an (cmp .eql r1.1.Kind r2.Kind) (an (cmp .eql r1.1.Num r2.Num) (an (scmp .eql r1.1.Text r2.Text) true)))else some false
def P8 (N:Nat)(aK:B3)(aG:List A1)(bZ:Int):Option AE:=(Va 16 16 ([]:List A4)).bind fun l3=>(loopN (fun(s5:Int×(List (List A4)))=>(if cmp .lss s5.1 (Ar.len aG)then(B6 aG s5.1).bind fun x8=>if cmp .lss x8.at_ bZ then(B6 s5.2 x8.cX).bind fun x9=>(B6 aK.dA x8.at_).bind fun x14=>(H9 x9 ([x14])).bind fun l15=>(Gm s5.2 x8.cX (fun _=>l15)).bind fun l13=>some (.inl (ar .add .i64 s5.1 1,l13))else some (.inl (ar .add .i64 s5.1 1,s5.2))else some (.inr s5.2):Option ((Int×(List (List A4))) ⊕ (((List (List A4))))))) N (0,l3)).bind fun s7=>some (⟨s7⟩:AE)
def H6 (N:Nat)(aK:B3)(bO:B0)(aG:List A1)(aT:Int)(bB:Int):Option Bool:=(P8 N aK aG bB).bind fun r1=>(B6 aK.dA bB).bind fun x2=>(Db N bO r1 aT x2).bind fun r3=>some r3
def S7 (N:Nat)(aJ:Int)(aM:B3)(aP:A0)(aS:List A1):Option (List (List A1)):=((O0 (X1 (fun(s1:Int)=>(if cmp .lss s1 (Ar.len aM.dA)then(B6 aM.dA s1).bind fun x7=>if cmp .eql x7.Typ aP.Typ then(H6 N aM aP.cS aS aP.Var s1).bind fun r8=>if r8 then O0 (some ([[(⟨aP.Var,s1⟩:A1)]],())) fun _=>some ([],.inl (ar .add .i64 s1 1))else some ([],.inl (ar .add .i64 s1 1))else some ([],.inl (ar .add .i64 s1 1))else some ([],.inr ()):Option (List (List A1)×((Int) ⊕ (Unit))))) N aJ) fun s6=>some ([],())):Option (List (List A1)×Unit)).bind fun q=>some q.1
def K3 (N:Nat)(aK:B3)(aA:A0)(aN:List A1)(aH:Int):Option (List (List A1)):=S7 N aH aK aA aN
def E6 (N:Nat)(aJ:List (List A1)):Option (List (List A1)):=((O0 (X1 (fun(s1:Int)=>(if cmp .lss s1 (Ar.len aJ)then(B6 aJ s1).bind fun x7=>O0 (some ([x7],())) fun _=>some ([],.inl (ar .add .i64 s1 1))else some ([],.inr ()):Option (List (List A1)×((Int) ⊕ (Unit))))) N 0) fun s6=>some ([],())):Option (List (List A1)×Unit)).bind fun q=>some q.1
def O4 (N:Nat)(aG:List (List A1)):Option (List (List A1)):=E6 N aG
def Br (N:Nat)(aO:A1)(bJ:A1):Option Int:=some (ar .sub .i64 aO.at_ bJ.at_)
def L7 (N:Nat)(aD:List A1)(aF:List A1):Option (List A1):=(Va 0 (ar .add .i64 (Ar.len aD) (Ar.len aF)) ((⟨0,0⟩:A1):A1)).bind fun l2=>(H9 l2 aD).bind fun l4=>(H9 l4 aF).bind fun l6=>(GQ (fun y1 y2=>Br N y1 y2) l6).bind fun l7=>some l7
def L4 (N:Nat)(aG:List A1):Option Int:=(B6 aG (ar .sub .i64 (Ar.len aG) 1)).bind fun x1=>some x1.at_
def O5 (N:Nat)(aG:List A1)(aX:A1→Option Bool):Option Int:=(loopN (fun(s1:Int)=>(if cmp .lss s1 (Ar.len aG)then(B6 aG s1).bind fun x3=>(aX x3).bind fun r4=>if r4 then some (.inr (.inr s1))else some (.inl (ar .add .i64 s1 1))else some (.inr (.inl ())):Option ((Int) ⊕ (Unit ⊕ Int)))) N 0).bind fun s2=>match s2 with
 | .inl y5=>some (-1)
 | .inr y6=>some y6
def G6 (N:Nat)(aG:List A1)(aX:A1→Option Bool):Option Bool:=(O5 N aG aX).bind fun r1=>some (cmp .geq r1 0)
def U0 (N:Nat)(aO:A1)(aJ:Int):Option Bool:=some (cmp .eql aO.at_ aJ)
def S6 (N:Nat)(aG:List A1)(bB:Int):Option Bool:=(G6 N aG (fun y1=>U0 N y1 bB)).bind fun r1=>some r1
def Y0 (N:Nat)(aO:A1)(aJ:List A1):Option Bool:=(S6 N aJ aO.at_).bind fun r1=>some r1
def Ax (N:Nat)(aD:List A1)(aF:List A1):Option Bool:=(G6 N aD (fun y1=>Y0 N y1 aF)).bind fun r1=>some r1
def T3 (N:Nat):Nat→List (List (List A1))→List A1→Option (List (List A1))
 |0,_,_=>none
 |n+1,bQ,bM=>((if cmp .eql (Ar.len bQ) 0 then O0 (some ([bM],())) fun _=>some ([],())else(B6 bQ 0).bind fun x2=>O0 (X1 (fun(s3:Int)=>(if cmp .lss s3 (Ar.len x2)then(B6 x2 s3).bind fun x9=>(Ax N bM x9).bind fun r10=>if nt r10 then(J5 bQ (some 1) none none).bind fun l11=>(L7 N bM x9).bind fun r13=>(T3 N n l11 r13).bind fun l14=>O0 (some (l14,())) fun _=>some ([],.inl (ar .add .i64 s3 1))else some ([],.inl (ar .add .i64 s3 1))else some ([],.inr ()):Option (List (List A1)×((Int) ⊕ (Unit))))) N 0) fun s8=>some ([],())):Option (List (List A1)×Unit)).bind fun q=>some q.1
def Q3 (N:Nat) (aK:B3) (aA:A0) (aN:List A1) (aG:List A1):Option Bool:=if cmp .eql aA.Op 6 then(L4 N aG).bind fun r1=>(B6 aK.dA r1).bind fun x2=>(B6 aG 0).bind fun x3=>(B6 aK.dA x3.at_).bind fun x4=>some (cmp .leq (ar .sub .i64 x2.Time x4.Time) aA.Span)else if cmp .eql aA.Op 7 then(L7 N aN aG).bind fun r5=>(P8 N aK r5 (Ar.len aK.dA)).bind fun r6=>(Db N aA.cS r6 (-1) (⟨0,0,0,0,[]⟩:A4)).bind fun r7=>some r7 else(L7 N aN aG).bind fun r8=>(B6 aG 0).bind fun x9=>(loopN (fun(s10:Int)=>((L4 N aG).bind fun r12=>if cmp .lss s10 r12 then(B6 aK.dA s10).bind fun x13=>if cmp .eql x13.Typ aA.Typ then(S6 N aG s10).bind fun r14=>if nt r14 then(H6 N aK aA.cS r8 aA.Var s10).bind fun r15=>if r15 then some (.inr (.inr ()))else some (.inl (ar .add .i64 s10 1))else some (.inl (ar .add .i64 s10 1))else some (.inl (ar .add .i64 s10 1))else some (.inr (.inl ())):Option ((Int) ⊕ (Unit ⊕ Unit)))) N (ar .add .i64 x9.at_ 1)).bind fun s11=>match s11 with
   | .inl y16=>some true
   | .inr y17=>some false
mutual
def C8 (N:Nat):Nat→B3→A0→List A1→Int→Option (List (List A1))
 |0,_,_,_,_=>none
 |n+1,aK,aA,aN,aH=>(AQ N).bind fun r5=>(B6 ([fun y1 y2 y3 y4=>K3 N y1 y2 y3 y4,fun y1 y2 y3 y4=>M3 N n y1 y2 y3 y4,fun y1 y2 y3 y4=>M4 N n y1 y2 y3 y4,fun y1 y2 y3 y4=>M5 N n y1 y2 y3 y4,fun y1 y2 y3 y4=>L6 N n y1 y2 y3 y4,fun y1 y2 y3 y4=>F2 N n y1 y2 y3 y4,fun y1 y2 y3 y4=>F2 N n y1 y2 y3 y4,fun y1 y2 y3 y4=>F2 N n y1 y2 y3 y4]:List (B3→A0→(List A1)→Int→Option (List (List A1)))) aA.Op).bind fun f7=>(f7 aK aA aN aH).bind fun r8=>(H7 (fun(s11:(List (ByteArray×Bool))×(List (List A1))) (y10:(List A1))=>((N1 N y10).bind fun r17=>(Js s11.1 r17 (false:Bool)).bind fun r18=>if r18.1 then some (.inl (s11.1,s11.2))else(Iy s11.1 r17 true).bind fun l20=>(H9 s11.2 ([y10])).bind fun l22=>((if cmp .gtr (Ar.len l22) 4096 then none else some ()):Option (Unit)).bind fun s23=>if aK.full then some (.inr (l20,l22))else some (.inl (l20,l22)):Option (((List (ByteArray×Bool))×(List (List A1))) ⊕ (((List (ByteArray×Bool))×(List (List A1))))))) r8 (([]:List (ByteArray×Bool)),[])).bind fun o16=>match o16 with
  | .inl s28=>some s28.2
  | .inr y31=>some ([])
def M3 (N:Nat):Nat→B3→A0→List A1→Int→Option (List (List A1))
 |0,_,_,_,_=>none
 |n+1,aK,aA,aN,aH=>if cmp .eql (Ar.len aA.cR) 1 then(B6 aA.cR 0).bind fun x1=>(C8 N n aK x1 aN aH).bind fun r2=>(O4 N r2).bind fun r3=>some r3 else(J5 aA.cR (some 1) none none).bind fun l6=>(B6 aA.cR 0).bind fun x8=>(L5 N n aK x8 aN aH (fun y1 y2=>K2 N n y1 y2 aK ({aA with cR:=l6}))).bind fun r9=>some r9
def M4 (N:Nat):Nat→B3→A0→List A1→Int→Option (List (List A1))
 |0,_,_,_,_=>none
 |n+1,aK,aA,aN,aH=>Q4 N n aA aK aN aH
def M5 (N:Nat):Nat→B3→A0→List A1→Int→Option (List (List A1))
 |0,_,_,_,_=>none
 |n+1,aK,aA,aN,aH=>Q5 N n aA aK aN aH
def L6 (N:Nat):Nat→B3→A0→List A1→Int→Option (List (List A1))
 |0,_,_,_,_=>none
 |n+1,aK,aA,aN,aH=>O8 N n aK aA aN aH
def F2 (N:Nat):Nat→B3→A0→List A1→Int→Option (List (List A1))
 |0,_,_,_,_=>none
 |n+1,aK,aA,aN,aH=>O7 N n aK aA aN aH
def L5 (N:Nat):Nat→B3→A0→List A1→Int→((List A1)→Int→Option (List (List A1)))→Option (List (List A1))
 |0,_,_,_,_,_=>none
 |n+1,aK,aA,aN,aH,bT=>O6 N n aK aA aN aH bT
def K2 (N:Nat):Nat→List A1→Int→B3→A0→Option (List (List A1))
 |0,_,_,_,_=>none
 |n+1,aN,aH,aM,aP=>(C8 N n aM aP aN aH).bind fun r1=>some r1
def Q4 (N:Nat):Nat→A0→B3→List A1→Int→Option (List (List A1))
 |0,_,_,_,_=>none
 |n+1,aJ,aM,aP,aS=>((O0 (X1 (fun(s1:Int)=>(if cmp .lss s1 (Ar.len aJ.cR)then(B6 aJ.cR s1).bind fun x7=>(C8 N n aM x7 aP aS).bind fun r8=>O0 (X1 (fun(s9:Int)=>(if cmp .lss s9 (Ar.len r8)then(B6 r8 s9).bind fun x15=>O0 (some ([x15],())) fun _=>some ([],.inl (ar .add .i64 s9 1))else some ([],.inr ()):Option (List (List A1)×((Int) ⊕ (Unit))))) N 0) fun s14=>some ([],.inl (ar .add .i64 s1 1))else some ([],.inr ()):Option (List (List A1)×((Int) ⊕ (Unit))))) N 0) fun s6=>some ([],())):Option (List (List A1)×Unit)).bind fun q=>some q.1
def Q5 (N:Nat):Nat→A0→B3→List A1→Int→Option (List (List A1))
 |0,_,_,_,_=>none
 |n+1,aJ,aM,aP,aS=>((O0 (X1 (fun(s1:(List (List (List A1)))×Int)=>(if cmp .lss s1.2 (Ar.len aJ.cR)then(B6 aJ.cR s1.2).bind fun x8=>(C8 N n aM x8 aP aS).bind fun r9=>(H9 s1.1 ([r9])).bind fun l11=>some ([],.inl (l11,ar .add .i64 s1.2 1))else some ([],.inr s1.1):Option (List (List A1)×(((List (List (List A1)))×Int) ⊕ (((List (List (List A1))))))))) N ([],0)) fun s7=>if nt aM.full then(T3 N N s7 ([])).bind fun l13=>O0 (some (l13,())) fun _=>some ([],())else some ([],())):Option (List (List A1)×Unit)).bind fun q=>some q.1
def O8 (N:Nat):Nat→B3→A0→List A1→Int→Option (List (List A1))
 |0,_,_,_,_=>none
 | n+1,aJ,aM,aP,aS=>(((B6 aM.cR 0).bind fun x1=>(C8 N n aJ x1 aP aS).bind fun r2=>O0 (X1 (fun(s3:Int)=>(if cmp .lss s3 (Ar.len r2)then(B6 r2 s3).bind fun x9=>if aJ.full then some ([],.inr (.inr ()))else O0 (some ([x9],())) fun _=>some ([],.inl (ar .add .i64 s3 1))else some ([],.inr (.inl ())):Option (List (List A1)×((Int) ⊕ (Unit ⊕ Unit))))) N 0) fun s8=>match s8 with
   | .inl y11=>(B6 aM.cR 0).bind fun x12=>(L5 N n aJ x12 aP aS (fun y1 y2=>I4 N n y1 y2 aJ aM)).bind fun r13=>O0 (BF (fun(_:Unit) (y15:(List A1))=>(O0 (some ([y15],())) fun _=>some ([],.inl ()):Option (List (List A1)×(Unit ⊕ Unit)))) r13 ()) fun o22=>match o22 with
    | .inl _=>some ([],())
    | .inr _=>none
   | .inr y25=>some ([],())):Option (List (List A1)×Unit)).bind fun q=>some q.1
def I4 (N:Nat):Nat→List A1→Int→B3→A0→Option (List (List A1))
 |0,_,_,_,_=>none
 |n+1,aN,aH,aM,aP=>(C8 N n aM aP aN aH).bind fun r1=>some r1
def O7 (N:Nat):Nat→B3→A0→List A1→Int→Option (List (List A1))
 |0,_,_,_,_=>none
 |n+1,aJ,aM,aP,aS=>(((B6 aM.cR 0).bind fun x1=>(C8 N n aJ x1 aP aS).bind fun r2=>O0 (X1 (fun(s3:Int)=>(if cmp .lss s3 (Ar.len r2)then(B6 r2 s3).bind fun x9=>(Q3 N aJ aM aP x9).bind fun r10=>if r10 then O0 (some ([x9],())) fun _=>some ([],.inl (ar .add .i64 s3 1))else some ([],.inl (ar .add .i64 s3 1))else some ([],.inr ()):Option (List (List A1)×((Int) ⊕ (Unit))))) N 0) fun s8=>some ([],())):Option (List (List A1)×Unit)).bind fun q=>some q.1
def O6 (N:Nat):Nat→B3→A0→List A1→Int→((List A1)→Int→Option (List (List A1)))→Option (List (List A1))
 |0,_,_,_,_,_=>none
 | n + 1,aJ,aM,aP,aS,bW=>(((C8 N n aJ aM aP aS).bind fun r1=>O0 (X1 (fun(s2:Int)=>(if cmp .lss s2 (Ar.len r1)then(B6 r1 s2).bind fun x8=>(L7 N aP x8).bind fun r9=>(L4 N x8).bind fun r10=>(bW r9 (ar .add .i64 r10 1)).bind fun r11=>O0 (X1 (fun(s12:Int)=>(if cmp .lss s12 (Ar.len r11)then(B6 r11 s12).bind fun x18=>if aJ.full then some ([],.inr (.inr ()))else(L7 N x8 x18).bind fun r19=>O0 (some ([r19],())) fun _=>some ([],.inl (ar .add .i64 s12 1))else some ([],.inr (.inl ())):Option (List (List A1)×((Int) ⊕ (Unit ⊕ Unit))))) N 0) fun s17=>match s17 with
       | .inl y21=>some ([],.inl (ar .add .i64 s2 1))
       | .inr y22=>some ([],.inr (.inr ()))else some ([],.inr (.inl ())):Option (List (List A1)×((Int) ⊕ (Unit ⊕ Unit))))) N 0) fun s7=>match s7 with
   | .inl y23=>some ([],())
   | .inr y24=>some ([],())):Option (List (List A1)×Unit)).bind fun q=>some q.1
end
def N2 (N:Nat)(aA:A0)(aC:List A4):Option ((List C4)×Int):=(AJ N aA).bind fun r1=>if cmp .neq r1 0 then some ([],r1)else(Bq N aC).bind fun r2=>if cmp .neq r2 0 then some ([],r2)else(C8 N N (⟨aC,false⟩:B3) aA ([]) 0).bind fun r3=>(loopN (fun(s5:Int×(List C4))=>(if cmp .lss s5.1 (Ar.len r3)then(B6 r3 s5.1).bind fun x8=>(loopN (fun(s10:Int×C4)=>(if cmp .lss s10.1 (Ar.len x8)then(B6 x8 s10.1).bind fun x13=>(B6 aC x13.at_).bind fun x14=>(AK N x14).bind fun r15=>(H9 s10.2.cT ([(⟨x13.cX,r15⟩:D6)])).bind fun l17=>some (.inl (ar .add .i64 s10.1 1,{s10.2 with cT:=l17}))else some (.inr s10.2):Option ((Int×C4) ⊕ (C4)))) N (0,(⟨[]⟩:C4))).bind fun s12=>(H9 s5.2 ([s12])).bind fun l20=>some (.inl (ar .add .i64 s5.1 1,l20))else some (.inr s5.2):Option ((Int×(List C4)) ⊕ (((List C4)))))) N (0,([]:List C4))).bind fun s7=>(GQ (fun y1 y2=>Z1 N y1 y2) s7).bind fun l22=>some (l22,0)
def Cz (N:Nat)(aA:A0)(aC:List A4):Option ((List C4)×Int):=(N2 N aA aC).bind fun r1=>some (r1.1,r1.2)
def Az (N:Nat)(aA:A0)(aC:List A4):Option (Int×Int):=(N2 N aA aC).bind fun r1=>some (Ar.len r1.1,r1.2)
def Ay (N:Nat)(aA:A0)(aC:List A4):Option (C4×Bool×Int):=(N2 N aA aC).bind fun r2=>if Ar.or (cmp .neq r2.2 0) (cmp .eql (Ar.len r2.1) 0)then some ((⟨[]⟩:C4),false,r2.2)else(B6 r2.1 0).bind fun x3=>some (x3,true,0)
def GA (N:Nat)(aO:List Int):Option (List A4):=(loopN (fun(s1:(List A4)×Int)=>(if cmp .lss s1.2 (Ar.len aO)then(B6 aO s1.2).bind fun x4=>(H9 s1.1 ([(⟨0,s1.2,0,ar .add .i64 s1.2 1,[(⟨0,x4,⟨#[]⟩⟩:A6)]⟩:A4)])).bind fun l6=>some (.inl (l6,ar .add .i64 s1.2 1))else some (.inr s1.1):Option (((List A4)×Int) ⊕ (((List A4)))))) N ([],0)).bind fun s3=>some s3
def Cc (N:Nat)(aL:Int)(aV:List A0):Option A0:=some (⟨aL,aV,0,0,0,0,(⟨0,[],0,0,0,(⟨0,0,⟨#[]⟩⟩:A6)⟩:B0)⟩:A0)
def Bx (N:Nat)(aI:Int)(bO:B0):Option A0:=some (⟨0,[],0,aI,0,0,bO⟩:A0)
def P0 (N:Nat)(aF:Bool):Option A6:=if aF then some (⟨1,1,⟨#[]⟩⟩:A6)else some (⟨1,0,⟨#[]⟩⟩:A6)
def FW (N:Nat):Option B0:=(P0 N true).bind fun r2=>some (⟨0,[],0,0,0,r2⟩:B0)
def Cd (N:Nat)(aD:B0)(aF:B0):Option B0:=some (⟨7,[aD,aF],0,0,0,(⟨0,0,⟨#[]⟩⟩:A6)⟩:B0)
def Al (N:Nat)(aI:Int):Option B0:=some (⟨1,[],aI,0,0,(⟨0,0,⟨#[]⟩⟩:A6)⟩:B0)
def Bz (N:Nat)(aZ:Int):Option B0:=some (⟨0,[],0,0,0,(⟨0,aZ,⟨#[]⟩⟩:A6)⟩:B0)
def Bk (N:Nat):Option Bool:=(GA N ([5,3,8,5])).bind fun r1=>(FW N).bind fun r2=>(Bx N 0 r2).bind fun r3=>(Al N 0).bind fun r4=>(Al N 1).bind fun r5=>(Cd N r4 r5).bind fun r6=>(Bx N 1 r6).bind fun r7=>(Cc N 1 ([r3,r7])).bind fun r8=>(FW N).bind fun r9=>(Bx N 1 r9).bind fun r10=>(FW N).bind fun r11=>(Bx N 2 r11).bind fun r12=>(Cc N 1 ([r10,r12])).bind fun r13=>(Cc N 5 ([r13])).bind fun r14=>(Bz N 6).bind fun r16=>(Al N 0).bind fun r17=>(Cd N r16 r17).bind fun r18=>(Al N 0).bind fun r19=>(Bz N 6).bind fun r20=>(Cd N r19 r20).bind fun r21=>(Bx N 0 r21).bind fun r22=>(Cc N 4 ([r22])).bind fun r23=>(Bz N 4).bind fun r24=>(Al N 0).bind fun r25=>(Cd N r24 r25).bind fun r26=>(Bx N 0 r26).bind fun r27=>(Al N 1).bind fun r28=>(Bz N 6).bind fun r29=>(Cd N r28 r29).bind fun r30=>(Bx N 1 r30).bind fun r31=>(Cc N 3 ([r27,r31])).bind fun r32=>(loopN (fun(s33:Int)=>(if cmp .lss s33 5 then(B6 ([r8,(⟨6,[r8],0,0,0,1,(⟨0,[],0,0,0,(⟨0,0,⟨#[]⟩⟩:A6)⟩:B0)⟩:A0),{r14 with cS:=r18},r23,r32]) s33).bind fun x35=>(Az N x35 r1).bind fun r37=>(Cz N x35 r1).bind fun r38=>if Ar.or (cmp .neq r37.2 0) (cmp .neq r38.2 0)then some (.inr (.inr ()))else(B6 ([3,1,4,7,7]) s33).bind fun x39=>if Ar.or (cmp .neq r37.1 x39) (cmp .neq (Ar.len r38.1) r37.1)then some (.inr (.inr ()))else some (.inl (ar .add .i64 s33 1))else some (.inr (.inl ())):Option ((Int) ⊕ (Unit ⊕ Unit)))) N 0).bind fun s34=>match s34 with
 | .inl y40=>(Ay N r8 r1).bind fun r41=>if an (an (cmp .eql r41.2.2 0) r41.2.1) (cmp .eql (Ar.len r41.1.cT) 2)then(B6 r41.1.cT 1).bind fun x42=>some (an (cmp .eql x42.Var 1) (an (cmp .eql x42.Ref.Time 3) (an (cmp .eql x42.Ref.Source 0) (an (cmp .eql x42.Ref.Seq 2) true))))else some false
 | .inr y43=>some false
def Y8 (N:Nat)(aA:A0):Option Bool:=some (Ar.or (cmp .eql aA.Op 5) (cmp .eql aA.Op 9))
def W8 (N:Nat)(aA:A0):Option Bool:=if cmp .eql aA.Op 0 then some true else(Y8 N aA).bind fun r1=>some r1
def V3 (N:Nat)(aA:A0):Option Bool:=some (Ar.or (cmp .eql aA.Op 6) (cmp .eql aA.Op 10))
def Q9 (N:Nat):Nat→B0→B0→Option Bool
 |0,_,_=>none
 | n+1,aD,aF=>if Ar.or (Ar.or (Ar.or (Ar.or (Ar.or (cmp .neq aD.Op aF.Op) (cmp .neq aD.Var aF.Var)) (cmp .neq aD.Field aF.Field)) (cmp .neq aD.Kind aF.Kind)) (nt (an (cmp .eql aD.Value.Kind aF.Value.Kind) (an (cmp .eql aD.Value.Num aF.Value.Num) (an (scmp .eql aD.Value.Text aF.Value.Text) true))))) (cmp .neq (Ar.len aD.cR) (Ar.len aF.cR))then some false else(loopN (fun(s1:Int)=>(if cmp .lss s1 (Ar.len aD.cR)then(B6 aD.cR s1).bind fun x3=>(B6 aF.cR s1).bind fun x4=>(Q9 N n x3 x4).bind fun r5=>if nt r5 then some (.inr (.inr ()))else some (.inl (ar .add .i64 s1 1))else some (.inr (.inl ())):Option ((Int) ⊕ (Unit ⊕ Unit)))) N 0).bind fun s2=>match s2 with
   | .inl y6=>some true
   | .inr y7=>some false
def AA (N:Nat)(aA:A0):Option Bool:=(W8 N aA).bind fun r1=>some (Ar.or r1 (cmp .eql aA.Op 7))
def Et (N:Nat)(aL:Int):Option (Bool×Bool):=some (Ar.or (Ar.or (Ar.or (cmp .eql aL 1) (cmp .eql aL 4)) (cmp .eql aL 2)) (cmp .eql aL 3),Ar.or (cmp .eql aL 1) (cmp .eql aL 4))
def Y1 (N:Nat)(aI:A6):Option Int:=if Ar.or (cmp .lss aI.Kind 0) (cmp .gtr aI.Kind 2)then some 1 else if cmp .eql aI.Kind 2 then if cmp .neq aI.Num 0 then some 3 else if cmp .gtr (Ar.slen aI.Text) 64 then some 13 else some 0 else if scmp .neq aI.Text (⟨#[]⟩:ByteArray)then some 3 else if Ar.or (Ar.or (an (cmp .eql aI.Kind 1) (Ar.or (cmp .lss aI.Num 0) (cmp .gtr aI.Num 1))) (cmp .lss aI.Num (-1099511627776))) (cmp .gtr aI.Num 1099511627776)then some 2 else some 0
def Dz (N:Nat)(aL:Int):Option Int:=((if cmp .eql aL 0 then some true else if cmp .eql aL 1 then some true else if cmp .eql aL 2 then some true else if cmp .eql aL 3 then some true else some (cmp .eql aL 4)):Option (Bool)).bind fun s1=>if s1 then some 0 else if cmp .eql aL 12 then some 1 else if cmp .eql aL 5 then some 2 else if cmp .eql aL 6 then some 2 else if cmp .eql aL 7 then some 2 else if cmp .eql aL 8 then some 2 else if cmp .eql aL 9 then some 2 else if cmp .eql aL 10 then some 2 else if cmp .eql aL 11 then some 2 else some (-1)
def V7 (N:Nat)(aW:Int)(aI:A6):Option Bool:=some (Ar.or (Ar.or (Ar.or (cmp .eql aI.Kind 0) (cmp .eql aW 0)) (cmp .eql aW 4)) (cmp .eql aW 5))
def CU (N:Nat) (aB:B0):Option Int:=(Dz N aB.Op).bind fun r1=>if cmp .lss r1 0 then some 1 else if cmp .neq (Ar.len aB.cR) r1 then some 15 else(Et N aB.Op).bind fun r2=>if Ar.or (an r2.1 (Ar.or (cmp .lss aB.Var 0) (cmp .geq aB.Var 16))) (an r2.2 (Ar.or (cmp .lss aB.Field 0) (cmp .geq aB.Field 8)))then some 2 else if an (cmp .eql aB.Op 4) (Ar.or (cmp .lss aB.Kind 1) (cmp .gtr aB.Kind 5))then some 1 else((if Ar.or (cmp .eql aB.Op 4) (cmp .eql aB.Op 0)then(Y1 N aB.Value).bind fun r4=>if cmp .neq r4 0 then some (.inr r4)else some (.inl ())else some (.inl ())):Option (Unit ⊕ Int)).bind fun s3=>match s3 with
     | .inl y5=>if cmp .eql aB.Op 4 then(V7 N aB.Kind aB.Value).bind fun r6=>if Ar.or (nt r6) (an (cmp .eql aB.Kind 1) (nt (an (cmp .eql aB.Value.Kind 0) (an (cmp .eql aB.Value.Num 0) (an (scmp .eql aB.Value.Text (⟨#[]⟩)) true)))))then some 9 else if Ar.or (Ar.or (Ar.or (an (nt r2.1) (cmp .neq aB.Var 0)) (an (nt r2.2) (cmp .neq aB.Field 0))) (an (nt (cmp .eql aB.Op 4)) (cmp .neq aB.Kind 0))) (an (nt (Ar.or (cmp .eql aB.Op 4) (cmp .eql aB.Op 0))) (nt (an (cmp .eql aB.Value.Kind 0) (an (cmp .eql aB.Value.Num 0) (an (scmp .eql aB.Value.Text (⟨#[]⟩)) true)))))then some 3 else some 0 else if Ar.or (Ar.or (Ar.or (an (nt r2.1) (cmp .neq aB.Var 0)) (an (nt r2.2) (cmp .neq aB.Field 0))) (an (nt (cmp .eql aB.Op 4)) (cmp .neq aB.Kind 0))) (an (nt (Ar.or (cmp .eql aB.Op 4) (cmp .eql aB.Op 0))) (nt (an (cmp .eql aB.Value.Kind 0) (an (cmp .eql aB.Value.Num 0) (an (scmp .eql aB.Value.Text (⟨#[]⟩)) true)))))then some 3 else some 0
     | .inr y7=>some y7
def Aj (N:Nat):Nat→B0→Option Int
 |0,_=>none
 | n+1,aB=>(CU N aB).bind fun r1=>if cmp .neq r1 0 then some r1 else(loopN (fun(s2:Int)=>(if cmp .lss s2 (Ar.len aB.cR)then(B6 aB.cR s2).bind fun x4=>(Aj N n x4).bind fun r5=>if cmp .neq r5 0 then some (.inr (.inr r5))else some (.inl (ar .add .i64 s2 1))else some (.inr (.inl ())):Option ((Int) ⊕ (Unit ⊕ Int)))) N 0).bind fun s3=>match s3 with
   | .inl y6=>some 0
   | .inr y7=>some y7
def Bi (N:Nat)(aB:B0):Option Int:=(V6 N N aB 64).bind fun r1=>if cmp .gtr r1 64 then some 5 else(V5 N N aB).bind fun r2=>if cmp .gtr r2 12 then some 12 else(Aj N N aB).bind fun r3=>some r3
def Dx (N:Nat)(aA:A0):Option Bool:=if cmp .eql aA.Op 0 then some (cmp .eql (Ar.len aA.cR) 0)else((if cmp .eql aA.Op 1 then some true else if cmp .eql aA.Op 2 then some true else some (cmp .eql aA.Op 3)):Option (Bool)).bind fun s1=>if s1 then some (cmp .geq (Ar.len aA.cR) 2)else if cmp .eql aA.Op 8 then some (cmp .eql (Ar.len aA.cR) 2)else some (cmp .eql (Ar.len aA.cR) 1)
def Ad (N:Nat)(bK:Bool)(aZ:Int)(bP:Int):Option Bool:=some (an bK (Ar.or (cmp .lss aZ 0) (cmp .gtr aZ bP)))
def W9 (N:Nat) (aA:A0):Option Int:=if Ar.or (cmp .lss aA.Op 0) (cmp .gtr aA.Op 10)then some 1 else(Dx N aA).bind fun r1=>if nt r1 then some 15 else(W8 N aA).bind fun r2=>(Y8 N aA).bind fun r3=>if r3 then(AA N aA).bind fun r4=>(Ad N r2 aA.Typ 15).bind fun r5=>if r5 then some 2 else(Ad N r2 aA.Var 15).bind fun r6=>if r6 then some 2 else(Ad N true aA.cV 63).bind fun r7=>if r7 then some 2 else(V3 N aA).bind fun r8=>(Ad N r8 aA.Span 1099511627776).bind fun r9=>if r9 then some 2 else((if r4 then(Bi N aA.cS).bind fun r11=>if cmp .neq r11 0 then some (.inr r11)else some (.inl ())else some (.inl ())):Option (Unit ⊕ Int)).bind fun s10=>match s10 with
        | .inl y12=>if Ar.or (an (nt r2) (Ar.or (cmp .neq aA.Typ 0) (cmp .neq aA.Var 0))) (an (nt true) (cmp .neq aA.cV 0))then some 3 else(V3 N aA).bind fun r13=>if an (nt r13) (cmp .neq aA.Span 0)then some 3 else if nt r4 then(Q9 N N aA.cS (⟨0,[],0,0,0,(⟨0,0,⟨#[]⟩⟩:A6)⟩:B0)).bind fun r14=>if nt r14 then some 3 else some 0 else some 0
        | .inr y15=>some y15 else(V3 N aA).bind fun r16=>(AA N aA).bind fun r17=>(Ad N r2 aA.Typ 15).bind fun r18=>if r18 then some 2 else(Ad N r2 aA.Var 15).bind fun r19=>if r19 then some 2 else(Ad N r16 aA.cV 63).bind fun r20=>if r20 then some 2 else(V3 N aA).bind fun r21=>(Ad N r21 aA.Span 1099511627776).bind fun r22=>if r22 then some 2 else((if r17 then(Bi N aA.cS).bind fun r24=>if cmp .neq r24 0 then some (.inr r24)else some (.inl ())else some (.inl ())):Option (Unit ⊕ Int)).bind fun s23=>match s23 with
        | .inl y25=>if Ar.or (an (nt r2) (Ar.or (cmp .neq aA.Typ 0) (cmp .neq aA.Var 0))) (an (nt r16) (cmp .neq aA.cV 0))then some 3 else(V3 N aA).bind fun r26=>if an (nt r26) (cmp .neq aA.Span 0)then some 3 else if nt r17 then(Q9 N N aA.cS (⟨0,[],0,0,0,(⟨0,0,⟨#[]⟩⟩:A6)⟩:B0)).bind fun r27=>if nt r27 then some 3 else some 0 else some 0
        | .inr y28=>some y28
def AB (N:Nat) (aA:A0):Option Int:=(V2 N N aA 64).bind fun r1=>if cmp .gtr r1 64 then some 5 else(V4 N N aA).bind fun r2=>if cmp .gtr r2 12 then some 12 else(R9 N N aA).bind fun r3=>(loopN (fun(s4:Int)=>(if cmp .lss s4 (Ar.len r3)then(B6 r3 s4).bind fun x6=>(W9 N x6).bind fun r7=>if cmp .neq r7 0 then some (.inr (.inr r7))else some (.inl (ar .add .i64 s4 1))else some (.inr (.inl ())):Option ((Int) ⊕ (Unit ⊕ Int)))) N 0).bind fun s5=>match s5 with
   | .inl y8=>some 0
   | .inr y9=>some y9
def CB (N:Nat)(aC:List A0):Option Bool:=(loopN (fun(s1:Int)=>(if cmp .lss s1 (Ar.len aC)then(B6 aC s1).bind fun x3=>if cmp .geq x3.Op 8 then some (.inr (.inr ()))else some (.inl (ar .add .i64 s1 1))else some (.inr (.inl ())):Option ((Int) ⊕ (Unit ⊕ Unit)))) N 0).bind fun s2=>match s2 with
 | .inl y4=>some true
 | .inr y5=>some false
def Dy (N:Nat) (aA:A0):Option Int:=(AB N aA).bind fun r1=>if cmp .neq r1 0 then some r1 else(R9 N N aA).bind fun r2=>(CB N r2).bind fun r3=>if nt r3 then some 1 else(loopN (fun(s4:Int×Int×Int)=>(if cmp .lss s4.2.2 (Ar.len r2)then(B6 r2 s4.2.2).bind fun x6=>(W8 N x6).bind fun r7=>((if r7 then(B6 r2 s4.2.2).bind fun x9=>if cmp .neq x9.Var s4.1 then some (.inr ())else some (.inl (ar .add .i64 s4.1 1))else some (.inl s4.1)):Option (Int ⊕ Unit)).bind fun s8=>match s8 with
       | .inl y10=>(B6 r2 s4.2.2).bind fun x11=>(Y8 N x11).bind fun r12=>if r12 then(B6 r2 s4.2.2).bind fun x13=>if cmp .neq x13.cV s4.2.1 then some (.inr (.inr ()))else some (.inl (y10,ar .add .i64 s4.2.1 1,ar .add .i64 s4.2.2 1))else(B6 r2 s4.2.2).bind fun x14=>(V3 N x14).bind fun r15=>if r15 then(B6 r2 s4.2.2).bind fun x16=>if cmp .neq x16.cV s4.2.1 then some (.inr (.inr ()))else some (.inl (y10,ar .add .i64 s4.2.1 1,ar .add .i64 s4.2.2 1))else some (.inl (y10,s4.2.1,ar .add .i64 s4.2.2 1))
       | .inr y17=>some (.inr (.inr ()))else some (.inr (.inl ())):Option ((Int×Int×Int) ⊕ (Unit ⊕ Unit)))) N (0,0,0)).bind fun s5=>match s5 with
   | .inl y18=>some 0
   | .inr y19=>some 14
def Bu (N:Nat)(aB:A4):Option X5:=some (⟨aB.Time,aB.Source,aB.Seq⟩:X5)
def Co (N:Nat)(aD:X5)(aF:X5):Option Int:=if cmp .neq aD.Time aF.Time then if cmp .lss aD.Time aF.Time then some (-1)else some 1 else if cmp .neq aD.Source aF.Source then if cmp .lss aD.Source aF.Source then some (-1)else some 1 else if cmp .lss aD.Seq aF.Seq then some (-1)else if cmp .gtr aD.Seq aF.Seq then some 1 else some 0
def DS (N:Nat)(aB:A4):Option Bool:=some (an (an (an (an (an (cmp .geq aB.Time 0) (cmp .leq aB.Time 1099511627776)) (cmp .geq aB.Source 0)) (cmp .lss aB.Source 8)) (cmp .geq aB.Seq 0)) (cmp .leq aB.Seq 1099511627776))
def CV (N:Nat)(aD:A4)(aF:A4):Option Bool:=some (an (cmp .eql aD.Source aF.Source) (cmp .eql aD.Seq aF.Seq))
def DA (N:Nat) (aC:List A4):Option Int:=if cmp .gtr (Ar.len aC) 4096 then some 5 else(loopN (fun(s1:Int)=>(if cmp .lss s1 (Ar.len aC)then(B6 aC s1).bind fun x3=>(DS N x3).bind fun r4=>if nt r4 then some (.inr (.inr 2))else if cmp .gtr s1 0 then(B6 aC (ar .sub .i64 s1 1)).bind fun x5=>(Bu N x5).bind fun r6=>(B6 aC s1).bind fun x7=>(Bu N x7).bind fun r8=>(Co N r6 r8).bind fun r9=>if cmp .geq r9 0 then some (.inr (.inr 14))else(loopN (fun(s10:Int)=>(if cmp .lss s10 s1 then(B6 aC s10).bind fun x12=>(B6 aC s1).bind fun x13=>(CV N x12 x13).bind fun r14=>if r14 then some (.inr (.inr ()))else some (.inl (ar .add .i64 s10 1))else some (.inr (.inl ())):Option ((Int) ⊕ (Unit ⊕ Unit)))) N 0).bind fun s11=>match s11 with
         | .inl y15=>some (.inl (ar .add .i64 s1 1))
         | .inr y16=>some (.inr (.inr 7))else(loopN (fun(s17:Int)=>(if cmp .lss s17 s1 then(B6 aC s17).bind fun x19=>(B6 aC s1).bind fun x20=>(CV N x19 x20).bind fun r21=>if r21 then some (.inr (.inr ()))else some (.inl (ar .add .i64 s17 1))else some (.inr (.inl ())):Option ((Int) ⊕ (Unit ⊕ Unit)))) N 0).bind fun s18=>match s18 with
        | .inl y22=>some (.inl (ar .add .i64 s1 1))
        | .inr y23=>some (.inr (.inr 7))else some (.inr (.inl ())):Option ((Int) ⊕ (Unit ⊕ Int)))) N 0).bind fun s2=>match s2 with
  | .inl y24=>some 0
  | .inr y25=>some y25
def Be (N:Nat)(aA:A0)(aC:List A4):Option Int:=(Dy N aA).bind fun r1=>if cmp .neq r1 0 then some r1 else(DA N aC).bind fun r2=>some r2
def Dw (N:Nat)(aD:D6)(aF:D6):Option Int:=(Co N aD.Ref aF.Ref).bind fun r1=>if cmp .neq r1 0 then some r1 else if cmp .lss aD.Var aF.Var then some (-1)else if cmp .gtr aD.Var aF.Var then some 1 else some 0
def M0 (N:Nat)(aD:C4)(aF:C4):Option Int:=(loopN (fun(s1:Int)=>(if an (cmp .lss s1 (Ar.len aD.cT)) (cmp .lss s1 (Ar.len aF.cT))then(B6 aD.cT s1).bind fun x3=>(B6 aF.cT s1).bind fun x4=>(Dw N x3 x4).bind fun r5=>if cmp .neq r5 0 then some (.inr (.inr r5))else some (.inl (ar .add .i64 s1 1))else some (.inr (.inl ())):Option ((Int) ⊕ (Unit ⊕ Int)))) N 0).bind fun s2=>match s2 with
 | .inl y6=>if cmp .lss (Ar.len aD.cT) (Ar.len aF.cT)then some (-1)else if cmp .gtr (Ar.len aD.cT) (Ar.len aF.cT)then some 1 else some 0
 | .inr y7=>some y7
def Ap (N:Nat)(aR:AE)(aI:Int):Option (List A4):=if Ar.or (cmp .lss aI 0) (cmp .geq aI (Ar.len aR.cZ))then some ([])else(B6 aR.cZ aI).bind fun x1=>some x1
def Ex (N:Nat)(aW:Int):Option Bool:=some (an (cmp .geq aW 0) (cmp .leq aW 5))
def Cm (N:Nat)(aD:C1):Option Int:=(Ex N aD.Kind).bind fun r1=>if nt r1 then some 1 else if Ar.or (cmp .lss aD.Count 0) (cmp .gtr aD.Count 4096)then some 2 else if Ar.or (cmp .eql aD.Count 0) (cmp .eql aD.Kind 0)then if nt (an (cmp .eql aD.Value.Kind 0) (an (cmp .eql aD.Value.Num 0) (an (scmp .eql aD.Value.Text (⟨#[]⟩)) true)))then some 3 else some 0 else if cmp .eql aD.Kind 1 then if Ar.or (Ar.or (Ar.or (cmp .neq aD.Value.Kind 0) (scmp .neq aD.Value.Text (⟨#[]⟩:ByteArray))) (cmp .lss aD.Value.Num (neg .i64 (ar .mul .i64 aD.Count 1099511627776)))) (cmp .gtr aD.Value.Num (ar .mul .i64 aD.Count 1099511627776))then some 3 else some 0 else(Y1 N aD.Value).bind fun r2=>if cmp .neq r2 0 then some 3 else(V7 N aD.Kind aD.Value).bind fun r3=>if nt r3 then some 3 else some 0
def Ak (N:Nat)(aW:Int)(aI:A6):Option Int:=(Y1 N aI).bind fun r1=>if cmp .neq r1 0 then some r1 else(V7 N aW aI).bind fun r2=>if nt r2 then some 9 else some 0
def BR (N:Nat)(aW:Int)(aI:A6)(bU:A6):Option A6:=if cmp .eql aW 1 then some (⟨0,ar .add .i64 aI.Num bU.Num,⟨#[]⟩⟩:A6)else if cmp .eql aW 2 then some (⟨0,Ar.mn aI.Num bU.Num,⟨#[]⟩⟩:A6)else if cmp .eql aW 3 then some (⟨0,mx aI.Num bU.Num,⟨#[]⟩⟩:A6)else if cmp .eql aW 4 then some aI else if cmp .eql aW 5 then some bU else some (⟨0,0,⟨#[]⟩⟩:A6)
def Cn (N:Nat)(aD:C1)(aI:A6):Option (C1×Int):=(Cm N aD).bind fun r2=>if cmp .neq r2 0 then some ((⟨0,0,(⟨0,0,⟨#[]⟩⟩:A6)⟩:C1),r2)else(Ak N aD.Kind aI).bind fun r3=>if cmp .neq r3 0 then some ((⟨0,0,(⟨0,0,⟨#[]⟩⟩:A6)⟩:C1),r3)else if cmp .eql aD.Count 4096 then some ((⟨0,0,(⟨0,0,⟨#[]⟩⟩:A6)⟩:C1),5)else if cmp .eql aD.Kind 0 then some ((⟨aD.Kind,ar .add .i64 aD.Count 1,(⟨0,0,⟨#[]⟩⟩:A6)⟩:C1),0)else if cmp .gtr aD.Count 0 then(BR N aD.Kind aD.Value aI).bind fun r5=>some ((⟨aD.Kind,ar .add .i64 aD.Count 1,r5⟩:C1),0)else some ((⟨aD.Kind,ar .add .i64 aD.Count 1,aI⟩:C1),0)
def DR (N:Nat)(aD:C1)(bA:A6):Option (A6×Int):=(Cm N aD).bind fun r2=>if cmp .neq r2 0 then some ((⟨0,0,⟨#[]⟩⟩:A6),r2)else(Ak N aD.Kind bA).bind fun r3=>if cmp .neq r3 0 then some ((⟨0,0,⟨#[]⟩⟩:A6),r3)else if cmp .eql aD.Kind 0 then some ((⟨0,aD.Count,⟨#[]⟩⟩:A6),0)else if an (cmp .eql aD.Count 0) (cmp .neq aD.Kind 1)then some (bA,0)else some (aD.Value,0)
def Ht (N:Nat) (aW:Int) (aC:List A6) (bA:A6):Option (A6×Int):=(Ex N aW).bind fun r2=>if nt r2 then some ((⟨0,0,⟨#[]⟩⟩:A6),1)else if cmp .gtr (Ar.len aC) 4096 then some ((⟨0,0,⟨#[]⟩⟩:A6),5)else(loopN (fun(s4:Int×C1)=>(if cmp .lss s4.1 (Ar.len aC)then(B6 aC s4.1).bind fun x6=>(Cn N s4.2 x6).bind fun r7=>if cmp .neq r7.2 0 then some (.inr (.inr (r7.2,s4.2)))else some (.inl (ar .add .i64 s4.1 1,r7.1))else some (.inr (.inl s4.2)):Option ((Int×C1) ⊕ (C1 ⊕ (Int×C1))))) N (0,(⟨aW,0,(⟨0,0,⟨#[]⟩⟩:A6)⟩:C1))).bind fun s5=>match s5 with
   | .inl y8=>(DR N y8 bA).bind fun r9=>some (r9.1,r9.2)
   | .inr y10=>some ((⟨0,0,⟨#[]⟩⟩:A6),y10.1)
def Ev (N:Nat)(aR:AE)(aI:Int)(aT:Int)(aU:A4):Option (A4×Bool):=if cmp .eql aI aT then some (aU,true)else(Ap N aR aI).bind fun r2=>if cmp .eql (Ar.len r2) 0 then some ((⟨0,0,0,0,[]⟩:A4),false)else(B6 r2 (ar .sub .i64 (Ar.len r2) 1)).bind fun x3=>some (x3,true)
def Eu (N:Nat) (aB:B0) (aR:AE) (aT:Int) (aU:A4):Option (A6×Int):=if cmp .eql aB.Op 0 then some (aB.Value,0)else if cmp .eql aB.Op 3 then(Ap N aR aB.Var).bind fun r2=>some ((⟨0,Ar.len r2,⟨#[]⟩⟩:A6),0)else if cmp .eql aB.Op 4 then(Ap N aR aB.Var).bind fun r3=>(loopN (fun(s4:(List A6)×Int)=>(if cmp .lss s4.2 (Ar.len r3)then(B6 r3 s4.2).bind fun x7=>if cmp .geq aB.Field (Ar.len x7.Values)then some (.inr (.inr ()))else(B6 r3 s4.2).bind fun x8=>(B6 x8.Values aB.Field).bind fun x9=>(H9 s4.1 ([x9])).bind fun l11=>some (.inl (l11,ar .add .i64 s4.2 1))else some (.inr (.inl s4.1)):Option (((List A6)×Int) ⊕ (((List A6)) ⊕ Unit)))) N ([],0)).bind fun s6=>match s6 with
    | .inl y12=>(Ht N aB.Kind y12 aB.Value).bind fun r14=>some (r14.1,r14.2)
    | .inr y15=>some ((⟨0,0,⟨#[]⟩⟩:A6),6)else(Ev N aR aB.Var aT aU).bind fun r17=>if nt r17.2 then some ((⟨0,0,⟨#[]⟩⟩:A6),10)else if cmp .eql aB.Op 2 then some ((⟨0,r17.1.Time,⟨#[]⟩⟩:A6),0)else if cmp .geq aB.Field (Ar.len r17.1.Values)then some ((⟨0,0,⟨#[]⟩⟩:A6),6)else(B6 r17.1.Values aB.Field).bind fun x18=>(Y1 N x18).bind fun r19=>if cmp .neq r19 0 then some ((⟨0,0,⟨#[]⟩⟩:A6),r19)else(B6 r17.1.Values aB.Field).bind fun x20=>some (x20,0)
def Bg (N:Nat)(aL:Int):Option Int:=((if cmp .eql aL 5 then some true else if cmp .eql aL 6 then some true else if cmp .eql aL 7 then some true else some (cmp .eql aL 8)):Option (Bool)).bind fun s1=>if s1 then some 0 else if cmp .eql aL 10 then some 1 else if cmp .eql aL 11 then some 1 else if cmp .eql aL 12 then some 1 else some (-1)
def Bf (N:Nat)(aL:Int)(bD:List Int):Option Int:=(loopN (fun(s1:Int)=>(if cmp .lss s1 (Ar.len bD)then(Bg N aL).bind fun r3=>if cmp .geq r3 0 then(B6 bD s1).bind fun x4=>if cmp .neq x4 r3 then some (.inr (.inr ()))else if cmp .eql aL 9 then(B6 bD s1).bind fun x5=>(B6 bD 0).bind fun x6=>if cmp .neq x5 x6 then some (.inr (.inr ()))else some (.inl (ar .add .i64 s1 1))else some (.inl (ar .add .i64 s1 1))else if cmp .eql aL 9 then(B6 bD s1).bind fun x7=>(B6 bD 0).bind fun x8=>if cmp .neq x7 x8 then some (.inr (.inr ()))else some (.inl (ar .add .i64 s1 1))else some (.inl (ar .add .i64 s1 1))else some (.inr (.inl ())):Option ((Int) ⊕ (Unit ⊕ Unit)))) N 0).bind fun s2=>match s2 with
 | .inl y9=>some 0
 | .inr y10=>some 9
def Fb (N:Nat)(aL:Int)(aC:List A6):Option A6:=if cmp .eql aL 5 then(B6 aC 0).bind fun x2=>(B6 aC 1).bind fun x3=>some (⟨0,ar .add .i64 x2.Num x3.Num,⟨#[]⟩⟩:A6)else if cmp .eql aL 6 then(B6 aC 0).bind fun x4=>(B6 aC 1).bind fun x5=>some (⟨0,ar .sub .i64 x4.Num x5.Num,⟨#[]⟩⟩:A6)else if cmp .eql aL 7 then(B6 aC 0).bind fun x6=>(B6 aC 1).bind fun x7=>(P0 N (cmp .lss x6.Num x7.Num)).bind fun r8=>some r8 else if cmp .eql aL 8 then(B6 aC 0).bind fun x9=>(B6 aC 1).bind fun x10=>(P0 N (cmp .leq x9.Num x10.Num)).bind fun r11=>some r11 else if cmp .eql aL 9 then(B6 aC 0).bind fun x12=>(B6 aC 1).bind fun x13=>(P0 N (an (cmp .eql x12.Kind x13.Kind) (an (cmp .eql x12.Num x13.Num) (an (scmp .eql x12.Text x13.Text) true)))).bind fun r14=>some r14 else if cmp .eql aL 10 then(B6 aC 0).bind fun x15=>if cmp .eql x15.Num 1 then(B6 aC 1).bind fun x16=>(P0 N (cmp .eql x16.Num 1)).bind fun r17=>some r17 else(P0 N false).bind fun r18=>some r18 else if cmp .eql aL 11 then(B6 aC 0).bind fun x19=>if cmp .eql x19.Num 1 then(P0 N true).bind fun r20=>some r20 else(B6 aC 1).bind fun x21=>(P0 N (cmp .eql x21.Num 1)).bind fun r22=>some r22 else(B6 aC 0).bind fun x23=>(P0 N (cmp .neq x23.Num 1)).bind fun r24=>some r24
def Ao (N:Nat):Nat→B0→AE→Int→A4→Option (A6×Int)
 |0,_,_,_,_=>none
 | n+1,aB,aR,aT,aU=>if cmp .eql (Ar.len aB.cR) 0 then(Eu N aB aR aT aU).bind fun r2=>some (r2.1,r2.2)else(loopN (fun(s3:(List A6)×(List Int)×Int)=>(if cmp .lss s3.2.2 (Ar.len aB.cR)then(B6 aB.cR s3.2.2).bind fun x7=>(Ao N n x7 aR aT aU).bind fun r8=>if cmp .neq r8.2 0 then some (.inr (.inr r8.2))else(H9 s3.1 ([r8.1])).bind fun l9=>(H9 s3.2.1 ([r8.1.Kind])).bind fun l12=>some (.inl (l9,l12,ar .add .i64 s3.2.2 1))else some (.inr (.inl (s3.1,s3.2.1))):Option (((List A6)×(List Int)×Int) ⊕ (((List A6)×(List Int)) ⊕ Int)))) N ([],[],0)).bind fun s6=>match s6 with
   | .inl y13=>(Bf N aB.Op y13.2).bind fun r16=>if cmp .neq r16 0 then some ((⟨0,0,⟨#[]⟩⟩:A6),r16)else(Fb N aB.Op y13.1).bind fun r17=>some (r17,0)
   | .inr y18=>some ((⟨0,0,⟨#[]⟩⟩:A6),y18)
def Ew (N:Nat)(aB:B0)(aR:AE)(aT:Int)(aU:A4):Option (A6×Int):=(Bi N aB).bind fun r2=>if cmp .neq r2 0 then some ((⟨0,0,⟨#[]⟩⟩:A6),r2)else(Ao N N aB aR aT aU).bind fun r3=>some (r3.1,r3.2)
def Bh (N:Nat)(aB:B0)(aR:AE)(aT:Int)(aU:A4):Option Bool:=(Ew N aB aR aT aU).bind fun r1=>if cmp .eql r1.2 0 then(P0 N true).bind fun r2=>some (an (cmp .eql r1.1.Kind r2.Kind) (an (cmp .eql r1.1.Num r2.Num) (an (scmp .eql r1.1.Text r2.Text) true)))else some false
def CT (N:Nat)(aC:List A4)(aG:List A2)(bB:Int):Option AE:=(Va 16 16 ([]:List A4)).bind fun l3=>(loopN (fun(s5:Int×(List (List A4)))=>(if cmp .lss s5.1 (Ar.len aG)then(B6 aG s5.1).bind fun x8=>if cmp .lss x8.At bB then(B6 aG s5.1).bind fun x9=>(B6 s5.2 x9.Var).bind fun x10=>(B6 aC x9.At).bind fun x15=>(H9 x10 ([x15])).bind fun l16=>(Gm s5.2 x9.Var (fun _=>l16)).bind fun l14=>some (.inl (ar .add .i64 s5.1 1,l14))else some (.inl (ar .add .i64 s5.1 1,s5.2))else some (.inr s5.2):Option ((Int×(List (List A4))) ⊕ (((List (List A4))))))) N (0,l3)).bind fun s7=>some (⟨s7⟩:AE)
def Dt (N:Nat)(aA:A0)(aC:List A4)(aF:List A2)(aH:Int):Option (List (List A2)):=(loopN (fun(s1:(List (List A2))×Int)=>(if cmp .lss s1.2 (Ar.len aC)then(B6 aC s1.2).bind fun x4=>if cmp .eql x4.Typ aA.Typ then(CT N aC aF s1.2).bind fun r5=>(B6 aC s1.2).bind fun x6=>(Bh N aA.cS r5 aA.Var x6).bind fun r7=>if r7 then(H9 s1.1 ([[(⟨aA.Var,s1.2⟩:A2)]])).bind fun l9=>some (.inl (l9,ar .add .i64 s1.2 1))else some (.inl (s1.1,ar .add .i64 s1.2 1))else some (.inl (s1.1,ar .add .i64 s1.2 1))else some (.inr s1.1):Option (((List (List A2))×Int) ⊕ (((List (List A2))))))) N ([],aH)).bind fun s3=>some s3
def G4 (N:Nat)(aD:List A2)(aF:List A2):Option (List A2):=(loopN (fun(s1:(List A2)×(List A2)×(List A2))=>(if Ar.or (cmp .gtr (Ar.len s1.1) 0) (cmp .gtr (Ar.len s1.2.1) 0)then if cmp .eql (Ar.len s1.2.1) 0 then(((B6 s1.1 0).bind fun x85=>(H9 s1.2.2 ([x85])).bind fun l206=>(J5 s1.1 (some 1) none none).bind fun l285=>some (l285,l206)):Option (((List A2)×(List A2)))).bind fun s4=>some (.inl (s4.1,s1.2.1,s4.2))else if cmp .gtr (Ar.len s1.1) 0 then(B6 s1.1 0).bind fun x446=>(B6 s1.2.1 0).bind fun x447=>if cmp .lss x446.At x447.At then(((B6 s1.1 0).bind fun x529=>(H9 s1.2.2 ([x529])).bind fun l650=>(J5 s1.1 (some 1) none none).bind fun l729=>some (l729,l650)):Option (((List A2)×(List A2)))).bind fun s448=>some (.inl (s448.1,s1.2.1,s448.2))else(((B6 s1.2.1 0).bind fun x971=>(H9 s1.2.2 ([x971])).bind fun l1092=>(J5 s1.2.1 (some 1) none none).bind fun l1171=>some (l1171,l1092)):Option (((List A2)×(List A2)))).bind fun s890=>some (.inl (s1.1,s890.1,s890.2))else(((B6 s1.2.1 0).bind fun x1413=>(H9 s1.2.2 ([x1413])).bind fun l1534=>(J5 s1.2.1 (some 1) none none).bind fun l1613=>some (l1613,l1534)):Option (((List A2)×(List A2)))).bind fun s1332=>some (.inl (s1.1,s1332.1,s1332.2))else some (.inr s1.2.2):Option (((List A2)×(List A2)×(List A2)) ⊕ (((List A2)))))) N (aD,aF,[])).bind fun s3=>some s3
def Du (N:Nat) (aD:List A2) (aF:List A2):Option Bool:=if cmp .neq (Ar.len aD) (Ar.len aF)then some false else(loopN (fun(s1:Int)=>(if cmp .lss s1 (Ar.len aD)then(B6 aD s1).bind fun x3=>(B6 aF s1).bind fun x4=>if nt (an (cmp .eql x3.Var x4.Var) (an (cmp .eql x3.At x4.At) true))then some (.inr (.inr ()))else some (.inl (ar .add .i64 s1 1))else some (.inr (.inl ())):Option ((Int) ⊕ (Unit ⊕ Unit)))) N 0).bind fun s2=>match s2 with
  | .inl y5=>some true
  | .inr y6=>some false
def T4 (N:Nat)(aC:List (List A2))(aG:List A2):Option (List (List A2)):=(loopN (fun(s1:Int)=>(if cmp .lss s1 (Ar.len aC)then(B6 aC s1).bind fun x3=>(Du N x3 aG).bind fun r4=>if r4 then some (.inr (.inr ()))else some (.inl (ar .add .i64 s1 1))else some (.inr (.inl ())):Option ((Int) ⊕ (Unit ⊕ Unit)))) N 0).bind fun s2=>match s2 with
 | .inl y5=>(H9 aC ([aG])).bind fun l7=>some l7
 | .inr y8=>some aC
def Ec (N:Nat)(aG:List A2)(bB:Int):Option Bool:=(loopN (fun(s1:Int)=>(if cmp .lss s1 (Ar.len aG)then(B6 aG s1).bind fun x3=>if cmp .eql x3.At bB then some (.inr (.inr ()))else some (.inl (ar .add .i64 s1 1))else some (.inr (.inl ())):Option ((Int) ⊕ (Unit ⊕ Unit)))) N 0).bind fun s2=>match s2 with
 | .inl y4=>some false
 | .inr y5=>some true
def Ck (N:Nat)(aD:List A2)(aF:List A2):Option Bool:=(loopN (fun(s1:Int)=>(if cmp .lss s1 (Ar.len aD)then(B6 aD s1).bind fun x3=>(Ec N aF x3.At).bind fun r4=>if r4 then some (.inr (.inr ()))else some (.inl (ar .add .i64 s1 1))else some (.inr (.inl ())):Option ((Int) ⊕ (Unit ⊕ Unit)))) N 0).bind fun s2=>match s2 with
 | .inl y5=>some true
 | .inr y6=>some false
def Fa (N:Nat)(aA:A0)(aC:List A4)(aF:List A2)(aG:List A2):Option Bool:=(B6 aG 0).bind fun x1=>(loopN (fun(s2:Int)=>((B6 aG (ar .sub .i64 (Ar.len aG) 1)).bind fun x4=>if cmp .lss s2 x4.At then(Ec N aG s2).bind fun r5=>if nt r5 then(B6 aC s2).bind fun x6=>if cmp .eql x6.Typ aA.Typ then(G4 N aF aG).bind fun r7=>(CT N aC r7 s2).bind fun r8=>(B6 aC s2).bind fun x9=>(Bh N aA.cS r8 aA.Var x9).bind fun r10=>if r10 then some (.inr (.inr ()))else some (.inl (ar .add .i64 s2 1))else some (.inl (ar .add .i64 s2 1))else some (.inl (ar .add .i64 s2 1))else some (.inr (.inl ())):Option ((Int) ⊕ (Unit ⊕ Unit)))) N x1.At).bind fun s3=>match s3 with
 | .inl y11=>some true
 | .inr y12=>some false
def Ds (N:Nat)(aA:A0)(aC:List A4)(aF:List A2)(aG:List A2):Option Bool:=if cmp .eql aA.Op 5 then(Fa N aA aC aF aG).bind fun r1=>some r1 else if cmp .eql aA.Op 6 then(B6 aG (ar .sub .i64 (Ar.len aG) 1)).bind fun x2=>(B6 aC x2.At).bind fun x3=>(B6 aG 0).bind fun x4=>(B6 aC x4.At).bind fun x5=>some (cmp .leq (ar .sub .i64 x3.Time x5.Time) aA.Span)else(G4 N aF aG).bind fun r6=>(CT N aC r6 (Ar.len aC)).bind fun r7=>(Bh N aA.cS r7 (-1) (⟨0,0,0,0,[]⟩:A4)).bind fun r8=>some r8
mutual
def K7 (N:Nat):Nat→A0→List A4→List A2→Int→Option (List (List A2))
 |0,_,_,_,_=>none
 |n+1,aA,aC,aF,aH=>if cmp .eql aA.Op 0 then(Dt N aA aC aF aH).bind fun r1=>some r1 else if cmp .eql aA.Op 1 then(Aa N n aA.cR aC aF aH).bind fun r2=>some r2 else if cmp .eql aA.Op 2 then(Ed N n aA.cR aC aF aH).bind fun r3=>some r3 else if cmp .eql aA.Op 3 then(Ee N n aA.cR aC aF aH).bind fun r4=>some r4 else if cmp .eql aA.Op 4 then(W7 N n aA aC aF aH).bind fun r5=>some r5 else(B6 aA.cR 0).bind fun x6=>(K7 N n x6 aC aF aH).bind fun r7=>(loopN (fun(s8:(List (List A2))×Int)=>(if cmp .lss s8.2 (Ar.len r7)then(B6 r7 s8.2).bind fun x11=>(Ds N aA aC aF x11).bind fun r12=>if r12 then(B6 r7 s8.2).bind fun x13=>(H9 s8.1 ([x13])).bind fun l15=>some (.inl (l15,ar .add .i64 s8.2 1))else some (.inl (s8.1,ar .add .i64 s8.2 1))else some (.inr s8.1):Option (((List (List A2))×Int) ⊕ (((List (List A2))))))) N ([],0)).bind fun s10=>some s10
def Aa (N:Nat):Nat→List A0→List A4→List A2→Int→Option (List (List A2))
 |0,_,_,_,_=>none
 |n+1,aV,aC,aF,aH=>(B6 aV 0).bind fun x1=>(K7 N n x1 aC aF aH).bind fun r2=>if cmp .eql (Ar.len aV) 1 then some r2 else(loopN (fun(s3:(List (List A2))×Int)=>(if cmp .lss s3.2 (Ar.len r2)then(B6 r2 s3.2).bind fun x6=>(J5 aV (some 1) none none).bind fun l7=>(G4 N aF x6).bind fun r9=>(B6 x6 (ar .sub .i64 (Ar.len x6) 1)).bind fun x10=>(Aa N n l7 aC r9 (ar .add .i64 x10.At 1)).bind fun r11=>(loopN (fun(s12:(List (List A2))×Int)=>(if cmp .lss s12.2 (Ar.len r11)then(B6 r11 s12.2).bind fun x15=>(G4 N x6 x15).bind fun r16=>(T4 N s12.1 r16).bind fun l17=>some (.inl (l17,ar .add .i64 s12.2 1))else some (.inr s12.1):Option (((List (List A2))×Int) ⊕ (((List (List A2))))))) N (s3.1,0)).bind fun s14=>some (.inl (s14,ar .add .i64 s3.2 1))else some (.inr s3.1):Option (((List (List A2))×Int) ⊕ (((List (List A2))))))) N ([],0)).bind fun s5=>some s5
def Ed (N:Nat):Nat→List A0→List A4→List A2→Int→Option (List (List A2))
 |0,_,_,_,_=>none
 |n+1,aV,aC,aF,aH=>(loopN (fun(s1:(List (List A2))×Int)=>(if cmp .lss s1.2 (Ar.len aV)then(B6 aV s1.2).bind fun x4=>(K7 N n x4 aC aF aH).bind fun r5=>(loopN (fun(s6:(List (List A2))×Int)=>(if cmp .lss s6.2 (Ar.len r5)then(B6 r5 s6.2).bind fun x9=>(T4 N s6.1 x9).bind fun l10=>some (.inl (l10,ar .add .i64 s6.2 1))else some (.inr s6.1):Option (((List (List A2))×Int) ⊕ (((List (List A2))))))) N (s1.1,0)).bind fun s8=>some (.inl (s8,ar .add .i64 s1.2 1))else some (.inr s1.1):Option (((List (List A2))×Int) ⊕ (((List (List A2))))))) N ([],0)).bind fun s3=>some s3
def Ee (N:Nat):Nat→List A0→List A4→List A2→Int→Option (List (List A2))
 |0,_,_,_,_=>none
 |n+1,aV,aC,aF,aH=>(B6 aV 0).bind fun x1=>(K7 N n x1 aC aF aH).bind fun r2=>(loopN (fun(s3:(List (List A2))×Int)=>(if cmp .lss s3.2 (Ar.len aV)then(B6 aV s3.2).bind fun x5=>(K7 N n x5 aC aF aH).bind fun r6=>(loopN (fun(s7:(List (List A2))×Int)=>(if cmp .lss s7.2 (Ar.len s3.1)then(loopN (fun(s10:(List (List A2))×Int)=>(if cmp .lss s10.2 (Ar.len r6)then(B6 s3.1 s7.2).bind fun x13=>(B6 r6 s10.2).bind fun x14=>(Ck N x13 x14).bind fun r15=>if r15 then(B6 s3.1 s7.2).bind fun x16=>(B6 r6 s10.2).bind fun x17=>(G4 N x16 x17).bind fun r18=>(T4 N s10.1 r18).bind fun l19=>some (.inl (l19,ar .add .i64 s10.2 1))else some (.inl (s10.1,ar .add .i64 s10.2 1))else some (.inr s10.1):Option (((List (List A2))×Int) ⊕ (((List (List A2))))))) N (s7.1,0)).bind fun s12=>some (.inl (s12,ar .add .i64 s7.2 1))else some (.inr s7.1):Option (((List (List A2))×Int) ⊕ (((List (List A2))))))) N ([],0)).bind fun s9=>some (.inl (s9,ar .add .i64 s3.2 1))else some (.inr s3.1):Option (((List (List A2))×Int) ⊕ (((List (List A2))))))) N (r2,1)).bind fun s4=>some s4
def W7 (N:Nat):Nat→A0→List A4→List A2→Int→Option (List (List A2))
 |0,_,_,_,_=>none
 |n+1,aA,aC,aF,aH=>(B6 aA.cR 0).bind fun x1=>(K7 N n x1 aC aF aH).bind fun r2=>(loopN (fun(s3:(List (List A2))×Int)=>(if cmp .lss s3.2 (Ar.len r2)then(B6 r2 s3.2).bind fun x6=>(T4 N s3.1 x6).bind fun l7=>(G4 N aF x6).bind fun r10=>(B6 x6 (ar .sub .i64 (Ar.len x6) 1)).bind fun x11=>(W7 N n aA aC r10 (ar .add .i64 x11.At 1)).bind fun r12=>(loopN (fun(s13:(List (List A2))×Int)=>(if cmp .lss s13.2 (Ar.len r12)then(B6 r12 s13.2).bind fun x16=>(G4 N x6 x16).bind fun r17=>(T4 N s13.1 r17).bind fun l18=>some (.inl (l18,ar .add .i64 s13.2 1))else some (.inr s13.1):Option (((List (List A2))×Int) ⊕ (((List (List A2))))))) N (l7,0)).bind fun s15=>some (.inl (s15,ar .add .i64 s3.2 1))else some (.inr s3.1):Option (((List (List A2))×Int) ⊕ (((List (List A2))))))) N ([],0)).bind fun s5=>some s5
end
def Ai (N:Nat)(aC:List A4)(aG:List A2):Option C4:=(loopN (fun(s3:Int×C4)=>(if cmp .lss s3.1 (Ar.len aG)then(B6 aG s3.1).bind fun x6=>(B6 aG s3.1).bind fun x7=>(B6 aC x7.At).bind fun x8=>(Bu N x8).bind fun r9=>(H9 s3.2.cT ([(⟨x6.Var,r9⟩:D6)])).bind fun l11=>some (.inl (ar .add .i64 s3.1 1,{s3.2 with cT:=l11}))else some (.inr s3.2):Option ((Int×C4) ⊕ (C4)))) N (0,(⟨[]⟩:C4))).bind fun s5=>some s5
def Bt (N:Nat)(aA:A0)(aC:List A4):Option (List C4):=(K7 N N aA aC ([]) 0).bind fun r1=>(loopN (fun(s3:Int×(List C4))=>(if cmp .lss s3.1 (Ar.len r1)then(B6 r1 s3.1).bind fun x6=>(Ai N aC x6).bind fun r7=>(loopN (fun(s8:Int)=>(if cmp .gtr s8 0 then(Rk (SO s3.2 (ar .sub .i64 s8 1))).bind fun _=>(B6 s3.2 (ar .sub .i64 s8 1)).bind fun x10=>(M0 N r7 x10).bind fun r11=>if cmp .lss r11 0 then some (.inl (ar .sub .i64 s8 1))else some (.inr s8)else some (.inr s8):Option ((Int) ⊕ (Int)))) N (Ar.len s3.2)).bind fun s9=>(J5 s3.2 (some s9) none none).bind fun l13=>(H9 [] l13).bind fun l15=>(((J5 s3.2 none (some s9) none).bind fun l98=>(H9 l98 ([r7])).bind fun l218=>(H9 l218 l15).bind fun l298=>some l298):Option (((List C4)))).bind fun s16=>some (.inl (ar .add .i64 s3.1 1,s16))else some (.inr s3.2):Option ((Int×(List C4)) ⊕ (((List C4)))))) N (0,([]:List C4))).bind fun s5=>some s5
def AI (N:Nat)(aA:A0)(aC:List A4):Option ((List C4)×Int):=(Be N aA aC).bind fun r1=>if cmp .neq r1 0 then some ([],r1)else(Bt N aA aC).bind fun r2=>some (r2,0)
def Es (N:Nat) (aD:List C4) (aF:List C4):Option Bool:=if cmp .neq (Ar.len aD) (Ar.len aF)then some false else(loopN (fun(s1:Int)=>(if cmp .lss s1 (Ar.len aD)then(B6 aD s1).bind fun x3=>(B6 aF s1).bind fun x4=>(M0 N x3 x4).bind fun r5=>if cmp .neq r5 0 then some (.inr (.inr ()))else some (.inl (ar .add .i64 s1 1))else some (.inr (.inl ())):Option ((Int) ⊕ (Unit ⊕ Unit)))) N 0).bind fun s2=>match s2 with
  | .inl y6=>some true
  | .inr y7=>some false
end Go.Ab
