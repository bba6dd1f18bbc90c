/- GTSp -/
import Derived.Test.YtanbgjgaafeplaaGreatDoorB10
set_option linter.all false
open Go.Ab.Ar (an ar cmp mx nt scmp wr)
namespace Go.Ab
variable [Ar]
instance :DecidableEq C9:=fun x y=>decidable_of_iff (x.source=y.source∧x.seq=y.seq) (by cases x;cases y;simp)
def R0 (N:Nat):Nat→A1→Option (List A1)
 |0,_=>none
 |n+1,aA=>(loopN (fun(s1:(List A1)×Int)=>(if cmp .lss s1.2 (Ar.len aA.cQ)then(B9 aA.cQ s1.2).bind fun x4=>(R0 N n x4).bind fun r5=>(S1 s1.1 r5).bind fun l7=>some (.inl (l7,ar .add .i64 s1.2 1))else some (.inr s1.1):Option (((List A1)×Int) ⊕ (((List A1)))))) N ([aA],0)).bind fun s3=>some s3
def U1 (N:Nat):Nat→A1→Int→Option Int
 |0,_,_=>none
 |n+1,aA,aW=>(loopN (fun(s1:Int×Int)=>(if an (cmp .lss s1.2 (Ar.len aA.cQ)) (cmp .leq s1.1 aW)then(B9 aA.cQ s1.2).bind fun x3=>(U1 N n x3 aW).bind fun r4=>some (.inl (ar .add .i64 s1.1 r4,ar .add .i64 s1.2 1))else some (.inr s1.1):Option ((Int×Int) ⊕ (Int)))) N (1,0)).bind fun s2=>some s2
def U3 (N:Nat):Nat→A1→Option Int
 |0,_=>none
 |n+1,aA=>(loopN (fun(s1:Int×Int)=>(if cmp .lss s1.2 (Ar.len aA.cQ)then(B9 aA.cQ s1.2).bind fun x3=>(U3 N n x3).bind fun r4=>some (.inl (mx s1.1 r4,ar .add .i64 s1.2 1))else some (.inr s1.1):Option ((Int×Int) ⊕ (Int)))) N (0,0)).bind fun s2=>some (ar .add .i64 s2 1)
def U5 (N:Nat):Nat→A7→Int→Option Int
 |0,_,_=>none
 |n+1,aB,aW=>(loopN (fun(s1:Int×Int)=>(if an (cmp .lss s1.2 (Ar.len aB.cQ)) (cmp .leq s1.1 aW)then(B9 aB.cQ s1.2).bind fun x3=>(U5 N n x3 aW).bind fun r4=>some (.inl (ar .add .i64 s1.1 r4,ar .add .i64 s1.2 1))else some (.inr s1.1):Option ((Int×Int) ⊕ (Int)))) N (1,0)).bind fun s2=>some s2
def U4 (N:Nat):Nat→A7→Option Int
 |0,_=>none
 |n+1,aB=>(loopN (fun(s1:Int×Int)=>(if cmp .lss s1.2 (Ar.len aB.cQ)then(B9 aB.cQ s1.2).bind fun x3=>(U4 N n x3).bind fun r4=>some (.inl (mx s1.1 r4,ar .add .i64 s1.2 1))else some (.inr s1.1):Option ((Int×Int) ⊕ (Int)))) N (0,0)).bind fun s2=>some (ar .add .i64 s2 1)
def BR (N:Nat)(aB:A7):Option Bool:=(U5 N N aB 200).bind fun r1=>if cmp .leq r1 200 then(U4 N N aB).bind fun r2=>some (cmp .leq r2 100)else some false
def Fm (N:Nat) (aA:A1):Option Bool:=(U1 N N aA 150).bind fun r1=>if cmp .gtr r1 150 then some false else(U3 N N aA).bind fun r2=>if cmp .gtr r2 60 then some false else(R0 N N aA).bind fun r3=>(loopN (fun(s4:Int)=>(if cmp .lss s4 (Ar.len r3)then(B9 r3 s4).bind fun x6=>(BR N x6.cS).bind fun r7=>if nt r7 then some (.inr (.inr ()))else some (.inl (ar .add .i64 s4 1))else some (.inr (.inl ())):Option ((Int) ⊕ (Unit ⊕ Unit)))) N 0).bind fun s5=>match s5 with
   | .inl y8=>some true
   | .inr y9=>some false
def T3 (N:Nat):Nat→A1→Option Int
 |0,_=>none
 |n+1,aA=>((if cmp .eql aA.Op 0 then some 1 else some 0):Option (Int)).bind fun s1=>(loopN (fun(s2:Int×Int)=>(if cmp .lss s2.2 (Ar.len aA.cQ)then(B9 aA.cQ s2.2).bind fun x4=>(T3 N n x4).bind fun r5=>some (.inl (ar .add .i64 s2.1 r5,ar .add .i64 s2.2 1))else some (.inr s2.1):Option ((Int×Int) ⊕ (Int)))) N (s1,0)).bind fun s3=>some s3
def BQ (N:Nat)(aX:Int)(aT:Int)(aW:Int):Option Int:=(loopN (fun(s1:Int×Int)=>(if an (cmp .lss s1.2 aT) (cmp .leq s1.1 aW)then some (.inl (ar .mul .i64 s1.1 aX,ar .add .i64 s1.2 1))else some (.inr s1.1):Option ((Int×Int) ⊕ (Int)))) N (1,0)).bind fun s2=>some s2
def Y3 (N:Nat):Nat→A1→Option Bool
 |0,_=>none
 | n+1,aA=>if cmp .eql aA.Op 4 then some true else(loopN (fun(s1:Int)=>(if cmp .lss s1 (Ar.len aA.cQ)then(B9 aA.cQ s1).bind fun x3=>(Y3 N n x3).bind fun r4=>if r4 then some (.inr (.inr ()))else some (.inl (ar .add .i64 s1 1))else some (.inr (.inl ())):Option ((Int) ⊕ (Unit ⊕ Unit)))) N 0).bind fun s2=>match s2 with
   | .inl y5=>some false
   | .inr y6=>some true
def Db (N:Nat) (aA:A1) (aF:List A4):Option Bool:=(Fm N aA).bind fun r1=>if Ar.or (nt r1) (cmp .gtr (Ar.len aF) 10)then some false else(loopN (fun(s2:Int)=>(if cmp .lss s2 (Ar.len aF)then(B9 aF s2).bind fun x4=>if cmp .gtr (Ar.len x4.Values) 9 then some (.inr (.inr ()))else some (.inl (ar .add .i64 s2 1))else some (.inr (.inl ())):Option ((Int) ⊕ (Unit ⊕ Unit)))) N 0).bind fun s3=>match s3 with
  | .inl y5=>(T3 N N aA).bind fun r6=>(BQ N (ar .add .i64 r6 1) (Ar.len aF) 1500).bind fun r7=>if cmp .leq r7 1500 then some true else(Y3 N N aA).bind fun r8=>if nt r8 then(BQ N (Ar.len aF) r6 1500).bind fun r9=>some (cmp .leq r9 1500)else some false
  | .inr y10=>some false
def T5 (N:Nat):Nat→A1→Option (List A1)
 |0,_=>none
 |n+1,aA=>((N3 (some ([aA],())) fun _=>N3 (V4 (fun(s2:Int)=>(if cmp .lss s2 (Ar.len aA.cQ)then(B9 aA.cQ s2).bind fun x8=>(T5 N n x8).bind fun l9=>N3 (some (l9,())) fun _=>some ([],.inl (ar .add .i64 s2 1))else some ([],.inr ()):Option (List A1×((Int) ⊕ (Unit))))) N 0) fun s7=>some ([],())):Option (List A1×Unit)).bind fun q=>some q.1
def Z7 (N:Nat)(aG:A1):Option (List A1):=(((T5 N N aG).bind fun l1=>N3 (some (l1,())) fun _=>some ([],())):Option (List A1×Unit)).bind fun q=>some q.1
def Q2 (N:Nat)(aA:A1):Option (List A1):=Z7 N aA
def T6 (N:Nat):Nat→A1→Option (Int×Int)
 |0,_=>none
 |n+1,aA=>(loopN (fun(s1:Int×Int×Int)=>(if cmp .lss s1.2.2 (Ar.len aA.cQ)then(B9 aA.cQ s1.2.2).bind fun x3=>(T6 N n x3).bind fun r4=>some (.inl (ar .add .i64 s1.1 r4.1,mx s1.2.1 r4.2,ar .add .i64 s1.2.2 1))else some (.inr (s1.1,s1.2.1)):Option ((Int×Int×Int) ⊕ ((Int×Int))))) N (1,0,0)).bind fun s2=>some (s2.1,ar .add .i64 s2.2 1)
def R3 (N:Nat)(bG:Bool)(aT:Int)(bP:Int):Option Bool:=some (Ar.or (nt bG) (an (cmp .geq aT 0) (cmp .leq aT bP)))
def Bg (N:Nat):Nat→A7→Option (Int×Int)
 |0,_=>none
 |n+1,aB=>(loopN (fun(s1:Int×Int×Int)=>(if cmp .lss s1.2.2 (Ar.len aB.cQ)then(B9 aB.cQ s1.2.2).bind fun x3=>(Bg N n x3).bind fun r4=>some (.inl (ar .add .i64 s1.1 r4.1,mx s1.2.1 r4.2,ar .add .i64 s1.2.2 1))else some (.inr (s1.1,s1.2.1)):Option ((Int×Int×Int) ⊕ ((Int×Int))))) N (1,0,0)).bind fun s2=>some (s2.1,ar .add .i64 s2.2 1)
def AS (N:Nat):Nat→A7→(A7→Option Int)→Option Int
 |0,_,_=>none
 | n+1,aB,aS=>(aS aB).bind fun r1=>if cmp .neq r1 0 then some r1 else(loopN (fun(s2:Int)=>(if cmp .lss s2 (Ar.len aB.cQ)then(B9 aB.cQ s2).bind fun x4=>(AS N n x4 aS).bind fun r5=>if cmp .neq r5 0 then some (.inr (.inr r5))else some (.inl (ar .add .i64 s2 1))else some (.inr (.inl ())):Option ((Int) ⊕ (Unit ⊕ Int)))) N 0).bind fun s3=>match s3 with
   | .inl y6=>some 0
   | .inr y7=>some y7
def El (N:Nat)(aP:Int):Option (Int×Bool):=if Ar.or (cmp .lss aP 0) (cmp .gtr aP 12)then some (0,false)else if cmp .lss aP 5 then some (0,true)else if cmp .eql aP 12 then some (1,true)else some (2,true)
def Fy (N:Nat)(aP:Int):Option (Bool×Bool):=((if cmp .eql aP 1 then some true else some (cmp .eql aP 4)):Option (Bool)).bind fun s1=>if s1 then some (true,true)else if cmp .eql aP 2 then some (true,false)else if cmp .eql aP 3 then some (true,false)else some (false,false)
def DU (N:Nat)(aK:A6):Option Int:=if an (cmp .eql aK.Kind 0) (Ar.or (cmp .lss aK.Num (-1099511627776)) (cmp .gtr aK.Num 1099511627776))then some 2 else if an (an (cmp .eql aK.Kind 1) (cmp .neq aK.Num 0)) (cmp .neq aK.Num 1)then some 2 else if cmp .gtr (Ar.slen aK.Text) 64 then some 13 else some 0
def U0 (N:Nat)(aK:A6):Option Int:=((if cmp .eql aK.Kind 0 then some true else some (cmp .eql aK.Kind 1)):Option (Bool)).bind fun s1=>if s1 then if scmp .neq aK.Text (⟨#[]⟩:ByteArray)then some 3 else(DU N aK).bind fun r2=>some r2 else if cmp .eql aK.Kind 2 then if cmp .neq aK.Num 0 then some 3 else(DU N aK).bind fun r3=>some r3 else some 1
def Ek (N:Nat)(aQ:Int)(aK:A6):Option Bool:=some (Ar.or (Ar.or (cmp .eql aK.Kind 0) (cmp .eql aQ 4)) (cmp .eql aQ 5))
def Cm (N:Nat)(aB:A7):Option Int:=(U0 N aB.Value).bind fun r1=>if cmp .neq r1 0 then some r1 else if cmp .eql aB.Op 4 then(Ek N aB.Kind aB.Value).bind fun r2=>if Ar.or (nt r2) (an (cmp .eql aB.Kind 1) (nt (an (cmp .eql aB.Value.Kind 0) (an (cmp .eql aB.Value.Num 0) (an (scmp .eql aB.Value.Text (⟨#[]⟩)) true)))))then some 9 else some 0 else some 0
def DR (N:Nat) (aB:A7):Option Int:=(El N aB.Op).bind fun r1=>if nt r1.2 then some 1 else if cmp .neq (Ar.len aB.cQ) r1.1 then some 15 else(Fy N aB.Op).bind fun r2=>if Ar.or (an r2.1 (Ar.or (cmp .lss aB.Var 0) (cmp .geq aB.Var 16))) (an r2.2 (Ar.or (cmp .lss aB.Field 0) (cmp .geq aB.Field 8)))then some 2 else if an (cmp .eql aB.Op 4) (Ar.or (cmp .lss aB.Kind 1) (cmp .gtr aB.Kind 5))then some 1 else((if Ar.or (cmp .eql aB.Op 4) (cmp .eql aB.Op 0)then(Cm N aB).bind fun r4=>if cmp .neq r4 0 then some (.inr r4)else some (.inl ())else some (.inl ())):Option (Unit ⊕ Int)).bind fun s3=>match s3 with
     | .inl y5=>if Ar.or (Ar.or (Ar.or (an (nt r2.1) (cmp .neq aB.Var 0)) (an (nt r2.2) (cmp .neq aB.Field 0))) (an (nt (cmp .eql aB.Op 4)) (cmp .neq aB.Kind 0))) (an (nt (Ar.or (cmp .eql aB.Op 4) (cmp .eql aB.Op 0))) (nt (an (cmp .eql aB.Value.Kind 0) (an (cmp .eql aB.Value.Num 0) (an (scmp .eql aB.Value.Text (⟨#[]⟩)) true)))))then some 3 else some 0
     | .inr y6=>some y6
def CI (N:Nat)(aB:A7):Option Int:=(Bg N N aB).bind fun r1=>if cmp .gtr r1.1 64 then some 5 else if cmp .gtr r1.2 12 then some 12 else(AS N N aB (fun y1=>DR N y1)).bind fun r2=>some r2
def DS (N:Nat):Nat→A7→A7→Option Bool
 |0,_,_=>none
 | n+1,aC,aD=>if Ar.or (Ar.or (Ar.or (Ar.or (Ar.or (cmp .neq aC.Op aD.Op) (cmp .neq aC.Var aD.Var)) (cmp .neq aC.Field aD.Field)) (cmp .neq aC.Kind aD.Kind)) (nt (an (cmp .eql aC.Value.Kind aD.Value.Kind) (an (cmp .eql aC.Value.Num aD.Value.Num) (an (scmp .eql aC.Value.Text aD.Value.Text) true))))) (cmp .neq (Ar.len aC.cQ) (Ar.len aD.cQ))then some false else(loopN (fun(s1:Int)=>(if cmp .lss s1 (Ar.len aC.cQ)then(B9 aC.cQ s1).bind fun x3=>(B9 aD.cQ s1).bind fun x4=>(DS N n x3 x4).bind fun r5=>if nt r5 then some (.inr (.inr ()))else some (.inl (ar .add .i64 s1 1))else some (.inr (.inl ())):Option ((Int) ⊕ (Unit ⊕ Unit)))) N 0).bind fun s2=>match s2 with
   | .inl y6=>some true
   | .inr y7=>some false
def L5 (N:Nat)(bG:Bool)(aT:Int):Option Bool:=some (Ar.or bG (cmp .eql aT 0))
def Q5 (N:Nat) (aA:A1):Option Int:=if Ar.or (cmp .lss aA.Op 0) (cmp .geq aA.Op 11)then some 1 else(B9 F5 aA.Op).bind fun x1=>if Ar.or (cmp .lss (Ar.len aA.cQ) x1.cX) (cmp .gtr (Ar.len aA.cQ) x1.most)then some 15 else(R3 N x1.cT aA.Typ 15).bind fun r2=>if nt r2 then some 2 else(R3 N x1.cT aA.Var 15).bind fun r3=>if nt r3 then some 2 else(R3 N x1.scope aA.cU 63).bind fun r4=>if nt r4 then some 2 else(R3 N x1.span aA.Span 1099511627776).bind fun r5=>if nt r5 then some 2 else((if x1.cond then(CI N aA.cS).bind fun r7=>if cmp .neq r7 0 then some (.inr r7)else some (.inl ())else some (.inl ())):Option (Unit ⊕ Int)).bind fun s6=>match s6 with
       | .inl y8=>if nt x1.cond then(DS N N aA.cS (⟨0,[],0,0,0,(⟨0,0,⟨#[]⟩⟩:A6)⟩:A7)).bind fun r9=>if nt r9 then some 3 else(L5 N x1.cT aA.Typ).bind fun r10=>if nt r10 then some 3 else(L5 N x1.cT aA.Var).bind fun r11=>if nt r11 then some 3 else(L5 N x1.scope aA.cU).bind fun r12=>if nt r12 then some 3 else(L5 N x1.span aA.Span).bind fun r13=>if nt r13 then some 3 else some 0 else(L5 N x1.cT aA.Typ).bind fun r14=>if nt r14 then some 3 else(L5 N x1.cT aA.Var).bind fun r15=>if nt r15 then some 3 else(L5 N x1.scope aA.cU).bind fun r16=>if nt r16 then some 3 else(L5 N x1.span aA.Span).bind fun r17=>if nt r17 then some 3 else some 0
       | .inr y18=>some y18
def W5 (N:Nat) (aA:A1):Option Int:=(T6 N N aA).bind fun r2=>if cmp .gtr r2.1 64 then some 5 else if cmp .gtr r2.2 12 then some 12 else(Q2 N aA).bind fun r3=>(H7 (fun(s6:Unit) (y5:A1)=>((Q5 N y5).bind fun r10=>if cmp .neq r10 0 then some (.inr r10)else some (.inl ()):Option ((Unit) ⊕ (Int)))) r3 ()).bind fun o9=>match o9 with
   | .inl s13=>some 0
   | .inr y14=>some y14
def Bw (N:Nat) (aA:A1):Option Int:=(W5 N aA).bind fun r2=>if cmp .neq r2 0 then some r2 else(Q2 N aA).bind fun r3=>(H7 (fun(s6:Unit) (y5:A1)=>(if cmp .geq y5.Op 8 then some (.inr 1)else some (.inl ()):Option ((Unit) ⊕ (Int)))) r3 ()).bind fun o9=>match o9 with
  | .inl s12=>some 0
  | .inr y13=>some y13
def Bx (N:Nat)(aA:A1):Option (Int×Int×Bool):=(Q2 N aA).bind fun r4=>(H7 (fun(s7:Bool×Int×Int) (y6:A1)=>((B9 F5 y6.Op).bind fun x11=>((if x11.cT then some (an s7.1 (cmp .eql y6.Var s7.2.2),ar .add .i64 s7.2.2 1)else some (s7.1,s7.2.2)):Option ((Bool×Int))).bind fun s12=>if x11.scope then some (.inl (an s12.1 (cmp .eql y6.cU s7.2.1),ar .add .i64 s7.2.1 1,s12.2))else some (.inl (s12.1,s7.2.1,s12.2)):Option ((Bool×Int×Int) ⊕ (Unit)))) r4 (true,0,0)).bind fun o10=>match o10 with
 | .inl s15=>some (s15.2.2,s15.2.1,s15.1)
 | .inr _=>none
def As (N:Nat)(aA:A1):Option Int:=(Bw N aA).bind fun r1=>if cmp .neq r1 0 then some r1 else(Bx N aA).bind fun r2=>if nt r2.2.2 then some 14 else some 0
def Av (N:Nat)(aB:A4):Option Af:=some (⟨aB.Time,aB.Source,aB.Seq⟩:Af)
def E1 (N:Nat)(bN:List D6)(bR:List D6)(cA:D6→D6→Option Int):Option Int:=(loopN (fun(s1:Int)=>(if cmp .lss s1 (Ar.len bN)then(B9 bN s1).bind fun x3=>if cmp .geq s1 (Ar.len bR)then some (.inr (.inr 1))else(B9 bR s1).bind fun x5=>(cA x3 x5).bind fun r6=>if cmp .neq r6 0 then some (.inr (.inr r6))else some (.inl (ar .add .i64 s1 1))else some (.inr (.inl ())):Option ((Int) ⊕ (Unit ⊕ Int)))) N 0).bind fun s2=>match s2 with
 | .inl y7=>if cmp .lss (Ar.len bN) (Ar.len bR)then some (-1)else some 0
 | .inr y8=>some y8
def BN (N:Nat)(bS:List Int):Option Int:=(loopN (fun(s1:Int)=>(if cmp .lss s1 (Ar.len bS)then(B9 bS s1).bind fun x3=>if cmp .neq x3 0 then some (.inr (.inr x3))else some (.inl (ar .add .i64 s1 1))else some (.inr (.inl ())):Option ((Int) ⊕ (Unit ⊕ Int)))) N 0).bind fun s2=>match s2 with
 | .inl y4=>some 0
 | .inr y5=>some y5
def BC (N:Nat)(aM:Int):Option Bool:=some (cmp .neq aM aM)
def J2 (N:Nat)(aM:Int)(bB:Int):Option Int:=(BC N aM).bind fun r1=>(BC N bB).bind fun r2=>if r1 then if r2 then some 0 else some (-1)else if r2 then some 1 else if cmp .lss aM bB then some (-1)else if cmp .gtr aM bB then some 1 else some 0
def Ea (N:Nat)(aC:Af)(aD:Af):Option Int:=(J2 N aC.Time aD.Time).bind fun r1=>(J2 N aC.Source aD.Source).bind fun r2=>(J2 N aC.Seq aD.Seq).bind fun r3=>(BN N ([r1,r2,r3])).bind fun r4=>some r4
def W1 (N:Nat)(aM:D6)(bB:D6):Option Int:=(Ea N aM.Ref bB.Ref).bind fun r1=>(J2 N aM.Var bB.Var).bind fun r2=>(BN N ([r1,r2])).bind fun r3=>some r3
def X3 (N:Nat)(aC:B6)(aD:B6):Option Int:=(E1 N aC.cR aD.cR (fun y1 y2=>W1 N y1 y2)).bind fun r1=>some r1
def CS (N:Nat)(aB:A4):Option Bool:=some (an (an (an (an (an (cmp .geq aB.Time 0) (cmp .leq aB.Time 1099511627776)) (cmp .geq aB.Source 0)) (cmp .lss aB.Source 8)) (cmp .geq aB.Seq 0)) (cmp .leq aB.Seq 1099511627776))
def BB (N:Nat)(aC:A4)(aD:A4):Option Int:=(Av N aC).bind fun r1=>(Av N aD).bind fun r2=>if an (cmp .eql r1.Time r2.Time) (an (cmp .eql r1.Source r2.Source) (an (cmp .eql r1.Seq r2.Seq) true))then some 0 else(J2 N aC.Time aD.Time).bind fun r3=>(J2 N aC.Source aD.Source).bind fun r4=>(J2 N aC.Seq aD.Seq).bind fun r5=>(BN N ([r3,r4,r5])).bind fun r6=>some r6
def CB (N:Nat)(aB:A4):Option C9:=some (⟨aB.Source,aB.Seq⟩:C9)
def AZ (N:Nat) (aF:List A4):Option Int:=if cmp .gtr (Ar.len aF) 4096 then some 5 else(loopN (fun(s3:Int×(List (C9×Bool)))=>(if cmp .lss s3.1 (Ar.len aF)then(B9 aF s3.1).bind fun x6=>(CS N x6).bind fun r8=>if nt r8 then some (.inr (.inr (2,s3.2)))else if cmp .gtr s3.1 0 then(B9 aF (ar .sub .i64 s3.1 1)).bind fun x9=>(BB N x9 x6).bind fun r10=>if cmp .geq r10 0 then some (.inr (.inr (14,s3.2)))else(CB N x6).bind fun r11=>(ID s3.2 r11 (false:Bool)).bind fun r12=>if r12.1 then some (.inr (.inr (7,s3.2)))else(CB N x6).bind fun r13=>(HI s3.2 r13 true).bind fun l15=>some (.inl (ar .add .i64 s3.1 1,l15))else(CB N x6).bind fun r16=>(ID s3.2 r16 (false:Bool)).bind fun r17=>if r17.1 then some (.inr (.inr (7,s3.2)))else(CB N x6).bind fun r18=>(HI s3.2 r18 true).bind fun l20=>some (.inl (ar .add .i64 s3.1 1,l20))else some (.inr (.inl s3.2)):Option ((Int×(List (C9×Bool))) ⊕ (((List (C9×Bool))) ⊕ (Int×(List (C9×Bool))))))) N (0,([]:List (C9×Bool)))).bind fun s5=>match s5 with
  | .inl y21=>some 0
  | .inr y23=>some y23.1
def AA (N:Nat):Option Unit:=some ()
def EX (N:Nat)(aV:Int):Option ByteArray:=LD aV
def U9 (N:Nat)(aZ:List Int)(aV:Int)(aX:Int):Option (List Int):=if cmp .eql aX 10 then if cmp .lss aV 100 then(EX N (wr .i64 aV)).bind fun r1=>(S1 aZ (Ka r1)).bind fun l3=>some l3 else none else none
def X8 (N:Nat)(aZ:List Int)(aV:Int)(aX:Int):Option (List Int):=if cmp .lss aV 0 then(S1 aZ ([45])).bind fun l2=>(U9 N l2 (Ar.neg .u64 (wr .u64 aV)) aX).bind fun l3=>some l3 else(U9 N aZ (wr .u64 aV) aX).bind fun l5=>some l5
def F4 (N:Nat)(aZ:List Int)(aV:Int)(aX:Int):Option (List Int):=(X8 N aZ aV aX).bind fun l1=>some l1
def M4 (N:Nat)(aH:List A0):Option ByteArray:=(loopN (fun(s2:Int×(List Int))=>(if cmp .lss s2.1 (Ar.len aH)then(B9 aH s2.1).bind fun x5=>(F4 N s2.2 x5.cV 10).bind fun l6=>(((S1 l6 ([64])).bind fun l90=>(F4 N l90 x5.at_ 10).bind fun l209=>(S1 l209 ([32])).bind fun l290=>some l290):Option (((List Int)))).bind fun s8=>some (.inl (ar .add .i64 s2.1 1,s8))else some (.inr s2.2):Option ((Int×(List Int)) ⊕ (((List Int)))))) N (0,([]:List Int))).bind fun s4=>(Ud s4).bind fun r411=>some r411
def O5 (N:Nat)(aT:Int):Option A6:=some (⟨0,aT,⟨#[]⟩⟩:A6)
def AJ (N:Nat)(aC:Int)(aD:Int)(aJ:Int→Option A6):Option A6:=(aJ (ar .add .i64 aC aD)).bind fun r2=>some r2
def AI (N:Nat)(aC:Int)(aD:Int)(aJ:Int→Option A6):Option A6:=(aJ (ar .sub .i64 aC aD)).bind fun r2=>some r2
def FH (N:Nat)(aD:Bool):Option A6:=if aD then some (⟨1,1,⟨#[]⟩⟩:A6)else some (⟨1,0,⟨#[]⟩⟩:A6)
def Y9 (N:Nat)(aD:Bool):Option A6:=(FH N aD).bind fun r2=>some r2
def AH (N:Nat)(aC:Int)(aD:Int):Option A6:=(Y9 N (cmp .lss aC aD)).bind fun r2=>some r2
def AF (N:Nat)(aC:Int)(aD:Int):Option A6:=(Y9 N (cmp .leq aC aD)).bind fun r2=>some r2
def AE (N:Nat)(aC:Int)(aD:Int):Option A6:=(Y9 N (an (cmp .eql aC 1) (cmp .eql aD 1))).bind fun r2=>some r2
def AD (N:Nat)(aC:Int)(aD:Int):Option A6:=(Y9 N (Ar.or (cmp .eql aC 1) (cmp .eql aD 1))).bind fun r2=>some r2
def AC (N:Nat)(aC:Int)(aG:Int):Option A6:=(Y9 N (cmp .neq aC 1)).bind fun r2=>some r2
def Gl (N:Nat):Option Unit:=some ()
def M7 (N:Nat)(aM:O9)(aK:Int):Option (List A4):=if Ar.or (cmp .lss aK 0) (cmp .geq aK (Ar.len aM.env.cZ))then some ([])else(B9 aM.env.cZ aK).bind fun x1=>some x1
def Ac (N:Nat)(aB:A4)(bJ:Int):Option (A6×Int):=if cmp .geq bJ (Ar.len aB.Values)then some ((⟨0,0,⟨#[]⟩⟩:A6),6)else(B9 aB.Values bJ).bind fun x2=>some (x2,0)
def W2 (N:Nat)(aQ:Int):Option Bool:=some (an (cmp .geq aQ 0) (cmp .leq aQ 5))
def S6 (N:Nat)(aQ:Int)(aK:A6):Option Bool:=some (Ar.or (cmp .eql aK.Kind 0) (an (an (cmp .neq aQ 1) (cmp .neq aQ 2)) (cmp .neq aQ 3)))
def N0 (N:Nat)(aQ:Int)(aK:A6):Option Int:=(U0 N aK).bind fun r1=>if cmp .neq r1 0 then some r1 else(S6 N aQ aK).bind fun r2=>if nt r2 then some 9 else some 0
def F9 (N:Nat)(cB:C8)(aF:List A6)(cC:C8→A6→Option C8):Option C8:=(loopN (fun(s3:Int×C8)=>(if cmp .lss s3.1 (Ar.len aF)then(B9 aF s3.1).bind fun x5=>(cC s3.2 x5).bind fun r6=>some (.inl (ar .add .i64 s3.1 1,r6))else some (.inr s3.2):Option ((Int×C8) ⊕ (C8)))) N (0,cB)).bind fun s4=>some s4
def Bt (N:Nat):Option A6:=some (⟨0,0,⟨#[]⟩⟩:A6)
def Bs (N:Nat)(aY:A6)(aG:A6):Option A6:=some (⟨0,ar .add .i64 aY.Num aG.Num,⟨#[]⟩⟩:A6)
def Br (N:Nat)(aY:A6)(aG:A6):Option A6:=some (⟨0,Ar.mn aY.Num aG.Num,⟨#[]⟩⟩:A6)
def Bq (N:Nat)(aY:A6)(aG:A6):Option A6:=some (⟨0,mx aY.Num aG.Num,⟨#[]⟩⟩:A6)
def Bp (N:Nat)(aY:A6):Option A6:=some aY
def Bo (N:Nat)(aY:A6):Option A6:=some aY
def X0 (N:Nat)(aQ:Int)(aC:A6)(aD:A6):Option A6:=if cmp .eql aQ 0 then(Bt N).bind fun r2=>some r2 else if cmp .eql aQ 1 then(Bs N aC aD).bind fun r3=>some r3 else if cmp .eql aQ 2 then(Br N aC aD).bind fun r4=>some r4 else if cmp .eql aQ 3 then(Bq N aC aD).bind fun r5=>some r5 else if cmp .eql aQ 4 then(Bp N aC).bind fun r6=>some r6 else if cmp .eql aQ 5 then(Bo N aD).bind fun r7=>some r7 else none
def Bi (N:Nat)(aC:C8)(aD:C8):Option C8:=if cmp .eql aC.Count 0 then some aD else if cmp .eql aD.Count 0 then some aC else(X0 N aC.Kind aC.Value aD.Value).bind fun r2=>some (⟨aC.Kind,ar .add .i64 aC.Count aD.Count,r2⟩:C8)
def Z1 (N:Nat)(aQ:Int)(aK:A6):Option A6:=if cmp .eql aQ 0 then some (⟨0,0,⟨#[]⟩⟩:A6)else some aK
def M9 (N:Nat)(aC:C8)(aK:A6)(aJ:Int):Option C8:=(Z1 N aJ aK).bind fun r2=>(Bi N aC (⟨aJ,1,r2⟩:C8)).bind fun r3=>some r3
def Am (N:Nat)(aC:C8):Option Int:=(W2 N aC.Kind).bind fun r1=>if nt r1 then some 1 else if Ar.or (cmp .lss aC.Count 0) (cmp .gtr aC.Count 4096)then some 2 else if Ar.or (cmp .eql aC.Count 0) (cmp .eql aC.Kind 0)then if nt (an (cmp .eql aC.Value.Kind 0) (an (cmp .eql aC.Value.Num 0) (an (scmp .eql aC.Value.Text (⟨#[]⟩)) true)))then some 3 else some 0 else if cmp .eql aC.Kind 1 then if nt (an (an (an (cmp .eql aC.Value.Kind 0) (scmp .eql aC.Value.Text (⟨#[]⟩:ByteArray))) (cmp .geq aC.Value.Num (Ar.neg .i64 (ar .mul .i64 aC.Count 1099511627776)))) (cmp .leq aC.Value.Num (ar .mul .i64 aC.Count 1099511627776)))then some 3 else some 0 else(U0 N aC.Value).bind fun r2=>if cmp .eql r2 0 then(S6 N aC.Kind aC.Value).bind fun r3=>if nt r3 then some 3 else some 0 else some 3
def Bj (N:Nat)(aC:C8)(bH:A6):Option (A6×Int):=(Am N aC).bind fun r2=>if cmp .neq r2 0 then some ((⟨0,0,⟨#[]⟩⟩:A6),r2)else(N0 N aC.Kind bH).bind fun r3=>if cmp .neq r3 0 then some ((⟨0,0,⟨#[]⟩⟩:A6),r3)else if cmp .eql aC.Kind 0 then some ((⟨0,aC.Count,⟨#[]⟩⟩:A6),0)else if an (cmp .eql aC.Count 0) (cmp .neq aC.Kind 1)then some (bH,0)else some (aC.Value,0)
def Cu (N:Nat) (aQ:Int) (aF:List A6) (bH:A6):Option (A6×Int):=(W2 N aQ).bind fun r2=>if nt r2 then some ((⟨0,0,⟨#[]⟩⟩:A6),1)else if cmp .gtr (Ar.len aF) 4096 then some ((⟨0,0,⟨#[]⟩⟩:A6),5)else(loopN (fun(s3:Int)=>(if cmp .lss s3 (Ar.len aF)then(B9 aF s3).bind fun x5=>(N0 N aQ x5).bind fun r6=>if cmp .neq r6 0 then some (.inr (.inr r6))else some (.inl (ar .add .i64 s3 1))else some (.inr (.inl ())):Option ((Int) ⊕ (Unit ⊕ Int)))) N 0).bind fun s4=>match s4 with
   | .inl y7=>(F9 N (⟨aQ,0,(⟨0,0,⟨#[]⟩⟩:A6)⟩:C8) aF (fun y1 y2=>M9 N y1 y2 aQ)).bind fun r8=>(Bj N r8 bH).bind fun r9=>some (r9.1,r9.2)
   | .inr y10=>some ((⟨0,0,⟨#[]⟩⟩:A6),y10)
def R6 (N:Nat)(aM:O9)(aB:A7):Option (A6×Int):=(M7 N aM aB.Var).bind fun r2=>(loopN (fun(s3:(List A6)×Int)=>(if cmp .lss s3.2 (Ar.len r2)then(B9 r2 s3.2).bind fun x6=>(Ac N x6 aB.Field).bind fun r7=>if cmp .neq r7.2 0 then some (.inr (.inr r7.2))else(S1 s3.1 ([r7.1])).bind fun l9=>some (.inl (l9,ar .add .i64 s3.2 1))else some (.inr (.inl s3.1)):Option (((List A6)×Int) ⊕ (((List A6)) ⊕ Int)))) N ([],0)).bind fun s5=>match s5 with
 | .inl y10=>(Cu N aB.Kind y10 aB.Value).bind fun r12=>some (r12.1,r12.2)
 | .inr y13=>some ((⟨0,0,⟨#[]⟩⟩:A6),y13)
def S9 (N:Nat) (aM:O9) (aB:A7):Option (A6×Int):=(M7 N aM aB.Var).bind fun r2=>if cmp .eql aB.Op 0 then some (aB.Value,0)else if cmp .eql aB.Op 3 then some ((⟨0,Ar.len r2,⟨#[]⟩⟩:A6),0)else if cmp .eql aB.Op 4 then(R6 N aM aB).bind fun r3=>some (r3.1,r3.2)else((if cmp .neq aB.Var aM.own then if cmp .eql (Ar.len r2) 0 then some (.inr ())else(B9 r2 (ar .sub .i64 (Ar.len r2) 1)).bind fun x6=>some (.inl x6)else some (.inl aM.event)):Option (A4 ⊕ Unit)).bind fun s5=>match s5 with
    | .inl y7=>if cmp .eql aB.Op 2 then some ((⟨0,y7.Time,⟨#[]⟩⟩:A6),0)else(Ac N y7 aB.Field).bind fun r8=>((if cmp .eql r8.2 0 then(U0 N r8.1).bind fun r10=>some r10 else some r8.2):Option (Int)).bind fun s9=>if cmp .neq s9 0 then some ((⟨0,0,⟨#[]⟩⟩:A6),s9)else some (r8.1,0)
    | .inr y11=>some ((⟨0,0,⟨#[]⟩⟩:A6),10)
def BA (N:Nat)(aP:Int)(bE:List Int):Option Int:=(loopN (fun(s1:Int)=>(if cmp .lss s1 (Ar.len bE)then(B9 bE s1).bind fun x3=>((if cmp .eql aP 5 then some true else if cmp .eql aP 6 then some true else if cmp .eql aP 7 then some true else some (cmp .eql aP 8)):Option (Bool)).bind fun s4=>if s4 then if nt (cmp .eql x3 0)then some (.inr (.inr ()))else some (.inl (ar .add .i64 s1 1))else((if cmp .eql aP 10 then some true else if cmp .eql aP 11 then some true else some (cmp .eql aP 12)):Option (Bool)).bind fun s5=>if s5 then if nt (cmp .eql x3 1)then some (.inr (.inr ()))else some (.inl (ar .add .i64 s1 1))else if cmp .eql aP 9 then(B9 bE 0).bind fun x6=>if nt (cmp .eql x3 x6)then some (.inr (.inr ()))else some (.inl (ar .add .i64 s1 1))else some (.inl (ar .add .i64 s1 1))else some (.inr (.inl ())):Option ((Int) ⊕ (Unit ⊕ Unit)))) N 0).bind fun s2=>match s2 with
 | .inl y7=>some 0
 | .inr y8=>some 9
def H8 (N:Nat):Nat→O9→A7→Option (A6×Int)
 |0,_,_=>none
 | n+1,aM,aB=>if cmp .eql (Ar.len aB.cQ) 0 then(S9 N aM aB).bind fun r2=>some (r2.1,r2.2)else(loopN (fun(s3:(List A6)×(List Int)×Int)=>(if cmp .lss s3.2.2 (Ar.len aB.cQ)then(B9 aB.cQ s3.2.2).bind fun x7=>(H8 N n aM x7).bind fun r8=>if cmp .neq r8.2 0 then some (.inr (.inr r8.2))else(S1 s3.1 ([r8.1])).bind fun l9=>(S1 s3.2.1 ([r8.1.Kind])).bind fun l12=>some (.inl (l9,l12,ar .add .i64 s3.2.2 1))else some (.inr (.inl (s3.1,s3.2.1))):Option (((List A6)×(List Int)×Int) ⊕ (((List A6)×(List Int)) ⊕ Int)))) N ([],[],0)).bind fun s6=>match s6 with
   | .inl y13=>(BA N aB.Op y13.2).bind fun r16=>if cmp .neq r16 0 then some ((⟨0,0,⟨#[]⟩⟩:A6),r16)else if cmp .eql aB.Op 9 then(B9 y13.1 0).bind fun x17=>(B9 y13.1 1).bind fun x18=>(Y9 N (an (cmp .eql x17.Kind x18.Kind) (an (cmp .eql x17.Num x18.Num) (an (scmp .eql x17.Text x18.Text) true)))).bind fun r19=>some (r19,0)else if cmp .eql aB.Op 5 then(B9 y13.1 0).bind fun x20=>(B9 y13.1 (ar .sub .i64 (Ar.len y13.1) 1)).bind fun x21=>(AJ N x20.Num x21.Num (fun y1=>O5 N y1)).bind fun r22=>some (r22,0)else if cmp .eql aB.Op 6 then(B9 y13.1 0).bind fun x23=>(B9 y13.1 (ar .sub .i64 (Ar.len y13.1) 1)).bind fun x24=>(AI N x23.Num x24.Num (fun y1=>O5 N y1)).bind fun r25=>some (r25,0)else if cmp .eql aB.Op 7 then(B9 y13.1 0).bind fun x26=>(B9 y13.1 (ar .sub .i64 (Ar.len y13.1) 1)).bind fun x27=>(AH N x26.Num x27.Num).bind fun r28=>some (r28,0)else if cmp .eql aB.Op 8 then(B9 y13.1 0).bind fun x29=>(B9 y13.1 (ar .sub .i64 (Ar.len y13.1) 1)).bind fun x30=>(AF N x29.Num x30.Num).bind fun r31=>some (r31,0)else if cmp .eql aB.Op 10 then(B9 y13.1 0).bind fun x32=>(B9 y13.1 (ar .sub .i64 (Ar.len y13.1) 1)).bind fun x33=>(AE N x32.Num x33.Num).bind fun r34=>some (r34,0)else if cmp .eql aB.Op 11 then(B9 y13.1 0).bind fun x35=>(B9 y13.1 (ar .sub .i64 (Ar.len y13.1) 1)).bind fun x36=>(AD N x35.Num x36.Num).bind fun r37=>some (r37,0)else if cmp .eql aB.Op 12 then(B9 y13.1 0).bind fun x38=>(B9 y13.1 (ar .sub .i64 (Ar.len y13.1) 1)).bind fun x39=>(AC N x38.Num x39.Num).bind fun r40=>some (r40,0)else(B9 y13.1 0).bind fun x41=>(B9 y13.1 (ar .sub .i64 (Ar.len y13.1) 1)).bind fun x42=>none
   | .inr y43=>some ((⟨0,0,⟨#[]⟩⟩:A6),y43)
def Fz (N:Nat)(aB:A7)(bL:DK)(bC:Int)(bM:A4):Option (A6×Int):=(CI N aB).bind fun r2=>if cmp .neq r2 0 then some ((⟨0,0,⟨#[]⟩⟩:A6),r2)else(((H8 N N (⟨bL,bC,bM,()⟩:O9) aB).bind fun r244=>some (r244.2,r244.1)):Option ((Int×A6))).bind fun s3=>some (s3.2,s3.1)
def CH (N:Nat)(aB:A7)(bL:DK)(bC:Int)(bM:A4):Option Bool:=(Fz N aB bL bC bM).bind fun r1=>if cmp .eql r1.2 0 then(Y9 N true).bind fun r2=>some (an (cmp .eql r1.1.Kind r2.Kind) (an (cmp .eql r1.1.Num r2.Num) (an (scmp .eql r1.1.Text r2.Text) true)))else some false
def O7 (N:Nat)(aI:A8)(aH:List A0)(bY:Int):Option DK:=(WQ 16 16 ([]:List A4)).bind fun l3=>(loopN (fun(s5:Int×(List (List A4)))=>(if cmp .lss s5.1 (Ar.len aH)then(B9 aH s5.1).bind fun x8=>if cmp .lss x8.at_ bY then(B9 s5.2 x8.cV).bind fun x9=>(B9 aI.cY x8.at_).bind fun x14=>(S1 x9 ([x14])).bind fun l15=>(HG s5.2 x8.cV (fun _=>l15)).bind fun l13=>some (.inl (ar .add .i64 s5.1 1,l13))else some (.inl (ar .add .i64 s5.1 1,s5.2))else some (.inr s5.2):Option ((Int×(List (List A4))) ⊕ (((List (List A4))))))) N (0,l3)).bind fun s7=>some (⟨s7⟩:DK)
def G5 (N:Nat)(aI:A8)(bO:A7)(aH:List A0)(bC:Int)(bF:Int):Option Bool:=(O7 N aI aH bF).bind fun r1=>(B9 aI.cY bF).bind fun x2=>(CH N bO r1 bC x2).bind fun r3=>some r3
def S3 (N:Nat)(aG:Int)(aJ:A8)(aN:A1)(aR:List A0):Option (List (List A0)):=((N3 (V4 (fun(s1:Int)=>(if cmp .lss s1 (Ar.len aJ.cY)then(B9 aJ.cY s1).bind fun x7=>if cmp .eql x7.Typ aN.Typ then(G5 N aJ aN.cS aR aN.Var s1).bind fun r8=>if r8 then N3 (some ([[(⟨aN.Var,s1⟩:A0)]],())) fun _=>some ([],.inl (ar .add .i64 s1 1))else some ([],.inl (ar .add .i64 s1 1))else some ([],.inl (ar .add .i64 s1 1))else some ([],.inr ()):Option (List (List A0)×((Int) ⊕ (Unit))))) N aG) fun s6=>some ([],())):Option (List (List A0)×Unit)).bind fun q=>some q.1
def K0 (N:Nat)(aI:A8)(aA:A1)(aL:List A0)(aO:Int):Option (List (List A0)):=S3 N aO aI aA aL
def E6 (N:Nat)(aG:List (List A0)):Option (List (List A0)):=((N3 (V4 (fun(s1:Int)=>(if cmp .lss s1 (Ar.len aG)then(B9 aG s1).bind fun x7=>N3 (some ([x7],())) fun _=>some ([],.inl (ar .add .i64 s1 1))else some ([],.inr ()):Option (List (List A0)×((Int) ⊕ (Unit))))) N 0) fun s6=>some ([],())):Option (List (List A0)×Unit)).bind fun q=>some q.1
def N6 (N:Nat)(aH:List (List A0)):Option (List (List A0)):=E6 N aH
def Ba (N:Nat)(aM:A0)(bB:A0):Option Int:=some (ar .sub .i64 aM.at_ bB.at_)
def L4 (N:Nat)(aC:List A0)(aD:List A0):Option (List A0):=(WQ 0 (ar .add .i64 (Ar.len aC) (Ar.len aD)) ((⟨0,0⟩:A0):A0)).bind fun l2=>(S1 l2 aC).bind fun l4=>(S1 l4 aD).bind fun l6=>(Gg (fun y1 y2=>Ba N y1 y2) l6).bind fun l7=>some l7
def K7 (N:Nat)(aH:List A0):Option Int:=(B9 aH (ar .sub .i64 (Ar.len aH) 1)).bind fun x1=>some x1.at_
def N7 (N:Nat)(aH:List A0)(aS:A0→Option Bool):Option Int:=(loopN (fun(s1:Int)=>(if cmp .lss s1 (Ar.len aH)then(B9 aH s1).bind fun x3=>(aS x3).bind fun r4=>if r4 then some (.inr (.inr s1))else some (.inl (ar .add .i64 s1 1))else some (.inr (.inl ())):Option ((Int) ⊕ (Unit ⊕ Int)))) N 0).bind fun s2=>match s2 with
 | .inl y5=>some (-1)
 | .inr y6=>some y6
def G1 (N:Nat)(aH:List A0)(aS:A0→Option Bool):Option Bool:=(N7 N aH aS).bind fun r1=>some (cmp .geq r1 0)
def S7 (N:Nat)(aM:A0)(aG:Int):Option Bool:=some (cmp .eql aM.at_ aG)
def S2 (N:Nat)(aH:List A0)(bF:Int):Option Bool:=(G1 N aH (fun y1=>S7 N y1 bF)).bind fun r1=>some r1
def W3 (N:Nat)(aM:A0)(aG:List A0):Option Bool:=(S2 N aG aM.at_).bind fun r1=>some r1
def Ag (N:Nat)(aC:List A0)(aD:List A0):Option Bool:=(G1 N aC (fun y1=>W3 N y1 aD)).bind fun r1=>some r1
def S4 (N:Nat):Nat→List (List (List A0))→List A0→Option (List (List A0))
 |0,_,_=>none
 |n+1,bQ,bK=>((if cmp .eql (Ar.len bQ) 0 then N3 (some ([bK],())) fun _=>some ([],())else(B9 bQ 0).bind fun x2=>N3 (V4 (fun(s3:Int)=>(if cmp .lss s3 (Ar.len x2)then(B9 x2 s3).bind fun x9=>(Ag N bK x9).bind fun r10=>if nt r10 then(Y2 bQ (some 1) none none).bind fun l11=>(L4 N bK x9).bind fun r13=>(S4 N n l11 r13).bind fun l14=>N3 (some (l14,())) fun _=>some ([],.inl (ar .add .i64 s3 1))else some ([],.inl (ar .add .i64 s3 1))else some ([],.inr ()):Option (List (List A0)×((Int) ⊕ (Unit))))) N 0) fun s8=>some ([],())):Option (List (List A0)×Unit)).bind fun q=>some q.1
def P4 (N:Nat) (aI:A8) (aA:A1) (aL:List A0) (aH:List A0):Option Bool:=if cmp .eql aA.Op 6 then(K7 N aH).bind fun r1=>(B9 aI.cY r1).bind fun x2=>(B9 aH 0).bind fun x3=>(B9 aI.cY x3.at_).bind fun x4=>some (cmp .leq (ar .sub .i64 x2.Time x4.Time) aA.Span)else if cmp .eql aA.Op 7 then(L4 N aL aH).bind fun r5=>(O7 N aI r5 (Ar.len aI.cY)).bind fun r6=>(CH N aA.cS r6 (-1) (⟨0,0,0,0,[]⟩:A4)).bind fun r7=>some r7 else(L4 N aL aH).bind fun r8=>(B9 aH 0).bind fun x9=>(loopN (fun(s10:Int)=>((K7 N aH).bind fun r12=>if cmp .lss s10 r12 then(B9 aI.cY s10).bind fun x13=>if cmp .eql x13.Typ aA.Typ then(S2 N aH s10).bind fun r14=>if nt r14 then(G5 N aI aA.cS r8 aA.Var s10).bind fun r15=>if r15 then some (.inr (.inr ()))else some (.inl (ar .add .i64 s10 1))else some (.inl (ar .add .i64 s10 1))else some (.inl (ar .add .i64 s10 1))else some (.inr (.inl ())):Option ((Int) ⊕ (Unit ⊕ Unit)))) N (ar .add .i64 x9.at_ 1)).bind fun s11=>match s11 with
   | .inl y16=>some true
   | .inr y17=>some false
mutual
def C3 (N:Nat):Nat→A8→A1→List A0→Int→Option (List (List A0))
 |0,_,_,_,_=>none
 |n+1,aI,aA,aL,aO=>(AA N).bind fun r5=>(B9 ([fun y1 y2 y3 y4=>K0 N y1 y2 y3 y4,fun y1 y2 y3 y4=>L7 N n y1 y2 y3 y4,fun y1 y2 y3 y4=>L8 N n y1 y2 y3 y4,fun y1 y2 y3 y4=>L9 N n y1 y2 y3 y4,fun y1 y2 y3 y4=>K9 N n y1 y2 y3 y4,fun y1 y2 y3 y4=>E8 N n y1 y2 y3 y4,fun y1 y2 y3 y4=>E8 N n y1 y2 y3 y4,fun y1 y2 y3 y4=>E8 N n y1 y2 y3 y4]:List (A8→A1→(List A0)→Int→Option (List (List A0)))) aA.Op).bind fun f7=>(f7 aI aA aL aO).bind fun r8=>(H7 (fun(s11:(List (ByteArray×Bool))×(List (List A0))) (y10:(List A0))=>((M4 N y10).bind fun r17=>(ID s11.1 r17 (false:Bool)).bind fun r18=>if r18.1 then some (.inl (s11.1,s11.2))else(HI s11.1 r17 true).bind fun l20=>(S1 s11.2 ([y10])).bind fun l22=>((if cmp .gtr (Ar.len l22) 4096 then none else some ()):Option (Unit)).bind fun s23=>if aI.full then some (.inr (l20,l22))else some (.inl (l20,l22)):Option (((List (ByteArray×Bool))×(List (List A0))) ⊕ (((List (ByteArray×Bool))×(List (List A0))))))) r8 (([]:List (ByteArray×Bool)),[])).bind fun o16=>match o16 with
  | .inl s28=>some s28.2
  | .inr y31=>some ([])
def L7 (N:Nat):Nat→A8→A1→List A0→Int→Option (List (List A0))
 |0,_,_,_,_=>none
 |n+1,aI,aA,aL,aO=>if cmp .eql (Ar.len aA.cQ) 1 then(B9 aA.cQ 0).bind fun x1=>(C3 N n aI x1 aL aO).bind fun r2=>(N6 N r2).bind fun r3=>some r3 else(Y2 aA.cQ (some 1) none none).bind fun l6=>(B9 aA.cQ 0).bind fun x8=>(K8 N n aI x8 aL aO (fun y1 y2=>J9 N n y1 y2 aI ({aA with cQ:=l6}))).bind fun r9=>some r9
def L8 (N:Nat):Nat→A8→A1→List A0→Int→Option (List (List A0))
 |0,_,_,_,_=>none
 |n+1,aI,aA,aL,aO=>P5 N n aA aI aL aO
def L9 (N:Nat):Nat→A8→A1→List A0→Int→Option (List (List A0))
 |0,_,_,_,_=>none
 |n+1,aI,aA,aL,aO=>P6 N n aA aI aL aO
def K9 (N:Nat):Nat→A8→A1→List A0→Int→Option (List (List A0))
 |0,_,_,_,_=>none
 |n+1,aI,aA,aL,aO=>O0 N n aI aA aL aO
def E8 (N:Nat):Nat→A8→A1→List A0→Int→Option (List (List A0))
 |0,_,_,_,_=>none
 |n+1,aI,aA,aL,aO=>N9 N n aI aA aL aO
def K8 (N:Nat):Nat→A8→A1→List A0→Int→((List A0)→Int→Option (List (List A0)))→Option (List (List A0))
 |0,_,_,_,_,_=>none
 |n+1,aI,aA,aL,aO,bT=>N8 N n aI aA aL aO bT
def J9 (N:Nat):Nat→List A0→Int→A8→A1→Option (List (List A0))
 |0,_,_,_,_=>none
 |n+1,aL,aO,aJ,aN=>(C3 N n aJ aN aL aO).bind fun r1=>some r1
def P5 (N:Nat):Nat→A1→A8→List A0→Int→Option (List (List A0))
 |0,_,_,_,_=>none
 |n+1,aG,aJ,aN,aR=>((N3 (V4 (fun(s1:Int)=>(if cmp .lss s1 (Ar.len aG.cQ)then(B9 aG.cQ s1).bind fun x7=>(C3 N n aJ x7 aN aR).bind fun r8=>N3 (V4 (fun(s9:Int)=>(if cmp .lss s9 (Ar.len r8)then(B9 r8 s9).bind fun x15=>N3 (some ([x15],())) fun _=>some ([],.inl (ar .add .i64 s9 1))else some ([],.inr ()):Option (List (List A0)×((Int) ⊕ (Unit))))) N 0) fun s14=>some ([],.inl (ar .add .i64 s1 1))else some ([],.inr ()):Option (List (List A0)×((Int) ⊕ (Unit))))) N 0) fun s6=>some ([],())):Option (List (List A0)×Unit)).bind fun q=>some q.1
def P6 (N:Nat):Nat→A1→A8→List A0→Int→Option (List (List A0))
 |0,_,_,_,_=>none
 |n+1,aG,aJ,aN,aR=>((N3 (V4 (fun(s1:(List (List (List A0)))×Int)=>(if cmp .lss s1.2 (Ar.len aG.cQ)then(B9 aG.cQ s1.2).bind fun x8=>(C3 N n aJ x8 aN aR).bind fun r9=>(S1 s1.1 ([r9])).bind fun l11=>some ([],.inl (l11,ar .add .i64 s1.2 1))else some ([],.inr s1.1):Option (List (List A0)×(((List (List (List A0)))×Int) ⊕ (((List (List (List A0))))))))) N ([],0)) fun s7=>if nt aJ.full then(S4 N N s7 ([])).bind fun l13=>N3 (some (l13,())) fun _=>some ([],())else some ([],())):Option (List (List A0)×Unit)).bind fun q=>some q.1
def O0 (N:Nat):Nat→A8→A1→List A0→Int→Option (List (List A0))
 |0,_,_,_,_=>none
 | n+1,aG,aJ,aN,aR=>(((B9 aJ.cQ 0).bind fun x1=>(C3 N n aG x1 aN aR).bind fun r2=>N3 (V4 (fun(s3:Int)=>(if cmp .lss s3 (Ar.len r2)then(B9 r2 s3).bind fun x9=>if aG.full then some ([],.inr (.inr ()))else N3 (some ([x9],())) fun _=>some ([],.inl (ar .add .i64 s3 1))else some ([],.inr (.inl ())):Option (List (List A0)×((Int) ⊕ (Unit ⊕ Unit))))) N 0) fun s8=>match s8 with
   | .inl y11=>(B9 aJ.cQ 0).bind fun x12=>(K8 N n aG x12 aN aR (fun y1 y2=>G8 N n y1 y2 aG aJ)).bind fun r13=>N3 (Bl (fun(_:Unit) (y15:(List A0))=>(N3 (some ([y15],())) fun _=>some ([],.inl ()):Option (List (List A0)×(Unit ⊕ Unit)))) r13 ()) fun o22=>match o22 with
    | .inl _=>some ([],())
    | .inr _=>none
   | .inr y25=>some ([],())):Option (List (List A0)×Unit)).bind fun q=>some q.1
def G8 (N:Nat):Nat→List A0→Int→A8→A1→Option (List (List A0))
 |0,_,_,_,_=>none
 |n+1,aL,aO,aJ,aN=>(C3 N n aJ aN aL aO).bind fun r1=>some r1
def N9 (N:Nat):Nat→A8→A1→List A0→Int→Option (List (List A0))
 |0,_,_,_,_=>none
 |n+1,aG,aJ,aN,aR=>(((B9 aJ.cQ 0).bind fun x1=>(C3 N n aG x1 aN aR).bind fun r2=>N3 (V4 (fun(s3:Int)=>(if cmp .lss s3 (Ar.len r2)then(B9 r2 s3).bind fun x9=>(P4 N aG aJ aN x9).bind fun r10=>if r10 then N3 (some ([x9],())) fun _=>some ([],.inl (ar .add .i64 s3 1))else some ([],.inl (ar .add .i64 s3 1))else some ([],.inr ()):Option (List (List A0)×((Int) ⊕ (Unit))))) N 0) fun s8=>some ([],())):Option (List (List A0)×Unit)).bind fun q=>some q.1
def N8 (N:Nat):Nat→A8→A1→List A0→Int→((List A0)→Int→Option (List (List A0)))→Option (List (List A0))
 |0,_,_,_,_,_=>none
 | n + 1,aG,aJ,aN,aR,bV=>(((C3 N n aG aJ aN aR).bind fun r1=>N3 (V4 (fun(s2:Int)=>(if cmp .lss s2 (Ar.len r1)then(B9 r1 s2).bind fun x8=>(L4 N aN x8).bind fun r9=>(K7 N x8).bind fun r10=>(bV r9 (ar .add .i64 r10 1)).bind fun r11=>N3 (V4 (fun(s12:Int)=>(if cmp .lss s12 (Ar.len r11)then(B9 r11 s12).bind fun x18=>if aG.full then some ([],.inr (.inr ()))else(L4 N x8 x18).bind fun r19=>N3 (some ([r19],())) fun _=>some ([],.inl (ar .add .i64 s12 1))else some ([],.inr (.inl ())):Option (List (List A0)×((Int) ⊕ (Unit ⊕ Unit))))) N 0) fun s17=>match s17 with
       | .inl y21=>some ([],.inl (ar .add .i64 s2 1))
       | .inr y22=>some ([],.inr (.inr ()))else some ([],.inr (.inl ())):Option (List (List A0)×((Int) ⊕ (Unit ⊕ Unit))))) N 0) fun s7=>match s7 with
   | .inl y23=>some ([],())
   | .inr y24=>some ([],())):Option (List (List A0)×Unit)).bind fun q=>some q.1
end
def I7 (N:Nat)(aA:A1)(aF:List A4):Option ((List B6)×Int):=(As N aA).bind fun r1=>if cmp .neq r1 0 then some ([],r1)else(AZ N aF).bind fun r2=>if cmp .neq r2 0 then some ([],r2)else(C3 N N (⟨aF,false⟩:A8) aA ([]) 0).bind fun r3=>(loopN (fun(s5:Int×(List B6))=>(if cmp .lss s5.1 (Ar.len r3)then(B9 r3 s5.1).bind fun x8=>(loopN (fun(s10:Int×B6)=>(if cmp .lss s10.1 (Ar.len x8)then(B9 x8 s10.1).bind fun x13=>(B9 aF x13.at_).bind fun x14=>(Av N x14).bind fun r15=>(S1 s10.2.cR ([(⟨x13.cV,r15⟩:D6)])).bind fun l17=>some (.inl (ar .add .i64 s10.1 1,{s10.2 with cR:=l17}))else some (.inr s10.2):Option ((Int×B6) ⊕ (B6)))) N (0,(⟨[]⟩:B6))).bind fun s12=>(S1 s5.2 ([s12])).bind fun l20=>some (.inl (ar .add .i64 s5.1 1,l20))else some (.inr s5.2):Option ((Int×(List B6)) ⊕ (((List B6)))))) N (0,([]:List B6))).bind fun s7=>(Gg (fun y1 y2=>X3 N y1 y2) s7).bind fun l22=>some (l22,0)
def W4 (N:Nat)(aA:A1)(aF:List A4):Option ((List B6)×Int):=(I7 N aA aF).bind fun r1=>some (r1.1,r1.2)
def Ds (N:Nat)(aA:A1)(aF:List A4):Option (Int×Int):=(I7 N aA aF).bind fun r1=>some (Ar.len r1.1,r1.2)
def Dr (N:Nat)(aA:A1)(aF:List A4):Option (B6×Bool×Int):=(I7 N aA aF).bind fun r2=>if Ar.or (cmp .neq r2.2 0) (cmp .eql (Ar.len r2.1) 0)then some ((⟨[]⟩:B6),false,r2.2)else(B9 r2.1 0).bind fun x3=>some (x3,true,0)
def FQ (N:Nat)(aM:List Int):Option (List A4):=(loopN (fun(s1:(List A4)×Int)=>(if cmp .lss s1.2 (Ar.len aM)then(B9 aM s1.2).bind fun x4=>(S1 s1.1 ([(⟨0,s1.2,0,ar .add .i64 s1.2 1,[(⟨0,x4,⟨#[]⟩⟩:A6)]⟩:A4)])).bind fun l6=>some (.inl (l6,ar .add .i64 s1.2 1))else some (.inr s1.1):Option (((List A4)×Int) ⊕ (((List A4)))))) N ([],0)).bind fun s3=>some s3
def BJ (N:Nat)(aP:Int)(cD:List A1):Option A1:=some (⟨aP,cD,0,0,0,0,(⟨0,[],0,0,0,(⟨0,0,⟨#[]⟩⟩:A6)⟩:A7)⟩:A1)
def Be (N:Nat)(aK:Int)(bO:A7):Option A1:=some (⟨0,[],0,aK,0,0,bO⟩:A1)
def Im (N:Nat)(aD:Bool):Option A6:=if aD then some (⟨1,1,⟨#[]⟩⟩:A6)else some (⟨1,0,⟨#[]⟩⟩:A6)
def Fu (N:Nat):Option A7:=(Im N true).bind fun r2=>some (⟨0,[],0,0,0,r2⟩:A7)
def BK (N:Nat)(aC:A7)(aD:A7):Option A7:=some (⟨7,[aC,aD],0,0,0,(⟨0,0,⟨#[]⟩⟩:A6)⟩:A7)
def Z4 (N:Nat)(aK:Int):Option A7:=some (⟨1,[],aK,0,0,(⟨0,0,⟨#[]⟩⟩:A6)⟩:A7)
def Bf (N:Nat)(aT:Int):Option A7:=some (⟨0,[],0,0,0,(⟨0,aT,⟨#[]⟩⟩:A6)⟩:A7)
def BV (N:Nat):Option Bool:=(FQ N ([5,3,8,5])).bind fun r1=>(Fu N).bind fun r2=>(Be N 0 r2).bind fun r3=>(Z4 N 0).bind fun r4=>(Z4 N 1).bind fun r5=>(BK N r4 r5).bind fun r6=>(Be N 1 r6).bind fun r7=>(BJ N 1 ([r3,r7])).bind fun r8=>(Fu N).bind fun r9=>(Be N 1 r9).bind fun r10=>(Fu N).bind fun r11=>(Be N 2 r11).bind fun r12=>(BJ N 1 ([r10,r12])).bind fun r13=>(BJ N 5 ([r13])).bind fun r14=>(Bf N 6).bind fun r16=>(Z4 N 0).bind fun r17=>(BK N r16 r17).bind fun r18=>(Z4 N 0).bind fun r19=>(Bf N 6).bind fun r20=>(BK N r19 r20).bind fun r21=>(Be N 0 r21).bind fun r22=>(BJ N 4 ([r22])).bind fun r23=>(Bf N 4).bind fun r24=>(Z4 N 0).bind fun r25=>(BK N r24 r25).bind fun r26=>(Be N 0 r26).bind fun r27=>(Z4 N 1).bind fun r28=>(Bf N 6).bind fun r29=>(BK N r28 r29).bind fun r30=>(Be N 1 r30).bind fun r31=>(BJ N 3 ([r27,r31])).bind fun r32=>(loopN (fun(s33:Int)=>(if cmp .lss s33 5 then(B9 ([r8,(⟨6,[r8],0,0,0,1,(⟨0,[],0,0,0,(⟨0,0,⟨#[]⟩⟩:A6)⟩:A7)⟩:A1),{r14 with cS:=r18},r23,r32]) s33).bind fun x35=>(Ds N x35 r1).bind fun r37=>(W4 N x35 r1).bind fun r38=>if Ar.or (cmp .neq r37.2 0) (cmp .neq r38.2 0)then some (.inr (.inr ()))else(B9 ([3,1,4,7,7]) s33).bind fun x39=>if Ar.or (cmp .neq r37.1 x39) (cmp .neq (Ar.len r38.1) r37.1)then some (.inr (.inr ()))else some (.inl (ar .add .i64 s33 1))else some (.inr (.inl ())):Option ((Int) ⊕ (Unit ⊕ Unit)))) N 0).bind fun s34=>match s34 with
 | .inl y40=>(Dr N r8 r1).bind fun r41=>if an (an (cmp .eql r41.2.2 0) r41.2.1) (cmp .eql (Ar.len r41.1.cR) 2)then(B9 r41.1.cR 1).bind fun x42=>some (an (cmp .eql x42.Var 1) (an (cmp .eql x42.Ref.Time 3) (an (cmp .eql x42.Ref.Source 0) (an (cmp .eql x42.Ref.Seq 2) true))))else some false
 | .inr y43=>some false
def X1 (N:Nat)(aA:A1):Option Bool:=some (Ar.or (cmp .eql aA.Op 5) (cmp .eql aA.Op 9))
def V2 (N:Nat)(aA:A1):Option Bool:=if cmp .eql aA.Op 0 then some true else(X1 N aA).bind fun r1=>some r1
def U2 (N:Nat)(aA:A1):Option Bool:=some (Ar.or (cmp .eql aA.Op 6) (cmp .eql aA.Op 10))
def Q1 (N:Nat):Nat→A7→A7→Option Bool
 |0,_,_=>none
 | n+1,aC,aD=>if Ar.or (Ar.or (Ar.or (Ar.or (Ar.or (cmp .neq aC.Op aD.Op) (cmp .neq aC.Var aD.Var)) (cmp .neq aC.Field aD.Field)) (cmp .neq aC.Kind aD.Kind)) (nt (an (cmp .eql aC.Value.Kind aD.Value.Kind) (an (cmp .eql aC.Value.Num aD.Value.Num) (an (scmp .eql aC.Value.Text aD.Value.Text) true))))) (cmp .neq (Ar.len aC.cQ) (Ar.len aD.cQ))then some false else(loopN (fun(s1:Int)=>(if cmp .lss s1 (Ar.len aC.cQ)then(B9 aC.cQ s1).bind fun x3=>(B9 aD.cQ s1).bind fun x4=>(Q1 N n x3 x4).bind fun r5=>if nt r5 then some (.inr (.inr ()))else some (.inl (ar .add .i64 s1 1))else some (.inr (.inl ())):Option ((Int) ⊕ (Unit ⊕ Unit)))) N 0).bind fun s2=>match s2 with
   | .inl y6=>some true
   | .inr y7=>some false
def Ah (N:Nat)(aA:A1):Option Bool:=(V2 N aA).bind fun r1=>some (Ar.or r1 (cmp .eql aA.Op 7))
def DW (N:Nat)(aP:Int):Option (Bool×Bool):=some (Ar.or (Ar.or (Ar.or (cmp .eql aP 1) (cmp .eql aP 4)) (cmp .eql aP 2)) (cmp .eql aP 3),Ar.or (cmp .eql aP 1) (cmp .eql aP 4))
def Dj (N:Nat)(aK:A6):Option Int:=if Ar.or (cmp .lss aK.Kind 0) (cmp .gtr aK.Kind 2)then some 1 else if cmp .eql aK.Kind 2 then if cmp .neq aK.Num 0 then some 3 else if cmp .gtr (Ar.slen aK.Text) 64 then some 13 else some 0 else if scmp .neq aK.Text (⟨#[]⟩:ByteArray)then some 3 else if Ar.or (Ar.or (an (cmp .eql aK.Kind 1) (Ar.or (cmp .lss aK.Num 0) (cmp .gtr aK.Num 1))) (cmp .lss aK.Num (-1099511627776))) (cmp .gtr aK.Num 1099511627776)then some 2 else some 0
def Dg (N:Nat)(aP:Int):Option Int:=((if cmp .eql aP 0 then some true else if cmp .eql aP 1 then some true else if cmp .eql aP 2 then some true else if cmp .eql aP 3 then some true else some (cmp .eql aP 4)):Option (Bool)).bind fun s1=>if s1 then some 0 else if cmp .eql aP 12 then some 1 else if cmp .eql aP 5 then some 2 else if cmp .eql aP 6 then some 2 else if cmp .eql aP 7 then some 2 else if cmp .eql aP 8 then some 2 else if cmp .eql aP 9 then some 2 else if cmp .eql aP 10 then some 2 else if cmp .eql aP 11 then some 2 else some (-1)
def Dh (N:Nat)(bJ:Int)(aK:A6):Option Bool:=some (Ar.or (Ar.or (Ar.or (cmp .eql aK.Kind 0) (cmp .eql bJ 0)) (cmp .eql bJ 4)) (cmp .eql bJ 5))
def CD (N:Nat) (aB:A7):Option Int:=(Dg N aB.Op).bind fun r1=>if cmp .lss r1 0 then some 1 else if cmp .neq (Ar.len aB.cQ) r1 then some 15 else(DW N aB.Op).bind fun r2=>if Ar.or (an r2.1 (Ar.or (cmp .lss aB.Var 0) (cmp .geq aB.Var 16))) (an r2.2 (Ar.or (cmp .lss aB.Field 0) (cmp .geq aB.Field 8)))then some 2 else if an (cmp .eql aB.Op 4) (Ar.or (cmp .lss aB.Kind 1) (cmp .gtr aB.Kind 5))then some 1 else((if Ar.or (cmp .eql aB.Op 4) (cmp .eql aB.Op 0)then(Dj N aB.Value).bind fun r4=>if cmp .neq r4 0 then some (.inr r4)else some (.inl ())else some (.inl ())):Option (Unit ⊕ Int)).bind fun s3=>match s3 with
     | .inl y5=>if cmp .eql aB.Op 4 then(Dh N aB.Kind aB.Value).bind fun r6=>if Ar.or (nt r6) (an (cmp .eql aB.Kind 1) (nt (an (cmp .eql aB.Value.Kind 0) (an (cmp .eql aB.Value.Num 0) (an (scmp .eql aB.Value.Text (⟨#[]⟩)) true)))))then some 9 else if Ar.or (Ar.or (Ar.or (an (nt r2.1) (cmp .neq aB.Var 0)) (an (nt r2.2) (cmp .neq aB.Field 0))) (an (nt (cmp .eql aB.Op 4)) (cmp .neq aB.Kind 0))) (an (nt (Ar.or (cmp .eql aB.Op 4) (cmp .eql aB.Op 0))) (nt (an (cmp .eql aB.Value.Kind 0) (an (cmp .eql aB.Value.Num 0) (an (scmp .eql aB.Value.Text (⟨#[]⟩)) true)))))then some 3 else some 0 else if Ar.or (Ar.or (Ar.or (an (nt r2.1) (cmp .neq aB.Var 0)) (an (nt r2.2) (cmp .neq aB.Field 0))) (an (nt (cmp .eql aB.Op 4)) (cmp .neq aB.Kind 0))) (an (nt (Ar.or (cmp .eql aB.Op 4) (cmp .eql aB.Op 0))) (nt (an (cmp .eql aB.Value.Kind 0) (an (cmp .eql aB.Value.Num 0) (an (scmp .eql aB.Value.Text (⟨#[]⟩)) true)))))then some 3 else some 0
     | .inr y7=>some y7
def Z3 (N:Nat):Nat→A7→Option Int
 |0,_=>none
 | n+1,aB=>(CD N aB).bind fun r1=>if cmp .neq r1 0 then some r1 else(loopN (fun(s2:Int)=>(if cmp .lss s2 (Ar.len aB.cQ)then(B9 aB.cQ s2).bind fun x4=>(Z3 N n x4).bind fun r5=>if cmp .neq r5 0 then some (.inr (.inr r5))else some (.inl (ar .add .i64 s2 1))else some (.inr (.inl ())):Option ((Int) ⊕ (Unit ⊕ Int)))) N 0).bind fun s3=>match s3 with
   | .inl y6=>some 0
   | .inr y7=>some y7
def BS (N:Nat)(aB:A7):Option Int:=(U5 N N aB 64).bind fun r1=>if cmp .gtr r1 64 then some 5 else(U4 N N aB).bind fun r2=>if cmp .gtr r2 12 then some 12 else(Z3 N N aB).bind fun r3=>some r3
def De (N:Nat)(aA:A1):Option Bool:=if cmp .eql aA.Op 0 then some (cmp .eql (Ar.len aA.cQ) 0)else((if cmp .eql aA.Op 1 then some true else if cmp .eql aA.Op 2 then some true else some (cmp .eql aA.Op 3)):Option (Bool)).bind fun s1=>if s1 then some (cmp .geq (Ar.len aA.cQ) 2)else if cmp .eql aA.Op 8 then some (cmp .eql (Ar.len aA.cQ) 2)else some (cmp .eql (Ar.len aA.cQ) 1)
def Y4 (N:Nat)(bG:Bool)(aT:Int)(bP:Int):Option Bool:=some (an bG (Ar.or (cmp .lss aT 0) (cmp .gtr aT bP)))
def V3 (N:Nat) (aA:A1):Option Int:=if Ar.or (cmp .lss aA.Op 0) (cmp .gtr aA.Op 10)then some 1 else(De N aA).bind fun r1=>if nt r1 then some 15 else(V2 N aA).bind fun r2=>(X1 N aA).bind fun r3=>if r3 then(Ah N aA).bind fun r4=>(Y4 N r2 aA.Typ 15).bind fun r5=>if r5 then some 2 else(Y4 N r2 aA.Var 15).bind fun r6=>if r6 then some 2 else(Y4 N true aA.cU 63).bind fun r7=>if r7 then some 2 else(U2 N aA).bind fun r8=>(Y4 N r8 aA.Span 1099511627776).bind fun r9=>if r9 then some 2 else((if r4 then(BS N aA.cS).bind fun r11=>if cmp .neq r11 0 then some (.inr r11)else some (.inl ())else some (.inl ())):Option (Unit ⊕ Int)).bind fun s10=>match s10 with
        | .inl y12=>if Ar.or (an (nt r2) (Ar.or (cmp .neq aA.Typ 0) (cmp .neq aA.Var 0))) (an (nt true) (cmp .neq aA.cU 0))then some 3 else(U2 N aA).bind fun r13=>if an (nt r13) (cmp .neq aA.Span 0)then some 3 else if nt r4 then(Q1 N N aA.cS (⟨0,[],0,0,0,(⟨0,0,⟨#[]⟩⟩:A6)⟩:A7)).bind fun r14=>if nt r14 then some 3 else some 0 else some 0
        | .inr y15=>some y15 else(U2 N aA).bind fun r16=>(Ah N aA).bind fun r17=>(Y4 N r2 aA.Typ 15).bind fun r18=>if r18 then some 2 else(Y4 N r2 aA.Var 15).bind fun r19=>if r19 then some 2 else(Y4 N r16 aA.cU 63).bind fun r20=>if r20 then some 2 else(U2 N aA).bind fun r21=>(Y4 N r21 aA.Span 1099511627776).bind fun r22=>if r22 then some 2 else((if r17 then(BS N aA.cS).bind fun r24=>if cmp .neq r24 0 then some (.inr r24)else some (.inl ())else some (.inl ())):Option (Unit ⊕ Int)).bind fun s23=>match s23 with
        | .inl y25=>if Ar.or (an (nt r2) (Ar.or (cmp .neq aA.Typ 0) (cmp .neq aA.Var 0))) (an (nt r16) (cmp .neq aA.cU 0))then some 3 else(U2 N aA).bind fun r26=>if an (nt r26) (cmp .neq aA.Span 0)then some 3 else if nt r17 then(Q1 N N aA.cS (⟨0,[],0,0,0,(⟨0,0,⟨#[]⟩⟩:A6)⟩:A7)).bind fun r27=>if nt r27 then some 3 else some 0 else some 0
        | .inr y28=>some y28
def Ai (N:Nat) (aA:A1):Option Int:=(U1 N N aA 64).bind fun r1=>if cmp .gtr r1 64 then some 5 else(U3 N N aA).bind fun r2=>if cmp .gtr r2 12 then some 12 else(R0 N N aA).bind fun r3=>(loopN (fun(s4:Int)=>(if cmp .lss s4 (Ar.len r3)then(B9 r3 s4).bind fun x6=>(V3 N x6).bind fun r7=>if cmp .neq r7 0 then some (.inr (.inr r7))else some (.inl (ar .add .i64 s4 1))else some (.inr (.inl ())):Option ((Int) ⊕ (Unit ⊕ Int)))) N 0).bind fun s5=>match s5 with
   | .inl y8=>some 0
   | .inr y9=>some y9
def Ce (N:Nat)(aF:List A1):Option Bool:=(loopN (fun(s1:Int)=>(if cmp .lss s1 (Ar.len aF)then(B9 aF s1).bind fun x3=>if cmp .geq x3.Op 8 then some (.inr (.inr ()))else some (.inl (ar .add .i64 s1 1))else some (.inr (.inl ())):Option ((Int) ⊕ (Unit ⊕ Unit)))) N 0).bind fun s2=>match s2 with
 | .inl y4=>some true
 | .inr y5=>some false
def Df (N:Nat) (aA:A1):Option Int:=(Ai N aA).bind fun r1=>if cmp .neq r1 0 then some r1 else(R0 N N aA).bind fun r2=>(Ce N r2).bind fun r3=>if nt r3 then some 1 else(loopN (fun(s4:Int×Int×Int)=>(if cmp .lss s4.2.2 (Ar.len r2)then(B9 r2 s4.2.2).bind fun x6=>(V2 N x6).bind fun r7=>((if r7 then(B9 r2 s4.2.2).bind fun x9=>if cmp .neq x9.Var s4.1 then some (.inr ())else some (.inl (ar .add .i64 s4.1 1))else some (.inl s4.1)):Option (Int ⊕ Unit)).bind fun s8=>match s8 with
       | .inl y10=>(B9 r2 s4.2.2).bind fun x11=>(X1 N x11).bind fun r12=>if r12 then(B9 r2 s4.2.2).bind fun x13=>if cmp .neq x13.cU s4.2.1 then some (.inr (.inr ()))else some (.inl (y10,ar .add .i64 s4.2.1 1,ar .add .i64 s4.2.2 1))else(B9 r2 s4.2.2).bind fun x14=>(U2 N x14).bind fun r15=>if r15 then(B9 r2 s4.2.2).bind fun x16=>if cmp .neq x16.cU s4.2.1 then some (.inr (.inr ()))else some (.inl (y10,ar .add .i64 s4.2.1 1,ar .add .i64 s4.2.2 1))else some (.inl (y10,s4.2.1,ar .add .i64 s4.2.2 1))
       | .inr y17=>some (.inr (.inr ()))else some (.inr (.inl ())):Option ((Int×Int×Int) ⊕ (Unit ⊕ Unit)))) N (0,0,0)).bind fun s5=>match s5 with
   | .inl y18=>some 0
   | .inr y19=>some 14
def Aq (N:Nat)(aB:A4):Option Af:=some (⟨aB.Time,aB.Source,aB.Seq⟩:Af)
def BT (N:Nat)(aC:Af)(aD:Af):Option Int:=if cmp .neq aC.Time aD.Time then if cmp .lss aC.Time aD.Time then some (-1)else some 1 else if cmp .neq aC.Source aD.Source then if cmp .lss aC.Source aD.Source then some (-1)else some 1 else if cmp .lss aC.Seq aD.Seq then some (-1)else if cmp .gtr aC.Seq aD.Seq then some 1 else some 0
def DF (N:Nat)(aB:A4):Option Bool:=some (an (an (an (an (an (cmp .geq aB.Time 0) (cmp .leq aB.Time 1099511627776)) (cmp .geq aB.Source 0)) (cmp .lss aB.Source 8)) (cmp .geq aB.Seq 0)) (cmp .leq aB.Seq 1099511627776))
def CE (N:Nat)(aC:A4)(aD:A4):Option Bool:=some (an (cmp .eql aC.Source aD.Source) (cmp .eql aC.Seq aD.Seq))
def Di (N:Nat) (aF:List A4):Option Int:=if cmp .gtr (Ar.len aF) 4096 then some 5 else(loopN (fun(s1:Int)=>(if cmp .lss s1 (Ar.len aF)then(B9 aF s1).bind fun x3=>(DF N x3).bind fun r4=>if nt r4 then some (.inr (.inr 2))else if cmp .gtr s1 0 then(B9 aF (ar .sub .i64 s1 1)).bind fun x5=>(Aq N x5).bind fun r6=>(B9 aF s1).bind fun x7=>(Aq N x7).bind fun r8=>(BT N r6 r8).bind fun r9=>if cmp .geq r9 0 then some (.inr (.inr 14))else(loopN (fun(s10:Int)=>(if cmp .lss s10 s1 then(B9 aF s10).bind fun x12=>(B9 aF s1).bind fun x13=>(CE N x12 x13).bind fun r14=>if r14 then some (.inr (.inr ()))else some (.inl (ar .add .i64 s10 1))else some (.inr (.inl ())):Option ((Int) ⊕ (Unit ⊕ Unit)))) N 0).bind fun s11=>match s11 with
         | .inl y15=>some (.inl (ar .add .i64 s1 1))
         | .inr y16=>some (.inr (.inr 7))else(loopN (fun(s17:Int)=>(if cmp .lss s17 s1 then(B9 aF s17).bind fun x19=>(B9 aF s1).bind fun x20=>(CE N x19 x20).bind fun r21=>if r21 then some (.inr (.inr ()))else some (.inl (ar .add .i64 s17 1))else some (.inr (.inl ())):Option ((Int) ⊕ (Unit ⊕ Unit)))) N 0).bind fun s18=>match s18 with
        | .inl y22=>some (.inl (ar .add .i64 s1 1))
        | .inr y23=>some (.inr (.inr 7))else some (.inr (.inl ())):Option ((Int) ⊕ (Unit ⊕ Int)))) N 0).bind fun s2=>match s2 with
  | .inl y24=>some 0
  | .inr y25=>some y25
def EB (N:Nat)(aA:A1)(aF:List A4):Option Int:=(Df N aA).bind fun r1=>if cmp .neq r1 0 then some r1 else(Di N aF).bind fun r2=>some r2
def Dd (N:Nat)(aC:D6)(aD:D6):Option Int:=(BT N aC.Ref aD.Ref).bind fun r1=>if cmp .neq r1 0 then some r1 else if cmp .lss aC.Var aD.Var then some (-1)else if cmp .gtr aC.Var aD.Var then some 1 else some 0
def Ap (N:Nat)(aC:B6)(aD:B6):Option Int:=(loopN (fun(s1:Int)=>(if an (cmp .lss s1 (Ar.len aC.cR)) (cmp .lss s1 (Ar.len aD.cR))then(B9 aC.cR s1).bind fun x3=>(B9 aD.cR s1).bind fun x4=>(Dd N x3 x4).bind fun r5=>if cmp .neq r5 0 then some (.inr (.inr r5))else some (.inl (ar .add .i64 s1 1))else some (.inr (.inl ())):Option ((Int) ⊕ (Unit ⊕ Int)))) N 0).bind fun s2=>match s2 with
 | .inl y6=>if cmp .lss (Ar.len aC.cR) (Ar.len aD.cR)then some (-1)else if cmp .gtr (Ar.len aC.cR) (Ar.len aD.cR)then some 1 else some 0
 | .inr y7=>some y7
def CC (N:Nat) (aC:List B6) (aD:List B6):Option Bool:=if cmp .neq (Ar.len aC) (Ar.len aD)then some false else(loopN (fun(s1:Int)=>(if cmp .lss s1 (Ar.len aC)then(B9 aC s1).bind fun x3=>(B9 aD s1).bind fun x4=>(Ap N x3 x4).bind fun r5=>if cmp .neq r5 0 then some (.inr (.inr ()))else some (.inl (ar .add .i64 s1 1))else some (.inr (.inl ())):Option ((Int) ⊕ (Unit ⊕ Unit)))) N 0).bind fun s2=>match s2 with
  | .inl y6=>some true
  | .inr y7=>some false
end Go.Ab
