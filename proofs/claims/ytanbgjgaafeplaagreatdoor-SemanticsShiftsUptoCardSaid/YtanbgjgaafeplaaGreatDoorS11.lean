/- GTSp -/
import Derived.Test.YtanbgjgaafeplaaGreatDoorS10
set_option linter.all false
open Go.Ab.Ar (an ar cmp mx nt scmp wr)
namespace Go.Ab
variable [Ar]
instance :DecidableEq C8:=fun x y=>decidable_of_iff (x.source=y.source∧x.seq=y.seq) (by cases x;cases y;simp)
def Q0 (N:Nat):Nat→A0→Option (List A0)
 |0,_=>none
 |n+1,aA=>(loopN (fun(s1:(List A0)×Int)=>(if cmp .lss s1.2 (Ar.len aA.cN)then(B9 aA.cN s1.2).bind fun x4=>(Q0 N n x4).bind fun r5=>(P3 s1.1 r5).bind fun l7=>some (.inl (l7,ar .add .i64 s1.2 1))else some (.inr s1.1):Option (((List A0)×Int) ⊕ (((List A0)))))) N ([aA],0)).bind fun s3=>some s3
def S6 (N:Nat):Nat→A0→Int→Option Int
 |0,_,_=>none
 |n+1,aA,aW=>(loopN (fun(s1:Int×Int)=>(if an (cmp .lss s1.2 (Ar.len aA.cN)) (cmp .leq s1.1 aW)then(B9 aA.cN s1.2).bind fun x3=>(S6 N n x3 aW).bind fun r4=>some (.inl (ar .add .i64 s1.1 r4,ar .add .i64 s1.2 1))else some (.inr s1.1):Option ((Int×Int) ⊕ (Int)))) N (1,0)).bind fun s2=>some s2
def S8 (N:Nat):Nat→A0→Option Int
 |0,_=>none
 |n+1,aA=>(loopN (fun(s1:Int×Int)=>(if cmp .lss s1.2 (Ar.len aA.cN)then(B9 aA.cN s1.2).bind fun x3=>(S8 N n x3).bind fun r4=>some (.inl (mx s1.1 r4,ar .add .i64 s1.2 1))else some (.inr s1.1):Option ((Int×Int) ⊕ (Int)))) N (0,0)).bind fun s2=>some (ar .add .i64 s2 1)
def T3 (N:Nat):Nat→A5→Int→Option Int
 |0,_,_=>none
 |n+1,aB,aW=>(loopN (fun(s1:Int×Int)=>(if an (cmp .lss s1.2 (Ar.len aB.cN)) (cmp .leq s1.1 aW)then(B9 aB.cN s1.2).bind fun x3=>(T3 N n x3 aW).bind fun r4=>some (.inl (ar .add .i64 s1.1 r4,ar .add .i64 s1.2 1))else some (.inr s1.1):Option ((Int×Int) ⊕ (Int)))) N (1,0)).bind fun s2=>some s2
def S9 (N:Nat):Nat→A5→Option Int
 |0,_=>none
 |n+1,aB=>(loopN (fun(s1:Int×Int)=>(if cmp .lss s1.2 (Ar.len aB.cN)then(B9 aB.cN s1.2).bind fun x3=>(S9 N n x3).bind fun r4=>some (.inl (mx s1.1 r4,ar .add .i64 s1.2 1))else some (.inr s1.1):Option ((Int×Int) ⊕ (Int)))) N (0,0)).bind fun s2=>some (ar .add .i64 s2 1)
def Br (N:Nat)(aB:A5):Option Bool:=(T3 N N aB 200).bind fun r1=>if cmp .leq r1 200 then(S9 N N aB).bind fun r2=>some (cmp .leq r2 100)else some false
def EB (N:Nat) (aA:A0):Option Bool:=(S6 N N aA 150).bind fun r1=>if cmp .gtr r1 150 then some false else(S8 N N aA).bind fun r2=>if cmp .gtr r2 60 then some false else(Q0 N N aA).bind fun r3=>(loopN (fun(s4:Int)=>(if cmp .lss s4 (Ar.len r3)then(B9 r3 s4).bind fun x6=>(Br N x6.cO).bind fun r7=>if nt r7 then some (.inr (.inr ()))else some (.inl (ar .add .i64 s4 1))else some (.inr (.inl ())):Option ((Int) ⊕ (Unit ⊕ Unit)))) N 0).bind fun s5=>match s5 with
   | .inl y8=>some true
   | .inr y9=>some false
def S1 (N:Nat):Nat→A0→Option Int
 |0,_=>none
 |n+1,aA=>((if cmp .eql aA.Op 0 then some 1 else some 0):Option (Int)).bind fun s1=>(loopN (fun(s2:Int×Int)=>(if cmp .lss s2.2 (Ar.len aA.cN)then(B9 aA.cN s2.2).bind fun x4=>(S1 N n x4).bind fun r5=>some (.inl (ar .add .i64 s2.1 r5,ar .add .i64 s2.2 1))else some (.inr s2.1):Option ((Int×Int) ⊕ (Int)))) N (s1,0)).bind fun s3=>some s3
def Bq (N:Nat)(aX:Int)(aU:Int)(aW:Int):Option Int:=(loopN (fun(s1:Int×Int)=>(if an (cmp .lss s1.2 aU) (cmp .leq s1.1 aW)then some (.inl (ar .mul .i64 s1.1 aX,ar .add .i64 s1.2 1))else some (.inr s1.1):Option ((Int×Int) ⊕ (Int)))) N (1,0)).bind fun s2=>some s2
def W9 (N:Nat):Nat→A0→Option Bool
 |0,_=>none
 | n+1,aA=>if cmp .eql aA.Op 4 then some true else(loopN (fun(s1:Int)=>(if cmp .lss s1 (Ar.len aA.cN)then(B9 aA.cN s1).bind fun x3=>(W9 N n x3).bind fun r4=>if r4 then some (.inr (.inr ()))else some (.inl (ar .add .i64 s1 1))else some (.inr (.inl ())):Option ((Int) ⊕ (Unit ⊕ Unit)))) N 0).bind fun s2=>match s2 with
   | .inl y5=>some false
   | .inr y6=>some true
def Cu (N:Nat) (aA:A0) (aF:List A3):Option Bool:=(EB N aA).bind fun r1=>if Ar.or (nt r1) (cmp .gtr (Ar.len aF) 10)then some false else(loopN (fun(s2:Int)=>(if cmp .lss s2 (Ar.len aF)then(B9 aF s2).bind fun x4=>if cmp .gtr (Ar.len x4.Values) 9 then some (.inr (.inr ()))else some (.inl (ar .add .i64 s2 1))else some (.inr (.inl ())):Option ((Int) ⊕ (Unit ⊕ Unit)))) N 0).bind fun s3=>match s3 with
  | .inl y5=>(S1 N N aA).bind fun r6=>(Bq N (ar .add .i64 r6 1) (Ar.len aF) 1500).bind fun r7=>if cmp .leq r7 1500 then some true else(W9 N N aA).bind fun r8=>if nt r8 then(Bq N (Ar.len aF) r6 1500).bind fun r9=>some (cmp .leq r9 1500)else some false
  | .inr y10=>some false
def S2 (N:Nat):Nat→A0→Option (List A0)
 |0,_=>none
 |n+1,aA=>((M3 (some ([aA],())) fun _=>M3 (U2 (fun(s2:Int)=>(if cmp .lss s2 (Ar.len aA.cN)then(B9 aA.cN s2).bind fun x8=>(S2 N n x8).bind fun l9=>M3 (some (l9,())) fun _=>some ([],.inl (ar .add .i64 s2 1))else some ([],.inr ()):Option (List A0×((Int) ⊕ (Unit))))) N 0) fun s7=>some ([],())):Option (List A0×Unit)).bind fun q=>some q.1
def Y4 (N:Nat)(aH:A0):Option (List A0):=(((S2 N N aH).bind fun l1=>M3 (some (l1,())) fun _=>some ([],())):Option (List A0×Unit)).bind fun q=>some q.1
def P2 (N:Nat)(aA:A0):Option (List A0):=Y4 N aA
def S3 (N:Nat):Nat→A0→Option (Int×Int)
 |0,_=>none
 |n+1,aA=>(loopN (fun(s1:Int×Int×Int)=>(if cmp .lss s1.2.2 (Ar.len aA.cN)then(B9 aA.cN s1.2.2).bind fun x3=>(S3 N n x3).bind fun r4=>some (.inl (ar .add .i64 s1.1 r4.1,mx s1.2.1 r4.2,ar .add .i64 s1.2.2 1))else some (.inr (s1.1,s1.2.1)):Option ((Int×Int×Int) ⊕ ((Int×Int))))) N (1,0,0)).bind fun s2=>some (s2.1,ar .add .i64 s2.2 1)
def Q1 (N:Nat)(bF:Bool)(aU:Int)(bO:Int):Option Bool:=some (Ar.or (nt bF) (an (cmp .geq aU 0) (cmp .leq aU bO)))
def AJ (N:Nat):Nat→A5→Option (Int×Int)
 |0,_=>none
 |n+1,aB=>(loopN (fun(s1:Int×Int×Int)=>(if cmp .lss s1.2.2 (Ar.len aB.cN)then(B9 aB.cN s1.2.2).bind fun x3=>(AJ N n x3).bind fun r4=>some (.inl (ar .add .i64 s1.1 r4.1,mx s1.2.1 r4.2,ar .add .i64 s1.2.2 1))else some (.inr (s1.1,s1.2.1)):Option ((Int×Int×Int) ⊕ ((Int×Int))))) N (1,0,0)).bind fun s2=>some (s2.1,ar .add .i64 s2.2 1)
def Aw (N:Nat):Nat→A5→(A5→Option Int)→Option Int
 |0,_,_=>none
 | n+1,aB,aS=>(aS aB).bind fun r1=>if cmp .neq r1 0 then some r1 else(loopN (fun(s2:Int)=>(if cmp .lss s2 (Ar.len aB.cN)then(B9 aB.cN s2).bind fun x4=>(Aw N n x4 aS).bind fun r5=>if cmp .neq r5 0 then some (.inr (.inr r5))else some (.inl (ar .add .i64 s2 1))else some (.inr (.inl ())):Option ((Int) ⊕ (Unit ⊕ Int)))) N 0).bind fun s3=>match s3 with
   | .inl y6=>some 0
   | .inr y7=>some y7
def DD (N:Nat)(aP:Int):Option (Int×Bool):=if Ar.or (cmp .lss aP 0) (cmp .gtr aP 12)then some (0,false)else if cmp .lss aP 5 then some (0,true)else if cmp .eql aP 12 then some (1,true)else some (2,true)
def EK (N:Nat)(aP:Int):Option (Bool×Bool):=((if cmp .eql aP 1 then some true else some (cmp .eql aP 4)):Option (Bool)).bind fun s1=>if s1 then some (true,true)else if cmp .eql aP 2 then some (true,false)else if cmp .eql aP 3 then some (true,false)else some (false,false)
def Dm (N:Nat)(aK:A7):Option Int:=if an (cmp .eql aK.Kind 0) (Ar.or (cmp .lss aK.Num (-1099511627776)) (cmp .gtr aK.Num 1099511627776))then some 2 else if an (an (cmp .eql aK.Kind 1) (cmp .neq aK.Num 0)) (cmp .neq aK.Num 1)then some 2 else if cmp .gtr (Ar.slen aK.Text) 64 then some 13 else some 0
def S5 (N:Nat)(aK:A7):Option Int:=((if cmp .eql aK.Kind 0 then some true else some (cmp .eql aK.Kind 1)):Option (Bool)).bind fun s1=>if s1 then if scmp .neq aK.Text (⟨#[]⟩:ByteArray)then some 3 else(Dm N aK).bind fun r2=>some r2 else if cmp .eql aK.Kind 2 then if cmp .neq aK.Num 0 then some 3 else(Dm N aK).bind fun r3=>some r3 else some 1
def DC (N:Nat)(aQ:Int)(aK:A7):Option Bool:=some (Ar.or (Ar.or (cmp .eql aK.Kind 0) (cmp .eql aQ 4)) (cmp .eql aQ 5))
def BL (N:Nat)(aB:A5):Option Int:=(S5 N aB.Value).bind fun r1=>if cmp .neq r1 0 then some r1 else if cmp .eql aB.Op 4 then(DC N aB.Kind aB.Value).bind fun r2=>if Ar.or (nt r2) (an (cmp .eql aB.Kind 1) (nt (an (cmp .eql aB.Value.Kind 0) (an (cmp .eql aB.Value.Num 0) (an (scmp .eql aB.Value.Text (⟨#[]⟩)) true)))))then some 9 else some 0 else some 0
def Dj (N:Nat) (aB:A5):Option Int:=(DD N aB.Op).bind fun r1=>if nt r1.2 then some 1 else if cmp .neq (Ar.len aB.cN) r1.1 then some 15 else(EK N aB.Op).bind fun r2=>if Ar.or (an r2.1 (Ar.or (cmp .lss aB.Var 0) (cmp .geq aB.Var 16))) (an r2.2 (Ar.or (cmp .lss aB.Field 0) (cmp .geq aB.Field 8)))then some 2 else if an (cmp .eql aB.Op 4) (Ar.or (cmp .lss aB.Kind 1) (cmp .gtr aB.Kind 5))then some 1 else((if Ar.or (cmp .eql aB.Op 4) (cmp .eql aB.Op 0)then(BL N aB).bind fun r4=>if cmp .neq r4 0 then some (.inr r4)else some (.inl ())else some (.inl ())):Option (Unit ⊕ Int)).bind fun s3=>match s3 with
     | .inl y5=>if Ar.or (Ar.or (Ar.or (an (nt r2.1) (cmp .neq aB.Var 0)) (an (nt r2.2) (cmp .neq aB.Field 0))) (an (nt (cmp .eql aB.Op 4)) (cmp .neq aB.Kind 0))) (an (nt (Ar.or (cmp .eql aB.Op 4) (cmp .eql aB.Op 0))) (nt (an (cmp .eql aB.Value.Kind 0) (an (cmp .eql aB.Value.Num 0) (an (scmp .eql aB.Value.Text (⟨#[]⟩)) true)))))then some 3 else some 0
     | .inr y6=>some y6
def Ce (N:Nat)(aB:A5):Option Int:=(AJ N N aB).bind fun r1=>if cmp .gtr r1.1 64 then some 5 else if cmp .gtr r1.2 12 then some 12 else(Aw N N aB (fun y1=>Dj N y1)).bind fun r2=>some r2
def Dk (N:Nat):Nat→A5→A5→Option Bool
 |0,_,_=>none
 | n+1,aC,aD=>if Ar.or (Ar.or (Ar.or (Ar.or (Ar.or (cmp .neq aC.Op aD.Op) (cmp .neq aC.Var aD.Var)) (cmp .neq aC.Field aD.Field)) (cmp .neq aC.Kind aD.Kind)) (nt (an (cmp .eql aC.Value.Kind aD.Value.Kind) (an (cmp .eql aC.Value.Num aD.Value.Num) (an (scmp .eql aC.Value.Text aD.Value.Text) true))))) (cmp .neq (Ar.len aC.cN) (Ar.len aD.cN))then some false else(loopN (fun(s1:Int)=>(if cmp .lss s1 (Ar.len aC.cN)then(B9 aC.cN s1).bind fun x3=>(B9 aD.cN s1).bind fun x4=>(Dk N n x3 x4).bind fun r5=>if nt r5 then some (.inr (.inr ()))else some (.inl (ar .add .i64 s1 1))else some (.inr (.inl ())):Option ((Int) ⊕ (Unit ⊕ Unit)))) N 0).bind fun s2=>match s2 with
   | .inl y6=>some true
   | .inr y7=>some false
def K1 (N:Nat)(bF:Bool)(aU:Int):Option Bool:=some (Ar.or bF (cmp .eql aU 0))
def P5 (N:Nat) (aA:A0):Option Int:=if Ar.or (cmp .lss aA.Op 0) (cmp .geq aA.Op 11)then some 1 else(B9 F2 aA.Op).bind fun x1=>if Ar.or (cmp .lss (Ar.len aA.cN) x1.cT) (cmp .gtr (Ar.len aA.cN) x1.most)then some 15 else(Q1 N x1.cQ aA.Typ 15).bind fun r2=>if nt r2 then some 2 else(Q1 N x1.cQ aA.Var 15).bind fun r3=>if nt r3 then some 2 else(Q1 N x1.scope aA.cR 63).bind fun r4=>if nt r4 then some 2 else(Q1 N x1.span aA.Span 1099511627776).bind fun r5=>if nt r5 then some 2 else((if x1.cond then(Ce N aA.cO).bind fun r7=>if cmp .neq r7 0 then some (.inr r7)else some (.inl ())else some (.inl ())):Option (Unit ⊕ Int)).bind fun s6=>match s6 with
       | .inl y8=>if nt x1.cond then(Dk N N aA.cO (⟨0,[],0,0,0,(⟨0,0,⟨#[]⟩⟩:A7)⟩:A5)).bind fun r9=>if nt r9 then some 3 else(K1 N x1.cQ aA.Typ).bind fun r10=>if nt r10 then some 3 else(K1 N x1.cQ aA.Var).bind fun r11=>if nt r11 then some 3 else(K1 N x1.scope aA.cR).bind fun r12=>if nt r12 then some 3 else(K1 N x1.span aA.Span).bind fun r13=>if nt r13 then some 3 else some 0 else(K1 N x1.cQ aA.Typ).bind fun r14=>if nt r14 then some 3 else(K1 N x1.cQ aA.Var).bind fun r15=>if nt r15 then some 3 else(K1 N x1.scope aA.cR).bind fun r16=>if nt r16 then some 3 else(K1 N x1.span aA.Span).bind fun r17=>if nt r17 then some 3 else some 0
       | .inr y18=>some y18
def V5 (N:Nat) (aA:A0):Option Int:=(S3 N N aA).bind fun r2=>if cmp .gtr r2.1 64 then some 5 else if cmp .gtr r2.2 12 then some 12 else(P2 N aA).bind fun r3=>(G6 (fun(s6:Unit) (y5:A0)=>((P5 N y5).bind fun r10=>if cmp .neq r10 0 then some (.inr r10)else some (.inl ()):Option ((Unit) ⊕ (Int)))) r3 ()).bind fun o9=>match o9 with
   | .inl s13=>some 0
   | .inr y14=>some y14
def AW (N:Nat) (aA:A0):Option Int:=(V5 N aA).bind fun r2=>if cmp .neq r2 0 then some r2 else(P2 N aA).bind fun r3=>(G6 (fun(s6:Unit) (y5:A0)=>(if cmp .geq y5.Op 8 then some (.inr 1)else some (.inl ()):Option ((Unit) ⊕ (Int)))) r3 ()).bind fun o9=>match o9 with
  | .inl s12=>some 0
  | .inr y13=>some y13
def AX (N:Nat)(aA:A0):Option (Int×Int×Bool):=(P2 N aA).bind fun r4=>(G6 (fun(s7:Bool×Int×Int) (y6:A0)=>((B9 F2 y6.Op).bind fun x11=>((if x11.cQ then some (an s7.1 (cmp .eql y6.Var s7.2.2),ar .add .i64 s7.2.2 1)else some (s7.1,s7.2.2)):Option ((Bool×Int))).bind fun s12=>if x11.scope then some (.inl (an s12.1 (cmp .eql y6.cR s7.2.1),ar .add .i64 s7.2.1 1,s12.2))else some (.inl (s12.1,s7.2.1,s12.2)):Option ((Bool×Int×Int) ⊕ (Unit)))) r4 (true,0,0)).bind fun o10=>match o10 with
 | .inl s15=>some (s15.2.2,s15.2.1,s15.1)
 | .inr _=>none
def AY (N:Nat)(aA:A0):Option Int:=(AW N aA).bind fun r1=>if cmp .neq r1 0 then some r1 else(AX N aA).bind fun r2=>if nt r2.2.2 then some 14 else some 0
def Cg (N:Nat)(aB:A3):Option EO:=some (⟨aB.Time,aB.Source,aB.Seq⟩:EO)
def D7 (N:Nat)(bM:List C1)(bQ:List C1)(bY:C1→C1→Option Int):Option Int:=(loopN (fun(s1:Int)=>(if cmp .lss s1 (Ar.len bM)then(B9 bM s1).bind fun x3=>if cmp .geq s1 (Ar.len bQ)then some (.inr (.inr 1))else(B9 bQ s1).bind fun x5=>(bY x3 x5).bind fun r6=>if cmp .neq r6 0 then some (.inr (.inr r6))else some (.inl (ar .add .i64 s1 1))else some (.inr (.inl ())):Option ((Int) ⊕ (Unit ⊕ Int)))) N 0).bind fun s2=>match s2 with
 | .inl y7=>if cmp .lss (Ar.len bM) (Ar.len bQ)then some (-1)else some 0
 | .inr y8=>some y8
def Bl (N:Nat)(bR:List Int):Option Int:=(loopN (fun(s1:Int)=>(if cmp .lss s1 (Ar.len bR)then(B9 bR s1).bind fun x3=>if cmp .neq x3 0 then some (.inr (.inr x3))else some (.inl (ar .add .i64 s1 1))else some (.inr (.inl ())):Option ((Int) ⊕ (Unit ⊕ Int)))) N 0).bind fun s2=>match s2 with
 | .inl y4=>some 0
 | .inr y5=>some y5
def Bc (N:Nat)(aO:Int):Option Bool:=some (cmp .neq aO aO)
def I4 (N:Nat)(aO:Int)(bA:Int):Option Int:=(Bc N aO).bind fun r1=>(Bc N bA).bind fun r2=>if r1 then if r2 then some 0 else some (-1)else if r2 then some 1 else if cmp .lss aO bA then some (-1)else if cmp .gtr aO bA then some 1 else some 0
def Ds (N:Nat)(aC:EO)(aD:EO):Option Int:=(I4 N aC.Time aD.Time).bind fun r1=>(I4 N aC.Source aD.Source).bind fun r2=>(I4 N aC.Seq aD.Seq).bind fun r3=>(Bl N ([r1,r2,r3])).bind fun r4=>some r4
def U9 (N:Nat)(aO:C1)(bA:C1):Option Int:=(Ds N aO.Ref bA.Ref).bind fun r1=>(I4 N aO.Var bA.Var).bind fun r2=>(Bl N ([r1,r2])).bind fun r3=>some r3
def Z5 (N:Nat)(aC:D3)(aD:D3):Option Int:=(D7 N aC.cP aD.cP (fun y1 y2=>U9 N y1 y2)).bind fun r1=>some r1
def Cq (N:Nat)(aB:A3):Option Bool:=some (an (an (an (an (an (cmp .geq aB.Time 0) (cmp .leq aB.Time 1099511627776)) (cmp .geq aB.Source 0)) (cmp .lss aB.Source 8)) (cmp .geq aB.Seq 0)) (cmp .leq aB.Seq 1099511627776))
def Bb (N:Nat)(aC:A3)(aD:A3):Option Int:=(Cg N aC).bind fun r1=>(Cg N aD).bind fun r2=>if an (cmp .eql r1.Time r2.Time) (an (cmp .eql r1.Source r2.Source) (an (cmp .eql r1.Seq r2.Seq) true))then some 0 else(I4 N aC.Time aD.Time).bind fun r3=>(I4 N aC.Source aD.Source).bind fun r4=>(I4 N aC.Seq aD.Seq).bind fun r5=>(Bl N ([r3,r4,r5])).bind fun r6=>some r6
def BX (N:Nat)(aB:A3):Option C8:=some (⟨aB.Source,aB.Seq⟩:C8)
def BC (N:Nat) (aF:List A3):Option Int:=if cmp .gtr (Ar.len aF) 4096 then some 5 else(loopN (fun(s3:Int×(List (C8×Bool)))=>(if cmp .lss s3.1 (Ar.len aF)then(B9 aF s3.1).bind fun x6=>(Cq N x6).bind fun r8=>if nt r8 then some (.inr (.inr (2,s3.2)))else if cmp .gtr s3.1 0 then(B9 aF (ar .sub .i64 s3.1 1)).bind fun x9=>(Bb N x9 x6).bind fun r10=>if cmp .geq r10 0 then some (.inr (.inr (14,s3.2)))else(BX N x6).bind fun r11=>(HR s3.2 r11 (false:Bool)).bind fun r12=>if r12.1 then some (.inr (.inr (7,s3.2)))else(BX N x6).bind fun r13=>(Ha s3.2 r13 true).bind fun l15=>some (.inl (ar .add .i64 s3.1 1,l15))else(BX N x6).bind fun r16=>(HR s3.2 r16 (false:Bool)).bind fun r17=>if r17.1 then some (.inr (.inr (7,s3.2)))else(BX N x6).bind fun r18=>(Ha s3.2 r18 true).bind fun l20=>some (.inl (ar .add .i64 s3.1 1,l20))else some (.inr (.inl s3.2)):Option ((Int×(List (C8×Bool))) ⊕ (((List (C8×Bool))) ⊕ (Int×(List (C8×Bool))))))) N (0,([]:List (C8×Bool)))).bind fun s5=>match s5 with
  | .inl y21=>some 0
  | .inr y23=>some y23.1
def Aa (N:Nat):Option Unit:=some ()
def Ej (N:Nat)(aV:Int):Option ByteArray:=KC aV
def T8 (N:Nat)(aZ:List Int)(aV:Int)(aX:Int):Option (List Int):=if cmp .eql aX 10 then if cmp .lss aV 100 then(Ej N (wr .i64 aV)).bind fun r1=>(P3 aZ (Jm r1)).bind fun l3=>some l3 else none else none
def W5 (N:Nat)(aZ:List Int)(aV:Int)(aX:Int):Option (List Int):=if cmp .lss aV 0 then(P3 aZ ([45])).bind fun l2=>(T8 N l2 (Ar.neg .u64 (wr .u64 aV)) aX).bind fun l3=>some l3 else(T8 N aZ (wr .u64 aV) aX).bind fun l5=>some l5
def E9 (N:Nat)(aZ:List Int)(aV:Int)(aX:Int):Option (List Int):=(W5 N aZ aV aX).bind fun l1=>some l1
def L5 (N:Nat)(aG:List A1):Option ByteArray:=(loopN (fun(s2:Int×(List Int))=>(if cmp .lss s2.1 (Ar.len aG)then(B9 aG s2.1).bind fun x5=>(E9 N s2.2 x5.cS 10).bind fun l6=>(((P3 l6 ([64])).bind fun l90=>(E9 N l90 x5.at_ 10).bind fun l209=>(P3 l209 ([32])).bind fun l290=>some l290):Option (((List Int)))).bind fun s8=>some (.inl (ar .add .i64 s2.1 1,s8))else some (.inr s2.2):Option ((Int×(List Int)) ⊕ (((List Int)))))) N (0,([]:List Int))).bind fun s4=>(SG s4).bind fun r411=>some r411
def N4 (N:Nat)(aU:Int):Option A7:=some (⟨0,aU,⟨#[]⟩⟩:A7)
def Aj (N:Nat)(aC:Int)(aD:Int)(aJ:Int→Option A7):Option A7:=(aJ (ar .add .i64 aC aD)).bind fun r2=>some r2
def Ai (N:Nat)(aC:Int)(aD:Int)(aJ:Int→Option A7):Option A7:=(aJ (ar .sub .i64 aC aD)).bind fun r2=>some r2
def EU (N:Nat)(aD:Bool):Option A7:=if aD then some (⟨1,1,⟨#[]⟩⟩:A7)else some (⟨1,0,⟨#[]⟩⟩:A7)
def X4 (N:Nat)(aD:Bool):Option A7:=(EU N aD).bind fun r2=>some r2
def Ah (N:Nat)(aC:Int)(aD:Int):Option A7:=(X4 N (cmp .lss aC aD)).bind fun r2=>some r2
def Ag (N:Nat)(aC:Int)(aD:Int):Option A7:=(X4 N (cmp .leq aC aD)).bind fun r2=>some r2
def Af (N:Nat)(aC:Int)(aD:Int):Option A7:=(X4 N (an (cmp .eql aC 1) (cmp .eql aD 1))).bind fun r2=>some r2
def Ae (N:Nat)(aC:Int)(aD:Int):Option A7:=(X4 N (Ar.or (cmp .eql aC 1) (cmp .eql aD 1))).bind fun r2=>some r2
def Ad (N:Nat)(aC:Int)(aH:Int):Option A7:=(X4 N (cmp .neq aC 1)).bind fun r2=>some r2
def FB (N:Nat):Option Unit:=some ()
def L8 (N:Nat)(aO:N9)(aK:Int):Option (List A3):=if Ar.or (cmp .lss aK 0) (cmp .geq aK (Ar.len aO.env.cU))then some ([])else(B9 aO.env.cU aK).bind fun x1=>some x1
def Y7 (N:Nat)(aB:A3)(bI:Int):Option (A7×Int):=if cmp .geq bI (Ar.len aB.Values)then some ((⟨0,0,⟨#[]⟩⟩:A7),6)else(B9 aB.Values bI).bind fun x2=>some (x2,0)
def V0 (N:Nat)(aQ:Int):Option Bool:=some (an (cmp .geq aQ 0) (cmp .leq aQ 5))
def R5 (N:Nat)(aQ:Int)(aK:A7):Option Bool:=some (Ar.or (cmp .eql aK.Kind 0) (an (an (cmp .neq aQ 1) (cmp .neq aQ 2)) (cmp .neq aQ 3)))
def M0 (N:Nat)(aQ:Int)(aK:A7):Option Int:=(S5 N aK).bind fun r1=>if cmp .neq r1 0 then some r1 else(R5 N aQ aK).bind fun r2=>if nt r2 then some 9 else some 0
def F4 (N:Nat)(bZ:C7)(aF:List A7)(cA:C7→A7→Option C7):Option C7:=(loopN (fun(s3:Int×C7)=>(if cmp .lss s3.1 (Ar.len aF)then(B9 aF s3.1).bind fun x5=>(cA s3.2 x5).bind fun r6=>some (.inl (ar .add .i64 s3.1 1,r6))else some (.inr s3.2):Option ((Int×C7) ⊕ (C7)))) N (0,bZ)).bind fun s4=>some s4
def AU (N:Nat):Option A7:=some (⟨0,0,⟨#[]⟩⟩:A7)
def AT (N:Nat)(aY:A7)(aH:A7):Option A7:=some (⟨0,ar .add .i64 aY.Num aH.Num,⟨#[]⟩⟩:A7)
def AS (N:Nat)(aY:A7)(aH:A7):Option A7:=some (⟨0,Ar.mn aY.Num aH.Num,⟨#[]⟩⟩:A7)
def AR (N:Nat)(aY:A7)(aH:A7):Option A7:=some (⟨0,mx aY.Num aH.Num,⟨#[]⟩⟩:A7)
def AQ (N:Nat)(aY:A7):Option A7:=some aY
def AP (N:Nat)(aY:A7):Option A7:=some aY
def V9 (N:Nat)(aQ:Int)(aC:A7)(aD:A7):Option A7:=if cmp .eql aQ 0 then(AU N).bind fun r2=>some r2 else if cmp .eql aQ 1 then(AT N aC aD).bind fun r3=>some r3 else if cmp .eql aQ 2 then(AS N aC aD).bind fun r4=>some r4 else if cmp .eql aQ 3 then(AR N aC aD).bind fun r5=>some r5 else if cmp .eql aQ 4 then(AQ N aC).bind fun r6=>some r6 else if cmp .eql aQ 5 then(AP N aD).bind fun r7=>some r7 else none
def AM (N:Nat)(aC:C7)(aD:C7):Option C7:=if cmp .eql aC.Count 0 then some aD else if cmp .eql aD.Count 0 then some aC else(V9 N aC.Kind aC.Value aD.Value).bind fun r2=>some (⟨aC.Kind,ar .add .i64 aC.Count aD.Count,r2⟩:C7)
def X5 (N:Nat)(aQ:Int)(aK:A7):Option A7:=if cmp .eql aQ 0 then some (⟨0,0,⟨#[]⟩⟩:A7)else some aK
def L9 (N:Nat)(aC:C7)(aK:A7)(aJ:Int):Option C7:=(X5 N aJ aK).bind fun r2=>(AM N aC (⟨aJ,1,r2⟩:C7)).bind fun r3=>some r3
def Z2 (N:Nat)(aC:C7):Option Int:=(V0 N aC.Kind).bind fun r1=>if nt r1 then some 1 else if Ar.or (cmp .lss aC.Count 0) (cmp .gtr aC.Count 4096)then some 2 else if Ar.or (cmp .eql aC.Count 0) (cmp .eql aC.Kind 0)then if nt (an (cmp .eql aC.Value.Kind 0) (an (cmp .eql aC.Value.Num 0) (an (scmp .eql aC.Value.Text (⟨#[]⟩)) true)))then some 3 else some 0 else if cmp .eql aC.Kind 1 then if nt (an (an (an (cmp .eql aC.Value.Kind 0) (scmp .eql aC.Value.Text (⟨#[]⟩:ByteArray))) (cmp .geq aC.Value.Num (Ar.neg .i64 (ar .mul .i64 aC.Count 1099511627776)))) (cmp .leq aC.Value.Num (ar .mul .i64 aC.Count 1099511627776)))then some 3 else some 0 else(S5 N aC.Value).bind fun r2=>if cmp .eql r2 0 then(R5 N aC.Kind aC.Value).bind fun r3=>if nt r3 then some 3 else some 0 else some 3
def AN (N:Nat)(aC:C7)(bG:A7):Option (A7×Int):=(Z2 N aC).bind fun r2=>if cmp .neq r2 0 then some ((⟨0,0,⟨#[]⟩⟩:A7),r2)else(M0 N aC.Kind bG).bind fun r3=>if cmp .neq r3 0 then some ((⟨0,0,⟨#[]⟩⟩:A7),r3)else if cmp .eql aC.Kind 0 then some ((⟨0,aC.Count,⟨#[]⟩⟩:A7),0)else if an (cmp .eql aC.Count 0) (cmp .neq aC.Kind 1)then some (bG,0)else some (aC.Value,0)
def BQ (N:Nat) (aQ:Int) (aF:List A7) (bG:A7):Option (A7×Int):=(V0 N aQ).bind fun r2=>if nt r2 then some ((⟨0,0,⟨#[]⟩⟩:A7),1)else if cmp .gtr (Ar.len aF) 4096 then some ((⟨0,0,⟨#[]⟩⟩:A7),5)else(loopN (fun(s3:Int)=>(if cmp .lss s3 (Ar.len aF)then(B9 aF s3).bind fun x5=>(M0 N aQ x5).bind fun r6=>if cmp .neq r6 0 then some (.inr (.inr r6))else some (.inl (ar .add .i64 s3 1))else some (.inr (.inl ())):Option ((Int) ⊕ (Unit ⊕ Int)))) N 0).bind fun s4=>match s4 with
   | .inl y7=>(F4 N (⟨aQ,0,(⟨0,0,⟨#[]⟩⟩:A7)⟩:C7) aF (fun y1 y2=>L9 N y1 y2 aQ)).bind fun r8=>(AN N r8 bG).bind fun r9=>some (r9.1,r9.2)
   | .inr y10=>some ((⟨0,0,⟨#[]⟩⟩:A7),y10)
def Q4 (N:Nat)(aO:N9)(aB:A5):Option (A7×Int):=(L8 N aO aB.Var).bind fun r2=>(loopN (fun(s3:(List A7)×Int)=>(if cmp .lss s3.2 (Ar.len r2)then(B9 r2 s3.2).bind fun x6=>(Y7 N x6 aB.Field).bind fun r7=>if cmp .neq r7.2 0 then some (.inr (.inr r7.2))else(P3 s3.1 ([r7.1])).bind fun l9=>some (.inl (l9,ar .add .i64 s3.2 1))else some (.inr (.inl s3.1)):Option (((List A7)×Int) ⊕ (((List A7)) ⊕ Int)))) N ([],0)).bind fun s5=>match s5 with
 | .inl y10=>(BQ N aB.Kind y10 aB.Value).bind fun r12=>some (r12.1,r12.2)
 | .inr y13=>some ((⟨0,0,⟨#[]⟩⟩:A7),y13)
def R9 (N:Nat) (aO:N9) (aB:A5):Option (A7×Int):=(L8 N aO aB.Var).bind fun r2=>if cmp .eql aB.Op 0 then some (aB.Value,0)else if cmp .eql aB.Op 3 then some ((⟨0,Ar.len r2,⟨#[]⟩⟩:A7),0)else if cmp .eql aB.Op 4 then(Q4 N aO aB).bind fun r3=>some (r3.1,r3.2)else((if cmp .neq aB.Var aO.own then if cmp .eql (Ar.len r2) 0 then some (.inr ())else(B9 r2 (ar .sub .i64 (Ar.len r2) 1)).bind fun x6=>some (.inl x6)else some (.inl aO.event)):Option (A3 ⊕ Unit)).bind fun s5=>match s5 with
    | .inl y7=>if cmp .eql aB.Op 2 then some ((⟨0,y7.Time,⟨#[]⟩⟩:A7),0)else(Y7 N y7 aB.Field).bind fun r8=>((if cmp .eql r8.2 0 then(S5 N r8.1).bind fun r10=>some r10 else some r8.2):Option (Int)).bind fun s9=>if cmp .neq s9 0 then some ((⟨0,0,⟨#[]⟩⟩:A7),s9)else some (r8.1,0)
    | .inr y11=>some ((⟨0,0,⟨#[]⟩⟩:A7),10)
def Ba (N:Nat)(aP:Int)(bD:List Int):Option Int:=(loopN (fun(s1:Int)=>(if cmp .lss s1 (Ar.len bD)then(B9 bD s1).bind fun x3=>((if cmp .eql aP 5 then some true else if cmp .eql aP 6 then some true else if cmp .eql aP 7 then some true else some (cmp .eql aP 8)):Option (Bool)).bind fun s4=>if s4 then if nt (cmp .eql x3 0)then some (.inr (.inr ()))else some (.inl (ar .add .i64 s1 1))else((if cmp .eql aP 10 then some true else if cmp .eql aP 11 then some true else some (cmp .eql aP 12)):Option (Bool)).bind fun s5=>if s5 then if nt (cmp .eql x3 1)then some (.inr (.inr ()))else some (.inl (ar .add .i64 s1 1))else if cmp .eql aP 9 then(B9 bD 0).bind fun x6=>if nt (cmp .eql x3 x6)then some (.inr (.inr ()))else some (.inl (ar .add .i64 s1 1))else some (.inl (ar .add .i64 s1 1))else some (.inr (.inl ())):Option ((Int) ⊕ (Unit ⊕ Unit)))) N 0).bind fun s2=>match s2 with
 | .inl y7=>some 0
 | .inr y8=>some 9
def G7 (N:Nat):Nat→N9→A5→Option (A7×Int)
 |0,_,_=>none
 | n+1,aO,aB=>if cmp .eql (Ar.len aB.cN) 0 then(R9 N aO aB).bind fun r2=>some (r2.1,r2.2)else(loopN (fun(s3:(List A7)×(List Int)×Int)=>(if cmp .lss s3.2.2 (Ar.len aB.cN)then(B9 aB.cN s3.2.2).bind fun x7=>(G7 N n aO x7).bind fun r8=>if cmp .neq r8.2 0 then some (.inr (.inr r8.2))else(P3 s3.1 ([r8.1])).bind fun l9=>(P3 s3.2.1 ([r8.1.Kind])).bind fun l12=>some (.inl (l9,l12,ar .add .i64 s3.2.2 1))else some (.inr (.inl (s3.1,s3.2.1))):Option (((List A7)×(List Int)×Int) ⊕ (((List A7)×(List Int)) ⊕ Int)))) N ([],[],0)).bind fun s6=>match s6 with
   | .inl y13=>(Ba N aB.Op y13.2).bind fun r16=>if cmp .neq r16 0 then some ((⟨0,0,⟨#[]⟩⟩:A7),r16)else if cmp .eql aB.Op 9 then(B9 y13.1 0).bind fun x17=>(B9 y13.1 1).bind fun x18=>(X4 N (an (cmp .eql x17.Kind x18.Kind) (an (cmp .eql x17.Num x18.Num) (an (scmp .eql x17.Text x18.Text) true)))).bind fun r19=>some (r19,0)else if cmp .eql aB.Op 5 then(B9 y13.1 0).bind fun x20=>(B9 y13.1 (ar .sub .i64 (Ar.len y13.1) 1)).bind fun x21=>(Aj N x20.Num x21.Num (fun y1=>N4 N y1)).bind fun r22=>some (r22,0)else if cmp .eql aB.Op 6 then(B9 y13.1 0).bind fun x23=>(B9 y13.1 (ar .sub .i64 (Ar.len y13.1) 1)).bind fun x24=>(Ai N x23.Num x24.Num (fun y1=>N4 N y1)).bind fun r25=>some (r25,0)else if cmp .eql aB.Op 7 then(B9 y13.1 0).bind fun x26=>(B9 y13.1 (ar .sub .i64 (Ar.len y13.1) 1)).bind fun x27=>(Ah N x26.Num x27.Num).bind fun r28=>some (r28,0)else if cmp .eql aB.Op 8 then(B9 y13.1 0).bind fun x29=>(B9 y13.1 (ar .sub .i64 (Ar.len y13.1) 1)).bind fun x30=>(Ag N x29.Num x30.Num).bind fun r31=>some (r31,0)else if cmp .eql aB.Op 10 then(B9 y13.1 0).bind fun x32=>(B9 y13.1 (ar .sub .i64 (Ar.len y13.1) 1)).bind fun x33=>(Af N x32.Num x33.Num).bind fun r34=>some (r34,0)else if cmp .eql aB.Op 11 then(B9 y13.1 0).bind fun x35=>(B9 y13.1 (ar .sub .i64 (Ar.len y13.1) 1)).bind fun x36=>(Ae N x35.Num x36.Num).bind fun r37=>some (r37,0)else if cmp .eql aB.Op 12 then(B9 y13.1 0).bind fun x38=>(B9 y13.1 (ar .sub .i64 (Ar.len y13.1) 1)).bind fun x39=>(Ad N x38.Num x39.Num).bind fun r40=>some (r40,0)else(B9 y13.1 0).bind fun x41=>(B9 y13.1 (ar .sub .i64 (Ar.len y13.1) 1)).bind fun x42=>none
   | .inr y43=>some ((⟨0,0,⟨#[]⟩⟩:A7),y43)
def EL (N:Nat)(aB:A5)(bK:CH)(bC:Int)(bL:A3):Option (A7×Int):=(Ce N aB).bind fun r2=>if cmp .neq r2 0 then some ((⟨0,0,⟨#[]⟩⟩:A7),r2)else(((G7 N N (⟨bK,bC,bL,()⟩:N9) aB).bind fun r244=>some (r244.2,r244.1)):Option ((Int×A7))).bind fun s3=>some (s3.2,s3.1)
def Cd (N:Nat)(aB:A5)(bK:CH)(bC:Int)(bL:A3):Option Bool:=(EL N aB bK bC bL).bind fun r1=>if cmp .eql r1.2 0 then(X4 N true).bind fun r2=>some (an (cmp .eql r1.1.Kind r2.Kind) (an (cmp .eql r1.1.Num r2.Num) (an (scmp .eql r1.1.Text r2.Text) true)))else some false
def N7 (N:Nat)(aI:A8)(aG:List A1)(bW:Int):Option CH:=(Vk 16 16 ([]:List A3)).bind fun l3=>(loopN (fun(s5:Int×(List (List A3)))=>(if cmp .lss s5.1 (Ar.len aG)then(B9 aG s5.1).bind fun x8=>if cmp .lss x8.at_ bW then(B9 s5.2 x8.cS).bind fun x9=>(B9 aI.cV x8.at_).bind fun x14=>(P3 x9 ([x14])).bind fun l15=>(GZ s5.2 x8.cS (fun _=>l15)).bind fun l13=>some (.inl (ar .add .i64 s5.1 1,l13))else some (.inl (ar .add .i64 s5.1 1,s5.2))else some (.inr s5.2):Option ((Int×(List (List A3))) ⊕ (((List (List A3))))))) N (0,l3)).bind fun s7=>some (⟨s7⟩:CH)
def G0 (N:Nat)(aI:A8)(bN:A5)(aG:List A1)(bC:Int)(bE:Int):Option Bool:=(N7 N aI aG bE).bind fun r1=>(B9 aI.cV bE).bind fun x2=>(Cd N bN r1 bC x2).bind fun r3=>some r3
def Q8 (N:Nat)(aH:Int)(aJ:A8)(aM:A0)(aR:List A1):Option (List (List A1)):=((M3 (U2 (fun(s1:Int)=>(if cmp .lss s1 (Ar.len aJ.cV)then(B9 aJ.cV s1).bind fun x7=>if cmp .eql x7.Typ aM.Typ then(G0 N aJ aM.cO aR aM.Var s1).bind fun r8=>if r8 then M3 (some ([[(⟨aM.Var,s1⟩:A1)]],())) fun _=>some ([],.inl (ar .add .i64 s1 1))else some ([],.inl (ar .add .i64 s1 1))else some ([],.inl (ar .add .i64 s1 1))else some ([],.inr ()):Option (List (List A1)×((Int) ⊕ (Unit))))) N aH) fun s6=>some ([],())):Option (List (List A1)×Unit)).bind fun q=>some q.1
def J2 (N:Nat)(aI:A8)(aA:A0)(aL:List A1)(aN:Int):Option (List (List A1)):=Q8 N aN aI aA aL
def E1 (N:Nat)(aH:List (List A1)):Option (List (List A1)):=((M3 (U2 (fun(s1:Int)=>(if cmp .lss s1 (Ar.len aH)then(B9 aH s1).bind fun x7=>M3 (some ([x7],())) fun _=>some ([],.inl (ar .add .i64 s1 1))else some ([],.inr ()):Option (List (List A1)×((Int) ⊕ (Unit))))) N 0) fun s6=>some ([],())):Option (List (List A1)×Unit)).bind fun q=>some q.1
def M6 (N:Nat)(aG:List (List A1)):Option (List (List A1)):=E1 N aG
def AC (N:Nat)(aO:A1)(bA:A1):Option Int:=some (ar .sub .i64 aO.at_ bA.at_)
def K0 (N:Nat)(aC:List A1)(aD:List A1):Option (List A1):=(Vk 0 (ar .add .i64 (Ar.len aC) (Ar.len aD)) ((⟨0,0⟩:A1):A1)).bind fun l2=>(P3 l2 aC).bind fun l4=>(P3 l4 aD).bind fun l6=>(FT (fun y1 y2=>AC N y1 y2) l6).bind fun l7=>some l7
def J7 (N:Nat)(aG:List A1):Option Int:=(B9 aG (ar .sub .i64 (Ar.len aG) 1)).bind fun x1=>some x1.at_
def M7 (N:Nat)(aG:List A1)(aS:A1→Option Bool):Option Int:=(loopN (fun(s1:Int)=>(if cmp .lss s1 (Ar.len aG)then(B9 aG s1).bind fun x3=>(aS x3).bind fun r4=>if r4 then some (.inr (.inr s1))else some (.inl (ar .add .i64 s1 1))else some (.inr (.inl ())):Option ((Int) ⊕ (Unit ⊕ Int)))) N 0).bind fun s2=>match s2 with
 | .inl y5=>some (-1)
 | .inr y6=>some y6
def F5 (N:Nat)(aG:List A1)(aS:A1→Option Bool):Option Bool:=(M7 N aG aS).bind fun r1=>some (cmp .geq r1 0)
def R7 (N:Nat)(aO:A1)(aH:Int):Option Bool:=some (cmp .eql aO.at_ aH)
def Q7 (N:Nat)(aG:List A1)(bE:Int):Option Bool:=(F5 N aG (fun y1=>R7 N y1 bE)).bind fun r1=>some r1
def V2 (N:Nat)(aO:A1)(aH:List A1):Option Bool:=(Q7 N aH aO.at_).bind fun r1=>some r1
def Y8 (N:Nat)(aC:List A1)(aD:List A1):Option Bool:=(F5 N aC (fun y1=>V2 N y1 aD)).bind fun r1=>some r1
def R4 (N:Nat):Nat→List (List (List A1))→List A1→Option (List (List A1))
 |0,_,_=>none
 |n+1,bP,bJ=>((if cmp .eql (Ar.len bP) 0 then M3 (some ([bJ],())) fun _=>some ([],())else(B9 bP 0).bind fun x2=>M3 (U2 (fun(s3:Int)=>(if cmp .lss s3 (Ar.len x2)then(B9 x2 s3).bind fun x9=>(Y8 N bJ x9).bind fun r10=>if nt r10 then(IX bP (some 1) none none).bind fun l11=>(K0 N bJ x9).bind fun r13=>(R4 N n l11 r13).bind fun l14=>M3 (some (l14,())) fun _=>some ([],.inl (ar .add .i64 s3 1))else some ([],.inl (ar .add .i64 s3 1))else some ([],.inr ()):Option (List (List A1)×((Int) ⊕ (Unit))))) N 0) fun s8=>some ([],())):Option (List (List A1)×Unit)).bind fun q=>some q.1
def O6 (N:Nat) (aI:A8) (aA:A0) (aL:List A1) (aG:List A1):Option Bool:=if cmp .eql aA.Op 6 then(J7 N aG).bind fun r1=>(B9 aI.cV r1).bind fun x2=>(B9 aG 0).bind fun x3=>(B9 aI.cV x3.at_).bind fun x4=>some (cmp .leq (ar .sub .i64 x2.Time x4.Time) aA.Span)else if cmp .eql aA.Op 7 then(K0 N aL aG).bind fun r5=>(N7 N aI r5 (Ar.len aI.cV)).bind fun r6=>(Cd N aA.cO r6 (-1) (⟨0,0,0,0,[]⟩:A3)).bind fun r7=>some r7 else(K0 N aL aG).bind fun r8=>(B9 aG 0).bind fun x9=>(loopN (fun(s10:Int)=>((J7 N aG).bind fun r12=>if cmp .lss s10 r12 then(B9 aI.cV s10).bind fun x13=>if cmp .eql x13.Typ aA.Typ then(Q7 N aG s10).bind fun r14=>if nt r14 then(G0 N aI aA.cO r8 aA.Var s10).bind fun r15=>if r15 then some (.inr (.inr ()))else some (.inl (ar .add .i64 s10 1))else some (.inl (ar .add .i64 s10 1))else some (.inl (ar .add .i64 s10 1))else some (.inr (.inl ())):Option ((Int) ⊕ (Unit ⊕ Unit)))) N (ar .add .i64 x9.at_ 1)).bind fun s11=>match s11 with
   | .inl y16=>some true
   | .inr y17=>some false
mutual
def C3 (N:Nat):Nat→A8→A0→List A1→Int→Option (List (List A1))
 |0,_,_,_,_=>none
 |n+1,aI,aA,aL,aN=>(Aa N).bind fun r5=>(B9 ([fun y1 y2 y3 y4=>J2 N y1 y2 y3 y4,fun y1 y2 y3 y4=>K4 N n y1 y2 y3 y4,fun y1 y2 y3 y4=>K5 N n y1 y2 y3 y4,fun y1 y2 y3 y4=>K6 N n y1 y2 y3 y4,fun y1 y2 y3 y4=>J9 N n y1 y2 y3 y4,fun y1 y2 y3 y4=>E2 N n y1 y2 y3 y4,fun y1 y2 y3 y4=>E2 N n y1 y2 y3 y4,fun y1 y2 y3 y4=>E2 N n y1 y2 y3 y4]:List (A8→A0→(List A1)→Int→Option (List (List A1)))) aA.Op).bind fun f7=>(f7 aI aA aL aN).bind fun r8=>(G6 (fun(s11:(List (ByteArray×Bool))×(List (List A1))) (y10:(List A1))=>((L5 N y10).bind fun r17=>(HR s11.1 r17 (false:Bool)).bind fun r18=>if r18.1 then some (.inl (s11.1,s11.2))else(Ha s11.1 r17 true).bind fun l20=>(P3 s11.2 ([y10])).bind fun l22=>((if cmp .gtr (Ar.len l22) 4096 then none else some ()):Option (Unit)).bind fun s23=>if aI.full then some (.inr (l20,l22))else some (.inl (l20,l22)):Option (((List (ByteArray×Bool))×(List (List A1))) ⊕ (((List (ByteArray×Bool))×(List (List A1))))))) r8 (([]:List (ByteArray×Bool)),[])).bind fun o16=>match o16 with
  | .inl s28=>some s28.2
  | .inr y31=>some ([])
def K4 (N:Nat):Nat→A8→A0→List A1→Int→Option (List (List A1))
 |0,_,_,_,_=>none
 |n+1,aI,aA,aL,aN=>if cmp .eql (Ar.len aA.cN) 1 then(B9 aA.cN 0).bind fun x1=>(C3 N n aI x1 aL aN).bind fun r2=>(M6 N r2).bind fun r3=>some r3 else(IX aA.cN (some 1) none none).bind fun l6=>(B9 aA.cN 0).bind fun x8=>(J8 N n aI x8 aL aN (fun y1 y2=>J1 N n y1 y2 aI ({aA with cN:=l6}))).bind fun r9=>some r9
def K5 (N:Nat):Nat→A8→A0→List A1→Int→Option (List (List A1))
 |0,_,_,_,_=>none
 |n+1,aI,aA,aL,aN=>O7 N n aA aI aL aN
def K6 (N:Nat):Nat→A8→A0→List A1→Int→Option (List (List A1))
 |0,_,_,_,_=>none
 |n+1,aI,aA,aL,aN=>O8 N n aA aI aL aN
def J9 (N:Nat):Nat→A8→A0→List A1→Int→Option (List (List A1))
 |0,_,_,_,_=>none
 |n+1,aI,aA,aL,aN=>N0 N n aI aA aL aN
def E2 (N:Nat):Nat→A8→A0→List A1→Int→Option (List (List A1))
 |0,_,_,_,_=>none
 |n+1,aI,aA,aL,aN=>M9 N n aI aA aL aN
def J8 (N:Nat):Nat→A8→A0→List A1→Int→((List A1)→Int→Option (List (List A1)))→Option (List (List A1))
 |0,_,_,_,_,_=>none
 |n+1,aI,aA,aL,aN,bS=>M8 N n aI aA aL aN bS
def J1 (N:Nat):Nat→List A1→Int→A8→A0→Option (List (List A1))
 |0,_,_,_,_=>none
 |n+1,aL,aN,aJ,aM=>(C3 N n aJ aM aL aN).bind fun r1=>some r1
def O7 (N:Nat):Nat→A0→A8→List A1→Int→Option (List (List A1))
 |0,_,_,_,_=>none
 |n+1,aH,aJ,aM,aR=>((M3 (U2 (fun(s1:Int)=>(if cmp .lss s1 (Ar.len aH.cN)then(B9 aH.cN s1).bind fun x7=>(C3 N n aJ x7 aM aR).bind fun r8=>M3 (U2 (fun(s9:Int)=>(if cmp .lss s9 (Ar.len r8)then(B9 r8 s9).bind fun x15=>M3 (some ([x15],())) fun _=>some ([],.inl (ar .add .i64 s9 1))else some ([],.inr ()):Option (List (List A1)×((Int) ⊕ (Unit))))) N 0) fun s14=>some ([],.inl (ar .add .i64 s1 1))else some ([],.inr ()):Option (List (List A1)×((Int) ⊕ (Unit))))) N 0) fun s6=>some ([],())):Option (List (List A1)×Unit)).bind fun q=>some q.1
def O8 (N:Nat):Nat→A0→A8→List A1→Int→Option (List (List A1))
 |0,_,_,_,_=>none
 |n+1,aH,aJ,aM,aR=>((M3 (U2 (fun(s1:(List (List (List A1)))×Int)=>(if cmp .lss s1.2 (Ar.len aH.cN)then(B9 aH.cN s1.2).bind fun x8=>(C3 N n aJ x8 aM aR).bind fun r9=>(P3 s1.1 ([r9])).bind fun l11=>some ([],.inl (l11,ar .add .i64 s1.2 1))else some ([],.inr s1.1):Option (List (List A1)×(((List (List (List A1)))×Int) ⊕ (((List (List (List A1))))))))) N ([],0)) fun s7=>if nt aJ.full then(R4 N N s7 ([])).bind fun l13=>M3 (some (l13,())) fun _=>some ([],())else some ([],())):Option (List (List A1)×Unit)).bind fun q=>some q.1
def N0 (N:Nat):Nat→A8→A0→List A1→Int→Option (List (List A1))
 |0,_,_,_,_=>none
 | n+1,aH,aJ,aM,aR=>(((B9 aJ.cN 0).bind fun x1=>(C3 N n aH x1 aM aR).bind fun r2=>M3 (U2 (fun(s3:Int)=>(if cmp .lss s3 (Ar.len r2)then(B9 r2 s3).bind fun x9=>if aH.full then some ([],.inr (.inr ()))else M3 (some ([x9],())) fun _=>some ([],.inl (ar .add .i64 s3 1))else some ([],.inr (.inl ())):Option (List (List A1)×((Int) ⊕ (Unit ⊕ Unit))))) N 0) fun s8=>match s8 with
   | .inl y11=>(B9 aJ.cN 0).bind fun x12=>(J8 N n aH x12 aM aR (fun y1 y2=>G4 N n y1 y2 aH aJ)).bind fun r13=>M3 (AO (fun(_:Unit) (y15:(List A1))=>(M3 (some ([y15],())) fun _=>some ([],.inl ()):Option (List (List A1)×(Unit ⊕ Unit)))) r13 ()) fun o22=>match o22 with
    | .inl _=>some ([],())
    | .inr _=>none
   | .inr y25=>some ([],())):Option (List (List A1)×Unit)).bind fun q=>some q.1
def G4 (N:Nat):Nat→List A1→Int→A8→A0→Option (List (List A1))
 |0,_,_,_,_=>none
 |n+1,aL,aN,aJ,aM=>(C3 N n aJ aM aL aN).bind fun r1=>some r1
def M9 (N:Nat):Nat→A8→A0→List A1→Int→Option (List (List A1))
 |0,_,_,_,_=>none
 |n+1,aH,aJ,aM,aR=>(((B9 aJ.cN 0).bind fun x1=>(C3 N n aH x1 aM aR).bind fun r2=>M3 (U2 (fun(s3:Int)=>(if cmp .lss s3 (Ar.len r2)then(B9 r2 s3).bind fun x9=>(O6 N aH aJ aM x9).bind fun r10=>if r10 then M3 (some ([x9],())) fun _=>some ([],.inl (ar .add .i64 s3 1))else some ([],.inl (ar .add .i64 s3 1))else some ([],.inr ()):Option (List (List A1)×((Int) ⊕ (Unit))))) N 0) fun s8=>some ([],())):Option (List (List A1)×Unit)).bind fun q=>some q.1
def M8 (N:Nat):Nat→A8→A0→List A1→Int→((List A1)→Int→Option (List (List A1)))→Option (List (List A1))
 |0,_,_,_,_,_=>none
 | n + 1,aH,aJ,aM,aR,bU=>(((C3 N n aH aJ aM aR).bind fun r1=>M3 (U2 (fun(s2:Int)=>(if cmp .lss s2 (Ar.len r1)then(B9 r1 s2).bind fun x8=>(K0 N aM x8).bind fun r9=>(J7 N x8).bind fun r10=>(bU r9 (ar .add .i64 r10 1)).bind fun r11=>M3 (U2 (fun(s12:Int)=>(if cmp .lss s12 (Ar.len r11)then(B9 r11 s12).bind fun x18=>if aH.full then some ([],.inr (.inr ()))else(K0 N x8 x18).bind fun r19=>M3 (some ([r19],())) fun _=>some ([],.inl (ar .add .i64 s12 1))else some ([],.inr (.inl ())):Option (List (List A1)×((Int) ⊕ (Unit ⊕ Unit))))) N 0) fun s17=>match s17 with
       | .inl y21=>some ([],.inl (ar .add .i64 s2 1))
       | .inr y22=>some ([],.inr (.inr ()))else some ([],.inr (.inl ())):Option (List (List A1)×((Int) ⊕ (Unit ⊕ Unit))))) N 0) fun s7=>match s7 with
   | .inl y23=>some ([],())
   | .inr y24=>some ([],())):Option (List (List A1)×Unit)).bind fun q=>some q.1
end
def L6 (N:Nat)(aA:A0)(aF:List A3):Option ((List D3)×Int):=(AY N aA).bind fun r1=>if cmp .neq r1 0 then some ([],r1)else(BC N aF).bind fun r2=>if cmp .neq r2 0 then some ([],r2)else(C3 N N (⟨aF,false⟩:A8) aA ([]) 0).bind fun r3=>(loopN (fun(s5:Int×(List D3))=>(if cmp .lss s5.1 (Ar.len r3)then(B9 r3 s5.1).bind fun x8=>(loopN (fun(s10:Int×D3)=>(if cmp .lss s10.1 (Ar.len x8)then(B9 x8 s10.1).bind fun x13=>(B9 aF x13.at_).bind fun x14=>(Cg N x14).bind fun r15=>(P3 s10.2.cP ([(⟨x13.cS,r15⟩:C1)])).bind fun l17=>some (.inl (ar .add .i64 s10.1 1,{s10.2 with cP:=l17}))else some (.inr s10.2):Option ((Int×D3) ⊕ (D3)))) N (0,(⟨[]⟩:D3))).bind fun s12=>(P3 s5.2 ([s12])).bind fun l20=>some (.inl (ar .add .i64 s5.1 1,l20))else some (.inr s5.2):Option ((Int×(List D3)) ⊕ (((List D3)))))) N (0,([]:List D3))).bind fun s7=>(FT (fun y1 y2=>Z5 N y1 y2) s7).bind fun l22=>some (l22,0)
def V3 (N:Nat)(aA:A0)(aF:List A3):Option ((List D3)×Int):=(L6 N aA aF).bind fun r1=>some (r1.1,r1.2)
def CJ (N:Nat)(aA:A0)(aF:List A3):Option (Int×Int):=(L6 N aA aF).bind fun r1=>some (Ar.len r1.1,r1.2)
def CI (N:Nat)(aA:A0)(aF:List A3):Option (D3×Bool×Int):=(L6 N aA aF).bind fun r2=>if Ar.or (cmp .neq r2.2 0) (cmp .eql (Ar.len r2.1) 0)then some ((⟨[]⟩:D3),false,r2.2)else(B9 r2.1 0).bind fun x3=>some (x3,true,0)
def Fd (N:Nat)(aO:List Int):Option (List A3):=(loopN (fun(s1:(List A3)×Int)=>(if cmp .lss s1.2 (Ar.len aO)then(B9 aO s1.2).bind fun x4=>(P3 s1.1 ([(⟨0,s1.2,0,ar .add .i64 s1.2 1,[(⟨0,x4,⟨#[]⟩⟩:A7)]⟩:A3)])).bind fun l6=>some (.inl (l6,ar .add .i64 s1.2 1))else some (.inr s1.1):Option (((List A3)×Int) ⊕ (((List A3)))))) N ([],0)).bind fun s3=>some s3
def Bh (N:Nat)(aP:Int)(cB:List A0):Option A0:=some (⟨aP,cB,0,0,0,0,(⟨0,[],0,0,0,(⟨0,0,⟨#[]⟩⟩:A7)⟩:A5)⟩:A0)
def AF (N:Nat)(aK:Int)(bN:A5):Option A0:=some (⟨0,[],0,aK,0,0,bN⟩:A0)
def HB (N:Nat)(aD:Bool):Option A7:=if aD then some (⟨1,1,⟨#[]⟩⟩:A7)else some (⟨1,0,⟨#[]⟩⟩:A7)
def EH (N:Nat):Option A5:=(HB N true).bind fun r2=>some (⟨0,[],0,0,0,r2⟩:A5)
def Bi (N:Nat)(aC:A5)(aD:A5):Option A5:=some (⟨7,[aC,aD],0,0,0,(⟨0,0,⟨#[]⟩⟩:A7)⟩:A5)
def X9 (N:Nat)(aK:Int):Option A5:=some (⟨1,[],aK,0,0,(⟨0,0,⟨#[]⟩⟩:A7)⟩:A5)
def AH (N:Nat)(aU:Int):Option A5:=some (⟨0,[],0,0,0,(⟨0,aU,⟨#[]⟩⟩:A7)⟩:A5)
def Y0 (N:Nat):Option Bool:=(Fd N ([5,3,8,5])).bind fun r1=>(EH N).bind fun r2=>(AF N 0 r2).bind fun r3=>(X9 N 0).bind fun r4=>(X9 N 1).bind fun r5=>(Bi N r4 r5).bind fun r6=>(AF N 1 r6).bind fun r7=>(Bh N 1 ([r3,r7])).bind fun r8=>(EH N).bind fun r9=>(AF N 1 r9).bind fun r10=>(EH N).bind fun r11=>(AF N 2 r11).bind fun r12=>(Bh N 1 ([r10,r12])).bind fun r13=>(Bh N 5 ([r13])).bind fun r14=>(AH N 6).bind fun r16=>(X9 N 0).bind fun r17=>(Bi N r16 r17).bind fun r18=>(X9 N 0).bind fun r19=>(AH N 6).bind fun r20=>(Bi N r19 r20).bind fun r21=>(AF N 0 r21).bind fun r22=>(Bh N 4 ([r22])).bind fun r23=>(AH N 4).bind fun r24=>(X9 N 0).bind fun r25=>(Bi N r24 r25).bind fun r26=>(AF N 0 r26).bind fun r27=>(X9 N 1).bind fun r28=>(AH N 6).bind fun r29=>(Bi N r28 r29).bind fun r30=>(AF N 1 r30).bind fun r31=>(Bh N 3 ([r27,r31])).bind fun r32=>(loopN (fun(s33:Int)=>(if cmp .lss s33 5 then(B9 ([r8,(⟨6,[r8],0,0,0,1,(⟨0,[],0,0,0,(⟨0,0,⟨#[]⟩⟩:A7)⟩:A5)⟩:A0),{r14 with cO:=r18},r23,r32]) s33).bind fun x35=>(CJ N x35 r1).bind fun r37=>(V3 N x35 r1).bind fun r38=>if Ar.or (cmp .neq r37.2 0) (cmp .neq r38.2 0)then some (.inr (.inr ()))else(B9 ([3,1,4,7,7]) s33).bind fun x39=>if Ar.or (cmp .neq r37.1 x39) (cmp .neq (Ar.len r38.1) r37.1)then some (.inr (.inr ()))else some (.inl (ar .add .i64 s33 1))else some (.inr (.inl ())):Option ((Int) ⊕ (Unit ⊕ Unit)))) N 0).bind fun s34=>match s34 with
 | .inl y40=>(CI N r8 r1).bind fun r41=>if an (an (cmp .eql r41.2.2 0) r41.2.1) (cmp .eql (Ar.len r41.1.cP) 2)then(B9 r41.1.cP 1).bind fun x42=>some (an (cmp .eql x42.Var 1) (an (cmp .eql x42.Ref.Time 3) (an (cmp .eql x42.Ref.Source 0) (an (cmp .eql x42.Ref.Seq 2) true))))else some false
 | .inr y43=>some false
def W0 (N:Nat)(aA:A0):Option Bool:=some (Ar.or (cmp .eql aA.Op 5) (cmp .eql aA.Op 9))
def U0 (N:Nat)(aA:A0):Option Bool:=if cmp .eql aA.Op 0 then some true else(W0 N aA).bind fun r1=>some r1
def S7 (N:Nat)(aA:A0):Option Bool:=some (Ar.or (cmp .eql aA.Op 6) (cmp .eql aA.Op 10))
def P1 (N:Nat):Nat→A5→A5→Option Bool
 |0,_,_=>none
 | n+1,aC,aD=>if Ar.or (Ar.or (Ar.or (Ar.or (Ar.or (cmp .neq aC.Op aD.Op) (cmp .neq aC.Var aD.Var)) (cmp .neq aC.Field aD.Field)) (cmp .neq aC.Kind aD.Kind)) (nt (an (cmp .eql aC.Value.Kind aD.Value.Kind) (an (cmp .eql aC.Value.Num aD.Value.Num) (an (scmp .eql aC.Value.Text aD.Value.Text) true))))) (cmp .neq (Ar.len aC.cN) (Ar.len aD.cN))then some false else(loopN (fun(s1:Int)=>(if cmp .lss s1 (Ar.len aC.cN)then(B9 aC.cN s1).bind fun x3=>(B9 aD.cN s1).bind fun x4=>(P1 N n x3 x4).bind fun r5=>if nt r5 then some (.inr (.inr ()))else some (.inl (ar .add .i64 s1 1))else some (.inr (.inl ())):Option ((Int) ⊕ (Unit ⊕ Unit)))) N 0).bind fun s2=>match s2 with
   | .inl y6=>some true
   | .inr y7=>some false
def Y9 (N:Nat)(aA:A0):Option Bool:=(U0 N aA).bind fun r1=>some (Ar.or r1 (cmp .eql aA.Op 7))
def Dp (N:Nat)(aP:Int):Option (Bool×Bool):=some (Ar.or (Ar.or (Ar.or (cmp .eql aP 1) (cmp .eql aP 4)) (cmp .eql aP 2)) (cmp .eql aP 3),Ar.or (cmp .eql aP 1) (cmp .eql aP 4))
def CA (N:Nat)(aK:A7):Option Int:=if Ar.or (cmp .lss aK.Kind 0) (cmp .gtr aK.Kind 2)then some 1 else if cmp .eql aK.Kind 2 then if cmp .neq aK.Num 0 then some 3 else if cmp .gtr (Ar.slen aK.Text) 64 then some 13 else some 0 else if scmp .neq aK.Text (⟨#[]⟩:ByteArray)then some 3 else if Ar.or (Ar.or (an (cmp .eql aK.Kind 1) (Ar.or (cmp .lss aK.Num 0) (cmp .gtr aK.Num 1))) (cmp .lss aK.Num (-1099511627776))) (cmp .gtr aK.Num 1099511627776)then some 2 else some 0
def Cy (N:Nat)(aP:Int):Option Int:=((if cmp .eql aP 0 then some true else if cmp .eql aP 1 then some true else if cmp .eql aP 2 then some true else if cmp .eql aP 3 then some true else some (cmp .eql aP 4)):Option (Bool)).bind fun s1=>if s1 then some 0 else if cmp .eql aP 12 then some 1 else if cmp .eql aP 5 then some 2 else if cmp .eql aP 6 then some 2 else if cmp .eql aP 7 then some 2 else if cmp .eql aP 8 then some 2 else if cmp .eql aP 9 then some 2 else if cmp .eql aP 10 then some 2 else if cmp .eql aP 11 then some 2 else some (-1)
def Cz (N:Nat)(bI:Int)(aK:A7):Option Bool:=some (Ar.or (Ar.or (Ar.or (cmp .eql aK.Kind 0) (cmp .eql bI 0)) (cmp .eql bI 4)) (cmp .eql bI 5))
def BY (N:Nat) (aB:A5):Option Int:=(Cy N aB.Op).bind fun r1=>if cmp .lss r1 0 then some 1 else if cmp .neq (Ar.len aB.cN) r1 then some 15 else(Dp N aB.Op).bind fun r2=>if Ar.or (an r2.1 (Ar.or (cmp .lss aB.Var 0) (cmp .geq aB.Var 16))) (an r2.2 (Ar.or (cmp .lss aB.Field 0) (cmp .geq aB.Field 8)))then some 2 else if an (cmp .eql aB.Op 4) (Ar.or (cmp .lss aB.Kind 1) (cmp .gtr aB.Kind 5))then some 1 else((if Ar.or (cmp .eql aB.Op 4) (cmp .eql aB.Op 0)then(CA N aB.Value).bind fun r4=>if cmp .neq r4 0 then some (.inr r4)else some (.inl ())else some (.inl ())):Option (Unit ⊕ Int)).bind fun s3=>match s3 with
     | .inl y5=>if cmp .eql aB.Op 4 then(Cz N aB.Kind aB.Value).bind fun r6=>if Ar.or (nt r6) (an (cmp .eql aB.Kind 1) (nt (an (cmp .eql aB.Value.Kind 0) (an (cmp .eql aB.Value.Num 0) (an (scmp .eql aB.Value.Text (⟨#[]⟩)) true)))))then some 9 else if Ar.or (Ar.or (Ar.or (an (nt r2.1) (cmp .neq aB.Var 0)) (an (nt r2.2) (cmp .neq aB.Field 0))) (an (nt (cmp .eql aB.Op 4)) (cmp .neq aB.Kind 0))) (an (nt (Ar.or (cmp .eql aB.Op 4) (cmp .eql aB.Op 0))) (nt (an (cmp .eql aB.Value.Kind 0) (an (cmp .eql aB.Value.Num 0) (an (scmp .eql aB.Value.Text (⟨#[]⟩)) true)))))then some 3 else some 0 else if Ar.or (Ar.or (Ar.or (an (nt r2.1) (cmp .neq aB.Var 0)) (an (nt r2.2) (cmp .neq aB.Field 0))) (an (nt (cmp .eql aB.Op 4)) (cmp .neq aB.Kind 0))) (an (nt (Ar.or (cmp .eql aB.Op 4) (cmp .eql aB.Op 0))) (nt (an (cmp .eql aB.Value.Kind 0) (an (cmp .eql aB.Value.Num 0) (an (scmp .eql aB.Value.Text (⟨#[]⟩)) true)))))then some 3 else some 0
     | .inr y7=>some y7
def X8 (N:Nat):Nat→A5→Option Int
 |0,_=>none
 | n+1,aB=>(BY N aB).bind fun r1=>if cmp .neq r1 0 then some r1 else(loopN (fun(s2:Int)=>(if cmp .lss s2 (Ar.len aB.cN)then(B9 aB.cN s2).bind fun x4=>(X8 N n x4).bind fun r5=>if cmp .neq r5 0 then some (.inr (.inr r5))else some (.inl (ar .add .i64 s2 1))else some (.inr (.inl ())):Option ((Int) ⊕ (Unit ⊕ Int)))) N 0).bind fun s3=>match s3 with
   | .inl y6=>some 0
   | .inr y7=>some y7
def Bs (N:Nat)(aB:A5):Option Int:=(T3 N N aB 64).bind fun r1=>if cmp .gtr r1 64 then some 5 else(S9 N N aB).bind fun r2=>if cmp .gtr r2 12 then some 12 else(X8 N N aB).bind fun r3=>some r3
def Cw (N:Nat)(aA:A0):Option Bool:=if cmp .eql aA.Op 0 then some (cmp .eql (Ar.len aA.cN) 0)else((if cmp .eql aA.Op 1 then some true else if cmp .eql aA.Op 2 then some true else some (cmp .eql aA.Op 3)):Option (Bool)).bind fun s1=>if s1 then some (cmp .geq (Ar.len aA.cN) 2)else if cmp .eql aA.Op 8 then some (cmp .eql (Ar.len aA.cN) 2)else some (cmp .eql (Ar.len aA.cN) 1)
def X0 (N:Nat)(bF:Bool)(aU:Int)(bO:Int):Option Bool:=some (an bF (Ar.or (cmp .lss aU 0) (cmp .gtr aU bO)))
def U1 (N:Nat) (aA:A0):Option Int:=if Ar.or (cmp .lss aA.Op 0) (cmp .gtr aA.Op 10)then some 1 else(Cw N aA).bind fun r1=>if nt r1 then some 15 else(U0 N aA).bind fun r2=>(W0 N aA).bind fun r3=>if r3 then(Y9 N aA).bind fun r4=>(X0 N r2 aA.Typ 15).bind fun r5=>if r5 then some 2 else(X0 N r2 aA.Var 15).bind fun r6=>if r6 then some 2 else(X0 N true aA.cR 63).bind fun r7=>if r7 then some 2 else(S7 N aA).bind fun r8=>(X0 N r8 aA.Span 1099511627776).bind fun r9=>if r9 then some 2 else((if r4 then(Bs N aA.cO).bind fun r11=>if cmp .neq r11 0 then some (.inr r11)else some (.inl ())else some (.inl ())):Option (Unit ⊕ Int)).bind fun s10=>match s10 with
        | .inl y12=>if Ar.or (an (nt r2) (Ar.or (cmp .neq aA.Typ 0) (cmp .neq aA.Var 0))) (an (nt true) (cmp .neq aA.cR 0))then some 3 else(S7 N aA).bind fun r13=>if an (nt r13) (cmp .neq aA.Span 0)then some 3 else if nt r4 then(P1 N N aA.cO (⟨0,[],0,0,0,(⟨0,0,⟨#[]⟩⟩:A7)⟩:A5)).bind fun r14=>if nt r14 then some 3 else some 0 else some 0
        | .inr y15=>some y15 else(S7 N aA).bind fun r16=>(Y9 N aA).bind fun r17=>(X0 N r2 aA.Typ 15).bind fun r18=>if r18 then some 2 else(X0 N r2 aA.Var 15).bind fun r19=>if r19 then some 2 else(X0 N r16 aA.cR 63).bind fun r20=>if r20 then some 2 else(S7 N aA).bind fun r21=>(X0 N r21 aA.Span 1099511627776).bind fun r22=>if r22 then some 2 else((if r17 then(Bs N aA.cO).bind fun r24=>if cmp .neq r24 0 then some (.inr r24)else some (.inl ())else some (.inl ())):Option (Unit ⊕ Int)).bind fun s23=>match s23 with
        | .inl y25=>if Ar.or (an (nt r2) (Ar.or (cmp .neq aA.Typ 0) (cmp .neq aA.Var 0))) (an (nt r16) (cmp .neq aA.cR 0))then some 3 else(S7 N aA).bind fun r26=>if an (nt r26) (cmp .neq aA.Span 0)then some 3 else if nt r17 then(P1 N N aA.cO (⟨0,[],0,0,0,(⟨0,0,⟨#[]⟩⟩:A7)⟩:A5)).bind fun r27=>if nt r27 then some 3 else some 0 else some 0
        | .inr y28=>some y28
def Z0 (N:Nat) (aA:A0):Option Int:=(S6 N N aA 64).bind fun r1=>if cmp .gtr r1 64 then some 5 else(S8 N N aA).bind fun r2=>if cmp .gtr r2 12 then some 12 else(Q0 N N aA).bind fun r3=>(loopN (fun(s4:Int)=>(if cmp .lss s4 (Ar.len r3)then(B9 r3 s4).bind fun x6=>(U1 N x6).bind fun r7=>if cmp .neq r7 0 then some (.inr (.inr r7))else some (.inl (ar .add .i64 s4 1))else some (.inr (.inl ())):Option ((Int) ⊕ (Unit ⊕ Int)))) N 0).bind fun s5=>match s5 with
   | .inl y8=>some 0
   | .inr y9=>some y9
def BF (N:Nat)(aF:List A0):Option Bool:=(loopN (fun(s1:Int)=>(if cmp .lss s1 (Ar.len aF)then(B9 aF s1).bind fun x3=>if cmp .geq x3.Op 8 then some (.inr (.inr ()))else some (.inl (ar .add .i64 s1 1))else some (.inr (.inl ())):Option ((Int) ⊕ (Unit ⊕ Unit)))) N 0).bind fun s2=>match s2 with
 | .inl y4=>some true
 | .inr y5=>some false
def Cx (N:Nat) (aA:A0):Option Int:=(Z0 N aA).bind fun r1=>if cmp .neq r1 0 then some r1 else(Q0 N N aA).bind fun r2=>(BF N r2).bind fun r3=>if nt r3 then some 1 else(loopN (fun(s4:Int×Int×Int)=>(if cmp .lss s4.2.2 (Ar.len r2)then(B9 r2 s4.2.2).bind fun x6=>(U0 N x6).bind fun r7=>((if r7 then(B9 r2 s4.2.2).bind fun x9=>if cmp .neq x9.Var s4.1 then some (.inr ())else some (.inl (ar .add .i64 s4.1 1))else some (.inl s4.1)):Option (Int ⊕ Unit)).bind fun s8=>match s8 with
       | .inl y10=>(B9 r2 s4.2.2).bind fun x11=>(W0 N x11).bind fun r12=>if r12 then(B9 r2 s4.2.2).bind fun x13=>if cmp .neq x13.cR s4.2.1 then some (.inr (.inr ()))else some (.inl (y10,ar .add .i64 s4.2.1 1,ar .add .i64 s4.2.2 1))else(B9 r2 s4.2.2).bind fun x14=>(S7 N x14).bind fun r15=>if r15 then(B9 r2 s4.2.2).bind fun x16=>if cmp .neq x16.cR s4.2.1 then some (.inr (.inr ()))else some (.inl (y10,ar .add .i64 s4.2.1 1,ar .add .i64 s4.2.2 1))else some (.inl (y10,s4.2.1,ar .add .i64 s4.2.2 1))
       | .inr y17=>some (.inr (.inr ()))else some (.inr (.inl ())):Option ((Int×Int×Int) ⊕ (Unit ⊕ Unit)))) N (0,0,0)).bind fun s5=>match s5 with
   | .inl y18=>some 0
   | .inr y19=>some 14
def EC (N:Nat)(aB:A3):Option EO:=some (⟨aB.Time,aB.Source,aB.Seq⟩:EO)
def Bt (N:Nat)(aC:EO)(aD:EO):Option Int:=if cmp .neq aC.Time aD.Time then if cmp .lss aC.Time aD.Time then some (-1)else some 1 else if cmp .neq aC.Source aD.Source then if cmp .lss aC.Source aD.Source then some (-1)else some 1 else if cmp .lss aC.Seq aD.Seq then some (-1)else if cmp .gtr aC.Seq aD.Seq then some 1 else some 0
def CV (N:Nat)(aB:A3):Option Bool:=some (an (an (an (an (an (cmp .geq aB.Time 0) (cmp .leq aB.Time 1099511627776)) (cmp .geq aB.Source 0)) (cmp .lss aB.Source 8)) (cmp .geq aB.Seq 0)) (cmp .leq aB.Seq 1099511627776))
def BZ (N:Nat)(aC:A3)(aD:A3):Option Bool:=some (an (cmp .eql aC.Source aD.Source) (cmp .eql aC.Seq aD.Seq))
def Bu (N:Nat) (aF:List A3):Option Int:=if cmp .gtr (Ar.len aF) 4096 then some 5 else(loopN (fun(s1:Int)=>(if cmp .lss s1 (Ar.len aF)then(B9 aF s1).bind fun x3=>(CV N x3).bind fun r4=>if nt r4 then some (.inr (.inr 2))else if cmp .gtr s1 0 then(B9 aF (ar .sub .i64 s1 1)).bind fun x5=>(EC N x5).bind fun r6=>(B9 aF s1).bind fun x7=>(EC N x7).bind fun r8=>(Bt N r6 r8).bind fun r9=>if cmp .geq r9 0 then some (.inr (.inr 14))else(loopN (fun(s10:Int)=>(if cmp .lss s10 s1 then(B9 aF s10).bind fun x12=>(B9 aF s1).bind fun x13=>(BZ N x12 x13).bind fun r14=>if r14 then some (.inr (.inr ()))else some (.inl (ar .add .i64 s10 1))else some (.inr (.inl ())):Option ((Int) ⊕ (Unit ⊕ Unit)))) N 0).bind fun s11=>match s11 with
         | .inl y15=>some (.inl (ar .add .i64 s1 1))
         | .inr y16=>some (.inr (.inr 7))else(loopN (fun(s17:Int)=>(if cmp .lss s17 s1 then(B9 aF s17).bind fun x19=>(B9 aF s1).bind fun x20=>(BZ N x19 x20).bind fun r21=>if r21 then some (.inr (.inr ()))else some (.inl (ar .add .i64 s17 1))else some (.inr (.inl ())):Option ((Int) ⊕ (Unit ⊕ Unit)))) N 0).bind fun s18=>match s18 with
        | .inl y22=>some (.inl (ar .add .i64 s1 1))
        | .inr y23=>some (.inr (.inr 7))else some (.inr (.inl ())):Option ((Int) ⊕ (Unit ⊕ Int)))) N 0).bind fun s2=>match s2 with
  | .inl y24=>some 0
  | .inr y25=>some y25
def DR (N:Nat)(aA:A0)(aF:List A3):Option Int:=(Cx N aA).bind fun r1=>if cmp .neq r1 0 then some r1 else(Bu N aF).bind fun r2=>some r2
def Cv (N:Nat)(aC:C1)(aD:C1):Option Int:=(Bt N aC.Ref aD.Ref).bind fun r1=>if cmp .neq r1 0 then some r1 else if cmp .lss aC.Var aD.Var then some (-1)else if cmp .gtr aC.Var aD.Var then some 1 else some 0
def Z4 (N:Nat)(aC:D3)(aD:D3):Option Int:=(loopN (fun(s1:Int)=>(if an (cmp .lss s1 (Ar.len aC.cP)) (cmp .lss s1 (Ar.len aD.cP))then(B9 aC.cP s1).bind fun x3=>(B9 aD.cP s1).bind fun x4=>(Cv N x3 x4).bind fun r5=>if cmp .neq r5 0 then some (.inr (.inr r5))else some (.inl (ar .add .i64 s1 1))else some (.inr (.inl ())):Option ((Int) ⊕ (Unit ⊕ Int)))) N 0).bind fun s2=>match s2 with
 | .inl y6=>if cmp .lss (Ar.len aC.cP) (Ar.len aD.cP)then some (-1)else if cmp .gtr (Ar.len aC.cP) (Ar.len aD.cP)then some 1 else some 0
 | .inr y7=>some y7
end Go.Ab
