/- GTSp -/
import Derived.Test.YtanbgjgaafeplaaGreatDoorM10
set_option linter.all false
open Go.Ab.Ar (an ar cmp mx neg nt scmp wr)
namespace Go.Ab
variable [Ar]
instance :DecidableEq D2:=fun x y=>decidable_of_iff (x.source=y.source∧x.seq=y.seq) (by cases x;cases y;simp)
def Q9 (N:Nat):Nat→A1→Option (List A1)
 |0,_=>none
 |n+1,aA=>(loopN (fun(s1:(List A1)×Int)=>(if cmp .lss s1.2 (Ar.len aA.cL)then(B6 aA.cL s1.2).bind fun x4=>(Q9 N n x4).bind fun r5=>(H8 s1.1 r5).bind fun l7=>some (.inl (l7,ar .add .i64 s1.2 1))else some (.inr s1.1):Option (((List A1)×Int) ⊕ (((List A1)))))) N ([aA],0)).bind fun s3=>some s3
def U0 (N:Nat):Nat→A1→Int→Option Int
 |0,_,_=>none
 |n+1,aA,bC=>(loopN (fun(s1:Int×Int)=>(if an (cmp .lss s1.2 (Ar.len aA.cL)) (cmp .leq s1.1 bC)then(B6 aA.cL s1.2).bind fun x3=>(U0 N n x3 bC).bind fun r4=>some (.inl (ar .add .i64 s1.1 r4,ar .add .i64 s1.2 1))else some (.inr s1.1):Option ((Int×Int) ⊕ (Int)))) N (1,0)).bind fun s2=>some s2
def U2 (N:Nat):Nat→A1→Option Int
 |0,_=>none
 |n+1,aA=>(loopN (fun(s1:Int×Int)=>(if cmp .lss s1.2 (Ar.len aA.cL)then(B6 aA.cL s1.2).bind fun x3=>(U2 N n x3).bind fun r4=>some (.inl (mx s1.1 r4,ar .add .i64 s1.2 1))else some (.inr s1.1):Option ((Int×Int) ⊕ (Int)))) N (0,0)).bind fun s2=>some (ar .add .i64 s2 1)
def U4 (N:Nat):Nat→B0→Int→Option Int
 |0,_,_=>none
 |n+1,aB,bC=>(loopN (fun(s1:Int×Int)=>(if an (cmp .lss s1.2 (Ar.len aB.cL)) (cmp .leq s1.1 bC)then(B6 aB.cL s1.2).bind fun x3=>(U4 N n x3 bC).bind fun r4=>some (.inl (ar .add .i64 s1.1 r4,ar .add .i64 s1.2 1))else some (.inr s1.1):Option ((Int×Int) ⊕ (Int)))) N (1,0)).bind fun s2=>some s2
def U3 (N:Nat):Nat→B0→Option Int
 |0,_=>none
 |n+1,aB=>(loopN (fun(s1:Int×Int)=>(if cmp .lss s1.2 (Ar.len aB.cL)then(B6 aB.cL s1.2).bind fun x3=>(U3 N n x3).bind fun r4=>some (.inl (mx s1.1 r4,ar .add .i64 s1.2 1))else some (.inr s1.1):Option ((Int×Int) ⊕ (Int)))) N (0,0)).bind fun s2=>some (ar .add .i64 s2 1)
def BK (N:Nat)(aB:B0):Option Bool:=(U4 N N aB 200).bind fun r1=>if cmp .leq r1 200 then(U3 N N aB).bind fun r2=>some (cmp .leq r2 100)else some false
def Fm (N:Nat) (aA:A1):Option Bool:=(U0 N N aA 150).bind fun r1=>if cmp .gtr r1 150 then some false else(U2 N N aA).bind fun r2=>if cmp .gtr r2 60 then some false else(Q9 N N aA).bind fun r3=>(loopN (fun(s4:Int)=>(if cmp .lss s4 (Ar.len r3)then(B6 r3 s4).bind fun x6=>(BK N x6.cN).bind fun r7=>if nt r7 then some (.inr (.inr ()))else some (.inl (ar .add .i64 s4 1))else some (.inr (.inl ())):Option ((Int) ⊕ (Unit ⊕ Unit)))) N 0).bind fun s5=>match s5 with
   | .inl y8=>some true
   | .inr y9=>some false
def T5 (N:Nat):Nat→A1→Option Int
 |0,_=>none
 |n+1,aA=>((if cmp .eql aA.Op 0 then some 1 else some 0):Option (Int)).bind fun s1=>(loopN (fun(s2:Int×Int)=>(if cmp .lss s2.2 (Ar.len aA.cL)then(B6 aA.cL s2.2).bind fun x4=>(T5 N n x4).bind fun r5=>some (.inl (ar .add .i64 s2.1 r5,ar .add .i64 s2.2 1))else some (.inr s2.1):Option ((Int×Int) ⊕ (Int)))) N (s1,0)).bind fun s3=>some s3
def BI (N:Nat)(bD:Int)(aX:Int)(bC:Int):Option Int:=(loopN (fun(s1:Int×Int)=>(if an (cmp .lss s1.2 aX) (cmp .leq s1.1 bC)then some (.inl (ar .mul .i64 s1.1 bD,ar .add .i64 s1.2 1))else some (.inr s1.1):Option ((Int×Int) ⊕ (Int)))) N (1,0)).bind fun s2=>some s2
def Y4 (N:Nat):Nat→A1→Option Bool
 |0,_=>none
 | n+1,aA=>if cmp .eql aA.Op 4 then some true else(loopN (fun(s1:Int)=>(if cmp .lss s1 (Ar.len aA.cL)then(B6 aA.cL s1).bind fun x3=>(Y4 N n x3).bind fun r4=>if r4 then some (.inr (.inr ()))else some (.inl (ar .add .i64 s1 1))else some (.inr (.inl ())):Option ((Int) ⊕ (Unit ⊕ Unit)))) N 0).bind fun s2=>match s2 with
   | .inl y5=>some false
   | .inr y6=>some true
def CR (N:Nat) (aA:A1) (aF:List A7):Option Bool:=(Fm N aA).bind fun r1=>if Ar.or (nt r1) (cmp .gtr (Ar.len aF) 10)then some false else(loopN (fun(s2:Int)=>(if cmp .lss s2 (Ar.len aF)then(B6 aF s2).bind fun x4=>if cmp .gtr (Ar.len x4.Values) 9 then some (.inr (.inr ()))else some (.inl (ar .add .i64 s2 1))else some (.inr (.inl ())):Option ((Int) ⊕ (Unit ⊕ Unit)))) N 0).bind fun s3=>match s3 with
  | .inl y5=>(T5 N N aA).bind fun r6=>(BI N (ar .add .i64 r6 1) (Ar.len aF) 1500).bind fun r7=>if cmp .leq r7 1500 then some true else(Y4 N N aA).bind fun r8=>if nt r8 then(BI N (Ar.len aF) r6 1500).bind fun r9=>some (cmp .leq r9 1500)else some false
  | .inr y10=>some false
def T6 (N:Nat):Nat→A1→Option (List A1)
 |0,_=>none
 |n+1,aA=>((N2 (some ([aA],())) fun _=>N2 (V5 (fun(s2:Int)=>(if cmp .lss s2 (Ar.len aA.cL)then(B6 aA.cL s2).bind fun x8=>(T6 N n x8).bind fun l9=>N2 (some (l9,())) fun _=>some ([],.inl (ar .add .i64 s2 1))else some ([],.inr ()):Option (List A1×((Int) ⊕ (Unit))))) N 0) fun s7=>some ([],())):Option (List A1×Unit)).bind fun q=>some q.1
def Z9 (N:Nat)(aJ:A1):Option (List A1):=(((T6 N N aJ).bind fun l1=>N2 (some (l1,())) fun _=>some ([],())):Option (List A1×Unit)).bind fun q=>some q.1
def Q2 (N:Nat)(aA:A1):Option (List A1):=Z9 N aA
def T7 (N:Nat):Nat→A1→Option (Int×Int)
 |0,_=>none
 |n+1,aA=>(loopN (fun(s1:Int×Int×Int)=>(if cmp .lss s1.2.2 (Ar.len aA.cL)then(B6 aA.cL s1.2.2).bind fun x3=>(T7 N n x3).bind fun r4=>some (.inl (ar .add .i64 s1.1 r4.1,mx s1.2.1 r4.2,ar .add .i64 s1.2.2 1))else some (.inr (s1.1,s1.2.1)):Option ((Int×Int×Int) ⊕ ((Int×Int))))) N (1,0,0)).bind fun s2=>some (s2.1,ar .add .i64 s2.2 1)
def R0 (N:Nat)(bI:Bool)(aX:Int)(bN:Int):Option Bool:=some (Ar.or (nt bI) (an (cmp .geq aX 0) (cmp .leq aX bN)))
def Ba (N:Nat):Nat→B0→Option (Int×Int)
 |0,_=>none
 |n+1,aB=>(loopN (fun(s1:Int×Int×Int)=>(if cmp .lss s1.2.2 (Ar.len aB.cL)then(B6 aB.cL s1.2.2).bind fun x3=>(Ba N n x3).bind fun r4=>some (.inl (ar .add .i64 s1.1 r4.1,mx s1.2.1 r4.2,ar .add .i64 s1.2.2 1))else some (.inr (s1.1,s1.2.1)):Option ((Int×Int×Int) ⊕ ((Int×Int))))) N (1,0,0)).bind fun s2=>some (s2.1,ar .add .i64 s2.2 1)
def AP (N:Nat):Nat→B0→(B0→Option Int)→Option Int
 |0,_,_=>none
 | n+1,aB,bH=>(bH aB).bind fun r1=>if cmp .neq r1 0 then some r1 else(loopN (fun(s2:Int)=>(if cmp .lss s2 (Ar.len aB.cL)then(B6 aB.cL s2).bind fun x4=>(AP N n x4 bH).bind fun r5=>if cmp .neq r5 0 then some (.inr (.inr r5))else some (.inl (ar .add .i64 s2 1))else some (.inr (.inl ())):Option ((Int) ⊕ (Unit ⊕ Int)))) N 0).bind fun s3=>match s3 with
   | .inl y6=>some 0
   | .inr y7=>some y7
def Ek (N:Nat)(aL:Int):Option (Int×Bool):=if Ar.or (cmp .lss aL 0) (cmp .gtr aL 12)then some (0,false)else if cmp .lss aL 5 then some (0,true)else if cmp .eql aL 12 then some (1,true)else some (2,true)
def Fz (N:Nat)(aL:Int):Option (Bool×Bool):=((if cmp .eql aL 1 then some true else some (cmp .eql aL 4)):Option (Bool)).bind fun s1=>if s1 then some (true,true)else if cmp .eql aL 2 then some (true,false)else if cmp .eql aL 3 then some (true,false)else some (false,false)
def DO (N:Nat)(aH:A4):Option Int:=if an (cmp .eql aH.Kind 0) (Ar.or (cmp .lss aH.Num (-1099511627776)) (cmp .gtr aH.Num 1099511627776))then some 2 else if an (an (cmp .eql aH.Kind 1) (cmp .neq aH.Num 0)) (cmp .neq aH.Num 1)then some 2 else if cmp .gtr (Ar.slen aH.Text) 64 then some 13 else some 0
def T9 (N:Nat)(aH:A4):Option Int:=((if cmp .eql aH.Kind 0 then some true else some (cmp .eql aH.Kind 1)):Option (Bool)).bind fun s1=>if s1 then if scmp .neq aH.Text (⟨#[]⟩:ByteArray)then some 3 else(DO N aH).bind fun r2=>some r2 else if cmp .eql aH.Kind 2 then if cmp .neq aH.Num 0 then some 3 else(DO N aH).bind fun r3=>some r3 else some 1
def Ej (N:Nat)(aQ:Int)(aH:A4):Option Bool:=some (Ar.or (Ar.or (cmp .eql aH.Kind 0) (cmp .eql aQ 4)) (cmp .eql aQ 5))
def Ca (N:Nat)(aB:B0):Option Int:=(T9 N aB.Value).bind fun r1=>if cmp .neq r1 0 then some r1 else if cmp .eql aB.Op 4 then(Ej N aB.Kind aB.Value).bind fun r2=>if Ar.or (nt r2) (an (cmp .eql aB.Kind 1) (nt (an (cmp .eql aB.Value.Kind 0) (an (cmp .eql aB.Value.Num 0) (an (scmp .eql aB.Value.Text (⟨#[]⟩)) true)))))then some 9 else some 0 else some 0
def DL (N:Nat) (aB:B0):Option Int:=(Ek N aB.Op).bind fun r1=>if nt r1.2 then some 1 else if cmp .neq (Ar.len aB.cL) r1.1 then some 15 else(Fz N aB.Op).bind fun r2=>if Ar.or (an r2.1 (Ar.or (cmp .lss aB.Var 0) (cmp .geq aB.Var 16))) (an r2.2 (Ar.or (cmp .lss aB.Field 0) (cmp .geq aB.Field 8)))then some 2 else if an (cmp .eql aB.Op 4) (Ar.or (cmp .lss aB.Kind 1) (cmp .gtr aB.Kind 5))then some 1 else((if Ar.or (cmp .eql aB.Op 4) (cmp .eql aB.Op 0)then(Ca N aB).bind fun r4=>if cmp .neq r4 0 then some (.inr r4)else some (.inl ())else some (.inl ())):Option (Unit ⊕ Int)).bind fun s3=>match s3 with
     | .inl y5=>if Ar.or (Ar.or (Ar.or (an (nt r2.1) (cmp .neq aB.Var 0)) (an (nt r2.2) (cmp .neq aB.Field 0))) (an (nt (cmp .eql aB.Op 4)) (cmp .neq aB.Kind 0))) (an (nt (Ar.or (cmp .eql aB.Op 4) (cmp .eql aB.Op 0))) (nt (an (cmp .eql aB.Value.Kind 0) (an (cmp .eql aB.Value.Num 0) (an (scmp .eql aB.Value.Text (⟨#[]⟩)) true)))))then some 3 else some 0
     | .inr y6=>some y6
def Cy (N:Nat)(aB:B0):Option Int:=(Ba N N aB).bind fun r1=>if cmp .gtr r1.1 64 then some 5 else if cmp .gtr r1.2 12 then some 12 else(AP N N aB (fun y1=>DL N y1)).bind fun r2=>some r2
def DM (N:Nat):Nat→B0→B0→Option Bool
 |0,_,_=>none
 | n+1,aC,aD=>if Ar.or (Ar.or (Ar.or (Ar.or (Ar.or (cmp .neq aC.Op aD.Op) (cmp .neq aC.Var aD.Var)) (cmp .neq aC.Field aD.Field)) (cmp .neq aC.Kind aD.Kind)) (nt (an (cmp .eql aC.Value.Kind aD.Value.Kind) (an (cmp .eql aC.Value.Num aD.Value.Num) (an (scmp .eql aC.Value.Text aD.Value.Text) true))))) (cmp .neq (Ar.len aC.cL) (Ar.len aD.cL))then some false else(loopN (fun(s1:Int)=>(if cmp .lss s1 (Ar.len aC.cL)then(B6 aC.cL s1).bind fun x3=>(B6 aD.cL s1).bind fun x4=>(DM N n x3 x4).bind fun r5=>if nt r5 then some (.inr (.inr ()))else some (.inl (ar .add .i64 s1 1))else some (.inr (.inl ())):Option ((Int) ⊕ (Unit ⊕ Unit)))) N 0).bind fun s2=>match s2 with
   | .inl y6=>some true
   | .inr y7=>some false
def K7 (N:Nat)(bI:Bool)(aX:Int):Option Bool:=some (Ar.or bI (cmp .eql aX 0))
def Q4 (N:Nat) (aA:A1):Option Int:=if Ar.or (cmp .lss aA.Op 0) (cmp .geq aA.Op 11)then some 1 else(B6 G1 aA.Op).bind fun x1=>if Ar.or (cmp .lss (Ar.len aA.cL) x1.cS) (cmp .gtr (Ar.len aA.cL) x1.most)then some 15 else(R0 N x1.cP aA.Typ 15).bind fun r2=>if nt r2 then some 2 else(R0 N x1.cP aA.Var 15).bind fun r3=>if nt r3 then some 2 else(R0 N x1.scope aA.cQ 63).bind fun r4=>if nt r4 then some 2 else(R0 N x1.span aA.Span 1099511627776).bind fun r5=>if nt r5 then some 2 else((if x1.cond then(Cy N aA.cN).bind fun r7=>if cmp .neq r7 0 then some (.inr r7)else some (.inl ())else some (.inl ())):Option (Unit ⊕ Int)).bind fun s6=>match s6 with
       | .inl y8=>if nt x1.cond then(DM N N aA.cN (⟨0,[],0,0,0,(⟨0,0,⟨#[]⟩⟩:A4)⟩:B0)).bind fun r9=>if nt r9 then some 3 else(K7 N x1.cP aA.Typ).bind fun r10=>if nt r10 then some 3 else(K7 N x1.cP aA.Var).bind fun r11=>if nt r11 then some 3 else(K7 N x1.scope aA.cQ).bind fun r12=>if nt r12 then some 3 else(K7 N x1.span aA.Span).bind fun r13=>if nt r13 then some 3 else some 0 else(K7 N x1.cP aA.Typ).bind fun r14=>if nt r14 then some 3 else(K7 N x1.cP aA.Var).bind fun r15=>if nt r15 then some 3 else(K7 N x1.scope aA.cQ).bind fun r16=>if nt r16 then some 3 else(K7 N x1.span aA.Span).bind fun r17=>if nt r17 then some 3 else some 0
       | .inr y18=>some y18
def W8 (N:Nat) (aA:A1):Option Int:=(T7 N N aA).bind fun r2=>if cmp .gtr r2.1 64 then some 5 else if cmp .gtr r2.2 12 then some 12 else(Q2 N aA).bind fun r3=>(G8 (fun(s6:Unit) (y5:A1)=>((Q4 N y5).bind fun r10=>if cmp .neq r10 0 then some (.inr r10)else some (.inl ()):Option ((Unit) ⊕ (Int)))) r3 ()).bind fun o9=>match o9 with
   | .inl s13=>some 0
   | .inr y14=>some y14
def Bp (N:Nat) (aA:A1):Option Int:=(W8 N aA).bind fun r2=>if cmp .neq r2 0 then some r2 else(Q2 N aA).bind fun r3=>(G8 (fun(s6:Unit) (y5:A1)=>(if cmp .geq y5.Op 8 then some (.inr 1)else some (.inl ()):Option ((Unit) ⊕ (Int)))) r3 ()).bind fun o9=>match o9 with
  | .inl s12=>some 0
  | .inr y13=>some y13
def Bq (N:Nat)(aA:A1):Option (Int×Int×Bool):=(Q2 N aA).bind fun r4=>(G8 (fun(s7:Bool×Int×Int) (y6:A1)=>((B6 G1 y6.Op).bind fun x11=>((if x11.cP then some (an s7.1 (cmp .eql y6.Var s7.2.2),ar .add .i64 s7.2.2 1)else some (s7.1,s7.2.2)):Option ((Bool×Int))).bind fun s12=>if x11.scope then some (.inl (an s12.1 (cmp .eql y6.cQ s7.2.1),ar .add .i64 s7.2.1 1,s12.2))else some (.inl (s12.1,s7.2.1,s12.2)):Option ((Bool×Int×Int) ⊕ (Unit)))) r4 (true,0,0)).bind fun o10=>match o10 with
 | .inl s15=>some (s15.2.2,s15.2.1,s15.1)
 | .inr _=>none
def Br (N:Nat)(aA:A1):Option Int:=(Bp N aA).bind fun r1=>if cmp .neq r1 0 then some r1 else(Bq N aA).bind fun r2=>if nt r2.2.2 then some 14 else some 0
def Cz (N:Nat)(aB:A7):Option Hx:=some (⟨aB.Time,aB.Source,aB.Seq⟩:Hx)
def D8 (N:Nat)(bL:List E0)(bP:List E0)(bZ:E0→E0→Option Int):Option Int:=(loopN (fun(s1:Int)=>(if cmp .lss s1 (Ar.len bL)then(B6 bL s1).bind fun x3=>if cmp .geq s1 (Ar.len bP)then some (.inr (.inr 1))else(B6 bP s1).bind fun x5=>(bZ x3 x5).bind fun r6=>if cmp .neq r6 0 then some (.inr (.inr r6))else some (.inl (ar .add .i64 s1 1))else some (.inr (.inl ())):Option ((Int) ⊕ (Unit ⊕ Int)))) N 0).bind fun s2=>match s2 with
 | .inl y7=>if cmp .lss (Ar.len bL) (Ar.len bP)then some (-1)else some 0
 | .inr y8=>some y8
def BF (N:Nat)(bR:List Int):Option Int:=(loopN (fun(s1:Int)=>(if cmp .lss s1 (Ar.len bR)then(B6 bR s1).bind fun x3=>if cmp .neq x3 0 then some (.inr (.inr x3))else some (.inl (ar .add .i64 s1 1))else some (.inr (.inl ())):Option ((Int) ⊕ (Unit ⊕ Int)))) N 0).bind fun s2=>match s2 with
 | .inl y4=>some 0
 | .inr y5=>some y5
def Bv (N:Nat)(aP:Int):Option Bool:=some (cmp .neq aP aP)
def J0 (N:Nat)(aP:Int)(bG:Int):Option Int:=(Bv N aP).bind fun r1=>(Bv N bG).bind fun r2=>if r1 then if r2 then some 0 else some (-1)else if r2 then some 1 else if cmp .lss aP bG then some (-1)else if cmp .gtr aP bG then some 1 else some 0
def DZ (N:Nat)(aC:Hx)(aD:Hx):Option Int:=(J0 N aC.Time aD.Time).bind fun r1=>(J0 N aC.Source aD.Source).bind fun r2=>(J0 N aC.Seq aD.Seq).bind fun r3=>(BF N ([r1,r2,r3])).bind fun r4=>some r4
def W0 (N:Nat)(aP:E0)(bG:E0):Option Int:=(DZ N aP.Ref bG.Ref).bind fun r1=>(J0 N aP.Var bG.Var).bind fun r2=>(BF N ([r1,r2])).bind fun r3=>some r3
def Am (N:Nat)(aC:E4)(aD:E4):Option Int:=(D8 N aC.cO aD.cO (fun y1 y2=>W0 N y1 y2)).bind fun r1=>some r1
def CK (N:Nat)(aB:A7):Option Bool:=some (an (an (an (an (an (cmp .geq aB.Time 0) (cmp .leq aB.Time 1099511627776)) (cmp .geq aB.Source 0)) (cmp .lss aB.Source 8)) (cmp .geq aB.Seq 0)) (cmp .leq aB.Seq 1099511627776))
def Bu (N:Nat)(aC:A7)(aD:A7):Option Int:=(Cz N aC).bind fun r1=>(Cz N aD).bind fun r2=>if an (cmp .eql r1.Time r2.Time) (an (cmp .eql r1.Source r2.Source) (an (cmp .eql r1.Seq r2.Seq) true))then some 0 else(J0 N aC.Time aD.Time).bind fun r3=>(J0 N aC.Source aD.Source).bind fun r4=>(J0 N aC.Seq aD.Seq).bind fun r5=>(BF N ([r3,r4,r5])).bind fun r6=>some r6
def Cp (N:Nat)(aB:A7):Option D2:=some (⟨aB.Source,aB.Seq⟩:D2)
def BV (N:Nat) (aF:List A7):Option Int:=if cmp .gtr (Ar.len aF) 4096 then some 5 else(loopN (fun(s3:Int×(List (D2×Bool)))=>(if cmp .lss s3.1 (Ar.len aF)then(B6 aF s3.1).bind fun x6=>(CK N x6).bind fun r8=>if nt r8 then some (.inr (.inr (2,s3.2)))else if cmp .gtr s3.1 0 then(B6 aF (ar .sub .i64 s3.1 1)).bind fun x9=>(Bu N x9 x6).bind fun r10=>if cmp .geq r10 0 then some (.inr (.inr (14,s3.2)))else(Cp N x6).bind fun r11=>(IS s3.2 r11 (false:Bool)).bind fun r12=>if r12.1 then some (.inr (.inr (7,s3.2)))else(Cp N x6).bind fun r13=>(HV s3.2 r13 true).bind fun l15=>some (.inl (ar .add .i64 s3.1 1,l15))else(Cp N x6).bind fun r16=>(IS s3.2 r16 (false:Bool)).bind fun r17=>if r17.1 then some (.inr (.inr (7,s3.2)))else(Cp N x6).bind fun r18=>(HV s3.2 r18 true).bind fun l20=>some (.inl (ar .add .i64 s3.1 1,l20))else some (.inr (.inl s3.2)):Option ((Int×(List (D2×Bool))) ⊕ (((List (D2×Bool))) ⊕ (Int×(List (D2×Bool))))))) N (0,([]:List (D2×Bool)))).bind fun s5=>match s5 with
  | .inl y21=>some 0
  | .inr y23=>some y23.1
def Au (N:Nat):Option Unit:=some ()
def EZ (N:Nat)(bA:Int):Option ByteArray:=LM bA
def V0 (N:Nat)(bF:List Int)(bA:Int)(bD:Int):Option (List Int):=if cmp .eql bD 10 then if cmp .lss bA 100 then(EZ N (wr .i64 bA)).bind fun r1=>(H8 bF (Kw r1)).bind fun l3=>some l3 else none else none
def X9 (N:Nat)(bF:List Int)(bA:Int)(bD:Int):Option (List Int):=if cmp .lss bA 0 then(H8 bF ([45])).bind fun l2=>(V0 N l2 (neg .u64 (wr .u64 bA)) bD).bind fun l3=>some l3 else(V0 N bF (wr .u64 bA) bD).bind fun l5=>some l5
def G0 (N:Nat)(bF:List Int)(bA:Int)(bD:Int):Option (List Int):=(X9 N bF bA bD).bind fun l1=>some l1
def L9 (N:Nat)(aI:List A0):Option ByteArray:=(loopN (fun(s2:Int×(List Int))=>(if cmp .lss s2.1 (Ar.len aI)then(B6 aI s2.1).bind fun x5=>(G0 N s2.2 x5.cR 10).bind fun l6=>(((H8 l6 ([64])).bind fun l90=>(G0 N l90 x5.at_ 10).bind fun l209=>(H8 l209 ([32])).bind fun l290=>some l290):Option (((List Int)))).bind fun s8=>some (.inl (ar .add .i64 s2.1 1,s8))else some (.inr s2.2):Option ((Int×(List Int)) ⊕ (((List Int)))))) N (0,([]:List Int))).bind fun s4=>(TB s4).bind fun r411=>some r411
def O7 (N:Nat)(aX:Int):Option A4:=some (⟨0,aX,⟨#[]⟩⟩:A4)
def AC (N:Nat)(aC:Int)(aD:Int)(aM:Int→Option A4):Option A4:=(aM (ar .add .i64 aC aD)).bind fun r2=>some r2
def AB (N:Nat)(aC:Int)(aD:Int)(aM:Int→Option A4):Option A4:=(aM (ar .sub .i64 aC aD)).bind fun r2=>some r2
def FM (N:Nat)(aD:Bool):Option A4:=if aD then some (⟨1,1,⟨#[]⟩⟩:A4)else some (⟨1,0,⟨#[]⟩⟩:A4)
def Y9 (N:Nat)(aD:Bool):Option A4:=(FM N aD).bind fun r2=>some r2
def AA (N:Nat)(aC:Int)(aD:Int):Option A4:=(Y9 N (cmp .lss aC aD)).bind fun r2=>some r2
def Az (N:Nat)(aC:Int)(aD:Int):Option A4:=(Y9 N (cmp .leq aC aD)).bind fun r2=>some r2
def Ay (N:Nat)(aC:Int)(aD:Int):Option A4:=(Y9 N (an (cmp .eql aC 1) (cmp .eql aD 1))).bind fun r2=>some r2
def Ax (N:Nat)(aC:Int)(aD:Int):Option A4:=(Y9 N (Ar.or (cmp .eql aC 1) (cmp .eql aD 1))).bind fun r2=>some r2
def Aw (N:Nat)(aC:Int)(aJ:Int):Option A4:=(Y9 N (cmp .neq aC 1)).bind fun r2=>some r2
def Gv (N:Nat):Option Unit:=some ()
def M5 (N:Nat)(aP:P2)(aH:Int):Option (List A7):=if Ar.or (cmp .lss aH 0) (cmp .geq aH (Ar.len aP.env.cT))then some ([])else(B6 aP.env.cT aH).bind fun x1=>some x1
def Ad (N:Nat)(aB:A7)(aW:Int):Option (A4×Int):=if cmp .geq aW (Ar.len aB.Values)then some ((⟨0,0,⟨#[]⟩⟩:A4),6)else(B6 aB.Values aW).bind fun x2=>some (x2,0)
def W1 (N:Nat)(aQ:Int):Option Bool:=some (an (cmp .geq aQ 0) (cmp .leq aQ 5))
def S5 (N:Nat)(aQ:Int)(aH:A4):Option Bool:=some (Ar.or (cmp .eql aH.Kind 0) (an (an (cmp .neq aQ 1) (cmp .neq aQ 2)) (cmp .neq aQ 3)))
def M9 (N:Nat)(aQ:Int)(aH:A4):Option Int:=(T9 N aH).bind fun r1=>if cmp .neq r1 0 then some r1 else(S5 N aQ aH).bind fun r2=>if nt r2 then some 9 else some 0
def G4 (N:Nat)(cA:B9)(aF:List A4)(cB:B9→A4→Option B9):Option B9:=(loopN (fun(s3:Int×B9)=>(if cmp .lss s3.1 (Ar.len aF)then(B6 aF s3.1).bind fun x5=>(cB s3.2 x5).bind fun r6=>some (.inl (ar .add .i64 s3.1 1,r6))else some (.inr s3.2):Option ((Int×B9) ⊕ (B9)))) N (0,cA)).bind fun s4=>some s4
def Bk (N:Nat):Option A4:=some (⟨0,0,⟨#[]⟩⟩:A4)
def Bj (N:Nat)(bE:A4)(aJ:A4):Option A4:=some (⟨0,ar .add .i64 bE.Num aJ.Num,⟨#[]⟩⟩:A4)
def Bi (N:Nat)(bE:A4)(aJ:A4):Option A4:=some (⟨0,Ar.mn bE.Num aJ.Num,⟨#[]⟩⟩:A4)
def Bh (N:Nat)(bE:A4)(aJ:A4):Option A4:=some (⟨0,mx bE.Num aJ.Num,⟨#[]⟩⟩:A4)
def Bg (N:Nat)(bE:A4):Option A4:=some bE
def Bf (N:Nat)(bE:A4):Option A4:=some bE
def X2 (N:Nat)(aQ:Int)(aC:A4)(aD:A4):Option A4:=if cmp .eql aQ 0 then(Bk N).bind fun r2=>some r2 else if cmp .eql aQ 1 then(Bj N aC aD).bind fun r3=>some r3 else if cmp .eql aQ 2 then(Bi N aC aD).bind fun r4=>some r4 else if cmp .eql aQ 3 then(Bh N aC aD).bind fun r5=>some r5 else if cmp .eql aQ 4 then(Bg N aC).bind fun r6=>some r6 else if cmp .eql aQ 5 then(Bf N aD).bind fun r7=>some r7 else none
def Bb (N:Nat)(aC:B9)(aD:B9):Option B9:=if cmp .eql aC.Count 0 then some aD else if cmp .eql aD.Count 0 then some aC else(X2 N aC.Kind aC.Value aD.Value).bind fun r2=>some (⟨aC.Kind,ar .add .i64 aC.Count aD.Count,r2⟩:B9)
def Z0 (N:Nat)(aQ:Int)(aH:A4):Option A4:=if cmp .eql aQ 0 then some (⟨0,0,⟨#[]⟩⟩:A4)else some aH
def M7 (N:Nat)(aC:B9)(aH:A4)(aM:Int):Option B9:=(Z0 N aM aH).bind fun r2=>(Bb N aC (⟨aM,1,r2⟩:B9)).bind fun r3=>some r3
def Ak (N:Nat)(aC:B9):Option Int:=(W1 N aC.Kind).bind fun r1=>if nt r1 then some 1 else if Ar.or (cmp .lss aC.Count 0) (cmp .gtr aC.Count 4096)then some 2 else if Ar.or (cmp .eql aC.Count 0) (cmp .eql aC.Kind 0)then if nt (an (cmp .eql aC.Value.Kind 0) (an (cmp .eql aC.Value.Num 0) (an (scmp .eql aC.Value.Text (⟨#[]⟩)) true)))then some 3 else some 0 else if cmp .eql aC.Kind 1 then if nt (an (an (an (cmp .eql aC.Value.Kind 0) (scmp .eql aC.Value.Text (⟨#[]⟩:ByteArray))) (cmp .geq aC.Value.Num (neg .i64 (ar .mul .i64 aC.Count 1099511627776)))) (cmp .leq aC.Value.Num (ar .mul .i64 aC.Count 1099511627776)))then some 3 else some 0 else(T9 N aC.Value).bind fun r2=>if cmp .eql r2 0 then(S5 N aC.Kind aC.Value).bind fun r3=>if nt r3 then some 3 else some 0 else some 3
def Bc (N:Nat)(aC:B9)(aY:A4):Option (A4×Int):=(Ak N aC).bind fun r2=>if cmp .neq r2 0 then some ((⟨0,0,⟨#[]⟩⟩:A4),r2)else(M9 N aC.Kind aY).bind fun r3=>if cmp .neq r3 0 then some ((⟨0,0,⟨#[]⟩⟩:A4),r3)else if cmp .eql aC.Kind 0 then some ((⟨0,aC.Count,⟨#[]⟩⟩:A4),0)else if an (cmp .eql aC.Count 0) (cmp .neq aC.Kind 1)then some (aY,0)else some (aC.Value,0)
def Ci (N:Nat) (aQ:Int) (aF:List A4) (aY:A4):Option (A4×Int):=(W1 N aQ).bind fun r2=>if nt r2 then some ((⟨0,0,⟨#[]⟩⟩:A4),1)else if cmp .gtr (Ar.len aF) 4096 then some ((⟨0,0,⟨#[]⟩⟩:A4),5)else(loopN (fun(s3:Int)=>(if cmp .lss s3 (Ar.len aF)then(B6 aF s3).bind fun x5=>(M9 N aQ x5).bind fun r6=>if cmp .neq r6 0 then some (.inr (.inr r6))else some (.inl (ar .add .i64 s3 1))else some (.inr (.inl ())):Option ((Int) ⊕ (Unit ⊕ Int)))) N 0).bind fun s4=>match s4 with
   | .inl y7=>(G4 N (⟨aQ,0,(⟨0,0,⟨#[]⟩⟩:A4)⟩:B9) aF (fun y1 y2=>M7 N y1 y2 aQ)).bind fun r8=>(Bc N r8 aY).bind fun r9=>some (r9.1,r9.2)
   | .inr y10=>some ((⟨0,0,⟨#[]⟩⟩:A4),y10)
def R5 (N:Nat)(aP:P2)(aB:B0):Option (A4×Int):=(M5 N aP aB.Var).bind fun r2=>(loopN (fun(s3:(List A4)×Int)=>(if cmp .lss s3.2 (Ar.len r2)then(B6 r2 s3.2).bind fun x6=>(Ad N x6 aB.Field).bind fun r7=>if cmp .neq r7.2 0 then some (.inr (.inr r7.2))else(H8 s3.1 ([r7.1])).bind fun l9=>some (.inl (l9,ar .add .i64 s3.2 1))else some (.inr (.inl s3.1)):Option (((List A4)×Int) ⊕ (((List A4)) ⊕ Int)))) N ([],0)).bind fun s5=>match s5 with
 | .inl y10=>(Ci N aB.Kind y10 aB.Value).bind fun r12=>some (r12.1,r12.2)
 | .inr y13=>some ((⟨0,0,⟨#[]⟩⟩:A4),y13)
def T3 (N:Nat) (aP:P2) (aB:B0):Option (A4×Int):=(M5 N aP aB.Var).bind fun r2=>if cmp .eql aB.Op 0 then some (aB.Value,0)else if cmp .eql aB.Op 3 then some ((⟨0,Ar.len r2,⟨#[]⟩⟩:A4),0)else if cmp .eql aB.Op 4 then(R5 N aP aB).bind fun r3=>some (r3.1,r3.2)else((if cmp .neq aB.Var aP.own then if cmp .eql (Ar.len r2) 0 then some (.inr ())else(B6 r2 (ar .sub .i64 (Ar.len r2) 1)).bind fun x6=>some (.inl x6)else some (.inl aP.event)):Option (A7 ⊕ Unit)).bind fun s5=>match s5 with
    | .inl y7=>if cmp .eql aB.Op 2 then some ((⟨0,y7.Time,⟨#[]⟩⟩:A4),0)else(Ad N y7 aB.Field).bind fun r8=>((if cmp .eql r8.2 0 then(T9 N r8.1).bind fun r10=>some r10 else some r8.2):Option (Int)).bind fun s9=>if cmp .neq s9 0 then some ((⟨0,0,⟨#[]⟩⟩:A4),s9)else some (r8.1,0)
    | .inr y11=>some ((⟨0,0,⟨#[]⟩⟩:A4),10)
def Bt (N:Nat)(aL:Int)(bB:List Int):Option Int:=(loopN (fun(s1:Int)=>(if cmp .lss s1 (Ar.len bB)then(B6 bB s1).bind fun x3=>((if cmp .eql aL 5 then some true else if cmp .eql aL 6 then some true else if cmp .eql aL 7 then some true else some (cmp .eql aL 8)):Option (Bool)).bind fun s4=>if s4 then if nt (cmp .eql x3 0)then some (.inr (.inr ()))else some (.inl (ar .add .i64 s1 1))else((if cmp .eql aL 10 then some true else if cmp .eql aL 11 then some true else some (cmp .eql aL 12)):Option (Bool)).bind fun s5=>if s5 then if nt (cmp .eql x3 1)then some (.inr (.inr ()))else some (.inl (ar .add .i64 s1 1))else if cmp .eql aL 9 then(B6 bB 0).bind fun x6=>if nt (cmp .eql x3 x6)then some (.inr (.inr ()))else some (.inl (ar .add .i64 s1 1))else some (.inl (ar .add .i64 s1 1))else some (.inr (.inl ())):Option ((Int) ⊕ (Unit ⊕ Unit)))) N 0).bind fun s2=>match s2 with
 | .inl y7=>some 0
 | .inr y8=>some 9
def I1 (N:Nat):Nat→P2→B0→Option (A4×Int)
 |0,_,_=>none
 | n+1,aP,aB=>if cmp .eql (Ar.len aB.cL) 0 then(T3 N aP aB).bind fun r2=>some (r2.1,r2.2)else(loopN (fun(s3:(List A4)×(List Int)×Int)=>(if cmp .lss s3.2.2 (Ar.len aB.cL)then(B6 aB.cL s3.2.2).bind fun x7=>(I1 N n aP x7).bind fun r8=>if cmp .neq r8.2 0 then some (.inr (.inr r8.2))else(H8 s3.1 ([r8.1])).bind fun l9=>(H8 s3.2.1 ([r8.1.Kind])).bind fun l12=>some (.inl (l9,l12,ar .add .i64 s3.2.2 1))else some (.inr (.inl (s3.1,s3.2.1))):Option (((List A4)×(List Int)×Int) ⊕ (((List A4)×(List Int)) ⊕ Int)))) N ([],[],0)).bind fun s6=>match s6 with
   | .inl y13=>(Bt N aB.Op y13.2).bind fun r16=>if cmp .neq r16 0 then some ((⟨0,0,⟨#[]⟩⟩:A4),r16)else if cmp .eql aB.Op 9 then(B6 y13.1 0).bind fun x17=>(B6 y13.1 1).bind fun x18=>(Y9 N (an (cmp .eql x17.Kind x18.Kind) (an (cmp .eql x17.Num x18.Num) (an (scmp .eql x17.Text x18.Text) true)))).bind fun r19=>some (r19,0)else if cmp .eql aB.Op 5 then(B6 y13.1 0).bind fun x20=>(B6 y13.1 (ar .sub .i64 (Ar.len y13.1) 1)).bind fun x21=>(AC N x20.Num x21.Num (fun y1=>O7 N y1)).bind fun r22=>some (r22,0)else if cmp .eql aB.Op 6 then(B6 y13.1 0).bind fun x23=>(B6 y13.1 (ar .sub .i64 (Ar.len y13.1) 1)).bind fun x24=>(AB N x23.Num x24.Num (fun y1=>O7 N y1)).bind fun r25=>some (r25,0)else if cmp .eql aB.Op 7 then(B6 y13.1 0).bind fun x26=>(B6 y13.1 (ar .sub .i64 (Ar.len y13.1) 1)).bind fun x27=>(AA N x26.Num x27.Num).bind fun r28=>some (r28,0)else if cmp .eql aB.Op 8 then(B6 y13.1 0).bind fun x29=>(B6 y13.1 (ar .sub .i64 (Ar.len y13.1) 1)).bind fun x30=>(Az N x29.Num x30.Num).bind fun r31=>some (r31,0)else if cmp .eql aB.Op 10 then(B6 y13.1 0).bind fun x32=>(B6 y13.1 (ar .sub .i64 (Ar.len y13.1) 1)).bind fun x33=>(Ay N x32.Num x33.Num).bind fun r34=>some (r34,0)else if cmp .eql aB.Op 11 then(B6 y13.1 0).bind fun x35=>(B6 y13.1 (ar .sub .i64 (Ar.len y13.1) 1)).bind fun x36=>(Ax N x35.Num x36.Num).bind fun r37=>some (r37,0)else if cmp .eql aB.Op 12 then(B6 y13.1 0).bind fun x38=>(B6 y13.1 (ar .sub .i64 (Ar.len y13.1) 1)).bind fun x39=>(Aw N x38.Num x39.Num).bind fun r40=>some (r40,0)else(B6 y13.1 0).bind fun x41=>(B6 y13.1 (ar .sub .i64 (Ar.len y13.1) 1)).bind fun x42=>none
   | .inr y43=>some ((⟨0,0,⟨#[]⟩⟩:A4),y43)
def FA (N:Nat)(aB:B0)(aR:Bd)(aT:Int)(aU:A7):Option (A4×Int):=(Cy N aB).bind fun r2=>if cmp .neq r2 0 then some ((⟨0,0,⟨#[]⟩⟩:A4),r2)else(((I1 N N (⟨aR,aT,aU,()⟩:P2) aB).bind fun r244=>some (r244.2,r244.1)):Option ((Int×A4))).bind fun s3=>some (s3.2,s3.1)
def Cx (N:Nat)(aB:B0)(aR:Bd)(aT:Int)(aU:A7):Option Bool:=(FA N aB aR aT aU).bind fun r1=>if cmp .eql r1.2 0 then(Y9 N true).bind fun r2=>some (an (cmp .eql r1.1.Kind r2.Kind) (an (cmp .eql r1.1.Num r2.Num) (an (scmp .eql r1.1.Text r2.Text) true)))else some false
def P0 (N:Nat)(aK:B3)(aI:List A0)(bX:Int):Option Bd:=(TW 16 16 ([]:List A7)).bind fun l3=>(loopN (fun(s5:Int×(List (List A7)))=>(if cmp .lss s5.1 (Ar.len aI)then(B6 aI s5.1).bind fun x8=>if cmp .lss x8.at_ bX then(B6 s5.2 x8.cR).bind fun x9=>(B6 aK.cU x8.at_).bind fun x14=>(H8 x9 ([x14])).bind fun l15=>(HU s5.2 x8.cR (fun _=>l15)).bind fun l13=>some (.inl (ar .add .i64 s5.1 1,l13))else some (.inl (ar .add .i64 s5.1 1,s5.2))else some (.inr s5.2):Option ((Int×(List (List A7))) ⊕ (((List (List A7))))))) N (0,l3)).bind fun s7=>some (⟨s7⟩:Bd)
def G7 (N:Nat)(aK:B3)(bM:B0)(aI:List A0)(aT:Int)(aZ:Int):Option Bool:=(P0 N aK aI aZ).bind fun r1=>(B6 aK.cU aZ).bind fun x2=>(Cx N bM r1 aT x2).bind fun r3=>some r3
def R8 (N:Nat)(aJ:Int)(aM:B3)(aO:A1)(aS:List A0):Option (List (List A0)):=((N2 (V5 (fun(s1:Int)=>(if cmp .lss s1 (Ar.len aM.cU)then(B6 aM.cU s1).bind fun x7=>if cmp .eql x7.Typ aO.Typ then(G7 N aM aO.cN aS aO.Var s1).bind fun r8=>if r8 then N2 (some ([[(⟨aO.Var,s1⟩:A0)]],())) fun _=>some ([],.inl (ar .add .i64 s1 1))else some ([],.inl (ar .add .i64 s1 1))else some ([],.inl (ar .add .i64 s1 1))else some ([],.inr ()):Option (List (List A0)×((Int) ⊕ (Unit))))) N aJ) fun s6=>some ([],())):Option (List (List A0)×Unit)).bind fun q=>some q.1
def J5 (N:Nat)(aK:B3)(aA:A1)(aN:List A0)(aG:Int):Option (List (List A0)):=R8 N aG aK aA aN
def E3 (N:Nat)(aJ:List (List A0)):Option (List (List A0)):=((N2 (V5 (fun(s1:Int)=>(if cmp .lss s1 (Ar.len aJ)then(B6 aJ s1).bind fun x7=>N2 (some ([x7],())) fun _=>some ([],.inl (ar .add .i64 s1 1))else some ([],.inr ()):Option (List (List A0)×((Int) ⊕ (Unit))))) N 0) fun s6=>some ([],())):Option (List (List A0)×Unit)).bind fun q=>some q.1
def N6 (N:Nat)(aI:List (List A0)):Option (List (List A0)):=E3 N aI
def AU (N:Nat)(aP:A0)(bG:A0):Option Int:=some (ar .sub .i64 aP.at_ bG.at_)
def K6 (N:Nat)(aC:List A0)(aD:List A0):Option (List A0):=(TW 0 (ar .add .i64 (Ar.len aC) (Ar.len aD)) ((⟨0,0⟩:A0):A0)).bind fun l2=>(H8 l2 aC).bind fun l4=>(H8 l4 aD).bind fun l6=>(GL (fun y1 y2=>AU N y1 y2) l6).bind fun l7=>some l7
def K3 (N:Nat)(aI:List A0):Option Int:=(B6 aI (ar .sub .i64 (Ar.len aI) 1)).bind fun x1=>some x1.at_
def N7 (N:Nat)(aI:List A0)(bH:A0→Option Bool):Option Int:=(loopN (fun(s1:Int)=>(if cmp .lss s1 (Ar.len aI)then(B6 aI s1).bind fun x3=>(bH x3).bind fun r4=>if r4 then some (.inr (.inr s1))else some (.inl (ar .add .i64 s1 1))else some (.inr (.inl ())):Option ((Int) ⊕ (Unit ⊕ Int)))) N 0).bind fun s2=>match s2 with
 | .inl y5=>some (-1)
 | .inr y6=>some y6
def G6 (N:Nat)(aI:List A0)(bH:A0→Option Bool):Option Bool:=(N7 N aI bH).bind fun r1=>some (cmp .geq r1 0)
def S7 (N:Nat)(aP:A0)(aJ:Int):Option Bool:=some (cmp .eql aP.at_ aJ)
def R7 (N:Nat)(aI:List A0)(aZ:Int):Option Bool:=(G6 N aI (fun y1=>S7 N y1 aZ)).bind fun r1=>some r1
def W4 (N:Nat)(aP:A0)(aJ:List A0):Option Bool:=(R7 N aJ aP.at_).bind fun r1=>some r1
def Ag (N:Nat)(aC:List A0)(aD:List A0):Option Bool:=(G6 N aC (fun y1=>W4 N y1 aD)).bind fun r1=>some r1
def S1 (N:Nat):Nat→List (List (List A0))→List A0→Option (List (List A0))
 |0,_,_=>none
 |n+1,bO,bK=>((if cmp .eql (Ar.len bO) 0 then N2 (some ([bK],())) fun _=>some ([],())else(B6 bO 0).bind fun x2=>N2 (V5 (fun(s3:Int)=>(if cmp .lss s3 (Ar.len x2)then(B6 x2 s3).bind fun x9=>(Ag N bK x9).bind fun r10=>if nt r10 then(N1 bO (some 1) none none).bind fun l11=>(K6 N bK x9).bind fun r13=>(S1 N n l11 r13).bind fun l14=>N2 (some (l14,())) fun _=>some ([],.inl (ar .add .i64 s3 1))else some ([],.inl (ar .add .i64 s3 1))else some ([],.inr ()):Option (List (List A0)×((Int) ⊕ (Unit))))) N 0) fun s8=>some ([],())):Option (List (List A0)×Unit)).bind fun q=>some q.1
def P6 (N:Nat) (aK:B3) (aA:A1) (aN:List A0) (aI:List A0):Option Bool:=if cmp .eql aA.Op 6 then(K3 N aI).bind fun r1=>(B6 aK.cU r1).bind fun x2=>(B6 aI 0).bind fun x3=>(B6 aK.cU x3.at_).bind fun x4=>some (cmp .leq (ar .sub .i64 x2.Time x4.Time) aA.Span)else if cmp .eql aA.Op 7 then(K6 N aN aI).bind fun r5=>(P0 N aK r5 (Ar.len aK.cU)).bind fun r6=>(Cx N aA.cN r6 (-1) (⟨0,0,0,0,[]⟩:A7)).bind fun r7=>some r7 else(K6 N aN aI).bind fun r8=>(B6 aI 0).bind fun x9=>(loopN (fun(s10:Int)=>((K3 N aI).bind fun r12=>if cmp .lss s10 r12 then(B6 aK.cU s10).bind fun x13=>if cmp .eql x13.Typ aA.Typ then(R7 N aI s10).bind fun r14=>if nt r14 then(G7 N aK aA.cN r8 aA.Var s10).bind fun r15=>if r15 then some (.inr (.inr ()))else some (.inl (ar .add .i64 s10 1))else some (.inl (ar .add .i64 s10 1))else some (.inl (ar .add .i64 s10 1))else some (.inr (.inl ())):Option ((Int) ⊕ (Unit ⊕ Unit)))) N (ar .add .i64 x9.at_ 1)).bind fun s11=>match s11 with
   | .inl y16=>some true
   | .inr y17=>some false
mutual
def C8 (N:Nat):Nat→B3→A1→List A0→Int→Option (List (List A0))
 |0,_,_,_,_=>none
 |n+1,aK,aA,aN,aG=>(Au N).bind fun r5=>(B6 ([fun y1 y2 y3 y4=>J5 N y1 y2 y3 y4,fun y1 y2 y3 y4=>L4 N n y1 y2 y3 y4,fun y1 y2 y3 y4=>L5 N n y1 y2 y3 y4,fun y1 y2 y3 y4=>L6 N n y1 y2 y3 y4,fun y1 y2 y3 y4=>K5 N n y1 y2 y3 y4,fun y1 y2 y3 y4=>E5 N n y1 y2 y3 y4,fun y1 y2 y3 y4=>E5 N n y1 y2 y3 y4,fun y1 y2 y3 y4=>E5 N n y1 y2 y3 y4]:List (B3→A1→(List A0)→Int→Option (List (List A0)))) aA.Op).bind fun f7=>(f7 aK aA aN aG).bind fun r8=>(G8 (fun(s11:(List (ByteArray×Bool))×(List (List A0))) (y10:(List A0))=>((L9 N y10).bind fun r17=>(IS s11.1 r17 (false:Bool)).bind fun r18=>if r18.1 then some (.inl (s11.1,s11.2))else(HV s11.1 r17 true).bind fun l20=>(H8 s11.2 ([y10])).bind fun l22=>((if cmp .gtr (Ar.len l22) 4096 then none else some ()):Option (Unit)).bind fun s23=>if aK.full then some (.inr (l20,l22))else some (.inl (l20,l22)):Option (((List (ByteArray×Bool))×(List (List A0))) ⊕ (((List (ByteArray×Bool))×(List (List A0))))))) r8 (([]:List (ByteArray×Bool)),[])).bind fun o16=>match o16 with
  | .inl s28=>some s28.2
  | .inr y31=>some ([])
def L4 (N:Nat):Nat→B3→A1→List A0→Int→Option (List (List A0))
 |0,_,_,_,_=>none
 |n+1,aK,aA,aN,aG=>if cmp .eql (Ar.len aA.cL) 1 then(B6 aA.cL 0).bind fun x1=>(C8 N n aK x1 aN aG).bind fun r2=>(N6 N r2).bind fun r3=>some r3 else(N1 aA.cL (some 1) none none).bind fun l6=>(B6 aA.cL 0).bind fun x8=>(K4 N n aK x8 aN aG (fun y1 y2=>J4 N n y1 y2 aK ({aA with cL:=l6}))).bind fun r9=>some r9
def L5 (N:Nat):Nat→B3→A1→List A0→Int→Option (List (List A0))
 |0,_,_,_,_=>none
 |n+1,aK,aA,aN,aG=>P7 N n aA aK aN aG
def L6 (N:Nat):Nat→B3→A1→List A0→Int→Option (List (List A0))
 |0,_,_,_,_=>none
 |n+1,aK,aA,aN,aG=>P8 N n aA aK aN aG
def K5 (N:Nat):Nat→B3→A1→List A0→Int→Option (List (List A0))
 |0,_,_,_,_=>none
 |n+1,aK,aA,aN,aG=>O0 N n aK aA aN aG
def E5 (N:Nat):Nat→B3→A1→List A0→Int→Option (List (List A0))
 |0,_,_,_,_=>none
 |n+1,aK,aA,aN,aG=>N9 N n aK aA aN aG
def K4 (N:Nat):Nat→B3→A1→List A0→Int→((List A0)→Int→Option (List (List A0)))→Option (List (List A0))
 |0,_,_,_,_,_=>none
 |n+1,aK,aA,aN,aG,bS=>N8 N n aK aA aN aG bS
def J4 (N:Nat):Nat→List A0→Int→B3→A1→Option (List (List A0))
 |0,_,_,_,_=>none
 |n+1,aN,aG,aM,aO=>(C8 N n aM aO aN aG).bind fun r1=>some r1
def P7 (N:Nat):Nat→A1→B3→List A0→Int→Option (List (List A0))
 |0,_,_,_,_=>none
 |n+1,aJ,aM,aO,aS=>((N2 (V5 (fun(s1:Int)=>(if cmp .lss s1 (Ar.len aJ.cL)then(B6 aJ.cL s1).bind fun x7=>(C8 N n aM x7 aO aS).bind fun r8=>N2 (V5 (fun(s9:Int)=>(if cmp .lss s9 (Ar.len r8)then(B6 r8 s9).bind fun x15=>N2 (some ([x15],())) fun _=>some ([],.inl (ar .add .i64 s9 1))else some ([],.inr ()):Option (List (List A0)×((Int) ⊕ (Unit))))) N 0) fun s14=>some ([],.inl (ar .add .i64 s1 1))else some ([],.inr ()):Option (List (List A0)×((Int) ⊕ (Unit))))) N 0) fun s6=>some ([],())):Option (List (List A0)×Unit)).bind fun q=>some q.1
def P8 (N:Nat):Nat→A1→B3→List A0→Int→Option (List (List A0))
 |0,_,_,_,_=>none
 |n+1,aJ,aM,aO,aS=>((N2 (V5 (fun(s1:(List (List (List A0)))×Int)=>(if cmp .lss s1.2 (Ar.len aJ.cL)then(B6 aJ.cL s1.2).bind fun x8=>(C8 N n aM x8 aO aS).bind fun r9=>(H8 s1.1 ([r9])).bind fun l11=>some ([],.inl (l11,ar .add .i64 s1.2 1))else some ([],.inr s1.1):Option (List (List A0)×(((List (List (List A0)))×Int) ⊕ (((List (List (List A0))))))))) N ([],0)) fun s7=>if nt aM.full then(S1 N N s7 ([])).bind fun l13=>N2 (some (l13,())) fun _=>some ([],())else some ([],())):Option (List (List A0)×Unit)).bind fun q=>some q.1
def O0 (N:Nat):Nat→B3→A1→List A0→Int→Option (List (List A0))
 |0,_,_,_,_=>none
 | n+1,aJ,aM,aO,aS=>(((B6 aM.cL 0).bind fun x1=>(C8 N n aJ x1 aO aS).bind fun r2=>N2 (V5 (fun(s3:Int)=>(if cmp .lss s3 (Ar.len r2)then(B6 r2 s3).bind fun x9=>if aJ.full then some ([],.inr (.inr ()))else N2 (some ([x9],())) fun _=>some ([],.inl (ar .add .i64 s3 1))else some ([],.inr (.inl ())):Option (List (List A0)×((Int) ⊕ (Unit ⊕ Unit))))) N 0) fun s8=>match s8 with
   | .inl y11=>(B6 aM.cL 0).bind fun x12=>(K4 N n aJ x12 aO aS (fun y1 y2=>H7 N n y1 y2 aJ aM)).bind fun r13=>N2 (Be (fun(_:Unit) (y15:(List A0))=>(N2 (some ([y15],())) fun _=>some ([],.inl ()):Option (List (List A0)×(Unit ⊕ Unit)))) r13 ()) fun o22=>match o22 with
    | .inl _=>some ([],())
    | .inr _=>none
   | .inr y25=>some ([],())):Option (List (List A0)×Unit)).bind fun q=>some q.1
def H7 (N:Nat):Nat→List A0→Int→B3→A1→Option (List (List A0))
 |0,_,_,_,_=>none
 |n+1,aN,aG,aM,aO=>(C8 N n aM aO aN aG).bind fun r1=>some r1
def N9 (N:Nat):Nat→B3→A1→List A0→Int→Option (List (List A0))
 |0,_,_,_,_=>none
 |n+1,aJ,aM,aO,aS=>(((B6 aM.cL 0).bind fun x1=>(C8 N n aJ x1 aO aS).bind fun r2=>N2 (V5 (fun(s3:Int)=>(if cmp .lss s3 (Ar.len r2)then(B6 r2 s3).bind fun x9=>(P6 N aJ aM aO x9).bind fun r10=>if r10 then N2 (some ([x9],())) fun _=>some ([],.inl (ar .add .i64 s3 1))else some ([],.inl (ar .add .i64 s3 1))else some ([],.inr ()):Option (List (List A0)×((Int) ⊕ (Unit))))) N 0) fun s8=>some ([],())):Option (List (List A0)×Unit)).bind fun q=>some q.1
def N8 (N:Nat):Nat→B3→A1→List A0→Int→((List A0)→Int→Option (List (List A0)))→Option (List (List A0))
 |0,_,_,_,_,_=>none
 | n + 1,aJ,aM,aO,aS,bV=>(((C8 N n aJ aM aO aS).bind fun r1=>N2 (V5 (fun(s2:Int)=>(if cmp .lss s2 (Ar.len r1)then(B6 r1 s2).bind fun x8=>(K6 N aO x8).bind fun r9=>(K3 N x8).bind fun r10=>(bV r9 (ar .add .i64 r10 1)).bind fun r11=>N2 (V5 (fun(s12:Int)=>(if cmp .lss s12 (Ar.len r11)then(B6 r11 s12).bind fun x18=>if aJ.full then some ([],.inr (.inr ()))else(K6 N x8 x18).bind fun r19=>N2 (some ([r19],())) fun _=>some ([],.inl (ar .add .i64 s12 1))else some ([],.inr (.inl ())):Option (List (List A0)×((Int) ⊕ (Unit ⊕ Unit))))) N 0) fun s17=>match s17 with
       | .inl y21=>some ([],.inl (ar .add .i64 s2 1))
       | .inr y22=>some ([],.inr (.inr ()))else some ([],.inr (.inl ())):Option (List (List A0)×((Int) ⊕ (Unit ⊕ Unit))))) N 0) fun s7=>match s7 with
   | .inl y23=>some ([],())
   | .inr y24=>some ([],())):Option (List (List A0)×Unit)).bind fun q=>some q.1
end
def O1 (N:Nat)(aA:A1)(aF:List A7):Option ((List E4)×Int):=(Br N aA).bind fun r1=>if cmp .neq r1 0 then some ([],r1)else(BV N aF).bind fun r2=>if cmp .neq r2 0 then some ([],r2)else(C8 N N (⟨aF,false⟩:B3) aA ([]) 0).bind fun r3=>(loopN (fun(s5:Int×(List E4))=>(if cmp .lss s5.1 (Ar.len r3)then(B6 r3 s5.1).bind fun x8=>(loopN (fun(s10:Int×E4)=>(if cmp .lss s10.1 (Ar.len x8)then(B6 x8 s10.1).bind fun x13=>(B6 aF x13.at_).bind fun x14=>(Cz N x14).bind fun r15=>(H8 s10.2.cO ([(⟨x13.cR,r15⟩:E0)])).bind fun l17=>some (.inl (ar .add .i64 s10.1 1,{s10.2 with cO:=l17}))else some (.inr s10.2):Option ((Int×E4) ⊕ (E4)))) N (0,(⟨[]⟩:E4))).bind fun s12=>(H8 s5.2 ([s12])).bind fun l20=>some (.inl (ar .add .i64 s5.1 1,l20))else some (.inr s5.2):Option ((Int×(List E4)) ⊕ (((List E4)))))) N (0,([]:List E4))).bind fun s7=>(GL (fun y1 y2=>Am N y1 y2) s7).bind fun l22=>some (l22,0)
def W5 (N:Nat)(aA:A1)(aF:List A7):Option ((List E4)×Int):=(O1 N aA aF).bind fun r1=>some (r1.1,r1.2)
def Df (N:Nat)(aA:A1)(aF:List A7):Option (Int×Int):=(O1 N aA aF).bind fun r1=>some (Ar.len r1.1,r1.2)
def De (N:Nat)(aA:A1)(aF:List A7):Option (E4×Bool×Int):=(O1 N aA aF).bind fun r2=>if Ar.or (cmp .neq r2.2 0) (cmp .eql (Ar.len r2.1) 0)then some ((⟨[]⟩:E4),false,r2.2)else(B6 r2.1 0).bind fun x3=>some (x3,true,0)
def FZ (N:Nat)(aP:List Int):Option (List A7):=(loopN (fun(s1:(List A7)×Int)=>(if cmp .lss s1.2 (Ar.len aP)then(B6 aP s1.2).bind fun x4=>(H8 s1.1 ([(⟨0,s1.2,0,ar .add .i64 s1.2 1,[(⟨0,x4,⟨#[]⟩⟩:A4)]⟩:A7)])).bind fun l6=>some (.inl (l6,ar .add .i64 s1.2 1))else some (.inr s1.1):Option (((List A7)×Int) ⊕ (((List A7)))))) N ([],0)).bind fun s3=>some s3
def BB (N:Nat)(aL:Int)(aV:List A1):Option A1:=some (⟨aL,aV,0,0,0,0,(⟨0,[],0,0,0,(⟨0,0,⟨#[]⟩⟩:A4)⟩:B0)⟩:A1)
def AY (N:Nat)(aH:Int)(bM:B0):Option A1:=some (⟨0,[],0,aH,0,0,bM⟩:A1)
def O3 (N:Nat)(aD:Bool):Option A4:=if aD then some (⟨1,1,⟨#[]⟩⟩:A4)else some (⟨1,0,⟨#[]⟩⟩:A4)
def Fv (N:Nat):Option B0:=(O3 N true).bind fun r2=>some (⟨0,[],0,0,0,r2⟩:B0)
def BC (N:Nat)(aC:B0)(aD:B0):Option B0:=some (⟨7,[aC,aD],0,0,0,(⟨0,0,⟨#[]⟩⟩:A4)⟩:B0)
def Z4 (N:Nat)(aH:Int):Option B0:=some (⟨1,[],aH,0,0,(⟨0,0,⟨#[]⟩⟩:A4)⟩:B0)
def AZ (N:Nat)(aX:Int):Option B0:=some (⟨0,[],0,0,0,(⟨0,aX,⟨#[]⟩⟩:A4)⟩:B0)
def BR (N:Nat):Option Bool:=(FZ N ([5,3,8,5])).bind fun r1=>(Fv N).bind fun r2=>(AY N 0 r2).bind fun r3=>(Z4 N 0).bind fun r4=>(Z4 N 1).bind fun r5=>(BC N r4 r5).bind fun r6=>(AY N 1 r6).bind fun r7=>(BB N 1 ([r3,r7])).bind fun r8=>(Fv N).bind fun r9=>(AY N 1 r9).bind fun r10=>(Fv N).bind fun r11=>(AY N 2 r11).bind fun r12=>(BB N 1 ([r10,r12])).bind fun r13=>(BB N 5 ([r13])).bind fun r14=>(AZ N 6).bind fun r16=>(Z4 N 0).bind fun r17=>(BC N r16 r17).bind fun r18=>(Z4 N 0).bind fun r19=>(AZ N 6).bind fun r20=>(BC N r19 r20).bind fun r21=>(AY N 0 r21).bind fun r22=>(BB N 4 ([r22])).bind fun r23=>(AZ N 4).bind fun r24=>(Z4 N 0).bind fun r25=>(BC N r24 r25).bind fun r26=>(AY N 0 r26).bind fun r27=>(Z4 N 1).bind fun r28=>(AZ N 6).bind fun r29=>(BC N r28 r29).bind fun r30=>(AY N 1 r30).bind fun r31=>(BB N 3 ([r27,r31])).bind fun r32=>(loopN (fun(s33:Int)=>(if cmp .lss s33 5 then(B6 ([r8,(⟨6,[r8],0,0,0,1,(⟨0,[],0,0,0,(⟨0,0,⟨#[]⟩⟩:A4)⟩:B0)⟩:A1),{r14 with cN:=r18},r23,r32]) s33).bind fun x35=>(Df N x35 r1).bind fun r37=>(W5 N x35 r1).bind fun r38=>if Ar.or (cmp .neq r37.2 0) (cmp .neq r38.2 0)then some (.inr (.inr ()))else(B6 ([3,1,4,7,7]) s33).bind fun x39=>if Ar.or (cmp .neq r37.1 x39) (cmp .neq (Ar.len r38.1) r37.1)then some (.inr (.inr ()))else some (.inl (ar .add .i64 s33 1))else some (.inr (.inl ())):Option ((Int) ⊕ (Unit ⊕ Unit)))) N 0).bind fun s34=>match s34 with
 | .inl y40=>(De N r8 r1).bind fun r41=>if an (an (cmp .eql r41.2.2 0) r41.2.1) (cmp .eql (Ar.len r41.1.cO) 2)then(B6 r41.1.cO 1).bind fun x42=>some (an (cmp .eql x42.Var 1) (an (cmp .eql x42.Ref.Time 3) (an (cmp .eql x42.Ref.Source 0) (an (cmp .eql x42.Ref.Seq 2) true))))else some false
 | .inr y43=>some false
def X3 (N:Nat)(aA:A1):Option Bool:=some (Ar.or (cmp .eql aA.Op 5) (cmp .eql aA.Op 9))
def V3 (N:Nat)(aA:A1):Option Bool:=if cmp .eql aA.Op 0 then some true else(X3 N aA).bind fun r1=>some r1
def U1 (N:Nat)(aA:A1):Option Bool:=some (Ar.or (cmp .eql aA.Op 6) (cmp .eql aA.Op 10))
def Q1 (N:Nat):Nat→B0→B0→Option Bool
 |0,_,_=>none
 | n+1,aC,aD=>if Ar.or (Ar.or (Ar.or (Ar.or (Ar.or (cmp .neq aC.Op aD.Op) (cmp .neq aC.Var aD.Var)) (cmp .neq aC.Field aD.Field)) (cmp .neq aC.Kind aD.Kind)) (nt (an (cmp .eql aC.Value.Kind aD.Value.Kind) (an (cmp .eql aC.Value.Num aD.Value.Num) (an (scmp .eql aC.Value.Text aD.Value.Text) true))))) (cmp .neq (Ar.len aC.cL) (Ar.len aD.cL))then some false else(loopN (fun(s1:Int)=>(if cmp .lss s1 (Ar.len aC.cL)then(B6 aC.cL s1).bind fun x3=>(B6 aD.cL s1).bind fun x4=>(Q1 N n x3 x4).bind fun r5=>if nt r5 then some (.inr (.inr ()))else some (.inl (ar .add .i64 s1 1))else some (.inr (.inl ())):Option ((Int) ⊕ (Unit ⊕ Unit)))) N 0).bind fun s2=>match s2 with
   | .inl y6=>some true
   | .inr y7=>some false
def Ah (N:Nat)(aA:A1):Option Bool:=(V3 N aA).bind fun r1=>some (Ar.or r1 (cmp .eql aA.Op 7))
def DS (N:Nat)(aL:Int):Option (Bool×Bool):=some (Ar.or (Ar.or (Ar.or (cmp .eql aL 1) (cmp .eql aL 4)) (cmp .eql aL 2)) (cmp .eql aL 3),Ar.or (cmp .eql aL 1) (cmp .eql aL 4))
def W7 (N:Nat)(aH:A4):Option Int:=if Ar.or (cmp .lss aH.Kind 0) (cmp .gtr aH.Kind 2)then some 1 else if cmp .eql aH.Kind 2 then if cmp .neq aH.Num 0 then some 3 else if cmp .gtr (Ar.slen aH.Text) 64 then some 13 else some 0 else if scmp .neq aH.Text (⟨#[]⟩:ByteArray)then some 3 else if Ar.or (Ar.or (an (cmp .eql aH.Kind 1) (Ar.or (cmp .lss aH.Num 0) (cmp .gtr aH.Num 1))) (cmp .lss aH.Num (-1099511627776))) (cmp .gtr aH.Num 1099511627776)then some 2 else some 0
def CW (N:Nat)(aL:Int):Option Int:=((if cmp .eql aL 0 then some true else if cmp .eql aL 1 then some true else if cmp .eql aL 2 then some true else if cmp .eql aL 3 then some true else some (cmp .eql aL 4)):Option (Bool)).bind fun s1=>if s1 then some 0 else if cmp .eql aL 12 then some 1 else if cmp .eql aL 5 then some 2 else if cmp .eql aL 6 then some 2 else if cmp .eql aL 7 then some 2 else if cmp .eql aL 8 then some 2 else if cmp .eql aL 9 then some 2 else if cmp .eql aL 10 then some 2 else if cmp .eql aL 11 then some 2 else some (-1)
def U5 (N:Nat)(aW:Int)(aH:A4):Option Bool:=some (Ar.or (Ar.or (Ar.or (cmp .eql aH.Kind 0) (cmp .eql aW 0)) (cmp .eql aW 4)) (cmp .eql aW 5))
def Cr (N:Nat) (aB:B0):Option Int:=(CW N aB.Op).bind fun r1=>if cmp .lss r1 0 then some 1 else if cmp .neq (Ar.len aB.cL) r1 then some 15 else(DS N aB.Op).bind fun r2=>if Ar.or (an r2.1 (Ar.or (cmp .lss aB.Var 0) (cmp .geq aB.Var 16))) (an r2.2 (Ar.or (cmp .lss aB.Field 0) (cmp .geq aB.Field 8)))then some 2 else if an (cmp .eql aB.Op 4) (Ar.or (cmp .lss aB.Kind 1) (cmp .gtr aB.Kind 5))then some 1 else((if Ar.or (cmp .eql aB.Op 4) (cmp .eql aB.Op 0)then(W7 N aB.Value).bind fun r4=>if cmp .neq r4 0 then some (.inr r4)else some (.inl ())else some (.inl ())):Option (Unit ⊕ Int)).bind fun s3=>match s3 with
     | .inl y5=>if cmp .eql aB.Op 4 then(U5 N aB.Kind aB.Value).bind fun r6=>if Ar.or (nt r6) (an (cmp .eql aB.Kind 1) (nt (an (cmp .eql aB.Value.Kind 0) (an (cmp .eql aB.Value.Num 0) (an (scmp .eql aB.Value.Text (⟨#[]⟩)) true)))))then some 9 else if Ar.or (Ar.or (Ar.or (an (nt r2.1) (cmp .neq aB.Var 0)) (an (nt r2.2) (cmp .neq aB.Field 0))) (an (nt (cmp .eql aB.Op 4)) (cmp .neq aB.Kind 0))) (an (nt (Ar.or (cmp .eql aB.Op 4) (cmp .eql aB.Op 0))) (nt (an (cmp .eql aB.Value.Kind 0) (an (cmp .eql aB.Value.Num 0) (an (scmp .eql aB.Value.Text (⟨#[]⟩)) true)))))then some 3 else some 0 else if Ar.or (Ar.or (Ar.or (an (nt r2.1) (cmp .neq aB.Var 0)) (an (nt r2.2) (cmp .neq aB.Field 0))) (an (nt (cmp .eql aB.Op 4)) (cmp .neq aB.Kind 0))) (an (nt (Ar.or (cmp .eql aB.Op 4) (cmp .eql aB.Op 0))) (nt (an (cmp .eql aB.Value.Kind 0) (an (cmp .eql aB.Value.Num 0) (an (scmp .eql aB.Value.Text (⟨#[]⟩)) true)))))then some 3 else some 0
     | .inr y7=>some y7
def Z2 (N:Nat):Nat→B0→Option Int
 |0,_=>none
 | n+1,aB=>(Cr N aB).bind fun r1=>if cmp .neq r1 0 then some r1 else(loopN (fun(s2:Int)=>(if cmp .lss s2 (Ar.len aB.cL)then(B6 aB.cL s2).bind fun x4=>(Z2 N n x4).bind fun r5=>if cmp .neq r5 0 then some (.inr (.inr r5))else some (.inl (ar .add .i64 s2 1))else some (.inr (.inl ())):Option ((Int) ⊕ (Unit ⊕ Int)))) N 0).bind fun s3=>match s3 with
   | .inl y6=>some 0
   | .inr y7=>some y7
def AL (N:Nat)(aB:B0):Option Int:=(U4 N N aB 64).bind fun r1=>if cmp .gtr r1 64 then some 5 else(U3 N N aB).bind fun r2=>if cmp .gtr r2 12 then some 12 else(Z2 N N aB).bind fun r3=>some r3
def CU (N:Nat)(aA:A1):Option Bool:=if cmp .eql aA.Op 0 then some (cmp .eql (Ar.len aA.cL) 0)else((if cmp .eql aA.Op 1 then some true else if cmp .eql aA.Op 2 then some true else some (cmp .eql aA.Op 3)):Option (Bool)).bind fun s1=>if s1 then some (cmp .geq (Ar.len aA.cL) 2)else if cmp .eql aA.Op 8 then some (cmp .eql (Ar.len aA.cL) 2)else some (cmp .eql (Ar.len aA.cL) 1)
def Y5 (N:Nat)(bI:Bool)(aX:Int)(bN:Int):Option Bool:=some (an bI (Ar.or (cmp .lss aX 0) (cmp .gtr aX bN)))
def V4 (N:Nat) (aA:A1):Option Int:=if Ar.or (cmp .lss aA.Op 0) (cmp .gtr aA.Op 10)then some 1 else(CU N aA).bind fun r1=>if nt r1 then some 15 else(V3 N aA).bind fun r2=>(X3 N aA).bind fun r3=>if r3 then(Ah N aA).bind fun r4=>(Y5 N r2 aA.Typ 15).bind fun r5=>if r5 then some 2 else(Y5 N r2 aA.Var 15).bind fun r6=>if r6 then some 2 else(Y5 N true aA.cQ 63).bind fun r7=>if r7 then some 2 else(U1 N aA).bind fun r8=>(Y5 N r8 aA.Span 1099511627776).bind fun r9=>if r9 then some 2 else((if r4 then(AL N aA.cN).bind fun r11=>if cmp .neq r11 0 then some (.inr r11)else some (.inl ())else some (.inl ())):Option (Unit ⊕ Int)).bind fun s10=>match s10 with
        | .inl y12=>if Ar.or (an (nt r2) (Ar.or (cmp .neq aA.Typ 0) (cmp .neq aA.Var 0))) (an (nt true) (cmp .neq aA.cQ 0))then some 3 else(U1 N aA).bind fun r13=>if an (nt r13) (cmp .neq aA.Span 0)then some 3 else if nt r4 then(Q1 N N aA.cN (⟨0,[],0,0,0,(⟨0,0,⟨#[]⟩⟩:A4)⟩:B0)).bind fun r14=>if nt r14 then some 3 else some 0 else some 0
        | .inr y15=>some y15 else(U1 N aA).bind fun r16=>(Ah N aA).bind fun r17=>(Y5 N r2 aA.Typ 15).bind fun r18=>if r18 then some 2 else(Y5 N r2 aA.Var 15).bind fun r19=>if r19 then some 2 else(Y5 N r16 aA.cQ 63).bind fun r20=>if r20 then some 2 else(U1 N aA).bind fun r21=>(Y5 N r21 aA.Span 1099511627776).bind fun r22=>if r22 then some 2 else((if r17 then(AL N aA.cN).bind fun r24=>if cmp .neq r24 0 then some (.inr r24)else some (.inl ())else some (.inl ())):Option (Unit ⊕ Int)).bind fun s23=>match s23 with
        | .inl y25=>if Ar.or (an (nt r2) (Ar.or (cmp .neq aA.Typ 0) (cmp .neq aA.Var 0))) (an (nt r16) (cmp .neq aA.cQ 0))then some 3 else(U1 N aA).bind fun r26=>if an (nt r26) (cmp .neq aA.Span 0)then some 3 else if nt r17 then(Q1 N N aA.cN (⟨0,[],0,0,0,(⟨0,0,⟨#[]⟩⟩:A4)⟩:B0)).bind fun r27=>if nt r27 then some 3 else some 0 else some 0
        | .inr y28=>some y28
def Ai (N:Nat) (aA:A1):Option Int:=(U0 N N aA 64).bind fun r1=>if cmp .gtr r1 64 then some 5 else(U2 N N aA).bind fun r2=>if cmp .gtr r2 12 then some 12 else(Q9 N N aA).bind fun r3=>(loopN (fun(s4:Int)=>(if cmp .lss s4 (Ar.len r3)then(B6 r3 s4).bind fun x6=>(V4 N x6).bind fun r7=>if cmp .neq r7 0 then some (.inr (.inr r7))else some (.inl (ar .add .i64 s4 1))else some (.inr (.inl ())):Option ((Int) ⊕ (Unit ⊕ Int)))) N 0).bind fun s5=>match s5 with
   | .inl y8=>some 0
   | .inr y9=>some y9
def BW (N:Nat)(aF:List A1):Option Bool:=(loopN (fun(s1:Int)=>(if cmp .lss s1 (Ar.len aF)then(B6 aF s1).bind fun x3=>if cmp .geq x3.Op 8 then some (.inr (.inr ()))else some (.inl (ar .add .i64 s1 1))else some (.inr (.inl ())):Option ((Int) ⊕ (Unit ⊕ Unit)))) N 0).bind fun s2=>match s2 with
 | .inl y4=>some true
 | .inr y5=>some false
def CV (N:Nat) (aA:A1):Option Int:=(Ai N aA).bind fun r1=>if cmp .neq r1 0 then some r1 else(Q9 N N aA).bind fun r2=>(BW N r2).bind fun r3=>if nt r3 then some 1 else(loopN (fun(s4:Int×Int×Int)=>(if cmp .lss s4.2.2 (Ar.len r2)then(B6 r2 s4.2.2).bind fun x6=>(V3 N x6).bind fun r7=>((if r7 then(B6 r2 s4.2.2).bind fun x9=>if cmp .neq x9.Var s4.1 then some (.inr ())else some (.inl (ar .add .i64 s4.1 1))else some (.inl s4.1)):Option (Int ⊕ Unit)).bind fun s8=>match s8 with
       | .inl y10=>(B6 r2 s4.2.2).bind fun x11=>(X3 N x11).bind fun r12=>if r12 then(B6 r2 s4.2.2).bind fun x13=>if cmp .neq x13.cQ s4.2.1 then some (.inr (.inr ()))else some (.inl (y10,ar .add .i64 s4.2.1 1,ar .add .i64 s4.2.2 1))else(B6 r2 s4.2.2).bind fun x14=>(U1 N x14).bind fun r15=>if r15 then(B6 r2 s4.2.2).bind fun x16=>if cmp .neq x16.cQ s4.2.1 then some (.inr (.inr ()))else some (.inl (y10,ar .add .i64 s4.2.1 1,ar .add .i64 s4.2.2 1))else some (.inl (y10,s4.2.1,ar .add .i64 s4.2.2 1))
       | .inr y17=>some (.inr (.inr ()))else some (.inr (.inl ())):Option ((Int×Int×Int) ⊕ (Unit ⊕ Unit)))) N (0,0,0)).bind fun s5=>match s5 with
   | .inl y18=>some 0
   | .inr y19=>some 14
def Ct (N:Nat)(aB:A7):Option Hx:=some (⟨aB.Time,aB.Source,aB.Seq⟩:Hx)
def BN (N:Nat)(aC:Hx)(aD:Hx):Option Int:=if cmp .neq aC.Time aD.Time then if cmp .lss aC.Time aD.Time then some (-1)else some 1 else if cmp .neq aC.Source aD.Source then if cmp .lss aC.Source aD.Source then some (-1)else some 1 else if cmp .lss aC.Seq aD.Seq then some (-1)else if cmp .gtr aC.Seq aD.Seq then some 1 else some 0
def Ds (N:Nat)(aB:A7):Option Bool:=some (an (an (an (an (an (cmp .geq aB.Time 0) (cmp .leq aB.Time 1099511627776)) (cmp .geq aB.Source 0)) (cmp .lss aB.Source 8)) (cmp .geq aB.Seq 0)) (cmp .leq aB.Seq 1099511627776))
def Cs (N:Nat)(aC:A7)(aD:A7):Option Bool:=some (an (cmp .eql aC.Source aD.Source) (cmp .eql aC.Seq aD.Seq))
def CX (N:Nat) (aF:List A7):Option Int:=if cmp .gtr (Ar.len aF) 4096 then some 5 else(loopN (fun(s1:Int)=>(if cmp .lss s1 (Ar.len aF)then(B6 aF s1).bind fun x3=>(Ds N x3).bind fun r4=>if nt r4 then some (.inr (.inr 2))else if cmp .gtr s1 0 then(B6 aF (ar .sub .i64 s1 1)).bind fun x5=>(Ct N x5).bind fun r6=>(B6 aF s1).bind fun x7=>(Ct N x7).bind fun r8=>(BN N r6 r8).bind fun r9=>if cmp .geq r9 0 then some (.inr (.inr 14))else(loopN (fun(s10:Int)=>(if cmp .lss s10 s1 then(B6 aF s10).bind fun x12=>(B6 aF s1).bind fun x13=>(Cs N x12 x13).bind fun r14=>if r14 then some (.inr (.inr ()))else some (.inl (ar .add .i64 s10 1))else some (.inr (.inl ())):Option ((Int) ⊕ (Unit ⊕ Unit)))) N 0).bind fun s11=>match s11 with
         | .inl y15=>some (.inl (ar .add .i64 s1 1))
         | .inr y16=>some (.inr (.inr 7))else(loopN (fun(s17:Int)=>(if cmp .lss s17 s1 then(B6 aF s17).bind fun x19=>(B6 aF s1).bind fun x20=>(Cs N x19 x20).bind fun r21=>if r21 then some (.inr (.inr ()))else some (.inl (ar .add .i64 s17 1))else some (.inr (.inl ())):Option ((Int) ⊕ (Unit ⊕ Unit)))) N 0).bind fun s18=>match s18 with
        | .inl y22=>some (.inl (ar .add .i64 s1 1))
        | .inr y23=>some (.inr (.inr 7))else some (.inr (.inl ())):Option ((Int) ⊕ (Unit ⊕ Int)))) N 0).bind fun s2=>match s2 with
  | .inl y24=>some 0
  | .inr y25=>some y25
def CS (N:Nat)(aA:A1)(aF:List A7):Option Int:=(CV N aA).bind fun r1=>if cmp .neq r1 0 then some r1 else(CX N aF).bind fun r2=>some r2
def CT (N:Nat)(aC:E0)(aD:E0):Option Int:=(BN N aC.Ref aD.Ref).bind fun r1=>if cmp .neq r1 0 then some r1 else if cmp .lss aC.Var aD.Var then some (-1)else if cmp .gtr aC.Var aD.Var then some 1 else some 0
def M6 (N:Nat)(aC:E4)(aD:E4):Option Int:=(loopN (fun(s1:Int)=>(if an (cmp .lss s1 (Ar.len aC.cO)) (cmp .lss s1 (Ar.len aD.cO))then(B6 aC.cO s1).bind fun x3=>(B6 aD.cO s1).bind fun x4=>(CT N x3 x4).bind fun r5=>if cmp .neq r5 0 then some (.inr (.inr r5))else some (.inl (ar .add .i64 s1 1))else some (.inr (.inl ())):Option ((Int) ⊕ (Unit ⊕ Int)))) N 0).bind fun s2=>match s2 with
 | .inl y6=>if cmp .lss (Ar.len aC.cO) (Ar.len aD.cO)then some (-1)else if cmp .gtr (Ar.len aC.cO) (Ar.len aD.cO)then some 1 else some 0
 | .inr y7=>some y7
def Z8 (N:Nat)(aR:Bd)(aH:Int):Option (List A7):=if Ar.or (cmp .lss aH 0) (cmp .geq aH (Ar.len aR.cT))then some ([])else(B6 aR.cT aH).bind fun x1=>some x1
def DW (N:Nat)(aW:Int):Option Bool:=some (an (cmp .geq aW 0) (cmp .leq aW 5))
def BL (N:Nat)(aC:B9):Option Int:=(DW N aC.Kind).bind fun r1=>if nt r1 then some 1 else if Ar.or (cmp .lss aC.Count 0) (cmp .gtr aC.Count 4096)then some 2 else if Ar.or (cmp .eql aC.Count 0) (cmp .eql aC.Kind 0)then if nt (an (cmp .eql aC.Value.Kind 0) (an (cmp .eql aC.Value.Num 0) (an (scmp .eql aC.Value.Text (⟨#[]⟩)) true)))then some 3 else some 0 else if cmp .eql aC.Kind 1 then if Ar.or (Ar.or (Ar.or (cmp .neq aC.Value.Kind 0) (scmp .neq aC.Value.Text (⟨#[]⟩:ByteArray))) (cmp .lss aC.Value.Num (neg .i64 (ar .mul .i64 aC.Count 1099511627776)))) (cmp .gtr aC.Value.Num (ar .mul .i64 aC.Count 1099511627776))then some 3 else some 0 else(W7 N aC.Value).bind fun r2=>if cmp .neq r2 0 then some 3 else(U5 N aC.Kind aC.Value).bind fun r3=>if nt r3 then some 3 else some 0
def Z3 (N:Nat)(aW:Int)(aH:A4):Option Int:=(W7 N aH).bind fun r1=>if cmp .neq r1 0 then some r1 else(U5 N aW aH).bind fun r2=>if nt r2 then some 9 else some 0
def Bo (N:Nat)(aW:Int)(aH:A4)(bT:A4):Option A4:=if cmp .eql aW 1 then some (⟨0,ar .add .i64 aH.Num bT.Num,⟨#[]⟩⟩:A4)else if cmp .eql aW 2 then some (⟨0,Ar.mn aH.Num bT.Num,⟨#[]⟩⟩:A4)else if cmp .eql aW 3 then some (⟨0,mx aH.Num bT.Num,⟨#[]⟩⟩:A4)else if cmp .eql aW 4 then some aH else if cmp .eql aW 5 then some bT else some (⟨0,0,⟨#[]⟩⟩:A4)
def BM (N:Nat)(aC:B9)(aH:A4):Option (B9×Int):=(BL N aC).bind fun r2=>if cmp .neq r2 0 then some ((⟨0,0,(⟨0,0,⟨#[]⟩⟩:A4)⟩:B9),r2)else(Z3 N aC.Kind aH).bind fun r3=>if cmp .neq r3 0 then some ((⟨0,0,(⟨0,0,⟨#[]⟩⟩:A4)⟩:B9),r3)else if cmp .eql aC.Count 4096 then some ((⟨0,0,(⟨0,0,⟨#[]⟩⟩:A4)⟩:B9),5)else if cmp .eql aC.Kind 0 then some ((⟨aC.Kind,ar .add .i64 aC.Count 1,(⟨0,0,⟨#[]⟩⟩:A4)⟩:B9),0)else if cmp .gtr aC.Count 0 then(Bo N aC.Kind aC.Value aH).bind fun r5=>some ((⟨aC.Kind,ar .add .i64 aC.Count 1,r5⟩:B9),0)else some ((⟨aC.Kind,ar .add .i64 aC.Count 1,aH⟩:B9),0)
def Dr (N:Nat)(aC:B9)(aY:A4):Option (A4×Int):=(BL N aC).bind fun r2=>if cmp .neq r2 0 then some ((⟨0,0,⟨#[]⟩⟩:A4),r2)else(Z3 N aC.Kind aY).bind fun r3=>if cmp .neq r3 0 then some ((⟨0,0,⟨#[]⟩⟩:A4),r3)else if cmp .eql aC.Kind 0 then some ((⟨0,aC.Count,⟨#[]⟩⟩:A4),0)else if an (cmp .eql aC.Count 0) (cmp .neq aC.Kind 1)then some (aY,0)else some (aC.Value,0)
def GS (N:Nat) (aW:Int) (aF:List A4) (aY:A4):Option (A4×Int):=(DW N aW).bind fun r2=>if nt r2 then some ((⟨0,0,⟨#[]⟩⟩:A4),1)else if cmp .gtr (Ar.len aF) 4096 then some ((⟨0,0,⟨#[]⟩⟩:A4),5)else(loopN (fun(s4:Int×B9)=>(if cmp .lss s4.1 (Ar.len aF)then(B6 aF s4.1).bind fun x6=>(BM N s4.2 x6).bind fun r7=>if cmp .neq r7.2 0 then some (.inr (.inr (r7.2,s4.2)))else some (.inl (ar .add .i64 s4.1 1,r7.1))else some (.inr (.inl s4.2)):Option ((Int×B9) ⊕ (B9 ⊕ (Int×B9))))) N (0,(⟨aW,0,(⟨0,0,⟨#[]⟩⟩:A4)⟩:B9))).bind fun s5=>match s5 with
   | .inl y8=>(Dr N y8 aY).bind fun r9=>some (r9.1,r9.2)
   | .inr y10=>some ((⟨0,0,⟨#[]⟩⟩:A4),y10.1)
def DU (N:Nat)(aR:Bd)(aH:Int)(aT:Int)(aU:A7):Option (A7×Bool):=if cmp .eql aH aT then some (aU,true)else(Z8 N aR aH).bind fun r2=>if cmp .eql (Ar.len r2) 0 then some ((⟨0,0,0,0,[]⟩:A7),false)else(B6 r2 (ar .sub .i64 (Ar.len r2) 1)).bind fun x3=>some (x3,true)
def DT (N:Nat) (aB:B0) (aR:Bd) (aT:Int) (aU:A7):Option (A4×Int):=if cmp .eql aB.Op 0 then some (aB.Value,0)else if cmp .eql aB.Op 3 then(Z8 N aR aB.Var).bind fun r2=>some ((⟨0,Ar.len r2,⟨#[]⟩⟩:A4),0)else if cmp .eql aB.Op 4 then(Z8 N aR aB.Var).bind fun r3=>(loopN (fun(s4:(List A4)×Int)=>(if cmp .lss s4.2 (Ar.len r3)then(B6 r3 s4.2).bind fun x7=>if cmp .geq aB.Field (Ar.len x7.Values)then some (.inr (.inr ()))else(B6 r3 s4.2).bind fun x8=>(B6 x8.Values aB.Field).bind fun x9=>(H8 s4.1 ([x9])).bind fun l11=>some (.inl (l11,ar .add .i64 s4.2 1))else some (.inr (.inl s4.1)):Option (((List A4)×Int) ⊕ (((List A4)) ⊕ Unit)))) N ([],0)).bind fun s6=>match s6 with
    | .inl y12=>(GS N aB.Kind y12 aB.Value).bind fun r14=>some (r14.1,r14.2)
    | .inr y15=>some ((⟨0,0,⟨#[]⟩⟩:A4),6)else(DU N aR aB.Var aT aU).bind fun r17=>if nt r17.2 then some ((⟨0,0,⟨#[]⟩⟩:A4),10)else if cmp .eql aB.Op 2 then some ((⟨0,r17.1.Time,⟨#[]⟩⟩:A4),0)else if cmp .geq aB.Field (Ar.len r17.1.Values)then some ((⟨0,0,⟨#[]⟩⟩:A4),6)else(B6 r17.1.Values aB.Field).bind fun x18=>(W7 N x18).bind fun r19=>if cmp .neq r19 0 then some ((⟨0,0,⟨#[]⟩⟩:A4),r19)else(B6 r17.1.Values aB.Field).bind fun x20=>some (x20,0)
def AJ (N:Nat)(aL:Int):Option Int:=((if cmp .eql aL 5 then some true else if cmp .eql aL 6 then some true else if cmp .eql aL 7 then some true else some (cmp .eql aL 8)):Option (Bool)).bind fun s1=>if s1 then some 0 else if cmp .eql aL 10 then some 1 else if cmp .eql aL 11 then some 1 else if cmp .eql aL 12 then some 1 else some (-1)
def AI (N:Nat)(aL:Int)(bB:List Int):Option Int:=(loopN (fun(s1:Int)=>(if cmp .lss s1 (Ar.len bB)then(AJ N aL).bind fun r3=>if cmp .geq r3 0 then(B6 bB s1).bind fun x4=>if cmp .neq x4 r3 then some (.inr (.inr ()))else if cmp .eql aL 9 then(B6 bB s1).bind fun x5=>(B6 bB 0).bind fun x6=>if cmp .neq x5 x6 then some (.inr (.inr ()))else some (.inl (ar .add .i64 s1 1))else some (.inl (ar .add .i64 s1 1))else if cmp .eql aL 9 then(B6 bB s1).bind fun x7=>(B6 bB 0).bind fun x8=>if cmp .neq x7 x8 then some (.inr (.inr ()))else some (.inl (ar .add .i64 s1 1))else some (.inl (ar .add .i64 s1 1))else some (.inr (.inl ())):Option ((Int) ⊕ (Unit ⊕ Unit)))) N 0).bind fun s2=>match s2 with
 | .inl y9=>some 0
 | .inr y10=>some 9
def EG (N:Nat)(aL:Int)(aF:List A4):Option A4:=if cmp .eql aL 5 then(B6 aF 0).bind fun x2=>(B6 aF 1).bind fun x3=>some (⟨0,ar .add .i64 x2.Num x3.Num,⟨#[]⟩⟩:A4)else if cmp .eql aL 6 then(B6 aF 0).bind fun x4=>(B6 aF 1).bind fun x5=>some (⟨0,ar .sub .i64 x4.Num x5.Num,⟨#[]⟩⟩:A4)else if cmp .eql aL 7 then(B6 aF 0).bind fun x6=>(B6 aF 1).bind fun x7=>(O3 N (cmp .lss x6.Num x7.Num)).bind fun r8=>some r8 else if cmp .eql aL 8 then(B6 aF 0).bind fun x9=>(B6 aF 1).bind fun x10=>(O3 N (cmp .leq x9.Num x10.Num)).bind fun r11=>some r11 else if cmp .eql aL 9 then(B6 aF 0).bind fun x12=>(B6 aF 1).bind fun x13=>(O3 N (an (cmp .eql x12.Kind x13.Kind) (an (cmp .eql x12.Num x13.Num) (an (scmp .eql x12.Text x13.Text) true)))).bind fun r14=>some r14 else if cmp .eql aL 10 then(B6 aF 0).bind fun x15=>if cmp .eql x15.Num 1 then(B6 aF 1).bind fun x16=>(O3 N (cmp .eql x16.Num 1)).bind fun r17=>some r17 else(O3 N false).bind fun r18=>some r18 else if cmp .eql aL 11 then(B6 aF 0).bind fun x19=>if cmp .eql x19.Num 1 then(O3 N true).bind fun r20=>some r20 else(B6 aF 1).bind fun x21=>(O3 N (cmp .eql x21.Num 1)).bind fun r22=>some r22 else(B6 aF 0).bind fun x23=>(O3 N (cmp .neq x23.Num 1)).bind fun r24=>some r24
def Z7 (N:Nat):Nat→B0→Bd→Int→A7→Option (A4×Int)
 |0,_,_,_,_=>none
 | n+1,aB,aR,aT,aU=>if cmp .eql (Ar.len aB.cL) 0 then(DT N aB aR aT aU).bind fun r2=>some (r2.1,r2.2)else(loopN (fun(s3:(List A4)×(List Int)×Int)=>(if cmp .lss s3.2.2 (Ar.len aB.cL)then(B6 aB.cL s3.2.2).bind fun x7=>(Z7 N n x7 aR aT aU).bind fun r8=>if cmp .neq r8.2 0 then some (.inr (.inr r8.2))else(H8 s3.1 ([r8.1])).bind fun l9=>(H8 s3.2.1 ([r8.1.Kind])).bind fun l12=>some (.inl (l9,l12,ar .add .i64 s3.2.2 1))else some (.inr (.inl (s3.1,s3.2.1))):Option (((List A4)×(List Int)×Int) ⊕ (((List A4)×(List Int)) ⊕ Int)))) N ([],[],0)).bind fun s6=>match s6 with
   | .inl y13=>(AI N aB.Op y13.2).bind fun r16=>if cmp .neq r16 0 then some ((⟨0,0,⟨#[]⟩⟩:A4),r16)else(EG N aB.Op y13.1).bind fun r17=>some (r17,0)
   | .inr y18=>some ((⟨0,0,⟨#[]⟩⟩:A4),y18)
def DV (N:Nat)(aB:B0)(aR:Bd)(aT:Int)(aU:A7):Option (A4×Int):=(AL N aB).bind fun r2=>if cmp .neq r2 0 then some ((⟨0,0,⟨#[]⟩⟩:A4),r2)else(Z7 N N aB aR aT aU).bind fun r3=>some (r3.1,r3.2)
def AK (N:Nat)(aB:B0)(aR:Bd)(aT:Int)(aU:A7):Option Bool:=(DV N aB aR aT aU).bind fun r1=>if cmp .eql r1.2 0 then(O3 N true).bind fun r2=>some (an (cmp .eql r1.1.Kind r2.Kind) (an (cmp .eql r1.1.Num r2.Num) (an (scmp .eql r1.1.Text r2.Text) true)))else some false
def Cq (N:Nat)(aF:List A7)(aI:List A2)(aZ:Int):Option Bd:=(TW 16 16 ([]:List A7)).bind fun l3=>(loopN (fun(s5:Int×(List (List A7)))=>(if cmp .lss s5.1 (Ar.len aI)then(B6 aI s5.1).bind fun x8=>if cmp .lss x8.At aZ then(B6 aI s5.1).bind fun x9=>(B6 s5.2 x9.Var).bind fun x10=>(B6 aF x9.At).bind fun x15=>(H8 x10 ([x15])).bind fun l16=>(HU s5.2 x9.Var (fun _=>l16)).bind fun l14=>some (.inl (ar .add .i64 s5.1 1,l14))else some (.inl (ar .add .i64 s5.1 1,s5.2))else some (.inr s5.2):Option ((Int×(List (List A7))) ⊕ (((List (List A7))))))) N (0,l3)).bind fun s7=>some (⟨s7⟩:Bd)
def CP (N:Nat)(aA:A1)(aF:List A7)(aD:List A2)(aG:Int):Option (List (List A2)):=(loopN (fun(s1:(List (List A2))×Int)=>(if cmp .lss s1.2 (Ar.len aF)then(B6 aF s1.2).bind fun x4=>if cmp .eql x4.Typ aA.Typ then(Cq N aF aD s1.2).bind fun r5=>(B6 aF s1.2).bind fun x6=>(AK N aA.cN r5 aA.Var x6).bind fun r7=>if r7 then(H8 s1.1 ([[(⟨aA.Var,s1.2⟩:A2)]])).bind fun l9=>some (.inl (l9,ar .add .i64 s1.2 1))else some (.inl (s1.1,ar .add .i64 s1.2 1))else some (.inl (s1.1,ar .add .i64 s1.2 1))else some (.inr s1.1):Option (((List (List A2))×Int) ⊕ (((List (List A2))))))) N ([],aG)).bind fun s3=>some s3
def G3 (N:Nat)(aC:List A2)(aD:List A2):Option (List A2):=(loopN (fun(s1:(List A2)×(List A2)×(List A2))=>(if Ar.or (cmp .gtr (Ar.len s1.1) 0) (cmp .gtr (Ar.len s1.2.1) 0)then if cmp .eql (Ar.len s1.2.1) 0 then(((B6 s1.1 0).bind fun x85=>(H8 s1.2.2 ([x85])).bind fun l206=>(N1 s1.1 (some 1) none none).bind fun l285=>some (l285,l206)):Option (((List A2)×(List A2)))).bind fun s4=>some (.inl (s4.1,s1.2.1,s4.2))else if cmp .gtr (Ar.len s1.1) 0 then(B6 s1.1 0).bind fun x446=>(B6 s1.2.1 0).bind fun x447=>if cmp .lss x446.At x447.At then(((B6 s1.1 0).bind fun x529=>(H8 s1.2.2 ([x529])).bind fun l650=>(N1 s1.1 (some 1) none none).bind fun l729=>some (l729,l650)):Option (((List A2)×(List A2)))).bind fun s448=>some (.inl (s448.1,s1.2.1,s448.2))else(((B6 s1.2.1 0).bind fun x971=>(H8 s1.2.2 ([x971])).bind fun l1092=>(N1 s1.2.1 (some 1) none none).bind fun l1171=>some (l1171,l1092)):Option (((List A2)×(List A2)))).bind fun s890=>some (.inl (s1.1,s890.1,s890.2))else(((B6 s1.2.1 0).bind fun x1413=>(H8 s1.2.2 ([x1413])).bind fun l1534=>(N1 s1.2.1 (some 1) none none).bind fun l1613=>some (l1613,l1534)):Option (((List A2)×(List A2)))).bind fun s1332=>some (.inl (s1.1,s1332.1,s1332.2))else some (.inr s1.2.2):Option (((List A2)×(List A2)×(List A2)) ⊕ (((List A2)))))) N (aC,aD,[])).bind fun s3=>some s3
def CQ (N:Nat) (aC:List A2) (aD:List A2):Option Bool:=if cmp .neq (Ar.len aC) (Ar.len aD)then some false else(loopN (fun(s1:Int)=>(if cmp .lss s1 (Ar.len aC)then(B6 aC s1).bind fun x3=>(B6 aD s1).bind fun x4=>if nt (an (cmp .eql x3.Var x4.Var) (an (cmp .eql x3.At x4.At) true))then some (.inr (.inr ()))else some (.inl (ar .add .i64 s1 1))else some (.inr (.inl ())):Option ((Int) ⊕ (Unit ⊕ Unit)))) N 0).bind fun s2=>match s2 with
  | .inl y5=>some true
  | .inr y6=>some false
def S2 (N:Nat)(aF:List (List A2))(aI:List A2):Option (List (List A2)):=(loopN (fun(s1:Int)=>(if cmp .lss s1 (Ar.len aF)then(B6 aF s1).bind fun x3=>(CQ N x3 aI).bind fun r4=>if r4 then some (.inr (.inr ()))else some (.inl (ar .add .i64 s1 1))else some (.inr (.inl ())):Option ((Int) ⊕ (Unit ⊕ Unit)))) N 0).bind fun s2=>match s2 with
 | .inl y5=>(H8 aF ([aI])).bind fun l7=>some l7
 | .inr y8=>some aF
def DE (N:Nat)(aI:List A2)(aZ:Int):Option Bool:=(loopN (fun(s1:Int)=>(if cmp .lss s1 (Ar.len aI)then(B6 aI s1).bind fun x3=>if cmp .eql x3.At aZ then some (.inr (.inr ()))else some (.inl (ar .add .i64 s1 1))else some (.inr (.inl ())):Option ((Int) ⊕ (Unit ⊕ Unit)))) N 0).bind fun s2=>match s2 with
 | .inl y4=>some false
 | .inr y5=>some true
def BJ (N:Nat)(aC:List A2)(aD:List A2):Option Bool:=(loopN (fun(s1:Int)=>(if cmp .lss s1 (Ar.len aC)then(B6 aC s1).bind fun x3=>(DE N aD x3.At).bind fun r4=>if r4 then some (.inr (.inr ()))else some (.inl (ar .add .i64 s1 1))else some (.inr (.inl ())):Option ((Int) ⊕ (Unit ⊕ Unit)))) N 0).bind fun s2=>match s2 with
 | .inl y5=>some true
 | .inr y6=>some false
def EF (N:Nat)(aA:A1)(aF:List A7)(aD:List A2)(aI:List A2):Option Bool:=(B6 aI 0).bind fun x1=>(loopN (fun(s2:Int)=>((B6 aI (ar .sub .i64 (Ar.len aI) 1)).bind fun x4=>if cmp .lss s2 x4.At then(DE N aI s2).bind fun r5=>if nt r5 then(B6 aF s2).bind fun x6=>if cmp .eql x6.Typ aA.Typ then(G3 N aD aI).bind fun r7=>(Cq N aF r7 s2).bind fun r8=>(B6 aF s2).bind fun x9=>(AK N aA.cN r8 aA.Var x9).bind fun r10=>if r10 then some (.inr (.inr ()))else some (.inl (ar .add .i64 s2 1))else some (.inl (ar .add .i64 s2 1))else some (.inl (ar .add .i64 s2 1))else some (.inr (.inl ())):Option ((Int) ⊕ (Unit ⊕ Unit)))) N x1.At).bind fun s3=>match s3 with
 | .inl y11=>some true
 | .inr y12=>some false
def CO (N:Nat)(aA:A1)(aF:List A7)(aD:List A2)(aI:List A2):Option Bool:=if cmp .eql aA.Op 5 then(EF N aA aF aD aI).bind fun r1=>some r1 else if cmp .eql aA.Op 6 then(B6 aI (ar .sub .i64 (Ar.len aI) 1)).bind fun x2=>(B6 aF x2.At).bind fun x3=>(B6 aI 0).bind fun x4=>(B6 aF x4.At).bind fun x5=>some (cmp .leq (ar .sub .i64 x3.Time x5.Time) aA.Span)else(G3 N aD aI).bind fun r6=>(Cq N aF r6 (Ar.len aF)).bind fun r7=>(AK N aA.cN r7 (-1) (⟨0,0,0,0,[]⟩:A7)).bind fun r8=>some r8
mutual
def J9 (N:Nat):Nat→A1→List A7→List A2→Int→Option (List (List A2))
 |0,_,_,_,_=>none
 |n+1,aA,aF,aD,aG=>if cmp .eql aA.Op 0 then(CP N aA aF aD aG).bind fun r1=>some r1 else if cmp .eql aA.Op 1 then(Y3 N n aA.cL aF aD aG).bind fun r2=>some r2 else if cmp .eql aA.Op 2 then(DF N n aA.cL aF aD aG).bind fun r3=>some r3 else if cmp .eql aA.Op 3 then(DG N n aA.cL aF aD aG).bind fun r4=>some r4 else if cmp .eql aA.Op 4 then(V2 N n aA aF aD aG).bind fun r5=>some r5 else(B6 aA.cL 0).bind fun x6=>(J9 N n x6 aF aD aG).bind fun r7=>(loopN (fun(s8:(List (List A2))×Int)=>(if cmp .lss s8.2 (Ar.len r7)then(B6 r7 s8.2).bind fun x11=>(CO N aA aF aD x11).bind fun r12=>if r12 then(B6 r7 s8.2).bind fun x13=>(H8 s8.1 ([x13])).bind fun l15=>some (.inl (l15,ar .add .i64 s8.2 1))else some (.inl (s8.1,ar .add .i64 s8.2 1))else some (.inr s8.1):Option (((List (List A2))×Int) ⊕ (((List (List A2))))))) N ([],0)).bind fun s10=>some s10
def Y3 (N:Nat):Nat→List A1→List A7→List A2→Int→Option (List (List A2))
 |0,_,_,_,_=>none
 |n+1,aV,aF,aD,aG=>(B6 aV 0).bind fun x1=>(J9 N n x1 aF aD aG).bind fun r2=>if cmp .eql (Ar.len aV) 1 then some r2 else(loopN (fun(s3:(List (List A2))×Int)=>(if cmp .lss s3.2 (Ar.len r2)then(B6 r2 s3.2).bind fun x6=>(N1 aV (some 1) none none).bind fun l7=>(G3 N aD x6).bind fun r9=>(B6 x6 (ar .sub .i64 (Ar.len x6) 1)).bind fun x10=>(Y3 N n l7 aF r9 (ar .add .i64 x10.At 1)).bind fun r11=>(loopN (fun(s12:(List (List A2))×Int)=>(if cmp .lss s12.2 (Ar.len r11)then(B6 r11 s12.2).bind fun x15=>(G3 N x6 x15).bind fun r16=>(S2 N s12.1 r16).bind fun l17=>some (.inl (l17,ar .add .i64 s12.2 1))else some (.inr s12.1):Option (((List (List A2))×Int) ⊕ (((List (List A2))))))) N (s3.1,0)).bind fun s14=>some (.inl (s14,ar .add .i64 s3.2 1))else some (.inr s3.1):Option (((List (List A2))×Int) ⊕ (((List (List A2))))))) N ([],0)).bind fun s5=>some s5
def DF (N:Nat):Nat→List A1→List A7→List A2→Int→Option (List (List A2))
 |0,_,_,_,_=>none
 |n+1,aV,aF,aD,aG=>(loopN (fun(s1:(List (List A2))×Int)=>(if cmp .lss s1.2 (Ar.len aV)then(B6 aV s1.2).bind fun x4=>(J9 N n x4 aF aD aG).bind fun r5=>(loopN (fun(s6:(List (List A2))×Int)=>(if cmp .lss s6.2 (Ar.len r5)then(B6 r5 s6.2).bind fun x9=>(S2 N s6.1 x9).bind fun l10=>some (.inl (l10,ar .add .i64 s6.2 1))else some (.inr s6.1):Option (((List (List A2))×Int) ⊕ (((List (List A2))))))) N (s1.1,0)).bind fun s8=>some (.inl (s8,ar .add .i64 s1.2 1))else some (.inr s1.1):Option (((List (List A2))×Int) ⊕ (((List (List A2))))))) N ([],0)).bind fun s3=>some s3
def DG (N:Nat):Nat→List A1→List A7→List A2→Int→Option (List (List A2))
 |0,_,_,_,_=>none
 |n+1,aV,aF,aD,aG=>(B6 aV 0).bind fun x1=>(J9 N n x1 aF aD aG).bind fun r2=>(loopN (fun(s3:(List (List A2))×Int)=>(if cmp .lss s3.2 (Ar.len aV)then(B6 aV s3.2).bind fun x5=>(J9 N n x5 aF aD aG).bind fun r6=>(loopN (fun(s7:(List (List A2))×Int)=>(if cmp .lss s7.2 (Ar.len s3.1)then(loopN (fun(s10:(List (List A2))×Int)=>(if cmp .lss s10.2 (Ar.len r6)then(B6 s3.1 s7.2).bind fun x13=>(B6 r6 s10.2).bind fun x14=>(BJ N x13 x14).bind fun r15=>if r15 then(B6 s3.1 s7.2).bind fun x16=>(B6 r6 s10.2).bind fun x17=>(G3 N x16 x17).bind fun r18=>(S2 N s10.1 r18).bind fun l19=>some (.inl (l19,ar .add .i64 s10.2 1))else some (.inl (s10.1,ar .add .i64 s10.2 1))else some (.inr s10.1):Option (((List (List A2))×Int) ⊕ (((List (List A2))))))) N (s7.1,0)).bind fun s12=>some (.inl (s12,ar .add .i64 s7.2 1))else some (.inr s7.1):Option (((List (List A2))×Int) ⊕ (((List (List A2))))))) N ([],0)).bind fun s9=>some (.inl (s9,ar .add .i64 s3.2 1))else some (.inr s3.1):Option (((List (List A2))×Int) ⊕ (((List (List A2))))))) N (r2,1)).bind fun s4=>some s4
def V2 (N:Nat):Nat→A1→List A7→List A2→Int→Option (List (List A2))
 |0,_,_,_,_=>none
 |n+1,aA,aF,aD,aG=>(B6 aA.cL 0).bind fun x1=>(J9 N n x1 aF aD aG).bind fun r2=>(loopN (fun(s3:(List (List A2))×Int)=>(if cmp .lss s3.2 (Ar.len r2)then(B6 r2 s3.2).bind fun x6=>(S2 N s3.1 x6).bind fun l7=>(G3 N aD x6).bind fun r10=>(B6 x6 (ar .sub .i64 (Ar.len x6) 1)).bind fun x11=>(V2 N n aA aF r10 (ar .add .i64 x11.At 1)).bind fun r12=>(loopN (fun(s13:(List (List A2))×Int)=>(if cmp .lss s13.2 (Ar.len r12)then(B6 r12 s13.2).bind fun x16=>(G3 N x6 x16).bind fun r17=>(S2 N s13.1 r17).bind fun l18=>some (.inl (l18,ar .add .i64 s13.2 1))else some (.inr s13.1):Option (((List (List A2))×Int) ⊕ (((List (List A2))))))) N (l7,0)).bind fun s15=>some (.inl (s15,ar .add .i64 s3.2 1))else some (.inr s3.1):Option (((List (List A2))×Int) ⊕ (((List (List A2))))))) N ([],0)).bind fun s5=>some s5
end
def Z1 (N:Nat)(aF:List A7)(aI:List A2):Option E4:=(loopN (fun(s3:Int×E4)=>(if cmp .lss s3.1 (Ar.len aI)then(B6 aI s3.1).bind fun x6=>(B6 aI s3.1).bind fun x7=>(B6 aF x7.At).bind fun x8=>(Ct N x8).bind fun r9=>(H8 s3.2.cO ([(⟨x6.Var,r9⟩:E0)])).bind fun l11=>some (.inl (ar .add .i64 s3.1 1,{s3.2 with cO:=l11}))else some (.inr s3.2):Option ((Int×E4) ⊕ (E4)))) N (0,(⟨[]⟩:E4))).bind fun s5=>some s5
def Fk (N:Nat)(aA:A1)(aF:List A7):Option (List E4):=(J9 N N aA aF ([]) 0).bind fun r1=>(loopN (fun(s3:Int×(List E4))=>(if cmp .lss s3.1 (Ar.len r1)then(B6 r1 s3.1).bind fun x6=>(Z1 N aF x6).bind fun r7=>(loopN (fun(s8:Int)=>(if cmp .gtr s8 0 then(WT (Yr s3.2 (ar .sub .i64 s8 1))).bind fun _=>(B6 s3.2 (ar .sub .i64 s8 1)).bind fun x10=>(M6 N r7 x10).bind fun r11=>if cmp .lss r11 0 then some (.inl (ar .sub .i64 s8 1))else some (.inr s8)else some (.inr s8):Option ((Int) ⊕ (Int)))) N (Ar.len s3.2)).bind fun s9=>(N1 s3.2 (some s9) none none).bind fun l13=>(H8 [] l13).bind fun l15=>(((N1 s3.2 none (some s9) none).bind fun l98=>(H8 l98 ([r7])).bind fun l218=>(H8 l218 l15).bind fun l298=>some l298):Option (((List E4)))).bind fun s16=>some (.inl (ar .add .i64 s3.1 1,s16))else some (.inr s3.2):Option ((Int×(List E4)) ⊕ (((List E4)))))) N (0,([]:List E4))).bind fun s5=>some s5
def Bn (N:Nat)(aA:A1)(aF:List A7):Option ((List E4)×Int):=(CS N aA aF).bind fun r1=>if cmp .neq r1 0 then some ([],r1)else(Fk N aA aF).bind fun r2=>some (r2,0)
def DR (N:Nat) (aC:List E4) (aD:List E4):Option Bool:=if cmp .neq (Ar.len aC) (Ar.len aD)then some false else(loopN (fun(s1:Int)=>(if cmp .lss s1 (Ar.len aC)then(B6 aC s1).bind fun x3=>(B6 aD s1).bind fun x4=>(M6 N x3 x4).bind fun r5=>if cmp .neq r5 0 then some (.inr (.inr ()))else some (.inl (ar .add .i64 s1 1))else some (.inr (.inl ())):Option ((Int) ⊕ (Unit ⊕ Unit)))) N 0).bind fun s2=>match s2 with
  | .inl y6=>some true
  | .inr y7=>some false
def T8 (N:Nat)(aA:A1)(aF:List A7):Option Bool:=(CR N aA aF).bind fun r1=>if nt r1 then(BR N).bind fun r2=>some r2 else(W5 N aA aF).bind fun r3=>(Bn N aA aF).bind fun r4=>(DR N r3.1 r4.1).bind fun r5=>if an r5 (cmp .eql r3.2 r4.2)then(BR N).bind fun r6=>some r6 else some false
end Go.Ab
