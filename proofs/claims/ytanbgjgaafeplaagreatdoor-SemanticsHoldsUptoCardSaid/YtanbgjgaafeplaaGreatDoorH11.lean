/- GTSp -/
import Derived.Test.YtanbgjgaafeplaaGreatDoorH10
set_option linter.all false
open Go.Ab.Ar (an ar cmp mx neg nt scmp wr)
namespace Go.Ab
variable [Ar]
instance :DecidableEq D4:=fun x y=>decidable_of_iff (x.source=y.source∧x.seq=y.seq) (by cases x;cases y;simp)
def R6 (N:Nat):Nat→A1→Option (List A1)
 |0,_=>none
 |n+1,aA=>(loopN (fun(s1:(List A1)×Int)=>(if cmp .lss s1.2 (Ar.len aA.cP)then(B6 aA.cP s1.2).bind fun x4=>(R6 N n x4).bind fun r5=>(I3 s1.1 r5).bind fun l7=>some (.inl (l7,ar .add .i64 s1.2 1))else some (.inr s1.1):Option (((List A1)×Int) ⊕ (((List A1)))))) N ([aA],0)).bind fun s3=>some s3
def U4 (N:Nat):Nat→A1→Int→Option Int
 |0,_,_=>none
 |n+1,aA,bD=>(loopN (fun(s1:Int×Int)=>(if an (cmp .lss s1.2 (Ar.len aA.cP)) (cmp .leq s1.1 bD)then(B6 aA.cP s1.2).bind fun x3=>(U4 N n x3 bD).bind fun r4=>some (.inl (ar .add .i64 s1.1 r4,ar .add .i64 s1.2 1))else some (.inr s1.1):Option ((Int×Int) ⊕ (Int)))) N (1,0)).bind fun s2=>some s2
def U6 (N:Nat):Nat→A1→Option Int
 |0,_=>none
 |n+1,aA=>(loopN (fun(s1:Int×Int)=>(if cmp .lss s1.2 (Ar.len aA.cP)then(B6 aA.cP s1.2).bind fun x3=>(U6 N n x3).bind fun r4=>some (.inl (mx s1.1 r4,ar .add .i64 s1.2 1))else some (.inr s1.1):Option ((Int×Int) ⊕ (Int)))) N (0,0)).bind fun s2=>some (ar .add .i64 s2 1)
def U8 (N:Nat):Nat→B1→Int→Option Int
 |0,_,_=>none
 |n+1,aB,bD=>(loopN (fun(s1:Int×Int)=>(if an (cmp .lss s1.2 (Ar.len aB.cP)) (cmp .leq s1.1 bD)then(B6 aB.cP s1.2).bind fun x3=>(U8 N n x3 bD).bind fun r4=>some (.inl (ar .add .i64 s1.1 r4,ar .add .i64 s1.2 1))else some (.inr s1.1):Option ((Int×Int) ⊕ (Int)))) N (1,0)).bind fun s2=>some s2
def U7 (N:Nat):Nat→B1→Option Int
 |0,_=>none
 |n+1,aB=>(loopN (fun(s1:Int×Int)=>(if cmp .lss s1.2 (Ar.len aB.cP)then(B6 aB.cP s1.2).bind fun x3=>(U7 N n x3).bind fun r4=>some (.inl (mx s1.1 r4,ar .add .i64 s1.2 1))else some (.inr s1.1):Option ((Int×Int) ⊕ (Int)))) N (0,0)).bind fun s2=>some (ar .add .i64 s2 1)
def BT (N:Nat)(aB:B1):Option Bool:=(U8 N N aB 200).bind fun r1=>if cmp .leq r1 200 then(U7 N N aB).bind fun r2=>some (cmp .leq r2 100)else some false
def Fz (N:Nat) (aA:A1):Option Bool:=(U4 N N aA 150).bind fun r1=>if cmp .gtr r1 150 then some false else(U6 N N aA).bind fun r2=>if cmp .gtr r2 60 then some false else(R6 N N aA).bind fun r3=>(loopN (fun(s4:Int)=>(if cmp .lss s4 (Ar.len r3)then(B6 r3 s4).bind fun x6=>(BT N x6.cR).bind fun r7=>if nt r7 then some (.inr (.inr ()))else some (.inl (ar .add .i64 s4 1))else some (.inr (.inl ())):Option ((Int) ⊕ (Unit ⊕ Unit)))) N 0).bind fun s5=>match s5 with
   | .inl y8=>some true
   | .inr y9=>some false
def T9 (N:Nat):Nat→A1→Option Int
 |0,_=>none
 |n+1,aA=>((if cmp .eql aA.Op 0 then some 1 else some 0):Option (Int)).bind fun s1=>(loopN (fun(s2:Int×Int)=>(if cmp .lss s2.2 (Ar.len aA.cP)then(B6 aA.cP s2.2).bind fun x4=>(T9 N n x4).bind fun r5=>some (.inl (ar .add .i64 s2.1 r5,ar .add .i64 s2.2 1))else some (.inr s2.1):Option ((Int×Int) ⊕ (Int)))) N (s1,0)).bind fun s3=>some s3
def BQ (N:Nat)(bE:Int)(aY:Int)(bD:Int):Option Int:=(loopN (fun(s1:Int×Int)=>(if an (cmp .lss s1.2 aY) (cmp .leq s1.1 bD)then some (.inl (ar .mul .i64 s1.1 bE,ar .add .i64 s1.2 1))else some (.inr s1.1):Option ((Int×Int) ⊕ (Int)))) N (1,0)).bind fun s2=>some s2
def Y8 (N:Nat):Nat→A1→Option Bool
 |0,_=>none
 | n+1,aA=>if cmp .eql aA.Op 4 then some true else(loopN (fun(s1:Int)=>(if cmp .lss s1 (Ar.len aA.cP)then(B6 aA.cP s1).bind fun x3=>(Y8 N n x3).bind fun r4=>if r4 then some (.inr (.inr ()))else some (.inl (ar .add .i64 s1 1))else some (.inr (.inl ())):Option ((Int) ⊕ (Unit ⊕ Unit)))) N 0).bind fun s2=>match s2 with
   | .inl y5=>some false
   | .inr y6=>some true
def Db (N:Nat) (aA:A1) (aC:List A8):Option Bool:=(Fz N aA).bind fun r1=>if Ar.or (nt r1) (cmp .gtr (Ar.len aC) 10)then some false else(loopN (fun(s2:Int)=>(if cmp .lss s2 (Ar.len aC)then(B6 aC s2).bind fun x4=>if cmp .gtr (Ar.len x4.Values) 9 then some (.inr (.inr ()))else some (.inl (ar .add .i64 s2 1))else some (.inr (.inl ())):Option ((Int) ⊕ (Unit ⊕ Unit)))) N 0).bind fun s3=>match s3 with
  | .inl y5=>(T9 N N aA).bind fun r6=>(BQ N (ar .add .i64 r6 1) (Ar.len aC) 1500).bind fun r7=>if cmp .leq r7 1500 then some true else(Y8 N N aA).bind fun r8=>if nt r8 then(BQ N (Ar.len aC) r6 1500).bind fun r9=>some (cmp .leq r9 1500)else some false
  | .inr y10=>some false
def U0 (N:Nat):Nat→A1→Option (List A1)
 |0,_=>none
 |n+1,aA=>((N6 (some ([aA],())) fun _=>N6 (W0 (fun(s2:Int)=>(if cmp .lss s2 (Ar.len aA.cP)then(B6 aA.cP s2).bind fun x8=>(U0 N n x8).bind fun l9=>N6 (some (l9,())) fun _=>some ([],.inl (ar .add .i64 s2 1))else some ([],.inr ()):Option (List A1×((Int) ⊕ (Unit))))) N 0) fun s7=>some ([],())):Option (List A1×Unit)).bind fun q=>some q.1
def Af (N:Nat)(aJ:A1):Option (List A1):=(((U0 N N aJ).bind fun l1=>N6 (some (l1,())) fun _=>some ([],())):Option (List A1×Unit)).bind fun q=>some q.1
def Q8 (N:Nat)(aA:A1):Option (List A1):=Af N aA
def U1 (N:Nat):Nat→A1→Option (Int×Int)
 |0,_=>none
 |n+1,aA=>(loopN (fun(s1:Int×Int×Int)=>(if cmp .lss s1.2.2 (Ar.len aA.cP)then(B6 aA.cP s1.2.2).bind fun x3=>(U1 N n x3).bind fun r4=>some (.inl (ar .add .i64 s1.1 r4.1,mx s1.2.1 r4.2,ar .add .i64 s1.2.2 1))else some (.inr (s1.1,s1.2.1)):Option ((Int×Int×Int) ⊕ ((Int×Int))))) N (1,0,0)).bind fun s2=>some (s2.1,ar .add .i64 s2.2 1)
def R7 (N:Nat)(bJ:Bool)(aY:Int)(bK:Int):Option Bool:=some (Ar.or (nt bJ) (an (cmp .geq aY 0) (cmp .leq aY bK)))
def Bf (N:Nat):Nat→B1→Option (Int×Int)
 |0,_=>none
 |n+1,aB=>(loopN (fun(s1:Int×Int×Int)=>(if cmp .lss s1.2.2 (Ar.len aB.cP)then(B6 aB.cP s1.2.2).bind fun x3=>(Bf N n x3).bind fun r4=>some (.inl (ar .add .i64 s1.1 r4.1,mx s1.2.1 r4.2,ar .add .i64 s1.2.2 1))else some (.inr (s1.1,s1.2.1)):Option ((Int×Int×Int) ⊕ ((Int×Int))))) N (1,0,0)).bind fun s2=>some (s2.1,ar .add .i64 s2.2 1)
def AU (N:Nat):Nat→B1→(B1→Option Int)→Option Int
 |0,_,_=>none
 | n+1,aB,bI=>(bI aB).bind fun r1=>if cmp .neq r1 0 then some r1 else(loopN (fun(s2:Int)=>(if cmp .lss s2 (Ar.len aB.cP)then(B6 aB.cP s2).bind fun x4=>(AU N n x4 bI).bind fun r5=>if cmp .neq r5 0 then some (.inr (.inr r5))else some (.inl (ar .add .i64 s2 1))else some (.inr (.inl ())):Option ((Int) ⊕ (Unit ⊕ Int)))) N 0).bind fun s3=>match s3 with
   | .inl y6=>some 0
   | .inr y7=>some y7
def EB (N:Nat)(aL:Int):Option (Int×Bool):=if Ar.or (cmp .lss aL 0) (cmp .gtr aL 12)then some (0,false)else if cmp .lss aL 5 then some (0,true)else if cmp .eql aL 12 then some (1,true)else some (2,true)
def FK (N:Nat)(aL:Int):Option (Bool×Bool):=((if cmp .eql aL 1 then some true else some (cmp .eql aL 4)):Option (Bool)).bind fun s1=>if s1 then some (true,true)else if cmp .eql aL 2 then some (true,false)else if cmp .eql aL 3 then some (true,false)else some (false,false)
def Ec (N:Nat)(aH:A5):Option Int:=if an (cmp .eql aH.Kind 0) (Ar.or (cmp .lss aH.Num (-1099511627776)) (cmp .gtr aH.Num 1099511627776))then some 2 else if an (an (cmp .eql aH.Kind 1) (cmp .neq aH.Num 0)) (cmp .neq aH.Num 1)then some 2 else if cmp .gtr (Ar.slen aH.Text) 64 then some 13 else some 0
def U3 (N:Nat)(aH:A5):Option Int:=((if cmp .eql aH.Kind 0 then some true else some (cmp .eql aH.Kind 1)):Option (Bool)).bind fun s1=>if s1 then if scmp .neq aH.Text (⟨#[]⟩:ByteArray)then some 3 else(Ec N aH).bind fun r2=>some r2 else if cmp .eql aH.Kind 2 then if cmp .neq aH.Num 0 then some 3 else(Ec N aH).bind fun r3=>some r3 else some 1
def EA (N:Nat)(aQ:Int)(aH:A5):Option Bool:=some (Ar.or (Ar.or (cmp .eql aH.Kind 0) (cmp .eql aQ 4)) (cmp .eql aQ 5))
def Cl (N:Nat)(aB:B1):Option Int:=(U3 N aB.Value).bind fun r1=>if cmp .neq r1 0 then some r1 else if cmp .eql aB.Op 4 then(EA N aB.Kind aB.Value).bind fun r2=>if Ar.or (nt r2) (an (cmp .eql aB.Kind 1) (nt (an (cmp .eql aB.Value.Kind 0) (an (cmp .eql aB.Value.Num 0) (an (scmp .eql aB.Value.Text (⟨#[]⟩)) true)))))then some 9 else some 0 else some 0
def DZ (N:Nat) (aB:B1):Option Int:=(EB N aB.Op).bind fun r1=>if nt r1.2 then some 1 else if cmp .neq (Ar.len aB.cP) r1.1 then some 15 else(FK N aB.Op).bind fun r2=>if Ar.or (an r2.1 (Ar.or (cmp .lss aB.Var 0) (cmp .geq aB.Var 16))) (an r2.2 (Ar.or (cmp .lss aB.Field 0) (cmp .geq aB.Field 8)))then some 2 else if an (cmp .eql aB.Op 4) (Ar.or (cmp .lss aB.Kind 1) (cmp .gtr aB.Kind 5))then some 1 else((if Ar.or (cmp .eql aB.Op 4) (cmp .eql aB.Op 0)then(Cl N aB).bind fun r4=>if cmp .neq r4 0 then some (.inr r4)else some (.inl ())else some (.inl ())):Option (Unit ⊕ Int)).bind fun s3=>match s3 with
     | .inl y5=>if Ar.or (Ar.or (Ar.or (an (nt r2.1) (cmp .neq aB.Var 0)) (an (nt r2.2) (cmp .neq aB.Field 0))) (an (nt (cmp .eql aB.Op 4)) (cmp .neq aB.Kind 0))) (an (nt (Ar.or (cmp .eql aB.Op 4) (cmp .eql aB.Op 0))) (nt (an (cmp .eql aB.Value.Kind 0) (an (cmp .eql aB.Value.Num 0) (an (scmp .eql aB.Value.Text (⟨#[]⟩)) true)))))then some 3 else some 0
     | .inr y6=>some y6
def CI (N:Nat)(aB:B1):Option Int:=(Bf N N aB).bind fun r1=>if cmp .gtr r1.1 64 then some 5 else if cmp .gtr r1.2 12 then some 12 else(AU N N aB (fun y1=>DZ N y1)).bind fun r2=>some r2
def Ea (N:Nat):Nat→B1→B1→Option Bool
 |0,_,_=>none
 | n+1,aD,aF=>if Ar.or (Ar.or (Ar.or (Ar.or (Ar.or (cmp .neq aD.Op aF.Op) (cmp .neq aD.Var aF.Var)) (cmp .neq aD.Field aF.Field)) (cmp .neq aD.Kind aF.Kind)) (nt (an (cmp .eql aD.Value.Kind aF.Value.Kind) (an (cmp .eql aD.Value.Num aF.Value.Num) (an (scmp .eql aD.Value.Text aF.Value.Text) true))))) (cmp .neq (Ar.len aD.cP) (Ar.len aF.cP))then some false else(loopN (fun(s1:Int)=>(if cmp .lss s1 (Ar.len aD.cP)then(B6 aD.cP s1).bind fun x3=>(B6 aF.cP s1).bind fun x4=>(Ea N n x3 x4).bind fun r5=>if nt r5 then some (.inr (.inr ()))else some (.inl (ar .add .i64 s1 1))else some (.inr (.inl ())):Option ((Int) ⊕ (Unit ⊕ Unit)))) N 0).bind fun s2=>match s2 with
   | .inl y6=>some true
   | .inr y7=>some false
def L5 (N:Nat)(bJ:Bool)(aY:Int):Option Bool:=some (Ar.or bJ (cmp .eql aY 0))
def Q9 (N:Nat) (aA:A1):Option Int:=if Ar.or (cmp .lss aA.Op 0) (cmp .geq aA.Op 11)then some 1 else(B6 G3 aA.Op).bind fun x1=>if Ar.or (cmp .lss (Ar.len aA.cP) x1.cV) (cmp .gtr (Ar.len aA.cP) x1.most)then some 15 else(R7 N x1.cS aA.Typ 15).bind fun r2=>if nt r2 then some 2 else(R7 N x1.cS aA.Var 15).bind fun r3=>if nt r3 then some 2 else(R7 N x1.scope aA.cT 63).bind fun r4=>if nt r4 then some 2 else(R7 N x1.span aA.Span 1099511627776).bind fun r5=>if nt r5 then some 2 else((if x1.cond then(CI N aA.cR).bind fun r7=>if cmp .neq r7 0 then some (.inr r7)else some (.inl ())else some (.inl ())):Option (Unit ⊕ Int)).bind fun s6=>match s6 with
       | .inl y8=>if nt x1.cond then(Ea N N aA.cR (⟨0,[],0,0,0,(⟨0,0,⟨#[]⟩⟩:A5)⟩:B1)).bind fun r9=>if nt r9 then some 3 else(L5 N x1.cS aA.Typ).bind fun r10=>if nt r10 then some 3 else(L5 N x1.cS aA.Var).bind fun r11=>if nt r11 then some 3 else(L5 N x1.scope aA.cT).bind fun r12=>if nt r12 then some 3 else(L5 N x1.span aA.Span).bind fun r13=>if nt r13 then some 3 else some 0 else(L5 N x1.cS aA.Typ).bind fun r14=>if nt r14 then some 3 else(L5 N x1.cS aA.Var).bind fun r15=>if nt r15 then some 3 else(L5 N x1.scope aA.cT).bind fun r16=>if nt r16 then some 3 else(L5 N x1.span aA.Span).bind fun r17=>if nt r17 then some 3 else some 0
       | .inr y18=>some y18
def X4 (N:Nat) (aA:A1):Option Int:=(U1 N N aA).bind fun r2=>if cmp .gtr r2.1 64 then some 5 else if cmp .gtr r2.2 12 then some 12 else(Q8 N aA).bind fun r3=>(H5 (fun(s6:Unit) (y5:A1)=>((Q9 N y5).bind fun r10=>if cmp .neq r10 0 then some (.inr r10)else some (.inl ()):Option ((Unit) ⊕ (Int)))) r3 ()).bind fun o9=>match o9 with
   | .inl s13=>some 0
   | .inr y14=>some y14
def Bv (N:Nat) (aA:A1):Option Int:=(X4 N aA).bind fun r2=>if cmp .neq r2 0 then some r2 else(Q8 N aA).bind fun r3=>(H5 (fun(s6:Unit) (y5:A1)=>(if cmp .geq y5.Op 8 then some (.inr 1)else some (.inl ()):Option ((Unit) ⊕ (Int)))) r3 ()).bind fun o9=>match o9 with
  | .inl s12=>some 0
  | .inr y13=>some y13
def Bw (N:Nat)(aA:A1):Option (Int×Int×Bool):=(Q8 N aA).bind fun r4=>(H5 (fun(s7:Bool×Int×Int) (y6:A1)=>((B6 G3 y6.Op).bind fun x11=>((if x11.cS then some (an s7.1 (cmp .eql y6.Var s7.2.2),ar .add .i64 s7.2.2 1)else some (s7.1,s7.2.2)):Option ((Bool×Int))).bind fun s12=>if x11.scope then some (.inl (an s12.1 (cmp .eql y6.cT s7.2.1),ar .add .i64 s7.2.1 1,s12.2))else some (.inl (s12.1,s7.2.1,s12.2)):Option ((Bool×Int×Int) ⊕ (Unit)))) r4 (true,0,0)).bind fun o10=>match o10 with
 | .inl s15=>some (s15.2.2,s15.2.1,s15.1)
 | .inr _=>none
def Bx (N:Nat)(aA:A1):Option Int:=(Bv N aA).bind fun r1=>if cmp .neq r1 0 then some r1 else(Bw N aA).bind fun r2=>if nt r2.2.2 then some 14 else some 0
def CJ (N:Nat)(aB:A8):Option Ds:=some (⟨aB.Time,aB.Source,aB.Seq⟩:Ds)
def E0 (N:Nat)(bN:List D1)(bT:List D1)(bO:D1→D1→Option Int):Option Int:=(loopN (fun(s1:Int)=>(if cmp .lss s1 (Ar.len bN)then(B6 bN s1).bind fun x3=>if cmp .geq s1 (Ar.len bT)then some (.inr (.inr 1))else(B6 bT s1).bind fun x5=>(bO x3 x5).bind fun r6=>if cmp .neq r6 0 then some (.inr (.inr r6))else some (.inl (ar .add .i64 s1 1))else some (.inr (.inl ())):Option ((Int) ⊕ (Unit ⊕ Int)))) N 0).bind fun s2=>match s2 with
 | .inl y7=>if cmp .lss (Ar.len bN) (Ar.len bT)then some (-1)else some 0
 | .inr y8=>some y8
def BN (N:Nat)(bW:List Int):Option Int:=(loopN (fun(s1:Int)=>(if cmp .lss s1 (Ar.len bW)then(B6 bW s1).bind fun x3=>if cmp .neq x3 0 then some (.inr (.inr x3))else some (.inl (ar .add .i64 s1 1))else some (.inr (.inl ())):Option ((Int) ⊕ (Unit ⊕ Int)))) N 0).bind fun s2=>match s2 with
 | .inl y4=>some 0
 | .inr y5=>some y5
def BE (N:Nat)(aN:Int):Option Bool:=some (cmp .neq aN aN)
def J5 (N:Nat)(aN:Int)(bH:Int):Option Int:=(BE N aN).bind fun r1=>(BE N bH).bind fun r2=>if r1 then if r2 then some 0 else some (-1)else if r2 then some 1 else if cmp .lss aN bH then some (-1)else if cmp .gtr aN bH then some 1 else some 0
def BJ (N:Nat)(aD:Ds)(aF:Ds):Option Int:=(J5 N aD.Time aF.Time).bind fun r1=>(J5 N aD.Source aF.Source).bind fun r2=>(J5 N aD.Seq aF.Seq).bind fun r3=>(BN N ([r1,r2,r3])).bind fun r4=>some r4
def W6 (N:Nat)(aN:D1)(bH:D1):Option Int:=(BJ N aN.Ref bH.Ref).bind fun r1=>(J5 N aN.Var bH.Var).bind fun r2=>(BN N ([r1,r2])).bind fun r3=>some r3
def N8 (N:Nat)(aD:D0)(aF:D0):Option Int:=(E0 N aD.cQ aF.cQ (fun y1 y2=>W6 N y1 y2)).bind fun r1=>some r1
def CU (N:Nat)(aB:A8):Option Bool:=some (an (an (an (an (an (cmp .geq aB.Time 0) (cmp .leq aB.Time 1099511627776)) (cmp .geq aB.Source 0)) (cmp .lss aB.Source 8)) (cmp .geq aB.Seq 0)) (cmp .leq aB.Seq 1099511627776))
def BC (N:Nat)(aD:A8)(aF:A8):Option Int:=(CJ N aD).bind fun r1=>(CJ N aF).bind fun r2=>if an (cmp .eql r1.Time r2.Time) (an (cmp .eql r1.Source r2.Source) (an (cmp .eql r1.Seq r2.Seq) true))then some 0 else(J5 N aD.Time aF.Time).bind fun r3=>(J5 N aD.Source aF.Source).bind fun r4=>(J5 N aD.Seq aF.Seq).bind fun r5=>(BN N ([r3,r4,r5])).bind fun r6=>some r6
def Cy (N:Nat)(aB:A8):Option D4:=some (⟨aB.Source,aB.Seq⟩:D4)
def Cd (N:Nat) (aC:List A8):Option Int:=if cmp .gtr (Ar.len aC) 4096 then some 5 else(loopN (fun(s3:Int×(List (D4×Bool)))=>(if cmp .lss s3.1 (Ar.len aC)then(B6 aC s3.1).bind fun x6=>(CU N x6).bind fun r8=>if nt r8 then some (.inr (.inr (2,s3.2)))else if cmp .gtr s3.1 0 then(B6 aC (ar .sub .i64 s3.1 1)).bind fun x9=>(BC N x9 x6).bind fun r10=>if cmp .geq r10 0 then some (.inr (.inr (14,s3.2)))else(Cy N x6).bind fun r11=>(Ja s3.2 r11 (false:Bool)).bind fun r12=>if r12.1 then some (.inr (.inr (7,s3.2)))else(Cy N x6).bind fun r13=>(Ie s3.2 r13 true).bind fun l15=>some (.inl (ar .add .i64 s3.1 1,l15))else(Cy N x6).bind fun r16=>(Ja s3.2 r16 (false:Bool)).bind fun r17=>if r17.1 then some (.inr (.inr (7,s3.2)))else(Cy N x6).bind fun r18=>(Ie s3.2 r18 true).bind fun l20=>some (.inl (ar .add .i64 s3.1 1,l20))else some (.inr (.inl s3.2)):Option ((Int×(List (D4×Bool))) ⊕ (((List (D4×Bool))) ⊕ (Int×(List (D4×Bool))))))) N (0,([]:List (D4×Bool)))).bind fun s5=>match s5 with
  | .inl y21=>some 0
  | .inr y23=>some y23.1
def AA (N:Nat):Option Unit:=some ()
def Fj (N:Nat)(bB:Int):Option ByteArray:=LY bB
def V5 (N:Nat)(bG:List Int)(bB:Int)(bE:Int):Option (List Int):=if cmp .eql bE 10 then if cmp .lss bB 100 then(Fj N (wr .i64 bB)).bind fun r1=>(I3 bG (KH r1)).bind fun l3=>some l3 else none else none
def Y2 (N:Nat)(bG:List Int)(bB:Int)(bE:Int):Option (List Int):=if cmp .lss bB 0 then(I3 bG ([45])).bind fun l2=>(V5 N l2 (neg .u64 (wr .u64 bB)) bE).bind fun l3=>some l3 else(V5 N bG (wr .u64 bB) bE).bind fun l5=>some l5
def G1 (N:Nat)(bG:List Int)(bB:Int)(bE:Int):Option (List Int):=(Y2 N bG bB bE).bind fun l1=>some l1
def M3 (N:Nat)(aI:List A0):Option ByteArray:=(loopN (fun(s2:Int×(List Int))=>(if cmp .lss s2.1 (Ar.len aI)then(B6 aI s2.1).bind fun x5=>(G1 N s2.2 x5.cU 10).bind fun l6=>(((I3 l6 ([64])).bind fun l90=>(G1 N l90 x5.at_ 10).bind fun l209=>(I3 l209 ([32])).bind fun l290=>some l290):Option (((List Int)))).bind fun s8=>some (.inl (ar .add .i64 s2.1 1,s8))else some (.inr s2.2):Option ((Int×(List Int)) ⊕ (((List Int)))))) N (0,([]:List Int))).bind fun s4=>(TR s4).bind fun r411=>some r411
def P2 (N:Nat)(aY:Int):Option A5:=some (⟨0,aY,⟨#[]⟩⟩:A5)
def AJ (N:Nat)(aD:Int)(aF:Int)(aM:Int→Option A5):Option A5:=(aM (ar .add .i64 aD aF)).bind fun r2=>some r2
def AI (N:Nat)(aD:Int)(aF:Int)(aM:Int→Option A5):Option A5:=(aM (ar .sub .i64 aD aF)).bind fun r2=>some r2
def FX (N:Nat)(aF:Bool):Option A5:=if aF then some (⟨1,1,⟨#[]⟩⟩:A5)else some (⟨1,0,⟨#[]⟩⟩:A5)
def Z3 (N:Nat)(aF:Bool):Option A5:=(FX N aF).bind fun r2=>some r2
def AH (N:Nat)(aD:Int)(aF:Int):Option A5:=(Z3 N (cmp .lss aD aF)).bind fun r2=>some r2
def AF (N:Nat)(aD:Int)(aF:Int):Option A5:=(Z3 N (cmp .leq aD aF)).bind fun r2=>some r2
def AE (N:Nat)(aD:Int)(aF:Int):Option A5:=(Z3 N (an (cmp .eql aD 1) (cmp .eql aF 1))).bind fun r2=>some r2
def AD (N:Nat)(aD:Int)(aF:Int):Option A5:=(Z3 N (Ar.or (cmp .eql aD 1) (cmp .eql aF 1))).bind fun r2=>some r2
def AC (N:Nat)(aD:Int)(aJ:Int):Option A5:=(Z3 N (cmp .neq aD 1)).bind fun r2=>some r2
def GE (N:Nat):Option Unit:=some ()
def M7 (N:Nat)(aN:P8)(aH:Int):Option (List A8):=if Ar.or (cmp .lss aH 0) (cmp .geq aH (Ar.len aN.env.cX))then some ([])else(B6 aN.env.cX aH).bind fun x1=>some x1
def Ak (N:Nat)(aB:A8)(aX:Int):Option (A5×Int):=if cmp .geq aX (Ar.len aB.Values)then some ((⟨0,0,⟨#[]⟩⟩:A5),6)else(B6 aB.Values aX).bind fun x2=>some (x2,0)
def W7 (N:Nat)(aQ:Int):Option Bool:=some (an (cmp .geq aQ 0) (cmp .leq aQ 5))
def T3 (N:Nat)(aQ:Int)(aH:A5):Option Bool:=some (Ar.or (cmp .eql aH.Kind 0) (an (an (cmp .neq aQ 1) (cmp .neq aQ 2)) (cmp .neq aQ 3)))
def N1 (N:Nat)(aQ:Int)(aH:A5):Option Int:=(U3 N aH).bind fun r1=>if cmp .neq r1 0 then some r1 else(T3 N aQ aH).bind fun r2=>if nt r2 then some 9 else some 0
def G6 (N:Nat)(cE:C0)(aC:List A5)(cF:C0→A5→Option C0):Option C0:=(loopN (fun(s3:Int×C0)=>(if cmp .lss s3.1 (Ar.len aC)then(B6 aC s3.1).bind fun x5=>(cF s3.2 x5).bind fun r6=>some (.inl (ar .add .i64 s3.1 1,r6))else some (.inr s3.2):Option ((Int×C0) ⊕ (C0)))) N (0,cE)).bind fun s4=>some s4
def Br (N:Nat):Option A5:=some (⟨0,0,⟨#[]⟩⟩:A5)
def Bq (N:Nat)(bF:A5)(aJ:A5):Option A5:=some (⟨0,ar .add .i64 bF.Num aJ.Num,⟨#[]⟩⟩:A5)
def Bp (N:Nat)(bF:A5)(aJ:A5):Option A5:=some (⟨0,Ar.mn bF.Num aJ.Num,⟨#[]⟩⟩:A5)
def Bo (N:Nat)(bF:A5)(aJ:A5):Option A5:=some (⟨0,mx bF.Num aJ.Num,⟨#[]⟩⟩:A5)
def Bn (N:Nat)(bF:A5):Option A5:=some bF
def Bm (N:Nat)(bF:A5):Option A5:=some bF
def X7 (N:Nat)(aQ:Int)(aD:A5)(aF:A5):Option A5:=if cmp .eql aQ 0 then(Br N).bind fun r2=>some r2 else if cmp .eql aQ 1 then(Bq N aD aF).bind fun r3=>some r3 else if cmp .eql aQ 2 then(Bp N aD aF).bind fun r4=>some r4 else if cmp .eql aQ 3 then(Bo N aD aF).bind fun r5=>some r5 else if cmp .eql aQ 4 then(Bn N aD).bind fun r6=>some r6 else if cmp .eql aQ 5 then(Bm N aF).bind fun r7=>some r7 else none
def Bi (N:Nat)(aD:C0)(aF:C0):Option C0:=if cmp .eql aD.Count 0 then some aF else if cmp .eql aF.Count 0 then some aD else(X7 N aD.Kind aD.Value aF.Value).bind fun r2=>some (⟨aD.Kind,ar .add .i64 aD.Count aF.Count,r2⟩:C0)
def Z4 (N:Nat)(aQ:Int)(aH:A5):Option A5:=if cmp .eql aQ 0 then some (⟨0,0,⟨#[]⟩⟩:A5)else some aH
def M9 (N:Nat)(aD:C0)(aH:A5)(aM:Int):Option C0:=(Z4 N aM aH).bind fun r2=>(Bi N aD (⟨aM,1,r2⟩:C0)).bind fun r3=>some r3
def Au (N:Nat)(aD:C0):Option Int:=(W7 N aD.Kind).bind fun r1=>if nt r1 then some 1 else if Ar.or (cmp .lss aD.Count 0) (cmp .gtr aD.Count 4096)then some 2 else if Ar.or (cmp .eql aD.Count 0) (cmp .eql aD.Kind 0)then if nt (an (cmp .eql aD.Value.Kind 0) (an (cmp .eql aD.Value.Num 0) (an (scmp .eql aD.Value.Text (⟨#[]⟩)) true)))then some 3 else some 0 else if cmp .eql aD.Kind 1 then if nt (an (an (an (cmp .eql aD.Value.Kind 0) (scmp .eql aD.Value.Text (⟨#[]⟩:ByteArray))) (cmp .geq aD.Value.Num (neg .i64 (ar .mul .i64 aD.Count 1099511627776)))) (cmp .leq aD.Value.Num (ar .mul .i64 aD.Count 1099511627776)))then some 3 else some 0 else(U3 N aD.Value).bind fun r2=>if cmp .eql r2 0 then(T3 N aD.Kind aD.Value).bind fun r3=>if nt r3 then some 3 else some 0 else some 3
def Bj (N:Nat)(aD:C0)(aZ:A5):Option (A5×Int):=(Au N aD).bind fun r2=>if cmp .neq r2 0 then some ((⟨0,0,⟨#[]⟩⟩:A5),r2)else(N1 N aD.Kind aZ).bind fun r3=>if cmp .neq r3 0 then some ((⟨0,0,⟨#[]⟩⟩:A5),r3)else if cmp .eql aD.Kind 0 then some ((⟨0,aD.Count,⟨#[]⟩⟩:A5),0)else if an (cmp .eql aD.Count 0) (cmp .neq aD.Kind 1)then some (aZ,0)else some (aD.Value,0)
def Cr (N:Nat) (aQ:Int) (aC:List A5) (aZ:A5):Option (A5×Int):=(W7 N aQ).bind fun r2=>if nt r2 then some ((⟨0,0,⟨#[]⟩⟩:A5),1)else if cmp .gtr (Ar.len aC) 4096 then some ((⟨0,0,⟨#[]⟩⟩:A5),5)else(loopN (fun(s3:Int)=>(if cmp .lss s3 (Ar.len aC)then(B6 aC s3).bind fun x5=>(N1 N aQ x5).bind fun r6=>if cmp .neq r6 0 then some (.inr (.inr r6))else some (.inl (ar .add .i64 s3 1))else some (.inr (.inl ())):Option ((Int) ⊕ (Unit ⊕ Int)))) N 0).bind fun s4=>match s4 with
   | .inl y7=>(G6 N (⟨aQ,0,(⟨0,0,⟨#[]⟩⟩:A5)⟩:C0) aC (fun y1 y2=>M9 N y1 y2 aQ)).bind fun r8=>(Bj N r8 aZ).bind fun r9=>some (r9.1,r9.2)
   | .inr y10=>some ((⟨0,0,⟨#[]⟩⟩:A5),y10)
def S0 (N:Nat)(aN:P8)(aB:B1):Option (A5×Int):=(M7 N aN aB.Var).bind fun r2=>(loopN (fun(s3:(List A5)×Int)=>(if cmp .lss s3.2 (Ar.len r2)then(B6 r2 s3.2).bind fun x6=>(Ak N x6 aB.Field).bind fun r7=>if cmp .neq r7.2 0 then some (.inr (.inr r7.2))else(I3 s3.1 ([r7.1])).bind fun l9=>some (.inl (l9,ar .add .i64 s3.2 1))else some (.inr (.inl s3.1)):Option (((List A5)×Int) ⊕ (((List A5)) ⊕ Int)))) N ([],0)).bind fun s5=>match s5 with
 | .inl y10=>(Cr N aB.Kind y10 aB.Value).bind fun r12=>some (r12.1,r12.2)
 | .inr y13=>some ((⟨0,0,⟨#[]⟩⟩:A5),y13)
def T7 (N:Nat) (aN:P8) (aB:B1):Option (A5×Int):=(M7 N aN aB.Var).bind fun r2=>if cmp .eql aB.Op 0 then some (aB.Value,0)else if cmp .eql aB.Op 3 then some ((⟨0,Ar.len r2,⟨#[]⟩⟩:A5),0)else if cmp .eql aB.Op 4 then(S0 N aN aB).bind fun r3=>some (r3.1,r3.2)else((if cmp .neq aB.Var aN.own then if cmp .eql (Ar.len r2) 0 then some (.inr ())else(B6 r2 (ar .sub .i64 (Ar.len r2) 1)).bind fun x6=>some (.inl x6)else some (.inl aN.event)):Option (A8 ⊕ Unit)).bind fun s5=>match s5 with
    | .inl y7=>if cmp .eql aB.Op 2 then some ((⟨0,y7.Time,⟨#[]⟩⟩:A5),0)else(Ak N y7 aB.Field).bind fun r8=>((if cmp .eql r8.2 0 then(U3 N r8.1).bind fun r10=>some r10 else some r8.2):Option (Int)).bind fun s9=>if cmp .neq s9 0 then some ((⟨0,0,⟨#[]⟩⟩:A5),s9)else some (r8.1,0)
    | .inr y11=>some ((⟨0,0,⟨#[]⟩⟩:A5),10)
def BB (N:Nat)(aL:Int)(bC:List Int):Option Int:=(loopN (fun(s1:Int)=>(if cmp .lss s1 (Ar.len bC)then(B6 bC s1).bind fun x3=>((if cmp .eql aL 5 then some true else if cmp .eql aL 6 then some true else if cmp .eql aL 7 then some true else some (cmp .eql aL 8)):Option (Bool)).bind fun s4=>if s4 then if nt (cmp .eql x3 0)then some (.inr (.inr ()))else some (.inl (ar .add .i64 s1 1))else((if cmp .eql aL 10 then some true else if cmp .eql aL 11 then some true else some (cmp .eql aL 12)):Option (Bool)).bind fun s5=>if s5 then if nt (cmp .eql x3 1)then some (.inr (.inr ()))else some (.inl (ar .add .i64 s1 1))else if cmp .eql aL 9 then(B6 bC 0).bind fun x6=>if nt (cmp .eql x3 x6)then some (.inr (.inr ()))else some (.inl (ar .add .i64 s1 1))else some (.inl (ar .add .i64 s1 1))else some (.inr (.inl ())):Option ((Int) ⊕ (Unit ⊕ Unit)))) N 0).bind fun s2=>match s2 with
 | .inl y7=>some 0
 | .inr y8=>some 9
def I8 (N:Nat):Nat→P8→B1→Option (A5×Int)
 |0,_,_=>none
 | n+1,aN,aB=>if cmp .eql (Ar.len aB.cP) 0 then(T7 N aN aB).bind fun r2=>some (r2.1,r2.2)else(loopN (fun(s3:(List A5)×(List Int)×Int)=>(if cmp .lss s3.2.2 (Ar.len aB.cP)then(B6 aB.cP s3.2.2).bind fun x7=>(I8 N n aN x7).bind fun r8=>if cmp .neq r8.2 0 then some (.inr (.inr r8.2))else(I3 s3.1 ([r8.1])).bind fun l9=>(I3 s3.2.1 ([r8.1.Kind])).bind fun l12=>some (.inl (l9,l12,ar .add .i64 s3.2.2 1))else some (.inr (.inl (s3.1,s3.2.1))):Option (((List A5)×(List Int)×Int) ⊕ (((List A5)×(List Int)) ⊕ Int)))) N ([],[],0)).bind fun s6=>match s6 with
   | .inl y13=>(BB N aB.Op y13.2).bind fun r16=>if cmp .neq r16 0 then some ((⟨0,0,⟨#[]⟩⟩:A5),r16)else if cmp .eql aB.Op 9 then(B6 y13.1 0).bind fun x17=>(B6 y13.1 1).bind fun x18=>(Z3 N (an (cmp .eql x17.Kind x18.Kind) (an (cmp .eql x17.Num x18.Num) (an (scmp .eql x17.Text x18.Text) true)))).bind fun r19=>some (r19,0)else if cmp .eql aB.Op 5 then(B6 y13.1 0).bind fun x20=>(B6 y13.1 (ar .sub .i64 (Ar.len y13.1) 1)).bind fun x21=>(AJ N x20.Num x21.Num (fun y1=>P2 N y1)).bind fun r22=>some (r22,0)else if cmp .eql aB.Op 6 then(B6 y13.1 0).bind fun x23=>(B6 y13.1 (ar .sub .i64 (Ar.len y13.1) 1)).bind fun x24=>(AI N x23.Num x24.Num (fun y1=>P2 N y1)).bind fun r25=>some (r25,0)else if cmp .eql aB.Op 7 then(B6 y13.1 0).bind fun x26=>(B6 y13.1 (ar .sub .i64 (Ar.len y13.1) 1)).bind fun x27=>(AH N x26.Num x27.Num).bind fun r28=>some (r28,0)else if cmp .eql aB.Op 8 then(B6 y13.1 0).bind fun x29=>(B6 y13.1 (ar .sub .i64 (Ar.len y13.1) 1)).bind fun x30=>(AF N x29.Num x30.Num).bind fun r31=>some (r31,0)else if cmp .eql aB.Op 10 then(B6 y13.1 0).bind fun x32=>(B6 y13.1 (ar .sub .i64 (Ar.len y13.1) 1)).bind fun x33=>(AE N x32.Num x33.Num).bind fun r34=>some (r34,0)else if cmp .eql aB.Op 11 then(B6 y13.1 0).bind fun x35=>(B6 y13.1 (ar .sub .i64 (Ar.len y13.1) 1)).bind fun x36=>(AD N x35.Num x36.Num).bind fun r37=>some (r37,0)else if cmp .eql aB.Op 12 then(B6 y13.1 0).bind fun x38=>(B6 y13.1 (ar .sub .i64 (Ar.len y13.1) 1)).bind fun x39=>(AC N x38.Num x39.Num).bind fun r40=>some (r40,0)else(B6 y13.1 0).bind fun x41=>(B6 y13.1 (ar .sub .i64 (Ar.len y13.1) 1)).bind fun x42=>none
   | .inr y43=>some ((⟨0,0,⟨#[]⟩⟩:A5),y43)
def FL (N:Nat)(aB:B1)(aR:Bk)(aU:Int)(aV:A8):Option (A5×Int):=(CI N aB).bind fun r2=>if cmp .neq r2 0 then some ((⟨0,0,⟨#[]⟩⟩:A5),r2)else(((I8 N N (⟨aR,aU,aV,()⟩:P8) aB).bind fun r244=>some (r244.2,r244.1)):Option ((Int×A5))).bind fun s3=>some (s3.2,s3.1)
def CH (N:Nat)(aB:B1)(aR:Bk)(aU:Int)(aV:A8):Option Bool:=(FL N aB aR aU aV).bind fun r1=>if cmp .eql r1.2 0 then(Z3 N true).bind fun r2=>some (an (cmp .eql r1.1.Kind r2.Kind) (an (cmp .eql r1.1.Num r2.Num) (an (scmp .eql r1.1.Text r2.Text) true)))else some false
def P6 (N:Nat)(aK:B3)(aI:List A0)(cC:Int):Option Bk:=(Um 16 16 ([]:List A8)).bind fun l3=>(loopN (fun(s5:Int×(List (List A8)))=>(if cmp .lss s5.1 (Ar.len aI)then(B6 aI s5.1).bind fun x8=>if cmp .lss x8.at_ cC then(B6 s5.2 x8.cU).bind fun x9=>(B6 aK.cY x8.at_).bind fun x14=>(I3 x9 ([x14])).bind fun l15=>(Id s5.2 x8.cU (fun _=>l15)).bind fun l13=>some (.inl (ar .add .i64 s5.1 1,l13))else some (.inl (ar .add .i64 s5.1 1,s5.2))else some (.inr s5.2):Option ((Int×(List (List A8))) ⊕ (((List (List A8))))))) N (0,l3)).bind fun s7=>some (⟨s7⟩:Bk)
def G9 (N:Nat)(aK:B3)(bP:B1)(aI:List A0)(aU:Int)(bA:Int):Option Bool:=(P6 N aK aI bA).bind fun r1=>(B6 aK.cY bA).bind fun x2=>(CH N bP r1 aU x2).bind fun r3=>some r3
def S3 (N:Nat)(aJ:Int)(aM:B3)(aP:A1)(aS:List A0):Option (List (List A0)):=((N6 (W0 (fun(s1:Int)=>(if cmp .lss s1 (Ar.len aM.cY)then(B6 aM.cY s1).bind fun x7=>if cmp .eql x7.Typ aP.Typ then(G9 N aM aP.cR aS aP.Var s1).bind fun r8=>if r8 then N6 (some ([[(⟨aP.Var,s1⟩:A0)]],())) fun _=>some ([],.inl (ar .add .i64 s1 1))else some ([],.inl (ar .add .i64 s1 1))else some ([],.inl (ar .add .i64 s1 1))else some ([],.inr ()):Option (List (List A0)×((Int) ⊕ (Unit))))) N aJ) fun s6=>some ([],())):Option (List (List A0)×Unit)).bind fun q=>some q.1
def K0 (N:Nat)(aK:B3)(aA:A1)(aO:List A0)(aG:Int):Option (List (List A0)):=S3 N aG aK aA aO
def E5 (N:Nat)(aJ:List (List A0)):Option (List (List A0)):=((N6 (W0 (fun(s1:Int)=>(if cmp .lss s1 (Ar.len aJ)then(B6 aJ s1).bind fun x7=>N6 (some ([x7],())) fun _=>some ([],.inl (ar .add .i64 s1 1))else some ([],.inr ()):Option (List (List A0)×((Int) ⊕ (Unit))))) N 0) fun s6=>some ([],())):Option (List (List A0)×Unit)).bind fun q=>some q.1
def O1 (N:Nat)(aI:List (List A0)):Option (List (List A0)):=E5 N aI
def AZ (N:Nat)(aN:A0)(bH:A0):Option Int:=some (ar .sub .i64 aN.at_ bH.at_)
def L4 (N:Nat)(aD:List A0)(aF:List A0):Option (List A0):=(Um 0 (ar .add .i64 (Ar.len aD) (Ar.len aF)) ((⟨0,0⟩:A0):A0)).bind fun l2=>(I3 l2 aD).bind fun l4=>(I3 l4 aF).bind fun l6=>(GV (fun y1 y2=>AZ N y1 y2) l6).bind fun l7=>some l7
def K7 (N:Nat)(aI:List A0):Option Int:=(B6 aI (ar .sub .i64 (Ar.len aI) 1)).bind fun x1=>some x1.at_
def O2 (N:Nat)(aI:List A0)(bI:A0→Option Bool):Option Int:=(loopN (fun(s1:Int)=>(if cmp .lss s1 (Ar.len aI)then(B6 aI s1).bind fun x3=>(bI x3).bind fun r4=>if r4 then some (.inr (.inr s1))else some (.inl (ar .add .i64 s1 1))else some (.inr (.inl ())):Option ((Int) ⊕ (Unit ⊕ Int)))) N 0).bind fun s2=>match s2 with
 | .inl y5=>some (-1)
 | .inr y6=>some y6
def G8 (N:Nat)(aI:List A0)(bI:A0→Option Bool):Option Bool:=(O2 N aI bI).bind fun r1=>some (cmp .geq r1 0)
def T5 (N:Nat)(aN:A0)(aJ:Int):Option Bool:=some (cmp .eql aN.at_ aJ)
def S2 (N:Nat)(aI:List A0)(bA:Int):Option Bool:=(G8 N aI (fun y1=>T5 N y1 bA)).bind fun r1=>some r1
def X1 (N:Nat)(aN:A0)(aJ:List A0):Option Bool:=(S2 N aJ aN.at_).bind fun r1=>some r1
def Ao (N:Nat)(aD:List A0)(aF:List A0):Option Bool:=(G8 N aD (fun y1=>X1 N y1 aF)).bind fun r1=>some r1
def S6 (N:Nat):Nat→List (List (List A0))→List A0→Option (List (List A0))
 |0,_,_=>none
 |n+1,bQ,bM=>((if cmp .eql (Ar.len bQ) 0 then N6 (some ([bM],())) fun _=>some ([],())else(B6 bQ 0).bind fun x2=>N6 (W0 (fun(s3:Int)=>(if cmp .lss s3 (Ar.len x2)then(B6 x2 s3).bind fun x9=>(Ao N bM x9).bind fun r10=>if nt r10 then(N4 bQ (some 1) none none).bind fun l11=>(L4 N bM x9).bind fun r13=>(S6 N n l11 r13).bind fun l14=>N6 (some (l14,())) fun _=>some ([],.inl (ar .add .i64 s3 1))else some ([],.inl (ar .add .i64 s3 1))else some ([],.inr ()):Option (List (List A0)×((Int) ⊕ (Unit))))) N 0) fun s8=>some ([],())):Option (List (List A0)×Unit)).bind fun q=>some q.1
def Q3 (N:Nat) (aK:B3) (aA:A1) (aO:List A0) (aI:List A0):Option Bool:=if cmp .eql aA.Op 6 then(K7 N aI).bind fun r1=>(B6 aK.cY r1).bind fun x2=>(B6 aI 0).bind fun x3=>(B6 aK.cY x3.at_).bind fun x4=>some (cmp .leq (ar .sub .i64 x2.Time x4.Time) aA.Span)else if cmp .eql aA.Op 7 then(L4 N aO aI).bind fun r5=>(P6 N aK r5 (Ar.len aK.cY)).bind fun r6=>(CH N aA.cR r6 (-1) (⟨0,0,0,0,[]⟩:A8)).bind fun r7=>some r7 else(L4 N aO aI).bind fun r8=>(B6 aI 0).bind fun x9=>(loopN (fun(s10:Int)=>((K7 N aI).bind fun r12=>if cmp .lss s10 r12 then(B6 aK.cY s10).bind fun x13=>if cmp .eql x13.Typ aA.Typ then(S2 N aI s10).bind fun r14=>if nt r14 then(G9 N aK aA.cR r8 aA.Var s10).bind fun r15=>if r15 then some (.inr (.inr ()))else some (.inl (ar .add .i64 s10 1))else some (.inl (ar .add .i64 s10 1))else some (.inl (ar .add .i64 s10 1))else some (.inr (.inl ())):Option ((Int) ⊕ (Unit ⊕ Unit)))) N (ar .add .i64 x9.at_ 1)).bind fun s11=>match s11 with
   | .inl y16=>some true
   | .inr y17=>some false
mutual
def C8 (N:Nat):Nat→B3→A1→List A0→Int→Option (List (List A0))
 |0,_,_,_,_=>none
 |n+1,aK,aA,aO,aG=>(AA N).bind fun r5=>(B6 ([fun y1 y2 y3 y4=>K0 N y1 y2 y3 y4,fun y1 y2 y3 y4=>L9 N n y1 y2 y3 y4,fun y1 y2 y3 y4=>M0 N n y1 y2 y3 y4,fun y1 y2 y3 y4=>M1 N n y1 y2 y3 y4,fun y1 y2 y3 y4=>K9 N n y1 y2 y3 y4,fun y1 y2 y3 y4=>E7 N n y1 y2 y3 y4,fun y1 y2 y3 y4=>E7 N n y1 y2 y3 y4,fun y1 y2 y3 y4=>E7 N n y1 y2 y3 y4]:List (B3→A1→(List A0)→Int→Option (List (List A0)))) aA.Op).bind fun f7=>(f7 aK aA aO aG).bind fun r8=>(H5 (fun(s11:(List (ByteArray×Bool))×(List (List A0))) (y10:(List A0))=>((M3 N y10).bind fun r17=>(Ja s11.1 r17 (false:Bool)).bind fun r18=>if r18.1 then some (.inl (s11.1,s11.2))else(Ie s11.1 r17 true).bind fun l20=>(I3 s11.2 ([y10])).bind fun l22=>((if cmp .gtr (Ar.len l22) 4096 then none else some ()):Option (Unit)).bind fun s23=>if aK.full then some (.inr (l20,l22))else some (.inl (l20,l22)):Option (((List (ByteArray×Bool))×(List (List A0))) ⊕ (((List (ByteArray×Bool))×(List (List A0))))))) r8 (([]:List (ByteArray×Bool)),[])).bind fun o16=>match o16 with
  | .inl s28=>some s28.2
  | .inr y31=>some ([])
def L9 (N:Nat):Nat→B3→A1→List A0→Int→Option (List (List A0))
 |0,_,_,_,_=>none
 |n+1,aK,aA,aO,aG=>if cmp .eql (Ar.len aA.cP) 1 then(B6 aA.cP 0).bind fun x1=>(C8 N n aK x1 aO aG).bind fun r2=>(O1 N r2).bind fun r3=>some r3 else(N4 aA.cP (some 1) none none).bind fun l6=>(B6 aA.cP 0).bind fun x8=>(K8 N n aK x8 aO aG (fun y1 y2=>J9 N n y1 y2 aK ({aA with cP:=l6}))).bind fun r9=>some r9
def M0 (N:Nat):Nat→B3→A1→List A0→Int→Option (List (List A0))
 |0,_,_,_,_=>none
 |n+1,aK,aA,aO,aG=>Q4 N n aA aK aO aG
def M1 (N:Nat):Nat→B3→A1→List A0→Int→Option (List (List A0))
 |0,_,_,_,_=>none
 |n+1,aK,aA,aO,aG=>Q5 N n aA aK aO aG
def K9 (N:Nat):Nat→B3→A1→List A0→Int→Option (List (List A0))
 |0,_,_,_,_=>none
 |n+1,aK,aA,aO,aG=>O5 N n aK aA aO aG
def E7 (N:Nat):Nat→B3→A1→List A0→Int→Option (List (List A0))
 |0,_,_,_,_=>none
 |n+1,aK,aA,aO,aG=>O4 N n aK aA aO aG
def K8 (N:Nat):Nat→B3→A1→List A0→Int→((List A0)→Int→Option (List (List A0)))→Option (List (List A0))
 |0,_,_,_,_,_=>none
 |n+1,aK,aA,aO,aG,bX=>O3 N n aK aA aO aG bX
def J9 (N:Nat):Nat→List A0→Int→B3→A1→Option (List (List A0))
 |0,_,_,_,_=>none
 |n+1,aO,aG,aM,aP=>(C8 N n aM aP aO aG).bind fun r1=>some r1
def Q4 (N:Nat):Nat→A1→B3→List A0→Int→Option (List (List A0))
 |0,_,_,_,_=>none
 |n+1,aJ,aM,aP,aS=>((N6 (W0 (fun(s1:Int)=>(if cmp .lss s1 (Ar.len aJ.cP)then(B6 aJ.cP s1).bind fun x7=>(C8 N n aM x7 aP aS).bind fun r8=>N6 (W0 (fun(s9:Int)=>(if cmp .lss s9 (Ar.len r8)then(B6 r8 s9).bind fun x15=>N6 (some ([x15],())) fun _=>some ([],.inl (ar .add .i64 s9 1))else some ([],.inr ()):Option (List (List A0)×((Int) ⊕ (Unit))))) N 0) fun s14=>some ([],.inl (ar .add .i64 s1 1))else some ([],.inr ()):Option (List (List A0)×((Int) ⊕ (Unit))))) N 0) fun s6=>some ([],())):Option (List (List A0)×Unit)).bind fun q=>some q.1
def Q5 (N:Nat):Nat→A1→B3→List A0→Int→Option (List (List A0))
 |0,_,_,_,_=>none
 |n+1,aJ,aM,aP,aS=>((N6 (W0 (fun(s1:(List (List (List A0)))×Int)=>(if cmp .lss s1.2 (Ar.len aJ.cP)then(B6 aJ.cP s1.2).bind fun x8=>(C8 N n aM x8 aP aS).bind fun r9=>(I3 s1.1 ([r9])).bind fun l11=>some ([],.inl (l11,ar .add .i64 s1.2 1))else some ([],.inr s1.1):Option (List (List A0)×(((List (List (List A0)))×Int) ⊕ (((List (List (List A0))))))))) N ([],0)) fun s7=>if nt aM.full then(S6 N N s7 ([])).bind fun l13=>N6 (some (l13,())) fun _=>some ([],())else some ([],())):Option (List (List A0)×Unit)).bind fun q=>some q.1
def O5 (N:Nat):Nat→B3→A1→List A0→Int→Option (List (List A0))
 |0,_,_,_,_=>none
 | n+1,aJ,aM,aP,aS=>(((B6 aM.cP 0).bind fun x1=>(C8 N n aJ x1 aP aS).bind fun r2=>N6 (W0 (fun(s3:Int)=>(if cmp .lss s3 (Ar.len r2)then(B6 r2 s3).bind fun x9=>if aJ.full then some ([],.inr (.inr ()))else N6 (some ([x9],())) fun _=>some ([],.inl (ar .add .i64 s3 1))else some ([],.inr (.inl ())):Option (List (List A0)×((Int) ⊕ (Unit ⊕ Unit))))) N 0) fun s8=>match s8 with
   | .inl y11=>(B6 aM.cP 0).bind fun x12=>(K8 N n aJ x12 aP aS (fun y1 y2=>I1 N n y1 y2 aJ aM)).bind fun r13=>N6 (Bl (fun(_:Unit) (y15:(List A0))=>(N6 (some ([y15],())) fun _=>some ([],.inl ()):Option (List (List A0)×(Unit ⊕ Unit)))) r13 ()) fun o22=>match o22 with
    | .inl _=>some ([],())
    | .inr _=>none
   | .inr y25=>some ([],())):Option (List (List A0)×Unit)).bind fun q=>some q.1
def I1 (N:Nat):Nat→List A0→Int→B3→A1→Option (List (List A0))
 |0,_,_,_,_=>none
 |n+1,aO,aG,aM,aP=>(C8 N n aM aP aO aG).bind fun r1=>some r1
def O4 (N:Nat):Nat→B3→A1→List A0→Int→Option (List (List A0))
 |0,_,_,_,_=>none
 |n+1,aJ,aM,aP,aS=>(((B6 aM.cP 0).bind fun x1=>(C8 N n aJ x1 aP aS).bind fun r2=>N6 (W0 (fun(s3:Int)=>(if cmp .lss s3 (Ar.len r2)then(B6 r2 s3).bind fun x9=>(Q3 N aJ aM aP x9).bind fun r10=>if r10 then N6 (some ([x9],())) fun _=>some ([],.inl (ar .add .i64 s3 1))else some ([],.inl (ar .add .i64 s3 1))else some ([],.inr ()):Option (List (List A0)×((Int) ⊕ (Unit))))) N 0) fun s8=>some ([],())):Option (List (List A0)×Unit)).bind fun q=>some q.1
def O3 (N:Nat):Nat→B3→A1→List A0→Int→((List A0)→Int→Option (List (List A0)))→Option (List (List A0))
 |0,_,_,_,_,_=>none
 | n + 1,aJ,aM,aP,aS,cA=>(((C8 N n aJ aM aP aS).bind fun r1=>N6 (W0 (fun(s2:Int)=>(if cmp .lss s2 (Ar.len r1)then(B6 r1 s2).bind fun x8=>(L4 N aP x8).bind fun r9=>(K7 N x8).bind fun r10=>(cA r9 (ar .add .i64 r10 1)).bind fun r11=>N6 (W0 (fun(s12:Int)=>(if cmp .lss s12 (Ar.len r11)then(B6 r11 s12).bind fun x18=>if aJ.full then some ([],.inr (.inr ()))else(L4 N x8 x18).bind fun r19=>N6 (some ([r19],())) fun _=>some ([],.inl (ar .add .i64 s12 1))else some ([],.inr (.inl ())):Option (List (List A0)×((Int) ⊕ (Unit ⊕ Unit))))) N 0) fun s17=>match s17 with
       | .inl y21=>some ([],.inl (ar .add .i64 s2 1))
       | .inr y22=>some ([],.inr (.inr ()))else some ([],.inr (.inl ())):Option (List (List A0)×((Int) ⊕ (Unit ⊕ Unit))))) N 0) fun s7=>match s7 with
   | .inl y23=>some ([],())
   | .inr y24=>some ([],())):Option (List (List A0)×Unit)).bind fun q=>some q.1
end
def M4 (N:Nat)(aA:A1)(aC:List A8):Option ((List D0)×Int):=(Bx N aA).bind fun r1=>if cmp .neq r1 0 then some ([],r1)else(Cd N aC).bind fun r2=>if cmp .neq r2 0 then some ([],r2)else(C8 N N (⟨aC,false⟩:B3) aA ([]) 0).bind fun r3=>(loopN (fun(s5:Int×(List D0))=>(if cmp .lss s5.1 (Ar.len r3)then(B6 r3 s5.1).bind fun x8=>(loopN (fun(s10:Int×D0)=>(if cmp .lss s10.1 (Ar.len x8)then(B6 x8 s10.1).bind fun x13=>(B6 aC x13.at_).bind fun x14=>(CJ N x14).bind fun r15=>(I3 s10.2.cQ ([(⟨x13.cU,r15⟩:D1)])).bind fun l17=>some (.inl (ar .add .i64 s10.1 1,{s10.2 with cQ:=l17}))else some (.inr s10.2):Option ((Int×D0) ⊕ (D0)))) N (0,(⟨[]⟩:D0))).bind fun s12=>(I3 s5.2 ([s12])).bind fun l20=>some (.inl (ar .add .i64 s5.1 1,l20))else some (.inr s5.2):Option ((Int×(List D0)) ⊕ (((List D0)))))) N (0,([]:List D0))).bind fun s7=>(GV (fun y1 y2=>N8 N y1 y2) s7).bind fun l22=>some (l22,0)
def Ce (N:Nat)(aA:A1)(aC:List A8):Option ((List D0)×Int):=(M4 N aA aC).bind fun r1=>some (r1.1,r1.2)
def Dv (N:Nat)(aA:A1)(aC:List A8):Option (Int×Int):=(M4 N aA aC).bind fun r1=>some (Ar.len r1.1,r1.2)
def Du (N:Nat)(aA:A1)(aC:List A8):Option (D0×Bool×Int):=(M4 N aA aC).bind fun r2=>if Ar.or (cmp .neq r2.2 0) (cmp .eql (Ar.len r2.1) 0)then some ((⟨[]⟩:D0),false,r2.2)else(B6 r2.1 0).bind fun x3=>some (x3,true,0)
def Gk (N:Nat)(aN:List Int):Option (List A8):=(loopN (fun(s1:(List A8)×Int)=>(if cmp .lss s1.2 (Ar.len aN)then(B6 aN s1.2).bind fun x4=>(I3 s1.1 ([(⟨0,s1.2,0,ar .add .i64 s1.2 1,[(⟨0,x4,⟨#[]⟩⟩:A5)]⟩:A8)])).bind fun l6=>some (.inl (l6,ar .add .i64 s1.2 1))else some (.inr s1.1):Option (((List A8)×Int) ⊕ (((List A8)))))) N ([],0)).bind fun s3=>some s3
def BK (N:Nat)(aL:Int)(aW:List A1):Option A1:=some (⟨aL,aW,0,0,0,0,(⟨0,[],0,0,0,(⟨0,0,⟨#[]⟩⟩:A5)⟩:B1)⟩:A1)
def Bd (N:Nat)(aH:Int)(bP:B1):Option A1:=some (⟨0,[],0,aH,0,0,bP⟩:A1)
def O7 (N:Nat)(aF:Bool):Option A5:=if aF then some (⟨1,1,⟨#[]⟩⟩:A5)else some (⟨1,0,⟨#[]⟩⟩:A5)
def FH (N:Nat):Option B1:=(O7 N true).bind fun r2=>some (⟨0,[],0,0,0,r2⟩:B1)
def BL (N:Nat)(aD:B1)(aF:B1):Option B1:=some (⟨7,[aD,aF],0,0,0,(⟨0,0,⟨#[]⟩⟩:A5)⟩:B1)
def Z9 (N:Nat)(aH:Int):Option B1:=some (⟨1,[],aH,0,0,(⟨0,0,⟨#[]⟩⟩:A5)⟩:B1)
def Be (N:Nat)(aY:Int):Option B1:=some (⟨0,[],0,0,0,(⟨0,aY,⟨#[]⟩⟩:A5)⟩:B1)
def BZ (N:Nat):Option Bool:=(Gk N ([5,3,8,5])).bind fun r1=>(FH N).bind fun r2=>(Bd N 0 r2).bind fun r3=>(Z9 N 0).bind fun r4=>(Z9 N 1).bind fun r5=>(BL N r4 r5).bind fun r6=>(Bd N 1 r6).bind fun r7=>(BK N 1 ([r3,r7])).bind fun r8=>(FH N).bind fun r9=>(Bd N 1 r9).bind fun r10=>(FH N).bind fun r11=>(Bd N 2 r11).bind fun r12=>(BK N 1 ([r10,r12])).bind fun r13=>(BK N 5 ([r13])).bind fun r14=>(Be N 6).bind fun r16=>(Z9 N 0).bind fun r17=>(BL N r16 r17).bind fun r18=>(Z9 N 0).bind fun r19=>(Be N 6).bind fun r20=>(BL N r19 r20).bind fun r21=>(Bd N 0 r21).bind fun r22=>(BK N 4 ([r22])).bind fun r23=>(Be N 4).bind fun r24=>(Z9 N 0).bind fun r25=>(BL N r24 r25).bind fun r26=>(Bd N 0 r26).bind fun r27=>(Z9 N 1).bind fun r28=>(Be N 6).bind fun r29=>(BL N r28 r29).bind fun r30=>(Bd N 1 r30).bind fun r31=>(BK N 3 ([r27,r31])).bind fun r32=>(loopN (fun(s33:Int)=>(if cmp .lss s33 5 then(B6 ([r8,(⟨6,[r8],0,0,0,1,(⟨0,[],0,0,0,(⟨0,0,⟨#[]⟩⟩:A5)⟩:B1)⟩:A1),{r14 with cR:=r18},r23,r32]) s33).bind fun x35=>(Dv N x35 r1).bind fun r37=>(Ce N x35 r1).bind fun r38=>if Ar.or (cmp .neq r37.2 0) (cmp .neq r38.2 0)then some (.inr (.inr ()))else(B6 ([3,1,4,7,7]) s33).bind fun x39=>if Ar.or (cmp .neq r37.1 x39) (cmp .neq (Ar.len r38.1) r37.1)then some (.inr (.inr ()))else some (.inl (ar .add .i64 s33 1))else some (.inr (.inl ())):Option ((Int) ⊕ (Unit ⊕ Unit)))) N 0).bind fun s34=>match s34 with
 | .inl y40=>(Du N r8 r1).bind fun r41=>if an (an (cmp .eql r41.2.2 0) r41.2.1) (cmp .eql (Ar.len r41.1.cQ) 2)then(B6 r41.1.cQ 1).bind fun x42=>some (an (cmp .eql x42.Var 1) (an (cmp .eql x42.Ref.Time 3) (an (cmp .eql x42.Ref.Source 0) (an (cmp .eql x42.Ref.Seq 2) true))))else some false
 | .inr y43=>some false
def X8 (N:Nat)(aA:A1):Option Bool:=some (Ar.or (cmp .eql aA.Op 5) (cmp .eql aA.Op 9))
def V8 (N:Nat)(aA:A1):Option Bool:=if cmp .eql aA.Op 0 then some true else(X8 N aA).bind fun r1=>some r1
def U5 (N:Nat)(aA:A1):Option Bool:=some (Ar.or (cmp .eql aA.Op 6) (cmp .eql aA.Op 10))
def Q7 (N:Nat):Nat→B1→B1→Option Bool
 |0,_,_=>none
 | n+1,aD,aF=>if Ar.or (Ar.or (Ar.or (Ar.or (Ar.or (cmp .neq aD.Op aF.Op) (cmp .neq aD.Var aF.Var)) (cmp .neq aD.Field aF.Field)) (cmp .neq aD.Kind aF.Kind)) (nt (an (cmp .eql aD.Value.Kind aF.Value.Kind) (an (cmp .eql aD.Value.Num aF.Value.Num) (an (scmp .eql aD.Value.Text aF.Value.Text) true))))) (cmp .neq (Ar.len aD.cP) (Ar.len aF.cP))then some false else(loopN (fun(s1:Int)=>(if cmp .lss s1 (Ar.len aD.cP)then(B6 aD.cP s1).bind fun x3=>(B6 aF.cP s1).bind fun x4=>(Q7 N n x3 x4).bind fun r5=>if nt r5 then some (.inr (.inr ()))else some (.inl (ar .add .i64 s1 1))else some (.inr (.inl ())):Option ((Int) ⊕ (Unit ⊕ Unit)))) N 0).bind fun s2=>match s2 with
   | .inl y6=>some true
   | .inr y7=>some false
def Ap (N:Nat)(aA:A1):Option Bool:=(V8 N aA).bind fun r1=>some (Ar.or r1 (cmp .eql aA.Op 7))
def Ef (N:Nat)(aL:Int):Option (Bool×Bool):=some (Ar.or (Ar.or (Ar.or (cmp .eql aL 1) (cmp .eql aL 4)) (cmp .eql aL 2)) (cmp .eql aL 3),Ar.or (cmp .eql aL 1) (cmp .eql aL 4))
def X3 (N:Nat)(aH:A5):Option Int:=if Ar.or (cmp .lss aH.Kind 0) (cmp .gtr aH.Kind 2)then some 1 else if cmp .eql aH.Kind 2 then if cmp .neq aH.Num 0 then some 3 else if cmp .gtr (Ar.slen aH.Text) 64 then some 13 else some 0 else if scmp .neq aH.Text (⟨#[]⟩:ByteArray)then some 3 else if Ar.or (Ar.or (an (cmp .eql aH.Kind 1) (Ar.or (cmp .lss aH.Num 0) (cmp .gtr aH.Num 1))) (cmp .lss aH.Num (-1099511627776))) (cmp .gtr aH.Num 1099511627776)then some 2 else some 0
def Dh (N:Nat)(aL:Int):Option Int:=((if cmp .eql aL 0 then some true else if cmp .eql aL 1 then some true else if cmp .eql aL 2 then some true else if cmp .eql aL 3 then some true else some (cmp .eql aL 4)):Option (Bool)).bind fun s1=>if s1 then some 0 else if cmp .eql aL 12 then some 1 else if cmp .eql aL 5 then some 2 else if cmp .eql aL 6 then some 2 else if cmp .eql aL 7 then some 2 else if cmp .eql aL 8 then some 2 else if cmp .eql aL 9 then some 2 else if cmp .eql aL 10 then some 2 else if cmp .eql aL 11 then some 2 else some (-1)
def U9 (N:Nat)(aX:Int)(aH:A5):Option Bool:=some (Ar.or (Ar.or (Ar.or (cmp .eql aH.Kind 0) (cmp .eql aX 0)) (cmp .eql aX 4)) (cmp .eql aX 5))
def CB (N:Nat) (aB:B1):Option Int:=(Dh N aB.Op).bind fun r1=>if cmp .lss r1 0 then some 1 else if cmp .neq (Ar.len aB.cP) r1 then some 15 else(Ef N aB.Op).bind fun r2=>if Ar.or (an r2.1 (Ar.or (cmp .lss aB.Var 0) (cmp .geq aB.Var 16))) (an r2.2 (Ar.or (cmp .lss aB.Field 0) (cmp .geq aB.Field 8)))then some 2 else if an (cmp .eql aB.Op 4) (Ar.or (cmp .lss aB.Kind 1) (cmp .gtr aB.Kind 5))then some 1 else((if Ar.or (cmp .eql aB.Op 4) (cmp .eql aB.Op 0)then(X3 N aB.Value).bind fun r4=>if cmp .neq r4 0 then some (.inr r4)else some (.inl ())else some (.inl ())):Option (Unit ⊕ Int)).bind fun s3=>match s3 with
     | .inl y5=>if cmp .eql aB.Op 4 then(U9 N aB.Kind aB.Value).bind fun r6=>if Ar.or (nt r6) (an (cmp .eql aB.Kind 1) (nt (an (cmp .eql aB.Value.Kind 0) (an (cmp .eql aB.Value.Num 0) (an (scmp .eql aB.Value.Text (⟨#[]⟩)) true)))))then some 9 else if Ar.or (Ar.or (Ar.or (an (nt r2.1) (cmp .neq aB.Var 0)) (an (nt r2.2) (cmp .neq aB.Field 0))) (an (nt (cmp .eql aB.Op 4)) (cmp .neq aB.Kind 0))) (an (nt (Ar.or (cmp .eql aB.Op 4) (cmp .eql aB.Op 0))) (nt (an (cmp .eql aB.Value.Kind 0) (an (cmp .eql aB.Value.Num 0) (an (scmp .eql aB.Value.Text (⟨#[]⟩)) true)))))then some 3 else some 0 else if Ar.or (Ar.or (Ar.or (an (nt r2.1) (cmp .neq aB.Var 0)) (an (nt r2.2) (cmp .neq aB.Field 0))) (an (nt (cmp .eql aB.Op 4)) (cmp .neq aB.Kind 0))) (an (nt (Ar.or (cmp .eql aB.Op 4) (cmp .eql aB.Op 0))) (nt (an (cmp .eql aB.Value.Kind 0) (an (cmp .eql aB.Value.Num 0) (an (scmp .eql aB.Value.Text (⟨#[]⟩)) true)))))then some 3 else some 0
     | .inr y7=>some y7
def Z6 (N:Nat):Nat→B1→Option Int
 |0,_=>none
 | n+1,aB=>(CB N aB).bind fun r1=>if cmp .neq r1 0 then some r1 else(loopN (fun(s2:Int)=>(if cmp .lss s2 (Ar.len aB.cP)then(B6 aB.cP s2).bind fun x4=>(Z6 N n x4).bind fun r5=>if cmp .neq r5 0 then some (.inr (.inr r5))else some (.inl (ar .add .i64 s2 1))else some (.inr (.inl ())):Option ((Int) ⊕ (Unit ⊕ Int)))) N 0).bind fun s3=>match s3 with
   | .inl y6=>some 0
   | .inr y7=>some y7
def AQ (N:Nat)(aB:B1):Option Int:=(U8 N N aB 64).bind fun r1=>if cmp .gtr r1 64 then some 5 else(U7 N N aB).bind fun r2=>if cmp .gtr r2 12 then some 12 else(Z6 N N aB).bind fun r3=>some r3
def Df (N:Nat)(aA:A1):Option Bool:=if cmp .eql aA.Op 0 then some (cmp .eql (Ar.len aA.cP) 0)else((if cmp .eql aA.Op 1 then some true else if cmp .eql aA.Op 2 then some true else some (cmp .eql aA.Op 3)):Option (Bool)).bind fun s1=>if s1 then some (cmp .geq (Ar.len aA.cP) 2)else if cmp .eql aA.Op 8 then some (cmp .eql (Ar.len aA.cP) 2)else some (cmp .eql (Ar.len aA.cP) 1)
def Y9 (N:Nat)(bJ:Bool)(aY:Int)(bK:Int):Option Bool:=some (an bJ (Ar.or (cmp .lss aY 0) (cmp .gtr aY bK)))
def V9 (N:Nat) (aA:A1):Option Int:=if Ar.or (cmp .lss aA.Op 0) (cmp .gtr aA.Op 10)then some 1 else(Df N aA).bind fun r1=>if nt r1 then some 15 else(V8 N aA).bind fun r2=>(X8 N aA).bind fun r3=>if r3 then(Ap N aA).bind fun r4=>(Y9 N r2 aA.Typ 15).bind fun r5=>if r5 then some 2 else(Y9 N r2 aA.Var 15).bind fun r6=>if r6 then some 2 else(Y9 N true aA.cT 63).bind fun r7=>if r7 then some 2 else(U5 N aA).bind fun r8=>(Y9 N r8 aA.Span 1099511627776).bind fun r9=>if r9 then some 2 else((if r4 then(AQ N aA.cR).bind fun r11=>if cmp .neq r11 0 then some (.inr r11)else some (.inl ())else some (.inl ())):Option (Unit ⊕ Int)).bind fun s10=>match s10 with
        | .inl y12=>if Ar.or (an (nt r2) (Ar.or (cmp .neq aA.Typ 0) (cmp .neq aA.Var 0))) (an (nt true) (cmp .neq aA.cT 0))then some 3 else(U5 N aA).bind fun r13=>if an (nt r13) (cmp .neq aA.Span 0)then some 3 else if nt r4 then(Q7 N N aA.cR (⟨0,[],0,0,0,(⟨0,0,⟨#[]⟩⟩:A5)⟩:B1)).bind fun r14=>if nt r14 then some 3 else some 0 else some 0
        | .inr y15=>some y15 else(U5 N aA).bind fun r16=>(Ap N aA).bind fun r17=>(Y9 N r2 aA.Typ 15).bind fun r18=>if r18 then some 2 else(Y9 N r2 aA.Var 15).bind fun r19=>if r19 then some 2 else(Y9 N r16 aA.cT 63).bind fun r20=>if r20 then some 2 else(U5 N aA).bind fun r21=>(Y9 N r21 aA.Span 1099511627776).bind fun r22=>if r22 then some 2 else((if r17 then(AQ N aA.cR).bind fun r24=>if cmp .neq r24 0 then some (.inr r24)else some (.inl ())else some (.inl ())):Option (Unit ⊕ Int)).bind fun s23=>match s23 with
        | .inl y25=>if Ar.or (an (nt r2) (Ar.or (cmp .neq aA.Typ 0) (cmp .neq aA.Var 0))) (an (nt r16) (cmp .neq aA.cT 0))then some 3 else(U5 N aA).bind fun r26=>if an (nt r26) (cmp .neq aA.Span 0)then some 3 else if nt r17 then(Q7 N N aA.cR (⟨0,[],0,0,0,(⟨0,0,⟨#[]⟩⟩:A5)⟩:B1)).bind fun r27=>if nt r27 then some 3 else some 0 else some 0
        | .inr y28=>some y28
def Aq (N:Nat) (aA:A1):Option Int:=(U4 N N aA 64).bind fun r1=>if cmp .gtr r1 64 then some 5 else(U6 N N aA).bind fun r2=>if cmp .gtr r2 12 then some 12 else(R6 N N aA).bind fun r3=>(loopN (fun(s4:Int)=>(if cmp .lss s4 (Ar.len r3)then(B6 r3 s4).bind fun x6=>(V9 N x6).bind fun r7=>if cmp .neq r7 0 then some (.inr (.inr r7))else some (.inl (ar .add .i64 s4 1))else some (.inr (.inl ())):Option ((Int) ⊕ (Unit ⊕ Int)))) N 0).bind fun s5=>match s5 with
   | .inl y8=>some 0
   | .inr y9=>some y9
def Ch (N:Nat)(aC:List A1):Option Bool:=(loopN (fun(s1:Int)=>(if cmp .lss s1 (Ar.len aC)then(B6 aC s1).bind fun x3=>if cmp .geq x3.Op 8 then some (.inr (.inr ()))else some (.inl (ar .add .i64 s1 1))else some (.inr (.inl ())):Option ((Int) ⊕ (Unit ⊕ Unit)))) N 0).bind fun s2=>match s2 with
 | .inl y4=>some true
 | .inr y5=>some false
def Dg (N:Nat) (aA:A1):Option Int:=(Aq N aA).bind fun r1=>if cmp .neq r1 0 then some r1 else(R6 N N aA).bind fun r2=>(Ch N r2).bind fun r3=>if nt r3 then some 1 else(loopN (fun(s4:Int×Int×Int)=>(if cmp .lss s4.2.2 (Ar.len r2)then(B6 r2 s4.2.2).bind fun x6=>(V8 N x6).bind fun r7=>((if r7 then(B6 r2 s4.2.2).bind fun x9=>if cmp .neq x9.Var s4.1 then some (.inr ())else some (.inl (ar .add .i64 s4.1 1))else some (.inl s4.1)):Option (Int ⊕ Unit)).bind fun s8=>match s8 with
       | .inl y10=>(B6 r2 s4.2.2).bind fun x11=>(X8 N x11).bind fun r12=>if r12 then(B6 r2 s4.2.2).bind fun x13=>if cmp .neq x13.cT s4.2.1 then some (.inr (.inr ()))else some (.inl (y10,ar .add .i64 s4.2.1 1,ar .add .i64 s4.2.2 1))else(B6 r2 s4.2.2).bind fun x14=>(U5 N x14).bind fun r15=>if r15 then(B6 r2 s4.2.2).bind fun x16=>if cmp .neq x16.cT s4.2.1 then some (.inr (.inr ()))else some (.inl (y10,ar .add .i64 s4.2.1 1,ar .add .i64 s4.2.2 1))else some (.inl (y10,s4.2.1,ar .add .i64 s4.2.2 1))
       | .inr y17=>some (.inr (.inr ()))else some (.inr (.inl ())):Option ((Int×Int×Int) ⊕ (Unit ⊕ Unit)))) N (0,0,0)).bind fun s5=>match s5 with
   | .inl y18=>some 0
   | .inr y19=>some 14
def CD (N:Nat)(aB:A8):Option Ds:=some (⟨aB.Time,aB.Source,aB.Seq⟩:Ds)
def Z8 (N:Nat)(aD:Ds)(aF:Ds):Option Int:=if cmp .neq aD.Time aF.Time then if cmp .lss aD.Time aF.Time then some (-1)else some 1 else if cmp .neq aD.Source aF.Source then if cmp .lss aD.Source aF.Source then some (-1)else some 1 else if cmp .lss aD.Seq aF.Seq then some (-1)else if cmp .gtr aD.Seq aF.Seq then some 1 else some 0
def Ba (N:Nat)(aB:A8):Option Bool:=some (an (an (an (an (an (cmp .geq aB.Time 0) (cmp .leq aB.Time 1099511627776)) (cmp .geq aB.Source 0)) (cmp .lss aB.Source 8)) (cmp .geq aB.Seq 0)) (cmp .leq aB.Seq 1099511627776))
def CC (N:Nat)(aD:A8)(aF:A8):Option Bool:=some (an (cmp .eql aD.Source aF.Source) (cmp .eql aD.Seq aF.Seq))
def Di (N:Nat) (aC:List A8):Option Int:=if cmp .gtr (Ar.len aC) 4096 then some 5 else(loopN (fun(s1:Int)=>(if cmp .lss s1 (Ar.len aC)then(B6 aC s1).bind fun x3=>(Ba N x3).bind fun r4=>if nt r4 then some (.inr (.inr 2))else if cmp .gtr s1 0 then(B6 aC (ar .sub .i64 s1 1)).bind fun x5=>(CD N x5).bind fun r6=>(B6 aC s1).bind fun x7=>(CD N x7).bind fun r8=>(Z8 N r6 r8).bind fun r9=>if cmp .geq r9 0 then some (.inr (.inr 14))else(loopN (fun(s10:Int)=>(if cmp .lss s10 s1 then(B6 aC s10).bind fun x12=>(B6 aC s1).bind fun x13=>(CC N x12 x13).bind fun r14=>if r14 then some (.inr (.inr ()))else some (.inl (ar .add .i64 s10 1))else some (.inr (.inl ())):Option ((Int) ⊕ (Unit ⊕ Unit)))) N 0).bind fun s11=>match s11 with
         | .inl y15=>some (.inl (ar .add .i64 s1 1))
         | .inr y16=>some (.inr (.inr 7))else(loopN (fun(s17:Int)=>(if cmp .lss s17 s1 then(B6 aC s17).bind fun x19=>(B6 aC s1).bind fun x20=>(CC N x19 x20).bind fun r21=>if r21 then some (.inr (.inr ()))else some (.inl (ar .add .i64 s17 1))else some (.inr (.inl ())):Option ((Int) ⊕ (Unit ⊕ Unit)))) N 0).bind fun s18=>match s18 with
        | .inl y22=>some (.inl (ar .add .i64 s1 1))
        | .inr y23=>some (.inr (.inr 7))else some (.inr (.inl ())):Option ((Int) ⊕ (Unit ⊕ Int)))) N 0).bind fun s2=>match s2 with
  | .inl y24=>some 0
  | .inr y25=>some y25
def BS (N:Nat)(aA:A1)(aC:List A8):Option Int:=(Dg N aA).bind fun r1=>if cmp .neq r1 0 then some r1 else(Di N aC).bind fun r2=>some r2
def Dd (N:Nat)(aD:D1)(aF:D1):Option Int:=(Z8 N aD.Ref aF.Ref).bind fun r1=>if cmp .neq r1 0 then some r1 else if cmp .lss aD.Var aF.Var then some (-1)else if cmp .gtr aD.Var aF.Var then some 1 else some 0
def M8 (N:Nat)(aD:D0)(aF:D0):Option Int:=(loopN (fun(s1:Int)=>(if an (cmp .lss s1 (Ar.len aD.cQ)) (cmp .lss s1 (Ar.len aF.cQ))then(B6 aD.cQ s1).bind fun x3=>(B6 aF.cQ s1).bind fun x4=>(Dd N x3 x4).bind fun r5=>if cmp .neq r5 0 then some (.inr (.inr r5))else some (.inl (ar .add .i64 s1 1))else some (.inr (.inl ())):Option ((Int) ⊕ (Unit ⊕ Int)))) N 0).bind fun s2=>match s2 with
 | .inl y6=>if cmp .lss (Ar.len aD.cQ) (Ar.len aF.cQ)then some (-1)else if cmp .gtr (Ar.len aD.cQ) (Ar.len aF.cQ)then some 1 else some 0
 | .inr y7=>some y7
def Ae (N:Nat)(aR:Bk)(aH:Int):Option (List A8):=if Ar.or (cmp .lss aH 0) (cmp .geq aH (Ar.len aR.cX))then some ([])else(B6 aR.cX aH).bind fun x1=>some x1
def Ej (N:Nat)(aX:Int):Option Bool:=some (an (cmp .geq aX 0) (cmp .leq aX 5))
def BU (N:Nat)(aD:C0):Option Int:=(Ej N aD.Kind).bind fun r1=>if nt r1 then some 1 else if Ar.or (cmp .lss aD.Count 0) (cmp .gtr aD.Count 4096)then some 2 else if Ar.or (cmp .eql aD.Count 0) (cmp .eql aD.Kind 0)then if nt (an (cmp .eql aD.Value.Kind 0) (an (cmp .eql aD.Value.Num 0) (an (scmp .eql aD.Value.Text (⟨#[]⟩)) true)))then some 3 else some 0 else if cmp .eql aD.Kind 1 then if Ar.or (Ar.or (Ar.or (cmp .neq aD.Value.Kind 0) (scmp .neq aD.Value.Text (⟨#[]⟩:ByteArray))) (cmp .lss aD.Value.Num (neg .i64 (ar .mul .i64 aD.Count 1099511627776)))) (cmp .gtr aD.Value.Num (ar .mul .i64 aD.Count 1099511627776))then some 3 else some 0 else(X3 N aD.Value).bind fun r2=>if cmp .neq r2 0 then some 3 else(U9 N aD.Kind aD.Value).bind fun r3=>if nt r3 then some 3 else some 0
def Z7 (N:Nat)(aX:Int)(aH:A5):Option Int:=(X3 N aH).bind fun r1=>if cmp .neq r1 0 then some r1 else(U9 N aX aH).bind fun r2=>if nt r2 then some 9 else some 0
def Bu (N:Nat)(aX:Int)(aH:A5)(bY:A5):Option A5:=if cmp .eql aX 1 then some (⟨0,ar .add .i64 aH.Num bY.Num,⟨#[]⟩⟩:A5)else if cmp .eql aX 2 then some (⟨0,Ar.mn aH.Num bY.Num,⟨#[]⟩⟩:A5)else if cmp .eql aX 3 then some (⟨0,mx aH.Num bY.Num,⟨#[]⟩⟩:A5)else if cmp .eql aX 4 then some aH else if cmp .eql aX 5 then some bY else some (⟨0,0,⟨#[]⟩⟩:A5)
def BV (N:Nat)(aD:C0)(aH:A5):Option (C0×Int):=(BU N aD).bind fun r2=>if cmp .neq r2 0 then some ((⟨0,0,(⟨0,0,⟨#[]⟩⟩:A5)⟩:C0),r2)else(Z7 N aD.Kind aH).bind fun r3=>if cmp .neq r3 0 then some ((⟨0,0,(⟨0,0,⟨#[]⟩⟩:A5)⟩:C0),r3)else if cmp .eql aD.Count 4096 then some ((⟨0,0,(⟨0,0,⟨#[]⟩⟩:A5)⟩:C0),5)else if cmp .eql aD.Kind 0 then some ((⟨aD.Kind,ar .add .i64 aD.Count 1,(⟨0,0,⟨#[]⟩⟩:A5)⟩:C0),0)else if cmp .gtr aD.Count 0 then(Bu N aD.Kind aD.Value aH).bind fun r5=>some ((⟨aD.Kind,ar .add .i64 aD.Count 1,r5⟩:C0),0)else some ((⟨aD.Kind,ar .add .i64 aD.Count 1,aH⟩:C0),0)
def DH (N:Nat)(aD:C0)(aZ:A5):Option (A5×Int):=(BU N aD).bind fun r2=>if cmp .neq r2 0 then some ((⟨0,0,⟨#[]⟩⟩:A5),r2)else(Z7 N aD.Kind aZ).bind fun r3=>if cmp .neq r3 0 then some ((⟨0,0,⟨#[]⟩⟩:A5),r3)else if cmp .eql aD.Kind 0 then some ((⟨0,aD.Count,⟨#[]⟩⟩:A5),0)else if an (cmp .eql aD.Count 0) (cmp .neq aD.Kind 1)then some (aZ,0)else some (aD.Value,0)
def Hc (N:Nat) (aX:Int) (aC:List A5) (aZ:A5):Option (A5×Int):=(Ej N aX).bind fun r2=>if nt r2 then some ((⟨0,0,⟨#[]⟩⟩:A5),1)else if cmp .gtr (Ar.len aC) 4096 then some ((⟨0,0,⟨#[]⟩⟩:A5),5)else(loopN (fun(s4:Int×C0)=>(if cmp .lss s4.1 (Ar.len aC)then(B6 aC s4.1).bind fun x6=>(BV N s4.2 x6).bind fun r7=>if cmp .neq r7.2 0 then some (.inr (.inr (r7.2,s4.2)))else some (.inl (ar .add .i64 s4.1 1,r7.1))else some (.inr (.inl s4.2)):Option ((Int×C0) ⊕ (C0 ⊕ (Int×C0))))) N (0,(⟨aX,0,(⟨0,0,⟨#[]⟩⟩:A5)⟩:C0))).bind fun s5=>match s5 with
   | .inl y8=>(DH N y8 aZ).bind fun r9=>some (r9.1,r9.2)
   | .inr y10=>some ((⟨0,0,⟨#[]⟩⟩:A5),y10.1)
def Eh (N:Nat)(aR:Bk)(aH:Int)(aU:Int)(aV:A8):Option (A8×Bool):=if cmp .eql aH aU then some (aV,true)else(Ae N aR aH).bind fun r2=>if cmp .eql (Ar.len r2) 0 then some ((⟨0,0,0,0,[]⟩:A8),false)else(B6 r2 (ar .sub .i64 (Ar.len r2) 1)).bind fun x3=>some (x3,true)
def Eg (N:Nat) (aB:B1) (aR:Bk) (aU:Int) (aV:A8):Option (A5×Int):=if cmp .eql aB.Op 0 then some (aB.Value,0)else if cmp .eql aB.Op 3 then(Ae N aR aB.Var).bind fun r2=>some ((⟨0,Ar.len r2,⟨#[]⟩⟩:A5),0)else if cmp .eql aB.Op 4 then(Ae N aR aB.Var).bind fun r3=>(loopN (fun(s4:(List A5)×Int)=>(if cmp .lss s4.2 (Ar.len r3)then(B6 r3 s4.2).bind fun x7=>if cmp .geq aB.Field (Ar.len x7.Values)then some (.inr (.inr ()))else(B6 r3 s4.2).bind fun x8=>(B6 x8.Values aB.Field).bind fun x9=>(I3 s4.1 ([x9])).bind fun l11=>some (.inl (l11,ar .add .i64 s4.2 1))else some (.inr (.inl s4.1)):Option (((List A5)×Int) ⊕ (((List A5)) ⊕ Unit)))) N ([],0)).bind fun s6=>match s6 with
    | .inl y12=>(Hc N aB.Kind y12 aB.Value).bind fun r14=>some (r14.1,r14.2)
    | .inr y15=>some ((⟨0,0,⟨#[]⟩⟩:A5),6)else(Eh N aR aB.Var aU aV).bind fun r17=>if nt r17.2 then some ((⟨0,0,⟨#[]⟩⟩:A5),10)else if cmp .eql aB.Op 2 then some ((⟨0,r17.1.Time,⟨#[]⟩⟩:A5),0)else if cmp .geq aB.Field (Ar.len r17.1.Values)then some ((⟨0,0,⟨#[]⟩⟩:A5),6)else(B6 r17.1.Values aB.Field).bind fun x18=>(X3 N x18).bind fun r19=>if cmp .neq r19 0 then some ((⟨0,0,⟨#[]⟩⟩:A5),r19)else(B6 r17.1.Values aB.Field).bind fun x20=>some (x20,0)
def AO (N:Nat)(aL:Int):Option Int:=((if cmp .eql aL 5 then some true else if cmp .eql aL 6 then some true else if cmp .eql aL 7 then some true else some (cmp .eql aL 8)):Option (Bool)).bind fun s1=>if s1 then some 0 else if cmp .eql aL 10 then some 1 else if cmp .eql aL 11 then some 1 else if cmp .eql aL 12 then some 1 else some (-1)
def AN (N:Nat)(aL:Int)(bC:List Int):Option Int:=(loopN (fun(s1:Int)=>(if cmp .lss s1 (Ar.len bC)then(AO N aL).bind fun r3=>if cmp .geq r3 0 then(B6 bC s1).bind fun x4=>if cmp .neq x4 r3 then some (.inr (.inr ()))else if cmp .eql aL 9 then(B6 bC s1).bind fun x5=>(B6 bC 0).bind fun x6=>if cmp .neq x5 x6 then some (.inr (.inr ()))else some (.inl (ar .add .i64 s1 1))else some (.inl (ar .add .i64 s1 1))else if cmp .eql aL 9 then(B6 bC s1).bind fun x7=>(B6 bC 0).bind fun x8=>if cmp .neq x7 x8 then some (.inr (.inr ()))else some (.inl (ar .add .i64 s1 1))else some (.inl (ar .add .i64 s1 1))else some (.inr (.inl ())):Option ((Int) ⊕ (Unit ⊕ Unit)))) N 0).bind fun s2=>match s2 with
 | .inl y9=>some 0
 | .inr y10=>some 9
def ET (N:Nat)(aL:Int)(aC:List A5):Option A5:=if cmp .eql aL 5 then(B6 aC 0).bind fun x2=>(B6 aC 1).bind fun x3=>some (⟨0,ar .add .i64 x2.Num x3.Num,⟨#[]⟩⟩:A5)else if cmp .eql aL 6 then(B6 aC 0).bind fun x4=>(B6 aC 1).bind fun x5=>some (⟨0,ar .sub .i64 x4.Num x5.Num,⟨#[]⟩⟩:A5)else if cmp .eql aL 7 then(B6 aC 0).bind fun x6=>(B6 aC 1).bind fun x7=>(O7 N (cmp .lss x6.Num x7.Num)).bind fun r8=>some r8 else if cmp .eql aL 8 then(B6 aC 0).bind fun x9=>(B6 aC 1).bind fun x10=>(O7 N (cmp .leq x9.Num x10.Num)).bind fun r11=>some r11 else if cmp .eql aL 9 then(B6 aC 0).bind fun x12=>(B6 aC 1).bind fun x13=>(O7 N (an (cmp .eql x12.Kind x13.Kind) (an (cmp .eql x12.Num x13.Num) (an (scmp .eql x12.Text x13.Text) true)))).bind fun r14=>some r14 else if cmp .eql aL 10 then(B6 aC 0).bind fun x15=>if cmp .eql x15.Num 1 then(B6 aC 1).bind fun x16=>(O7 N (cmp .eql x16.Num 1)).bind fun r17=>some r17 else(O7 N false).bind fun r18=>some r18 else if cmp .eql aL 11 then(B6 aC 0).bind fun x19=>if cmp .eql x19.Num 1 then(O7 N true).bind fun r20=>some r20 else(B6 aC 1).bind fun x21=>(O7 N (cmp .eql x21.Num 1)).bind fun r22=>some r22 else(B6 aC 0).bind fun x23=>(O7 N (cmp .neq x23.Num 1)).bind fun r24=>some r24
def Ad (N:Nat):Nat→B1→Bk→Int→A8→Option (A5×Int)
 |0,_,_,_,_=>none
 | n+1,aB,aR,aU,aV=>if cmp .eql (Ar.len aB.cP) 0 then(Eg N aB aR aU aV).bind fun r2=>some (r2.1,r2.2)else(loopN (fun(s3:(List A5)×(List Int)×Int)=>(if cmp .lss s3.2.2 (Ar.len aB.cP)then(B6 aB.cP s3.2.2).bind fun x7=>(Ad N n x7 aR aU aV).bind fun r8=>if cmp .neq r8.2 0 then some (.inr (.inr r8.2))else(I3 s3.1 ([r8.1])).bind fun l9=>(I3 s3.2.1 ([r8.1.Kind])).bind fun l12=>some (.inl (l9,l12,ar .add .i64 s3.2.2 1))else some (.inr (.inl (s3.1,s3.2.1))):Option (((List A5)×(List Int)×Int) ⊕ (((List A5)×(List Int)) ⊕ Int)))) N ([],[],0)).bind fun s6=>match s6 with
   | .inl y13=>(AN N aB.Op y13.2).bind fun r16=>if cmp .neq r16 0 then some ((⟨0,0,⟨#[]⟩⟩:A5),r16)else(ET N aB.Op y13.1).bind fun r17=>some (r17,0)
   | .inr y18=>some ((⟨0,0,⟨#[]⟩⟩:A5),y18)
def Ei (N:Nat)(aB:B1)(aR:Bk)(aU:Int)(aV:A8):Option (A5×Int):=(AQ N aB).bind fun r2=>if cmp .neq r2 0 then some ((⟨0,0,⟨#[]⟩⟩:A5),r2)else(Ad N N aB aR aU aV).bind fun r3=>some (r3.1,r3.2)
def AP (N:Nat)(aB:B1)(aR:Bk)(aU:Int)(aV:A8):Option Bool:=(Ei N aB aR aU aV).bind fun r1=>if cmp .eql r1.2 0 then(O7 N true).bind fun r2=>some (an (cmp .eql r1.1.Kind r2.Kind) (an (cmp .eql r1.1.Num r2.Num) (an (scmp .eql r1.1.Text r2.Text) true)))else some false
def Cz (N:Nat)(aC:List A8)(aI:List A2)(bA:Int):Option Bk:=(Um 16 16 ([]:List A8)).bind fun l3=>(loopN (fun(s5:Int×(List (List A8)))=>(if cmp .lss s5.1 (Ar.len aI)then(B6 aI s5.1).bind fun x8=>if cmp .lss x8.At bA then(B6 aI s5.1).bind fun x9=>(B6 s5.2 x9.Var).bind fun x10=>(B6 aC x9.At).bind fun x15=>(I3 x10 ([x15])).bind fun l16=>(Id s5.2 x9.Var (fun _=>l16)).bind fun l14=>some (.inl (ar .add .i64 s5.1 1,l14))else some (.inl (ar .add .i64 s5.1 1,s5.2))else some (.inr s5.2):Option ((Int×(List (List A8))) ⊕ (((List (List A8))))))) N (0,l3)).bind fun s7=>some (⟨s7⟩:Bk)
def CZ (N:Nat)(aA:A1)(aC:List A8)(aF:List A2)(aG:Int):Option (List (List A2)):=(loopN (fun(s1:(List (List A2))×Int)=>(if cmp .lss s1.2 (Ar.len aC)then(B6 aC s1.2).bind fun x4=>if cmp .eql x4.Typ aA.Typ then(Cz N aC aF s1.2).bind fun r5=>(B6 aC s1.2).bind fun x6=>(AP N aA.cR r5 aA.Var x6).bind fun r7=>if r7 then(I3 s1.1 ([[(⟨aA.Var,s1.2⟩:A2)]])).bind fun l9=>some (.inl (l9,ar .add .i64 s1.2 1))else some (.inl (s1.1,ar .add .i64 s1.2 1))else some (.inl (s1.1,ar .add .i64 s1.2 1))else some (.inr s1.1):Option (((List (List A2))×Int) ⊕ (((List (List A2))))))) N ([],aG)).bind fun s3=>some s3
def G5 (N:Nat)(aD:List A2)(aF:List A2):Option (List A2):=(loopN (fun(s1:(List A2)×(List A2)×(List A2))=>(if Ar.or (cmp .gtr (Ar.len s1.1) 0) (cmp .gtr (Ar.len s1.2.1) 0)then if cmp .eql (Ar.len s1.2.1) 0 then(((B6 s1.1 0).bind fun x85=>(I3 s1.2.2 ([x85])).bind fun l206=>(N4 s1.1 (some 1) none none).bind fun l285=>some (l285,l206)):Option (((List A2)×(List A2)))).bind fun s4=>some (.inl (s4.1,s1.2.1,s4.2))else if cmp .gtr (Ar.len s1.1) 0 then(B6 s1.1 0).bind fun x446=>(B6 s1.2.1 0).bind fun x447=>if cmp .lss x446.At x447.At then(((B6 s1.1 0).bind fun x529=>(I3 s1.2.2 ([x529])).bind fun l650=>(N4 s1.1 (some 1) none none).bind fun l729=>some (l729,l650)):Option (((List A2)×(List A2)))).bind fun s448=>some (.inl (s448.1,s1.2.1,s448.2))else(((B6 s1.2.1 0).bind fun x971=>(I3 s1.2.2 ([x971])).bind fun l1092=>(N4 s1.2.1 (some 1) none none).bind fun l1171=>some (l1171,l1092)):Option (((List A2)×(List A2)))).bind fun s890=>some (.inl (s1.1,s890.1,s890.2))else(((B6 s1.2.1 0).bind fun x1413=>(I3 s1.2.2 ([x1413])).bind fun l1534=>(N4 s1.2.1 (some 1) none none).bind fun l1613=>some (l1613,l1534)):Option (((List A2)×(List A2)))).bind fun s1332=>some (.inl (s1.1,s1332.1,s1332.2))else some (.inr s1.2.2):Option (((List A2)×(List A2)×(List A2)) ⊕ (((List A2)))))) N (aD,aF,[])).bind fun s3=>some s3
def Da (N:Nat) (aD:List A2) (aF:List A2):Option Bool:=if cmp .neq (Ar.len aD) (Ar.len aF)then some false else(loopN (fun(s1:Int)=>(if cmp .lss s1 (Ar.len aD)then(B6 aD s1).bind fun x3=>(B6 aF s1).bind fun x4=>if nt (an (cmp .eql x3.Var x4.Var) (an (cmp .eql x3.At x4.At) true))then some (.inr (.inr ()))else some (.inl (ar .add .i64 s1 1))else some (.inr (.inl ())):Option ((Int) ⊕ (Unit ⊕ Unit)))) N 0).bind fun s2=>match s2 with
  | .inl y5=>some true
  | .inr y6=>some false
def S7 (N:Nat)(aC:List (List A2))(aI:List A2):Option (List (List A2)):=(loopN (fun(s1:Int)=>(if cmp .lss s1 (Ar.len aC)then(B6 aC s1).bind fun x3=>(Da N x3 aI).bind fun r4=>if r4 then some (.inr (.inr ()))else some (.inl (ar .add .i64 s1 1))else some (.inr (.inl ())):Option ((Int) ⊕ (Unit ⊕ Unit)))) N 0).bind fun s2=>match s2 with
 | .inl y5=>(I3 aC ([aI])).bind fun l7=>some l7
 | .inr y8=>some aC
def DS (N:Nat)(aI:List A2)(bA:Int):Option Bool:=(loopN (fun(s1:Int)=>(if cmp .lss s1 (Ar.len aI)then(B6 aI s1).bind fun x3=>if cmp .eql x3.At bA then some (.inr (.inr ()))else some (.inl (ar .add .i64 s1 1))else some (.inr (.inl ())):Option ((Int) ⊕ (Unit ⊕ Unit)))) N 0).bind fun s2=>match s2 with
 | .inl y4=>some false
 | .inr y5=>some true
def BR (N:Nat)(aD:List A2)(aF:List A2):Option Bool:=(loopN (fun(s1:Int)=>(if cmp .lss s1 (Ar.len aD)then(B6 aD s1).bind fun x3=>(DS N aF x3.At).bind fun r4=>if r4 then some (.inr (.inr ()))else some (.inl (ar .add .i64 s1 1))else some (.inr (.inl ())):Option ((Int) ⊕ (Unit ⊕ Unit)))) N 0).bind fun s2=>match s2 with
 | .inl y5=>some true
 | .inr y6=>some false
def EQ (N:Nat)(aA:A1)(aC:List A8)(aF:List A2)(aI:List A2):Option Bool:=(B6 aI 0).bind fun x1=>(loopN (fun(s2:Int)=>((B6 aI (ar .sub .i64 (Ar.len aI) 1)).bind fun x4=>if cmp .lss s2 x4.At then(DS N aI s2).bind fun r5=>if nt r5 then(B6 aC s2).bind fun x6=>if cmp .eql x6.Typ aA.Typ then(G5 N aF aI).bind fun r7=>(Cz N aC r7 s2).bind fun r8=>(B6 aC s2).bind fun x9=>(AP N aA.cR r8 aA.Var x9).bind fun r10=>if r10 then some (.inr (.inr ()))else some (.inl (ar .add .i64 s2 1))else some (.inl (ar .add .i64 s2 1))else some (.inl (ar .add .i64 s2 1))else some (.inr (.inl ())):Option ((Int) ⊕ (Unit ⊕ Unit)))) N x1.At).bind fun s3=>match s3 with
 | .inl y11=>some true
 | .inr y12=>some false
def CY (N:Nat)(aA:A1)(aC:List A8)(aF:List A2)(aI:List A2):Option Bool:=if cmp .eql aA.Op 5 then(EQ N aA aC aF aI).bind fun r1=>some r1 else if cmp .eql aA.Op 6 then(B6 aI (ar .sub .i64 (Ar.len aI) 1)).bind fun x2=>(B6 aC x2.At).bind fun x3=>(B6 aI 0).bind fun x4=>(B6 aC x4.At).bind fun x5=>some (cmp .leq (ar .sub .i64 x3.Time x5.Time) aA.Span)else(G5 N aF aI).bind fun r6=>(Cz N aC r6 (Ar.len aC)).bind fun r7=>(AP N aA.cR r7 (-1) (⟨0,0,0,0,[]⟩:A8)).bind fun r8=>some r8
mutual
def K4 (N:Nat):Nat→A1→List A8→List A2→Int→Option (List (List A2))
 |0,_,_,_,_=>none
 |n+1,aA,aC,aF,aG=>if cmp .eql aA.Op 0 then(CZ N aA aC aF aG).bind fun r1=>some r1 else if cmp .eql aA.Op 1 then(Y7 N n aA.cP aC aF aG).bind fun r2=>some r2 else if cmp .eql aA.Op 2 then(DT N n aA.cP aC aF aG).bind fun r3=>some r3 else if cmp .eql aA.Op 3 then(DU N n aA.cP aC aF aG).bind fun r4=>some r4 else if cmp .eql aA.Op 4 then(V7 N n aA aC aF aG).bind fun r5=>some r5 else(B6 aA.cP 0).bind fun x6=>(K4 N n x6 aC aF aG).bind fun r7=>(loopN (fun(s8:(List (List A2))×Int)=>(if cmp .lss s8.2 (Ar.len r7)then(B6 r7 s8.2).bind fun x11=>(CY N aA aC aF x11).bind fun r12=>if r12 then(B6 r7 s8.2).bind fun x13=>(I3 s8.1 ([x13])).bind fun l15=>some (.inl (l15,ar .add .i64 s8.2 1))else some (.inl (s8.1,ar .add .i64 s8.2 1))else some (.inr s8.1):Option (((List (List A2))×Int) ⊕ (((List (List A2))))))) N ([],0)).bind fun s10=>some s10
def Y7 (N:Nat):Nat→List A1→List A8→List A2→Int→Option (List (List A2))
 |0,_,_,_,_=>none
 |n+1,aW,aC,aF,aG=>(B6 aW 0).bind fun x1=>(K4 N n x1 aC aF aG).bind fun r2=>if cmp .eql (Ar.len aW) 1 then some r2 else(loopN (fun(s3:(List (List A2))×Int)=>(if cmp .lss s3.2 (Ar.len r2)then(B6 r2 s3.2).bind fun x6=>(N4 aW (some 1) none none).bind fun l7=>(G5 N aF x6).bind fun r9=>(B6 x6 (ar .sub .i64 (Ar.len x6) 1)).bind fun x10=>(Y7 N n l7 aC r9 (ar .add .i64 x10.At 1)).bind fun r11=>(loopN (fun(s12:(List (List A2))×Int)=>(if cmp .lss s12.2 (Ar.len r11)then(B6 r11 s12.2).bind fun x15=>(G5 N x6 x15).bind fun r16=>(S7 N s12.1 r16).bind fun l17=>some (.inl (l17,ar .add .i64 s12.2 1))else some (.inr s12.1):Option (((List (List A2))×Int) ⊕ (((List (List A2))))))) N (s3.1,0)).bind fun s14=>some (.inl (s14,ar .add .i64 s3.2 1))else some (.inr s3.1):Option (((List (List A2))×Int) ⊕ (((List (List A2))))))) N ([],0)).bind fun s5=>some s5
def DT (N:Nat):Nat→List A1→List A8→List A2→Int→Option (List (List A2))
 |0,_,_,_,_=>none
 |n+1,aW,aC,aF,aG=>(loopN (fun(s1:(List (List A2))×Int)=>(if cmp .lss s1.2 (Ar.len aW)then(B6 aW s1.2).bind fun x4=>(K4 N n x4 aC aF aG).bind fun r5=>(loopN (fun(s6:(List (List A2))×Int)=>(if cmp .lss s6.2 (Ar.len r5)then(B6 r5 s6.2).bind fun x9=>(S7 N s6.1 x9).bind fun l10=>some (.inl (l10,ar .add .i64 s6.2 1))else some (.inr s6.1):Option (((List (List A2))×Int) ⊕ (((List (List A2))))))) N (s1.1,0)).bind fun s8=>some (.inl (s8,ar .add .i64 s1.2 1))else some (.inr s1.1):Option (((List (List A2))×Int) ⊕ (((List (List A2))))))) N ([],0)).bind fun s3=>some s3
def DU (N:Nat):Nat→List A1→List A8→List A2→Int→Option (List (List A2))
 |0,_,_,_,_=>none
 |n+1,aW,aC,aF,aG=>(B6 aW 0).bind fun x1=>(K4 N n x1 aC aF aG).bind fun r2=>(loopN (fun(s3:(List (List A2))×Int)=>(if cmp .lss s3.2 (Ar.len aW)then(B6 aW s3.2).bind fun x5=>(K4 N n x5 aC aF aG).bind fun r6=>(loopN (fun(s7:(List (List A2))×Int)=>(if cmp .lss s7.2 (Ar.len s3.1)then(loopN (fun(s10:(List (List A2))×Int)=>(if cmp .lss s10.2 (Ar.len r6)then(B6 s3.1 s7.2).bind fun x13=>(B6 r6 s10.2).bind fun x14=>(BR N x13 x14).bind fun r15=>if r15 then(B6 s3.1 s7.2).bind fun x16=>(B6 r6 s10.2).bind fun x17=>(G5 N x16 x17).bind fun r18=>(S7 N s10.1 r18).bind fun l19=>some (.inl (l19,ar .add .i64 s10.2 1))else some (.inl (s10.1,ar .add .i64 s10.2 1))else some (.inr s10.1):Option (((List (List A2))×Int) ⊕ (((List (List A2))))))) N (s7.1,0)).bind fun s12=>some (.inl (s12,ar .add .i64 s7.2 1))else some (.inr s7.1):Option (((List (List A2))×Int) ⊕ (((List (List A2))))))) N ([],0)).bind fun s9=>some (.inl (s9,ar .add .i64 s3.2 1))else some (.inr s3.1):Option (((List (List A2))×Int) ⊕ (((List (List A2))))))) N (r2,1)).bind fun s4=>some s4
def V7 (N:Nat):Nat→A1→List A8→List A2→Int→Option (List (List A2))
 |0,_,_,_,_=>none
 |n+1,aA,aC,aF,aG=>(B6 aA.cP 0).bind fun x1=>(K4 N n x1 aC aF aG).bind fun r2=>(loopN (fun(s3:(List (List A2))×Int)=>(if cmp .lss s3.2 (Ar.len r2)then(B6 r2 s3.2).bind fun x6=>(S7 N s3.1 x6).bind fun l7=>(G5 N aF x6).bind fun r10=>(B6 x6 (ar .sub .i64 (Ar.len x6) 1)).bind fun x11=>(V7 N n aA aC r10 (ar .add .i64 x11.At 1)).bind fun r12=>(loopN (fun(s13:(List (List A2))×Int)=>(if cmp .lss s13.2 (Ar.len r12)then(B6 r12 s13.2).bind fun x16=>(G5 N x6 x16).bind fun r17=>(S7 N s13.1 r17).bind fun l18=>some (.inl (l18,ar .add .i64 s13.2 1))else some (.inr s13.1):Option (((List (List A2))×Int) ⊕ (((List (List A2))))))) N (l7,0)).bind fun s15=>some (.inl (s15,ar .add .i64 s3.2 1))else some (.inr s3.1):Option (((List (List A2))×Int) ⊕ (((List (List A2))))))) N ([],0)).bind fun s5=>some s5
end
def Z5 (N:Nat)(aC:List A8)(aI:List A2):Option D0:=(loopN (fun(s3:Int×D0)=>(if cmp .lss s3.1 (Ar.len aI)then(B6 aI s3.1).bind fun x6=>(B6 aI s3.1).bind fun x7=>(B6 aC x7.At).bind fun x8=>(CD N x8).bind fun r9=>(I3 s3.2.cQ ([(⟨x6.Var,r9⟩:D1)])).bind fun l11=>some (.inl (ar .add .i64 s3.1 1,{s3.2 with cQ:=l11}))else some (.inr s3.2):Option ((Int×D0) ⊕ (D0)))) N (0,(⟨[]⟩:D0))).bind fun s5=>some s5
def CA (N:Nat)(aA:A1)(aC:List A8):Option (List D0):=(K4 N N aA aC ([]) 0).bind fun r1=>(loopN (fun(s3:Int×(List D0))=>(if cmp .lss s3.1 (Ar.len r1)then(B6 r1 s3.1).bind fun x6=>(Z5 N aC x6).bind fun r7=>(loopN (fun(s8:Int)=>(if cmp .gtr s8 0 then(Xk (YL s3.2 (ar .sub .i64 s8 1))).bind fun _=>(B6 s3.2 (ar .sub .i64 s8 1)).bind fun x10=>(M8 N r7 x10).bind fun r11=>if cmp .lss r11 0 then some (.inl (ar .sub .i64 s8 1))else some (.inr s8)else some (.inr s8):Option ((Int) ⊕ (Int)))) N (Ar.len s3.2)).bind fun s9=>(N4 s3.2 (some s9) none none).bind fun l13=>(I3 [] l13).bind fun l15=>(((N4 s3.2 none (some s9) none).bind fun l98=>(I3 l98 ([r7])).bind fun l218=>(I3 l218 l15).bind fun l298=>some l298):Option (((List D0)))).bind fun s16=>some (.inl (ar .add .i64 s3.1 1,s16))else some (.inr s3.2):Option ((Int×(List D0)) ⊕ (((List D0)))))) N (0,([]:List D0))).bind fun s5=>some s5
def Fk (N:Nat)(aA:A1)(aC:List A8):Option ((List D0)×Int):=(BS N aA aC).bind fun r1=>if cmp .neq r1 0 then some ([],r1)else(CA N aA aC).bind fun r2=>some (r2,0)
end Go.Ab
