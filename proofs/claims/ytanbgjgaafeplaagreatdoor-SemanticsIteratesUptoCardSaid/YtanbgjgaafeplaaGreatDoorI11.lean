/- GTSp -/
import Derived.Test.YtanbgjgaafeplaaGreatDoorI10
set_option linter.all false
open Go.Ab.Ar (an ar cmp mx nt scmp wr)
namespace Go.Ab
variable [Ar]
instance :DecidableEq C9:=fun x y=>decidable_of_iff (x.source=y.source∧x.seq=y.seq) (by cases x;cases y;simp)
def K7 (N:Nat):Nat→A0→Option (List A0)
 |0,_=>none
 |n+1,aA=>(loopN (fun(s1:(List A0)×Int)=>(if cmp .lss s1.2 (Ar.len aA.cO)then(B7 aA.cO s1.2).bind fun x4=>(K7 N n x4).bind fun r5=>(N6 s1.1 r5).bind fun l7=>some (.inl (l7,ar .add .i64 s1.2 1))else some (.inr s1.1):Option (((List A0)×Int) ⊕ (((List A0)))))) N ([aA],0)).bind fun s3=>some s3
def U6 (N:Nat):Nat→A0→Int→Option Int
 |0,_,_=>none
 |n+1,aA,aY=>(loopN (fun(s1:Int×Int)=>(if an (cmp .lss s1.2 (Ar.len aA.cO)) (cmp .leq s1.1 aY)then(B7 aA.cO s1.2).bind fun x3=>(U6 N n x3 aY).bind fun r4=>some (.inl (ar .add .i64 s1.1 r4,ar .add .i64 s1.2 1))else some (.inr s1.1):Option ((Int×Int) ⊕ (Int)))) N (1,0)).bind fun s2=>some s2
def U7 (N:Nat):Nat→A0→Option Int
 |0,_=>none
 |n+1,aA=>(loopN (fun(s1:Int×Int)=>(if cmp .lss s1.2 (Ar.len aA.cO)then(B7 aA.cO s1.2).bind fun x3=>(U7 N n x3).bind fun r4=>some (.inl (mx s1.1 r4,ar .add .i64 s1.2 1))else some (.inr s1.1):Option ((Int×Int) ⊕ (Int)))) N (0,0)).bind fun s2=>some (ar .add .i64 s2 1)
def U9 (N:Nat):Nat→A3→Int→Option Int
 |0,_,_=>none
 |n+1,aB,aY=>(loopN (fun(s1:Int×Int)=>(if an (cmp .lss s1.2 (Ar.len aB.cO)) (cmp .leq s1.1 aY)then(B7 aB.cO s1.2).bind fun x3=>(U9 N n x3 aY).bind fun r4=>some (.inl (ar .add .i64 s1.1 r4,ar .add .i64 s1.2 1))else some (.inr s1.1):Option ((Int×Int) ⊕ (Int)))) N (1,0)).bind fun s2=>some s2
def U8 (N:Nat):Nat→A3→Option Int
 |0,_=>none
 |n+1,aB=>(loopN (fun(s1:Int×Int)=>(if cmp .lss s1.2 (Ar.len aB.cO)then(B7 aB.cO s1.2).bind fun x3=>(U8 N n x3).bind fun r4=>some (.inl (mx s1.1 r4,ar .add .i64 s1.2 1))else some (.inr s1.1):Option ((Int×Int) ⊕ (Int)))) N (0,0)).bind fun s2=>some (ar .add .i64 s2 1)
def BR (N:Nat)(aB:A3):Option Bool:=(U9 N N aB 200).bind fun r1=>if cmp .leq r1 200 then(U8 N N aB).bind fun r2=>some (cmp .leq r2 100)else some false
def Ff (N:Nat) (aA:A0):Option Bool:=(U6 N N aA 150).bind fun r1=>if cmp .gtr r1 150 then some false else(U7 N N aA).bind fun r2=>if cmp .gtr r2 60 then some false else(K7 N N aA).bind fun r3=>(loopN (fun(s4:Int)=>(if cmp .lss s4 (Ar.len r3)then(B7 r3 s4).bind fun x6=>(BR N x6.cP).bind fun r7=>if nt r7 then some (.inr (.inr ()))else some (.inl (ar .add .i64 s4 1))else some (.inr (.inl ())):Option ((Int) ⊕ (Unit ⊕ Unit)))) N 0).bind fun s5=>match s5 with
   | .inl y8=>some true
   | .inr y9=>some false
def U0 (N:Nat):Nat→A0→Option Int
 |0,_=>none
 |n+1,aA=>((if cmp .eql aA.Op 0 then some 1 else some 0):Option (Int)).bind fun s1=>(loopN (fun(s2:Int×Int)=>(if cmp .lss s2.2 (Ar.len aA.cO)then(B7 aA.cO s2.2).bind fun x4=>(U0 N n x4).bind fun r5=>some (.inl (ar .add .i64 s2.1 r5,ar .add .i64 s2.2 1))else some (.inr s2.1):Option ((Int×Int) ⊕ (Int)))) N (s1,0)).bind fun s3=>some s3
def BQ (N:Nat)(aZ:Int)(aW:Int)(aY:Int):Option Int:=(loopN (fun(s1:Int×Int)=>(if an (cmp .lss s1.2 aW) (cmp .leq s1.1 aY)then some (.inl (ar .mul .i64 s1.1 aZ,ar .add .i64 s1.2 1))else some (.inr s1.1):Option ((Int×Int) ⊕ (Int)))) N (1,0)).bind fun s2=>some s2
def Y8 (N:Nat):Nat→A0→Option Bool
 |0,_=>none
 | n+1,aA=>if cmp .eql aA.Op 4 then some true else(loopN (fun(s1:Int)=>(if cmp .lss s1 (Ar.len aA.cO)then(B7 aA.cO s1).bind fun x3=>(Y8 N n x3).bind fun r4=>if r4 then some (.inr (.inr ()))else some (.inl (ar .add .i64 s1 1))else some (.inr (.inl ())):Option ((Int) ⊕ (Unit ⊕ Unit)))) N 0).bind fun s2=>match s2 with
   | .inl y5=>some false
   | .inr y6=>some true
def CW (N:Nat) (aA:A0) (aF:List A6):Option Bool:=(Ff N aA).bind fun r1=>if Ar.or (nt r1) (cmp .gtr (Ar.len aF) 10)then some false else(loopN (fun(s2:Int)=>(if cmp .lss s2 (Ar.len aF)then(B7 aF s2).bind fun x4=>if cmp .gtr (Ar.len x4.Values) 9 then some (.inr (.inr ()))else some (.inl (ar .add .i64 s2 1))else some (.inr (.inl ())):Option ((Int) ⊕ (Unit ⊕ Unit)))) N 0).bind fun s3=>match s3 with
  | .inl y5=>(U0 N N aA).bind fun r6=>(BQ N (ar .add .i64 r6 1) (Ar.len aF) 1500).bind fun r7=>if cmp .leq r7 1500 then some true else(Y8 N N aA).bind fun r8=>if nt r8 then(BQ N (Ar.len aF) r6 1500).bind fun r9=>some (cmp .leq r9 1500)else some false
  | .inr y10=>some false
def U1 (N:Nat):Nat→A0→Option (List A0)
 |0,_=>none
 |n+1,aA=>((N5 (some ([aA],())) fun _=>N5 (W0 (fun(s2:Int)=>(if cmp .lss s2 (Ar.len aA.cO)then(B7 aA.cO s2).bind fun x8=>(U1 N n x8).bind fun l9=>N5 (some (l9,())) fun _=>some ([],.inl (ar .add .i64 s2 1))else some ([],.inr ()):Option (List A0×((Int) ⊕ (Unit))))) N 0) fun s7=>some ([],())):Option (List A0×Unit)).bind fun q=>some q.1
def Af (N:Nat)(aH:A0):Option (List A0):=(((U1 N N aH).bind fun l1=>N5 (some (l1,())) fun _=>some ([],())):Option (List A0×Unit)).bind fun q=>some q.1
def Q4 (N:Nat)(aA:A0):Option (List A0):=Af N aA
def U2 (N:Nat):Nat→A0→Option (Int×Int)
 |0,_=>none
 |n+1,aA=>(loopN (fun(s1:Int×Int×Int)=>(if cmp .lss s1.2.2 (Ar.len aA.cO)then(B7 aA.cO s1.2.2).bind fun x3=>(U2 N n x3).bind fun r4=>some (.inl (ar .add .i64 s1.1 r4.1,mx s1.2.1 r4.2,ar .add .i64 s1.2.2 1))else some (.inr (s1.1,s1.2.1)):Option ((Int×Int×Int) ⊕ ((Int×Int))))) N (1,0,0)).bind fun s2=>some (s2.1,ar .add .i64 s2.2 1)
def R7 (N:Nat)(bH:Bool)(aW:Int)(bP:Int):Option Bool:=some (Ar.or (nt bH) (an (cmp .geq aW 0) (cmp .leq aW bP)))
def Bf (N:Nat):Nat→A3→Option (Int×Int)
 |0,_=>none
 |n+1,aB=>(loopN (fun(s1:Int×Int×Int)=>(if cmp .lss s1.2.2 (Ar.len aB.cO)then(B7 aB.cO s1.2.2).bind fun x3=>(Bf N n x3).bind fun r4=>some (.inl (ar .add .i64 s1.1 r4.1,mx s1.2.1 r4.2,ar .add .i64 s1.2.2 1))else some (.inr (s1.1,s1.2.1)):Option ((Int×Int×Int) ⊕ ((Int×Int))))) N (1,0,0)).bind fun s2=>some (s2.1,ar .add .i64 s2.2 1)
def AR (N:Nat):Nat→A3→(A3→Option Int)→Option Int
 |0,_,_=>none
 | n+1,aB,aT=>(aT aB).bind fun r1=>if cmp .neq r1 0 then some r1 else(loopN (fun(s2:Int)=>(if cmp .lss s2 (Ar.len aB.cO)then(B7 aB.cO s2).bind fun x4=>(AR N n x4 aT).bind fun r5=>if cmp .neq r5 0 then some (.inr (.inr r5))else some (.inl (ar .add .i64 s2 1))else some (.inr (.inl ())):Option ((Int) ⊕ (Unit ⊕ Int)))) N 0).bind fun s3=>match s3 with
   | .inl y6=>some 0
   | .inr y7=>some y7
def Ei (N:Nat)(aQ:Int):Option (Int×Bool):=if Ar.or (cmp .lss aQ 0) (cmp .gtr aQ 12)then some (0,false)else if cmp .lss aQ 5 then some (0,true)else if cmp .eql aQ 12 then some (1,true)else some (2,true)
def Fq (N:Nat)(aQ:Int):Option (Bool×Bool):=((if cmp .eql aQ 1 then some true else some (cmp .eql aQ 4)):Option (Bool)).bind fun s1=>if s1 then some (true,true)else if cmp .eql aQ 2 then some (true,false)else if cmp .eql aQ 3 then some (true,false)else some (false,false)
def DT (N:Nat)(aJ:A5):Option Int:=if an (cmp .eql aJ.Kind 0) (Ar.or (cmp .lss aJ.Num (-1099511627776)) (cmp .gtr aJ.Num 1099511627776))then some 2 else if an (an (cmp .eql aJ.Kind 1) (cmp .neq aJ.Num 0)) (cmp .neq aJ.Num 1)then some 2 else if cmp .gtr (Ar.slen aJ.Text) 64 then some 13 else some 0
def U5 (N:Nat)(aJ:A5):Option Int:=((if cmp .eql aJ.Kind 0 then some true else some (cmp .eql aJ.Kind 1)):Option (Bool)).bind fun s1=>if s1 then if scmp .neq aJ.Text (⟨#[]⟩:ByteArray)then some 3 else(DT N aJ).bind fun r2=>some r2 else if cmp .eql aJ.Kind 2 then if cmp .neq aJ.Num 0 then some 3 else(DT N aJ).bind fun r3=>some r3 else some 1
def Eh (N:Nat)(aR:Int)(aJ:A5):Option Bool:=some (Ar.or (Ar.or (cmp .eql aJ.Kind 0) (cmp .eql aR 4)) (cmp .eql aR 5))
def Cj (N:Nat)(aB:A3):Option Int:=(U5 N aB.Value).bind fun r1=>if cmp .neq r1 0 then some r1 else if cmp .eql aB.Op 4 then(Eh N aB.Kind aB.Value).bind fun r2=>if Ar.or (nt r2) (an (cmp .eql aB.Kind 1) (nt (an (cmp .eql aB.Value.Kind 0) (an (cmp .eql aB.Value.Num 0) (an (scmp .eql aB.Value.Text (⟨#[]⟩)) true)))))then some 9 else some 0 else some 0
def DQ (N:Nat) (aB:A3):Option Int:=(Ei N aB.Op).bind fun r1=>if nt r1.2 then some 1 else if cmp .neq (Ar.len aB.cO) r1.1 then some 15 else(Fq N aB.Op).bind fun r2=>if Ar.or (an r2.1 (Ar.or (cmp .lss aB.Var 0) (cmp .geq aB.Var 16))) (an r2.2 (Ar.or (cmp .lss aB.Field 0) (cmp .geq aB.Field 8)))then some 2 else if an (cmp .eql aB.Op 4) (Ar.or (cmp .lss aB.Kind 1) (cmp .gtr aB.Kind 5))then some 1 else((if Ar.or (cmp .eql aB.Op 4) (cmp .eql aB.Op 0)then(Cj N aB).bind fun r4=>if cmp .neq r4 0 then some (.inr r4)else some (.inl ())else some (.inl ())):Option (Unit ⊕ Int)).bind fun s3=>match s3 with
     | .inl y5=>if Ar.or (Ar.or (Ar.or (an (nt r2.1) (cmp .neq aB.Var 0)) (an (nt r2.2) (cmp .neq aB.Field 0))) (an (nt (cmp .eql aB.Op 4)) (cmp .neq aB.Kind 0))) (an (nt (Ar.or (cmp .eql aB.Op 4) (cmp .eql aB.Op 0))) (nt (an (cmp .eql aB.Value.Kind 0) (an (cmp .eql aB.Value.Num 0) (an (scmp .eql aB.Value.Text (⟨#[]⟩)) true)))))then some 3 else some 0
     | .inr y6=>some y6
def CH (N:Nat)(aB:A3):Option Int:=(Bf N N aB).bind fun r1=>if cmp .gtr r1.1 64 then some 5 else if cmp .gtr r1.2 12 then some 12 else(AR N N aB (fun y1=>DQ N y1)).bind fun r2=>some r2
def DR (N:Nat):Nat→A3→A3→Option Bool
 |0,_,_=>none
 | n+1,aC,aD=>if Ar.or (Ar.or (Ar.or (Ar.or (Ar.or (cmp .neq aC.Op aD.Op) (cmp .neq aC.Var aD.Var)) (cmp .neq aC.Field aD.Field)) (cmp .neq aC.Kind aD.Kind)) (nt (an (cmp .eql aC.Value.Kind aD.Value.Kind) (an (cmp .eql aC.Value.Num aD.Value.Num) (an (scmp .eql aC.Value.Text aD.Value.Text) true))))) (cmp .neq (Ar.len aC.cO) (Ar.len aD.cO))then some false else(loopN (fun(s1:Int)=>(if cmp .lss s1 (Ar.len aC.cO)then(B7 aC.cO s1).bind fun x3=>(B7 aD.cO s1).bind fun x4=>(DR N n x3 x4).bind fun r5=>if nt r5 then some (.inr (.inr ()))else some (.inl (ar .add .i64 s1 1))else some (.inr (.inl ())):Option ((Int) ⊕ (Unit ⊕ Unit)))) N 0).bind fun s2=>match s2 with
   | .inl y6=>some true
   | .inr y7=>some false
def K8 (N:Nat)(bH:Bool)(aW:Int):Option Bool:=some (Ar.or bH (cmp .eql aW 0))
def Q8 (N:Nat) (aA:A0):Option Int:=if Ar.or (cmp .lss aA.Op 0) (cmp .geq aA.Op 11)then some 1 else(B7 D0 aA.Op).bind fun x1=>if Ar.or (cmp .lss (Ar.len aA.cO) x1.cU) (cmp .gtr (Ar.len aA.cO) x1.most)then some 15 else(R7 N x1.cS aA.Typ 15).bind fun r2=>if nt r2 then some 2 else(R7 N x1.cS aA.Var 15).bind fun r3=>if nt r3 then some 2 else(R7 N x1.scope aA.cR 63).bind fun r4=>if nt r4 then some 2 else(R7 N x1.span aA.Span 1099511627776).bind fun r5=>if nt r5 then some 2 else((if x1.cond then(CH N aA.cP).bind fun r7=>if cmp .neq r7 0 then some (.inr r7)else some (.inl ())else some (.inl ())):Option (Unit ⊕ Int)).bind fun s6=>match s6 with
       | .inl y8=>if nt x1.cond then(DR N N aA.cP (⟨0,[],0,0,0,(⟨0,0,⟨#[]⟩⟩:A5)⟩:A3)).bind fun r9=>if nt r9 then some 3 else(K8 N x1.cS aA.Typ).bind fun r10=>if nt r10 then some 3 else(K8 N x1.cS aA.Var).bind fun r11=>if nt r11 then some 3 else(K8 N x1.scope aA.cR).bind fun r12=>if nt r12 then some 3 else(K8 N x1.span aA.Span).bind fun r13=>if nt r13 then some 3 else some 0 else(K8 N x1.cS aA.Typ).bind fun r14=>if nt r14 then some 3 else(K8 N x1.cS aA.Var).bind fun r15=>if nt r15 then some 3 else(K8 N x1.scope aA.cR).bind fun r16=>if nt r16 then some 3 else(K8 N x1.span aA.Span).bind fun r17=>if nt r17 then some 3 else some 0
       | .inr y18=>some y18
def X5 (N:Nat) (aA:A0):Option Int:=(U2 N N aA).bind fun r2=>if cmp .gtr r2.1 64 then some 5 else if cmp .gtr r2.2 12 then some 12 else(Q4 N aA).bind fun r3=>(H7 (fun(s6:Unit) (y5:A0)=>((Q8 N y5).bind fun r10=>if cmp .neq r10 0 then some (.inr r10)else some (.inl ()):Option ((Unit) ⊕ (Int)))) r3 ()).bind fun o9=>match o9 with
   | .inl s13=>some 0
   | .inr y14=>some y14
def Bt (N:Nat) (aA:A0):Option Int:=(X5 N aA).bind fun r2=>if cmp .neq r2 0 then some r2 else(Q4 N aA).bind fun r3=>(H7 (fun(s6:Unit) (y5:A0)=>(if cmp .geq y5.Op 8 then some (.inr 1)else some (.inl ()):Option ((Unit) ⊕ (Int)))) r3 ()).bind fun o9=>match o9 with
  | .inl s12=>some 0
  | .inr y13=>some y13
def Bu (N:Nat)(aA:A0):Option (Int×Int×Bool):=(Q4 N aA).bind fun r4=>(H7 (fun(s7:Bool×Int×Int) (y6:A0)=>((B7 D0 y6.Op).bind fun x11=>((if x11.cS then some (an s7.1 (cmp .eql y6.Var s7.2.2),ar .add .i64 s7.2.2 1)else some (s7.1,s7.2.2)):Option ((Bool×Int))).bind fun s12=>if x11.scope then some (.inl (an s12.1 (cmp .eql y6.cR s7.2.1),ar .add .i64 s7.2.1 1,s12.2))else some (.inl (s12.1,s7.2.1,s12.2)):Option ((Bool×Int×Int) ⊕ (Unit)))) r4 (true,0,0)).bind fun o10=>match o10 with
 | .inl s15=>some (s15.2.2,s15.2.1,s15.1)
 | .inr _=>none
def Bv (N:Nat)(aA:A0):Option Int:=(Bt N aA).bind fun r1=>if cmp .neq r1 0 then some r1 else(Bu N aA).bind fun r2=>if nt r2.2.2 then some 14 else some 0
def CI (N:Nat)(aB:A6):Option Gv:=some (⟨aB.Time,aB.Source,aB.Seq⟩:Gv)
def E1 (N:Nat)(bN:List E8)(bR:List E8)(cA:E8→E8→Option Int):Option Int:=(loopN (fun(s1:Int)=>(if cmp .lss s1 (Ar.len bN)then(B7 bN s1).bind fun x3=>if cmp .geq s1 (Ar.len bR)then some (.inr (.inr 1))else(B7 bR s1).bind fun x5=>(cA x3 x5).bind fun r6=>if cmp .neq r6 0 then some (.inr (.inr r6))else some (.inl (ar .add .i64 s1 1))else some (.inr (.inl ())):Option ((Int) ⊕ (Unit ⊕ Int)))) N 0).bind fun s2=>match s2 with
 | .inl y7=>if cmp .lss (Ar.len bN) (Ar.len bR)then some (-1)else some 0
 | .inr y8=>some y8
def BN (N:Nat)(bS:List Int):Option Int:=(loopN (fun(s1:Int)=>(if cmp .lss s1 (Ar.len bS)then(B7 bS s1).bind fun x3=>if cmp .neq x3 0 then some (.inr (.inr x3))else some (.inl (ar .add .i64 s1 1))else some (.inr (.inl ())):Option ((Int) ⊕ (Unit ⊕ Int)))) N 0).bind fun s2=>match s2 with
 | .inl y4=>some 0
 | .inr y5=>some y5
def BB (N:Nat)(aI:Int):Option Bool:=some (cmp .neq aI aI)
def J2 (N:Nat)(aI:Int)(aN:Int):Option Int:=(BB N aI).bind fun r1=>(BB N aN).bind fun r2=>if r1 then if r2 then some 0 else some (-1)else if r2 then some 1 else if cmp .lss aI aN then some (-1)else if cmp .gtr aI aN then some 1 else some 0
def Ea (N:Nat)(aC:Gv)(aD:Gv):Option Int:=(J2 N aC.Time aD.Time).bind fun r1=>(J2 N aC.Source aD.Source).bind fun r2=>(J2 N aC.Seq aD.Seq).bind fun r3=>(BN N ([r1,r2,r3])).bind fun r4=>some r4
def W9 (N:Nat)(aI:E8)(aN:E8):Option Int:=(Ea N aI.Ref aN.Ref).bind fun r1=>(J2 N aI.Var aN.Var).bind fun r2=>(BN N ([r1,r2])).bind fun r3=>some r3
def Au (N:Nat)(aC:D1)(aD:D1):Option Int:=(E1 N aC.cQ aD.cQ (fun y1 y2=>W9 N y1 y2)).bind fun r1=>some r1
def CQ (N:Nat)(aB:A6):Option Bool:=some (an (an (an (an (an (cmp .geq aB.Time 0) (cmp .leq aB.Time 1099511627776)) (cmp .geq aB.Source 0)) (cmp .lss aB.Source 8)) (cmp .geq aB.Seq 0)) (cmp .leq aB.Seq 1099511627776))
def BA (N:Nat)(aC:A6)(aD:A6):Option Int:=(CI N aC).bind fun r1=>(CI N aD).bind fun r2=>if an (cmp .eql r1.Time r2.Time) (an (cmp .eql r1.Source r2.Source) (an (cmp .eql r1.Seq r2.Seq) true))then some 0 else(J2 N aC.Time aD.Time).bind fun r3=>(J2 N aC.Source aD.Source).bind fun r4=>(J2 N aC.Seq aD.Seq).bind fun r5=>(BN N ([r3,r4,r5])).bind fun r6=>some r6
def CA (N:Nat)(aB:A6):Option C9:=some (⟨aB.Source,aB.Seq⟩:C9)
def BX (N:Nat) (aF:List A6):Option Int:=if cmp .gtr (Ar.len aF) 4096 then some 5 else(loopN (fun(s3:Int×(List (C9×Bool)))=>(if cmp .lss s3.1 (Ar.len aF)then(B7 aF s3.1).bind fun x6=>(CQ N x6).bind fun r8=>if nt r8 then some (.inr (.inr (2,s3.2)))else if cmp .gtr s3.1 0 then(B7 aF (ar .sub .i64 s3.1 1)).bind fun x9=>(BA N x9 x6).bind fun r10=>if cmp .geq r10 0 then some (.inr (.inr (14,s3.2)))else(CA N x6).bind fun r11=>(IG s3.2 r11 (false:Bool)).bind fun r12=>if r12.1 then some (.inr (.inr (7,s3.2)))else(CA N x6).bind fun r13=>(HL s3.2 r13 true).bind fun l15=>some (.inl (ar .add .i64 s3.1 1,l15))else(CA N x6).bind fun r16=>(IG s3.2 r16 (false:Bool)).bind fun r17=>if r17.1 then some (.inr (.inr (7,s3.2)))else(CA N x6).bind fun r18=>(HL s3.2 r18 true).bind fun l20=>some (.inl (ar .add .i64 s3.1 1,l20))else some (.inr (.inl s3.2)):Option ((Int×(List (C9×Bool))) ⊕ (((List (C9×Bool))) ⊕ (Int×(List (C9×Bool))))))) N (0,([]:List (C9×Bool)))).bind fun s5=>match s5 with
  | .inl y21=>some 0
  | .inr y23=>some y23.1
def Ay (N:Nat):Option Unit:=some ()
def EQ (N:Nat)(aX:Int):Option ByteArray:=LJ aX
def V6 (N:Nat)(bB:List Int)(aX:Int)(aZ:Int):Option (List Int):=if cmp .eql aZ 10 then if cmp .lss aX 100 then(EQ N (wr .i64 aX)).bind fun r1=>(N6 bB (Kp r1)).bind fun l3=>some l3 else none else none
def Y4 (N:Nat)(bB:List Int)(aX:Int)(aZ:Int):Option (List Int):=if cmp .lss aX 0 then(N6 bB ([45])).bind fun l2=>(V6 N l2 (Ar.neg .u64 (wr .u64 aX)) aZ).bind fun l3=>some l3 else(V6 N bB (wr .u64 aX) aZ).bind fun l5=>some l5
def G1 (N:Nat)(bB:List Int)(aX:Int)(aZ:Int):Option (List Int):=(Y4 N bB aX aZ).bind fun l1=>some l1
def M1 (N:Nat)(aG:List A1):Option ByteArray:=(loopN (fun(s2:Int×(List Int))=>(if cmp .lss s2.1 (Ar.len aG)then(B7 aG s2.1).bind fun x5=>(G1 N s2.2 x5.cT 10).bind fun l6=>(((N6 l6 ([64])).bind fun l90=>(G1 N l90 x5.at_ 10).bind fun l209=>(N6 l209 ([32])).bind fun l290=>some l290):Option (((List Int)))).bind fun s8=>some (.inl (ar .add .i64 s2.1 1,s8))else some (.inr s2.2):Option ((Int×(List Int)) ⊕ (((List Int)))))) N (0,([]:List Int))).bind fun s4=>(Ua s4).bind fun r411=>some r411
def O9 (N:Nat)(aW:Int):Option A5:=some (⟨0,aW,⟨#[]⟩⟩:A5)
def AF (N:Nat)(aC:Int)(aD:Int)(aL:Int→Option A5):Option A5:=(aL (ar .add .i64 aC aD)).bind fun r2=>some r2
def AE (N:Nat)(aC:Int)(aD:Int)(aL:Int→Option A5):Option A5:=(aL (ar .sub .i64 aC aD)).bind fun r2=>some r2
def FB (N:Nat)(aD:Bool):Option A5:=if aD then some (⟨1,1,⟨#[]⟩⟩:A5)else some (⟨1,0,⟨#[]⟩⟩:A5)
def Z2 (N:Nat)(aD:Bool):Option A5:=(FB N aD).bind fun r2=>some r2
def AD (N:Nat)(aC:Int)(aD:Int):Option A5:=(Z2 N (cmp .lss aC aD)).bind fun r2=>some r2
def AC (N:Nat)(aC:Int)(aD:Int):Option A5:=(Z2 N (cmp .leq aC aD)).bind fun r2=>some r2
def AB (N:Nat)(aC:Int)(aD:Int):Option A5:=(Z2 N (an (cmp .eql aC 1) (cmp .eql aD 1))).bind fun r2=>some r2
def AA (N:Nat)(aC:Int)(aD:Int):Option A5:=(Z2 N (Ar.or (cmp .eql aC 1) (cmp .eql aD 1))).bind fun r2=>some r2
def Az (N:Nat)(aC:Int)(aH:Int):Option A5:=(Z2 N (cmp .neq aC 1)).bind fun r2=>some r2
def Gk (N:Nat):Option Unit:=some ()
def M5 (N:Nat)(aI:P4)(aJ:Int):Option (List A6):=if Ar.or (cmp .lss aJ 0) (cmp .geq aJ (Ar.len aI.env.cV))then some ([])else(B7 aI.env.cV aJ).bind fun x1=>some x1
def Ah (N:Nat)(aB:A6)(bJ:Int):Option (A5×Int):=if cmp .geq bJ (Ar.len aB.Values)then some ((⟨0,0,⟨#[]⟩⟩:A5),6)else(B7 aB.Values bJ).bind fun x2=>some (x2,0)
def X0 (N:Nat)(aR:Int):Option Bool:=some (an (cmp .geq aR 0) (cmp .leq aR 5))
def T3 (N:Nat)(aR:Int)(aJ:A5):Option Bool:=some (Ar.or (cmp .eql aJ.Kind 0) (an (an (cmp .neq aR 1) (cmp .neq aR 2)) (cmp .neq aR 3)))
def M8 (N:Nat)(aR:Int)(aJ:A5):Option Int:=(U5 N aJ).bind fun r1=>if cmp .neq r1 0 then some r1 else(T3 N aR aJ).bind fun r2=>if nt r2 then some 9 else some 0
def G2 (N:Nat)(cB:C8)(aF:List A5)(cC:C8→A5→Option C8):Option C8:=(loopN (fun(s3:Int×C8)=>(if cmp .lss s3.1 (Ar.len aF)then(B7 aF s3.1).bind fun x5=>(cC s3.2 x5).bind fun r6=>some (.inl (ar .add .i64 s3.1 1,r6))else some (.inr s3.2):Option ((Int×C8) ⊕ (C8)))) N (0,cB)).bind fun s4=>some s4
def Bq (N:Nat):Option A5:=some (⟨0,0,⟨#[]⟩⟩:A5)
def Bp (N:Nat)(bA:A5)(aH:A5):Option A5:=some (⟨0,ar .add .i64 bA.Num aH.Num,⟨#[]⟩⟩:A5)
def Bo (N:Nat)(bA:A5)(aH:A5):Option A5:=some (⟨0,Ar.mn bA.Num aH.Num,⟨#[]⟩⟩:A5)
def Bn (N:Nat)(bA:A5)(aH:A5):Option A5:=some (⟨0,mx bA.Num aH.Num,⟨#[]⟩⟩:A5)
def Bm (N:Nat)(bA:A5):Option A5:=some bA
def Bl (N:Nat)(bA:A5):Option A5:=some bA
def Y0 (N:Nat)(aR:Int)(aC:A5)(aD:A5):Option A5:=if cmp .eql aR 0 then(Bq N).bind fun r2=>some r2 else if cmp .eql aR 1 then(Bp N aC aD).bind fun r3=>some r3 else if cmp .eql aR 2 then(Bo N aC aD).bind fun r4=>some r4 else if cmp .eql aR 3 then(Bn N aC aD).bind fun r5=>some r5 else if cmp .eql aR 4 then(Bm N aC).bind fun r6=>some r6 else if cmp .eql aR 5 then(Bl N aD).bind fun r7=>some r7 else none
def Bh (N:Nat)(aC:C8)(aD:C8):Option C8:=if cmp .eql aC.Count 0 then some aD else if cmp .eql aD.Count 0 then some aC else(Y0 N aC.Kind aC.Value aD.Value).bind fun r2=>some (⟨aC.Kind,ar .add .i64 aC.Count aD.Count,r2⟩:C8)
def Z4 (N:Nat)(aR:Int)(aJ:A5):Option A5:=if cmp .eql aR 0 then some (⟨0,0,⟨#[]⟩⟩:A5)else some aJ
def M6 (N:Nat)(aC:C8)(aJ:A5)(aL:Int):Option C8:=(Z4 N aL aJ).bind fun r2=>(Bh N aC (⟨aL,1,r2⟩:C8)).bind fun r3=>some r3
def Aq (N:Nat)(aC:C8):Option Int:=(X0 N aC.Kind).bind fun r1=>if nt r1 then some 1 else if Ar.or (cmp .lss aC.Count 0) (cmp .gtr aC.Count 4096)then some 2 else if Ar.or (cmp .eql aC.Count 0) (cmp .eql aC.Kind 0)then if nt (an (cmp .eql aC.Value.Kind 0) (an (cmp .eql aC.Value.Num 0) (an (scmp .eql aC.Value.Text (⟨#[]⟩)) true)))then some 3 else some 0 else if cmp .eql aC.Kind 1 then if nt (an (an (an (cmp .eql aC.Value.Kind 0) (scmp .eql aC.Value.Text (⟨#[]⟩:ByteArray))) (cmp .geq aC.Value.Num (Ar.neg .i64 (ar .mul .i64 aC.Count 1099511627776)))) (cmp .leq aC.Value.Num (ar .mul .i64 aC.Count 1099511627776)))then some 3 else some 0 else(U5 N aC.Value).bind fun r2=>if cmp .eql r2 0 then(T3 N aC.Kind aC.Value).bind fun r3=>if nt r3 then some 3 else some 0 else some 3
def Bi (N:Nat)(aC:C8)(bI:A5):Option (A5×Int):=(Aq N aC).bind fun r2=>if cmp .neq r2 0 then some ((⟨0,0,⟨#[]⟩⟩:A5),r2)else(M8 N aC.Kind bI).bind fun r3=>if cmp .neq r3 0 then some ((⟨0,0,⟨#[]⟩⟩:A5),r3)else if cmp .eql aC.Kind 0 then some ((⟨0,aC.Count,⟨#[]⟩⟩:A5),0)else if an (cmp .eql aC.Count 0) (cmp .neq aC.Kind 1)then some (bI,0)else some (aC.Value,0)
def Cp (N:Nat) (aR:Int) (aF:List A5) (bI:A5):Option (A5×Int):=(X0 N aR).bind fun r2=>if nt r2 then some ((⟨0,0,⟨#[]⟩⟩:A5),1)else if cmp .gtr (Ar.len aF) 4096 then some ((⟨0,0,⟨#[]⟩⟩:A5),5)else(loopN (fun(s3:Int)=>(if cmp .lss s3 (Ar.len aF)then(B7 aF s3).bind fun x5=>(M8 N aR x5).bind fun r6=>if cmp .neq r6 0 then some (.inr (.inr r6))else some (.inl (ar .add .i64 s3 1))else some (.inr (.inl ())):Option ((Int) ⊕ (Unit ⊕ Int)))) N 0).bind fun s4=>match s4 with
   | .inl y7=>(G2 N (⟨aR,0,(⟨0,0,⟨#[]⟩⟩:A5)⟩:C8) aF (fun y1 y2=>M6 N y1 y2 aR)).bind fun r8=>(Bi N r8 bI).bind fun r9=>some (r9.1,r9.2)
   | .inr y10=>some ((⟨0,0,⟨#[]⟩⟩:A5),y10)
def S1 (N:Nat)(aI:P4)(aB:A3):Option (A5×Int):=(M5 N aI aB.Var).bind fun r2=>(loopN (fun(s3:(List A5)×Int)=>(if cmp .lss s3.2 (Ar.len r2)then(B7 r2 s3.2).bind fun x6=>(Ah N x6 aB.Field).bind fun r7=>if cmp .neq r7.2 0 then some (.inr (.inr r7.2))else(N6 s3.1 ([r7.1])).bind fun l9=>some (.inl (l9,ar .add .i64 s3.2 1))else some (.inr (.inl s3.1)):Option (((List A5)×Int) ⊕ (((List A5)) ⊕ Int)))) N ([],0)).bind fun s5=>match s5 with
 | .inl y10=>(Cp N aB.Kind y10 aB.Value).bind fun r12=>some (r12.1,r12.2)
 | .inr y13=>some ((⟨0,0,⟨#[]⟩⟩:A5),y13)
def T7 (N:Nat) (aI:P4) (aB:A3):Option (A5×Int):=(M5 N aI aB.Var).bind fun r2=>if cmp .eql aB.Op 0 then some (aB.Value,0)else if cmp .eql aB.Op 3 then some ((⟨0,Ar.len r2,⟨#[]⟩⟩:A5),0)else if cmp .eql aB.Op 4 then(S1 N aI aB).bind fun r3=>some (r3.1,r3.2)else((if cmp .neq aB.Var aI.own then if cmp .eql (Ar.len r2) 0 then some (.inr ())else(B7 r2 (ar .sub .i64 (Ar.len r2) 1)).bind fun x6=>some (.inl x6)else some (.inl aI.event)):Option (A6 ⊕ Unit)).bind fun s5=>match s5 with
    | .inl y7=>if cmp .eql aB.Op 2 then some ((⟨0,y7.Time,⟨#[]⟩⟩:A5),0)else(Ah N y7 aB.Field).bind fun r8=>((if cmp .eql r8.2 0 then(U5 N r8.1).bind fun r10=>some r10 else some r8.2):Option (Int)).bind fun s9=>if cmp .neq s9 0 then some ((⟨0,0,⟨#[]⟩⟩:A5),s9)else some (r8.1,0)
    | .inr y11=>some ((⟨0,0,⟨#[]⟩⟩:A5),10)
def Bx (N:Nat)(aQ:Int)(bF:List Int):Option Int:=(loopN (fun(s1:Int)=>(if cmp .lss s1 (Ar.len bF)then(B7 bF s1).bind fun x3=>((if cmp .eql aQ 5 then some true else if cmp .eql aQ 6 then some true else if cmp .eql aQ 7 then some true else some (cmp .eql aQ 8)):Option (Bool)).bind fun s4=>if s4 then if nt (cmp .eql x3 0)then some (.inr (.inr ()))else some (.inl (ar .add .i64 s1 1))else((if cmp .eql aQ 10 then some true else if cmp .eql aQ 11 then some true else some (cmp .eql aQ 12)):Option (Bool)).bind fun s5=>if s5 then if nt (cmp .eql x3 1)then some (.inr (.inr ()))else some (.inl (ar .add .i64 s1 1))else if cmp .eql aQ 9 then(B7 bF 0).bind fun x6=>if nt (cmp .eql x3 x6)then some (.inr (.inr ()))else some (.inl (ar .add .i64 s1 1))else some (.inl (ar .add .i64 s1 1))else some (.inr (.inl ())):Option ((Int) ⊕ (Unit ⊕ Unit)))) N 0).bind fun s2=>match s2 with
 | .inl y7=>some 0
 | .inr y8=>some 9
def H8 (N:Nat):Nat→P4→A3→Option (A5×Int)
 |0,_,_=>none
 | n+1,aI,aB=>if cmp .eql (Ar.len aB.cO) 0 then(T7 N aI aB).bind fun r2=>some (r2.1,r2.2)else(loopN (fun(s3:(List A5)×(List Int)×Int)=>(if cmp .lss s3.2.2 (Ar.len aB.cO)then(B7 aB.cO s3.2.2).bind fun x7=>(H8 N n aI x7).bind fun r8=>if cmp .neq r8.2 0 then some (.inr (.inr r8.2))else(N6 s3.1 ([r8.1])).bind fun l9=>(N6 s3.2.1 ([r8.1.Kind])).bind fun l12=>some (.inl (l9,l12,ar .add .i64 s3.2.2 1))else some (.inr (.inl (s3.1,s3.2.1))):Option (((List A5)×(List Int)×Int) ⊕ (((List A5)×(List Int)) ⊕ Int)))) N ([],[],0)).bind fun s6=>match s6 with
   | .inl y13=>(Bx N aB.Op y13.2).bind fun r16=>if cmp .neq r16 0 then some ((⟨0,0,⟨#[]⟩⟩:A5),r16)else if cmp .eql aB.Op 9 then(B7 y13.1 0).bind fun x17=>(B7 y13.1 1).bind fun x18=>(Z2 N (an (cmp .eql x17.Kind x18.Kind) (an (cmp .eql x17.Num x18.Num) (an (scmp .eql x17.Text x18.Text) true)))).bind fun r19=>some (r19,0)else if cmp .eql aB.Op 5 then(B7 y13.1 0).bind fun x20=>(B7 y13.1 (ar .sub .i64 (Ar.len y13.1) 1)).bind fun x21=>(AF N x20.Num x21.Num (fun y1=>O9 N y1)).bind fun r22=>some (r22,0)else if cmp .eql aB.Op 6 then(B7 y13.1 0).bind fun x23=>(B7 y13.1 (ar .sub .i64 (Ar.len y13.1) 1)).bind fun x24=>(AE N x23.Num x24.Num (fun y1=>O9 N y1)).bind fun r25=>some (r25,0)else if cmp .eql aB.Op 7 then(B7 y13.1 0).bind fun x26=>(B7 y13.1 (ar .sub .i64 (Ar.len y13.1) 1)).bind fun x27=>(AD N x26.Num x27.Num).bind fun r28=>some (r28,0)else if cmp .eql aB.Op 8 then(B7 y13.1 0).bind fun x29=>(B7 y13.1 (ar .sub .i64 (Ar.len y13.1) 1)).bind fun x30=>(AC N x29.Num x30.Num).bind fun r31=>some (r31,0)else if cmp .eql aB.Op 10 then(B7 y13.1 0).bind fun x32=>(B7 y13.1 (ar .sub .i64 (Ar.len y13.1) 1)).bind fun x33=>(AB N x32.Num x33.Num).bind fun r34=>some (r34,0)else if cmp .eql aB.Op 11 then(B7 y13.1 0).bind fun x35=>(B7 y13.1 (ar .sub .i64 (Ar.len y13.1) 1)).bind fun x36=>(AA N x35.Num x36.Num).bind fun r37=>some (r37,0)else if cmp .eql aB.Op 12 then(B7 y13.1 0).bind fun x38=>(B7 y13.1 (ar .sub .i64 (Ar.len y13.1) 1)).bind fun x39=>(Az N x38.Num x39.Num).bind fun r40=>some (r40,0)else(B7 y13.1 0).bind fun x41=>(B7 y13.1 (ar .sub .i64 (Ar.len y13.1) 1)).bind fun x42=>none
   | .inr y43=>some ((⟨0,0,⟨#[]⟩⟩:A5),y43)
def Fs (N:Nat)(aB:A3)(bL:Cu)(bD:Int)(bM:A6):Option (A5×Int):=(CH N aB).bind fun r2=>if cmp .neq r2 0 then some ((⟨0,0,⟨#[]⟩⟩:A5),r2)else(((H8 N N (⟨bL,bD,bM,()⟩:P4) aB).bind fun r244=>some (r244.2,r244.1)):Option ((Int×A5))).bind fun s3=>some (s3.2,s3.1)
def CG (N:Nat)(aB:A3)(bL:Cu)(bD:Int)(bM:A6):Option Bool:=(Fs N aB bL bD bM).bind fun r1=>if cmp .eql r1.2 0 then(Z2 N true).bind fun r2=>some (an (cmp .eql r1.1.Kind r2.Kind) (an (cmp .eql r1.1.Num r2.Num) (an (scmp .eql r1.1.Text r2.Text) true)))else some false
def P2 (N:Nat)(aK:B0)(aG:List A1)(bY:Int):Option Cu:=(Sh 16 16 ([]:List A6)).bind fun l3=>(loopN (fun(s5:Int×(List (List A6)))=>(if cmp .lss s5.1 (Ar.len aG)then(B7 aG s5.1).bind fun x8=>if cmp .lss x8.at_ bY then(B7 s5.2 x8.cT).bind fun x9=>(B7 aK.cX x8.at_).bind fun x14=>(N6 x9 ([x14])).bind fun l15=>(FC s5.2 x8.cT (fun _=>l15)).bind fun l13=>some (.inl (ar .add .i64 s5.1 1,l13))else some (.inl (ar .add .i64 s5.1 1,s5.2))else some (.inr s5.2):Option ((Int×(List (List A6))) ⊕ (((List (List A6))))))) N (0,l3)).bind fun s7=>some (⟨s7⟩:Cu)
def G6 (N:Nat)(aK:B0)(bO:A3)(aG:List A1)(bD:Int)(bG:Int):Option Bool:=(P2 N aK aG bG).bind fun r1=>(B7 aK.cX bG).bind fun x2=>(CG N bO r1 bD x2).bind fun r3=>some r3
def S4 (N:Nat)(aH:Int)(aL:B0)(aP:A0)(aS:List A1):Option (List (List A1)):=((N5 (W0 (fun(s1:Int)=>(if cmp .lss s1 (Ar.len aL.cX)then(B7 aL.cX s1).bind fun x7=>if cmp .eql x7.Typ aP.Typ then(G6 N aL aP.cP aS aP.Var s1).bind fun r8=>if r8 then N5 (some ([[(⟨aP.Var,s1⟩:A1)]],())) fun _=>some ([],.inl (ar .add .i64 s1 1))else some ([],.inl (ar .add .i64 s1 1))else some ([],.inl (ar .add .i64 s1 1))else some ([],.inr ()):Option (List (List A1)×((Int) ⊕ (Unit))))) N aH) fun s6=>some ([],())):Option (List (List A1)×Unit)).bind fun q=>some q.1
def J9 (N:Nat)(aK:B0)(aA:A0)(aO:List A1)(aM:Int):Option (List (List A1)):=S4 N aM aK aA aO
def E9 (N:Nat)(aH:List (List A1)):Option (List (List A1)):=((N5 (W0 (fun(s1:Int)=>(if cmp .lss s1 (Ar.len aH)then(B7 aH s1).bind fun x7=>N5 (some ([x7],())) fun _=>some ([],.inl (ar .add .i64 s1 1))else some ([],.inr ()):Option (List (List A1)×((Int) ⊕ (Unit))))) N 0) fun s6=>some ([],())):Option (List (List A1)×Unit)).bind fun q=>some q.1
def N9 (N:Nat)(aG:List (List A1)):Option (List (List A1)):=E9 N aG
def AX (N:Nat)(aI:A1)(aN:A1):Option Int:=some (ar .sub .i64 aI.at_ aN.at_)
def K6 (N:Nat)(aC:List A1)(aD:List A1):Option (List A1):=(Sh 0 (ar .add .i64 (Ar.len aC) (Ar.len aD)) ((⟨0,0⟩:A1):A1)).bind fun l2=>(N6 l2 aC).bind fun l4=>(N6 l4 aD).bind fun l6=>(GE (fun y1 y2=>AX N y1 y2) l6).bind fun l7=>some l7
def K3 (N:Nat)(aG:List A1):Option Int:=(B7 aG (ar .sub .i64 (Ar.len aG) 1)).bind fun x1=>some x1.at_
def O0 (N:Nat)(aG:List A1)(aT:A1→Option Bool):Option Int:=(loopN (fun(s1:Int)=>(if cmp .lss s1 (Ar.len aG)then(B7 aG s1).bind fun x3=>(aT x3).bind fun r4=>if r4 then some (.inr (.inr s1))else some (.inl (ar .add .i64 s1 1))else some (.inr (.inl ())):Option ((Int) ⊕ (Unit ⊕ Int)))) N 0).bind fun s2=>match s2 with
 | .inl y5=>some (-1)
 | .inr y6=>some y6
def G3 (N:Nat)(aG:List A1)(aT:A1→Option Bool):Option Bool:=(O0 N aG aT).bind fun r1=>some (cmp .geq r1 0)
def T5 (N:Nat)(aI:A1)(aH:Int):Option Bool:=some (cmp .eql aI.at_ aH)
def S3 (N:Nat)(aG:List A1)(bG:Int):Option Bool:=(G3 N aG (fun y1=>T5 N y1 bG)).bind fun r1=>some r1
def X2 (N:Nat)(aI:A1)(aH:List A1):Option Bool:=(S3 N aH aI.at_).bind fun r1=>some r1
def Al (N:Nat)(aC:List A1)(aD:List A1):Option Bool:=(G3 N aC (fun y1=>X2 N y1 aD)).bind fun r1=>some r1
def S9 (N:Nat):Nat→List (List (List A1))→List A1→Option (List (List A1))
 |0,_,_=>none
 |n+1,bQ,bK=>((if cmp .eql (Ar.len bQ) 0 then N5 (some ([bK],())) fun _=>some ([],())else(B7 bQ 0).bind fun x2=>N5 (W0 (fun(s3:Int)=>(if cmp .lss s3 (Ar.len x2)then(B7 x2 s3).bind fun x9=>(Al N bK x9).bind fun r10=>if nt r10 then(ES bQ (some 1) none none).bind fun l11=>(K6 N bK x9).bind fun r13=>(S9 N n l11 r13).bind fun l14=>N5 (some (l14,())) fun _=>some ([],.inl (ar .add .i64 s3 1))else some ([],.inl (ar .add .i64 s3 1))else some ([],.inr ()):Option (List (List A1)×((Int) ⊕ (Unit))))) N 0) fun s8=>some ([],())):Option (List (List A1)×Unit)).bind fun q=>some q.1
def Q0 (N:Nat) (aK:B0) (aA:A0) (aO:List A1) (aG:List A1):Option Bool:=if cmp .eql aA.Op 6 then(K3 N aG).bind fun r1=>(B7 aK.cX r1).bind fun x2=>(B7 aG 0).bind fun x3=>(B7 aK.cX x3.at_).bind fun x4=>some (cmp .leq (ar .sub .i64 x2.Time x4.Time) aA.Span)else if cmp .eql aA.Op 7 then(K6 N aO aG).bind fun r5=>(P2 N aK r5 (Ar.len aK.cX)).bind fun r6=>(CG N aA.cP r6 (-1) (⟨0,0,0,0,[]⟩:A6)).bind fun r7=>some r7 else(K6 N aO aG).bind fun r8=>(B7 aG 0).bind fun x9=>(loopN (fun(s10:Int)=>((K3 N aG).bind fun r12=>if cmp .lss s10 r12 then(B7 aK.cX s10).bind fun x13=>if cmp .eql x13.Typ aA.Typ then(S3 N aG s10).bind fun r14=>if nt r14 then(G6 N aK aA.cP r8 aA.Var s10).bind fun r15=>if r15 then some (.inr (.inr ()))else some (.inl (ar .add .i64 s10 1))else some (.inl (ar .add .i64 s10 1))else some (.inl (ar .add .i64 s10 1))else some (.inr (.inl ())):Option ((Int) ⊕ (Unit ⊕ Unit)))) N (ar .add .i64 x9.at_ 1)).bind fun s11=>match s11 with
   | .inl y16=>some true
   | .inr y17=>some false
mutual
def C6 (N:Nat):Nat→B0→A0→List A1→Int→Option (List (List A1))
 |0,_,_,_,_=>none
 |n+1,aK,aA,aO,aM=>(Ay N).bind fun r5=>(B7 ([fun y1 y2 y3 y4=>J9 N y1 y2 y3 y4,fun y1 y2 y3 y4=>L5 N n y1 y2 y3 y4,fun y1 y2 y3 y4=>L6 N n y1 y2 y3 y4,fun y1 y2 y3 y4=>L7 N n y1 y2 y3 y4,fun y1 y2 y3 y4=>K5 N n y1 y2 y3 y4,fun y1 y2 y3 y4=>F3 N n y1 y2 y3 y4,fun y1 y2 y3 y4=>F3 N n y1 y2 y3 y4,fun y1 y2 y3 y4=>F3 N n y1 y2 y3 y4]:List (B0→A0→(List A1)→Int→Option (List (List A1)))) aA.Op).bind fun f7=>(f7 aK aA aO aM).bind fun r8=>(H7 (fun(s11:(List (ByteArray×Bool))×(List (List A1))) (y10:(List A1))=>((M1 N y10).bind fun r17=>(IG s11.1 r17 (false:Bool)).bind fun r18=>if r18.1 then some (.inl (s11.1,s11.2))else(HL s11.1 r17 true).bind fun l20=>(N6 s11.2 ([y10])).bind fun l22=>((if cmp .gtr (Ar.len l22) 4096 then none else some ()):Option (Unit)).bind fun s23=>if aK.full then some (.inr (l20,l22))else some (.inl (l20,l22)):Option (((List (ByteArray×Bool))×(List (List A1))) ⊕ (((List (ByteArray×Bool))×(List (List A1))))))) r8 (([]:List (ByteArray×Bool)),[])).bind fun o16=>match o16 with
  | .inl s28=>some s28.2
  | .inr y31=>some ([])
def L5 (N:Nat):Nat→B0→A0→List A1→Int→Option (List (List A1))
 |0,_,_,_,_=>none
 |n+1,aK,aA,aO,aM=>if cmp .eql (Ar.len aA.cO) 1 then(B7 aA.cO 0).bind fun x1=>(C6 N n aK x1 aO aM).bind fun r2=>(N9 N r2).bind fun r3=>some r3 else(ES aA.cO (some 1) none none).bind fun l6=>(B7 aA.cO 0).bind fun x8=>(K4 N n aK x8 aO aM (fun y1 y2=>J8 N n y1 y2 aK ({aA with cO:=l6}))).bind fun r9=>some r9
def L6 (N:Nat):Nat→B0→A0→List A1→Int→Option (List (List A1))
 |0,_,_,_,_=>none
 |n+1,aK,aA,aO,aM=>Q1 N n aA aK aO aM
def L7 (N:Nat):Nat→B0→A0→List A1→Int→Option (List (List A1))
 |0,_,_,_,_=>none
 |n+1,aK,aA,aO,aM=>Q2 N n aA aK aO aM
def K5 (N:Nat):Nat→B0→A0→List A1→Int→Option (List (List A1))
 |0,_,_,_,_=>none
 |n+1,aK,aA,aO,aM=>O3 N n aK aA aO aM
def F3 (N:Nat):Nat→B0→A0→List A1→Int→Option (List (List A1))
 |0,_,_,_,_=>none
 |n+1,aK,aA,aO,aM=>O2 N n aK aA aO aM
def K4 (N:Nat):Nat→B0→A0→List A1→Int→((List A1)→Int→Option (List (List A1)))→Option (List (List A1))
 |0,_,_,_,_,_=>none
 |n+1,aK,aA,aO,aM,bT=>O1 N n aK aA aO aM bT
def J8 (N:Nat):Nat→List A1→Int→B0→A0→Option (List (List A1))
 |0,_,_,_,_=>none
 |n+1,aO,aM,aL,aP=>(C6 N n aL aP aO aM).bind fun r1=>some r1
def Q1 (N:Nat):Nat→A0→B0→List A1→Int→Option (List (List A1))
 |0,_,_,_,_=>none
 |n+1,aH,aL,aP,aS=>((N5 (W0 (fun(s1:Int)=>(if cmp .lss s1 (Ar.len aH.cO)then(B7 aH.cO s1).bind fun x7=>(C6 N n aL x7 aP aS).bind fun r8=>N5 (W0 (fun(s9:Int)=>(if cmp .lss s9 (Ar.len r8)then(B7 r8 s9).bind fun x15=>N5 (some ([x15],())) fun _=>some ([],.inl (ar .add .i64 s9 1))else some ([],.inr ()):Option (List (List A1)×((Int) ⊕ (Unit))))) N 0) fun s14=>some ([],.inl (ar .add .i64 s1 1))else some ([],.inr ()):Option (List (List A1)×((Int) ⊕ (Unit))))) N 0) fun s6=>some ([],())):Option (List (List A1)×Unit)).bind fun q=>some q.1
def Q2 (N:Nat):Nat→A0→B0→List A1→Int→Option (List (List A1))
 |0,_,_,_,_=>none
 |n+1,aH,aL,aP,aS=>((N5 (W0 (fun(s1:(List (List (List A1)))×Int)=>(if cmp .lss s1.2 (Ar.len aH.cO)then(B7 aH.cO s1.2).bind fun x8=>(C6 N n aL x8 aP aS).bind fun r9=>(N6 s1.1 ([r9])).bind fun l11=>some ([],.inl (l11,ar .add .i64 s1.2 1))else some ([],.inr s1.1):Option (List (List A1)×(((List (List (List A1)))×Int) ⊕ (((List (List (List A1))))))))) N ([],0)) fun s7=>if nt aL.full then(S9 N N s7 ([])).bind fun l13=>N5 (some (l13,())) fun _=>some ([],())else some ([],())):Option (List (List A1)×Unit)).bind fun q=>some q.1
def O3 (N:Nat):Nat→B0→A0→List A1→Int→Option (List (List A1))
 |0,_,_,_,_=>none
 | n+1,aH,aL,aP,aS=>(((B7 aL.cO 0).bind fun x1=>(C6 N n aH x1 aP aS).bind fun r2=>N5 (W0 (fun(s3:Int)=>(if cmp .lss s3 (Ar.len r2)then(B7 r2 s3).bind fun x9=>if aH.full then some ([],.inr (.inr ()))else N5 (some ([x9],())) fun _=>some ([],.inl (ar .add .i64 s3 1))else some ([],.inr (.inl ())):Option (List (List A1)×((Int) ⊕ (Unit ⊕ Unit))))) N 0) fun s8=>match s8 with
   | .inl y11=>(B7 aL.cO 0).bind fun x12=>(K4 N n aH x12 aP aS (fun y1 y2=>G9 N n y1 y2 aH aL)).bind fun r13=>N5 (Bk (fun(_:Unit) (y15:(List A1))=>(N5 (some ([y15],())) fun _=>some ([],.inl ()):Option (List (List A1)×(Unit ⊕ Unit)))) r13 ()) fun o22=>match o22 with
    | .inl _=>some ([],())
    | .inr _=>none
   | .inr y25=>some ([],())):Option (List (List A1)×Unit)).bind fun q=>some q.1
def G9 (N:Nat):Nat→List A1→Int→B0→A0→Option (List (List A1))
 |0,_,_,_,_=>none
 |n+1,aO,aM,aL,aP=>(C6 N n aL aP aO aM).bind fun r1=>some r1
def O2 (N:Nat):Nat→B0→A0→List A1→Int→Option (List (List A1))
 |0,_,_,_,_=>none
 |n+1,aH,aL,aP,aS=>(((B7 aL.cO 0).bind fun x1=>(C6 N n aH x1 aP aS).bind fun r2=>N5 (W0 (fun(s3:Int)=>(if cmp .lss s3 (Ar.len r2)then(B7 r2 s3).bind fun x9=>(Q0 N aH aL aP x9).bind fun r10=>if r10 then N5 (some ([x9],())) fun _=>some ([],.inl (ar .add .i64 s3 1))else some ([],.inl (ar .add .i64 s3 1))else some ([],.inr ()):Option (List (List A1)×((Int) ⊕ (Unit))))) N 0) fun s8=>some ([],())):Option (List (List A1)×Unit)).bind fun q=>some q.1
def O1 (N:Nat):Nat→B0→A0→List A1→Int→((List A1)→Int→Option (List (List A1)))→Option (List (List A1))
 |0,_,_,_,_,_=>none
 | n + 1,aH,aL,aP,aS,bW=>(((C6 N n aH aL aP aS).bind fun r1=>N5 (W0 (fun(s2:Int)=>(if cmp .lss s2 (Ar.len r1)then(B7 r1 s2).bind fun x8=>(K6 N aP x8).bind fun r9=>(K3 N x8).bind fun r10=>(bW r9 (ar .add .i64 r10 1)).bind fun r11=>N5 (W0 (fun(s12:Int)=>(if cmp .lss s12 (Ar.len r11)then(B7 r11 s12).bind fun x18=>if aH.full then some ([],.inr (.inr ()))else(K6 N x8 x18).bind fun r19=>N5 (some ([r19],())) fun _=>some ([],.inl (ar .add .i64 s12 1))else some ([],.inr (.inl ())):Option (List (List A1)×((Int) ⊕ (Unit ⊕ Unit))))) N 0) fun s17=>match s17 with
       | .inl y21=>some ([],.inl (ar .add .i64 s2 1))
       | .inr y22=>some ([],.inr (.inr ()))else some ([],.inr (.inl ())):Option (List (List A1)×((Int) ⊕ (Unit ⊕ Unit))))) N 0) fun s7=>match s7 with
   | .inl y23=>some ([],())
   | .inr y24=>some ([],())):Option (List (List A1)×Unit)).bind fun q=>some q.1
end
def M2 (N:Nat)(aA:A0)(aF:List A6):Option ((List D1)×Int):=(Bv N aA).bind fun r1=>if cmp .neq r1 0 then some ([],r1)else(BX N aF).bind fun r2=>if cmp .neq r2 0 then some ([],r2)else(C6 N N (⟨aF,false⟩:B0) aA ([]) 0).bind fun r3=>(loopN (fun(s5:Int×(List D1))=>(if cmp .lss s5.1 (Ar.len r3)then(B7 r3 s5.1).bind fun x8=>(loopN (fun(s10:Int×D1)=>(if cmp .lss s10.1 (Ar.len x8)then(B7 x8 s10.1).bind fun x13=>(B7 aF x13.at_).bind fun x14=>(CI N x14).bind fun r15=>(N6 s10.2.cQ ([(⟨x13.cT,r15⟩:E8)])).bind fun l17=>some (.inl (ar .add .i64 s10.1 1,{s10.2 with cQ:=l17}))else some (.inr s10.2):Option ((Int×D1) ⊕ (D1)))) N (0,(⟨[]⟩:D1))).bind fun s12=>(N6 s5.2 ([s12])).bind fun l20=>some (.inl (ar .add .i64 s5.1 1,l20))else some (.inr s5.2):Option ((Int×(List D1)) ⊕ (((List D1)))))) N (0,([]:List D1))).bind fun s7=>(GE (fun y1 y2=>Au N y1 y2) s7).bind fun l22=>some (l22,0)
def X3 (N:Nat)(aA:A0)(aF:List A6):Option ((List D1)×Int):=(M2 N aA aF).bind fun r1=>some (r1.1,r1.2)
def Dl (N:Nat)(aA:A0)(aF:List A6):Option (Int×Int):=(M2 N aA aF).bind fun r1=>some (Ar.len r1.1,r1.2)
def Dk (N:Nat)(aA:A0)(aF:List A6):Option (D1×Bool×Int):=(M2 N aA aF).bind fun r2=>if Ar.or (cmp .neq r2.2 0) (cmp .eql (Ar.len r2.1) 0)then some ((⟨[]⟩:D1),false,r2.2)else(B7 r2.1 0).bind fun x3=>some (x3,true,0)
def FO (N:Nat)(aI:List Int):Option (List A6):=(loopN (fun(s1:(List A6)×Int)=>(if cmp .lss s1.2 (Ar.len aI)then(B7 aI s1.2).bind fun x4=>(N6 s1.1 ([(⟨0,s1.2,0,ar .add .i64 s1.2 1,[(⟨0,x4,⟨#[]⟩⟩:A5)]⟩:A6)])).bind fun l6=>some (.inl (l6,ar .add .i64 s1.2 1))else some (.inr s1.1):Option (((List A6)×Int) ⊕ (((List A6)))))) N ([],0)).bind fun s3=>some s3
def BK (N:Nat)(aQ:Int)(cD:List A0):Option A0:=some (⟨aQ,cD,0,0,0,0,(⟨0,[],0,0,0,(⟨0,0,⟨#[]⟩⟩:A5)⟩:A3)⟩:A0)
def Bc (N:Nat)(aJ:Int)(bO:A3):Option A0:=some (⟨0,[],0,aJ,0,0,bO⟩:A0)
def Iq (N:Nat)(aD:Bool):Option A5:=if aD then some (⟨1,1,⟨#[]⟩⟩:A5)else some (⟨1,0,⟨#[]⟩⟩:A5)
def Fm (N:Nat):Option A3:=(Iq N true).bind fun r2=>some (⟨0,[],0,0,0,r2⟩:A3)
def BL (N:Nat)(aC:A3)(aD:A3):Option A3:=some (⟨7,[aC,aD],0,0,0,(⟨0,0,⟨#[]⟩⟩:A5)⟩:A3)
def Ac (N:Nat)(aJ:Int):Option A3:=some (⟨1,[],aJ,0,0,(⟨0,0,⟨#[]⟩⟩:A5)⟩:A3)
def Bd (N:Nat)(aW:Int):Option A3:=some (⟨0,[],0,0,0,(⟨0,aW,⟨#[]⟩⟩:A5)⟩:A3)
def E4 (N:Nat):Option Bool:=(FO N ([5,3,8,5])).bind fun r1=>(Fm N).bind fun r2=>(Bc N 0 r2).bind fun r3=>(Ac N 0).bind fun r4=>(Ac N 1).bind fun r5=>(BL N r4 r5).bind fun r6=>(Bc N 1 r6).bind fun r7=>(BK N 1 ([r3,r7])).bind fun r8=>(Fm N).bind fun r9=>(Bc N 1 r9).bind fun r10=>(Fm N).bind fun r11=>(Bc N 2 r11).bind fun r12=>(BK N 1 ([r10,r12])).bind fun r13=>(BK N 5 ([r13])).bind fun r14=>(Bd N 6).bind fun r16=>(Ac N 0).bind fun r17=>(BL N r16 r17).bind fun r18=>(Ac N 0).bind fun r19=>(Bd N 6).bind fun r20=>(BL N r19 r20).bind fun r21=>(Bc N 0 r21).bind fun r22=>(BK N 4 ([r22])).bind fun r23=>(Bd N 4).bind fun r24=>(Ac N 0).bind fun r25=>(BL N r24 r25).bind fun r26=>(Bc N 0 r26).bind fun r27=>(Ac N 1).bind fun r28=>(Bd N 6).bind fun r29=>(BL N r28 r29).bind fun r30=>(Bc N 1 r30).bind fun r31=>(BK N 3 ([r27,r31])).bind fun r32=>(loopN (fun(s33:Int)=>(if cmp .lss s33 5 then(B7 ([r8,(⟨6,[r8],0,0,0,1,(⟨0,[],0,0,0,(⟨0,0,⟨#[]⟩⟩:A5)⟩:A3)⟩:A0),{r14 with cP:=r18},r23,r32]) s33).bind fun x35=>(Dl N x35 r1).bind fun r37=>(X3 N x35 r1).bind fun r38=>if Ar.or (cmp .neq r37.2 0) (cmp .neq r38.2 0)then some (.inr (.inr ()))else(B7 ([3,1,4,7,7]) s33).bind fun x39=>if Ar.or (cmp .neq r37.1 x39) (cmp .neq (Ar.len r38.1) r37.1)then some (.inr (.inr ()))else some (.inl (ar .add .i64 s33 1))else some (.inr (.inl ())):Option ((Int) ⊕ (Unit ⊕ Unit)))) N 0).bind fun s34=>match s34 with
 | .inl y40=>(Dk N r8 r1).bind fun r41=>if an (an (cmp .eql r41.2.2 0) r41.2.1) (cmp .eql (Ar.len r41.1.cQ) 2)then(B7 r41.1.cQ 1).bind fun x42=>some (an (cmp .eql x42.Var 1) (an (cmp .eql x42.Ref.Time 3) (an (cmp .eql x42.Ref.Source 0) (an (cmp .eql x42.Ref.Seq 2) true))))else some false
 | .inr y43=>some false
def N7 (N:Nat)(aA:A0):Option Bool:=some (Ar.or (cmp .eql aA.Op 5) (cmp .eql aA.Op 9))
def O4 (N:Nat)(aA:A0):Option Bool:=if cmp .eql aA.Op 0 then some true else(N7 N aA).bind fun r1=>some r1
def N1 (N:Nat)(aA:A0):Option Bool:=some (Ar.or (cmp .eql aA.Op 6) (cmp .eql aA.Op 10))
def O5 (N:Nat):Nat→A3→A3→Option Bool
 |0,_,_=>none
 | n+1,aC,aD=>if Ar.or (Ar.or (Ar.or (Ar.or (Ar.or (cmp .neq aC.Op aD.Op) (cmp .neq aC.Var aD.Var)) (cmp .neq aC.Field aD.Field)) (cmp .neq aC.Kind aD.Kind)) (nt (an (cmp .eql aC.Value.Kind aD.Value.Kind) (an (cmp .eql aC.Value.Num aD.Value.Num) (an (scmp .eql aC.Value.Text aD.Value.Text) true))))) (cmp .neq (Ar.len aC.cO) (Ar.len aD.cO))then some false else(loopN (fun(s1:Int)=>(if cmp .lss s1 (Ar.len aC.cO)then(B7 aC.cO s1).bind fun x3=>(B7 aD.cO s1).bind fun x4=>(O5 N n x3 x4).bind fun r5=>if nt r5 then some (.inr (.inr ()))else some (.inl (ar .add .i64 s1 1))else some (.inr (.inl ())):Option ((Int) ⊕ (Unit ⊕ Unit)))) N 0).bind fun s2=>match s2 with
   | .inl y6=>some true
   | .inr y7=>some false
def W7 (N:Nat)(aA:A0):Option Bool:=(O4 N aA).bind fun r1=>some (Ar.or r1 (cmp .eql aA.Op 7))
def BH (N:Nat)(aQ:Int):Option (Bool×Bool):=some (Ar.or (Ar.or (Ar.or (cmp .eql aQ 1) (cmp .eql aQ 4)) (cmp .eql aQ 2)) (cmp .eql aQ 3),Ar.or (cmp .eql aQ 1) (cmp .eql aQ 4))
def Db (N:Nat)(aJ:A5):Option Int:=if Ar.or (cmp .lss aJ.Kind 0) (cmp .gtr aJ.Kind 2)then some 1 else if cmp .eql aJ.Kind 2 then if cmp .neq aJ.Num 0 then some 3 else if cmp .gtr (Ar.slen aJ.Text) 64 then some 13 else some 0 else if scmp .neq aJ.Text (⟨#[]⟩:ByteArray)then some 3 else if Ar.or (Ar.or (an (cmp .eql aJ.Kind 1) (Ar.or (cmp .lss aJ.Num 0) (cmp .gtr aJ.Num 1))) (cmp .lss aJ.Num (-1099511627776))) (cmp .gtr aJ.Num 1099511627776)then some 2 else some 0
def CY (N:Nat)(aQ:Int):Option Int:=((if cmp .eql aQ 0 then some true else if cmp .eql aQ 1 then some true else if cmp .eql aQ 2 then some true else if cmp .eql aQ 3 then some true else some (cmp .eql aQ 4)):Option (Bool)).bind fun s1=>if s1 then some 0 else if cmp .eql aQ 12 then some 1 else if cmp .eql aQ 5 then some 2 else if cmp .eql aQ 6 then some 2 else if cmp .eql aQ 7 then some 2 else if cmp .eql aQ 8 then some 2 else if cmp .eql aQ 9 then some 2 else if cmp .eql aQ 10 then some 2 else if cmp .eql aQ 11 then some 2 else some (-1)
def CZ (N:Nat)(bJ:Int)(aJ:A5):Option Bool:=some (Ar.or (Ar.or (Ar.or (cmp .eql aJ.Kind 0) (cmp .eql bJ 0)) (cmp .eql bJ 4)) (cmp .eql bJ 5))
def CB (N:Nat) (aB:A3):Option Int:=(CY N aB.Op).bind fun r1=>if cmp .lss r1 0 then some 1 else if cmp .neq (Ar.len aB.cO) r1 then some 15 else(BH N aB.Op).bind fun r2=>if Ar.or (an r2.1 (Ar.or (cmp .lss aB.Var 0) (cmp .geq aB.Var 16))) (an r2.2 (Ar.or (cmp .lss aB.Field 0) (cmp .geq aB.Field 8)))then some 2 else if an (cmp .eql aB.Op 4) (Ar.or (cmp .lss aB.Kind 1) (cmp .gtr aB.Kind 5))then some 1 else((if Ar.or (cmp .eql aB.Op 4) (cmp .eql aB.Op 0)then(Db N aB.Value).bind fun r4=>if cmp .neq r4 0 then some (.inr r4)else some (.inl ())else some (.inl ())):Option (Unit ⊕ Int)).bind fun s3=>match s3 with
     | .inl y5=>if cmp .eql aB.Op 4 then(CZ N aB.Kind aB.Value).bind fun r6=>if Ar.or (nt r6) (an (cmp .eql aB.Kind 1) (nt (an (cmp .eql aB.Value.Kind 0) (an (cmp .eql aB.Value.Num 0) (an (scmp .eql aB.Value.Text (⟨#[]⟩)) true)))))then some 9 else if Ar.or (Ar.or (Ar.or (an (nt r2.1) (cmp .neq aB.Var 0)) (an (nt r2.2) (cmp .neq aB.Field 0))) (an (nt (cmp .eql aB.Op 4)) (cmp .neq aB.Kind 0))) (an (nt (Ar.or (cmp .eql aB.Op 4) (cmp .eql aB.Op 0))) (nt (an (cmp .eql aB.Value.Kind 0) (an (cmp .eql aB.Value.Num 0) (an (scmp .eql aB.Value.Text (⟨#[]⟩)) true)))))then some 3 else some 0 else if Ar.or (Ar.or (Ar.or (an (nt r2.1) (cmp .neq aB.Var 0)) (an (nt r2.2) (cmp .neq aB.Field 0))) (an (nt (cmp .eql aB.Op 4)) (cmp .neq aB.Kind 0))) (an (nt (Ar.or (cmp .eql aB.Op 4) (cmp .eql aB.Op 0))) (nt (an (cmp .eql aB.Value.Kind 0) (an (cmp .eql aB.Value.Num 0) (an (scmp .eql aB.Value.Text (⟨#[]⟩)) true)))))then some 3 else some 0
     | .inr y7=>some y7
def Aa (N:Nat):Nat→A3→Option Int
 |0,_=>none
 | n+1,aB=>(CB N aB).bind fun r1=>if cmp .neq r1 0 then some r1 else(loopN (fun(s2:Int)=>(if cmp .lss s2 (Ar.len aB.cO)then(B7 aB.cO s2).bind fun x4=>(Aa N n x4).bind fun r5=>if cmp .neq r5 0 then some (.inr (.inr r5))else some (.inl (ar .add .i64 s2 1))else some (.inr (.inl ())):Option ((Int) ⊕ (Unit ⊕ Int)))) N 0).bind fun s3=>match s3 with
   | .inl y6=>some 0
   | .inr y7=>some y7
def AM (N:Nat)(aB:A3):Option Int:=(U9 N N aB 64).bind fun r1=>if cmp .gtr r1 64 then some 5 else(U8 N N aB).bind fun r2=>if cmp .gtr r2 12 then some 12 else(Aa N N aB).bind fun r3=>some r3
def CX (N:Nat)(aA:A0):Option Bool:=if cmp .eql aA.Op 0 then some (cmp .eql (Ar.len aA.cO) 0)else((if cmp .eql aA.Op 1 then some true else if cmp .eql aA.Op 2 then some true else some (cmp .eql aA.Op 3)):Option (Bool)).bind fun s1=>if s1 then some (cmp .geq (Ar.len aA.cO) 2)else if cmp .eql aA.Op 8 then some (cmp .eql (Ar.len aA.cO) 2)else some (cmp .eql (Ar.len aA.cO) 1)
def Y9 (N:Nat)(bH:Bool)(aW:Int)(bP:Int):Option Bool:=some (an bH (Ar.or (cmp .lss aW 0) (cmp .gtr aW bP)))
def V8 (N:Nat) (aA:A0):Option Int:=if Ar.or (cmp .lss aA.Op 0) (cmp .gtr aA.Op 10)then some 1 else(CX N aA).bind fun r1=>if nt r1 then some 15 else(O4 N aA).bind fun r2=>(N7 N aA).bind fun r3=>if r3 then(W7 N aA).bind fun r4=>(Y9 N r2 aA.Typ 15).bind fun r5=>if r5 then some 2 else(Y9 N r2 aA.Var 15).bind fun r6=>if r6 then some 2 else(Y9 N true aA.cR 63).bind fun r7=>if r7 then some 2 else(N1 N aA).bind fun r8=>(Y9 N r8 aA.Span 1099511627776).bind fun r9=>if r9 then some 2 else((if r4 then(AM N aA.cP).bind fun r11=>if cmp .neq r11 0 then some (.inr r11)else some (.inl ())else some (.inl ())):Option (Unit ⊕ Int)).bind fun s10=>match s10 with
        | .inl y12=>if Ar.or (an (nt r2) (Ar.or (cmp .neq aA.Typ 0) (cmp .neq aA.Var 0))) (an (nt true) (cmp .neq aA.cR 0))then some 3 else(N1 N aA).bind fun r13=>if an (nt r13) (cmp .neq aA.Span 0)then some 3 else if nt r4 then(O5 N N aA.cP (⟨0,[],0,0,0,(⟨0,0,⟨#[]⟩⟩:A5)⟩:A3)).bind fun r14=>if nt r14 then some 3 else some 0 else some 0
        | .inr y15=>some y15 else(N1 N aA).bind fun r16=>(W7 N aA).bind fun r17=>(Y9 N r2 aA.Typ 15).bind fun r18=>if r18 then some 2 else(Y9 N r2 aA.Var 15).bind fun r19=>if r19 then some 2 else(Y9 N r16 aA.cR 63).bind fun r20=>if r20 then some 2 else(N1 N aA).bind fun r21=>(Y9 N r21 aA.Span 1099511627776).bind fun r22=>if r22 then some 2 else((if r17 then(AM N aA.cP).bind fun r24=>if cmp .neq r24 0 then some (.inr r24)else some (.inl ())else some (.inl ())):Option (Unit ⊕ Int)).bind fun s23=>match s23 with
        | .inl y25=>if Ar.or (an (nt r2) (Ar.or (cmp .neq aA.Typ 0) (cmp .neq aA.Var 0))) (an (nt r16) (cmp .neq aA.cR 0))then some 3 else(N1 N aA).bind fun r26=>if an (nt r26) (cmp .neq aA.Span 0)then some 3 else if nt r17 then(O5 N N aA.cP (⟨0,[],0,0,0,(⟨0,0,⟨#[]⟩⟩:A5)⟩:A3)).bind fun r27=>if nt r27 then some 3 else some 0 else some 0
        | .inr y28=>some y28
def W8 (N:Nat) (aA:A0):Option Int:=(U6 N N aA 64).bind fun r1=>if cmp .gtr r1 64 then some 5 else(U7 N N aA).bind fun r2=>if cmp .gtr r2 12 then some 12 else(K7 N N aA).bind fun r3=>(loopN (fun(s4:Int)=>(if cmp .lss s4 (Ar.len r3)then(B7 r3 s4).bind fun x6=>(V8 N x6).bind fun r7=>if cmp .neq r7 0 then some (.inr (.inr r7))else some (.inl (ar .add .i64 s4 1))else some (.inr (.inl ())):Option ((Int) ⊕ (Unit ⊕ Int)))) N 0).bind fun s5=>match s5 with
   | .inl y8=>some 0
   | .inr y9=>some y9
def AY (N:Nat)(aF:List A0):Option Bool:=(loopN (fun(s1:Int)=>(if cmp .lss s1 (Ar.len aF)then(B7 aF s1).bind fun x3=>if cmp .geq x3.Op 8 then some (.inr (.inr ()))else some (.inl (ar .add .i64 s1 1))else some (.inr (.inl ())):Option ((Int) ⊕ (Unit ⊕ Unit)))) N 0).bind fun s2=>match s2 with
 | .inl y4=>some true
 | .inr y5=>some false
def Z9 (N:Nat) (aA:A0):Option Int:=(W8 N aA).bind fun r1=>if cmp .neq r1 0 then some r1 else(K7 N N aA).bind fun r2=>(AY N r2).bind fun r3=>if nt r3 then some 1 else(loopN (fun(s4:Int×Int×Int)=>(if cmp .lss s4.2.2 (Ar.len r2)then(B7 r2 s4.2.2).bind fun x6=>(O4 N x6).bind fun r7=>((if r7 then(B7 r2 s4.2.2).bind fun x9=>if cmp .neq x9.Var s4.1 then some (.inr ())else some (.inl (ar .add .i64 s4.1 1))else some (.inl s4.1)):Option (Int ⊕ Unit)).bind fun s8=>match s8 with
       | .inl y10=>(B7 r2 s4.2.2).bind fun x11=>(N7 N x11).bind fun r12=>if r12 then(B7 r2 s4.2.2).bind fun x13=>if cmp .neq x13.cR s4.2.1 then some (.inr (.inr ()))else some (.inl (y10,ar .add .i64 s4.2.1 1,ar .add .i64 s4.2.2 1))else(B7 r2 s4.2.2).bind fun x14=>(N1 N x14).bind fun r15=>if r15 then(B7 r2 s4.2.2).bind fun x16=>if cmp .neq x16.cR s4.2.1 then some (.inr (.inr ()))else some (.inl (y10,ar .add .i64 s4.2.1 1,ar .add .i64 s4.2.2 1))else some (.inl (y10,s4.2.1,ar .add .i64 s4.2.2 1))
       | .inr y17=>some (.inr (.inr ()))else some (.inr (.inl ())):Option ((Int×Int×Int) ⊕ (Unit ⊕ Unit)))) N (0,0,0)).bind fun s5=>match s5 with
   | .inl y18=>some 0
   | .inr y19=>some 14
def Fg (N:Nat)(aB:A6):Option Gv:=some (⟨aB.Time,aB.Source,aB.Seq⟩:Gv)
def R6 (N:Nat)(aC:Gv)(aD:Gv):Option Int:=if cmp .neq aC.Time aD.Time then if cmp .lss aC.Time aD.Time then some (-1)else some 1 else if cmp .neq aC.Source aD.Source then if cmp .lss aC.Source aD.Source then some (-1)else some 1 else if cmp .lss aC.Seq aD.Seq then some (-1)else if cmp .gtr aC.Seq aD.Seq then some 1 else some 0
def DA (N:Nat)(aB:A6):Option Bool:=some (an (an (an (an (an (cmp .geq aB.Time 0) (cmp .leq aB.Time 1099511627776)) (cmp .geq aB.Source 0)) (cmp .lss aB.Source 8)) (cmp .geq aB.Seq 0)) (cmp .leq aB.Seq 1099511627776))
def CC (N:Nat)(aC:A6)(aD:A6):Option Bool:=some (an (cmp .eql aC.Source aD.Source) (cmp .eql aC.Seq aD.Seq))
def Da (N:Nat) (aF:List A6):Option Int:=if cmp .gtr (Ar.len aF) 4096 then some 5 else(loopN (fun(s1:Int)=>(if cmp .lss s1 (Ar.len aF)then(B7 aF s1).bind fun x3=>(DA N x3).bind fun r4=>if nt r4 then some (.inr (.inr 2))else if cmp .gtr s1 0 then(B7 aF (ar .sub .i64 s1 1)).bind fun x5=>(Fg N x5).bind fun r6=>(B7 aF s1).bind fun x7=>(Fg N x7).bind fun r8=>(R6 N r6 r8).bind fun r9=>if cmp .geq r9 0 then some (.inr (.inr 14))else(loopN (fun(s10:Int)=>(if cmp .lss s10 s1 then(B7 aF s10).bind fun x12=>(B7 aF s1).bind fun x13=>(CC N x12 x13).bind fun r14=>if r14 then some (.inr (.inr ()))else some (.inl (ar .add .i64 s10 1))else some (.inr (.inl ())):Option ((Int) ⊕ (Unit ⊕ Unit)))) N 0).bind fun s11=>match s11 with
         | .inl y15=>some (.inl (ar .add .i64 s1 1))
         | .inr y16=>some (.inr (.inr 7))else(loopN (fun(s17:Int)=>(if cmp .lss s17 s1 then(B7 aF s17).bind fun x19=>(B7 aF s1).bind fun x20=>(CC N x19 x20).bind fun r21=>if r21 then some (.inr (.inr ()))else some (.inl (ar .add .i64 s17 1))else some (.inr (.inl ())):Option ((Int) ⊕ (Unit ⊕ Unit)))) N 0).bind fun s18=>match s18 with
        | .inl y22=>some (.inl (ar .add .i64 s1 1))
        | .inr y23=>some (.inr (.inr 7))else some (.inr (.inl ())):Option ((Int) ⊕ (Unit ⊕ Int)))) N 0).bind fun s2=>match s2 with
  | .inl y24=>some 0
  | .inr y25=>some y25
def EA (N:Nat)(aA:A0)(aF:List A6):Option Int:=(Z9 N aA).bind fun r1=>if cmp .neq r1 0 then some r1 else(Da N aF).bind fun r2=>some r2
def GM (N:Nat)(aC:E8)(aD:E8):Option Int:=(R6 N aC.Ref aD.Ref).bind fun r1=>if cmp .neq r1 0 then some r1 else if cmp .lss aC.Var aD.Var then some (-1)else if cmp .gtr aC.Var aD.Var then some 1 else some 0
def CS (N:Nat)(aC:D1)(aD:D1):Option Int:=(loopN (fun(s1:Int)=>(if an (cmp .lss s1 (Ar.len aC.cQ)) (cmp .lss s1 (Ar.len aD.cQ))then(B7 aC.cQ s1).bind fun x3=>(B7 aD.cQ s1).bind fun x4=>(GM N x3 x4).bind fun r5=>if cmp .neq r5 0 then some (.inr (.inr r5))else some (.inl (ar .add .i64 s1 1))else some (.inr (.inl ())):Option ((Int) ⊕ (Unit ⊕ Int)))) N 0).bind fun s2=>match s2 with
 | .inl y6=>if cmp .lss (Ar.len aC.cQ) (Ar.len aD.cQ)then some (-1)else if cmp .gtr (Ar.len aC.cQ) (Ar.len aD.cQ)then some 1 else some 0
 | .inr y7=>some y7
def Ip (N:Nat) (aC:List D1) (aD:List D1):Option Bool:=if cmp .neq (Ar.len aC) (Ar.len aD)then some false else(loopN (fun(s1:Int)=>(if cmp .lss s1 (Ar.len aC)then(B7 aC s1).bind fun x3=>(B7 aD s1).bind fun x4=>(CS N x3 x4).bind fun r5=>if cmp .neq r5 0 then some (.inr (.inr ()))else some (.inl (ar .add .i64 s1 1))else some (.inr (.inl ())):Option ((Int) ⊕ (Unit ⊕ Unit)))) N 0).bind fun s2=>match s2 with
  | .inl y6=>some true
  | .inr y7=>some false
end Go.Ab
