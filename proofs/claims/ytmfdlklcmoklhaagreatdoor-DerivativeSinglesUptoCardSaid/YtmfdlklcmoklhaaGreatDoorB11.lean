/- GHSp -/
import Derived.Test.YtmfdlklcmoklhaaGreatDoorB10
set_option linter.all false
open Go.Ab.Ar (an ar cmp mx neg nt scmp slen wr)
namespace Go.Ab
variable [Ar]
instance :DecidableEq G0:=fun x y=>decidable_of_iff (x.source=y.source∧x.seq=y.seq) (by cases x;cases y;simp)
def Cr (N:Nat):Nat→A0→Int→Option Int
 |0,_,_=>none
 |n+1,aA,bK=>(loopN (fun(s1:Int×Int)=>(if an (cmp .lss s1.2 (Ar.len aA.dD)) (cmp .leq s1.1 bK)then(C5 aA.dD s1.2).bind fun x3=>(Cr N n x3 bK).bind fun r4=>some (.inl (ar .add .i64 s1.1 r4,ar .add .i64 s1.2 1))else some (.inr s1.1):Option ((Int×Int)⊕(Int)))) N (1,0)).bind fun s2=>some s2
def Cs (N:Nat):Nat→A0→Option (List A0)
 |0,_=>none
 |n+1,aA=>(loopN (fun(s1:(List A0)×Int)=>(if cmp .lss s1.2 (Ar.len aA.dD)then(C5 aA.dD s1.2).bind fun x4=>(Cs N n x4).bind fun r5=>(N6 s1.1 r5).bind fun l7=>some (.inl (l7,ar .add .i64 s1.2 1))else some (.inr s1.1):Option (((List A0)×Int)⊕(((List A0)))))) N ([aA],0)).bind fun s3=>some s3
def AT (N:Nat):Nat→B0→Int→Option Int
 |0,_,_=>none
 |n+1,aC,bK=>(loopN (fun(s1:Int×Int)=>(if an (cmp .lss s1.2 (Ar.len aC.dD)) (cmp .leq s1.1 bK)then(C5 aC.dD s1.2).bind fun x3=>(AT N n x3 bK).bind fun r4=>some (.inl (ar .add .i64 s1.1 r4,ar .add .i64 s1.2 1))else some (.inr s1.1):Option ((Int×Int)⊕(Int)))) N (1,0)).bind fun s2=>some s2
def GW (N:Nat) (aA:A0):Option Bool:=(Cr N N aA 9).bind fun r1=>if cmp .gtr r1 9 then some false else(Cs N N aA).bind fun r2=>(loopN (fun(s3:Int)=>(if cmp .lss s3 (Ar.len r2)then(C5 r2 s3).bind fun x5=>(AT N N x5.dE 20).bind fun r6=>if cmp .gtr r6 20 then some (.inr (.inr ()))else some (.inl (ar .add .i64 s3 1))else some (.inr (.inl ())):Option ((Int)⊕(Unit⊕Unit)))) N 0).bind fun s4=>match s4 with
  | .inl y7=>some true
  | .inr y8=>some false
def AN (N:Nat):Nat→A0→Option (List A0)
 |0,_=>none
 |n+1,aA=>((J2 (some ([aA],())) fun _=>J2 (W2 (fun(s2:Int)=>(if cmp .lss s2 (Ar.len aA.dD)then(C5 aA.dD s2).bind fun x8=>(AN N n x8).bind fun l9=>J2 (some (l9,())) fun _=>some ([],.inl (ar .add .i64 s2 1))else some ([],.inr ()):Option (List A0×((Int)⊕(Unit))))) N 0) fun s7=>some ([],())):Option (List A0×Unit)).bind fun q=>some q.1
def CG (N:Nat)(aF:A0):Option (List A0):=(((AN N N aF).bind fun l1=>J2 (some (l1,())) fun _=>some ([],())):Option (List A0×Unit)).bind fun q=>some q.1
def Ac (N:Nat)(aA:A0):Option (List A0):=CG N aA
def AO (N:Nat):Nat→A0→Option (Int×Int)
 |0,_=>none
 |n+1,aA=>(loopN (fun(s1:Int×Int×Int)=>(if cmp .lss s1.2.2 (Ar.len aA.dD)then(C5 aA.dD s1.2.2).bind fun x3=>(AO N n x3).bind fun r4=>some (.inl (ar .add .i64 s1.1 r4.1,mx s1.2.1 r4.2,ar .add .i64 s1.2.2 1))else some (.inr (s1.1,s1.2.1)):Option ((Int×Int×Int)⊕((Int×Int))))) N (1,0,0)).bind fun s2=>some (s2.1,ar .add .i64 s2.2 1)
def Al (N:Nat)(bR:Bool)(aR:Int)(cC:Int):Option Bool:=some (Ar.or (nt bR) (an (cmp .geq aR 0) (cmp .leq aR cC)))
def DV (N:Nat):Nat→B0→Option (Int×Int)
 |0,_=>none
 |n+1,aC=>(loopN (fun(s1:Int×Int×Int)=>(if cmp .lss s1.2.2 (Ar.len aC.dD)then(C5 aC.dD s1.2.2).bind fun x3=>(DV N n x3).bind fun r4=>some (.inl (ar .add .i64 s1.1 r4.1,mx s1.2.1 r4.2,ar .add .i64 s1.2.2 1))else some (.inr (s1.1,s1.2.1)):Option ((Int×Int×Int)⊕((Int×Int))))) N (1,0,0)).bind fun s2=>some (s2.1,ar .add .i64 s2.2 1)
def EK (N:Nat):Nat→B0→(B0→Option Int)→Option Int
 |0,_,_=>none
 | n+1,aC,aW=>(aW aC).bind fun r1=>if cmp .neq r1 0 then some r1 else(loopN (fun(s2:Int)=>(if cmp .lss s2 (Ar.len aC.dD)then(C5 aC.dD s2).bind fun x4=>(EK N n x4 aW).bind fun r5=>if cmp .neq r5 0 then some (.inr (.inr r5))else some (.inl (ar .add .i64 s2 1))else some (.inr (.inl ())):Option ((Int)⊕(Unit⊕Int)))) N 0).bind fun s3=>match s3 with
   | .inl y6=>some 0
   | .inr y7=>some y7
def Ip (N:Nat)(aK:Int):Option (Int×Bool):=if Ar.or (cmp .lss aK 0) (cmp .gtr aK 12)then some (0,false)else if cmp .lss aK 5 then some (0,true)else if cmp .eql aK 12 then some (1,true)else some (2,true)
def JX (N:Nat)(aK:Int):Option (Bool×Bool):=((if cmp .eql aK 1 then some true else some (cmp .eql aK 4)):Option (Bool)).bind fun s1=>if s1 then some (true,true)else if cmp .eql aK 2 then some (true,false)else if cmp .eql aK 3 then some (true,false)else some (false,false)
def HP (N:Nat)(aI:A7):Option Int:=if an (cmp .eql aI.Kind 0) (Ar.or (cmp .lss aI.Num (-1099511627776)) (cmp .gtr aI.Num 1099511627776))then some 2 else if an (an (cmp .eql aI.Kind 1) (cmp .neq aI.Num 0)) (cmp .neq aI.Num 1)then some 2 else if cmp .gtr (slen aI.Text) 64 then some 13 else some 0
def AQ (N:Nat)(aI:A7):Option Int:=((if cmp .eql aI.Kind 0 then some true else some (cmp .eql aI.Kind 1)):Option (Bool)).bind fun s1=>if s1 then if scmp .neq aI.Text (⟨#[]⟩:ByteArray)then some 3 else(HP N aI).bind fun r2=>some r2 else if cmp .eql aI.Kind 2 then if cmp .neq aI.Num 0 then some 3 else(HP N aI).bind fun r3=>some r3 else some 1
def Io (N:Nat)(aS:Int)(aI:A7):Option Bool:=some (Ar.or (Ar.or (cmp .eql aI.Kind 0) (cmp .eql aS 4)) (cmp .eql aS 5))
def FD (N:Nat)(aC:B0):Option Int:=(AQ N aC.Value).bind fun r1=>if cmp .neq r1 0 then some r1 else if cmp .eql aC.Op 4 then(Io N aC.Kind aC.Value).bind fun r2=>if Ar.or (nt r2) (an (cmp .eql aC.Kind 1) (nt (an (cmp .eql aC.Value.Kind 0) (an (cmp .eql aC.Value.Num 0) (an (scmp .eql aC.Value.Text (⟨#[]⟩)) true)))))then some 9 else some 0 else some 0
def HK (N:Nat) (aC:B0):Option Int:=(Ip N aC.Op).bind fun r1=>if nt r1.2 then some 1 else if cmp .neq (Ar.len aC.dD) r1.1 then some 15 else(JX N aC.Op).bind fun r2=>if Ar.or (an r2.1 (Ar.or (cmp .lss aC.Var 0) (cmp .geq aC.Var 16))) (an r2.2 (Ar.or (cmp .lss aC.Field 0) (cmp .geq aC.Field 8)))then some 2 else if an (cmp .eql aC.Op 4) (Ar.or (cmp .lss aC.Kind 1) (cmp .gtr aC.Kind 5))then some 1 else((if Ar.or (cmp .eql aC.Op 4) (cmp .eql aC.Op 0)then(FD N aC).bind fun r4=>if cmp .neq r4 0 then some (.inr r4)else some (.inl ())else some (.inl ())):Option (Unit⊕Int)).bind fun s3=>match s3 with
     | .inl y5=>if Ar.or (Ar.or (Ar.or (an (nt r2.1) (cmp .neq aC.Var 0)) (an (nt r2.2) (cmp .neq aC.Field 0))) (an (nt (cmp .eql aC.Op 4)) (cmp .neq aC.Kind 0))) (an (nt (Ar.or (cmp .eql aC.Op 4) (cmp .eql aC.Op 0))) (nt (an (cmp .eql aC.Value.Kind 0) (an (cmp .eql aC.Value.Num 0) (an (scmp .eql aC.Value.Text (⟨#[]⟩)) true)))))then some 3 else some 0
     | .inr y6=>some y6
def Gn (N:Nat)(aC:B0):Option Int:=(DV N N aC).bind fun r1=>if cmp .gtr r1.1 64 then some 5 else if cmp .gtr r1.2 12 then some 12 else(EK N N aC (fun y1=>HK N y1)).bind fun r2=>some r2
def Ch (N:Nat):Nat→B0→B0→Option Bool
 |0,_,_=>none
 | n+1,aB,aD=>if Ar.or (Ar.or (Ar.or (Ar.or (Ar.or (cmp .neq aB.Op aD.Op) (cmp .neq aB.Var aD.Var)) (cmp .neq aB.Field aD.Field)) (cmp .neq aB.Kind aD.Kind)) (nt (an (cmp .eql aB.Value.Kind aD.Value.Kind) (an (cmp .eql aB.Value.Num aD.Value.Num) (an (scmp .eql aB.Value.Text aD.Value.Text) true))))) (cmp .neq (Ar.len aB.dD) (Ar.len aD.dD))then some false else(loopN (fun(s1:Int)=>(if cmp .lss s1 (Ar.len aB.dD)then(C5 aB.dD s1).bind fun x3=>(C5 aD.dD s1).bind fun x4=>(Ch N n x3 x4).bind fun r5=>if nt r5 then some (.inr (.inr ()))else some (.inl (ar .add .i64 s1 1))else some (.inr (.inl ())):Option ((Int)⊕(Unit⊕Unit)))) N 0).bind fun s2=>match s2 with
   | .inl y6=>some true
   | .inr y7=>some false
def S4 (N:Nat)(bR:Bool)(aR:Int):Option Bool:=some (Ar.or bR (cmp .eql aR 0))
def Ah (N:Nat) (aA:A0):Option Int:=if Ar.or (cmp .lss aA.Op 0) (cmp .geq aA.Op 11)then some 1 else(C5 K8 aA.Op).bind fun x1=>if Ar.or (cmp .lss (Ar.len aA.dD) x1.dK) (cmp .gtr (Ar.len aA.dD) x1.most)then some 15 else(Al N x1.typed aA.Typ 15).bind fun r2=>if nt r2 then some 2 else(Al N x1.typed aA.Var 15).bind fun r3=>if nt r3 then some 2 else(Al N x1.scope aA.dG 63).bind fun r4=>if nt r4 then some 2 else(Al N x1.span aA.Span 1099511627776).bind fun r5=>if nt r5 then some 2 else((if x1.cond then(Gn N aA.dE).bind fun r7=>if cmp .neq r7 0 then some (.inr r7)else some (.inl ())else some (.inl ())):Option (Unit⊕Int)).bind fun s6=>match s6 with
       | .inl y8=>if nt x1.cond then(Ch N N aA.dE (⟨0,[],0,0,0,(⟨0,0,⟨#[]⟩⟩:A7)⟩:B0)).bind fun r9=>if nt r9 then some 3 else(S4 N x1.typed aA.Typ).bind fun r10=>if nt r10 then some 3 else(S4 N x1.typed aA.Var).bind fun r11=>if nt r11 then some 3 else(S4 N x1.scope aA.dG).bind fun r12=>if nt r12 then some 3 else(S4 N x1.span aA.Span).bind fun r13=>if nt r13 then some 3 else some 0 else(S4 N x1.typed aA.Typ).bind fun r14=>if nt r14 then some 3 else(S4 N x1.typed aA.Var).bind fun r15=>if nt r15 then some 3 else(S4 N x1.scope aA.dG).bind fun r16=>if nt r16 then some 3 else(S4 N x1.span aA.Span).bind fun r17=>if nt r17 then some 3 else some 0
       | .inr y18=>some y18
def R0 (N:Nat) (aA:A0):Option Int:=(AO N N aA).bind fun r2=>if cmp .gtr r2.1 64 then some 5 else if cmp .gtr r2.2 12 then some 12 else(Ac N aA).bind fun r3=>(K9 (fun(s6:Unit) (y5:A0)=>((Ah N y5).bind fun r10=>if cmp .neq r10 0 then some (.inr r10)else some (.inl ()):Option ((Unit)⊕(Int)))) r3 ()).bind fun o9=>match o9 with
   | .inl s13=>some 0
   | .inr y14=>some y14
def El (N:Nat) (aA:A0):Option Int:=(R0 N aA).bind fun r2=>if cmp .neq r2 0 then some r2 else(Ac N aA).bind fun r3=>(K9 (fun(s6:Unit) (y5:A0)=>(if cmp .geq y5.Op 8 then some (.inr 1)else some (.inl ()):Option ((Unit)⊕(Int)))) r3 ()).bind fun o9=>match o9 with
  | .inl s12=>some 0
  | .inr y13=>some y13
def Er (N:Nat)(aA:A0):Option (Int×Int×Bool):=(Ac N aA).bind fun r4=>(K9 (fun(s7:Bool×Int×Int) (y6:A0)=>((C5 K8 y6.Op).bind fun x11=>((if x11.typed then some (an s7.1 (cmp .eql y6.Var s7.2.2),ar .add .i64 s7.2.2 1)else some (s7.1,s7.2.2)):Option ((Bool×Int))).bind fun s12=>if x11.scope then some (.inl (an s12.1 (cmp .eql y6.dG s7.2.1),ar .add .i64 s7.2.1 1,s12.2))else some (.inl (s12.1,s7.2.1,s12.2)):Option ((Bool×Int×Int)⊕(Unit)))) r4 (true,0,0)).bind fun o10=>match o10 with
 | .inl s15=>some (s15.2.2,s15.2.1,s15.1)
 | .inr _=>none
def BR (N:Nat)(aA:A0):Option Int:=(El N aA).bind fun r1=>if cmp .neq r1 0 then some r1 else(Er N aA).bind fun r2=>if nt r2.2.2 then some 14 else some 0
def HF (N:Nat)(aG:List A7):Option Bool:=(loopN (fun(s1:Int)=>(if an (cmp .lss s1 (Ar.len aG)) (cmp .lss s1 40)then(C5 aG s1).bind fun x3=>if cmp .gtr (slen x3.Text) 128 then some (.inr (.inr ()))else some (.inl (ar .add .i64 s1 1))else some (.inr (.inl ())):Option ((Int)⊕(Unit⊕Unit)))) N 0).bind fun s2=>match s2 with
 | .inl y4=>some (cmp .lss (Ar.len aG) 40)
 | .inr y5=>some false
def JR (N:Nat)(aG:List B3):Option Bool:=(loopN (fun(s1:Int)=>(if an (cmp .lss s1 (Ar.len aG)) (cmp .lss s1 20)then(C5 aG s1).bind fun x3=>if cmp .gtr (Ar.len x3.Values) 12 then some (.inr (.inr ()))else(C5 aG s1).bind fun x4=>(HF N x4.Values).bind fun r5=>if nt r5 then some (.inr (.inr ()))else some (.inl (ar .add .i64 s1 1))else some (.inr (.inl ())):Option ((Int)⊕(Unit⊕Unit)))) N 0).bind fun s2=>match s2 with
 | .inl y6=>some (cmp .leq (Ar.len aG) 12)
 | .inr y7=>some false
def CV (N:Nat)(aC:B3):Option Kb:=some (⟨aC.Time,aC.Source,aC.Seq⟩:Kb)
def Hx (N:Nat)(aC:B3):Option Bool:=some (an (an (an (an (an (cmp .geq aC.Time 0) (cmp .leq aC.Time 1099511627776)) (cmp .geq aC.Source 0)) (cmp .lss aC.Source 8)) (cmp .geq aC.Seq 0)) (cmp .leq aC.Seq 1099511627776))
def Fg (N:Nat)(aB:Kb)(aD:Kb):Option Int:=if cmp .neq aB.Time aD.Time then if cmp .lss aB.Time aD.Time then some (-1)else some 1 else if cmp .neq aB.Source aD.Source then if cmp .lss aB.Source aD.Source then some (-1)else some 1 else if cmp .lss aB.Seq aD.Seq then some (-1)else if cmp .gtr aB.Seq aD.Seq then some 1 else some 0
def Gg (N:Nat)(aB:B3)(aD:B3):Option Bool:=some (an (cmp .eql aB.Source aD.Source) (cmp .eql aB.Seq aD.Seq))
def GY (N:Nat) (aG:List B3):Option Int:=if cmp .gtr (Ar.len aG) 4096 then some 5 else(loopN (fun(s1:Int)=>(if cmp .lss s1 (Ar.len aG)then(C5 aG s1).bind fun x3=>(Hx N x3).bind fun r4=>if nt r4 then some (.inr (.inr 2))else if cmp .gtr s1 0 then(C5 aG (ar .sub .i64 s1 1)).bind fun x5=>(CV N x5).bind fun r6=>(C5 aG s1).bind fun x7=>(CV N x7).bind fun r8=>(Fg N r6 r8).bind fun r9=>if cmp .geq r9 0 then some (.inr (.inr 14))else(loopN (fun(s10:Int)=>(if cmp .lss s10 s1 then(C5 aG s10).bind fun x12=>(C5 aG s1).bind fun x13=>(Gg N x12 x13).bind fun r14=>if r14 then some (.inr (.inr ()))else some (.inl (ar .add .i64 s10 1))else some (.inr (.inl ())):Option ((Int)⊕(Unit⊕Unit)))) N 0).bind fun s11=>match s11 with
         | .inl y15=>some (.inl (ar .add .i64 s1 1))
         | .inr y16=>some (.inr (.inr 7))else(loopN (fun(s17:Int)=>(if cmp .lss s17 s1 then(C5 aG s17).bind fun x19=>(C5 aG s1).bind fun x20=>(Gg N x19 x20).bind fun r21=>if r21 then some (.inr (.inr ()))else some (.inl (ar .add .i64 s17 1))else some (.inr (.inl ())):Option ((Int)⊕(Unit⊕Unit)))) N 0).bind fun s18=>match s18 with
        | .inl y22=>some (.inl (ar .add .i64 s1 1))
        | .inr y23=>some (.inr (.inr 7))else some (.inr (.inl ())):Option ((Int)⊕(Unit⊕Int)))) N 0).bind fun s2=>match s2 with
  | .inl y24=>some 0
  | .inr y25=>some y25
def M0 (N:Nat)(aH:List A0)(aW:A0→Option Bool):Option Int:=(loopN (fun(s1:Int)=>(if cmp .lss s1 (Ar.len aH)then(C5 aH s1).bind fun x3=>(aW x3).bind fun r4=>if r4 then some (.inr (.inr s1))else some (.inl (ar .add .i64 s1 1))else some (.inr (.inl ())):Option ((Int)⊕(Unit⊕Int)))) N 0).bind fun s2=>match s2 with
 | .inl y5=>some (-1)
 | .inr y6=>some y6
def J3 (N:Nat) (aX:List A0) (bB:List A0) (bS:A0→A0→Option Bool):Option Bool:=if cmp .neq (Ar.len aX) (Ar.len bB)then some false else(loopN (fun(s1:Int)=>(if cmp .lss s1 (Ar.len aX)then(C5 aX s1).bind fun x3=>(C5 bB s1).bind fun x5=>(bS x3 x5).bind fun r6=>if nt r6 then some (.inr (.inr ()))else some (.inl (ar .add .i64 s1 1))else some (.inr (.inl ())):Option ((Int)⊕(Unit⊕Unit)))) N 0).bind fun s2=>match s2 with
  | .inl y7=>some true
  | .inr y8=>some false
def CH (N:Nat):Nat→A0→A0→Option Bool
 |0,_,_=>none
 |n+1,aB,aD=>if Ar.or (Ar.or (Ar.or (Ar.or (cmp .neq aB.Op aD.Op) (cmp .neq aB.Typ aD.Typ)) (cmp .neq aB.Var aD.Var)) (cmp .neq aB.dG aD.dG)) (cmp .neq aB.Span aD.Span)then some false else(Ch N N aB.dE aD.dE).bind fun r1=>if nt r1 then some false else(J3 N aB.dD aD.dD (fun y1 y2=>CH N n y1 y2)).bind fun r2=>some r2
def Bk (N:Nat)(cI:A0)(aF:A0):Option Bool:=(CH N N aF cI).bind fun r1=>some r1
def Ad (N:Nat)(aG:List A0)(aA:A0):Option Int:=(M0 N aG (fun y1=>Bk N y1 aA)).bind fun r1=>some r1
def CL (N:Nat)(aF:A0):Option (List (D7×A6)):=((J2 (some ([((⟨0,0,aF.Var,aF.Typ,aF.dE,[],[],[],[],[]⟩:D7),(⟨true,(⟨0,[],0,0,0,0,(⟨0,[],0,0,0,(⟨0,0,⟨#[]⟩⟩:A7)⟩:B0)⟩:A0)⟩:A6))],())) fun _=>some ([],())):Option (List (D7×A6)×Unit)).bind fun q=>some q.1
def L7 (N:Nat)(aH:List A0):Option (List A0):=(N6 [] aH).bind fun l=>some l
def S9 (N:Nat)(aH:List A0)(aQ:Int)(aI:List A0):Option (List A0):=(OQ aH aQ aI).bind fun l=>some l
def AD (N:Nat)(aK:Int)(bN:List A0):Option A0:=if cmp .eql (Ar.len bN) 1 then(C5 bN 0).bind fun x2=>some x2 else some (⟨aK,bN,0,0,0,0,(⟨0,[],0,0,0,(⟨0,0,⟨#[]⟩⟩:A7)⟩:B0)⟩:A0)
def Aq (N:Nat)(bJ:A6)(cJ:List A0):Option A6:=(L7 N cJ).bind fun l2=>((if nt bJ.done then(S9 N l2 0 ([bJ.p])).bind fun l5=>some l5 else some l2):Option (((List A0)))).bind fun s4=>if cmp .eql (Ar.len s4) 0 then some (⟨true,(⟨0,[],0,0,0,0,(⟨0,[],0,0,0,(⟨0,0,⟨#[]⟩⟩:A7)⟩:B0)⟩:A0)⟩:A6)else(AD N 1 s4).bind fun r8=>some (⟨false,r8⟩:A6)
def T3 (N:Nat)(aH:List A0)(aQ bU:Int):Option (List A0):=(Pf aH aQ bU).bind fun l=>some l
def BE (N:Nat)(bN:List A0)(bG:Int)(bJ:A6):Option A6:=(L7 N bN).bind fun l2=>if bJ.done then(T3 N l2 bG (ar .add .i64 bG 1)).bind fun l4=>(AD N 3 l4).bind fun r6=>some (⟨false,r6⟩:A6)else(req (inR l2 bG)).bind fun _=>(Kg l2 bG (fun x7:A0=>bJ.p)).bind fun l8=>(AD N 3 l8).bind fun r9=>some (⟨false,r9⟩:A6)
def CD (N:Nat)(aH:List B0)(aR:Int):Option (List B0):=SP aH aR
def V2 (N:Nat)(aZ:List (List B0)):Option (List B0):=(loopN (fun(s1:Int×Int)=>(if cmp .lss s1.2 (Ar.len aZ)then(C5 aZ s1.2).bind fun x3=>if cmp .lss (ar .add .i64 s1.1 (Ar.len x3)) 0 then none else some (.inl (ar .add .i64 s1.1 (Ar.len x3),ar .add .i64 s1.2 1))else some (.inr s1.1):Option ((Int×Int)⊕(Int)))) N (0,0)).bind fun s2=>(CD N [] s2).bind fun l4=>(loopN (fun(s6:Int×(List B0))=>(if cmp .lss s6.1 (Ar.len aZ)then(C5 aZ s6.1).bind fun x9=>(N6 s6.2 x9).bind fun l11=>some (.inl (ar .add .i64 s6.1 1,l11))else some (.inr s6.2):Option ((Int×(List B0))⊕(((List B0)))))) N (0,l4)).bind fun s8=>some s8
def DC (N:Nat)(aH:List Int)(aR:Int):Option (List Int):=SP aH aR
def T4 (N:Nat)(aZ:List (List Int)):Option (List Int):=(loopN (fun(s1:Int×Int)=>(if cmp .lss s1.2 (Ar.len aZ)then(C5 aZ s1.2).bind fun x3=>if cmp .lss (ar .add .i64 s1.1 (Ar.len x3)) 0 then none else some (.inl (ar .add .i64 s1.1 (Ar.len x3),ar .add .i64 s1.2 1))else some (.inr s1.1):Option ((Int×Int)⊕(Int)))) N (0,0)).bind fun s2=>(DC N [] s2).bind fun l4=>(loopN (fun(s6:Int×(List Int))=>(if cmp .lss s6.1 (Ar.len aZ)then(C5 aZ s6.1).bind fun x9=>(N6 s6.2 x9).bind fun l11=>some (.inl (ar .add .i64 s6.1 1,l11))else some (.inr s6.2):Option ((Int×(List Int))⊕(((List Int)))))) N (0,l4)).bind fun s8=>some s8
def BQ (N:Nat)(aH:List As)(aR:Int):Option (List As):=SP aH aR
def X1 (N:Nat)(aZ:List (List As)):Option (List As):=(loopN (fun(s1:Int×Int)=>(if cmp .lss s1.2 (Ar.len aZ)then(C5 aZ s1.2).bind fun x3=>if cmp .lss (ar .add .i64 s1.1 (Ar.len x3)) 0 then none else some (.inl (ar .add .i64 s1.1 (Ar.len x3),ar .add .i64 s1.2 1))else some (.inr s1.1):Option ((Int×Int)⊕(Int)))) N (0,0)).bind fun s2=>(BQ N [] s2).bind fun l4=>(loopN (fun(s6:Int×(List As))=>(if cmp .lss s6.1 (Ar.len aZ)then(C5 aZ s6.1).bind fun x9=>(N6 s6.2 x9).bind fun l11=>some (.inl (ar .add .i64 s6.1 1,l11))else some (.inr s6.2):Option ((Int×(List As))⊕(((List As)))))) N (0,l4)).bind fun s8=>some s8
def U7 (N:Nat)(aA:A0)(aM:D7)(cD:Bool)(cP:Bool):Option D7:=((if cP then(T4 N ([[aA.dG],aM.dM])).bind fun r4=>some ({aM with dM:=r4})else some aM):Option (D7)).bind fun s3=>((if Ar.or (cmp .eql aA.Op 5) (cmp .eql aA.Op 9)then(T4 N ([[aA.dG],s3.dL])).bind fun r6=>some ({s3 with dL:=r6})else(X1 N ([[(⟨aA.dG,aA.Span⟩:As)],s3.dN])).bind fun r7=>some ({s3 with dN:=r7})):Option (D7)).bind fun s5=>if cD then(T4 N ([s5.dJ,[aA.dG]])).bind fun r8=>some ({s5 with dJ:=r8})else some s5
def BC (N:Nat)(aA:A0)(aK:Int)(cK:A0):Option A0:=some ({aA with Op:=aK,dD:=[cK]})
mutual
def M5 (N:Nat):Nat→A0→Option (List (D7×A6))
 |0,_=>none
 |n+1,aA=>if cmp .eql aA.Op 0 then CL N aA else((if cmp .eql aA.Op 1 then some true else if cmp .eql aA.Op 2 then some true else some (cmp .eql aA.Op 3)):Option (Bool)).bind fun s1=>if s1 then(AK N n aA).bind fun r2=>some r2 else if cmp .eql aA.Op 4 then(C5 aA.dD 0).bind fun x4=>(U3 N n x4 aA).bind fun r5=>some r5 else if cmp .eql aA.Op 8 then(C5 aA.dD 0).bind fun x7=>(Bg aA.dD (some 1) (some 2) (some 2)).bind fun l8=>(U3 N n x7 (⟨4,l8,0,0,0,0,(⟨0,[],0,0,0,(⟨0,0,⟨#[]⟩⟩:A7)⟩:B0)⟩:A0)).bind fun r9=>some r9 else(Ci N n aA).bind fun r11=>some r11
def AK (N:Nat):Nat→A0→Option (List (D7×A6))
 |0,_=>none
 |n+1,aA=>Z0 N n aA
def U3 (N:Nat):Nat→A0→A0→Option (List (D7×A6))
 |0,_,_=>none
 |n+1,bP,bV=>V1 N n bP bV
def Ci (N:Nat):Nat→A0→Option (List (D7×A6))
 |0,_=>none
 |n+1,aA=>Bj N n aA
def Z0 (N:Nat):Nat→A0→Option (List (D7×A6))
 |0,_=>none
 | n + 1,aF=>((J2 (W2 (fun(s2:Int)=>(if cmp .lss s2 (Ar.len aF.dD)then(C5 aF.dD s2).bind fun x8=>if an (cmp .eql aF.Op 1) (cmp .gtr s2 0)then some ([],.inr (.inr ()))else(M5 N n x8).bind fun r11=>J2 (Ca (fun(_:Unit) (y13:(D7×A6))=>(J2 ((if cmp .eql aF.Op 1 then(Bg aF.dD (some 1) none none).bind fun l25=>(Aq N y13.2 l25).bind fun r27=>some ([],r27)else if cmp .eql aF.Op 3 then(BE N aF.dD s2 y13.2).bind fun r28=>some ([],r28)else some ([],y13.2)):Option (List (D7×A6)×(A6))) fun s22=>J2 (some ([(y13.1,s22)],())) fun _=>some ([],.inl ()):Option (List (D7×A6)×(Unit⊕Unit)))) r11 ()) fun o20=>match o20 with
        | .inl _=>some ([],.inl (ar .add .i64 s2 1))
        | .inr _=>none else some ([],.inr (.inl ())):Option (List (D7×A6)×((Int)⊕(Unit⊕Unit))))) N 0) fun s7=>match s7 with
   | .inl y31=>some ([],())
   | .inr y32=>some ([],())):Option (List (D7×A6)×Unit)).bind fun q=>some q.1
def V1 (N:Nat):Nat→A0→A0→Option (List (D7×A6))
 |0,_,_=>none
 | n+1,aF,aJ=>(((M5 N n aF).bind fun r1=>J2 (Ca (fun(_:Unit) (y3:(D7×A6))=>(if nt y3.2.done then(C5 aJ.dD 0).bind fun x11=>J2 (some ([(y3.1,(⟨false,(⟨8,[y3.2.p,x11],0,0,0,0,(⟨0,[],0,0,0,(⟨0,0,⟨#[]⟩⟩:A7)⟩:B0)⟩:A0)⟩:A6))],())) fun _=>some ([],.inl ())else J2 (some ([(y3.1,y3.2)],())) fun _=>J2 (some ([(y3.1,(⟨false,aJ⟩:A6))],())) fun _=>some ([],.inl ()):Option (List (D7×A6)×(Unit⊕Unit)))) r1 ()) fun o10=>match o10 with
   | .inl _=>some ([],())
   | .inr _=>none):Option (List (D7×A6)×Unit)).bind fun q=>some q.1
def Bj (N:Nat):Nat→A0→Option (List (D7×A6))
 |0,_=>none
 | n+1,aF=>(((C5 aF.dD 0).bind fun x1=>(M5 N n x1).bind fun r2=>J2 (Ca (fun(_:Unit) (y4:(D7×A6))=>(J2 ((if cmp .eql aF.Op 7 then if y4.2.done then(V2 N ([y4.1.dH,[aF.dE]])).bind fun r17=>some ([],(aF.Op,{y4.1 with dH:=r17}))else some ([],(aF.Op,y4.1))else J2 ((if cmp .eql aF.Op 5 then some ([],true)else some ([],cmp .eql aF.Op 9)):Option (List (D7×A6)×(Bool))) fun s18=>if s18 then(U7 N aF y4.1 y4.2.done (cmp .eql aF.Op 5)).bind fun r21=>some ([],(9,r21))else(U7 N aF y4.1 y4.2.done (cmp .eql aF.Op 6)).bind fun r22=>some ([],(10,r22))):Option (List (D7×A6)×((Int×D7)))) fun s14=>J2 ((if nt y4.2.done then(BC N aF s14.1 y4.2.p).bind fun r26=>some ([],{y4.2 with p:=r26})else some ([],y4.2)):Option (List (D7×A6)×(A6))) fun s23=>J2 (some ([(s14.2,s23)],())) fun _=>some ([],.inl ()):Option (List (D7×A6)×(Unit⊕Unit)))) r2 ()) fun o11=>match o11 with
   | .inl _=>some ([],())
   | .inr _=>none):Option (List (D7×A6)×Unit)).bind fun q=>some q.1
end
def Q8 (N:Nat)(aH:List D7)(aW:D7→Option Bool):Option Int:=(loopN (fun(s1:Int)=>(if cmp .lss s1 (Ar.len aH)then(C5 aH s1).bind fun x3=>(aW x3).bind fun r4=>if r4 then some (.inr (.inr s1))else some (.inl (ar .add .i64 s1 1))else some (.inr (.inl ())):Option ((Int)⊕(Unit⊕Int)))) N 0).bind fun s2=>match s2 with
 | .inl y5=>some (-1)
 | .inr y6=>some y6
def I9 (N:Nat)(aH:List D7)(aW:D7→Option Bool):Option Bool:=(Q8 N aH aW).bind fun r1=>some (cmp .geq r1 0)
def K2 (N:Nat) (aX:List Int) (bB:List Int):Option Bool:=if cmp .neq (Ar.len aX) (Ar.len bB)then some false else(loopN (fun(s1:Int)=>(if cmp .lss s1 (Ar.len aX)then(C5 aX s1).bind fun x3=>(C5 bB s1).bind fun x4=>if cmp .neq x3 x4 then some (.inr (.inr ()))else some (.inl (ar .add .i64 s1 1))else some (.inr (.inl ())):Option ((Int)⊕(Unit⊕Unit)))) N 0).bind fun s2=>match s2 with
  | .inl y5=>some true
  | .inr y6=>some false
def O5 (N:Nat) (aX:List As) (bB:List As):Option Bool:=if cmp .neq (Ar.len aX) (Ar.len bB)then some false else(loopN (fun(s1:Int)=>(if cmp .lss s1 (Ar.len aX)then(C5 aX s1).bind fun x3=>(C5 bB s1).bind fun x4=>if nt (an (cmp .eql x3.dG x4.dG) (an (cmp .eql x3.Span x4.Span) true))then some (.inr (.inr ()))else some (.inl (ar .add .i64 s1 1))else some (.inr (.inl ())):Option ((Int)⊕(Unit⊕Unit)))) N 0).bind fun s2=>match s2 with
  | .inl y5=>some true
  | .inr y6=>some false
def J8 (N:Nat) (aX:List B0) (bB:List B0) (bS:B0→B0→Option Bool):Option Bool:=if cmp .neq (Ar.len aX) (Ar.len bB)then some false else(loopN (fun(s1:Int)=>(if cmp .lss s1 (Ar.len aX)then(C5 aX s1).bind fun x3=>(C5 bB s1).bind fun x5=>(bS x3 x5).bind fun r6=>if nt r6 then some (.inr (.inr ()))else some (.inl (ar .add .i64 s1 1))else some (.inr (.inl ())):Option ((Int)⊕(Unit⊕Unit)))) N 0).bind fun s2=>match s2 with
  | .inl y7=>some true
  | .inr y8=>some false
def AJ (N:Nat)(aB:D7)(aD:D7):Option Bool:=if an (cmp .eql aB.Var aD.Var) (cmp .eql aB.Typ aD.Typ)then(Ch N N aB.dE aD.dE).bind fun r1=>if r1 then(K2 N aB.dM aD.dM).bind fun r2=>if r2 then(K2 N aB.dJ aD.dJ).bind fun r3=>if r3 then(J8 N aB.dH aD.dH (fun y1 y2=>Ch N N y1 y2)).bind fun r4=>if r4 then(O5 N aB.dN aD.dN).bind fun r5=>if r5 then(K2 N aB.dL aD.dL).bind fun r6=>some r6 else some false else some false else some false else some false else some false else some false
def M7 (N:Nat)(bE:D7)(aF:D7):Option Bool:=if cmp .eql aF.To bE.To then(AJ N aF bE).bind fun r1=>some r1 else some false
def Ae (N:Nat) (aA:A0):Option ((List D7)×(List A0)×Int):=(M5 N N aA).bind fun r6=>(K9 (fun(s9:(List A0)×(List D7)) (y8:(D7×A6))=>(((if nt y8.2.done then(Ad N s9.1 y8.2.p).bind fun r17=>if cmp .lss r17 0 then(R0 N y8.2.p).bind fun r18=>if cmp .neq r18 0 then some (.inr ({y8.1 with To:=r17},17))else(N6 s9.1 ([y8.2.p])).bind fun l20=>some (.inl ({y8.1 with To:=Ar.len s9.1},l20))else some (.inl ({y8.1 with To:=r17},s9.1))else some (.inl ({y8.1 with To:=(-1)},s9.1))):Option ((D7×(List A0))⊕(D7×Int))).bind fun s16=>match s16 with
   | .inl y21=>(I9 N s9.2 (fun y1=>M7 N y1 y21.1)).bind fun r23=>if r23 then some (.inl (y21.2,s9.2))else(N6 s9.2 ([y21.1])).bind fun l25=>if cmp .gtr (Ar.len l25) 2048 then some (.inr (y21.2,l25,17))else some (.inl (y21.2,l25))
   | .inr y26=>some (.inr (s9.1,s9.2,y26.2)):Option (((List A0)×(List D7))⊕(((List A0)×(List D7)×Int))))) r6 ([],[])).bind fun o14=>match o14 with
 | .inl s31=>some (s31.2,s31.1,0)
 | .inr y34=>some ([],[],y34.2.2)
def R5 (N:Nat)(aA:A0):Option ((List D7)×(List A0)×Int):=(R0 N aA).bind fun r1=>if cmp .neq r1 0 then some ([],[],r1)else(Ae N aA).bind fun r2=>some (r2.1,r2.2.1,r2.2.2)
def EI (N:Nat)(aK:Int)(bN:List A0):Option A0:=some (⟨aK,bN,0,0,0,0,(⟨0,[],0,0,0,(⟨0,0,⟨#[]⟩⟩:A7)⟩:B0)⟩:A0)
def X6 (N:Nat)(aD:Bool):Option A7:=if aD then some (⟨1,1,⟨#[]⟩⟩:A7)else some (⟨1,0,⟨#[]⟩⟩:A7)
def Ji (N:Nat):Option B0:=(X6 N true).bind fun r2=>some (⟨0,[],0,0,0,r2⟩:B0)
def AV (N:Nat)(aI:Int):Option A0:=(Ji N).bind fun r2=>some (⟨0,[],0,aI,0,0,r2⟩:A0)
def BF (N:Nat) (aA:A0):Option ((List A0)×Int):=(BR N aA).bind fun r1=>if cmp .neq r1 0 then some ([],r1)else(loopN (fun(s2:(List A0)×Int)=>(if cmp .lss s2.2 (Ar.len s2.1)then(C5 s2.1 s2.2).bind fun x5=>(Ae N x5).bind fun r6=>if cmp .neq r6.2.2 0 then some (.inr (.inr r6.2.2))else(loopN (fun(s7:(List A0)×Int)=>(if cmp .lss s7.2 (Ar.len r6.2.1)then(C5 r6.2.1 s7.2).bind fun x10=>(Ad N s7.1 x10).bind fun r11=>if cmp .lss r11 0 then(N6 s7.1 ([x10])).bind fun l13=>some (.inl (l13,ar .add .i64 s7.2 1))else some (.inl (s7.1,ar .add .i64 s7.2 1))else some (.inr s7.1):Option (((List A0)×Int)⊕(((List A0)))))) N (s2.1,0)).bind fun s9=>if cmp .gtr (Ar.len s9) 256 then some (.inr (.inr 17))else some (.inl (s9,ar .add .i64 s2.2 1))else some (.inr (.inl s2.1)):Option (((List A0)×Int)⊕(((List A0))⊕Int)))) N ([aA],0)).bind fun s4=>match s4 with
  | .inl y15=>some (y15,0)
  | .inr y17=>some ([],y17)
def X9 (N:Nat):Nat→A0→Option (List Iv)
 |0,_=>none
 |n+1,aA=>((if cmp .eql aA.Op 1 then some true else some (cmp .eql aA.Op 8)):Option (Bool)).bind fun s1=>if s1 then(C5 aA.dD 0).bind fun x2=>(X9 N n x2).bind fun r3=>some r3 else if cmp .eql aA.Op 3 then(loopN (fun(s4:(List Iv)×Int)=>(if cmp .lss s4.2 (Ar.len aA.dD)then(C5 aA.dD s4.2).bind fun x7=>(X9 N n x7).bind fun r8=>(N6 s4.1 r8).bind fun l10=>some (.inl (l10,ar .add .i64 s4.2 1))else some (.inr s4.1):Option (((List Iv)×Int)⊕(((List Iv)))))) N ([],0)).bind fun s6=>some s6 else if cmp .eql aA.Op 9 then(N6 ([]) ([(⟨aA.dG,aA.Typ,aA.Var,aA.dE⟩:Iv)])).bind fun l13=>(C5 aA.dD 0).bind fun x14=>(X9 N n x14).bind fun r15=>(N6 l13 r15).bind fun l17=>some l17 else((if cmp .eql aA.Op 10 then some true else some (cmp .eql aA.Op 7)):Option (Bool)).bind fun s18=>if s18 then(C5 aA.dD 0).bind fun x19=>(X9 N n x19).bind fun r20=>some r20 else some ([])
def FJ (N:Nat)(aA:A0):Option ((List Iv)×Int):=(R0 N aA).bind fun r1=>if cmp .neq r1 0 then some ([],r1)else(X9 N N aA).bind fun r2=>some (r2,0)
def X5 (N:Nat):Nat→B0→B0→Option Bool
 |0,_,_=>none
 | n+1,aB,aD=>if Ar.or (Ar.or (Ar.or (Ar.or (Ar.or (cmp .neq aB.Op aD.Op) (cmp .neq aB.Var aD.Var)) (cmp .neq aB.Field aD.Field)) (cmp .neq aB.Kind aD.Kind)) (nt (an (cmp .eql aB.Value.Kind aD.Value.Kind) (an (cmp .eql aB.Value.Num aD.Value.Num) (an (scmp .eql aB.Value.Text aD.Value.Text) true))))) (cmp .neq (Ar.len aB.dD) (Ar.len aD.dD))then some false else(loopN (fun(s1:Int)=>(if cmp .lss s1 (Ar.len aB.dD)then(C5 aB.dD s1).bind fun x3=>(C5 aD.dD s1).bind fun x4=>(X5 N n x3 x4).bind fun r5=>if nt r5 then some (.inr (.inr ()))else some (.inl (ar .add .i64 s1 1))else some (.inr (.inl ())):Option ((Int)⊕(Unit⊕Unit)))) N 0).bind fun s2=>match s2 with
   | .inl y6=>some true
   | .inr y7=>some false
def Kk (N:Nat):Nat→A0→A0→Option Bool
 |0,_,_=>none
 | n+1,aB,aD=>if Ar.or (Ar.or (Ar.or (Ar.or (cmp .neq aB.Op aD.Op) (cmp .neq aB.Typ aD.Typ)) (cmp .neq aB.Var aD.Var)) (cmp .neq aB.dG aD.dG)) (cmp .neq aB.Span aD.Span)then some false else(X5 N N aB.dE aD.dE).bind fun r1=>if Ar.or (nt r1) (cmp .neq (Ar.len aB.dD) (Ar.len aD.dD))then some false else(loopN (fun(s2:Int)=>(if cmp .lss s2 (Ar.len aB.dD)then(C5 aB.dD s2).bind fun x4=>(C5 aD.dD s2).bind fun x5=>(Kk N n x4 x5).bind fun r6=>if nt r6 then some (.inr (.inr ()))else some (.inl (ar .add .i64 s2 1))else some (.inr (.inl ())):Option ((Int)⊕(Unit⊕Unit)))) N 0).bind fun s3=>match s3 with
    | .inl y7=>some true
    | .inr y8=>some false
def GC (N:Nat) (aB:List A0) (aD:List A0):Option Bool:=if cmp .neq (Ar.len aB) (Ar.len aD)then some false else(loopN (fun(s1:Int)=>(if cmp .lss s1 (Ar.len aB)then(C5 aB s1).bind fun x3=>(C5 aD s1).bind fun x4=>(Kk N N x3 x4).bind fun r5=>if nt r5 then some (.inr (.inr ()))else some (.inl (ar .add .i64 s1 1))else some (.inr (.inl ())):Option ((Int)⊕(Unit⊕Unit)))) N 0).bind fun s2=>match s2 with
  | .inl y6=>some true
  | .inr y7=>some false
def AW (N:Nat):Option Bool:=(AV N 0).bind fun r1=>(AV N 1).bind fun r2=>(EI N 1 ([r1,r2])).bind fun r3=>(R5 N r3).bind fun r4=>(AV N 0).bind fun r5=>(EI N 4 ([r5])).bind fun r6=>(R5 N r6).bind fun r7=>(AV N 0).bind fun r8=>(AV N 1).bind fun r9=>(EI N 1 ([r8,r9])).bind fun r10=>(BF N (⟨6,[r10],0,0,0,5,(⟨0,[],0,0,0,(⟨0,0,⟨#[]⟩⟩:A7)⟩:B0)⟩:A0)).bind fun r11=>(R5 N (⟨6,[r10],0,0,0,5,(⟨0,[],0,0,0,(⟨0,0,⟨#[]⟩⟩:A7)⟩:B0)⟩:A0)).bind fun r12=>(Ji N).bind fun r13=>(AV N 1).bind fun r14=>(EI N 4 ([r14])).bind fun r15=>(BF N (⟨5,[r15],2,0,0,0,r13⟩:A0)).bind fun r16=>(R5 N (⟨5,[r15],2,0,0,0,r13⟩:A0)).bind fun r17=>if Ar.or (Ar.or (Ar.or (Ar.or (Ar.or (Ar.or (Ar.or (Ar.or (Ar.or (Ar.or (Ar.or (cmp .neq r4.2.2 0) (cmp .neq r7.2.2 0)) (cmp .neq r11.2 0)) (cmp .neq r12.2.2 0)) (cmp .neq r16.2 0)) (cmp .neq r17.2.2 0)) (cmp .neq (Ar.len r4.1) 1)) (cmp .neq (Ar.len r7.1) 2)) (cmp .neq (Ar.len r12.1) 1)) (cmp .neq (Ar.len r17.1) 2)) (cmp .neq (Ar.len r11.1) 2)) (cmp .neq (Ar.len r16.1) 2)then some false else(C5 r16.1 1).bind fun x18=>(FJ N x18).bind fun r19=>if Ar.or (cmp .neq r19.2 0) (cmp .neq (Ar.len r19.1) 1)then some false else(C5 r19.1 0).bind fun x20=>if cmp .neq x20.Typ 2 then some false else(C5 r16.1 1).bind fun x21=>if cmp .neq x21.Op 9 then some false else(C5 r11.1 1).bind fun x22=>if cmp .neq x22.Op 10 then some false else(AV N 1).bind fun r23=>(GC N r4.2.1 ([r23])).bind fun r24=>if nt r24 then some false else(AV N 0).bind fun r25=>(EI N 4 ([r25])).bind fun r26=>(GC N r7.2.1 ([r26])).bind fun r27=>if nt r27 then some false else(C5 r4.1 0).bind fun x28=>if cmp .neq x28.To 0 then some false else(C5 r7.1 0).bind fun x29=>if cmp .neq x29.To (-1)then some false else(C5 r7.1 1).bind fun x30=>if cmp .neq x30.To 0 then some false else(C5 r12.1 0).bind fun x31=>(K2 N x31.dM ([0])).bind fun r32=>if r32 then(C5 r12.1 0).bind fun x33=>(O5 N x33.dN ([(⟨0,5⟩:As)])).bind fun r34=>if r34 then(C5 r12.1 0).bind fun x35=>if cmp .eql (Ar.len x35.dJ) 0 then(C5 r17.1 0).bind fun x36=>(K2 N x36.dJ ([0])).bind fun r37=>if r37 then(C5 r17.1 1).bind fun x38=>if cmp .eql (Ar.len x38.dJ) 0 then(C5 r17.1 1).bind fun x39=>(K2 N x39.dL ([0])).bind fun r40=>some r40 else some false else some false else some false else some false else some false
def GB (N:Nat)(aC:B3):Option Bool:=some (an (an (an (an (an (cmp .geq aC.Time 0) (cmp .leq aC.Time 1099511627776)) (cmp .geq aC.Source 0)) (cmp .lss aC.Source 8)) (cmp .geq aC.Seq 0)) (cmp .leq aC.Seq 1099511627776))
def Gq (N:Nat)(aC:B3):Option Kb:=some (⟨aC.Time,aC.Source,aC.Seq⟩:Kb)
def EM (N:Nat)(bW:List Int):Option Int:=(loopN (fun(s1:Int)=>(if cmp .lss s1 (Ar.len bW)then(C5 bW s1).bind fun x3=>if cmp .neq x3 0 then some (.inr (.inr x3))else some (.inl (ar .add .i64 s1 1))else some (.inr (.inl ())):Option ((Int)⊕(Unit⊕Int)))) N 0).bind fun s2=>match s2 with
 | .inl y4=>some 0
 | .inr y5=>some y5
def Eu (N:Nat)(aM:Int):Option Bool:=some (cmp .neq aM aM)
def P2 (N:Nat)(aM:Int)(bE:Int):Option Int:=(Eu N aM).bind fun r1=>(Eu N bE).bind fun r2=>if r1 then if r2 then some 0 else some (-1)else if r2 then some 1 else if cmp .lss aM bE then some (-1)else if cmp .gtr aM bE then some 1 else some 0
def Et (N:Nat)(aB:B3)(aD:B3):Option Int:=(Gq N aB).bind fun r1=>(Gq N aD).bind fun r2=>if an (cmp .eql r1.Time r2.Time) (an (cmp .eql r1.Source r2.Source) (an (cmp .eql r1.Seq r2.Seq) true))then some 0 else(P2 N aB.Time aD.Time).bind fun r3=>(P2 N aB.Source aD.Source).bind fun r4=>(P2 N aB.Seq aD.Seq).bind fun r5=>(EM N ([r3,r4,r5])).bind fun r6=>some r6
def Gc (N:Nat)(aC:B3):Option G0:=some (⟨aC.Source,aC.Seq⟩:G0)
def Fq (N:Nat) (aG:List B3):Option Int:=if cmp .gtr (Ar.len aG) 4096 then some 5 else(loopN (fun(s3:Int×(List (G0×Bool)))=>(if cmp .lss s3.1 (Ar.len aG)then(C5 aG s3.1).bind fun x6=>(GB N x6).bind fun r8=>if nt r8 then some (.inr (.inr (2,s3.2)))else if cmp .gtr s3.1 0 then(C5 aG (ar .sub .i64 s3.1 1)).bind fun x9=>(Et N x9 x6).bind fun r10=>if cmp .geq r10 0 then some (.inr (.inr (14,s3.2)))else(Gc N x6).bind fun r11=>(NW s3.2 r11 (false:Bool)).bind fun r12=>if r12.1 then some (.inr (.inr (7,s3.2)))else(Gc N x6).bind fun r13=>(MS s3.2 r13 true).bind fun l15=>some (.inl (ar .add .i64 s3.1 1,l15))else(Gc N x6).bind fun r16=>(NW s3.2 r16 (false:Bool)).bind fun r17=>if r17.1 then some (.inr (.inr (7,s3.2)))else(Gc N x6).bind fun r18=>(MS s3.2 r18 true).bind fun l20=>some (.inl (ar .add .i64 s3.1 1,l20))else some (.inr (.inl s3.2)):Option ((Int×(List (G0×Bool)))⊕(((List (G0×Bool)))⊕(Int×(List (G0×Bool))))))) N (0,([]:List (G0×Bool)))).bind fun s5=>match s5 with
  | .inl y21=>some 0
  | .inr y23=>some y23.1
def Db (N:Nat):Option Unit:=some ()
def Jx (N:Nat)(aQ:Int):Option ByteArray:=RV aQ
def Be (N:Nat)(bI:List Int)(aQ:Int)(bL:Int):Option (List Int):=if cmp .eql bL 10 then if cmp .lss aQ 100 then(Jx N (wr .i64 aQ)).bind fun r1=>(N6 bI (Qa r1)).bind fun l3=>some l3 else none else none
def BW (N:Nat)(bI:List Int)(aQ:Int)(bL:Int):Option (List Int):=if cmp .lss aQ 0 then(N6 bI ([45])).bind fun l2=>(Be N l2 (neg .u64 (wr .u64 aQ)) bL).bind fun l3=>some l3 else(Be N bI (wr .u64 aQ) bL).bind fun l5=>some l5
def K5 (N:Nat)(bI:List Int)(aQ:Int)(bL:Int):Option (List Int):=(BW N bI aQ bL).bind fun l1=>some l1
def U5 (N:Nat)(aH:List A3):Option ByteArray:=(loopN (fun(s2:Int×(List Int))=>(if cmp .lss s2.1 (Ar.len aH)then(C5 aH s2.1).bind fun x5=>(K5 N s2.2 x5.dI 10).bind fun l6=>(((N6 l6 ([64])).bind fun l90=>(K5 N l90 x5.at_ 10).bind fun l209=>(N6 l209 ([32])).bind fun l290=>some l290):Option (((List Int)))).bind fun s8=>some (.inl (ar .add .i64 s2.1 1,s8))else some (.inr s2.2):Option ((Int×(List Int))⊕(((List Int)))))) N (0,([]:List Int))).bind fun s4=>(Ae1 s4).bind fun r411=>some r411
def X8 (N:Nat)(aR:Int):Option A7:=some (⟨0,aR,⟨#[]⟩⟩:A7)
def Dl (N:Nat)(aB:Int)(aD:Int)(aJ:Int→Option A7):Option A7:=(aJ (ar .add .i64 aB aD)).bind fun r2=>some r2
def Dk (N:Nat)(aB:Int)(aD:Int)(aJ:Int→Option A7):Option A7:=(aJ (ar .sub .i64 aB aD)).bind fun r2=>some r2
def Ke (N:Nat)(aD:Bool):Option A7:=if aD then some (⟨1,1,⟨#[]⟩⟩:A7)else some (⟨1,0,⟨#[]⟩⟩:A7)
def Cg (N:Nat)(aD:Bool):Option A7:=(Ke N aD).bind fun r2=>some r2
def Dj (N:Nat)(aB:Int)(aD:Int):Option A7:=(Cg N (cmp .lss aB aD)).bind fun r2=>some r2
def Di (N:Nat)(aB:Int)(aD:Int):Option A7:=(Cg N (cmp .leq aB aD)).bind fun r2=>some r2
def Dh (N:Nat)(aB:Int)(aD:Int):Option A7:=(Cg N (an (cmp .eql aB 1) (cmp .eql aD 1))).bind fun r2=>some r2
def Dg (N:Nat)(aB:Int)(aD:Int):Option A7:=(Cg N (Ar.or (cmp .eql aB 1) (cmp .eql aD 1))).bind fun r2=>some r2
def Df (N:Nat)(aB:Int)(aF:Int):Option A7:=(Cg N (cmp .neq aB 1)).bind fun r2=>some r2
def KN (N:Nat):Option Unit:=some ()
def V0 (N:Nat)(aM:S6)(aI:Int):Option (List B3):=if Ar.or (cmp .lss aI 0) (cmp .geq aI (Ar.len aM.env.dO))then some ([])else(C5 aM.env.dO aI).bind fun x1=>some x1
def CK (N:Nat)(aC:B3)(bA:Int):Option (A7×Int):=if cmp .geq bA (Ar.len aC.Values)then some ((⟨0,0,⟨#[]⟩⟩:A7),6)else(C5 aC.Values bA).bind fun x2=>some (x2,0)
def Bs (N:Nat)(aS:Int):Option Bool:=some (an (cmp .geq aS 0) (cmp .leq aS 5))
def AE (N:Nat)(aS:Int)(aI:A7):Option Bool:=some (Ar.or (cmp .eql aI.Kind 0) (an (an (cmp .neq aS 1) (cmp .neq aS 2)) (cmp .neq aS 3)))
def V5 (N:Nat)(aS:Int)(aI:A7):Option Int:=(AQ N aI).bind fun r1=>if cmp .neq r1 0 then some r1 else(AE N aS aI).bind fun r2=>if nt r2 then some 9 else some 0
def L4 (N:Nat)(bP:C6)(aG:List A7)(cQ:C6→A7→Option C6):Option C6:=(loopN (fun(s3:Int×C6)=>(if cmp .lss s3.1 (Ar.len aG)then(C5 aG s3.1).bind fun x5=>(cQ s3.2 x5).bind fun r6=>some (.inl (ar .add .i64 s3.1 1,r6))else some (.inr s3.2):Option ((Int×C6)⊕(C6)))) N (0,bP)).bind fun s4=>some s4
def Ee (N:Nat):Option A7:=some (⟨0,0,⟨#[]⟩⟩:A7)
def Ed (N:Nat)(bH:A7)(aF:A7):Option A7:=some (⟨0,ar .add .i64 bH.Num aF.Num,⟨#[]⟩⟩:A7)
def Ec (N:Nat)(bH:A7)(aF:A7):Option A7:=some (⟨0,Ar.mn bH.Num aF.Num,⟨#[]⟩⟩:A7)
def Eb (N:Nat)(bH:A7)(aF:A7):Option A7:=some (⟨0,mx bH.Num aF.Num,⟨#[]⟩⟩:A7)
def Ea (N:Nat)(bH:A7):Option A7:=some bH
def DZ (N:Nat)(bH:A7):Option A7:=some bH
def BH (N:Nat)(aS:Int)(aB:A7)(aD:A7):Option A7:=if cmp .eql aS 0 then(Ee N).bind fun r2=>some r2 else if cmp .eql aS 1 then(Ed N aB aD).bind fun r3=>some r3 else if cmp .eql aS 2 then(Ec N aB aD).bind fun r4=>some r4 else if cmp .eql aS 3 then(Eb N aB aD).bind fun r5=>some r5 else if cmp .eql aS 4 then(Ea N aB).bind fun r6=>some r6 else if cmp .eql aS 5 then(DZ N aD).bind fun r7=>some r7 else none
def DW (N:Nat)(aB:C6)(aD:C6):Option C6:=if cmp .eql aB.Count 0 then some aD else if cmp .eql aD.Count 0 then some aB else(BH N aB.Kind aB.Value aD.Value).bind fun r2=>some (⟨aB.Kind,ar .add .i64 aB.Count aD.Count,r2⟩:C6)
def Ck (N:Nat)(aS:Int)(aI:A7):Option A7:=if cmp .eql aS 0 then some (⟨0,0,⟨#[]⟩⟩:A7)else some aI
def V3 (N:Nat)(aB:C6)(aI:A7)(aJ:Int):Option C6:=(Ck N aJ aI).bind fun r2=>(DW N aB (⟨aJ,1,r2⟩:C6)).bind fun r3=>some r3
def CT (N:Nat)(aB:C6):Option Int:=(Bs N aB.Kind).bind fun r1=>if nt r1 then some 1 else if Ar.or (cmp .lss aB.Count 0) (cmp .gtr aB.Count 4096)then some 2 else if Ar.or (cmp .eql aB.Count 0) (cmp .eql aB.Kind 0)then if nt (an (cmp .eql aB.Value.Kind 0) (an (cmp .eql aB.Value.Num 0) (an (scmp .eql aB.Value.Text (⟨#[]⟩)) true)))then some 3 else some 0 else if cmp .eql aB.Kind 1 then if nt (an (an (an (cmp .eql aB.Value.Kind 0) (scmp .eql aB.Value.Text (⟨#[]⟩:ByteArray))) (cmp .geq aB.Value.Num (neg .i64 (ar .mul .i64 aB.Count 1099511627776)))) (cmp .leq aB.Value.Num (ar .mul .i64 aB.Count 1099511627776)))then some 3 else some 0 else(AQ N aB.Value).bind fun r2=>if cmp .eql r2 0 then(AE N aB.Kind aB.Value).bind fun r3=>if nt r3 then some 3 else some 0 else some 3
def DX (N:Nat)(aB:C6)(bD:A7):Option (A7×Int):=(CT N aB).bind fun r2=>if cmp .neq r2 0 then some ((⟨0,0,⟨#[]⟩⟩:A7),r2)else(V5 N aB.Kind bD).bind fun r3=>if cmp .neq r3 0 then some ((⟨0,0,⟨#[]⟩⟩:A7),r3)else if cmp .eql aB.Kind 0 then some ((⟨0,aB.Count,⟨#[]⟩⟩:A7),0)else if an (cmp .eql aB.Count 0) (cmp .neq aB.Kind 1)then some (bD,0)else some (aB.Value,0)
def FL (N:Nat) (aS:Int) (aG:List A7) (bD:A7):Option (A7×Int):=(Bs N aS).bind fun r2=>if nt r2 then some ((⟨0,0,⟨#[]⟩⟩:A7),1)else if cmp .gtr (Ar.len aG) 4096 then some ((⟨0,0,⟨#[]⟩⟩:A7),5)else(loopN (fun(s3:Int)=>(if cmp .lss s3 (Ar.len aG)then(C5 aG s3).bind fun x5=>(V5 N aS x5).bind fun r6=>if cmp .neq r6 0 then some (.inr (.inr r6))else some (.inl (ar .add .i64 s3 1))else some (.inr (.inl ())):Option ((Int)⊕(Unit⊕Int)))) N 0).bind fun s4=>match s4 with
   | .inl y7=>(L4 N (⟨aS,0,(⟨0,0,⟨#[]⟩⟩:A7)⟩:C6) aG (fun y1 y2=>V3 N y1 y2 aS)).bind fun r8=>(DX N r8 bD).bind fun r9=>some (r9.1,r9.2)
   | .inr y10=>some ((⟨0,0,⟨#[]⟩⟩:A7),y10)
def Ao (N:Nat)(aM:S6)(aC:B0):Option (A7×Int):=(V0 N aM aC.Var).bind fun r2=>(loopN (fun(s3:(List A7)×Int)=>(if cmp .lss s3.2 (Ar.len r2)then(C5 r2 s3.2).bind fun x6=>(CK N x6 aC.Field).bind fun r7=>if cmp .neq r7.2 0 then some (.inr (.inr r7.2))else(N6 s3.1 ([r7.1])).bind fun l9=>some (.inl (l9,ar .add .i64 s3.2 1))else some (.inr (.inl s3.1)):Option (((List A7)×Int)⊕(((List A7))⊕Int)))) N ([],0)).bind fun s5=>match s5 with
 | .inl y10=>(FL N aC.Kind y10 aC.Value).bind fun r12=>some (r12.1,r12.2)
 | .inr y13=>some ((⟨0,0,⟨#[]⟩⟩:A7),y13)
def AI (N:Nat) (aM:S6) (aC:B0):Option (A7×Int):=(V0 N aM aC.Var).bind fun r2=>if cmp .eql aC.Op 0 then some (aC.Value,0)else if cmp .eql aC.Op 3 then some ((⟨0,Ar.len r2,⟨#[]⟩⟩:A7),0)else if cmp .eql aC.Op 4 then(Ao N aM aC).bind fun r3=>some (r3.1,r3.2)else((if cmp .neq aC.Var aM.own then if cmp .eql (Ar.len r2) 0 then some (.inr ())else(C5 r2 (ar .sub .i64 (Ar.len r2) 1)).bind fun x6=>some (.inl x6)else some (.inl aM.event)):Option (B3⊕Unit)).bind fun s5=>match s5 with
    | .inl y7=>if cmp .eql aC.Op 2 then some ((⟨0,y7.Time,⟨#[]⟩⟩:A7),0)else(CK N y7 aC.Field).bind fun r8=>((if cmp .eql r8.2 0 then(AQ N r8.1).bind fun r10=>some r10 else some r8.2):Option (Int)).bind fun s9=>if cmp .neq s9 0 then some ((⟨0,0,⟨#[]⟩⟩:A7),s9)else some (r8.1,0)
    | .inr y11=>some ((⟨0,0,⟨#[]⟩⟩:A7),10)
def Es (N:Nat)(aK:Int)(bF:List Int):Option Int:=(loopN (fun(s1:Int)=>(if cmp .lss s1 (Ar.len bF)then(C5 bF s1).bind fun x3=>((if cmp .eql aK 5 then some true else if cmp .eql aK 6 then some true else if cmp .eql aK 7 then some true else some (cmp .eql aK 8)):Option (Bool)).bind fun s4=>if s4 then if nt (cmp .eql x3 0)then some (.inr (.inr ()))else some (.inl (ar .add .i64 s1 1))else((if cmp .eql aK 10 then some true else if cmp .eql aK 11 then some true else some (cmp .eql aK 12)):Option (Bool)).bind fun s5=>if s5 then if nt (cmp .eql x3 1)then some (.inr (.inr ()))else some (.inl (ar .add .i64 s1 1))else if cmp .eql aK 9 then(C5 bF 0).bind fun x6=>if nt (cmp .eql x3 x6)then some (.inr (.inr ()))else some (.inl (ar .add .i64 s1 1))else some (.inl (ar .add .i64 s1 1))else some (.inr (.inl ())):Option ((Int)⊕(Unit⊕Unit)))) N 0).bind fun s2=>match s2 with
 | .inl y7=>some 0
 | .inr y8=>some 9
def N9 (N:Nat):Nat→S6→B0→Option (A7×Int)
 |0,_,_=>none
 | n+1,aM,aC=>if cmp .eql (Ar.len aC.dD) 0 then(AI N aM aC).bind fun r2=>some (r2.1,r2.2)else(loopN (fun(s3:(List A7)×(List Int)×Int)=>(if cmp .lss s3.2.2 (Ar.len aC.dD)then(C5 aC.dD s3.2.2).bind fun x7=>(N9 N n aM x7).bind fun r8=>if cmp .neq r8.2 0 then some (.inr (.inr r8.2))else(N6 s3.1 ([r8.1])).bind fun l9=>(N6 s3.2.1 ([r8.1.Kind])).bind fun l12=>some (.inl (l9,l12,ar .add .i64 s3.2.2 1))else some (.inr (.inl (s3.1,s3.2.1))):Option (((List A7)×(List Int)×Int)⊕(((List A7)×(List Int))⊕Int)))) N ([],[],0)).bind fun s6=>match s6 with
   | .inl y13=>(Es N aC.Op y13.2).bind fun r16=>if cmp .neq r16 0 then some ((⟨0,0,⟨#[]⟩⟩:A7),r16)else if cmp .eql aC.Op 9 then(C5 y13.1 0).bind fun x17=>(C5 y13.1 1).bind fun x18=>(Cg N (an (cmp .eql x17.Kind x18.Kind) (an (cmp .eql x17.Num x18.Num) (an (scmp .eql x17.Text x18.Text) true)))).bind fun r19=>some (r19,0)else if cmp .eql aC.Op 5 then(C5 y13.1 0).bind fun x20=>(C5 y13.1 (ar .sub .i64 (Ar.len y13.1) 1)).bind fun x21=>(Dl N x20.Num x21.Num (fun y1=>X8 N y1)).bind fun r22=>some (r22,0)else if cmp .eql aC.Op 6 then(C5 y13.1 0).bind fun x23=>(C5 y13.1 (ar .sub .i64 (Ar.len y13.1) 1)).bind fun x24=>(Dk N x23.Num x24.Num (fun y1=>X8 N y1)).bind fun r25=>some (r25,0)else if cmp .eql aC.Op 7 then(C5 y13.1 0).bind fun x26=>(C5 y13.1 (ar .sub .i64 (Ar.len y13.1) 1)).bind fun x27=>(Dj N x26.Num x27.Num).bind fun r28=>some (r28,0)else if cmp .eql aC.Op 8 then(C5 y13.1 0).bind fun x29=>(C5 y13.1 (ar .sub .i64 (Ar.len y13.1) 1)).bind fun x30=>(Di N x29.Num x30.Num).bind fun r31=>some (r31,0)else if cmp .eql aC.Op 10 then(C5 y13.1 0).bind fun x32=>(C5 y13.1 (ar .sub .i64 (Ar.len y13.1) 1)).bind fun x33=>(Dh N x32.Num x33.Num).bind fun r34=>some (r34,0)else if cmp .eql aC.Op 11 then(C5 y13.1 0).bind fun x35=>(C5 y13.1 (ar .sub .i64 (Ar.len y13.1) 1)).bind fun x36=>(Dg N x35.Num x36.Num).bind fun r37=>some (r37,0)else if cmp .eql aC.Op 12 then(C5 y13.1 0).bind fun x38=>(C5 y13.1 (ar .sub .i64 (Ar.len y13.1) 1)).bind fun x39=>(Df N x38.Num x39.Num).bind fun r40=>some (r40,0)else(C5 y13.1 0).bind fun x41=>(C5 y13.1 (ar .sub .i64 (Ar.len y13.1) 1)).bind fun x42=>none
   | .inr y43=>some ((⟨0,0,⟨#[]⟩⟩:A7),y43)
def JY (N:Nat)(aC:B0)(aT:Cl)(aV:Int)(aY:B3):Option (A7×Int):=(Gn N aC).bind fun r2=>if cmp .neq r2 0 then some ((⟨0,0,⟨#[]⟩⟩:A7),r2)else(((N9 N N (⟨aT,aV,aY,()⟩:S6) aC).bind fun r244=>some (r244.2,r244.1)):Option ((Int×A7))).bind fun s3=>some (s3.2,s3.1)
def Gm (N:Nat)(aC:B0)(aT:Cl)(aV:Int)(aY:B3):Option Bool:=(JY N aC aT aV aY).bind fun r1=>if cmp .eql r1.2 0 then(Cg N true).bind fun r2=>some (an (cmp .eql r1.1.Kind r2.Kind) (an (cmp .eql r1.1.Num r2.Num) (an (scmp .eql r1.1.Text r2.Text) true)))else some false
def Y0 (N:Nat)(aL:B7)(aH:List A3)(cL:Int):Option Cl:=(mkL 16 16 ([]:List B3)).bind fun l3=>(loopN (fun(s5:Int×(List (List B3)))=>(if cmp .lss s5.1 (Ar.len aH)then(C5 aH s5.1).bind fun x8=>if cmp .lss x8.at_ cL then(C5 s5.2 x8.dI).bind fun x9=>(C5 aL.dP x8.at_).bind fun x14=>(N6 x9 ([x14])).bind fun l15=>(Kg s5.2 x8.dI (fun _=>l15)).bind fun l13=>some (.inl (ar .add .i64 s5.1 1,l13))else some (.inl (ar .add .i64 s5.1 1,s5.2))else some (.inr s5.2):Option ((Int×(List (List B3)))⊕(((List (List B3))))))) N (0,l3)).bind fun s7=>some (⟨s7⟩:Cl)
def M3 (N:Nat)(aL:B7)(cN:B0)(aH:List A3)(aV:Int)(bG:Int):Option Bool:=(Y0 N aL aH bG).bind fun r1=>(C5 aL.dP bG).bind fun x2=>(Gm N cN r1 aV x2).bind fun r3=>some r3
def Ax (N:Nat)(aF:Int)(aJ:B7)(aO:A0)(aU:List A3):Option (List (List A3)):=((J2 (W2 (fun(s1:Int)=>(if cmp .lss s1 (Ar.len aJ.dP)then(C5 aJ.dP s1).bind fun x7=>if cmp .eql x7.Typ aO.Typ then(M3 N aJ aO.dE aU aO.Var s1).bind fun r8=>if r8 then J2 (some ([[(⟨aO.Var,s1⟩:A3)]],())) fun _=>some ([],.inl (ar .add .i64 s1 1))else some ([],.inl (ar .add .i64 s1 1))else some ([],.inl (ar .add .i64 s1 1))else some ([],.inr ()):Option (List (List A3)×((Int)⊕(Unit))))) N aF) fun s6=>some ([],())):Option (List (List A3)×Unit)).bind fun q=>some q.1
def Q4 (N:Nat)(aL:B7)(aA:A0)(aN:List A3)(aP:Int):Option (List (List A3)):=Ax N aP aL aA aN
def J6 (N:Nat)(aF:List (List A3)):Option (List (List A3)):=((J2 (W2 (fun(s1:Int)=>(if cmp .lss s1 (Ar.len aF)then(C5 aF s1).bind fun x7=>J2 (some ([x7],())) fun _=>some ([],.inl (ar .add .i64 s1 1))else some ([],.inr ()):Option (List (List A3)×((Int)⊕(Unit))))) N 0) fun s6=>some ([],())):Option (List (List A3)×Unit)).bind fun q=>some q.1
def W9 (N:Nat)(aH:List (List A3)):Option (List (List A3)):=J6 N aH
def DS (N:Nat)(aM:A3)(bE:A3):Option Int:=some (ar .sub .i64 aM.at_ bE.at_)
def S3 (N:Nat)(aB:List A3)(aD:List A3):Option (List A3):=(mkL 0 (ar .add .i64 (Ar.len aB) (Ar.len aD)) ((⟨0,0⟩:A3):A3)).bind fun l2=>(N6 l2 aB).bind fun l4=>(N6 l4 aD).bind fun l6=>(LG (fun y1 y2=>DS N y1 y2) l6).bind fun l7=>some l7
def S0 (N:Nat)(aH:List A3):Option Int:=(C5 aH (ar .sub .i64 (Ar.len aH) 1)).bind fun x1=>some x1.at_
def X0 (N:Nat)(aH:List A3)(aW:A3→Option Bool):Option Int:=(loopN (fun(s1:Int)=>(if cmp .lss s1 (Ar.len aH)then(C5 aH s1).bind fun x3=>(aW x3).bind fun r4=>if r4 then some (.inr (.inr s1))else some (.inl (ar .add .i64 s1 1))else some (.inr (.inl ())):Option ((Int)⊕(Unit⊕Int)))) N 0).bind fun s2=>match s2 with
 | .inl y5=>some (-1)
 | .inr y6=>some y6
def L6 (N:Nat)(aH:List A3)(aW:A3→Option Bool):Option Bool:=(X0 N aH aW).bind fun r1=>some (cmp .geq r1 0)
def AF (N:Nat)(aM:A3)(aF:Int):Option Bool:=some (cmp .eql aM.at_ aF)
def Aw (N:Nat)(aH:List A3)(bG:Int):Option Bool:=(L6 N aH (fun y1=>AF N y1 bG)).bind fun r1=>some r1
def Bv (N:Nat)(aM:A3)(aF:List A3):Option Bool:=(Aw N aF aM.at_).bind fun r1=>some r1
def CQ (N:Nat)(aB:List A3)(aD:List A3):Option Bool:=(L6 N aB (fun y1=>Bv N y1 aD)).bind fun r1=>some r1
def AC (N:Nat):Nat→List (List (List A3))→List A3→Option (List (List A3))
 |0,_,_=>none
 |n+1,bT,bQ=>((if cmp .eql (Ar.len bT) 0 then J2 (some ([bQ],())) fun _=>some ([],())else(C5 bT 0).bind fun x2=>J2 (W2 (fun(s3:Int)=>(if cmp .lss s3 (Ar.len x2)then(C5 x2 s3).bind fun x9=>(CQ N bQ x9).bind fun r10=>if nt r10 then(Bg bT (some 1) none none).bind fun l11=>(S3 N bQ x9).bind fun r13=>(AC N n l11 r13).bind fun l14=>J2 (some (l14,())) fun _=>some ([],.inl (ar .add .i64 s3 1))else some ([],.inl (ar .add .i64 s3 1))else some ([],.inr ()):Option (List (List A3)×((Int)⊕(Unit))))) N 0) fun s8=>some ([],())):Option (List (List A3)×Unit)).bind fun q=>some q.1
def Y6 (N:Nat) (aL:B7) (aA:A0) (aN:List A3) (aH:List A3):Option Bool:=if cmp .eql aA.Op 6 then(S0 N aH).bind fun r1=>(C5 aL.dP r1).bind fun x2=>(C5 aH 0).bind fun x3=>(C5 aL.dP x3.at_).bind fun x4=>some (cmp .leq (ar .sub .i64 x2.Time x4.Time) aA.Span)else if cmp .eql aA.Op 7 then(S3 N aN aH).bind fun r5=>(Y0 N aL r5 (Ar.len aL.dP)).bind fun r6=>(Gm N aA.dE r6 (-1) (⟨0,0,0,0,[]⟩:B3)).bind fun r7=>some r7 else(S3 N aN aH).bind fun r8=>(C5 aH 0).bind fun x9=>(loopN (fun(s10:Int)=>((S0 N aH).bind fun r12=>if cmp .lss s10 r12 then(C5 aL.dP s10).bind fun x13=>if cmp .eql x13.Typ aA.Typ then(Aw N aH s10).bind fun r14=>if nt r14 then(M3 N aL aA.dE r8 aA.Var s10).bind fun r15=>if r15 then some (.inr (.inr ()))else some (.inl (ar .add .i64 s10 1))else some (.inl (ar .add .i64 s10 1))else some (.inl (ar .add .i64 s10 1))else some (.inr (.inl ())):Option ((Int)⊕(Unit⊕Unit)))) N (ar .add .i64 x9.at_ 1)).bind fun s11=>match s11 with
   | .inl y16=>some true
   | .inr y17=>some false
mutual
def E8 (N:Nat):Nat→B7→A0→List A3→Int→Option (List (List A3))
 |0,_,_,_,_=>none
 |n+1,aL,aA,aN,aP=>(Db N).bind fun r5=>(C5 ([fun y1 y2 y3 y4=>Q4 N y1 y2 y3 y4,fun y1 y2 y3 y4=>T9 N n y1 y2 y3 y4,fun y1 y2 y3 y4=>U0 N n y1 y2 y3 y4,fun y1 y2 y3 y4=>U1 N n y1 y2 y3 y4,fun y1 y2 y3 y4=>S2 N n y1 y2 y3 y4,fun y1 y2 y3 y4=>J9 N n y1 y2 y3 y4,fun y1 y2 y3 y4=>J9 N n y1 y2 y3 y4,fun y1 y2 y3 y4=>J9 N n y1 y2 y3 y4]:List (B7→A0→(List A3)→Int→Option (List (List A3)))) aA.Op).bind fun f7=>(f7 aL aA aN aP).bind fun r8=>(K9 (fun(s11:(List (ByteArray×Bool))×(List (List A3))) (y10:(List A3))=>((U5 N y10).bind fun r17=>(NW s11.1 r17 (false:Bool)).bind fun r18=>if r18.1 then some (.inl (s11.1,s11.2))else(MS s11.1 r17 true).bind fun l20=>(N6 s11.2 ([y10])).bind fun l22=>((if cmp .gtr (Ar.len l22) 4096 then none else some ()):Option (Unit)).bind fun s23=>if aL.full then some (.inr (l20,l22))else some (.inl (l20,l22)):Option (((List (ByteArray×Bool))×(List (List A3)))⊕(((List (ByteArray×Bool))×(List (List A3))))))) r8 (([]:List (ByteArray×Bool)),[])).bind fun o16=>match o16 with
  | .inl s28=>some s28.2
  | .inr y31=>some ([])
def T9 (N:Nat):Nat→B7→A0→List A3→Int→Option (List (List A3))
 |0,_,_,_,_=>none
 |n+1,aL,aA,aN,aP=>if cmp .eql (Ar.len aA.dD) 1 then(C5 aA.dD 0).bind fun x1=>(E8 N n aL x1 aN aP).bind fun r2=>(W9 N r2).bind fun r3=>some r3 else(Bg aA.dD (some 1) none none).bind fun l6=>(C5 aA.dD 0).bind fun x8=>(S1 N n aL x8 aN aP (fun y1 y2=>Q3 N n y1 y2 aL ({aA with dD:=l6}))).bind fun r9=>some r9
def U0 (N:Nat):Nat→B7→A0→List A3→Int→Option (List (List A3))
 |0,_,_,_,_=>none
 |n+1,aL,aA,aN,aP=>Y7 N n aA aL aN aP
def U1 (N:Nat):Nat→B7→A0→List A3→Int→Option (List (List A3))
 |0,_,_,_,_=>none
 |n+1,aL,aA,aN,aP=>Y8 N n aA aL aN aP
def S2 (N:Nat):Nat→B7→A0→List A3→Int→Option (List (List A3))
 |0,_,_,_,_=>none
 |n+1,aL,aA,aN,aP=>X4 N n aL aA aN aP
def J9 (N:Nat):Nat→B7→A0→List A3→Int→Option (List (List A3))
 |0,_,_,_,_=>none
 |n+1,aL,aA,aN,aP=>X3 N n aL aA aN aP
def S1 (N:Nat):Nat→B7→A0→List A3→Int→((List A3)→Int→Option (List (List A3)))→Option (List (List A3))
 |0,_,_,_,_,_=>none
 |n+1,aL,aA,aN,aP,bX=>X2 N n aL aA aN aP bX
def Q3 (N:Nat):Nat→List A3→Int→B7→A0→Option (List (List A3))
 |0,_,_,_,_=>none
 |n+1,aN,aP,aJ,aO=>(E8 N n aJ aO aN aP).bind fun r1=>some r1
def Y7 (N:Nat):Nat→A0→B7→List A3→Int→Option (List (List A3))
 |0,_,_,_,_=>none
 |n+1,aF,aJ,aO,aU=>((J2 (W2 (fun(s1:Int)=>(if cmp .lss s1 (Ar.len aF.dD)then(C5 aF.dD s1).bind fun x7=>(E8 N n aJ x7 aO aU).bind fun r8=>J2 (W2 (fun(s9:Int)=>(if cmp .lss s9 (Ar.len r8)then(C5 r8 s9).bind fun x15=>J2 (some ([x15],())) fun _=>some ([],.inl (ar .add .i64 s9 1))else some ([],.inr ()):Option (List (List A3)×((Int)⊕(Unit))))) N 0) fun s14=>some ([],.inl (ar .add .i64 s1 1))else some ([],.inr ()):Option (List (List A3)×((Int)⊕(Unit))))) N 0) fun s6=>some ([],())):Option (List (List A3)×Unit)).bind fun q=>some q.1
def Y8 (N:Nat):Nat→A0→B7→List A3→Int→Option (List (List A3))
 |0,_,_,_,_=>none
 |n+1,aF,aJ,aO,aU=>((J2 (W2 (fun(s1:(List (List (List A3)))×Int)=>(if cmp .lss s1.2 (Ar.len aF.dD)then(C5 aF.dD s1.2).bind fun x8=>(E8 N n aJ x8 aO aU).bind fun r9=>(N6 s1.1 ([r9])).bind fun l11=>some ([],.inl (l11,ar .add .i64 s1.2 1))else some ([],.inr s1.1):Option (List (List A3)×(((List (List (List A3)))×Int)⊕(((List (List (List A3))))))))) N ([],0)) fun s7=>if nt aJ.full then(AC N N s7 ([])).bind fun l13=>J2 (some (l13,())) fun _=>some ([],())else some ([],())):Option (List (List A3)×Unit)).bind fun q=>some q.1
def X4 (N:Nat):Nat→B7→A0→List A3→Int→Option (List (List A3))
 |0,_,_,_,_=>none
 | n+1,aF,aJ,aO,aU=>(((C5 aJ.dD 0).bind fun x1=>(E8 N n aF x1 aO aU).bind fun r2=>J2 (W2 (fun(s3:Int)=>(if cmp .lss s3 (Ar.len r2)then(C5 r2 s3).bind fun x9=>if aF.full then some ([],.inr (.inr ()))else J2 (some ([x9],())) fun _=>some ([],.inl (ar .add .i64 s3 1))else some ([],.inr (.inl ())):Option (List (List A3)×((Int)⊕(Unit⊕Unit))))) N 0) fun s8=>match s8 with
   | .inl y11=>(C5 aJ.dD 0).bind fun x12=>(S1 N n aF x12 aO aU (fun y1 y2=>N5 N n y1 y2 aF aJ)).bind fun r13=>J2 (Ca (fun(_:Unit) (y15:(List A3))=>(J2 (some ([y15],())) fun _=>some ([],.inl ()):Option (List (List A3)×(Unit⊕Unit)))) r13 ()) fun o22=>match o22 with
    | .inl _=>some ([],())
    | .inr _=>none
   | .inr y25=>some ([],())):Option (List (List A3)×Unit)).bind fun q=>some q.1
def N5 (N:Nat):Nat→List A3→Int→B7→A0→Option (List (List A3))
 |0,_,_,_,_=>none
 |n+1,aN,aP,aJ,aO=>(E8 N n aJ aO aN aP).bind fun r1=>some r1
def X3 (N:Nat):Nat→B7→A0→List A3→Int→Option (List (List A3))
 |0,_,_,_,_=>none
 |n+1,aF,aJ,aO,aU=>(((C5 aJ.dD 0).bind fun x1=>(E8 N n aF x1 aO aU).bind fun r2=>J2 (W2 (fun(s3:Int)=>(if cmp .lss s3 (Ar.len r2)then(C5 r2 s3).bind fun x9=>(Y6 N aF aJ aO x9).bind fun r10=>if r10 then J2 (some ([x9],())) fun _=>some ([],.inl (ar .add .i64 s3 1))else some ([],.inl (ar .add .i64 s3 1))else some ([],.inr ()):Option (List (List A3)×((Int)⊕(Unit))))) N 0) fun s8=>some ([],())):Option (List (List A3)×Unit)).bind fun q=>some q.1
def X2 (N:Nat):Nat→B7→A0→List A3→Int→((List A3)→Int→Option (List (List A3)))→Option (List (List A3))
 |0,_,_,_,_,_=>none
 | n + 1,aF,aJ,aO,aU,cE=>(((E8 N n aF aJ aO aU).bind fun r1=>J2 (W2 (fun(s2:Int)=>(if cmp .lss s2 (Ar.len r1)then(C5 r1 s2).bind fun x8=>(S3 N aO x8).bind fun r9=>(S0 N x8).bind fun r10=>(cE r9 (ar .add .i64 r10 1)).bind fun r11=>J2 (W2 (fun(s12:Int)=>(if cmp .lss s12 (Ar.len r11)then(C5 r11 s12).bind fun x18=>if aF.full then some ([],.inr (.inr ()))else(S3 N x8 x18).bind fun r19=>J2 (some ([r19],())) fun _=>some ([],.inl (ar .add .i64 s12 1))else some ([],.inr (.inl ())):Option (List (List A3)×((Int)⊕(Unit⊕Unit))))) N 0) fun s17=>match s17 with
       | .inl y21=>some ([],.inl (ar .add .i64 s2 1))
       | .inr y22=>some ([],.inr (.inr ()))else some ([],.inr (.inl ())):Option (List (List A3)×((Int)⊕(Unit⊕Unit))))) N 0) fun s7=>match s7 with
   | .inl y23=>some ([],())
   | .inr y24=>some ([],())):Option (List (List A3)×Unit)).bind fun q=>some q.1
end
def J0 (N:Nat)(aX:List G7)(bB:List G7)(cR:G7→G7→Option Int):Option Int:=(loopN (fun(s1:Int)=>(if cmp .lss s1 (Ar.len aX)then(C5 aX s1).bind fun x3=>if cmp .geq s1 (Ar.len bB)then some (.inr (.inr 1))else(C5 bB s1).bind fun x5=>(cR x3 x5).bind fun r6=>if cmp .neq r6 0 then some (.inr (.inr r6))else some (.inl (ar .add .i64 s1 1))else some (.inr (.inl ())):Option ((Int)⊕(Unit⊕Int)))) N 0).bind fun s2=>match s2 with
 | .inl y7=>if cmp .lss (Ar.len aX) (Ar.len bB)then some (-1)else some 0
 | .inr y8=>some y8
def Ie (N:Nat)(aB:Kb)(aD:Kb):Option Int:=(P2 N aB.Time aD.Time).bind fun r1=>(P2 N aB.Source aD.Source).bind fun r2=>(P2 N aB.Seq aD.Seq).bind fun r3=>(EM N ([r1,r2,r3])).bind fun r4=>some r4
def Br (N:Nat)(aM:G7)(bE:G7):Option Int:=(Ie N aM.Ref bE.Ref).bind fun r1=>(P2 N aM.Var bE.Var).bind fun r2=>(EM N ([r1,r2])).bind fun r3=>some r3
def CX (N:Nat)(aB:G6)(aD:G6):Option Int:=(J0 N aB.dF aD.dF (fun y1 y2=>Br N y1 y2)).bind fun r1=>some r1
def Bw (N:Nat)(aA:A0)(aG:List B3):Option ((List G6)×Int):=(BR N aA).bind fun r1=>if cmp .neq r1 0 then some ([],r1)else(Fq N aG).bind fun r2=>if cmp .neq r2 0 then some ([],r2)else(E8 N N (⟨aG,false⟩:B7) aA ([]) 0).bind fun r3=>(loopN (fun(s5:Int×(List G6))=>(if cmp .lss s5.1 (Ar.len r3)then(C5 r3 s5.1).bind fun x8=>(loopN (fun(s10:Int×G6)=>(if cmp .lss s10.1 (Ar.len x8)then(C5 x8 s10.1).bind fun x13=>(C5 aG x13.at_).bind fun x14=>(Gq N x14).bind fun r15=>(N6 s10.2.dF ([(⟨x13.dI,r15⟩:G7)])).bind fun l17=>some (.inl (ar .add .i64 s10.1 1,{s10.2 with dF:=l17}))else some (.inr s10.2):Option ((Int×G6)⊕(G6)))) N (0,(⟨[]⟩:G6))).bind fun s12=>(N6 s5.2 ([s12])).bind fun l20=>some (.inl (ar .add .i64 s5.1 1,l20))else some (.inr s5.2):Option ((Int×(List G6))⊕(((List G6)))))) N (0,([]:List G6))).bind fun s7=>(LG (fun y1 y2=>CX N y1 y2) s7).bind fun l22=>some (l22,0)
def Dc (N:Nat)(aA:A0)(aG:List B3):Option ((List G6)×Int):=(Bw N aA aG).bind fun r1=>some (r1.1,r1.2)
def Bx (N:Nat):Nat→B0→Option Int
 |0,_=>none
 |n+1,aC=>(loopN (fun(s1:Int×Int)=>(if cmp .lss s1.2 (Ar.len aC.dD)then(C5 aC.dD s1.2).bind fun x3=>(Bx N n x3).bind fun r4=>some (.inl (mx s1.1 r4,ar .add .i64 s1.2 1))else some (.inr s1.1):Option ((Int×Int)⊕(Int)))) N (0,0)).bind fun s2=>some (ar .add .i64 s2 1)
def Bz (N:Nat)(aI:A7):Option Int:=if Ar.or (cmp .lss aI.Kind 0) (cmp .gtr aI.Kind 2)then some 1 else if cmp .eql aI.Kind 2 then if cmp .neq aI.Num 0 then some 3 else if cmp .gtr (slen aI.Text) 64 then some 13 else some 0 else if scmp .neq aI.Text (⟨#[]⟩:ByteArray)then some 3 else if Ar.or (Ar.or (an (cmp .eql aI.Kind 1) (Ar.or (cmp .lss aI.Num 0) (cmp .gtr aI.Num 1))) (cmp .lss aI.Num (-1099511627776))) (cmp .gtr aI.Num 1099511627776)then some 2 else some 0
def GX (N:Nat)(aK:Int):Option Int:=((if cmp .eql aK 0 then some true else if cmp .eql aK 1 then some true else if cmp .eql aK 2 then some true else if cmp .eql aK 3 then some true else some (cmp .eql aK 4)):Option (Bool)).bind fun s1=>if s1 then some 0 else if cmp .eql aK 12 then some 1 else if cmp .eql aK 5 then some 2 else if cmp .eql aK 6 then some 2 else if cmp .eql aK 7 then some 2 else if cmp .eql aK 8 then some 2 else if cmp .eql aK 9 then some 2 else if cmp .eql aK 10 then some 2 else if cmp .eql aK 11 then some 2 else some (-1)
def HT (N:Nat)(aK:Int):Option (Bool×Bool):=some (Ar.or (Ar.or (Ar.or (cmp .eql aK 1) (cmp .eql aK 4)) (cmp .eql aK 2)) (cmp .eql aK 3),Ar.or (cmp .eql aK 1) (cmp .eql aK 4))
def AU (N:Nat)(bA:Int)(aI:A7):Option Bool:=some (Ar.or (Ar.or (Ar.or (cmp .eql aI.Kind 0) (cmp .eql bA 0)) (cmp .eql bA 4)) (cmp .eql bA 5))
def Gf (N:Nat) (aC:B0):Option Int:=(GX N aC.Op).bind fun r1=>if cmp .lss r1 0 then some 1 else if cmp .neq (Ar.len aC.dD) r1 then some 15 else(HT N aC.Op).bind fun r2=>if Ar.or (an r2.1 (Ar.or (cmp .lss aC.Var 0) (cmp .geq aC.Var 16))) (an r2.2 (Ar.or (cmp .lss aC.Field 0) (cmp .geq aC.Field 8)))then some 2 else if an (cmp .eql aC.Op 4) (Ar.or (cmp .lss aC.Kind 1) (cmp .gtr aC.Kind 5))then some 1 else((if Ar.or (cmp .eql aC.Op 4) (cmp .eql aC.Op 0)then(Bz N aC.Value).bind fun r4=>if cmp .neq r4 0 then some (.inr r4)else some (.inl ())else some (.inl ())):Option (Unit⊕Int)).bind fun s3=>match s3 with
     | .inl y5=>if cmp .eql aC.Op 4 then(AU N aC.Kind aC.Value).bind fun r6=>if Ar.or (nt r6) (an (cmp .eql aC.Kind 1) (nt (an (cmp .eql aC.Value.Kind 0) (an (cmp .eql aC.Value.Num 0) (an (scmp .eql aC.Value.Text (⟨#[]⟩)) true)))))then some 9 else if Ar.or (Ar.or (Ar.or (an (nt r2.1) (cmp .neq aC.Var 0)) (an (nt r2.2) (cmp .neq aC.Field 0))) (an (nt (cmp .eql aC.Op 4)) (cmp .neq aC.Kind 0))) (an (nt (Ar.or (cmp .eql aC.Op 4) (cmp .eql aC.Op 0))) (nt (an (cmp .eql aC.Value.Kind 0) (an (cmp .eql aC.Value.Num 0) (an (scmp .eql aC.Value.Text (⟨#[]⟩)) true)))))then some 3 else some 0 else if Ar.or (Ar.or (Ar.or (an (nt r2.1) (cmp .neq aC.Var 0)) (an (nt r2.2) (cmp .neq aC.Field 0))) (an (nt (cmp .eql aC.Op 4)) (cmp .neq aC.Kind 0))) (an (nt (Ar.or (cmp .eql aC.Op 4) (cmp .eql aC.Op 0))) (nt (an (cmp .eql aC.Value.Kind 0) (an (cmp .eql aC.Value.Num 0) (an (scmp .eql aC.Value.Text (⟨#[]⟩)) true)))))then some 3 else some 0
     | .inr y7=>some y7
def DF (N:Nat):Nat→B0→Option Int
 |0,_=>none
 | n+1,aC=>(Gf N aC).bind fun r1=>if cmp .neq r1 0 then some r1 else(loopN (fun(s2:Int)=>(if cmp .lss s2 (Ar.len aC.dD)then(C5 aC.dD s2).bind fun x4=>(DF N n x4).bind fun r5=>if cmp .neq r5 0 then some (.inr (.inr r5))else some (.inl (ar .add .i64 s2 1))else some (.inr (.inl ())):Option ((Int)⊕(Unit⊕Int)))) N 0).bind fun s3=>match s3 with
   | .inl y6=>some 0
   | .inr y7=>some y7
def DI (N:Nat)(aC:B0):Option Int:=(AT N N aC 64).bind fun r1=>if cmp .gtr r1 64 then some 5 else(Bx N N aC).bind fun r2=>if cmp .gtr r2 12 then some 12 else(DF N N aC).bind fun r3=>some r3
def CF (N:Nat)(aT:Cl)(aI:Int):Option (List B3):=if Ar.or (cmp .lss aI 0) (cmp .geq aI (Ar.len aT.dO))then some ([])else(C5 aT.dO aI).bind fun x1=>some x1
def HX (N:Nat)(bA:Int):Option Bool:=some (an (cmp .geq bA 0) (cmp .leq bA 5))
def Fe (N:Nat)(aB:C6):Option Int:=(HX N aB.Kind).bind fun r1=>if nt r1 then some 1 else if Ar.or (cmp .lss aB.Count 0) (cmp .gtr aB.Count 4096)then some 2 else if Ar.or (cmp .eql aB.Count 0) (cmp .eql aB.Kind 0)then if nt (an (cmp .eql aB.Value.Kind 0) (an (cmp .eql aB.Value.Num 0) (an (scmp .eql aB.Value.Text (⟨#[]⟩)) true)))then some 3 else some 0 else if cmp .eql aB.Kind 1 then if Ar.or (Ar.or (Ar.or (cmp .neq aB.Value.Kind 0) (scmp .neq aB.Value.Text (⟨#[]⟩:ByteArray))) (cmp .lss aB.Value.Num (neg .i64 (ar .mul .i64 aB.Count 1099511627776)))) (cmp .gtr aB.Value.Num (ar .mul .i64 aB.Count 1099511627776))then some 3 else some 0 else(Bz N aB.Value).bind fun r2=>if cmp .neq r2 0 then some 3 else(AU N aB.Kind aB.Value).bind fun r3=>if nt r3 then some 3 else some 0
def Ct (N:Nat)(bA:Int)(aI:A7):Option Int:=(Bz N aI).bind fun r1=>if cmp .neq r1 0 then some r1 else(AU N bA aI).bind fun r2=>if nt r2 then some 9 else some 0
def Ej (N:Nat)(bA:Int)(aI:A7)(bY:A7):Option A7:=if cmp .eql bA 1 then some (⟨0,ar .add .i64 aI.Num bY.Num,⟨#[]⟩⟩:A7)else if cmp .eql bA 2 then some (⟨0,Ar.mn aI.Num bY.Num,⟨#[]⟩⟩:A7)else if cmp .eql bA 3 then some (⟨0,mx aI.Num bY.Num,⟨#[]⟩⟩:A7)else if cmp .eql bA 4 then some aI else if cmp .eql bA 5 then some bY else some (⟨0,0,⟨#[]⟩⟩:A7)
def Ff (N:Nat)(aB:C6)(aI:A7):Option (C6×Int):=(Fe N aB).bind fun r2=>if cmp .neq r2 0 then some ((⟨0,0,(⟨0,0,⟨#[]⟩⟩:A7)⟩:C6),r2)else(Ct N aB.Kind aI).bind fun r3=>if cmp .neq r3 0 then some ((⟨0,0,(⟨0,0,⟨#[]⟩⟩:A7)⟩:C6),r3)else if cmp .eql aB.Count 4096 then some ((⟨0,0,(⟨0,0,⟨#[]⟩⟩:A7)⟩:C6),5)else if cmp .eql aB.Kind 0 then some ((⟨aB.Kind,ar .add .i64 aB.Count 1,(⟨0,0,⟨#[]⟩⟩:A7)⟩:C6),0)else if cmp .gtr aB.Count 0 then(Ej N aB.Kind aB.Value aI).bind fun r5=>some ((⟨aB.Kind,ar .add .i64 aB.Count 1,r5⟩:C6),0)else some ((⟨aB.Kind,ar .add .i64 aB.Count 1,aI⟩:C6),0)
def Hv (N:Nat)(aB:C6)(bD:A7):Option (A7×Int):=(Fe N aB).bind fun r2=>if cmp .neq r2 0 then some ((⟨0,0,⟨#[]⟩⟩:A7),r2)else(Ct N aB.Kind bD).bind fun r3=>if cmp .neq r3 0 then some ((⟨0,0,⟨#[]⟩⟩:A7),r3)else if cmp .eql aB.Kind 0 then some ((⟨0,aB.Count,⟨#[]⟩⟩:A7),0)else if an (cmp .eql aB.Count 0) (cmp .neq aB.Kind 1)then some (bD,0)else some (aB.Value,0)
def LO (N:Nat) (bA:Int) (aG:List A7) (bD:A7):Option (A7×Int):=(HX N bA).bind fun r2=>if nt r2 then some ((⟨0,0,⟨#[]⟩⟩:A7),1)else if cmp .gtr (Ar.len aG) 4096 then some ((⟨0,0,⟨#[]⟩⟩:A7),5)else(loopN (fun(s4:Int×C6)=>(if cmp .lss s4.1 (Ar.len aG)then(C5 aG s4.1).bind fun x6=>(Ff N s4.2 x6).bind fun r7=>if cmp .neq r7.2 0 then some (.inr (.inr (r7.2,s4.2)))else some (.inl (ar .add .i64 s4.1 1,r7.1))else some (.inr (.inl s4.2)):Option ((Int×C6)⊕(C6⊕(Int×C6))))) N (0,(⟨bA,0,(⟨0,0,⟨#[]⟩⟩:A7)⟩:C6))).bind fun s5=>match s5 with
   | .inl y8=>(Hv N y8 bD).bind fun r9=>some (r9.1,r9.2)
   | .inr y10=>some ((⟨0,0,⟨#[]⟩⟩:A7),y10.1)
def HV (N:Nat)(aT:Cl)(aI:Int)(aV:Int)(aY:B3):Option (B3×Bool):=if cmp .eql aI aV then some (aY,true)else(CF N aT aI).bind fun r2=>if cmp .eql (Ar.len r2) 0 then some ((⟨0,0,0,0,[]⟩:B3),false)else(C5 r2 (ar .sub .i64 (Ar.len r2) 1)).bind fun x3=>some (x3,true)
def HU (N:Nat) (aC:B0) (aT:Cl) (aV:Int) (aY:B3):Option (A7×Int):=if cmp .eql aC.Op 0 then some (aC.Value,0)else if cmp .eql aC.Op 3 then(CF N aT aC.Var).bind fun r2=>some ((⟨0,Ar.len r2,⟨#[]⟩⟩:A7),0)else if cmp .eql aC.Op 4 then(CF N aT aC.Var).bind fun r3=>(loopN (fun(s4:(List A7)×Int)=>(if cmp .lss s4.2 (Ar.len r3)then(C5 r3 s4.2).bind fun x7=>if cmp .geq aC.Field (Ar.len x7.Values)then some (.inr (.inr ()))else(C5 r3 s4.2).bind fun x8=>(C5 x8.Values aC.Field).bind fun x9=>(N6 s4.1 ([x9])).bind fun l11=>some (.inl (l11,ar .add .i64 s4.2 1))else some (.inr (.inl s4.1)):Option (((List A7)×Int)⊕(((List A7))⊕Unit)))) N ([],0)).bind fun s6=>match s6 with
    | .inl y12=>(LO N aC.Kind y12 aC.Value).bind fun r14=>some (r14.1,r14.2)
    | .inr y15=>some ((⟨0,0,⟨#[]⟩⟩:A7),6)else(HV N aT aC.Var aV aY).bind fun r17=>if nt r17.2 then some ((⟨0,0,⟨#[]⟩⟩:A7),10)else if cmp .eql aC.Op 2 then some ((⟨0,r17.1.Time,⟨#[]⟩⟩:A7),0)else if cmp .geq aC.Field (Ar.len r17.1.Values)then some ((⟨0,0,⟨#[]⟩⟩:A7),6)else(C5 r17.1.Values aC.Field).bind fun x18=>(Bz N x18).bind fun r19=>if cmp .neq r19 0 then some ((⟨0,0,⟨#[]⟩⟩:A7),r19)else(C5 r17.1.Values aC.Field).bind fun x20=>some (x20,0)
def DG (N:Nat)(aK:Int):Option Int:=((if cmp .eql aK 5 then some true else if cmp .eql aK 6 then some true else if cmp .eql aK 7 then some true else some (cmp .eql aK 8)):Option (Bool)).bind fun s1=>if s1 then some 0 else if cmp .eql aK 10 then some 1 else if cmp .eql aK 11 then some 1 else if cmp .eql aK 12 then some 1 else some (-1)
def DE (N:Nat)(aK:Int)(bF:List Int):Option Int:=(loopN (fun(s1:Int)=>(if cmp .lss s1 (Ar.len bF)then(DG N aK).bind fun r3=>if cmp .geq r3 0 then(C5 bF s1).bind fun x4=>if cmp .neq x4 r3 then some (.inr (.inr ()))else if cmp .eql aK 9 then(C5 bF s1).bind fun x5=>(C5 bF 0).bind fun x6=>if cmp .neq x5 x6 then some (.inr (.inr ()))else some (.inl (ar .add .i64 s1 1))else some (.inl (ar .add .i64 s1 1))else if cmp .eql aK 9 then(C5 bF s1).bind fun x7=>(C5 bF 0).bind fun x8=>if cmp .neq x7 x8 then some (.inr (.inr ()))else some (.inl (ar .add .i64 s1 1))else some (.inl (ar .add .i64 s1 1))else some (.inr (.inl ())):Option ((Int)⊕(Unit⊕Unit)))) N 0).bind fun s2=>match s2 with
 | .inl y9=>some 0
 | .inr y10=>some 9
def Je (N:Nat)(aK:Int)(aG:List A7):Option A7:=if cmp .eql aK 5 then(C5 aG 0).bind fun x2=>(C5 aG 1).bind fun x3=>some (⟨0,ar .add .i64 x2.Num x3.Num,⟨#[]⟩⟩:A7)else if cmp .eql aK 6 then(C5 aG 0).bind fun x4=>(C5 aG 1).bind fun x5=>some (⟨0,ar .sub .i64 x4.Num x5.Num,⟨#[]⟩⟩:A7)else if cmp .eql aK 7 then(C5 aG 0).bind fun x6=>(C5 aG 1).bind fun x7=>(X6 N (cmp .lss x6.Num x7.Num)).bind fun r8=>some r8 else if cmp .eql aK 8 then(C5 aG 0).bind fun x9=>(C5 aG 1).bind fun x10=>(X6 N (cmp .leq x9.Num x10.Num)).bind fun r11=>some r11 else if cmp .eql aK 9 then(C5 aG 0).bind fun x12=>(C5 aG 1).bind fun x13=>(X6 N (an (cmp .eql x12.Kind x13.Kind) (an (cmp .eql x12.Num x13.Num) (an (scmp .eql x12.Text x13.Text) true)))).bind fun r14=>some r14 else if cmp .eql aK 10 then(C5 aG 0).bind fun x15=>if cmp .eql x15.Num 1 then(C5 aG 1).bind fun x16=>(X6 N (cmp .eql x16.Num 1)).bind fun r17=>some r17 else(X6 N false).bind fun r18=>some r18 else if cmp .eql aK 11 then(C5 aG 0).bind fun x19=>if cmp .eql x19.Num 1 then(X6 N true).bind fun r20=>some r20 else(C5 aG 1).bind fun x21=>(X6 N (cmp .eql x21.Num 1)).bind fun r22=>some r22 else(C5 aG 0).bind fun x23=>(X6 N (cmp .neq x23.Num 1)).bind fun r24=>some r24
def CE (N:Nat):Nat→B0→Cl→Int→B3→Option (A7×Int)
 |0,_,_,_,_=>none
 | n+1,aC,aT,aV,aY=>if cmp .eql (Ar.len aC.dD) 0 then(HU N aC aT aV aY).bind fun r2=>some (r2.1,r2.2)else(loopN (fun(s3:(List A7)×(List Int)×Int)=>(if cmp .lss s3.2.2 (Ar.len aC.dD)then(C5 aC.dD s3.2.2).bind fun x7=>(CE N n x7 aT aV aY).bind fun r8=>if cmp .neq r8.2 0 then some (.inr (.inr r8.2))else(N6 s3.1 ([r8.1])).bind fun l9=>(N6 s3.2.1 ([r8.1.Kind])).bind fun l12=>some (.inl (l9,l12,ar .add .i64 s3.2.2 1))else some (.inr (.inl (s3.1,s3.2.1))):Option (((List A7)×(List Int)×Int)⊕(((List A7)×(List Int))⊕Int)))) N ([],[],0)).bind fun s6=>match s6 with
   | .inl y13=>(DE N aC.Op y13.2).bind fun r16=>if cmp .neq r16 0 then some ((⟨0,0,⟨#[]⟩⟩:A7),r16)else(Je N aC.Op y13.1).bind fun r17=>some (r17,0)
   | .inr y18=>some ((⟨0,0,⟨#[]⟩⟩:A7),y18)
def HW (N:Nat)(aC:B0)(aT:Cl)(aV:Int)(aY:B3):Option (A7×Int):=(DI N aC).bind fun r2=>if cmp .neq r2 0 then some ((⟨0,0,⟨#[]⟩⟩:A7),r2)else(CE N N aC aT aV aY).bind fun r3=>some (r3.1,r3.2)
def DH (N:Nat)(aC:B0)(aT:Cl)(aV:Int)(aY:B3):Option Bool:=(HW N aC aT aV aY).bind fun r1=>if cmp .eql r1.2 0 then(X6 N true).bind fun r2=>some (an (cmp .eql r1.1.Kind r2.Kind) (an (cmp .eql r1.1.Num r2.Num) (an (scmp .eql r1.1.Text r2.Text) true)))else some false
def GV (N:Nat)(aG:List B3)(bJ:Kb):Option (B3×Bool):=(loopN (fun(s2:Int)=>(if cmp .lss s2 (Ar.len aG)then(C5 aG s2).bind fun x4=>(CV N x4).bind fun r5=>if an (cmp .eql r5.Time bJ.Time) (an (cmp .eql r5.Source bJ.Source) (an (cmp .eql r5.Seq bJ.Seq) true))then(C5 aG s2).bind fun x6=>some (.inr (.inr x6))else some (.inl (ar .add .i64 s2 1))else some (.inr (.inl ())):Option ((Int)⊕(Unit⊕B3)))) N 0).bind fun s3=>match s3 with
 | .inl y7=>some ((⟨0,0,0,0,[]⟩:B3),false)
 | .inr y8=>some (y8,true)
def Fc (N:Nat)(aG:List B3)(bZ:Int)(cF:List G7):Option Cl:=(mkL bZ bZ ([]:List B3)).bind fun l3=>(loopN (fun(s5:Int×(List (List B3)))=>(if cmp .lss s5.1 (Ar.len cF)then(C5 cF s5.1).bind fun x8=>(GV N aG x8.Ref).bind fun r9=>if an (an r9.2 (cmp .geq x8.Var 0)) (cmp .lss x8.Var bZ)then(C5 s5.2 x8.Var).bind fun x10=>(N6 x10 ([r9.1])).bind fun l15=>(Kg s5.2 x8.Var (fun _=>l15)).bind fun l14=>some (.inl (ar .add .i64 s5.1 1,l14))else some (.inl (ar .add .i64 s5.1 1,s5.2))else some (.inr s5.2):Option ((Int×(List (List B3)))⊕(((List (List B3))))))) N (0,l3)).bind fun s7=>some (⟨s7⟩:Cl)
def Q7 (N:Nat)(aH:List B0)(aW:B0→Option Bool):Option Int:=(loopN (fun(s1:Int)=>(if cmp .lss s1 (Ar.len aH)then(C5 aH s1).bind fun x3=>(aW x3).bind fun r4=>if r4 then some (.inr (.inr s1))else some (.inl (ar .add .i64 s1 1))else some (.inr (.inl ())):Option ((Int)⊕(Unit⊕Int)))) N 0).bind fun s2=>match s2 with
 | .inl y5=>some (-1)
 | .inr y6=>some y6
def K4 (N:Nat)(aH:List B0)(aW:B0→Option Bool):Option Bool:=(Q7 N aH aW).bind fun r1=>some (cmp .geq r1 0)
def O6 (N:Nat)(aL:B0)(aF:Cl):Option Bool:=(DH N aL aF (-1) (⟨0,0,0,0,[]⟩:B3)).bind fun r1=>some (nt r1)
def GU (N:Nat)(aB:G7)(aD:G7):Option Int:=(Fg N aB.Ref aD.Ref).bind fun r1=>if cmp .neq r1 0 then some r1 else if cmp .lss aB.Var aD.Var then some (-1)else if cmp .gtr aB.Var aD.Var then some 1 else some 0
def AS (N:Nat)(aB:G6)(aD:G6):Option Int:=(loopN (fun(s1:Int)=>(if an (cmp .lss s1 (Ar.len aB.dF)) (cmp .lss s1 (Ar.len aD.dF))then(C5 aB.dF s1).bind fun x3=>(C5 aD.dF s1).bind fun x4=>(GU N x3 x4).bind fun r5=>if cmp .neq r5 0 then some (.inr (.inr r5))else some (.inl (ar .add .i64 s1 1))else some (.inr (.inl ())):Option ((Int)⊕(Unit⊕Int)))) N 0).bind fun s2=>match s2 with
 | .inl y6=>if cmp .lss (Ar.len aB.dF) (Ar.len aD.dF)then some (-1)else if cmp .gtr (Ar.len aB.dF) (Ar.len aD.dF)then some 1 else some 0
 | .inr y7=>some y7
def HR (N:Nat) (aB:List G6) (aD:List G6):Option Bool:=if cmp .neq (Ar.len aB) (Ar.len aD)then some false else(loopN (fun(s1:Int)=>(if cmp .lss s1 (Ar.len aB)then(C5 aB s1).bind fun x3=>(C5 aD s1).bind fun x4=>(AS N x3 x4).bind fun r5=>if cmp .neq r5 0 then some (.inr (.inr ()))else some (.inl (ar .add .i64 s1 1))else some (.inr (.inl ())):Option ((Int)⊕(Unit⊕Unit)))) N 0).bind fun s2=>match s2 with
  | .inl y6=>some true
  | .inr y7=>some false
def HE (N:Nat)(aG:List G6)(bO:G6):Option (List G6):=(loopN (fun(s1:Int)=>(if cmp .lss s1 (Ar.len aG)then(C5 aG s1).bind fun x3=>(AS N x3 bO).bind fun r4=>if cmp .lss r4 0 then some (.inl (ar .add .i64 s1 1))else some (.inr s1)else some (.inr s1):Option ((Int)⊕(Int)))) N 0).bind fun s2=>if cmp .lss s2 (Ar.len aG)then(C5 aG s2).bind fun x5=>(AS N x5 bO).bind fun r6=>if cmp .eql r6 0 then some aG else(((Bg aG none (some s2) none).bind fun l128=>(N6 ([]) l128).bind fun l169=>(N6 l169 ([bO])).bind fun l289=>some l289):Option (((List G6)))).bind fun s7=>(Bg aG (some s2) none none).bind fun l409=>(N6 s7 l409).bind fun l412=>some l412 else(((Bg aG none (some s2) none).bind fun l534=>(N6 ([]) l534).bind fun l575=>(N6 l575 ([bO])).bind fun l695=>some l695):Option (((List G6)))).bind fun s413=>(Bg aG (some s2) none none).bind fun l815=>(N6 s413 l815).bind fun l818=>some l818
def Fs (N:Nat)(aG:List G6):Option (List G6):=(loopN (fun(s1:(List G6)×Int)=>(if cmp .lss s1.2 (Ar.len aG)then(C5 aG s1.2).bind fun x3=>(HE N s1.1 x3).bind fun r4=>some (.inl (r4,ar .add .i64 s1.2 1))else some (.inr s1.1):Option (((List G6)×Int)⊕(((List G6)))))) N ([],0)).bind fun s2=>some s2
def Ay (N:Nat)(aA:A0)(aM:B3):Option Bool:=(GW N aA).bind fun r1=>if nt r1 then(AW N).bind fun r2=>some r2 else(BR N aA).bind fun r3=>if cmp .neq r3 0 then(AW N).bind fun r4=>some r4 else(JR N ([aM])).bind fun r5=>if nt r5 then(AW N).bind fun r6=>some r6 else(GY N ([aM])).bind fun r7=>if cmp .neq r7 0 then(AW N).bind fun r8=>some r8 else(Dc N aA ([aM])).bind fun r9=>(R5 N aA).bind fun r10=>if Ar.or (cmp .neq r9.2 0) (cmp .neq r10.2.2 0)then if an (Ar.or (cmp .eql r9.2 0) (cmp .eql r9.2 17)) (Ar.or (cmp .eql r10.2.2 0) (cmp .eql r10.2.2 17))then(AW N).bind fun r11=>some r11 else some false else(loopN (fun(s12:(List G6)×Int)=>(if cmp .lss s12.2 (Ar.len r10.1)then(C5 r10.1 s12.2).bind fun x15=>if Ar.or (cmp .neq x15.To (-1)) (cmp .neq x15.Typ aM.Typ)then some (.inl (s12.1,ar .add .i64 s12.2 1))else(DH N x15.dE (⟨[]⟩:Cl) x15.Var aM).bind fun r16=>if nt r16 then some (.inl (s12.1,ar .add .i64 s12.2 1))else(CV N aM).bind fun r17=>(Fc N ([aM]) 16 ([(⟨x15.Var,r17⟩:G7)])).bind fun r18=>(K4 N x15.dH (fun y1=>O6 N y1 r18)).bind fun r19=>if nt r19 then(N6 s12.1 ([(⟨[(⟨x15.Var,r17⟩:G7)]⟩:G6)])).bind fun l21=>some (.inl (l21,ar .add .i64 s12.2 1))else some (.inl (s12.1,ar .add .i64 s12.2 1))else some (.inr s12.1):Option (((List G6)×Int)⊕(((List G6)))))) N ([],0)).bind fun s14=>(Fs N s14).bind fun r23=>(HR N r23 r9.1).bind fun r24=>if r24 then(AW N).bind fun r25=>some r25 else some false
end Go.Ab
