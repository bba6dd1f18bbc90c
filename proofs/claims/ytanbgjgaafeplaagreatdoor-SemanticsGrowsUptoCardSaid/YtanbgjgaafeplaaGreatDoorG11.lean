/- GTSp -/
import Derived.Test.YtanbgjgaafeplaaGreatDoorG10
set_option linter.all false
open Go.Ab.Ar (an ar cmp mx nt scmp wr)
namespace Go.Ab
variable [Ar]
instance :DecidableEq D1:=fun x y=>decidable_of_iff (x.source=y.source∧x.seq=y.seq) (by cases x;cases y;simp)
def J5 (N:Nat):Nat→A0→Option (List A0)
 |0,_=>none
 |n+1,aA=>(loopN (fun(s1:(List A0)×Int)=>(if cmp .lss s1.2 (Ar.len aA.cP)then(B8 aA.cP s1.2).bind fun x4=>(J5 N n x4).bind fun r5=>(K9 s1.1 r5).bind fun l7=>some (.inl (l7,ar .add .i64 s1.2 1))else some (.inr s1.1):Option (((List A0)×Int) ⊕ (((List A0)))))) N ([aA],0)).bind fun s3=>some s3
def U8 (N:Nat):Nat→A0→Int→Option Int
 |0,_,_=>none
 |n+1,aA,aX=>(loopN (fun(s1:Int×Int)=>(if an (cmp .lss s1.2 (Ar.len aA.cP)) (cmp .leq s1.1 aX)then(B8 aA.cP s1.2).bind fun x3=>(U8 N n x3 aX).bind fun r4=>some (.inl (ar .add .i64 s1.1 r4,ar .add .i64 s1.2 1))else some (.inr s1.1):Option ((Int×Int) ⊕ (Int)))) N (1,0)).bind fun s2=>some s2
def U9 (N:Nat):Nat→A0→Option Int
 |0,_=>none
 |n+1,aA=>(loopN (fun(s1:Int×Int)=>(if cmp .lss s1.2 (Ar.len aA.cP)then(B8 aA.cP s1.2).bind fun x3=>(U9 N n x3).bind fun r4=>some (.inl (mx s1.1 r4,ar .add .i64 s1.2 1))else some (.inr s1.1):Option ((Int×Int) ⊕ (Int)))) N (0,0)).bind fun s2=>some (ar .add .i64 s2 1)
def V1 (N:Nat):Nat→A4→Int→Option Int
 |0,_,_=>none
 |n+1,aB,aX=>(loopN (fun(s1:Int×Int)=>(if an (cmp .lss s1.2 (Ar.len aB.cP)) (cmp .leq s1.1 aX)then(B8 aB.cP s1.2).bind fun x3=>(V1 N n x3 aX).bind fun r4=>some (.inl (ar .add .i64 s1.1 r4,ar .add .i64 s1.2 1))else some (.inr s1.1):Option ((Int×Int) ⊕ (Int)))) N (1,0)).bind fun s2=>some s2
def V0 (N:Nat):Nat→A4→Option Int
 |0,_=>none
 |n+1,aB=>(loopN (fun(s1:Int×Int)=>(if cmp .lss s1.2 (Ar.len aB.cP)then(B8 aB.cP s1.2).bind fun x3=>(V0 N n x3).bind fun r4=>some (.inl (mx s1.1 r4,ar .add .i64 s1.2 1))else some (.inr s1.1):Option ((Int×Int) ⊕ (Int)))) N (0,0)).bind fun s2=>some (ar .add .i64 s2 1)
def BS (N:Nat)(aB:A4):Option Bool:=(V1 N N aB 200).bind fun r1=>if cmp .leq r1 200 then(V0 N N aB).bind fun r2=>some (cmp .leq r2 100)else some false
def Fe (N:Nat) (aA:A0):Option Bool:=(U8 N N aA 150).bind fun r1=>if cmp .gtr r1 150 then some false else(U9 N N aA).bind fun r2=>if cmp .gtr r2 60 then some false else(J5 N N aA).bind fun r3=>(loopN (fun(s4:Int)=>(if cmp .lss s4 (Ar.len r3)then(B8 r3 s4).bind fun x6=>(BS N x6.cQ).bind fun r7=>if nt r7 then some (.inr (.inr ()))else some (.inl (ar .add .i64 s4 1))else some (.inr (.inl ())):Option ((Int) ⊕ (Unit ⊕ Unit)))) N 0).bind fun s5=>match s5 with
   | .inl y8=>some true
   | .inr y9=>some false
def U0 (N:Nat):Nat→A0→Option Int
 |0,_=>none
 |n+1,aA=>((if cmp .eql aA.Op 0 then some 1 else some 0):Option (Int)).bind fun s1=>(loopN (fun(s2:Int×Int)=>(if cmp .lss s2.2 (Ar.len aA.cP)then(B8 aA.cP s2.2).bind fun x4=>(U0 N n x4).bind fun r5=>some (.inl (ar .add .i64 s2.1 r5,ar .add .i64 s2.2 1))else some (.inr s2.1):Option ((Int×Int) ⊕ (Int)))) N (s1,0)).bind fun s3=>some s3
def BQ (N:Nat)(aY:Int)(aV:Int)(aX:Int):Option Int:=(loopN (fun(s1:Int×Int)=>(if an (cmp .lss s1.2 aV) (cmp .leq s1.1 aX)then some (.inl (ar .mul .i64 s1.1 aY,ar .add .i64 s1.2 1))else some (.inr s1.1):Option ((Int×Int) ⊕ (Int)))) N (1,0)).bind fun s2=>some s2
def Y9 (N:Nat):Nat→A0→Option Bool
 |0,_=>none
 | n+1,aA=>if cmp .eql aA.Op 4 then some true else(loopN (fun(s1:Int)=>(if cmp .lss s1 (Ar.len aA.cP)then(B8 aA.cP s1).bind fun x3=>(Y9 N n x3).bind fun r4=>if r4 then some (.inr (.inr ()))else some (.inl (ar .add .i64 s1 1))else some (.inr (.inl ())):Option ((Int) ⊕ (Unit ⊕ Unit)))) N 0).bind fun s2=>match s2 with
   | .inl y5=>some false
   | .inr y6=>some true
def CX (N:Nat) (aA:A0) (aF:List A5):Option Bool:=(Fe N aA).bind fun r1=>if Ar.or (nt r1) (cmp .gtr (Ar.len aF) 10)then some false else(loopN (fun(s2:Int)=>(if cmp .lss s2 (Ar.len aF)then(B8 aF s2).bind fun x4=>if cmp .gtr (Ar.len x4.Values) 9 then some (.inr (.inr ()))else some (.inl (ar .add .i64 s2 1))else some (.inr (.inl ())):Option ((Int) ⊕ (Unit ⊕ Unit)))) N 0).bind fun s3=>match s3 with
  | .inl y5=>(U0 N N aA).bind fun r6=>(BQ N (ar .add .i64 r6 1) (Ar.len aF) 1500).bind fun r7=>if cmp .leq r7 1500 then some true else(Y9 N N aA).bind fun r8=>if nt r8 then(BQ N (Ar.len aF) r6 1500).bind fun r9=>some (cmp .leq r9 1500)else some false
  | .inr y10=>some false
def U2 (N:Nat):Nat→A0→Option (List A0)
 |0,_=>none
 |n+1,aA=>((N9 (some ([aA],())) fun _=>N9 (V8 (fun(s2:Int)=>(if cmp .lss s2 (Ar.len aA.cP)then(B8 aA.cP s2).bind fun x8=>(U2 N n x8).bind fun l9=>N9 (some (l9,())) fun _=>some ([],.inl (ar .add .i64 s2 1))else some ([],.inr ()):Option (List A0×((Int) ⊕ (Unit))))) N 0) fun s7=>some ([],())):Option (List A0×Unit)).bind fun q=>some q.1
def Af (N:Nat)(aG:A0):Option (List A0):=(((U2 N N aG).bind fun l1=>N9 (some (l1,())) fun _=>some ([],())):Option (List A0×Unit)).bind fun q=>some q.1
def Q8 (N:Nat)(aA:A0):Option (List A0):=Af N aA
def U3 (N:Nat):Nat→A0→Option (Int×Int)
 |0,_=>none
 |n+1,aA=>(loopN (fun(s1:Int×Int×Int)=>(if cmp .lss s1.2.2 (Ar.len aA.cP)then(B8 aA.cP s1.2.2).bind fun x3=>(U3 N n x3).bind fun r4=>some (.inl (ar .add .i64 s1.1 r4.1,mx s1.2.1 r4.2,ar .add .i64 s1.2.2 1))else some (.inr (s1.1,s1.2.1)):Option ((Int×Int×Int) ⊕ ((Int×Int))))) N (1,0,0)).bind fun s2=>some (s2.1,ar .add .i64 s2.2 1)
def R8 (N:Nat)(bH:Bool)(aV:Int)(bQ:Int):Option Bool:=some (Ar.or (nt bH) (an (cmp .geq aV 0) (cmp .leq aV bQ)))
def Bf (N:Nat):Nat→A4→Option (Int×Int)
 |0,_=>none
 |n+1,aB=>(loopN (fun(s1:Int×Int×Int)=>(if cmp .lss s1.2.2 (Ar.len aB.cP)then(B8 aB.cP s1.2.2).bind fun x3=>(Bf N n x3).bind fun r4=>some (.inl (ar .add .i64 s1.1 r4.1,mx s1.2.1 r4.2,ar .add .i64 s1.2.2 1))else some (.inr (s1.1,s1.2.1)):Option ((Int×Int×Int) ⊕ ((Int×Int))))) N (1,0,0)).bind fun s2=>some (s2.1,ar .add .i64 s2.2 1)
def AQ (N:Nat):Nat→A4→(A4→Option Int)→Option Int
 |0,_,_=>none
 | n+1,aB,aS=>(aS aB).bind fun r1=>if cmp .neq r1 0 then some r1 else(loopN (fun(s2:Int)=>(if cmp .lss s2 (Ar.len aB.cP)then(B8 aB.cP s2).bind fun x4=>(AQ N n x4 aS).bind fun r5=>if cmp .neq r5 0 then some (.inr (.inr r5))else some (.inl (ar .add .i64 s2 1))else some (.inr (.inl ())):Option ((Int) ⊕ (Unit ⊕ Int)))) N 0).bind fun s3=>match s3 with
   | .inl y6=>some 0
   | .inr y7=>some y7
def Ee (N:Nat)(aP:Int):Option (Int×Bool):=if Ar.or (cmp .lss aP 0) (cmp .gtr aP 12)then some (0,false)else if cmp .lss aP 5 then some (0,true)else if cmp .eql aP 12 then some (1,true)else some (2,true)
def Fp (N:Nat)(aP:Int):Option (Bool×Bool):=((if cmp .eql aP 1 then some true else some (cmp .eql aP 4)):Option (Bool)).bind fun s1=>if s1 then some (true,true)else if cmp .eql aP 2 then some (true,false)else if cmp .eql aP 3 then some (true,false)else some (false,false)
def DS (N:Nat)(aL:A7):Option Int:=if an (cmp .eql aL.Kind 0) (Ar.or (cmp .lss aL.Num (-1099511627776)) (cmp .gtr aL.Num 1099511627776))then some 2 else if an (an (cmp .eql aL.Kind 1) (cmp .neq aL.Num 0)) (cmp .neq aL.Num 1)then some 2 else if cmp .gtr (Ar.slen aL.Text) 64 then some 13 else some 0
def U7 (N:Nat)(aL:A7):Option Int:=((if cmp .eql aL.Kind 0 then some true else some (cmp .eql aL.Kind 1)):Option (Bool)).bind fun s1=>if s1 then if scmp .neq aL.Text (⟨#[]⟩:ByteArray)then some 3 else(DS N aL).bind fun r2=>some r2 else if cmp .eql aL.Kind 2 then if cmp .neq aL.Num 0 then some 3 else(DS N aL).bind fun r3=>some r3 else some 1
def Ed (N:Nat)(aQ:Int)(aL:A7):Option Bool:=some (Ar.or (Ar.or (cmp .eql aL.Kind 0) (cmp .eql aQ 4)) (cmp .eql aQ 5))
def Ck (N:Nat)(aB:A4):Option Int:=(U7 N aB.Value).bind fun r1=>if cmp .neq r1 0 then some r1 else if cmp .eql aB.Op 4 then(Ed N aB.Kind aB.Value).bind fun r2=>if Ar.or (nt r2) (an (cmp .eql aB.Kind 1) (nt (an (cmp .eql aB.Value.Kind 0) (an (cmp .eql aB.Value.Num 0) (an (scmp .eql aB.Value.Text (⟨#[]⟩)) true)))))then some 9 else some 0 else some 0
def DP (N:Nat) (aB:A4):Option Int:=(Ee N aB.Op).bind fun r1=>if nt r1.2 then some 1 else if cmp .neq (Ar.len aB.cP) r1.1 then some 15 else(Fp N aB.Op).bind fun r2=>if Ar.or (an r2.1 (Ar.or (cmp .lss aB.Var 0) (cmp .geq aB.Var 16))) (an r2.2 (Ar.or (cmp .lss aB.Field 0) (cmp .geq aB.Field 8)))then some 2 else if an (cmp .eql aB.Op 4) (Ar.or (cmp .lss aB.Kind 1) (cmp .gtr aB.Kind 5))then some 1 else((if Ar.or (cmp .eql aB.Op 4) (cmp .eql aB.Op 0)then(Ck N aB).bind fun r4=>if cmp .neq r4 0 then some (.inr r4)else some (.inl ())else some (.inl ())):Option (Unit ⊕ Int)).bind fun s3=>match s3 with
     | .inl y5=>if Ar.or (Ar.or (Ar.or (an (nt r2.1) (cmp .neq aB.Var 0)) (an (nt r2.2) (cmp .neq aB.Field 0))) (an (nt (cmp .eql aB.Op 4)) (cmp .neq aB.Kind 0))) (an (nt (Ar.or (cmp .eql aB.Op 4) (cmp .eql aB.Op 0))) (nt (an (cmp .eql aB.Value.Kind 0) (an (cmp .eql aB.Value.Num 0) (an (scmp .eql aB.Value.Text (⟨#[]⟩)) true)))))then some 3 else some 0
     | .inr y6=>some y6
def CI (N:Nat)(aB:A4):Option Int:=(Bf N N aB).bind fun r1=>if cmp .gtr r1.1 64 then some 5 else if cmp .gtr r1.2 12 then some 12 else(AQ N N aB (fun y1=>DP N y1)).bind fun r2=>some r2
def DQ (N:Nat):Nat→A4→A4→Option Bool
 |0,_,_=>none
 | n+1,aC,aD=>if Ar.or (Ar.or (Ar.or (Ar.or (Ar.or (cmp .neq aC.Op aD.Op) (cmp .neq aC.Var aD.Var)) (cmp .neq aC.Field aD.Field)) (cmp .neq aC.Kind aD.Kind)) (nt (an (cmp .eql aC.Value.Kind aD.Value.Kind) (an (cmp .eql aC.Value.Num aD.Value.Num) (an (scmp .eql aC.Value.Text aD.Value.Text) true))))) (cmp .neq (Ar.len aC.cP) (Ar.len aD.cP))then some false else(loopN (fun(s1:Int)=>(if cmp .lss s1 (Ar.len aC.cP)then(B8 aC.cP s1).bind fun x3=>(B8 aD.cP s1).bind fun x4=>(DQ N n x3 x4).bind fun r5=>if nt r5 then some (.inr (.inr ()))else some (.inl (ar .add .i64 s1 1))else some (.inr (.inl ())):Option ((Int) ⊕ (Unit ⊕ Unit)))) N 0).bind fun s2=>match s2 with
   | .inl y6=>some true
   | .inr y7=>some false
def K8 (N:Nat)(bH:Bool)(aV:Int):Option Bool:=some (Ar.or bH (cmp .eql aV 0))
def R0 (N:Nat) (aA:A0):Option Int:=if Ar.or (cmp .lss aA.Op 0) (cmp .geq aA.Op 11)then some 1 else(B8 G1 aA.Op).bind fun x1=>if Ar.or (cmp .lss (Ar.len aA.cP) x1.cV) (cmp .gtr (Ar.len aA.cP) x1.most)then some 15 else(R8 N x1.cT aA.Typ 15).bind fun r2=>if nt r2 then some 2 else(R8 N x1.cT aA.Var 15).bind fun r3=>if nt r3 then some 2 else(R8 N x1.scope aA.cS 63).bind fun r4=>if nt r4 then some 2 else(R8 N x1.span aA.Span 1099511627776).bind fun r5=>if nt r5 then some 2 else((if x1.cond then(CI N aA.cQ).bind fun r7=>if cmp .neq r7 0 then some (.inr r7)else some (.inl ())else some (.inl ())):Option (Unit ⊕ Int)).bind fun s6=>match s6 with
       | .inl y8=>if nt x1.cond then(DQ N N aA.cQ (⟨0,[],0,0,0,(⟨0,0,⟨#[]⟩⟩:A7)⟩:A4)).bind fun r9=>if nt r9 then some 3 else(K8 N x1.cT aA.Typ).bind fun r10=>if nt r10 then some 3 else(K8 N x1.cT aA.Var).bind fun r11=>if nt r11 then some 3 else(K8 N x1.scope aA.cS).bind fun r12=>if nt r12 then some 3 else(K8 N x1.span aA.Span).bind fun r13=>if nt r13 then some 3 else some 0 else(K8 N x1.cT aA.Typ).bind fun r14=>if nt r14 then some 3 else(K8 N x1.cT aA.Var).bind fun r15=>if nt r15 then some 3 else(K8 N x1.scope aA.cS).bind fun r16=>if nt r16 then some 3 else(K8 N x1.span aA.Span).bind fun r17=>if nt r17 then some 3 else some 0
       | .inr y18=>some y18
def X4 (N:Nat) (aA:A0):Option Int:=(U3 N N aA).bind fun r2=>if cmp .gtr r2.1 64 then some 5 else if cmp .gtr r2.2 12 then some 12 else(Q8 N aA).bind fun r3=>(H6 (fun(s6:Unit) (y5:A0)=>((R0 N y5).bind fun r10=>if cmp .neq r10 0 then some (.inr r10)else some (.inl ()):Option ((Unit) ⊕ (Int)))) r3 ()).bind fun o9=>match o9 with
   | .inl s13=>some 0
   | .inr y14=>some y14
def Bt (N:Nat) (aA:A0):Option Int:=(X4 N aA).bind fun r2=>if cmp .neq r2 0 then some r2 else(Q8 N aA).bind fun r3=>(H6 (fun(s6:Unit) (y5:A0)=>(if cmp .geq y5.Op 8 then some (.inr 1)else some (.inl ()):Option ((Unit) ⊕ (Int)))) r3 ()).bind fun o9=>match o9 with
  | .inl s12=>some 0
  | .inr y13=>some y13
def Bu (N:Nat)(aA:A0):Option (Int×Int×Bool):=(Q8 N aA).bind fun r4=>(H6 (fun(s7:Bool×Int×Int) (y6:A0)=>((B8 G1 y6.Op).bind fun x11=>((if x11.cT then some (an s7.1 (cmp .eql y6.Var s7.2.2),ar .add .i64 s7.2.2 1)else some (s7.1,s7.2.2)):Option ((Bool×Int))).bind fun s12=>if x11.scope then some (.inl (an s12.1 (cmp .eql y6.cS s7.2.1),ar .add .i64 s7.2.1 1,s12.2))else some (.inl (s12.1,s7.2.1,s12.2)):Option ((Bool×Int×Int) ⊕ (Unit)))) r4 (true,0,0)).bind fun o10=>match o10 with
 | .inl s15=>some (s15.2.2,s15.2.1,s15.1)
 | .inr _=>none
def Bv (N:Nat)(aA:A0):Option Int:=(Bt N aA).bind fun r1=>if cmp .neq r1 0 then some r1 else(Bu N aA).bind fun r2=>if nt r2.2.2 then some 14 else some 0
def CJ (N:Nat)(aB:A5):Option El:=some (⟨aB.Time,aB.Source,aB.Seq⟩:El)
def E1 (N:Nat)(bO:List C7)(bS:List C7)(cB:C7→C7→Option Int):Option Int:=(loopN (fun(s1:Int)=>(if cmp .lss s1 (Ar.len bO)then(B8 bO s1).bind fun x3=>if cmp .geq s1 (Ar.len bS)then some (.inr (.inr 1))else(B8 bS s1).bind fun x5=>(cB x3 x5).bind fun r6=>if cmp .neq r6 0 then some (.inr (.inr r6))else some (.inl (ar .add .i64 s1 1))else some (.inr (.inl ())):Option ((Int) ⊕ (Unit ⊕ Int)))) N 0).bind fun s2=>match s2 with
 | .inl y7=>if cmp .lss (Ar.len bO) (Ar.len bS)then some (-1)else some 0
 | .inr y8=>some y8
def BM (N:Nat)(bT:List Int):Option Int:=(loopN (fun(s1:Int)=>(if cmp .lss s1 (Ar.len bT)then(B8 bT s1).bind fun x3=>if cmp .neq x3 0 then some (.inr (.inr x3))else some (.inl (ar .add .i64 s1 1))else some (.inr (.inl ())):Option ((Int) ⊕ (Unit ⊕ Int)))) N 0).bind fun s2=>match s2 with
 | .inl y4=>some 0
 | .inr y5=>some y5
def BB (N:Nat)(aO:Int):Option Bool:=some (cmp .neq aO aO)
def I9 (N:Nat)(aO:Int)(bC:Int):Option Int:=(BB N aO).bind fun r1=>(BB N bC).bind fun r2=>if r1 then if r2 then some 0 else some (-1)else if r2 then some 1 else if cmp .lss aO bC then some (-1)else if cmp .gtr aO bC then some 1 else some 0
def DV (N:Nat)(aC:El)(aD:El):Option Int:=(I9 N aC.Time aD.Time).bind fun r1=>(I9 N aC.Source aD.Source).bind fun r2=>(I9 N aC.Seq aD.Seq).bind fun r3=>(BM N ([r1,r2,r3])).bind fun r4=>some r4
def W6 (N:Nat)(aO:C7)(bC:C7):Option Int:=(DV N aO.Ref bC.Ref).bind fun r1=>(I9 N aO.Var bC.Var).bind fun r2=>(BM N ([r1,r2])).bind fun r3=>some r3
def Ao (N:Nat)(aC:C8)(aD:C8):Option Int:=(E1 N aC.cR aD.cR (fun y1 y2=>W6 N y1 y2)).bind fun r1=>some r1
def CT (N:Nat)(aB:A5):Option Bool:=some (an (an (an (an (an (cmp .geq aB.Time 0) (cmp .leq aB.Time 1099511627776)) (cmp .geq aB.Source 0)) (cmp .lss aB.Source 8)) (cmp .geq aB.Seq 0)) (cmp .leq aB.Seq 1099511627776))
def BA (N:Nat)(aC:A5)(aD:A5):Option Int:=(CJ N aC).bind fun r1=>(CJ N aD).bind fun r2=>if an (cmp .eql r1.Time r2.Time) (an (cmp .eql r1.Source r2.Source) (an (cmp .eql r1.Seq r2.Seq) true))then some 0 else(I9 N aC.Time aD.Time).bind fun r3=>(I9 N aC.Source aD.Source).bind fun r4=>(I9 N aC.Seq aD.Seq).bind fun r5=>(BM N ([r3,r4,r5])).bind fun r6=>some r6
def Cx (N:Nat)(aB:A5):Option D1:=some (⟨aB.Source,aB.Seq⟩:D1)
def Cb (N:Nat) (aF:List A5):Option Int:=if cmp .gtr (Ar.len aF) 4096 then some 5 else(loopN (fun(s3:Int×(List (D1×Bool)))=>(if cmp .lss s3.1 (Ar.len aF)then(B8 aF s3.1).bind fun x6=>(CT N x6).bind fun r8=>if nt r8 then some (.inr (.inr (2,s3.2)))else if cmp .gtr s3.1 0 then(B8 aF (ar .sub .i64 s3.1 1)).bind fun x9=>(BA N x9 x6).bind fun r10=>if cmp .geq r10 0 then some (.inr (.inr (14,s3.2)))else(Cx N x6).bind fun r11=>(IB s3.2 r11 (false:Bool)).bind fun r12=>if r12.1 then some (.inr (.inr (7,s3.2)))else(Cx N x6).bind fun r13=>(HE s3.2 r13 true).bind fun l15=>some (.inl (ar .add .i64 s3.1 1,l15))else(Cx N x6).bind fun r16=>(IB s3.2 r16 (false:Bool)).bind fun r17=>if r17.1 then some (.inr (.inr (7,s3.2)))else(Cx N x6).bind fun r18=>(HE s3.2 r18 true).bind fun l20=>some (.inl (ar .add .i64 s3.1 1,l20))else some (.inr (.inl s3.2)):Option ((Int×(List (D1×Bool))) ⊕ (((List (D1×Bool))) ⊕ (Int×(List (D1×Bool))))))) N (0,([]:List (D1×Bool)))).bind fun s5=>match s5 with
  | .inl y21=>some 0
  | .inr y23=>some y23.1
def Av (N:Nat):Option Unit:=some ()
def EM (N:Nat)(aW:Int):Option ByteArray:=Lx aW
def V6 (N:Nat)(bA:List Int)(aW:Int)(aY:Int):Option (List Int):=if cmp .eql aY 10 then if cmp .lss aW 100 then(EM N (wr .i64 aW)).bind fun r1=>(K9 bA (Kc r1)).bind fun l3=>some l3 else none else none
def Y4 (N:Nat)(bA:List Int)(aW:Int)(aY:Int):Option (List Int):=if cmp .lss aW 0 then(K9 bA ([45])).bind fun l2=>(V6 N l2 (Ar.neg .u64 (wr .u64 aW)) aY).bind fun l3=>some l3 else(V6 N bA (wr .u64 aW) aY).bind fun l5=>some l5
def G0 (N:Nat)(bA:List Int)(aW:Int)(aY:Int):Option (List Int):=(Y4 N bA aW aY).bind fun l1=>some l1
def M1 (N:Nat)(aH:List A1):Option ByteArray:=(loopN (fun(s2:Int×(List Int))=>(if cmp .lss s2.1 (Ar.len aH)then(B8 aH s2.1).bind fun x5=>(G0 N s2.2 x5.cU 10).bind fun l6=>(((K9 l6 ([64])).bind fun l90=>(G0 N l90 x5.at_ 10).bind fun l209=>(K9 l209 ([32])).bind fun l290=>some l290):Option (((List Int)))).bind fun s8=>some (.inl (ar .add .i64 s2.1 1,s8))else some (.inr s2.2):Option ((Int×(List Int)) ⊕ (((List Int)))))) N (0,([]:List Int))).bind fun s4=>(TP s4).bind fun r411=>some r411
def P4 (N:Nat)(aV:Int):Option A7:=some (⟨0,aV,⟨#[]⟩⟩:A7)
def AD (N:Nat)(aC:Int)(aD:Int)(aI:Int→Option A7):Option A7:=(aI (ar .add .i64 aC aD)).bind fun r2=>some r2
def AC (N:Nat)(aC:Int)(aD:Int)(aI:Int→Option A7):Option A7:=(aI (ar .sub .i64 aC aD)).bind fun r2=>some r2
def Fz (N:Nat)(aD:Bool):Option A7:=if aD then some (⟨1,1,⟨#[]⟩⟩:A7)else some (⟨1,0,⟨#[]⟩⟩:A7)
def Z4 (N:Nat)(aD:Bool):Option A7:=(Fz N aD).bind fun r2=>some r2
def AB (N:Nat)(aC:Int)(aD:Int):Option A7:=(Z4 N (cmp .lss aC aD)).bind fun r2=>some r2
def AA (N:Nat)(aC:Int)(aD:Int):Option A7:=(Z4 N (cmp .leq aC aD)).bind fun r2=>some r2
def Az (N:Nat)(aC:Int)(aD:Int):Option A7:=(Z4 N (an (cmp .eql aC 1) (cmp .eql aD 1))).bind fun r2=>some r2
def Ay (N:Nat)(aC:Int)(aD:Int):Option A7:=(Z4 N (Ar.or (cmp .eql aC 1) (cmp .eql aD 1))).bind fun r2=>some r2
def Ax (N:Nat)(aC:Int)(aG:Int):Option A7:=(Z4 N (cmp .neq aC 1)).bind fun r2=>some r2
def Gj (N:Nat):Option Unit:=some ()
def M6 (N:Nat)(aO:P9)(aL:Int):Option (List A5):=if Ar.or (cmp .lss aL 0) (cmp .geq aL (Ar.len aO.env.cY))then some ([])else(B8 aO.env.cY aL).bind fun x1=>some x1
def Ai (N:Nat)(aB:A5)(bJ:Int):Option (A7×Int):=if cmp .geq bJ (Ar.len aB.Values)then some ((⟨0,0,⟨#[]⟩⟩:A7),6)else(B8 aB.Values bJ).bind fun x2=>some (x2,0)
def W7 (N:Nat)(aQ:Int):Option Bool:=some (an (cmp .geq aQ 0) (cmp .leq aQ 5))
def T4 (N:Nat)(aQ:Int)(aL:A7):Option Bool:=some (Ar.or (cmp .eql aL.Kind 0) (an (an (cmp .neq aQ 1) (cmp .neq aQ 2)) (cmp .neq aQ 3)))
def N2 (N:Nat)(aQ:Int)(aL:A7):Option Int:=(U7 N aL).bind fun r1=>if cmp .neq r1 0 then some r1 else(T4 N aQ aL).bind fun r2=>if nt r2 then some 9 else some 0
def G2 (N:Nat)(cC:D0)(aF:List A7)(cD:D0→A7→Option D0):Option D0:=(loopN (fun(s3:Int×D0)=>(if cmp .lss s3.1 (Ar.len aF)then(B8 aF s3.1).bind fun x5=>(cD s3.2 x5).bind fun r6=>some (.inl (ar .add .i64 s3.1 1,r6))else some (.inr s3.2):Option ((Int×D0) ⊕ (D0)))) N (0,cC)).bind fun s4=>some s4
def Br (N:Nat):Option A7:=some (⟨0,0,⟨#[]⟩⟩:A7)
def Bq (N:Nat)(aZ:A7)(aG:A7):Option A7:=some (⟨0,ar .add .i64 aZ.Num aG.Num,⟨#[]⟩⟩:A7)
def Bp (N:Nat)(aZ:A7)(aG:A7):Option A7:=some (⟨0,Ar.mn aZ.Num aG.Num,⟨#[]⟩⟩:A7)
def Bo (N:Nat)(aZ:A7)(aG:A7):Option A7:=some (⟨0,mx aZ.Num aG.Num,⟨#[]⟩⟩:A7)
def Bn (N:Nat)(aZ:A7):Option A7:=some aZ
def Bm (N:Nat)(aZ:A7):Option A7:=some aZ
def X9 (N:Nat)(aQ:Int)(aC:A7)(aD:A7):Option A7:=if cmp .eql aQ 0 then(Br N).bind fun r2=>some r2 else if cmp .eql aQ 1 then(Bq N aC aD).bind fun r3=>some r3 else if cmp .eql aQ 2 then(Bp N aC aD).bind fun r4=>some r4 else if cmp .eql aQ 3 then(Bo N aC aD).bind fun r5=>some r5 else if cmp .eql aQ 4 then(Bn N aC).bind fun r6=>some r6 else if cmp .eql aQ 5 then(Bm N aD).bind fun r7=>some r7 else none
def Bi (N:Nat)(aC:D0)(aD:D0):Option D0:=if cmp .eql aC.Count 0 then some aD else if cmp .eql aD.Count 0 then some aC else(X9 N aC.Kind aC.Value aD.Value).bind fun r2=>some (⟨aC.Kind,ar .add .i64 aC.Count aD.Count,r2⟩:D0)
def Z5 (N:Nat)(aQ:Int)(aL:A7):Option A7:=if cmp .eql aQ 0 then some (⟨0,0,⟨#[]⟩⟩:A7)else some aL
def N0 (N:Nat)(aC:D0)(aL:A7)(aI:Int):Option D0:=(Z5 N aI aL).bind fun r2=>(Bi N aC (⟨aI,1,r2⟩:D0)).bind fun r3=>some r3
def Al (N:Nat)(aC:D0):Option Int:=(W7 N aC.Kind).bind fun r1=>if nt r1 then some 1 else if Ar.or (cmp .lss aC.Count 0) (cmp .gtr aC.Count 4096)then some 2 else if Ar.or (cmp .eql aC.Count 0) (cmp .eql aC.Kind 0)then if nt (an (cmp .eql aC.Value.Kind 0) (an (cmp .eql aC.Value.Num 0) (an (scmp .eql aC.Value.Text (⟨#[]⟩)) true)))then some 3 else some 0 else if cmp .eql aC.Kind 1 then if nt (an (an (an (cmp .eql aC.Value.Kind 0) (scmp .eql aC.Value.Text (⟨#[]⟩:ByteArray))) (cmp .geq aC.Value.Num (Ar.neg .i64 (ar .mul .i64 aC.Count 1099511627776)))) (cmp .leq aC.Value.Num (ar .mul .i64 aC.Count 1099511627776)))then some 3 else some 0 else(U7 N aC.Value).bind fun r2=>if cmp .eql r2 0 then(T4 N aC.Kind aC.Value).bind fun r3=>if nt r3 then some 3 else some 0 else some 3
def Bj (N:Nat)(aC:D0)(bI:A7):Option (A7×Int):=(Al N aC).bind fun r2=>if cmp .neq r2 0 then some ((⟨0,0,⟨#[]⟩⟩:A7),r2)else(N2 N aC.Kind bI).bind fun r3=>if cmp .neq r3 0 then some ((⟨0,0,⟨#[]⟩⟩:A7),r3)else if cmp .eql aC.Kind 0 then some ((⟨0,aC.Count,⟨#[]⟩⟩:A7),0)else if an (cmp .eql aC.Count 0) (cmp .neq aC.Kind 1)then some (bI,0)else some (aC.Value,0)
def Cq (N:Nat) (aQ:Int) (aF:List A7) (bI:A7):Option (A7×Int):=(W7 N aQ).bind fun r2=>if nt r2 then some ((⟨0,0,⟨#[]⟩⟩:A7),1)else if cmp .gtr (Ar.len aF) 4096 then some ((⟨0,0,⟨#[]⟩⟩:A7),5)else(loopN (fun(s3:Int)=>(if cmp .lss s3 (Ar.len aF)then(B8 aF s3).bind fun x5=>(N2 N aQ x5).bind fun r6=>if cmp .neq r6 0 then some (.inr (.inr r6))else some (.inl (ar .add .i64 s3 1))else some (.inr (.inl ())):Option ((Int) ⊕ (Unit ⊕ Int)))) N 0).bind fun s4=>match s4 with
   | .inl y7=>(G2 N (⟨aQ,0,(⟨0,0,⟨#[]⟩⟩:A7)⟩:D0) aF (fun y1 y2=>N0 N y1 y2 aQ)).bind fun r8=>(Bj N r8 bI).bind fun r9=>some (r9.1,r9.2)
   | .inr y10=>some ((⟨0,0,⟨#[]⟩⟩:A7),y10)
def S1 (N:Nat)(aO:P9)(aB:A4):Option (A7×Int):=(M6 N aO aB.Var).bind fun r2=>(loopN (fun(s3:(List A7)×Int)=>(if cmp .lss s3.2 (Ar.len r2)then(B8 r2 s3.2).bind fun x6=>(Ai N x6 aB.Field).bind fun r7=>if cmp .neq r7.2 0 then some (.inr (.inr r7.2))else(K9 s3.1 ([r7.1])).bind fun l9=>some (.inl (l9,ar .add .i64 s3.2 1))else some (.inr (.inl s3.1)):Option (((List A7)×Int) ⊕ (((List A7)) ⊕ Int)))) N ([],0)).bind fun s5=>match s5 with
 | .inl y10=>(Cq N aB.Kind y10 aB.Value).bind fun r12=>some (r12.1,r12.2)
 | .inr y13=>some ((⟨0,0,⟨#[]⟩⟩:A7),y13)
def T8 (N:Nat) (aO:P9) (aB:A4):Option (A7×Int):=(M6 N aO aB.Var).bind fun r2=>if cmp .eql aB.Op 0 then some (aB.Value,0)else if cmp .eql aB.Op 3 then some ((⟨0,Ar.len r2,⟨#[]⟩⟩:A7),0)else if cmp .eql aB.Op 4 then(S1 N aO aB).bind fun r3=>some (r3.1,r3.2)else((if cmp .neq aB.Var aO.own then if cmp .eql (Ar.len r2) 0 then some (.inr ())else(B8 r2 (ar .sub .i64 (Ar.len r2) 1)).bind fun x6=>some (.inl x6)else some (.inl aO.event)):Option (A5 ⊕ Unit)).bind fun s5=>match s5 with
    | .inl y7=>if cmp .eql aB.Op 2 then some ((⟨0,y7.Time,⟨#[]⟩⟩:A7),0)else(Ai N y7 aB.Field).bind fun r8=>((if cmp .eql r8.2 0 then(U7 N r8.1).bind fun r10=>some r10 else some r8.2):Option (Int)).bind fun s9=>if cmp .neq s9 0 then some ((⟨0,0,⟨#[]⟩⟩:A7),s9)else some (r8.1,0)
    | .inr y11=>some ((⟨0,0,⟨#[]⟩⟩:A7),10)
def Bz (N:Nat)(aP:Int)(bF:List Int):Option Int:=(loopN (fun(s1:Int)=>(if cmp .lss s1 (Ar.len bF)then(B8 bF s1).bind fun x3=>((if cmp .eql aP 5 then some true else if cmp .eql aP 6 then some true else if cmp .eql aP 7 then some true else some (cmp .eql aP 8)):Option (Bool)).bind fun s4=>if s4 then if nt (cmp .eql x3 0)then some (.inr (.inr ()))else some (.inl (ar .add .i64 s1 1))else((if cmp .eql aP 10 then some true else if cmp .eql aP 11 then some true else some (cmp .eql aP 12)):Option (Bool)).bind fun s5=>if s5 then if nt (cmp .eql x3 1)then some (.inr (.inr ()))else some (.inl (ar .add .i64 s1 1))else if cmp .eql aP 9 then(B8 bF 0).bind fun x6=>if nt (cmp .eql x3 x6)then some (.inr (.inr ()))else some (.inl (ar .add .i64 s1 1))else some (.inl (ar .add .i64 s1 1))else some (.inr (.inl ())):Option ((Int) ⊕ (Unit ⊕ Unit)))) N 0).bind fun s2=>match s2 with
 | .inl y7=>some 0
 | .inr y8=>some 9
def H7 (N:Nat):Nat→P9→A4→Option (A7×Int)
 |0,_,_=>none
 | n+1,aO,aB=>if cmp .eql (Ar.len aB.cP) 0 then(T8 N aO aB).bind fun r2=>some (r2.1,r2.2)else(loopN (fun(s3:(List A7)×(List Int)×Int)=>(if cmp .lss s3.2.2 (Ar.len aB.cP)then(B8 aB.cP s3.2.2).bind fun x7=>(H7 N n aO x7).bind fun r8=>if cmp .neq r8.2 0 then some (.inr (.inr r8.2))else(K9 s3.1 ([r8.1])).bind fun l9=>(K9 s3.2.1 ([r8.1.Kind])).bind fun l12=>some (.inl (l9,l12,ar .add .i64 s3.2.2 1))else some (.inr (.inl (s3.1,s3.2.1))):Option (((List A7)×(List Int)×Int) ⊕ (((List A7)×(List Int)) ⊕ Int)))) N ([],[],0)).bind fun s6=>match s6 with
   | .inl y13=>(Bz N aB.Op y13.2).bind fun r16=>if cmp .neq r16 0 then some ((⟨0,0,⟨#[]⟩⟩:A7),r16)else if cmp .eql aB.Op 9 then(B8 y13.1 0).bind fun x17=>(B8 y13.1 1).bind fun x18=>(Z4 N (an (cmp .eql x17.Kind x18.Kind) (an (cmp .eql x17.Num x18.Num) (an (scmp .eql x17.Text x18.Text) true)))).bind fun r19=>some (r19,0)else if cmp .eql aB.Op 5 then(B8 y13.1 0).bind fun x20=>(B8 y13.1 (ar .sub .i64 (Ar.len y13.1) 1)).bind fun x21=>(AD N x20.Num x21.Num (fun y1=>P4 N y1)).bind fun r22=>some (r22,0)else if cmp .eql aB.Op 6 then(B8 y13.1 0).bind fun x23=>(B8 y13.1 (ar .sub .i64 (Ar.len y13.1) 1)).bind fun x24=>(AC N x23.Num x24.Num (fun y1=>P4 N y1)).bind fun r25=>some (r25,0)else if cmp .eql aB.Op 7 then(B8 y13.1 0).bind fun x26=>(B8 y13.1 (ar .sub .i64 (Ar.len y13.1) 1)).bind fun x27=>(AB N x26.Num x27.Num).bind fun r28=>some (r28,0)else if cmp .eql aB.Op 8 then(B8 y13.1 0).bind fun x29=>(B8 y13.1 (ar .sub .i64 (Ar.len y13.1) 1)).bind fun x30=>(AA N x29.Num x30.Num).bind fun r31=>some (r31,0)else if cmp .eql aB.Op 10 then(B8 y13.1 0).bind fun x32=>(B8 y13.1 (ar .sub .i64 (Ar.len y13.1) 1)).bind fun x33=>(Az N x32.Num x33.Num).bind fun r34=>some (r34,0)else if cmp .eql aB.Op 11 then(B8 y13.1 0).bind fun x35=>(B8 y13.1 (ar .sub .i64 (Ar.len y13.1) 1)).bind fun x36=>(Ay N x35.Num x36.Num).bind fun r37=>some (r37,0)else if cmp .eql aB.Op 12 then(B8 y13.1 0).bind fun x38=>(B8 y13.1 (ar .sub .i64 (Ar.len y13.1) 1)).bind fun x39=>(Ax N x38.Num x39.Num).bind fun r40=>some (r40,0)else(B8 y13.1 0).bind fun x41=>(B8 y13.1 (ar .sub .i64 (Ar.len y13.1) 1)).bind fun x42=>none
   | .inr y43=>some ((⟨0,0,⟨#[]⟩⟩:A7),y43)
def Fq (N:Nat)(aB:A4)(bL:DH)(bE:Int)(bM:A5):Option (A7×Int):=(CI N aB).bind fun r2=>if cmp .neq r2 0 then some ((⟨0,0,⟨#[]⟩⟩:A7),r2)else(((H7 N N (⟨bL,bE,bM,()⟩:P9) aB).bind fun r244=>some (r244.2,r244.1)):Option ((Int×A7))).bind fun s3=>some (s3.2,s3.1)
def CH (N:Nat)(aB:A4)(bL:DH)(bE:Int)(bM:A5):Option Bool:=(Fq N aB bL bE bM).bind fun r1=>if cmp .eql r1.2 0 then(Z4 N true).bind fun r2=>some (an (cmp .eql r1.1.Kind r2.Kind) (an (cmp .eql r1.1.Num r2.Num) (an (scmp .eql r1.1.Text r2.Text) true)))else some false
def P7 (N:Nat)(aJ:B0)(aH:List A1)(bZ:Int):Option DH:=(RV 16 16 ([]:List A5)).bind fun l3=>(loopN (fun(s5:Int×(List (List A5)))=>(if cmp .lss s5.1 (Ar.len aH)then(B8 aH s5.1).bind fun x8=>if cmp .lss x8.at_ bZ then(B8 s5.2 x8.cU).bind fun x9=>(B8 aJ.cX x8.at_).bind fun x14=>(K9 x9 ([x14])).bind fun l15=>(Gp s5.2 x8.cU (fun _=>l15)).bind fun l13=>some (.inl (ar .add .i64 s5.1 1,l13))else some (.inl (ar .add .i64 s5.1 1,s5.2))else some (.inr s5.2):Option ((Int×(List (List A5))) ⊕ (((List (List A5))))))) N (0,l3)).bind fun s7=>some (⟨s7⟩:DH)
def G5 (N:Nat)(aJ:B0)(bP:A4)(aH:List A1)(bE:Int)(bG:Int):Option Bool:=(P7 N aJ aH bG).bind fun r1=>(B8 aJ.cX bG).bind fun x2=>(CH N bP r1 bE x2).bind fun r3=>some r3
def S4 (N:Nat)(aG:Int)(aI:B0)(aN:A0)(aR:List A1):Option (List (List A1)):=((N9 (V8 (fun(s1:Int)=>(if cmp .lss s1 (Ar.len aI.cX)then(B8 aI.cX s1).bind fun x7=>if cmp .eql x7.Typ aN.Typ then(G5 N aI aN.cQ aR aN.Var s1).bind fun r8=>if r8 then N9 (some ([[(⟨aN.Var,s1⟩:A1)]],())) fun _=>some ([],.inl (ar .add .i64 s1 1))else some ([],.inl (ar .add .i64 s1 1))else some ([],.inl (ar .add .i64 s1 1))else some ([],.inr ()):Option (List (List A1)×((Int) ⊕ (Unit))))) N aG) fun s6=>some ([],())):Option (List (List A1)×Unit)).bind fun q=>some q.1
def J8 (N:Nat)(aJ:B0)(aA:A0)(aM:List A1)(aK:Int):Option (List (List A1)):=S4 N aK aJ aA aM
def E4 (N:Nat)(aG:List (List A1)):Option (List (List A1)):=((N9 (V8 (fun(s1:Int)=>(if cmp .lss s1 (Ar.len aG)then(B8 aG s1).bind fun x7=>N9 (some ([x7],())) fun _=>some ([],.inl (ar .add .i64 s1 1))else some ([],.inr ()):Option (List (List A1)×((Int) ⊕ (Unit))))) N 0) fun s6=>some ([],())):Option (List (List A1)×Unit)).bind fun q=>some q.1
def O2 (N:Nat)(aH:List (List A1)):Option (List (List A1)):=E4 N aH
def AZ (N:Nat)(aO:A1)(bC:A1):Option Int:=some (ar .sub .i64 aO.at_ bC.at_)
def K7 (N:Nat)(aC:List A1)(aD:List A1):Option (List A1):=(RV 0 (ar .add .i64 (Ar.len aC) (Ar.len aD)) ((⟨0,0⟩:A1):A1)).bind fun l2=>(K9 l2 aC).bind fun l4=>(K9 l4 aD).bind fun l6=>(GC (fun y1 y2=>AZ N y1 y2) l6).bind fun l7=>some l7
def K4 (N:Nat)(aH:List A1):Option Int:=(B8 aH (ar .sub .i64 (Ar.len aH) 1)).bind fun x1=>some x1.at_
def O3 (N:Nat)(aH:List A1)(aS:A1→Option Bool):Option Int:=(loopN (fun(s1:Int)=>(if cmp .lss s1 (Ar.len aH)then(B8 aH s1).bind fun x3=>(aS x3).bind fun r4=>if r4 then some (.inr (.inr s1))else some (.inl (ar .add .i64 s1 1))else some (.inr (.inl ())):Option ((Int) ⊕ (Unit ⊕ Int)))) N 0).bind fun s2=>match s2 with
 | .inl y5=>some (-1)
 | .inr y6=>some y6
def G3 (N:Nat)(aH:List A1)(aS:A1→Option Bool):Option Bool:=(O3 N aH aS).bind fun r1=>some (cmp .geq r1 0)
def T6 (N:Nat)(aO:A1)(aG:Int):Option Bool:=some (cmp .eql aO.at_ aG)
def S3 (N:Nat)(aH:List A1)(bG:Int):Option Bool:=(G3 N aH (fun y1=>T6 N y1 bG)).bind fun r1=>some r1
def W9 (N:Nat)(aO:A1)(aG:List A1):Option Bool:=(S3 N aG aO.at_).bind fun r1=>some r1
def Aj (N:Nat)(aC:List A1)(aD:List A1):Option Bool:=(G3 N aC (fun y1=>W9 N y1 aD)).bind fun r1=>some r1
def S7 (N:Nat):Nat→List (List (List A1))→List A1→Option (List (List A1))
 |0,_,_=>none
 |n+1,bR,bK=>((if cmp .eql (Ar.len bR) 0 then N9 (some ([bK],())) fun _=>some ([],())else(B8 bR 0).bind fun x2=>N9 (V8 (fun(s3:Int)=>(if cmp .lss s3 (Ar.len x2)then(B8 x2 s3).bind fun x9=>(Aj N bK x9).bind fun r10=>if nt r10 then(Ap bR (some 1) none none).bind fun l11=>(K7 N bK x9).bind fun r13=>(S7 N n l11 r13).bind fun l14=>N9 (some (l14,())) fun _=>some ([],.inl (ar .add .i64 s3 1))else some ([],.inl (ar .add .i64 s3 1))else some ([],.inr ()):Option (List (List A1)×((Int) ⊕ (Unit))))) N 0) fun s8=>some ([],())):Option (List (List A1)×Unit)).bind fun q=>some q.1
def Q4 (N:Nat) (aJ:B0) (aA:A0) (aM:List A1) (aH:List A1):Option Bool:=if cmp .eql aA.Op 6 then(K4 N aH).bind fun r1=>(B8 aJ.cX r1).bind fun x2=>(B8 aH 0).bind fun x3=>(B8 aJ.cX x3.at_).bind fun x4=>some (cmp .leq (ar .sub .i64 x2.Time x4.Time) aA.Span)else if cmp .eql aA.Op 7 then(K7 N aM aH).bind fun r5=>(P7 N aJ r5 (Ar.len aJ.cX)).bind fun r6=>(CH N aA.cQ r6 (-1) (⟨0,0,0,0,[]⟩:A5)).bind fun r7=>some r7 else(K7 N aM aH).bind fun r8=>(B8 aH 0).bind fun x9=>(loopN (fun(s10:Int)=>((K4 N aH).bind fun r12=>if cmp .lss s10 r12 then(B8 aJ.cX s10).bind fun x13=>if cmp .eql x13.Typ aA.Typ then(S3 N aH s10).bind fun r14=>if nt r14 then(G5 N aJ aA.cQ r8 aA.Var s10).bind fun r15=>if r15 then some (.inr (.inr ()))else some (.inl (ar .add .i64 s10 1))else some (.inl (ar .add .i64 s10 1))else some (.inl (ar .add .i64 s10 1))else some (.inr (.inl ())):Option ((Int) ⊕ (Unit ⊕ Unit)))) N (ar .add .i64 x9.at_ 1)).bind fun s11=>match s11 with
   | .inl y16=>some true
   | .inr y17=>some false
mutual
def C5 (N:Nat):Nat→B0→A0→List A1→Int→Option (List (List A1))
 |0,_,_,_,_=>none
 |n+1,aJ,aA,aM,aK=>(Av N).bind fun r5=>(B8 ([fun y1 y2 y3 y4=>J8 N y1 y2 y3 y4,fun y1 y2 y3 y4=>L5 N n y1 y2 y3 y4,fun y1 y2 y3 y4=>L6 N n y1 y2 y3 y4,fun y1 y2 y3 y4=>L7 N n y1 y2 y3 y4,fun y1 y2 y3 y4=>K6 N n y1 y2 y3 y4,fun y1 y2 y3 y4=>E6 N n y1 y2 y3 y4,fun y1 y2 y3 y4=>E6 N n y1 y2 y3 y4,fun y1 y2 y3 y4=>E6 N n y1 y2 y3 y4]:List (B0→A0→(List A1)→Int→Option (List (List A1)))) aA.Op).bind fun f7=>(f7 aJ aA aM aK).bind fun r8=>(H6 (fun(s11:(List (ByteArray×Bool))×(List (List A1))) (y10:(List A1))=>((M1 N y10).bind fun r17=>(IB s11.1 r17 (false:Bool)).bind fun r18=>if r18.1 then some (.inl (s11.1,s11.2))else(HE s11.1 r17 true).bind fun l20=>(K9 s11.2 ([y10])).bind fun l22=>((if cmp .gtr (Ar.len l22) 4096 then none else some ()):Option (Unit)).bind fun s23=>if aJ.full then some (.inr (l20,l22))else some (.inl (l20,l22)):Option (((List (ByteArray×Bool))×(List (List A1))) ⊕ (((List (ByteArray×Bool))×(List (List A1))))))) r8 (([]:List (ByteArray×Bool)),[])).bind fun o16=>match o16 with
  | .inl s28=>some s28.2
  | .inr y31=>some ([])
def L5 (N:Nat):Nat→B0→A0→List A1→Int→Option (List (List A1))
 |0,_,_,_,_=>none
 |n+1,aJ,aA,aM,aK=>if cmp .eql (Ar.len aA.cP) 1 then(B8 aA.cP 0).bind fun x1=>(C5 N n aJ x1 aM aK).bind fun r2=>(O2 N r2).bind fun r3=>some r3 else(Ap aA.cP (some 1) none none).bind fun l6=>(B8 aA.cP 0).bind fun x8=>(K5 N n aJ x8 aM aK (fun y1 y2=>J7 N n y1 y2 aJ ({aA with cP:=l6}))).bind fun r9=>some r9
def L6 (N:Nat):Nat→B0→A0→List A1→Int→Option (List (List A1))
 |0,_,_,_,_=>none
 |n+1,aJ,aA,aM,aK=>Q5 N n aA aJ aM aK
def L7 (N:Nat):Nat→B0→A0→List A1→Int→Option (List (List A1))
 |0,_,_,_,_=>none
 |n+1,aJ,aA,aM,aK=>Q6 N n aA aJ aM aK
def K6 (N:Nat):Nat→B0→A0→List A1→Int→Option (List (List A1))
 |0,_,_,_,_=>none
 |n+1,aJ,aA,aM,aK=>O6 N n aJ aA aM aK
def E6 (N:Nat):Nat→B0→A0→List A1→Int→Option (List (List A1))
 |0,_,_,_,_=>none
 |n+1,aJ,aA,aM,aK=>O5 N n aJ aA aM aK
def K5 (N:Nat):Nat→B0→A0→List A1→Int→((List A1)→Int→Option (List (List A1)))→Option (List (List A1))
 |0,_,_,_,_,_=>none
 |n+1,aJ,aA,aM,aK,bU=>O4 N n aJ aA aM aK bU
def J7 (N:Nat):Nat→List A1→Int→B0→A0→Option (List (List A1))
 |0,_,_,_,_=>none
 |n+1,aM,aK,aI,aN=>(C5 N n aI aN aM aK).bind fun r1=>some r1
def Q5 (N:Nat):Nat→A0→B0→List A1→Int→Option (List (List A1))
 |0,_,_,_,_=>none
 |n+1,aG,aI,aN,aR=>((N9 (V8 (fun(s1:Int)=>(if cmp .lss s1 (Ar.len aG.cP)then(B8 aG.cP s1).bind fun x7=>(C5 N n aI x7 aN aR).bind fun r8=>N9 (V8 (fun(s9:Int)=>(if cmp .lss s9 (Ar.len r8)then(B8 r8 s9).bind fun x15=>N9 (some ([x15],())) fun _=>some ([],.inl (ar .add .i64 s9 1))else some ([],.inr ()):Option (List (List A1)×((Int) ⊕ (Unit))))) N 0) fun s14=>some ([],.inl (ar .add .i64 s1 1))else some ([],.inr ()):Option (List (List A1)×((Int) ⊕ (Unit))))) N 0) fun s6=>some ([],())):Option (List (List A1)×Unit)).bind fun q=>some q.1
def Q6 (N:Nat):Nat→A0→B0→List A1→Int→Option (List (List A1))
 |0,_,_,_,_=>none
 |n+1,aG,aI,aN,aR=>((N9 (V8 (fun(s1:(List (List (List A1)))×Int)=>(if cmp .lss s1.2 (Ar.len aG.cP)then(B8 aG.cP s1.2).bind fun x8=>(C5 N n aI x8 aN aR).bind fun r9=>(K9 s1.1 ([r9])).bind fun l11=>some ([],.inl (l11,ar .add .i64 s1.2 1))else some ([],.inr s1.1):Option (List (List A1)×(((List (List (List A1)))×Int) ⊕ (((List (List (List A1))))))))) N ([],0)) fun s7=>if nt aI.full then(S7 N N s7 ([])).bind fun l13=>N9 (some (l13,())) fun _=>some ([],())else some ([],())):Option (List (List A1)×Unit)).bind fun q=>some q.1
def O6 (N:Nat):Nat→B0→A0→List A1→Int→Option (List (List A1))
 |0,_,_,_,_=>none
 | n+1,aG,aI,aN,aR=>(((B8 aI.cP 0).bind fun x1=>(C5 N n aG x1 aN aR).bind fun r2=>N9 (V8 (fun(s3:Int)=>(if cmp .lss s3 (Ar.len r2)then(B8 r2 s3).bind fun x9=>if aG.full then some ([],.inr (.inr ()))else N9 (some ([x9],())) fun _=>some ([],.inl (ar .add .i64 s3 1))else some ([],.inr (.inl ())):Option (List (List A1)×((Int) ⊕ (Unit ⊕ Unit))))) N 0) fun s8=>match s8 with
   | .inl y11=>(B8 aI.cP 0).bind fun x12=>(K5 N n aG x12 aN aR (fun y1 y2=>G7 N n y1 y2 aG aI)).bind fun r13=>N9 (Bl (fun(_:Unit) (y15:(List A1))=>(N9 (some ([y15],())) fun _=>some ([],.inl ()):Option (List (List A1)×(Unit ⊕ Unit)))) r13 ()) fun o22=>match o22 with
    | .inl _=>some ([],())
    | .inr _=>none
   | .inr y25=>some ([],())):Option (List (List A1)×Unit)).bind fun q=>some q.1
def G7 (N:Nat):Nat→List A1→Int→B0→A0→Option (List (List A1))
 |0,_,_,_,_=>none
 |n+1,aM,aK,aI,aN=>(C5 N n aI aN aM aK).bind fun r1=>some r1
def O5 (N:Nat):Nat→B0→A0→List A1→Int→Option (List (List A1))
 |0,_,_,_,_=>none
 |n+1,aG,aI,aN,aR=>(((B8 aI.cP 0).bind fun x1=>(C5 N n aG x1 aN aR).bind fun r2=>N9 (V8 (fun(s3:Int)=>(if cmp .lss s3 (Ar.len r2)then(B8 r2 s3).bind fun x9=>(Q4 N aG aI aN x9).bind fun r10=>if r10 then N9 (some ([x9],())) fun _=>some ([],.inl (ar .add .i64 s3 1))else some ([],.inl (ar .add .i64 s3 1))else some ([],.inr ()):Option (List (List A1)×((Int) ⊕ (Unit))))) N 0) fun s8=>some ([],())):Option (List (List A1)×Unit)).bind fun q=>some q.1
def O4 (N:Nat):Nat→B0→A0→List A1→Int→((List A1)→Int→Option (List (List A1)))→Option (List (List A1))
 |0,_,_,_,_,_=>none
 | n + 1,aG,aI,aN,aR,bX=>(((C5 N n aG aI aN aR).bind fun r1=>N9 (V8 (fun(s2:Int)=>(if cmp .lss s2 (Ar.len r1)then(B8 r1 s2).bind fun x8=>(K7 N aN x8).bind fun r9=>(K4 N x8).bind fun r10=>(bX r9 (ar .add .i64 r10 1)).bind fun r11=>N9 (V8 (fun(s12:Int)=>(if cmp .lss s12 (Ar.len r11)then(B8 r11 s12).bind fun x18=>if aG.full then some ([],.inr (.inr ()))else(K7 N x8 x18).bind fun r19=>N9 (some ([r19],())) fun _=>some ([],.inl (ar .add .i64 s12 1))else some ([],.inr (.inl ())):Option (List (List A1)×((Int) ⊕ (Unit ⊕ Unit))))) N 0) fun s17=>match s17 with
       | .inl y21=>some ([],.inl (ar .add .i64 s2 1))
       | .inr y22=>some ([],.inr (.inr ()))else some ([],.inr (.inl ())):Option (List (List A1)×((Int) ⊕ (Unit ⊕ Unit))))) N 0) fun s7=>match s7 with
   | .inl y23=>some ([],())
   | .inr y24=>some ([],())):Option (List (List A1)×Unit)).bind fun q=>some q.1
end
def M2 (N:Nat)(aA:A0)(aF:List A5):Option ((List C8)×Int):=(Bv N aA).bind fun r1=>if cmp .neq r1 0 then some ([],r1)else(Cb N aF).bind fun r2=>if cmp .neq r2 0 then some ([],r2)else(C5 N N (⟨aF,false⟩:B0) aA ([]) 0).bind fun r3=>(loopN (fun(s5:Int×(List C8))=>(if cmp .lss s5.1 (Ar.len r3)then(B8 r3 s5.1).bind fun x8=>(loopN (fun(s10:Int×C8)=>(if cmp .lss s10.1 (Ar.len x8)then(B8 x8 s10.1).bind fun x13=>(B8 aF x13.at_).bind fun x14=>(CJ N x14).bind fun r15=>(K9 s10.2.cR ([(⟨x13.cU,r15⟩:C7)])).bind fun l17=>some (.inl (ar .add .i64 s10.1 1,{s10.2 with cR:=l17}))else some (.inr s10.2):Option ((Int×C8) ⊕ (C8)))) N (0,(⟨[]⟩:C8))).bind fun s12=>(K9 s5.2 ([s12])).bind fun l20=>some (.inl (ar .add .i64 s5.1 1,l20))else some (.inr s5.2):Option ((Int×(List C8)) ⊕ (((List C8)))))) N (0,([]:List C8))).bind fun s7=>(GC (fun y1 y2=>Ao N y1 y2) s7).bind fun l22=>some (l22,0)
def X0 (N:Nat)(aA:A0)(aF:List A5):Option ((List C8)×Int):=(M2 N aA aF).bind fun r1=>some (r1.1,r1.2)
def Dl (N:Nat)(aA:A0)(aF:List A5):Option (Int×Int):=(M2 N aA aF).bind fun r1=>some (Ar.len r1.1,r1.2)
def Dk (N:Nat)(aA:A0)(aF:List A5):Option (C8×Bool×Int):=(M2 N aA aF).bind fun r2=>if Ar.or (cmp .neq r2.2 0) (cmp .eql (Ar.len r2.1) 0)then some ((⟨[]⟩:C8),false,r2.2)else(B8 r2.1 0).bind fun x3=>some (x3,true,0)
def FN (N:Nat)(aO:List Int):Option (List A5):=(loopN (fun(s1:(List A5)×Int)=>(if cmp .lss s1.2 (Ar.len aO)then(B8 aO s1.2).bind fun x4=>(K9 s1.1 ([(⟨0,s1.2,0,ar .add .i64 s1.2 1,[(⟨0,x4,⟨#[]⟩⟩:A7)]⟩:A5)])).bind fun l6=>some (.inl (l6,ar .add .i64 s1.2 1))else some (.inr s1.1):Option (((List A5)×Int) ⊕ (((List A5)))))) N ([],0)).bind fun s3=>some s3
def BJ (N:Nat)(aP:Int)(cE:List A0):Option A0:=some (⟨aP,cE,0,0,0,0,(⟨0,[],0,0,0,(⟨0,0,⟨#[]⟩⟩:A7)⟩:A4)⟩:A0)
def Bd (N:Nat)(aL:Int)(bP:A4):Option A0:=some (⟨0,[],0,aL,0,0,bP⟩:A0)
def Ik (N:Nat)(aD:Bool):Option A7:=if aD then some (⟨1,1,⟨#[]⟩⟩:A7)else some (⟨1,0,⟨#[]⟩⟩:A7)
def Fk (N:Nat):Option A4:=(Ik N true).bind fun r2=>some (⟨0,[],0,0,0,r2⟩:A4)
def BK (N:Nat)(aC:A4)(aD:A4):Option A4:=some (⟨7,[aC,aD],0,0,0,(⟨0,0,⟨#[]⟩⟩:A7)⟩:A4)
def Z8 (N:Nat)(aL:Int):Option A4:=some (⟨1,[],aL,0,0,(⟨0,0,⟨#[]⟩⟩:A7)⟩:A4)
def Be (N:Nat)(aV:Int):Option A4:=some (⟨0,[],0,0,0,(⟨0,aV,⟨#[]⟩⟩:A7)⟩:A4)
def J6 (N:Nat):Option Bool:=(FN N ([5,3,8,5])).bind fun r1=>(Fk N).bind fun r2=>(Bd N 0 r2).bind fun r3=>(Z8 N 0).bind fun r4=>(Z8 N 1).bind fun r5=>(BK N r4 r5).bind fun r6=>(Bd N 1 r6).bind fun r7=>(BJ N 1 ([r3,r7])).bind fun r8=>(Fk N).bind fun r9=>(Bd N 1 r9).bind fun r10=>(Fk N).bind fun r11=>(Bd N 2 r11).bind fun r12=>(BJ N 1 ([r10,r12])).bind fun r13=>(BJ N 5 ([r13])).bind fun r14=>(Be N 6).bind fun r16=>(Z8 N 0).bind fun r17=>(BK N r16 r17).bind fun r18=>(Z8 N 0).bind fun r19=>(Be N 6).bind fun r20=>(BK N r19 r20).bind fun r21=>(Bd N 0 r21).bind fun r22=>(BJ N 4 ([r22])).bind fun r23=>(Be N 4).bind fun r24=>(Z8 N 0).bind fun r25=>(BK N r24 r25).bind fun r26=>(Bd N 0 r26).bind fun r27=>(Z8 N 1).bind fun r28=>(Be N 6).bind fun r29=>(BK N r28 r29).bind fun r30=>(Bd N 1 r30).bind fun r31=>(BJ N 3 ([r27,r31])).bind fun r32=>(loopN (fun(s33:Int)=>(if cmp .lss s33 5 then(B8 ([r8,(⟨6,[r8],0,0,0,1,(⟨0,[],0,0,0,(⟨0,0,⟨#[]⟩⟩:A7)⟩:A4)⟩:A0),{r14 with cQ:=r18},r23,r32]) s33).bind fun x35=>(Dl N x35 r1).bind fun r37=>(X0 N x35 r1).bind fun r38=>if Ar.or (cmp .neq r37.2 0) (cmp .neq r38.2 0)then some (.inr (.inr ()))else(B8 ([3,1,4,7,7]) s33).bind fun x39=>if Ar.or (cmp .neq r37.1 x39) (cmp .neq (Ar.len r38.1) r37.1)then some (.inr (.inr ()))else some (.inl (ar .add .i64 s33 1))else some (.inr (.inl ())):Option ((Int) ⊕ (Unit ⊕ Unit)))) N 0).bind fun s34=>match s34 with
 | .inl y40=>(Dk N r8 r1).bind fun r41=>if an (an (cmp .eql r41.2.2 0) r41.2.1) (cmp .eql (Ar.len r41.1.cR) 2)then(B8 r41.1.cR 1).bind fun x42=>some (an (cmp .eql x42.Var 1) (an (cmp .eql x42.Ref.Time 3) (an (cmp .eql x42.Ref.Source 0) (an (cmp .eql x42.Ref.Seq 2) true))))else some false
 | .inr y43=>some false
def M7 (N:Nat)(aA:A0):Option Bool:=some (Ar.or (cmp .eql aA.Op 5) (cmp .eql aA.Op 9))
def O7 (N:Nat)(aA:A0):Option Bool:=if cmp .eql aA.Op 0 then some true else(M7 N aA).bind fun r1=>some r1
def M3 (N:Nat)(aA:A0):Option Bool:=some (Ar.or (cmp .eql aA.Op 6) (cmp .eql aA.Op 10))
def O8 (N:Nat):Nat→A4→A4→Option Bool
 |0,_,_=>none
 | n+1,aC,aD=>if Ar.or (Ar.or (Ar.or (Ar.or (Ar.or (cmp .neq aC.Op aD.Op) (cmp .neq aC.Var aD.Var)) (cmp .neq aC.Field aD.Field)) (cmp .neq aC.Kind aD.Kind)) (nt (an (cmp .eql aC.Value.Kind aD.Value.Kind) (an (cmp .eql aC.Value.Num aD.Value.Num) (an (scmp .eql aC.Value.Text aD.Value.Text) true))))) (cmp .neq (Ar.len aC.cP) (Ar.len aD.cP))then some false else(loopN (fun(s1:Int)=>(if cmp .lss s1 (Ar.len aC.cP)then(B8 aC.cP s1).bind fun x3=>(B8 aD.cP s1).bind fun x4=>(O8 N n x3 x4).bind fun r5=>if nt r5 then some (.inr (.inr ()))else some (.inl (ar .add .i64 s1 1))else some (.inr (.inl ())):Option ((Int) ⊕ (Unit ⊕ Unit)))) N 0).bind fun s2=>match s2 with
   | .inl y6=>some true
   | .inr y7=>some false
def S9 (N:Nat)(aA:A0):Option Bool:=(O7 N aA).bind fun r1=>some (Ar.or r1 (cmp .eql aA.Op 7))
def BG (N:Nat)(aP:Int):Option (Bool×Bool):=some (Ar.or (Ar.or (Ar.or (cmp .eql aP 1) (cmp .eql aP 4)) (cmp .eql aP 2)) (cmp .eql aP 3),Ar.or (cmp .eql aP 1) (cmp .eql aP 4))
def Dd (N:Nat)(aL:A7):Option Int:=if Ar.or (cmp .lss aL.Kind 0) (cmp .gtr aL.Kind 2)then some 1 else if cmp .eql aL.Kind 2 then if cmp .neq aL.Num 0 then some 3 else if cmp .gtr (Ar.slen aL.Text) 64 then some 13 else some 0 else if scmp .neq aL.Text (⟨#[]⟩:ByteArray)then some 3 else if Ar.or (Ar.or (an (cmp .eql aL.Kind 1) (Ar.or (cmp .lss aL.Num 0) (cmp .gtr aL.Num 1))) (cmp .lss aL.Num (-1099511627776))) (cmp .gtr aL.Num 1099511627776)then some 2 else some 0
def Da (N:Nat)(aP:Int):Option Int:=((if cmp .eql aP 0 then some true else if cmp .eql aP 1 then some true else if cmp .eql aP 2 then some true else if cmp .eql aP 3 then some true else some (cmp .eql aP 4)):Option (Bool)).bind fun s1=>if s1 then some 0 else if cmp .eql aP 12 then some 1 else if cmp .eql aP 5 then some 2 else if cmp .eql aP 6 then some 2 else if cmp .eql aP 7 then some 2 else if cmp .eql aP 8 then some 2 else if cmp .eql aP 9 then some 2 else if cmp .eql aP 10 then some 2 else if cmp .eql aP 11 then some 2 else some (-1)
def Db (N:Nat)(bJ:Int)(aL:A7):Option Bool:=some (Ar.or (Ar.or (Ar.or (cmp .eql aL.Kind 0) (cmp .eql bJ 0)) (cmp .eql bJ 4)) (cmp .eql bJ 5))
def Cz (N:Nat) (aB:A4):Option Int:=(Da N aB.Op).bind fun r1=>if cmp .lss r1 0 then some 1 else if cmp .neq (Ar.len aB.cP) r1 then some 15 else(BG N aB.Op).bind fun r2=>if Ar.or (an r2.1 (Ar.or (cmp .lss aB.Var 0) (cmp .geq aB.Var 16))) (an r2.2 (Ar.or (cmp .lss aB.Field 0) (cmp .geq aB.Field 8)))then some 2 else if an (cmp .eql aB.Op 4) (Ar.or (cmp .lss aB.Kind 1) (cmp .gtr aB.Kind 5))then some 1 else((if Ar.or (cmp .eql aB.Op 4) (cmp .eql aB.Op 0)then(Dd N aB.Value).bind fun r4=>if cmp .neq r4 0 then some (.inr r4)else some (.inl ())else some (.inl ())):Option (Unit ⊕ Int)).bind fun s3=>match s3 with
     | .inl y5=>if cmp .eql aB.Op 4 then(Db N aB.Kind aB.Value).bind fun r6=>if Ar.or (nt r6) (an (cmp .eql aB.Kind 1) (nt (an (cmp .eql aB.Value.Kind 0) (an (cmp .eql aB.Value.Num 0) (an (scmp .eql aB.Value.Text (⟨#[]⟩)) true)))))then some 9 else if Ar.or (Ar.or (Ar.or (an (nt r2.1) (cmp .neq aB.Var 0)) (an (nt r2.2) (cmp .neq aB.Field 0))) (an (nt (cmp .eql aB.Op 4)) (cmp .neq aB.Kind 0))) (an (nt (Ar.or (cmp .eql aB.Op 4) (cmp .eql aB.Op 0))) (nt (an (cmp .eql aB.Value.Kind 0) (an (cmp .eql aB.Value.Num 0) (an (scmp .eql aB.Value.Text (⟨#[]⟩)) true)))))then some 3 else some 0 else if Ar.or (Ar.or (Ar.or (an (nt r2.1) (cmp .neq aB.Var 0)) (an (nt r2.2) (cmp .neq aB.Field 0))) (an (nt (cmp .eql aB.Op 4)) (cmp .neq aB.Kind 0))) (an (nt (Ar.or (cmp .eql aB.Op 4) (cmp .eql aB.Op 0))) (nt (an (cmp .eql aB.Value.Kind 0) (an (cmp .eql aB.Value.Num 0) (an (scmp .eql aB.Value.Text (⟨#[]⟩)) true)))))then some 3 else some 0
     | .inr y7=>some y7
def Z7 (N:Nat):Nat→A4→Option Int
 |0,_=>none
 | n+1,aB=>(Cz N aB).bind fun r1=>if cmp .neq r1 0 then some r1 else(loopN (fun(s2:Int)=>(if cmp .lss s2 (Ar.len aB.cP)then(B8 aB.cP s2).bind fun x4=>(Z7 N n x4).bind fun r5=>if cmp .neq r5 0 then some (.inr (.inr r5))else some (.inl (ar .add .i64 s2 1))else some (.inr (.inl ())):Option ((Int) ⊕ (Unit ⊕ Int)))) N 0).bind fun s3=>match s3 with
   | .inl y6=>some 0
   | .inr y7=>some y7
def AM (N:Nat)(aB:A4):Option Int:=(V1 N N aB 64).bind fun r1=>if cmp .gtr r1 64 then some 5 else(V0 N N aB).bind fun r2=>if cmp .gtr r2 12 then some 12 else(Z7 N N aB).bind fun r3=>some r3
def CZ (N:Nat)(aA:A0):Option Bool:=if cmp .eql aA.Op 0 then some (cmp .eql (Ar.len aA.cP) 0)else((if cmp .eql aA.Op 1 then some true else if cmp .eql aA.Op 2 then some true else some (cmp .eql aA.Op 3)):Option (Bool)).bind fun s1=>if s1 then some (cmp .geq (Ar.len aA.cP) 2)else if cmp .eql aA.Op 8 then some (cmp .eql (Ar.len aA.cP) 2)else some (cmp .eql (Ar.len aA.cP) 1)
def Z0 (N:Nat)(bH:Bool)(aV:Int)(bQ:Int):Option Bool:=some (an bH (Ar.or (cmp .lss aV 0) (cmp .gtr aV bQ)))
def S8 (N:Nat) (aA:A0):Option Int:=if Ar.or (cmp .lss aA.Op 0) (cmp .gtr aA.Op 10)then some 1 else(CZ N aA).bind fun r1=>if nt r1 then some 15 else(O7 N aA).bind fun r2=>(M7 N aA).bind fun r3=>if r3 then(S9 N aA).bind fun r4=>(Z0 N r2 aA.Typ 15).bind fun r5=>if r5 then some 2 else(Z0 N r2 aA.Var 15).bind fun r6=>if r6 then some 2 else(Z0 N true aA.cS 63).bind fun r7=>if r7 then some 2 else(M3 N aA).bind fun r8=>(Z0 N r8 aA.Span 1099511627776).bind fun r9=>if r9 then some 2 else((if r4 then(AM N aA.cQ).bind fun r11=>if cmp .neq r11 0 then some (.inr r11)else some (.inl ())else some (.inl ())):Option (Unit ⊕ Int)).bind fun s10=>match s10 with
        | .inl y12=>if Ar.or (an (nt r2) (Ar.or (cmp .neq aA.Typ 0) (cmp .neq aA.Var 0))) (an (nt true) (cmp .neq aA.cS 0))then some 3 else(M3 N aA).bind fun r13=>if an (nt r13) (cmp .neq aA.Span 0)then some 3 else if nt r4 then(O8 N N aA.cQ (⟨0,[],0,0,0,(⟨0,0,⟨#[]⟩⟩:A7)⟩:A4)).bind fun r14=>if nt r14 then some 3 else some 0 else some 0
        | .inr y15=>some y15 else(M3 N aA).bind fun r16=>(S9 N aA).bind fun r17=>(Z0 N r2 aA.Typ 15).bind fun r18=>if r18 then some 2 else(Z0 N r2 aA.Var 15).bind fun r19=>if r19 then some 2 else(Z0 N r16 aA.cS 63).bind fun r20=>if r20 then some 2 else(M3 N aA).bind fun r21=>(Z0 N r21 aA.Span 1099511627776).bind fun r22=>if r22 then some 2 else((if r17 then(AM N aA.cQ).bind fun r24=>if cmp .neq r24 0 then some (.inr r24)else some (.inl ())else some (.inl ())):Option (Unit ⊕ Int)).bind fun s23=>match s23 with
        | .inl y25=>if Ar.or (an (nt r2) (Ar.or (cmp .neq aA.Typ 0) (cmp .neq aA.Var 0))) (an (nt r16) (cmp .neq aA.cS 0))then some 3 else(M3 N aA).bind fun r26=>if an (nt r26) (cmp .neq aA.Span 0)then some 3 else if nt r17 then(O8 N N aA.cQ (⟨0,[],0,0,0,(⟨0,0,⟨#[]⟩⟩:A7)⟩:A4)).bind fun r27=>if nt r27 then some 3 else some 0 else some 0
        | .inr y28=>some y28
def W5 (N:Nat) (aA:A0):Option Int:=(U8 N N aA 64).bind fun r1=>if cmp .gtr r1 64 then some 5 else(U9 N N aA).bind fun r2=>if cmp .gtr r2 12 then some 12 else(J5 N N aA).bind fun r3=>(loopN (fun(s4:Int)=>(if cmp .lss s4 (Ar.len r3)then(B8 r3 s4).bind fun x6=>(S8 N x6).bind fun r7=>if cmp .neq r7 0 then some (.inr (.inr r7))else some (.inl (ar .add .i64 s4 1))else some (.inr (.inl ())):Option ((Int) ⊕ (Unit ⊕ Int)))) N 0).bind fun s5=>match s5 with
   | .inl y8=>some 0
   | .inr y9=>some y9
def Ba (N:Nat)(aF:List A0):Option Bool:=(loopN (fun(s1:Int)=>(if cmp .lss s1 (Ar.len aF)then(B8 aF s1).bind fun x3=>if cmp .geq x3.Op 8 then some (.inr (.inr ()))else some (.inl (ar .add .i64 s1 1))else some (.inr (.inl ())):Option ((Int) ⊕ (Unit ⊕ Unit)))) N 0).bind fun s2=>match s2 with
 | .inl y4=>some true
 | .inr y5=>some false
def X3 (N:Nat) (aA:A0):Option Int:=(W5 N aA).bind fun r1=>if cmp .neq r1 0 then some r1 else(J5 N N aA).bind fun r2=>(Ba N r2).bind fun r3=>if nt r3 then some 1 else(loopN (fun(s4:Int×Int×Int)=>(if cmp .lss s4.2.2 (Ar.len r2)then(B8 r2 s4.2.2).bind fun x6=>(O7 N x6).bind fun r7=>((if r7 then(B8 r2 s4.2.2).bind fun x9=>if cmp .neq x9.Var s4.1 then some (.inr ())else some (.inl (ar .add .i64 s4.1 1))else some (.inl s4.1)):Option (Int ⊕ Unit)).bind fun s8=>match s8 with
       | .inl y10=>(B8 r2 s4.2.2).bind fun x11=>(M7 N x11).bind fun r12=>if r12 then(B8 r2 s4.2.2).bind fun x13=>if cmp .neq x13.cS s4.2.1 then some (.inr (.inr ()))else some (.inl (y10,ar .add .i64 s4.2.1 1,ar .add .i64 s4.2.2 1))else(B8 r2 s4.2.2).bind fun x14=>(M3 N x14).bind fun r15=>if r15 then(B8 r2 s4.2.2).bind fun x16=>if cmp .neq x16.cS s4.2.1 then some (.inr (.inr ()))else some (.inl (y10,ar .add .i64 s4.2.1 1,ar .add .i64 s4.2.2 1))else some (.inl (y10,s4.2.1,ar .add .i64 s4.2.2 1))
       | .inr y17=>some (.inr (.inr ()))else some (.inr (.inl ())):Option ((Int×Int×Int) ⊕ (Unit ⊕ Unit)))) N (0,0,0)).bind fun s5=>match s5 with
   | .inl y18=>some 0
   | .inr y19=>some 14
def CB (N:Nat)(aB:A5):Option El:=some (⟨aB.Time,aB.Source,aB.Seq⟩:El)
def BT (N:Nat)(aC:El)(aD:El):Option Int:=if cmp .neq aC.Time aD.Time then if cmp .lss aC.Time aD.Time then some (-1)else some 1 else if cmp .neq aC.Source aD.Source then if cmp .lss aC.Source aD.Source then some (-1)else some 1 else if cmp .lss aC.Seq aD.Seq then some (-1)else if cmp .gtr aC.Seq aD.Seq then some 1 else some 0
def DA (N:Nat)(aB:A5):Option Bool:=some (an (an (an (an (an (cmp .geq aB.Time 0) (cmp .leq aB.Time 1099511627776)) (cmp .geq aB.Source 0)) (cmp .lss aB.Source 8)) (cmp .geq aB.Seq 0)) (cmp .leq aB.Seq 1099511627776))
def CA (N:Nat)(aC:A5)(aD:A5):Option Bool:=some (an (cmp .eql aC.Source aD.Source) (cmp .eql aC.Seq aD.Seq))
def Dc (N:Nat) (aF:List A5):Option Int:=if cmp .gtr (Ar.len aF) 4096 then some 5 else(loopN (fun(s1:Int)=>(if cmp .lss s1 (Ar.len aF)then(B8 aF s1).bind fun x3=>(DA N x3).bind fun r4=>if nt r4 then some (.inr (.inr 2))else if cmp .gtr s1 0 then(B8 aF (ar .sub .i64 s1 1)).bind fun x5=>(CB N x5).bind fun r6=>(B8 aF s1).bind fun x7=>(CB N x7).bind fun r8=>(BT N r6 r8).bind fun r9=>if cmp .geq r9 0 then some (.inr (.inr 14))else(loopN (fun(s10:Int)=>(if cmp .lss s10 s1 then(B8 aF s10).bind fun x12=>(B8 aF s1).bind fun x13=>(CA N x12 x13).bind fun r14=>if r14 then some (.inr (.inr ()))else some (.inl (ar .add .i64 s10 1))else some (.inr (.inl ())):Option ((Int) ⊕ (Unit ⊕ Unit)))) N 0).bind fun s11=>match s11 with
         | .inl y15=>some (.inl (ar .add .i64 s1 1))
         | .inr y16=>some (.inr (.inr 7))else(loopN (fun(s17:Int)=>(if cmp .lss s17 s1 then(B8 aF s17).bind fun x19=>(B8 aF s1).bind fun x20=>(CA N x19 x20).bind fun r21=>if r21 then some (.inr (.inr ()))else some (.inl (ar .add .i64 s17 1))else some (.inr (.inl ())):Option ((Int) ⊕ (Unit ⊕ Unit)))) N 0).bind fun s18=>match s18 with
        | .inl y22=>some (.inl (ar .add .i64 s1 1))
        | .inr y23=>some (.inr (.inr 7))else some (.inr (.inl ())):Option ((Int) ⊕ (Unit ⊕ Int)))) N 0).bind fun s2=>match s2 with
  | .inl y24=>some 0
  | .inr y25=>some y25
def Ew (N:Nat)(aA:A0)(aF:List A5):Option Int:=(X3 N aA).bind fun r1=>if cmp .neq r1 0 then some r1 else(Dc N aF).bind fun r2=>some r2
def CY (N:Nat)(aC:C7)(aD:C7):Option Int:=(BT N aC.Ref aD.Ref).bind fun r1=>if cmp .neq r1 0 then some r1 else if cmp .lss aC.Var aD.Var then some (-1)else if cmp .gtr aC.Var aD.Var then some 1 else some 0
def An (N:Nat)(aC:C8)(aD:C8):Option Int:=(loopN (fun(s1:Int)=>(if an (cmp .lss s1 (Ar.len aC.cR)) (cmp .lss s1 (Ar.len aD.cR))then(B8 aC.cR s1).bind fun x3=>(B8 aD.cR s1).bind fun x4=>(CY N x3 x4).bind fun r5=>if cmp .neq r5 0 then some (.inr (.inr r5))else some (.inl (ar .add .i64 s1 1))else some (.inr (.inl ())):Option ((Int) ⊕ (Unit ⊕ Int)))) N 0).bind fun s2=>match s2 with
 | .inl y6=>if cmp .lss (Ar.len aC.cR) (Ar.len aD.cR)then some (-1)else if cmp .gtr (Ar.len aC.cR) (Ar.len aD.cR)then some 1 else some 0
 | .inr y7=>some y7
def BF (N:Nat) (aC:List C8) (aD:List C8):Option Bool:=if cmp .neq (Ar.len aC) (Ar.len aD)then some false else(loopN (fun(s1:Int)=>(if cmp .lss s1 (Ar.len aC)then(B8 aC s1).bind fun x3=>(B8 aD s1).bind fun x4=>(An N x3 x4).bind fun r5=>if cmp .neq r5 0 then some (.inr (.inr ()))else some (.inl (ar .add .i64 s1 1))else some (.inr (.inl ())):Option ((Int) ⊕ (Unit ⊕ Unit)))) N 0).bind fun s2=>match s2 with
  | .inl y6=>some true
  | .inr y7=>some false
end Go.Ab
