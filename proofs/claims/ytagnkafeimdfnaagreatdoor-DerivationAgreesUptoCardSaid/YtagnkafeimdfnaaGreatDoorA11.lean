/- . -/
import Derived.Test.YtagnkafeimdfnaaGreatDoorA07
set_option linter.all false
open Go.Ab.Ar (an ar cmp mx nt scmp sh slen wr)
namespace Go.Ab
variable [Ar]
instance :DecidableEq J5:=λx y=>decidable_of_iff (x.source=y.source/\x.seq=y.seq) (by cases x;cases y;simp)
instance :DecidableEq D1:=λx y=>decidable_of_iff (x.node=y.node/\x.first=y.first/\x.last=y.last/\x.outer=y.outer) (by cases x;cases y;simp)
instance :DecidableEq Bb:=λx y=>decidable_of_iff (x.Time=y.Time/\x.Source=y.Source/\x.Seq=y.Seq) (by cases x;cases y;simp)
instance :DecidableEq B0:=λx y=>decidable_of_iff (x.Var=y.Var/\x.Ref=y.Ref) (by cases x;cases y;simp)
instance :DecidableEq D6:=λx y=>decidable_of_iff (x.dE=y.dE) (by cases x;cases y;simp)
def Cg (N:Nat):Nat->A0->OS (Up A0)
 |0,_=>none
 |n+1,S=>(loopN (λ(I:(Up A0)×Int)=>(if cmp .lss I.2 (Ar.len S.dD)then(C7 S.dD I.2).bind λg=>(Cg N n g).bind λb=>(V7 I.1 b).bind λa=>some (.inl (a,ar .add .i64 I.2 1))else some (.inr I.1):OS (((Up A0)×Int)⊕(((Up A0)))))) N ([S],0)).bind λe=>some e
def CN (N:Nat):Nat->A0->Int->OS Int
 |0,_,_=>none
 |n+1,S,a=>(loopN (λ(I:Int×Int)=>(if an (cmp .lss I.2 (Ar.len S.dD)) (cmp .leq I.1 a)then(C7 S.dD I.2).bind λe=>(CN N n e a).bind λb=>some (.inl (ar .add .i64 I.1 b,ar .add .i64 I.2 1))else some (.inr I.1):OS ((Int×Int)⊕(Int)))) N (1,0)).bind λd=>some d
def Ch (N:Nat):Nat->A0->OS Int
 |0,_=>none
 |n+1,S=>(loopN (λ(I:Int×Int)=>(if cmp .lss I.2 (Ar.len S.dD)then(C7 S.dD I.2).bind λb=>(Ch N n b).bind λa=>some (.inl (mx I.1 a,ar .add .i64 I.2 1))else some (.inr I.1):OS ((Int×Int)⊕(Int)))) N (0,0)).bind λd=>some (ar .add .i64 d 1)
def CP (N:Nat):Nat->B6->Int->OS Int
 |0,_,_=>none
 |n+1,a,b=>(loopN (λ(I:Int×Int)=>(if an (cmp .lss I.2 (Ar.len a.dD)) (cmp .leq I.1 b)then(C7 a.dD I.2).bind λg=>(CP N n g b).bind λe=>some (.inl (ar .add .i64 I.1 e,ar .add .i64 I.2 1))else some (.inr I.1):OS ((Int×Int)⊕(Int)))) N (1,0)).bind λd=>some d
def Ci (N:Nat):Nat->B6->OS Int
 |0,_=>none
 |n+1,a=>(loopN (λ(I:Int×Int)=>(if cmp .lss I.2 (Ar.len a.dD)then(C7 a.dD I.2).bind λe=>(Ci N n e).bind λb=>some (.inl (mx I.1 b,ar .add .i64 I.2 1))else some (.inr I.1):OS ((Int×Int)⊕(Int)))) N (0,0)).bind λd=>some (ar .add .i64 d 1)
variable (N:Nat)
def JM(a:B6):OS Bool:=(CP N N a 200).bind λb=>if cmp .leq b 200 then(Ci N N a).bind λv=>some (cmp .leq v 100)else some false
def OZ(S:A0):OS Bool:=(CN N N S 150).bind λe=>if cmp .gtr e 150 then some false else(Ch N N S).bind λv=>if cmp .gtr v 60 then some false else(Cg N N S).bind λb=>(loopN (λ(a:Int)=>(if cmp .lss a (Ar.len b)then(C7 b a).bind λi=>(JM N i.dF).bind λg=>if nt g then some (.inr (.inr ()))else some (.inl (ar .add .i64 a 1))else some (.inr (.inl ())):OS ((Int)⊕(Unit⊕Unit)))) N 0).bind λh=>match h with
   | .inl k=>some true
   | .inr l=>some false
def Cb (N:Nat):Nat->A0->OS Int
 |0,_=>none
 |n+1,S=>((if cmp .eql S.Op 0 then some 1 else some 0):OS (Int)).bind λI=>(loopN (λ(d:Int×Int)=>(if cmp .lss d.2 (Ar.len S.dD)then(C7 S.dD d.2).bind λe=>(Cb N n e).bind λa=>some (.inl (ar .add .i64 d.1 a,ar .add .i64 d.2 1))else some (.inr d.1):OS ((Int×Int)⊕(Int)))) N (I,0)).bind λb=>some b
def Ja(e:Int)(a:Int)(b:Int):OS Int:=(loopN (λ(I:Int×Int)=>(if an (cmp .lss I.2 a) (cmp .leq I.1 b)then some (.inl (ar .mul .i64 I.1 e,ar .add .i64 I.2 1))else some (.inr I.1):OS ((Int×Int)⊕(Int)))) N (1,0)).bind λd=>some d
def Dq (N:Nat):Nat->A0->OS Bool
 |0,_=>none
 | n+1,S=>if cmp .eql S.Op 4 then some true else(loopN (λ(I:Int)=>(if cmp .lss I (Ar.len S.dD)then(C7 S.dD I).bind λb=>(Dq N n b).bind λa=>if a then some (.inr (.inr ()))else some (.inl (ar .add .i64 I 1))else some (.inr (.inl ())):OS ((Int)⊕(Unit⊕Unit)))) N 0).bind λd=>match d with
   | .inl e=>some false
   | .inr g=>some true
def Jb(S:A0) (a:Up A9):OS Bool:=(OZ N S).bind λe=>if Ar.or (nt e) (cmp .gtr (Ar.len a) 10)then some false else(loopN (λ(d:Int)=>(if cmp .lss d (Ar.len a)then(C7 a d).bind λl=>if cmp .gtr (Ar.len l.Values) 9 then some (.inr (.inr ()))else some (.inl (ar .add .i64 d 1))else some (.inr (.inl ())):OS ((Int)⊕(Unit⊕Unit)))) N 0).bind λk=>match k with
  | .inl r=>(Cb N N S).bind λb=>(Ja N (ar .add .i64 b 1) (Ar.len a) 1500).bind λg=>if cmp .leq g 1500 then some true else(Dq N N S).bind λh=>if nt h then(Ja N (Ar.len a) b 1500).bind λi=>some (cmp .leq i 1500)else some false
  | .inr n=>some false
def Fo (N:Nat):Nat->A0->OS Int
 |0,_=>none
 |n+1,S=>(loopN (λ(I:Int×Int)=>(if cmp .lss I.2 (Ar.len S.dD)then(C7 S.dD I.2).bind λb=>(Fo N n b).bind λa=>some (.inl (mx I.1 a,ar .add .i64 I.2 1))else some (.inr I.1):OS ((Int×Int)⊕(Int)))) N (0,0)).bind λd=>if cmp .eql S.Op 4 then some (ar .add .i64 d 1)else some d
def FJ (N:Nat):Nat->A0->OS Int
 |0,_=>none
 |n+1,S=>((if cmp .eql S.Op 0 then some 1 else some 0):OS (Int)).bind λI=>(loopN (λ(d:Int×Int)=>(if cmp .lss d.2 (Ar.len S.dD)then(C7 S.dD d.2).bind λe=>(FJ N n e).bind λa=>some (.inl (ar .add .i64 d.1 a,ar .add .i64 d.2 1))else some (.inr d.1):OS ((Int×Int)⊕(Int)))) N (I,0)).bind λb=>some b
def Lo(S:A0)(b:Up A9):OS Bool:=(Jb N S b).bind λe=>if nt e then some false else(Fo N N S).bind λv=>if cmp .gtr v 2 then some false else(loopN (λ(a:Int×Int)=>(if cmp .lss a.2 (Ar.len b)then(Fo N N S).bind λg=>if an (cmp .eql g 2) (cmp .leq a.1 4000)then(FJ N N S).bind λh=>some (.inl (ar .mul .i64 a.1 (ar .add .i64 (ar .mul .i64 2 h) 1),ar .add .i64 a.2 1))else some (.inr a.1)else some (.inr a.1):OS ((Int×Int)⊕(Int)))) N (1,0)).bind λi=>some (cmp .leq i 4000)
def Pb(a:Up B5):OS Bool:=(loopN (λ(I:Int)=>(if an (cmp .lss I (Ar.len a)) (cmp .lss I 40)then(C7 a I).bind λb=>if cmp .gtr (slen b.Text) 128 then some (.inr (.inr ()))else some (.inl (ar .add .i64 I 1))else some (.inr (.inl ())):OS ((Int)⊕(Unit⊕Unit)))) N 0).bind λd=>match d with
 | .inl e=>some (cmp .lss (Ar.len a) 40)
 | .inr g=>some false
def Sn(a:A9):OS Bool:=(Pb N a.Values).bind λb=>some b
def JC(a:Up A9):OS Bool:=(loopN (λ(I:Int)=>(if an (cmp .lss I (Ar.len a)) (cmp .lss I 20)then(C7 a I).bind λe=>(Sn N e).bind λb=>if nt b then some (.inr (.inr ()))else some (.inl (ar .add .i64 I 1))else some (.inr (.inl ())):OS ((Int)⊕(Unit⊕Unit)))) N 0).bind λd=>match d with
 | .inl g=>some (cmp .leq (Ar.len a) 20)
 | .inr h=>some false
def Es (N:Nat)(S:A0):OS Bool:=some (Ar.or (cmp .eql S.Op 5) (cmp .eql S.Op 9))
def Dr(S:A0):OS Bool:=if cmp .eql S.Op 0 then some true else(Es N S).bind λa=>some a
def CO (N:Nat)(S:A0):OS Bool:=some (Ar.or (cmp .eql S.Op 6) (cmp .eql S.Op 10))
def Lp (N:Nat)(S:A0):OS Bool:=if cmp .eql S.Op 0 then some (cmp .eql (Ar.len S.dD) 0)else((if cmp .eql S.Op 1 then some true else if cmp .eql S.Op 2 then some true else some (cmp .eql S.Op 3)):OS (Bool)).bind λI=>if I then some (cmp .geq (Ar.len S.dD) 2)else if cmp .eql S.Op 8 then some (cmp .eql (Ar.len S.dD) 2)else some (cmp .eql (Ar.len S.dD) 1)
def Gp(S:A0):OS Bool:=(Dr N S).bind λa=>some (Ar.or a (cmp .eql S.Op 7))
def Er (N:Nat)(b:Bool)(a:Int)(e:Int):OS Bool:=some (an b (Ar.or (cmp .lss a 0) (cmp .gtr a e)))
def Lr (N:Nat)(a:Int):OS Int:=((if cmp .eql a 0 then some true else if cmp .eql a 1 then some true else if cmp .eql a 2 then some true else if cmp .eql a 3 then some true else some (cmp .eql a 4)):OS (Bool)).bind λI=>if I then some 0 else if cmp .eql a 12 then some 1 else if cmp .eql a 5 then some 2 else if cmp .eql a 6 then some 2 else if cmp .eql a 7 then some 2 else if cmp .eql a 8 then some 2 else if cmp .eql a 9 then some 2 else if cmp .eql a 10 then some 2 else if cmp .eql a 11 then some 2 else some (-1)
def ME (N:Nat)(a:Int):OS (Bool×Bool):=some (Ar.or (Ar.or (Ar.or (cmp .eql a 1) (cmp .eql a 4)) (cmp .eql a 2)) (cmp .eql a 3),Ar.or (cmp .eql a 1) (cmp .eql a 4))
def Lv (N:Nat)(a:B5):OS Int:=if Ar.or (cmp .lss a.Kind 0) (cmp .gtr a.Kind 2)then some 1 else if cmp .eql a.Kind 2 then if cmp .neq a.Num 0 then some 3 else if cmp .gtr (slen a.Text) 64 then some 13 else some 0 else if scmp .neq a.Text (⟨#[]⟩:za0)then some 3 else if Ar.or (Ar.or (an (cmp .eql a.Kind 1) (Ar.or (cmp .lss a.Num 0) (cmp .gtr a.Num 1))) (cmp .lss a.Num (-1099511627776))) (cmp .gtr a.Num 1099511627776)then some 2 else some 0
def Lt (N:Nat)(a:Int)(b:B5):OS Bool:=some (Ar.or (Ar.or (Ar.or (cmp .eql b.Kind 0) (cmp .eql a 0)) (cmp .eql a 4)) (cmp .eql a 5))
def JZ(a:B6):OS Int:=(Lr N a.Op).bind λb=>if cmp .lss b 0 then some 1 else if cmp .neq (Ar.len a.dD) b then some 15 else(ME N a.Op).bind λv=>if Ar.or (an v.1 (Ar.or (cmp .lss a.Var 0) (cmp .geq a.Var 16))) (an v.2 (Ar.or (cmp .lss a.Field 0) (cmp .geq a.Field 8)))then some 2 else if an (cmp .eql a.Op 4) (Ar.or (cmp .lss a.Kind 1) (cmp .gtr a.Kind 5))then some 1 else((if Ar.or (cmp .eql a.Op 4) (cmp .eql a.Op 0)then(Lv N a.Value).bind λe=>if cmp .neq e 0 then some (.inr e)else some (.inl ())else some (.inl ())):OS (Unit⊕Int)).bind λh=>match h with
     | .inl k=>if cmp .eql a.Op 4 then(Lt N a.Kind a.Value).bind λg=>if Ar.or (nt g) (an (cmp .eql a.Kind 1) (nt (an (cmp .eql a.Value.Kind 0) (an (cmp .eql a.Value.Num 0) (an (scmp .eql a.Value.Text (⟨#[]⟩)) true)))))then some 9 else if Ar.or (Ar.or (Ar.or (an (nt v.1) (cmp .neq a.Var 0)) (an (nt v.2) (cmp .neq a.Field 0))) (an (nt (cmp .eql a.Op 4)) (cmp .neq a.Kind 0))) (an (nt (Ar.or (cmp .eql a.Op 4) (cmp .eql a.Op 0))) (nt (an (cmp .eql a.Value.Kind 0) (an (cmp .eql a.Value.Num 0) (an (scmp .eql a.Value.Text (⟨#[]⟩)) true)))))then some 3 else some 0 else if Ar.or (Ar.or (Ar.or (an (nt v.1) (cmp .neq a.Var 0)) (an (nt v.2) (cmp .neq a.Field 0))) (an (nt (cmp .eql a.Op 4)) (cmp .neq a.Kind 0))) (an (nt (Ar.or (cmp .eql a.Op 4) (cmp .eql a.Op 0))) (nt (an (cmp .eql a.Value.Kind 0) (an (cmp .eql a.Value.Num 0) (an (scmp .eql a.Value.Text (⟨#[]⟩)) true)))))then some 3 else some 0
     | .inr i=>some i
def Fp (N:Nat):Nat->B6->OS Int
 |0,_=>none
 | n+1,a=>(JZ N a).bind λb=>if cmp .neq b 0 then some b else(loopN (λ(d:Int)=>(if cmp .lss d (Ar.len a.dD)then(C7 a.dD d).bind λh=>(Fp N n h).bind λe=>if cmp .neq e 0 then some (.inr (.inr e))else some (.inl (ar .add .i64 d 1))else some (.inr (.inl ())):OS ((Int)⊕(Unit⊕Int)))) N 0).bind λg=>match g with
   | .inl k=>some 0
   | .inr i=>some i
def Jc(a:B6):OS Int:=(CP N N a 64).bind λb=>if cmp .gtr b 64 then some 5 else(Ci N N a).bind λv=>if cmp .gtr v 12 then some 12 else(Fp N N a).bind λe=>some e
def Bf (N:Nat):Nat->B6->B6->OS Bool
 |0,_,_=>none
 | n+1,p,a=>if Ar.or (Ar.or (Ar.or (Ar.or (Ar.or (cmp .neq p.Op a.Op) (cmp .neq p.Var a.Var)) (cmp .neq p.Field a.Field)) (cmp .neq p.Kind a.Kind)) (nt (an (cmp .eql p.Value.Kind a.Value.Kind) (an (cmp .eql p.Value.Num a.Value.Num) (an (scmp .eql p.Value.Text a.Value.Text) true))))) (cmp .neq (Ar.len p.dD) (Ar.len a.dD))then some false else(loopN (λ(I:Int)=>(if cmp .lss I (Ar.len p.dD)then(C7 p.dD I).bind λe=>(C7 a.dD I).bind λg=>(Bf N n e g).bind λb=>if nt b then some (.inr (.inr ()))else some (.inl (ar .add .i64 I 1))else some (.inr (.inl ())):OS ((Int)⊕(Unit⊕Unit)))) N 0).bind λd=>match d with
   | .inl h=>some true
   | .inr i=>some false
def Df(S:A0):OS Int:=if Ar.or (cmp .lss S.Op 0) (cmp .gtr S.Op 10)then some 1 else(Lp N S).bind λd=>if nt d then some 15 else(Dr N S).bind λv=>(Es N S).bind λf=>if f then(Gp N S).bind λc=>(Er N v S.Typ 15).bind λj=>if j then some 2 else(Er N v S.Var 15).bind λm=>if m then some 2 else(Er N true S.dI 63).bind λo=>if o then some 2 else(CO N S).bind λp=>(Er N p S.Span 1099511627776).bind λq=>if q then some 2 else((if c then(Jc N S.dF).bind λa=>if cmp .neq a 0 then some (.inr a)else some (.inl ())else some (.inl ())):OS (Unit⊕Int)).bind λH=>match H with
        | .inl s=>if Ar.or (an (nt v) (Ar.or (cmp .neq S.Typ 0) (cmp .neq S.Var 0))) (an (nt true) (cmp .neq S.dI 0))then some 3 else(CO N S).bind λh=>if an (nt h) (cmp .neq S.Span 0)then some 3 else if nt c then(Bf N N S.dF (⟨0,[],0,0,0,(⟨0,0,⟨#[]⟩⟩:B5)⟩:B6)).bind λi=>if nt i then some 3 else some 0 else some 0
        | .inr P=>some P else(CO N S).bind λb=>(Gp N S).bind λe=>(Er N v S.Typ 15).bind λk=>if k then some 2 else(Er N v S.Var 15).bind λl=>if l then some 2 else(Er N b S.dI 63).bind λn=>if n then some 2 else(CO N S).bind λr=>(Er N r S.Span 1099511627776).bind λt=>if t then some 2 else((if e then(Jc N S.dF).bind λg=>if cmp .neq g 0 then some (.inr g)else some (.inl ())else some (.inl ())):OS (Unit⊕Int)).bind λK=>match K with
        | .inl u=>if Ar.or (an (nt v) (Ar.or (cmp .neq S.Typ 0) (cmp .neq S.Var 0))) (an (nt b) (cmp .neq S.dI 0))then some 3 else(CO N S).bind λx=>if an (nt x) (cmp .neq S.Span 0)then some 3 else if nt e then(Bf N N S.dF (⟨0,[],0,0,0,(⟨0,0,⟨#[]⟩⟩:B5)⟩:B6)).bind λy=>if nt y then some 3 else some 0 else some 0
        | .inr V=>some V
def Gq(S:A0):OS Int:=(CN N N S 64).bind λg=>if cmp .gtr g 64 then some 5 else(Ch N N S).bind λv=>if cmp .gtr v 12 then some 12 else(Cg N N S).bind λb=>(loopN (λ(a:Int)=>(if cmp .lss a (Ar.len b)then(C7 b a).bind λi=>(Df N i).bind λe=>if cmp .neq e 0 then some (.inr (.inr e))else some (.inl (ar .add .i64 a 1))else some (.inr (.inl ())):OS ((Int)⊕(Unit⊕Int)))) N 0).bind λh=>match h with
   | .inl l=>some 0
   | .inr k=>some k
def JA(a:Up A0):OS Bool:=(loopN (λ(I:Int)=>(if cmp .lss I (Ar.len a)then(C7 a I).bind λb=>if cmp .geq b.Op 8 then some (.inr (.inr ()))else some (.inl (ar .add .i64 I 1))else some (.inr (.inl ())):OS ((Int)⊕(Unit⊕Unit)))) N 0).bind λd=>match d with
 | .inl e=>some true
 | .inr g=>some false
def Lq(S:A0):OS Int:=(Gq N S).bind λn=>if cmp .neq n 0 then some n else(Cg N N S).bind λv=>(JA N v).bind λr=>if nt r then some 1 else(loopN (λ(a:Int×Int×Int)=>(if cmp .lss a.2.2 (Ar.len v)then(C7 v a.2.2).bind λH=>(Dr N H).bind λt=>((if t then(C7 v a.2.2).bind λK=>if cmp .neq K.Var a.1 then some (.inr ())else some (.inl (ar .add .i64 a.1 1))else some (.inl a.1)):OS (Int⊕Unit)).bind λy=>match y with
       | .inl b=>(C7 v a.2.2).bind λh=>(Es N h).bind λe=>if e then(C7 v a.2.2).bind λi=>if cmp .neq i.dI a.2.1 then some (.inr (.inr ()))else some (.inl (b,ar .add .i64 a.2.1 1,ar .add .i64 a.2.2 1))else(C7 v a.2.2).bind λk=>(CO N k).bind λg=>if g then(C7 v a.2.2).bind λl=>if cmp .neq l.dI a.2.1 then some (.inr (.inr ()))else some (.inl (b,ar .add .i64 a.2.1 1,ar .add .i64 a.2.2 1))else some (.inl (b,a.2.1,ar .add .i64 a.2.2 1))
       | .inr P=>some (.inr (.inr ()))else some (.inr (.inl ())):OS ((Int×Int×Int)⊕(Unit⊕Unit)))) N (0,0,0)).bind λx=>match x with
   | .inl V=>some 0
   | .inr c=>some 14
def MF (N:Nat)(a:A9):OS Bool:=some (an (an (an (an (an (cmp .geq a.Time 0) (cmp .leq a.Time 1099511627776)) (cmp .geq a.Source 0)) (cmp .lss a.Source 8)) (cmp .geq a.Seq 0)) (cmp .leq a.Seq 1099511627776))
def Jd (N:Nat)(p:Bb)(a:Bb):OS Int:=if cmp .neq p.Time a.Time then if cmp .lss p.Time a.Time then some (-1)else some 1 else if cmp .neq p.Source a.Source then if cmp .lss p.Source a.Source then some (-1)else some 1 else if cmp .lss p.Seq a.Seq then some (-1)else if cmp .gtr p.Seq a.Seq then some 1 else some 0
def Pa (N:Nat)(a:A9):OS Bb:=some (⟨a.Time,a.Source,a.Seq⟩:Bb)
def Ka (N:Nat)(p:A9)(a:A9):OS Bool:=some (an (cmp .eql p.Source a.Source) (cmp .eql p.Seq a.Seq))
def Lu(a:Up A9):OS Int:=if cmp .gtr (Ar.len a) 4096 then some 5 else(loopN (λ(I:Int)=>(if cmp .lss I (Ar.len a)then(C7 a I).bind λV=>(MF N V).bind λy=>if nt y then some (.inr (.inr 2))else if cmp .gtr I 0 then(C7 a (ar .sub .i64 I 1)).bind λx5=>(Pa N x5).bind λH=>(C7 a I).bind λc=>(Pa N c).bind λK=>(Jd N H K).bind λP=>if cmp .geq P 0 then some (.inr (.inr 14))else(loopN (λ(b:Int)=>(if cmp .lss b I then(C7 a b).bind λl=>(C7 a I).bind λn=>(Ka N l n).bind λg=>if g then some (.inr (.inr ()))else some (.inl (ar .add .i64 b 1))else some (.inr (.inl ())):OS ((Int)⊕(Unit⊕Unit)))) N 0).bind λi=>match i with
         | .inl f=>some (.inl (ar .add .i64 I 1))
         | .inr j=>some (.inr (.inr 7))else(loopN (λ(e:Int)=>(if cmp .lss e I then(C7 a e).bind λr=>(C7 a I).bind λt=>(Ka N r t).bind λh=>if h then some (.inr (.inr ()))else some (.inl (ar .add .i64 e 1))else some (.inr (.inl ())):OS ((Int)⊕(Unit⊕Unit)))) N 0).bind λk=>match k with
        | .inl m=>some (.inl (ar .add .i64 I 1))
        | .inr o=>some (.inr (.inr 7))else some (.inr (.inl ())):OS ((Int)⊕(Unit⊕Int)))) N 0).bind λd=>match d with
  | .inl p=>some 0
  | .inr x=>some x
def GJ(a:Up Int):OS Int:=(loopN (λ(I:Int)=>(if cmp .lss I (Ar.len a)then(C7 a I).bind λb=>if cmp .neq b 0 then some (.inr (.inr b))else some (.inl (ar .add .i64 I 1))else some (.inr (.inl ())):OS ((Int)⊕(Unit⊕Int)))) N 0).bind λd=>match d with
 | .inl g=>some 0
 | .inr e=>some e
def Ix (N:Nat)(a:Int):OS Bool:=some (cmp .neq a a)
def Q3(a:Int)(b:Int):OS Int:=(Ix N a).bind λe=>(Ix N b).bind λv=>if e then if v then some 0 else some (-1)else if v then some 1 else if cmp .lss a b then some (-1)else if cmp .gtr a b then some 1 else some 0
def Dw (N:Nat)(a:A9):OS Bb:=some (⟨a.Time,a.Source,a.Seq⟩:Bb)
def Di(p:A9)(a:A9):OS Int:=(Dw N p).bind λb=>(Dw N a).bind λv=>if an (cmp .eql b.Time v.Time) (an (cmp .eql b.Source v.Source) (an (cmp .eql b.Seq v.Seq) true))then some 0 else(Q3 N p.Time a.Time).bind λe=>(Q3 N p.Source a.Source).bind λg=>(Q3 N p.Seq a.Seq).bind λh=>(GJ N ([e,g,h])).bind λi=>some i
def K6(a:Up A5)(b:Up A5)(g:A5->A5->OS Int):OS Int:=(loopN (λ(I:Int)=>(if cmp .lss I (Ar.len a)then(C7 a I).bind λh=>if cmp .geq I (Ar.len b)then some (.inr (.inr 1))else(C7 b I).bind λx5=>(g h x5).bind λe=>if cmp .neq e 0 then some (.inr (.inr e))else some (.inl (ar .add .i64 I 1))else some (.inr (.inl ())):OS ((Int)⊕(Unit⊕Int)))) N 0).bind λd=>match d with
 | .inl k=>if cmp .lss (Ar.len a) (Ar.len b)then some (-1)else some 0
 | .inr i=>some i
def R3 (N:Nat):Nat->A5->A5->OS Int
 |0,_,_=>none
 |n+1,p,a=>(Di N (⟨p.Ref.Source,p.Ref.Seq,0,p.Ref.Time,[]⟩:A9) (⟨a.Ref.Source,a.Ref.Seq,0,a.Ref.Time,[]⟩:A9)).bind λb=>if cmp .neq b 0 then some b else if cmp .lss p.Choice a.Choice then some (-1)else if cmp .gtr p.Choice a.Choice then some 1 else(K6 N p.Kids a.Kids (λe g=>R3 N n e g)).bind λv=>some v
def X2 (N:Nat):Nat->A5->OS Int
 |0,_=>none
 |n+1,a=>(loopN (λ(I:Int×Int)=>(if cmp .lss I.2 (Ar.len a.Kids)then(C7 a.Kids I.2).bind λe=>(X2 N n e).bind λb=>some (.inl (ar .add .i64 I.1 b,ar .add .i64 I.2 1))else some (.inr I.1):OS ((Int×Int)⊕(Int)))) N (1,0)).bind λd=>some d
def Cc (N:Nat):Nat->A0->OS (Up A0)
 |0,_=>none
 |n+1,S=>((L5 (some ([S],())) λ_=>L5 (Ap (λ(d:Int)=>(if cmp .lss d (Ar.len S.dD)then(C7 S.dD d).bind λb=>(Cc N n b).bind λa=>L5 (some (a,())) λ_=>some ([],.inl (ar .add .i64 d 1))else some ([],.inr ()):OS (Up A0×((Int)⊕(Unit))))) N 0) λe=>some ([],())):OS (Up A0×Unit)).bind λq=>some q.1
def DZ(a:A0):OS (Up A0):=(((Cc N N a).bind λl1=>L5 (some (l1,())) λ_=>some ([],())):OS (Up A0×Unit)).bind λq=>some q.1
def Bg(S:A0):OS (Up A0):=DZ N S
def Ad (N:Nat):Nat->A0->OS (Int×Int)
 |0,_=>none
 |n+1,S=>(loopN (λ(I:Int×Int×Int)=>(if cmp .lss I.2.2 (Ar.len S.dD)then(C7 S.dD I.2.2).bind λb=>(Ad N n b).bind λa=>some (.inl (ar .add .i64 I.1 a.1,mx I.2.1 a.2,ar .add .i64 I.2.2 1))else some (.inr (I.1,I.2.1)):OS ((Int×Int×Int)⊕((Int×Int))))) N (1,0,0)).bind λd=>some (d.1,ar .add .i64 d.2 1)
def Cv (N:Nat)(b:Bool)(a:Int)(e:Int):OS Bool:=some (Ar.or (nt b) (an (cmp .geq a 0) (cmp .leq a e)))
def FM (N:Nat):Nat->B6->OS (Int×Int)
 |0,_=>none
 |n+1,a=>(loopN (λ(I:Int×Int×Int)=>(if cmp .lss I.2.2 (Ar.len a.dD)then(C7 a.dD I.2.2).bind λe=>(FM N n e).bind λb=>some (.inl (ar .add .i64 I.1 b.1,mx I.2.1 b.2,ar .add .i64 I.2.2 1))else some (.inr (I.1,I.2.1)):OS ((Int×Int×Int)⊕((Int×Int))))) N (1,0,0)).bind λd=>some (d.1,ar .add .i64 d.2 1)
def GG (N:Nat):Nat->B6->(B6->OS Int)->OS Int
 |0,_,_=>none
 | n+1,a,b=>(b a).bind λe=>if cmp .neq e 0 then some e else(loopN (λ(d:Int)=>(if cmp .lss d (Ar.len a.dD)then(C7 a.dD d).bind λi=>(GG N n i b).bind λg=>if cmp .neq g 0 then some (.inr (.inr g))else some (.inl (ar .add .i64 d 1))else some (.inr (.inl ())):OS ((Int)⊕(Unit⊕Int)))) N 0).bind λh=>match h with
   | .inl l=>some 0
   | .inr k=>some k
def MR (N:Nat)(a:Int):OS (Int×Bool):=if Ar.or (cmp .lss a 0) (cmp .gtr a 12)then some (0,false)else if cmp .lss a 5 then some (0,true)else if cmp .eql a 12 then some (1,true)else some (2,true)
def Px (N:Nat)(a:Int):OS (Bool×Bool):=((if cmp .eql a 1 then some true else some (cmp .eql a 4)):OS (Bool)).bind λI=>if I then some (true,true)else if cmp .eql a 2 then some (true,false)else if cmp .eql a 3 then some (true,false)else some (false,false)
def Mx (N:Nat)(a:B5):OS Int:=if an (cmp .eql a.Kind 0) (Ar.or (cmp .lss a.Num (-1099511627776)) (cmp .gtr a.Num 1099511627776))then some 2 else if an (an (cmp .eql a.Kind 1) (cmp .neq a.Num 0)) (cmp .neq a.Num 1)then some 2 else if cmp .gtr (slen a.Text) 64 then some 13 else some 0
def CJ(a:B5):OS Int:=((if cmp .eql a.Kind 0 then some true else some (cmp .eql a.Kind 1)):OS (Bool)).bind λI=>if I then if scmp .neq a.Text (⟨#[]⟩:za0)then some 3 else(Mx N a).bind λv=>some v else if cmp .eql a.Kind 2 then if cmp .neq a.Num 0 then some 3 else(Mx N a).bind λb=>some b else some 1
def MQ (N:Nat)(a:Int)(b:B5):OS Bool:=some (Ar.or (Ar.or (cmp .eql b.Kind 0) (cmp .eql a 4)) (cmp .eql a 5))
def Kp(a:B6):OS Int:=(CJ N a.Value).bind λb=>if cmp .neq b 0 then some b else if cmp .eql a.Op 4 then(MQ N a.Kind a.Value).bind λv=>if Ar.or (nt v) (an (cmp .eql a.Kind 1) (nt (an (cmp .eql a.Value.Kind 0) (an (cmp .eql a.Value.Num 0) (an (scmp .eql a.Value.Text (⟨#[]⟩)) true)))))then some 9 else some 0 else some 0
def JR(a:B6):OS Int:=(MR N a.Op).bind λb=>if nt b.2 then some 1 else if cmp .neq (Ar.len a.dD) b.1 then some 15 else(Px N a.Op).bind λv=>if Ar.or (an v.1 (Ar.or (cmp .lss a.Var 0) (cmp .geq a.Var 16))) (an v.2 (Ar.or (cmp .lss a.Field 0) (cmp .geq a.Field 8)))then some 2 else if an (cmp .eql a.Op 4) (Ar.or (cmp .lss a.Kind 1) (cmp .gtr a.Kind 5))then some 1 else((if Ar.or (cmp .eql a.Op 4) (cmp .eql a.Op 0)then(Kp N a).bind λe=>if cmp .neq e 0 then some (.inr e)else some (.inl ())else some (.inl ())):OS (Unit⊕Int)).bind λg=>match g with
     | .inl i=>if Ar.or (Ar.or (Ar.or (an (nt v.1) (cmp .neq a.Var 0)) (an (nt v.2) (cmp .neq a.Field 0))) (an (nt (cmp .eql a.Op 4)) (cmp .neq a.Kind 0))) (an (nt (Ar.or (cmp .eql a.Op 4) (cmp .eql a.Op 0))) (nt (an (cmp .eql a.Value.Kind 0) (an (cmp .eql a.Value.Num 0) (an (scmp .eql a.Value.Text (⟨#[]⟩)) true)))))then some 3 else some 0
     | .inr h=>some h
def Kq(a:B6):OS Int:=(FM N N a).bind λb=>if cmp .gtr b.1 64 then some 5 else if cmp .gtr b.2 12 then some 12 else(GG N N a (λe=>JR N e)).bind λv=>some v
def JS (N:Nat):Nat->B6->B6->OS Bool
 |0,_,_=>none
 | n+1,p,a=>if Ar.or (Ar.or (Ar.or (Ar.or (Ar.or (cmp .neq p.Op a.Op) (cmp .neq p.Var a.Var)) (cmp .neq p.Field a.Field)) (cmp .neq p.Kind a.Kind)) (nt (an (cmp .eql p.Value.Kind a.Value.Kind) (an (cmp .eql p.Value.Num a.Value.Num) (an (scmp .eql p.Value.Text a.Value.Text) true))))) (cmp .neq (Ar.len p.dD) (Ar.len a.dD))then some false else(loopN (λ(I:Int)=>(if cmp .lss I (Ar.len p.dD)then(C7 p.dD I).bind λe=>(C7 a.dD I).bind λg=>(JS N n e g).bind λb=>if nt b then some (.inr (.inr ()))else some (.inl (ar .add .i64 I 1))else some (.inr (.inl ())):OS ((Int)⊕(Unit⊕Unit)))) N 0).bind λd=>match d with
   | .inl h=>some true
   | .inr i=>some false
def Z8 (N:Nat)(b:Bool)(a:Int):OS Bool:=some (Ar.or b (cmp .eql a 0))
def Ck(S:A0):OS Int:=if Ar.or (cmp .lss S.Op 0) (cmp .geq S.Op 11)then some 1 else(C7 O4 S.Op).bind λa=>if Ar.or (cmp .lss (Ar.len S.dD) a.dK) (cmp .gtr (Ar.len S.dD) a.most)then some 15 else(Cv N a.dG S.Typ 15).bind λv=>if nt v then some 2 else(Cv N a.dG S.Var 15).bind λx=>if nt x then some 2 else(Cv N a.scope S.dI 63).bind λy=>if nt y then some 2 else(Cv N a.span S.Span 1099511627776).bind λH=>if nt H then some 2 else((if a.cond then(Kq N S.dF).bind λt=>if cmp .neq t 0 then some (.inr t)else some (.inl ())else some (.inl ())):OS (Unit⊕Int)).bind λP=>match P with
       | .inl V=>if nt a.cond then(JS N N S.dF (⟨0,[],0,0,0,(⟨0,0,⟨#[]⟩⟩:B5)⟩:B6)).bind λK=>if nt K then some 3 else(Z8 N a.dG S.Typ).bind λb=>if nt b then some 3 else(Z8 N a.dG S.Var).bind λe=>if nt e then some 3 else(Z8 N a.scope S.dI).bind λg=>if nt g then some 3 else(Z8 N a.span S.Span).bind λh=>if nt h then some 3 else some 0 else(Z8 N a.dG S.Typ).bind λi=>if nt i then some 3 else(Z8 N a.dG S.Var).bind λk=>if nt k then some 3 else(Z8 N a.scope S.dI).bind λl=>if nt l then some 3 else(Z8 N a.span S.Span).bind λn=>if nt n then some 3 else some 0
       | .inr r=>some r
def EB(S:A0):OS Int:=(Ad N N S).bind λv=>if cmp .gtr v.1 64 then some 5 else if cmp .gtr v.2 12 then some 12 else(Bg N S).bind λg=>(M8 (λ(k:Unit) (i:A0)=>((Ck N i).bind λa=>if cmp .neq a 0 then some (.inr a)else some (.inl ()):OS ((Unit)⊕(Int)))) g ()).bind λe=>match e with
   | .inl h=>some 0
   | .inr b=>some b
def Iu(S:A0):OS Int:=(EB N S).bind λv=>if cmp .neq v 0 then some v else(Bg N S).bind λe=>(M8 (λ(i:Unit) (h:A0)=>(if cmp .geq h.Op 8 then some (.inr 1)else some (.inl ()):OS ((Unit)⊕(Int)))) e ()).bind λb=>match b with
  | .inl g=>some 0
  | .inr a=>some a
def Iv(S:A0):OS (Int×Int×Bool):=(Bg N S).bind λk=>(M8 (λ(b:Bool×Int×Int) (i:A0)=>((C7 O4 i.Op).bind λg=>((if g.dG then some (an b.1 (cmp .eql i.Var b.2.2),ar .add .i64 b.2.2 1)else some (b.1,b.2.2)):OS ((Bool×Int))).bind λa=>if g.scope then some (.inl (an a.1 (cmp .eql i.dI b.2.1),ar .add .i64 b.2.1 1,a.2))else some (.inl (a.1,b.2.1,a.2)):OS ((Bool×Int×Int)⊕(Unit)))) k (true,0,0)).bind λh=>match h with
 | .inl e=>some (e.2.2,e.2.1,e.1)
 | .inr _=>none
def Dg(S:A0):OS Int:=(Iu N S).bind λa=>if cmp .neq a 0 then some a else(Iv N S).bind λv=>if nt v.2.2 then some 14 else some 0
def LS (N:Nat)(a:A9):OS Bool:=some (an (an (an (an (an (cmp .geq a.Time 0) (cmp .leq a.Time 1099511627776)) (cmp .geq a.Source 0)) (cmp .lss a.Source 8)) (cmp .geq a.Seq 0)) (cmp .leq a.Seq 1099511627776))
def JL (N:Nat)(a:A9):OS J5:=some (⟨a.Source,a.Seq⟩:J5)
def BY(e:Up A9):OS Int:=if cmp .gtr (Ar.len e) 4096 then some 5 else(loopN (λ(a:Int×(Up (J5×Bool)))=>(if cmp .lss a.1 (Ar.len e)then(C7 e a.1).bind λb=>(LS N b).bind λH=>if nt H then some (.inr (.inr (2,a.2)))else if cmp .gtr a.1 0 then(C7 e (ar .sub .i64 a.1 1)).bind λP=>(Di N P b).bind λi=>if cmp .geq i 0 then some (.inr (.inr (14,a.2)))else(JL N b).bind λk=>(Nn a.2 k (false:Bool)).bind λl=>if l.1 then some (.inr (.inr (7,a.2)))else(JL N b).bind λn=>(MC a.2 n true).bind λg=>some (.inl (ar .add .i64 a.1 1,g))else(JL N b).bind λr=>(Nn a.2 r (false:Bool)).bind λt=>if t.1 then some (.inr (.inr (7,a.2)))else(JL N b).bind λx=>(MC a.2 x true).bind λh=>some (.inl (ar .add .i64 a.1 1,h))else some (.inr (.inl a.2)):OS ((Int×(Up (J5×Bool)))⊕(((Up (J5×Bool)))⊕(Int×(Up (J5×Bool))))))) N (0,([]:Up (J5×Bool)))).bind λK=>match K with
  | .inl V=>some 0
  | .inr y=>some y.1
def Bz (N:Nat)(a:Int):OS B5:=some (⟨0,a,⟨#[]⟩⟩:B5)
def Hz (N:Nat)(p:Int)(a:Int)(b:Int->OS B5):OS B5:=(b (ar .add .i64 p a)).bind λv=>some v
def Hy (N:Nat)(p:Int)(a:Int)(b:Int->OS B5):OS B5:=(b (ar .sub .i64 p a)).bind λv=>some v
def My (N:Nat)(a:Bool):OS B5:=if a then some (⟨1,1,⟨#[]⟩⟩:B5)else some (⟨1,0,⟨#[]⟩⟩:B5)
def Dv(a:Bool):OS B5:=(My N a).bind λv=>some v
def EI(p:Int)(a:Int):OS B5:=(Dv N (cmp .lss p a)).bind λv=>some v
def EH(p:Int)(a:Int):OS B5:=(Dv N (cmp .leq p a)).bind λv=>some v
def EG(p:Int)(a:Int):OS B5:=(Dv N (an (cmp .eql p 1) (cmp .eql a 1))).bind λv=>some v
def EF(p:Int)(a:Int):OS B5:=(Dv N (Ar.or (cmp .eql p 1) (cmp .eql a 1))).bind λv=>some v
def EE(p:Int)(a:Int):OS B5:=(Dv N (cmp .neq p 1)).bind λv=>some v
def Ni (N:Nat):OS Unit:=some ()
def Z3 (N:Nat)(b:X3)(a:Int):OS (Up A9):=if Ar.or (cmp .lss a 0) (cmp .geq a (Ar.len b.env.dL))then some ([])else(C7 b.env.dL a).bind λe=>some e
def Fy (N:Nat)(a:A9)(b:Int):OS (B5×Int):=if cmp .geq b (Ar.len a.Values)then some ((⟨0,0,⟨#[]⟩⟩:B5),6)else(C7 a.Values b).bind λe=>some (e,0)
def CG (N:Nat)(a:Int):OS Bool:=some (an (cmp .geq a 0) (cmp .leq a 5))
def BQ (N:Nat)(a:Int)(b:B5):OS Bool:=some (Ar.or (cmp .eql b.Kind 0) (an (an (cmp .neq a 1) (cmp .neq a 2)) (cmp .neq a 3)))
def AR(e:Int)(a:B5):OS Int:=(CJ N a).bind λb=>if cmp .neq b 0 then some b else(BQ N e a).bind λv=>if nt v then some 9 else some 0
def O6(e:G5)(b:Up B5)(g:G5->B5->OS G5):OS G5:=(loopN (λ(a:Int×G5)=>(if cmp .lss a.1 (Ar.len b)then(C7 b a.1).bind λx5=>(g a.2 x5).bind λh=>some (.inl (ar .add .i64 a.1 1,h))else some (.inr a.2):OS ((Int×G5)⊕(G5)))) N (0,e)).bind λi=>some i
def Ge (N:Nat):OS B5:=some (⟨0,0,⟨#[]⟩⟩:B5)
def Gc (N:Nat)(b:B5)(a:B5):OS B5:=some (⟨0,ar .add .i64 b.Num a.Num,⟨#[]⟩⟩:B5)
def Gb (N:Nat)(b:B5)(a:B5):OS B5:=some (⟨0,Ar.mn b.Num a.Num,⟨#[]⟩⟩:B5)
def Ga (N:Nat)(b:B5)(a:B5):OS B5:=some (⟨0,mx b.Num a.Num,⟨#[]⟩⟩:B5)
def FZ (N:Nat)(a:B5):OS B5:=some a
def FY (N:Nat)(a:B5):OS B5:=some a
def CW(a:Int)(p:B5)(b:B5):OS B5:=if cmp .eql a 0 then(Ge N).bind λv=>some v else if cmp .eql a 1 then(Gc N p b).bind λe=>some e else if cmp .eql a 2 then(Gb N p b).bind λg=>some g else if cmp .eql a 3 then(Ga N p b).bind λh=>some h else if cmp .eql a 4 then(FZ N p).bind λi=>some i else if cmp .eql a 5 then(FY N b).bind λk=>some k else none
def FP(p:G5)(a:G5):OS G5:=if cmp .eql p.Count 0 then some a else if cmp .eql a.Count 0 then some p else(CW N p.Kind p.Value a.Value).bind λv=>some (⟨p.Kind,ar .add .i64 p.Count a.Count,v⟩:G5)
def Dz (N:Nat)(b:Int)(a:B5):OS B5:=if cmp .eql b 0 then some (⟨0,0,⟨#[]⟩⟩:B5)else some a
def Ac(p:G5)(b:B5)(a:Int):OS G5:=(Dz N a b).bind λv=>(FP N p (⟨a,1,v⟩:G5)).bind λe=>some e
def Ej(p:G5):OS Int:=(CG N p.Kind).bind λa=>if nt a then some 1 else if Ar.or (cmp .lss p.Count 0) (cmp .gtr p.Count 4096)then some 2 else if Ar.or (cmp .eql p.Count 0) (cmp .eql p.Kind 0)then if nt (an (cmp .eql p.Value.Kind 0) (an (cmp .eql p.Value.Num 0) (an (scmp .eql p.Value.Text (⟨#[]⟩)) true)))then some 3 else some 0 else if cmp .eql p.Kind 1 then if nt (an (an (an (cmp .eql p.Value.Kind 0) (scmp .eql p.Value.Text (⟨#[]⟩:za0))) (cmp .geq p.Value.Num (Ar.neg .i64 (ar .mul .i64 p.Count 1099511627776)))) (cmp .leq p.Value.Num (ar .mul .i64 p.Count 1099511627776)))then some 3 else some 0 else(CJ N p.Value).bind λv=>if cmp .eql v 0 then(BQ N p.Kind p.Value).bind λb=>if nt b then some 3 else some 0 else some 3
def FQ(p:G5)(a:B5):OS (B5×Int):=(Ej N p).bind λv=>if cmp .neq v 0 then some ((⟨0,0,⟨#[]⟩⟩:B5),v)else(AR N p.Kind a).bind λb=>if cmp .neq b 0 then some ((⟨0,0,⟨#[]⟩⟩:B5),b)else if cmp .eql p.Kind 0 then some ((⟨0,p.Count,⟨#[]⟩⟩:B5),0)else if an (cmp .eql p.Count 0) (cmp .neq p.Kind 1)then some (a,0)else some (p.Value,0)
def HI(b:Int) (a:Up B5) (k:B5):OS (B5×Int):=(CG N b).bind λv=>if nt v then some ((⟨0,0,⟨#[]⟩⟩:B5),1)else if cmp .gtr (Ar.len a) 4096 then some ((⟨0,0,⟨#[]⟩⟩:B5),5)else(loopN (λ(e:Int)=>(if cmp .lss e (Ar.len a)then(C7 a e).bind λx5=>(AR N b x5).bind λh=>if cmp .neq h 0 then some (.inr (.inr h))else some (.inl (ar .add .i64 e 1))else some (.inr (.inl ())):OS ((Int)⊕(Unit⊕Int)))) N 0).bind λn=>match n with
   | .inl x=>(O6 N (⟨b,0,(⟨0,0,⟨#[]⟩⟩:B5)⟩:G5) a (λr t=>Ac N r t b)).bind λl=>(FQ N l k).bind λi=>some (i.1,i.2)
   | .inr g=>some ((⟨0,0,⟨#[]⟩⟩:B5),g)
def Bu(k:X3)(e:B6):OS (B5×Int):=(Z3 N k e.Var).bind λv=>(loopN (λ(b:(Up B5)×Int)=>(if cmp .lss b.2 (Ar.len v)then(C7 v b.2).bind λr=>(Fy N r e.Field).bind λg=>if cmp .neq g.2 0 then some (.inr (.inr g.2))else(V7 b.1 ([g.1])).bind λl=>some (.inl (l,ar .add .i64 b.2 1))else some (.inr (.inl b.1)):OS (((Up B5)×Int)⊕(((Up B5))⊕Int)))) N ([],0)).bind λn=>match n with
 | .inl h=>(HI N e.Kind h e.Value).bind λa=>some (a.1,a.2)
 | .inr i=>some ((⟨0,0,⟨#[]⟩⟩:B5),i)
def BT(b:X3) (a:B6):OS (B5×Int):=(Z3 N b a.Var).bind λv=>if cmp .eql a.Op 0 then some (a.Value,0)else if cmp .eql a.Op 3 then some ((⟨0,Ar.len v,⟨#[]⟩⟩:B5),0)else if cmp .eql a.Op 4 then(Bu N b a).bind λh=>some (h.1,h.2)else((if cmp .neq a.Var b.own then if cmp .eql (Ar.len v) 0 then some (.inr ())else(C7 v (ar .sub .i64 (Ar.len v) 1)).bind λn=>some (.inl n)else some (.inl b.event)):OS (A9⊕Unit)).bind λl=>match l with
    | .inl k=>if cmp .eql a.Op 2 then some ((⟨0,k.Time,⟨#[]⟩⟩:B5),0)else(Fy N k a.Field).bind λe=>((if cmp .eql e.2 0 then(CJ N e.1).bind λg=>some g else some e.2):OS (Int)).bind λi=>if cmp .neq i 0 then some ((⟨0,0,⟨#[]⟩⟩:B5),i)else some (e.1,0)
    | .inr r=>some ((⟨0,0,⟨#[]⟩⟩:B5),10)
def Gl(a:Int)(b:Up Int):OS Int:=(loopN (λ(I:Int)=>(if cmp .lss I (Ar.len b)then(C7 b I).bind λe=>((if cmp .eql a 5 then some true else if cmp .eql a 6 then some true else if cmp .eql a 7 then some true else some (cmp .eql a 8)):OS (Bool)).bind λg=>if g then if nt (cmp .eql e 0)then some (.inr (.inr ()))else some (.inl (ar .add .i64 I 1))else((if cmp .eql a 10 then some true else if cmp .eql a 11 then some true else some (cmp .eql a 12)):OS (Bool)).bind λh=>if h then if nt (cmp .eql e 1)then some (.inr (.inr ()))else some (.inl (ar .add .i64 I 1))else if cmp .eql a 9 then(C7 b 0).bind λi=>if nt (cmp .eql e i)then some (.inr (.inr ()))else some (.inl (ar .add .i64 I 1))else some (.inl (ar .add .i64 I 1))else some (.inr (.inl ())):OS ((Int)⊕(Unit⊕Unit)))) N 0).bind λd=>match d with
 | .inl k=>some 0
 | .inr l=>some 9
def U9 (N:Nat):Nat->X3->B6->OS (B5×Int)
 |0,_,_=>none
 | n+1,E,b=>if cmp .eql (Ar.len b.dD) 0 then(BT N E b).bind λv=>some (v.1,v.2)else(loopN (λ(e:(Up B5)×(Up Int)×Int)=>(if cmp .lss e.2.2 (Ar.len b.dD)then(C7 b.dD e.2.2).bind λL=>(U9 N n E L).bind λk=>if cmp .neq k.2 0 then some (.inr (.inr k.2))else(V7 e.1 ([k.1])).bind λF=>(V7 e.2.1 ([k.1.Kind])).bind λl=>some (.inl (F,l,ar .add .i64 e.2.2 1))else some (.inr (.inl (e.1,e.2.1))):OS (((Up B5)×(Up Int)×Int)⊕(((Up B5)×(Up Int))⊕Int)))) N ([],[],0)).bind λG=>match G with
   | .inl a=>(Gl N b.Op a.2).bind λi=>if cmp .neq i 0 then some ((⟨0,0,⟨#[]⟩⟩:B5),i)else if cmp .eql b.Op 9 then(C7 a.1 0).bind λg=>(C7 a.1 1).bind λh=>(Dv N (an (cmp .eql g.Kind h.Kind) (an (cmp .eql g.Num h.Num) (an (scmp .eql g.Text h.Text) true)))).bind λr=>some (r,0)else if cmp .eql b.Op 5 then(C7 a.1 0).bind λc=>(C7 a.1 (ar .sub .i64 (Ar.len a.1) 1)).bind λd=>(Hz N c.Num d.Num (λC=>Bz N C)).bind λt=>some (t,0)else if cmp .eql b.Op 6 then(C7 a.1 0).bind λf=>(C7 a.1 (ar .sub .i64 (Ar.len a.1) 1)).bind λj=>(Hy N f.Num j.Num (λC=>Bz N C)).bind λx=>some (x,0)else if cmp .eql b.Op 7 then(C7 a.1 0).bind λm=>(C7 a.1 (ar .sub .i64 (Ar.len a.1) 1)).bind λo=>(EI N m.Num o.Num).bind λy=>some (y,0)else if cmp .eql b.Op 8 then(C7 a.1 0).bind λp=>(C7 a.1 (ar .sub .i64 (Ar.len a.1) 1)).bind λq=>(EH N p.Num q.Num).bind λH=>some (H,0)else if cmp .eql b.Op 10 then(C7 a.1 0).bind λs=>(C7 a.1 (ar .sub .i64 (Ar.len a.1) 1)).bind λu=>(EG N s.Num u.Num).bind λK=>some (K,0)else if cmp .eql b.Op 11 then(C7 a.1 0).bind λw=>(C7 a.1 (ar .sub .i64 (Ar.len a.1) 1)).bind λz=>(EF N w.Num z.Num).bind λP=>some (P,0)else if cmp .eql b.Op 12 then(C7 a.1 0).bind λA=>(C7 a.1 (ar .sub .i64 (Ar.len a.1) 1)).bind λB=>(EE N A.Num B.Num).bind λV=>some (V,0)else(C7 a.1 0).bind λI=>(C7 a.1 (ar .sub .i64 (Ar.len a.1) 1)).bind λJ=>none
   | .inr D=>some ((⟨0,0,⟨#[]⟩⟩:B5),D)
def Mr(b:B6)(h:JJ)(g:Int)(i:A9):OS (B5×Int):=(Kq N b).bind λv=>if cmp .neq v 0 then some ((⟨0,0,⟨#[]⟩⟩:B5),v)else(((U9 N N (⟨h,g,i,()⟩:X3) b).bind λa=>some (a.2,a.1)):OS ((Int×B5))).bind λe=>some (e.2,e.1)
def Fz(b:B6)(g:JJ)(e:Int)(h:A9):OS Bool:=(Mr N b g e h).bind λa=>if cmp .eql a.2 0 then(Dv N true).bind λv=>some (an (cmp .eql a.1.Kind v.Kind) (an (cmp .eql a.1.Num v.Num) (an (scmp .eql a.1.Text v.Text) true)))else some false
def Z4(k:F2)(i:Up A7)(l:Int):OS JJ:=(ZW 16 16 ([]:Up A9)).bind λn=>(loopN (λ(a:Int×(Up (Up A9)))=>(if cmp .lss a.1 (Ar.len i)then(C7 i a.1).bind λb=>if cmp .lss b.at_ l then(C7 a.2 b.v).bind λt=>(C7 k.dH b.at_).bind λh=>(V7 t ([h])).bind λg=>(Ev a.2 b.v (λ_=>g)).bind λe=>some (.inl (ar .add .i64 a.1 1,e))else some (.inl (ar .add .i64 a.1 1,a.2))else some (.inr a.2):OS ((Int×(Up (Up A9)))⊕(((Up (Up A9))))))) N (0,n)).bind λr=>some (⟨r⟩:JJ)
def P2(a:F2)(S:A0)(g:Up A7)(b:Int):OS Bool:=(C7 a.dH b).bind λe=>if cmp .eql e.Typ S.Typ then(Z4 N a g b).bind λv=>(Fz N S.dF v S.Var e).bind λh=>some h else some false
def AH (N:Nat)(a:Up A7)(b:Int):OS (Up A7):=AD7 a b
def U4(b:Up (Up A7)):OS (Up A7):=(loopN (λ(I:Int×Int)=>(if cmp .lss I.2 (Ar.len b)then(C7 b I.2).bind λg=>if cmp .lss (ar .add .i64 I.1 (Ar.len g)) 0 then none else some (.inl (ar .add .i64 I.1 (Ar.len g),ar .add .i64 I.2 1))else some (.inr I.1):OS ((Int×Int)⊕(Int)))) N (0,0)).bind λd=>(AH N [] d).bind λh=>(loopN (λ(a:Int×(Up A7))=>(if cmp .lss a.1 (Ar.len b)then(C7 b a.1).bind λk=>(V7 a.2 k).bind λe=>some (.inl (ar .add .i64 a.1 1,e))else some (.inr a.2):OS ((Int×(Up A7))⊕(((Up A7)))))) N (0,h)).bind λi=>some i
def GH (N:Nat)(p:A7)(a:A7):OS Int:=some (ar .sub .i64 p.at_ a.at_)
def J4(p:Up A7)(a:Up A7):OS (Up A7):=(U4 N ([p,a])).bind λl1=>(Ll (λe g=>GH N e g) l1).bind λb=>some b
def Ca(a:Up A7)(b:A7->OS Bool):OS Int:=(loopN (λ(I:Int)=>(if cmp .lss I (Ar.len a)then(C7 a I).bind λg=>(b g).bind λe=>if e then some (.inr (.inr I))else some (.inl (ar .add .i64 I 1))else some (.inr (.inl ())):OS ((Int)⊕(Unit⊕Int)))) N 0).bind λd=>match d with
 | .inl i=>some (-1)
 | .inr h=>some h
def L7(a:Up A7)(b:A7->OS Bool):OS Bool:=(Ca N a b).bind λe=>some (cmp .geq e 0)
def X0 (N:Nat)(b:A7)(a:Int):OS Bool:=some (cmp .eql b.at_ a)
def U6(b:F2) (S:A0) (r:Up A7) (a:Up A7):OS Bool:=(C7 a 0).bind λl=>(C7 a (ar .sub .i64 (Ar.len a) 1)).bind λn=>(J4 N r a).bind λk=>if cmp .eql S.Op 6 then(C7 b.dH n.at_).bind λy=>(C7 b.dH l.at_).bind λx5=>some (cmp .leq (ar .sub .i64 y.Time x5.Time) S.Span)else if cmp .eql S.Op 7 then(Z4 N b k (Ar.len b.dH)).bind λt=>(Fz N S.dF t (-1) (⟨0,0,0,0,[]⟩:A9)).bind λx=>some x else(loopN (λ(e:Int)=>(if cmp .lss e n.at_ then(L7 N a (λH=>X0 N H e)).bind λg=>if nt g then(P2 N b S k e).bind λh=>if h then some (.inr (.inr ()))else some (.inl (ar .add .i64 e 1))else some (.inl (ar .add .i64 e 1))else some (.inr (.inl ())):OS ((Int)⊕(Unit⊕Unit)))) N (ar .add .i64 l.at_ 1)).bind λi=>match i with
   | .inl K=>some true
   | .inr P=>some false
def BA (N:Nat)(b:A7)(a:A7):OS Bool:=some (cmp .eql a.at_ b.at_)
def Cy(b:A7)(a:Up A7):OS Bool:=(L7 N a (λg=>BA N g b)).bind λe=>some e
def BV(p:Up A7)(a:Up A7):OS Bool:=(L7 N p (λe=>Cy N e a)).bind λb=>some (nt b)
def V6 (N:Nat)(a:Up A7):OS Int:=(C7 a (ar .sub .i64 (Ar.len a) 1)).bind λb=>some (ar .add .i64 b.at_ 1)
def S5 (N:Nat)(a:Up A5):OS (Up A5):=(V7 [] a).bind λl=>some l
mutual
def F6 (N:Nat):Nat->F2->A0->Up A7->Int->OS (Up A8)
 |0,_,_,_,_=>none
 |n+1,a,S,b,e=>Aa N n a S b e
def Aa (N:Nat):Nat->F2->A0->Up A7->Int->OS (Up A8)
 |0,_,_,_,_=>none
 | n+1,a,e,g,h=>(((N1 N n a e g h).bind λi=>L5 (AS (λ(b:Int) (t:A8)=>(L5 ((if cmp .gtr (ar .add .i64 b 1) 4096 then none else some ([],())):OS (Up A8×(Unit))) λr=>if cmp .eql a.count 0 then L5 (some ([t],())) λ_=>some ([],.inl (ar .add .i64 b 1))else none:OS (Up A8×(Int⊕Unit)))) i 0) λk=>match k with
   | .inl l=>some ([],())
   | .inr _=>none):OS (Up A8×Unit)).bind λq=>some q.1
def N1 (N:Nat):Nat->F2->A0->Up A7->Int->OS (Up A8)
 |0,_,_,_,_=>none
 | n + 1,a,S,g,i=>((if cmp .eql S.Op 0 then L5 (Ap (λ(d:Int)=>(if cmp .lss d (Ar.len a.dH)then(P2 N a S g d).bind λc=>if c then(C7 a.dH d).bind λj=>(Dw N j).bind λt=>L5 (some ([(⟨(⟨t,0,[]⟩:A5),[(⟨S.Var,d⟩:A7)]⟩:A8)],())) λ_=>some ([],.inl (ar .add .i64 d 1))else some ([],.inl (ar .add .i64 d 1))else some ([],.inr ()):OS (Up A8×((Int)⊕(Unit))))) N i) λm=>some ([],())else if cmp .eql S.Op 2 then L5 (Ap (λ(b:Int)=>(if cmp .lss b (Ar.len S.dD)then(C7 S.dD b).bind λP=>(F6 N n a P g i).bind λx=>L5 (AS (λ(_:Unit) (h:A8)=>(L5 (some ([(⟨(⟨(⟨0,0,0⟩:Bb),b,[h.d]⟩:A5),h.s⟩:A8)],())) λ_=>some ([],.inl ()):OS (Up A8×(Unit⊕Unit)))) x ()) λl=>match l with
         | .inl _=>some ([],.inl (ar .add .i64 b 1))
         | .inr _=>none else some ([],.inr ()):OS (Up A8×((Int)⊕(Unit))))) N 0) λf=>if cmp .eql a.count 0 then some ([],())else none else L5 ((if cmp .eql S.Op 1 then some ([],true)else if cmp .eql S.Op 3 then some ([],true)else some ([],cmp .eql S.Op 4)):OS (Up A8×(Bool))) λK=>if K then(E9 N n a S g i ([]) ([])).bind λk=>L5 (some (k,())) λ_=>some ([],())else(C7 S.dD 0).bind λV=>(F6 N n a V g i).bind λy=>L5 (AS (λ(_:Unit) (e:A8)=>((U6 N a S g e.s).bind λH=>if H then L5 (some ([(⟨(⟨(⟨0,0,0⟩:Bb),0,[e.d]⟩:A5),e.s⟩:A8)],())) λ_=>some ([],.inl ())else some ([],.inl ()):OS (Up A8×(Unit⊕Unit)))) y ()) λr=>match r with
      | .inl _=>if cmp .eql a.count 0 then some ([],())else none
      | .inr _=>none):OS (Up A8×Unit)).bind λq=>some q.1
def E9 (N:Nat):Nat->F2->A0->Up A7->Int->Up A5->Up A7->OS (Up A8)
 |0,_,_,_,_,_,_=>none
 | n+1,g,S,h,f,b,e=>((L5 ((if Ar.or (an (cmp .neq S.Op 4) (cmp .eql (Ar.len b) (Ar.len S.dD))) (an (cmp .eql S.Op 4) (cmp .gtr (Ar.len b) 0))then(S5 N b).bind λj=>L5 (some ([(⟨(⟨(⟨0,0,0⟩:Bb),0,j⟩:A5),e⟩:A8)],())) λ_=>if cmp .neq S.Op 4 then some ([],(.inr true))else some ([],(.inl ()))else some ([],(.inl ()))):OS (Up A8×(Unit⊕Bool))) λd=>match d with
   | .inl o=>L5 ((if cmp .neq S.Op 3 then(J4 N h e).bind λt=>some ([],t)else some ([],h)):OS (Up A8×(((Up A7))))) λm=>(El (cmp .neq (Ar.len S.dD) 0)).bind λ_=>(C7 S.dD (ar .rem .i64 (Ar.len b) (Ar.len S.dD))).bind λV=>(F6 N n g V m f).bind λx=>L5 (AS (λ(_:Unit) (a:A8)=>(L5 ((if cmp .neq S.Op 3 then(V6 N a.s).bind λy=>some ([],y)else some ([],f)):OS (Up A8×(Int))) λP=>(BV N e a.s).bind λH=>if nt H then some ([],.inl ())else(R6 b none (some (Ar.len b)) (some (Ar.len b))).bind λi=>(V7 i ([a.d])).bind λk=>(J4 N e a.s).bind λK=>(E9 N n g S h P k K).bind λl=>L5 (some (l,())) λ_=>some ([],.inl ()):OS (Up A8×(Unit⊕Unit)))) x ()) λr=>match r with
    | .inl _=>if cmp .eql g.count 0 then some ([],())else none
    | .inr _=>none
   | .inr c=>if c then some ([],())else none):OS (Up A8×Unit)).bind λq=>some q.1
end
def FB(S:A0) (x:Up A9):OS ((Up A5)×Int):=(Dg N S).bind λy=>if cmp .neq y 0 then some ([],y)else(BY N x).bind λv=>if cmp .neq v 0 then some ([],v)else(F6 N N (⟨x,0⟩:F2) S ([]) 0).bind λV=>(M8 (λ(t:(Up A5)) (f:A8)=>((((V7 t ([(⟨(⟨0,0,0⟩:Bb),0,[]⟩:A5)])).bind λe=>(El (Hu e (Ar.len t))).bind λ_=>(Ev e (Ar.len t) (λH:A5=>f.d)).bind λg=>some g):OS (((Up A5)))).bind λr=>some (.inl r):OS (((Up A5))⊕(Unit)))) V ([])).bind λn=>match n with
   | .inl a=>if cmp .gtr 0 0 then some ([],17)else(loopN (λ(b:Int)=>(if cmp .lss b (Ar.len a)then(El (Hu a b)).bind λ_=>(C7 a b).bind λl=>(X2 N N l).bind λi=>if cmp .gtr i 4096 then some (.inr (.inr ()))else some (.inl (ar .add .i64 b 1))else some (.inr (.inl ())):OS ((Int)⊕(Unit⊕Unit)))) N 0).bind λk=>match k with
     | .inl K=>(Ll (λc d=>R3 N N c d) a).bind λh=>some (h,0)
     | .inr P=>some ([],5)
   | .inr _=>none
def Kv (N:Nat)(a:Int)(b:Int):OS (Int×Int):=some (ar .add .u64 (ar .add .u64 (ar .mul .u64 (sh .shr .u64 a 32) (sh .shr .u64 b 32)) (sh .shr .u64 (ar .add .u64 (ar .mul .u64 (sh .shr .u64 a 32) (ar .and .u64 b 4294967295)) (sh .shr .u64 (ar .mul .u64 (ar .and .u64 a 4294967295) (ar .and .u64 b 4294967295)) 32)) 32)) (sh .shr .u64 (ar .add .u64 (ar .and .u64 (ar .add .u64 (ar .mul .u64 (sh .shr .u64 a 32) (ar .and .u64 b 4294967295)) (sh .shr .u64 (ar .mul .u64 (ar .and .u64 a 4294967295) (ar .and .u64 b 4294967295)) 32)) 4294967295) (ar .mul .u64 (ar .and .u64 a 4294967295) (sh .shr .u64 b 32))) 32),ar .mul .u64 a b)
def RO(b:Int)(e:Int):OS (Int×Int):=(Kv N b e).bind λa=>some (a.1,a.2)
def X4(h:Up A0)(i:Int):OS (Up A0):=((if cmp .lss i 0 then none else some ()):OS (Unit)).bind λI=>(RO N (wr .u64 (Ar.len h)) (wr .u64 i)).bind λv=>((if Ar.or (cmp .gtr v.1 0) (cmp .gtr v.2 9223372036854775807)then none else some ()):OS (Unit)).bind λt=>(ZW (wr .i64 v.2) (wr .i64 v.2) ((⟨0,[],0,0,0,0,(⟨0,[],0,0,0,(⟨0,0,⟨#[]⟩⟩:B5)⟩:B6)⟩:A0):A0)).bind λn=>(Wp n 0 h).bind λl=>(loopN (λ(a:Int×(Up A0))=>(if cmp .lss a.1 (Ar.len a.2)then(((R6 a.2 (some a.1) none none).bind λk=>(R6 a.2 none (some a.1) none).bind λe=>(Wp a.2 a.1 e).bind λb=>some (ar .add .i64 a.1 b.2,b.1)):OS ((Int×(Up A0)))).bind λg=>some (.inl (g.1,g.2))else some (.inr a.2):OS ((Int×(Up A0))⊕(((Up A0)))))) N (l.2,l.1)).bind λr=>some r
def Bi (N:Nat):Nat->A0->A5->OS Int
 |0,_,_=>none
 | n +1,S,a=>if Ar.or (an (cmp .neq S.Op 0) (nt (an (cmp .eql a.Ref.Time 0) (an (cmp .eql a.Ref.Source 0) (an (cmp .eql a.Ref.Seq 0) true))))) (an (cmp .neq S.Op 2) (cmp .neq a.Choice 0))then some 3 else((if cmp .eql S.Op 2 then if Ar.or (cmp .lss a.Choice 0) (cmp .geq a.Choice (Ar.len S.dD))then some (.inr 2)else(R6 S.dD (some a.Choice) (some (ar .add .i64 a.Choice 1)) none).bind λl=>some (.inl l)else if cmp .eql S.Op 4 then if cmp .eql (Ar.len a.Kids) 0 then some (.inr 15)else(X4 N S.dD (Ar.len a.Kids)).bind λr=>some (.inl r)else some (.inl S.dD)):OS (((Up A0))⊕Int)).bind λI=>match I with
   | .inl k=>if cmp .neq (Ar.len a.Kids) (Ar.len k)then some 15 else(loopN (λ(e:Int)=>(if cmp .lss e (Ar.len a.Kids)then(C7 a.Kids e).bind λx=>(C7 k e).bind λg=>(Bi N n g x).bind λb=>if cmp .neq b 0 then some (.inr (.inr b))else some (.inl (ar .add .i64 e 1))else some (.inr (.inl ())):OS ((Int)⊕(Unit⊕Int)))) N 0).bind λt=>match t with
     | .inl y=>some 0
     | .inr h=>some h
   | .inr i=>some i
def Cn(S:A0)(a:A5):OS Int:=(Dg N S).bind λb=>if cmp .neq b 0 then some b else(X2 N N a).bind λv=>if cmp .gtr v 4096 then some 5 else(Bi N N S a).bind λe=>some e
def P5 (N:Nat):Nat->A0->A5->OS (Up B0)
 |0,_,_=>none
 |n+1,S,b=>if cmp .eql S.Op 0 then some ([(⟨S.Var,b.Ref⟩:B0)])else if cmp .eql S.Op 2 then(C7 S.dD b.Choice).bind λk=>(C7 b.Kids 0).bind λl=>(P5 N n k l).bind λh=>some h else(loopN (λ(a:(Up B0)×Int)=>(if cmp .lss a.2 (Ar.len b.Kids)then(C7 b.Kids a.2).bind λr=>(El (cmp .neq (Ar.len S.dD) 0)).bind λ_=>(C7 S.dD (ar .rem .i64 a.2 (Ar.len S.dD))).bind λt=>(P5 N n t r).bind λg=>(V7 a.1 g).bind λe=>some (.inl (e,ar .add .i64 a.2 1))else some (.inr a.1):OS (((Up B0)×Int)⊕(((Up B0)))))) N ([],0)).bind λi=>some i
def Eg(S:A0)(b:A5):OS (Up Bb):=(P5 N N S b).bind λa=>(loopN (λ(d:(Up Bb)×Int)=>(if cmp .lss d.2 (Ar.len a)then(C7 a d.2).bind λx5=>(V7 d.1 ([x5.Ref])).bind λe=>some (.inl (e,ar .add .i64 d.2 1))else some (.inr d.1):OS (((Up Bb)×Int)⊕(((Up Bb)))))) N ([],0)).bind λg=>some g
def O8(a:Up A9)(e:Bb)(b:A9->Bb->OS Int):OS (Int×Bool):=(loopN (λ(I:Int×Int)=>(if cmp .lss I.1 I.2 then(C7 a (wr .i64 (sh .shr .u64 (wr .u64 (ar .add .i64 I.1 I.2)) 1))).bind λi=>(b i e).bind λg=>if cmp .lss g 0 then some (.inl (ar .add .i64 (wr .i64 (sh .shr .u64 (wr .u64 (ar .add .i64 I.1 I.2)) 1)) 1,I.2))else some (.inl (I.1,wr .i64 (sh .shr .u64 (wr .u64 (ar .add .i64 I.1 I.2)) 1)))else some (.inr I.1):OS ((Int×Int)⊕(Int)))) N (0,Ar.len a)).bind λd=>if cmp .lss d (Ar.len a)then(C7 a d).bind λx5=>(b x5 e).bind λh=>some (d,cmp .eql h 0)else some (d,false)
def Cs(a:A9)(b:Bb):OS Int:=(Q3 N a.Time b.Time).bind λe=>(Q3 N a.Source b.Source).bind λv=>(Q3 N a.Seq b.Seq).bind λg=>(GJ N ([e,v,g])).bind λh=>some h
def Fk(a:Up A9)(e:Bb):OS (Int×Bool×Int):=(BY N a).bind λb=>if cmp .neq b 0 then some (0,false,b)else(O8 N a e (λg h=>Cs N g h)).bind λv=>some (v.1,v.2,0)
def P1 (N:Nat):Nat->F2->A0->A5->Up A7->Int->OS ((Up A7)×Bool)
 |0,_,_,_,_,_=>none
 | n+1,g,S,i,h,l=>if cmp .eql S.Op 0 then(Fk N g.dH i.Ref).bind λk=>if an k.2.1 (cmp .geq k.1 l)then(P2 N g S h k.1).bind λv=>some ([(⟨S.Var,k.1⟩:A7)],v)else some ([(⟨S.Var,k.1⟩:A7)],false)else if cmp .eql S.Op 2 then(C7 S.dD i.Choice).bind λf=>(C7 i.Kids 0).bind λj=>(P1 N n g f j h l).bind λc=>some (c.1,c.2)else(loopN (λ(a:Int×(Up A7)×Int)=>(if cmp .lss a.2.2 (Ar.len i.Kids)then(C7 i.Kids a.2.2).bind λm=>((if Ar.or (cmp .eql S.Op 1) (cmp .eql S.Op 4)then(J4 N h a.2.1).bind λr=>some r else some h):OS (((Up A7)))).bind λP=>(El (cmp .neq (Ar.len S.dD) 0)).bind λ_=>(C7 S.dD (ar .rem .i64 a.2.2 (Ar.len S.dD))).bind λV=>(P1 N n g V m P a.1).bind λb=>if nt b.2 then some (.inr (.inr ()))else(BV N a.2.1 b.1).bind λt=>if nt t then some (.inr (.inr ()))else if Ar.or (cmp .eql S.Op 1) (cmp .eql S.Op 4)then(V6 N b.1).bind λx=>(J4 N a.2.1 b.1).bind λy=>some (.inl (x,y,ar .add .i64 a.2.2 1))else(J4 N a.2.1 b.1).bind λH=>some (.inl (a.1,H,ar .add .i64 a.2.2 1))else some (.inr (.inl a.2.1)):OS ((Int×(Up A7)×Int)⊕(((Up A7))⊕Unit)))) N (l,[],0)).bind λd=>match d with
    | .inl e=>if nt (Ar.or (Ar.or (cmp .eql S.Op 5) (cmp .eql S.Op 6)) (cmp .eql S.Op 7))then some (e,true)else(U6 N g S h e).bind λK=>some (e,K)
    | .inr o=>some ([],false)
def S8(S:A0) (a:Up A9) (b:A5):OS Int:=(Cn N S b).bind λg=>if cmp .neq g 0 then some g else(BY N a).bind λv=>if cmp .neq v 0 then some v else(Eg N S b).bind λh=>(loopN (λ(e:Int)=>(if cmp .lss e (Ar.len h)then(C7 h e).bind λn=>(Fk N a n).bind λi=>if nt i.2.1 then some (.inr (.inr ()))else some (.inl (ar .add .i64 e 1))else some (.inr (.inl ())):OS ((Int)⊕(Unit⊕Unit)))) N 0).bind λl=>match l with
   | .inl t=>(P1 N N (⟨a,0⟩:F2) S b ([]) 0).bind λk=>if nt k.2 then some 18 else some 0
   | .inr r=>some 6
def J7(t:Up B0)(p:Int)(n:Int)(r:B0->B0->OS Int):OS (Up B0):=(loopN (λ(I:Int×(Up B0))=>(if cmp .lss I.1 n then(loopN (λ(a:Int×(Up B0))=>(if cmp .gtr a.1 p then(El (Hu a.2 a.1)).bind λ_=>(C7 a.2 a.1).bind λK=>(El (Hu a.2 (ar .sub .i64 a.1 1))).bind λ_=>(C7 a.2 (ar .sub .i64 a.1 1)).bind λP=>(r K P).bind λx=>if cmp .lss x 0 then(((El (Hu a.2 (ar .sub .i64 a.1 1))).bind λ_=>(C7 a.2 (ar .sub .i64 a.1 1)).bind λg=>(El (Hu a.2 a.1)).bind λ_=>(C7 a.2 a.1).bind λh=>(El (Hu a.2 a.1)).bind λ_=>(Ev a.2 a.1 (λk:B0=>g)).bind λb=>(El (Hu b (ar .sub .i64 a.1 1))).bind λ_=>(Ev b (ar .sub .i64 a.1 1) (λl:B0=>h)).bind λe=>some e):OS (((Up B0)))).bind λi=>some (.inl (ar .sub .i64 a.1 1,i))else some (.inr a.2)else some (.inr a.2):OS ((Int×(Up B0))⊕(((Up B0)))))) N (I.1,I.2)).bind λH=>some (.inl (ar .add .i64 I.1 1,H))else some (.inr I.2):OS ((Int×(Up B0))⊕(((Up B0)))))) N (ar .add .i64 p 1,t)).bind λy=>some y
def R5(n:Up B0)(p:Int)(h:Int)(l:Int)(x:B0->B0->OS Int):OS (Up B0):=(loopN (λ(I:Int×(Up B0))=>(if cmp .lss I.1 l then(((El (Hu I.2 (ar .add .i64 h I.1))).bind λ_=>(C7 I.2 (ar .add .i64 h I.1)).bind λe=>(El (Hu I.2 (ar .add .i64 p I.1))).bind λ_=>(C7 I.2 (ar .add .i64 p I.1)).bind λg=>(El (Hu I.2 (ar .add .i64 p I.1))).bind λ_=>(Ev I.2 (ar .add .i64 p I.1) (λi:B0=>e)).bind λa=>(El (Hu a (ar .add .i64 h I.1))).bind λ_=>(Ev a (ar .add .i64 h I.1) (λk:B0=>g)).bind λb=>some b):OS (((Up B0)))).bind λt=>some (.inl (ar .add .i64 I.1 1,t))else some (.inr I.2):OS ((Int×(Up B0))⊕(((Up B0)))))) N (0,n)).bind λr=>some r
def BN(h:Up B0)(p:Int)(a:Int)(g:Int)(b:B0->B0->OS Int):OS (Up B0):=(loopN (λ(I:Int×Int×(Up B0))=>(if cmp .neq I.1 I.2.1 then if cmp .gtr I.1 I.2.1 then(R5 N I.2.2 (ar .sub .i64 a I.1) a I.2.1 b).bind λi=>some (.inl (ar .sub .i64 I.1 I.2.1,I.2.1,i))else(R5 N I.2.2 (ar .sub .i64 a I.1) (ar .sub .i64 (ar .add .i64 a I.2.1) I.1) I.1 b).bind λk=>some (.inl (I.1,ar .sub .i64 I.2.1 I.1,k))else some (.inr (I.1,I.2.2)):OS ((Int×Int×(Up B0))⊕((Int×(Up B0)))))) N (ar .sub .i64 a p,ar .sub .i64 g a,h)).bind λe=>(R5 N e.2 (ar .sub .i64 a e.1) a e.1 b).bind λl=>some l
def O0 (N:Nat):Nat->Up B0->Int->Int->Int->(B0->B0->OS Int)->OS (Up B0)
 |0,_,_,_,_,_=>none
 |n+1,l,p,h,i,s=>if cmp .eql (ar .sub .i64 h p) 1 then(loopN (λ(I:Int×Int)=>(if cmp .lss I.1 I.2 then(El (Hu l (wr .i64 (sh .shr .u64 (wr .u64 (ar .add .i64 I.1 I.2)) 1)))).bind λ_=>(C7 l (wr .i64 (sh .shr .u64 (wr .u64 (ar .add .i64 I.1 I.2)) 1))).bind λR=>(El (Hu l p)).bind λ_=>(C7 l p).bind λS=>(s R S).bind λM=>if cmp .lss M 0 then some (.inl (ar .add .i64 (wr .i64 (sh .shr .u64 (wr .u64 (ar .add .i64 I.1 I.2)) 1)) 1,I.2))else some (.inl (I.1,wr .i64 (sh .shr .u64 (wr .u64 (ar .add .i64 I.1 I.2)) 1)))else some (.inr I.1):OS ((Int×Int)⊕(Int)))) N (h,i)).bind λd=>(loopN (λ(k:Int×(Up B0))=>(if cmp .lss k.1 (ar .sub .i64 d 1)then(((El (Hu k.2 (ar .add .i64 k.1 1))).bind λ_=>(C7 k.2 (ar .add .i64 k.1 1)).bind λB=>(El (Hu k.2 k.1)).bind λ_=>(C7 k.2 k.1).bind λC=>(El (Hu k.2 k.1)).bind λ_=>(Ev k.2 k.1 (λJ:B0=>B)).bind λH=>(El (Hu H (ar .add .i64 k.1 1))).bind λ_=>(Ev H (ar .add .i64 k.1 1) (λL:B0=>C)).bind λu=>some u):OS (((Up B0)))).bind λQ=>some (.inl (ar .add .i64 k.1 1,Q))else some (.inr k.2):OS ((Int×(Up B0))⊕(((Up B0)))))) N (p,l)).bind λO=>some O else if cmp .eql (ar .sub .i64 i h) 1 then(loopN (λ(g:Int×Int)=>(if cmp .lss g.1 g.2 then(El (Hu l h)).bind λ_=>(C7 l h).bind λD=>(El (Hu l (wr .i64 (sh .shr .u64 (wr .u64 (ar .add .i64 g.1 g.2)) 1)))).bind λ_=>(C7 l (wr .i64 (sh .shr .u64 (wr .u64 (ar .add .i64 g.1 g.2)) 1))).bind λE=>(s D E).bind λv=>if nt (cmp .lss v 0)then some (.inl (ar .add .i64 (wr .i64 (sh .shr .u64 (wr .u64 (ar .add .i64 g.1 g.2)) 1)) 1,g.2))else some (.inl (g.1,wr .i64 (sh .shr .u64 (wr .u64 (ar .add .i64 g.1 g.2)) 1)))else some (.inr g.1):OS ((Int×Int)⊕(Int)))) N (p,h)).bind λw=>(loopN (λ(b:Int×(Up B0))=>(if cmp .gtr b.1 w then(((El (Hu b.2 (ar .sub .i64 b.1 1))).bind λ_=>(C7 b.2 (ar .sub .i64 b.1 1)).bind λj=>(El (Hu b.2 b.1)).bind λ_=>(C7 b.2 b.1).bind λm=>(El (Hu b.2 b.1)).bind λ_=>(Ev b.2 b.1 (λF:B0=>j)).bind λr=>(El (Hu r (ar .sub .i64 b.1 1))).bind λ_=>(Ev r (ar .sub .i64 b.1 1) (λG:B0=>m)).bind λK=>some K):OS (((Up B0)))).bind λA=>some (.inl (ar .sub .i64 b.1 1,A))else some (.inr b.2):OS ((Int×(Up B0))⊕(((Up B0)))))) N (h,l)).bind λz=>some z else((if cmp .gtr h (wr .i64 (sh .shr .u64 (wr .u64 (ar .add .i64 p i)) 1))then some (ar .sub .i64 (ar .add .i64 (wr .i64 (sh .shr .u64 (wr .u64 (ar .add .i64 p i)) 1)) h) i,wr .i64 (sh .shr .u64 (wr .u64 (ar .add .i64 p i)) 1))else some (p,h)):OS ((Int×Int))).bind λt=>(loopN (λ(a:Int×Int)=>(if cmp .lss a.1 a.2 then(El (Hu l (ar .sub .i64 (ar .sub .i64 (ar .add .i64 (wr .i64 (sh .shr .u64 (wr .u64 (ar .add .i64 p i)) 1)) h) 1) (wr .i64 (sh .shr .u64 (wr .u64 (ar .add .i64 a.1 a.2)) 1))))).bind λ_=>(C7 l (ar .sub .i64 (ar .sub .i64 (ar .add .i64 (wr .i64 (sh .shr .u64 (wr .u64 (ar .add .i64 p i)) 1)) h) 1) (wr .i64 (sh .shr .u64 (wr .u64 (ar .add .i64 a.1 a.2)) 1)))).bind λo=>(El (Hu l (wr .i64 (sh .shr .u64 (wr .u64 (ar .add .i64 a.1 a.2)) 1)))).bind λ_=>(C7 l (wr .i64 (sh .shr .u64 (wr .u64 (ar .add .i64 a.1 a.2)) 1))).bind λq=>(s o q).bind λf=>if nt (cmp .lss f 0)then some (.inl (ar .add .i64 (wr .i64 (sh .shr .u64 (wr .u64 (ar .add .i64 a.1 a.2)) 1)) 1,a.2))else some (.inl (a.1,wr .i64 (sh .shr .u64 (wr .u64 (ar .add .i64 a.1 a.2)) 1)))else some (.inr a.1):OS ((Int×Int)⊕(Int)))) N (t.1,t.2)).bind λe=>((if an (cmp .lss e h) (cmp .lss h (ar .sub .i64 (ar .add .i64 (wr .i64 (sh .shr .u64 (wr .u64 (ar .add .i64 p i)) 1)) h) e))then(BN N l e h (ar .sub .i64 (ar .add .i64 (wr .i64 (sh .shr .u64 (wr .u64 (ar .add .i64 p i)) 1)) h) e) s).bind λP=>some P else some l):OS (((Up B0)))).bind λx=>((if an (cmp .lss p e) (cmp .lss e (wr .i64 (sh .shr .u64 (wr .u64 (ar .add .i64 p i)) 1)))then(O0 N n x p e (wr .i64 (sh .shr .u64 (wr .u64 (ar .add .i64 p i)) 1)) s).bind λV=>some V else some x):OS (((Up B0)))).bind λy=>if an (cmp .lss (wr .i64 (sh .shr .u64 (wr .u64 (ar .add .i64 p i)) 1)) (ar .sub .i64 (ar .add .i64 (wr .i64 (sh .shr .u64 (wr .u64 (ar .add .i64 p i)) 1)) h) e)) (cmp .lss (ar .sub .i64 (ar .add .i64 (wr .i64 (sh .shr .u64 (wr .u64 (ar .add .i64 p i)) 1)) h) e) i)then(O0 N n y (wr .i64 (sh .shr .u64 (wr .u64 (ar .add .i64 p i)) 1)) (ar .sub .i64 (ar .add .i64 (wr .i64 (sh .shr .u64 (wr .u64 (ar .add .i64 p i)) 1)) h) e) i s).bind λc=>some c else some y
def T7(n:Up B0)(g:Int)(h:B0->B0->OS Int):OS (Up B0):=(loopN (λ(I:Int×Int×(Up B0))=>(if cmp .leq I.2.1 g then(J7 N I.2.2 I.1 I.2.1 h).bind λr=>some (.inl (I.2.1,ar .add .i64 I.2.1 20,r))else some (.inr (I.1,I.2.2)):OS ((Int×Int×(Up B0))⊕((Int×(Up B0)))))) N (0,20,n)).bind λl=>(J7 N l.2 l.1 g h).bind λt=>(loopN (λ(e:Int×(Up B0))=>(if cmp .lss e.1 g then(loopN (λ(a:Int×Int×(Up B0))=>(if cmp .leq a.2.1 g then(O0 N N a.2.2 a.1 (ar .add .i64 a.1 e.1) a.2.1 h).bind λi=>some (.inl (a.2.1,ar .add .i64 a.2.1 (ar .mul .i64 2 e.1),i))else some (.inr (a.1,a.2.2)):OS ((Int×Int×(Up B0))⊕((Int×(Up B0)))))) N (0,ar .mul .i64 2 e.1,e.2)).bind λb=>if cmp .lss (ar .add .i64 b.1 e.1) g then(O0 N N b.2 b.1 (ar .add .i64 b.1 e.1) g h).bind λk=>some (.inl (ar .mul .i64 e.1 2,k))else some (.inl (ar .mul .i64 e.1 2,b.2))else some (.inr e.2):OS ((Int×(Up B0))⊕(((Up B0)))))) N (20,t)).bind λx=>some x
def Q4(a:Up B0)(b:B0->B0->OS Int):OS (Up B0):=(T7 N a (Ar.len a) b).bind λl1=>some l1
def FN(p:Bb)(a:Bb):OS Int:=(Di N (⟨p.Source,p.Seq,0,p.Time,[]⟩:A9) (⟨a.Source,a.Seq,0,a.Time,[]⟩:A9)).bind λb=>some b
def Al(p:B0)(a:B0):OS Int:=(FN N p.Ref a.Ref).bind λb=>some b
def GE(p:Bb)(a:Bb):OS Int:=(Q3 N p.Time a.Time).bind λb=>(Q3 N p.Source a.Source).bind λv=>(Q3 N p.Seq a.Seq).bind λe=>(GJ N ([b,v,e])).bind λg=>some g
def Eb (N:Nat)(a:Int)(b:Int):OS Bool:=some (an (cmp .geq a 0) (cmp .leq a b))
def Fu(a:D6):OS Int:=if cmp .eql (Ar.len a.dE) 0 then some 15 else if cmp .gtr (Ar.len a.dE) 4096 then some 5 else(loopN (λ(I:Int)=>(if cmp .lss I (Ar.len a.dE)then(C7 a.dE I).bind λb=>(Eb N b.Var 15).bind λh=>if nt h then some (.inr (.inr 2))else(Eb N b.Ref.Time 1099511627776).bind λi=>if nt i then some (.inr (.inr 2))else(Eb N b.Ref.Source 7).bind λk=>if nt k then some (.inr (.inr 2))else(Eb N b.Ref.Seq 1099511627776).bind λl=>if nt l then some (.inr (.inr 2))else if cmp .gtr I 0 then(C7 a.dE (ar .sub .i64 I 1)).bind λn=>(GE N n.Ref b.Ref).bind λe=>if cmp .geq e 0 then some (.inr (.inr 14))else some (.inl (ar .add .i64 I 1))else some (.inl (ar .add .i64 I 1))else some (.inr (.inl ())):OS ((Int)⊕(Unit⊕Int)))) N 0).bind λd=>match d with
   | .inl r=>some 0
   | .inr g=>some g
def Z5 (N:Nat):Nat->A0->A5->OS (Up B0)
 |0,_,_=>none
 |n+1,S,b=>if cmp .eql S.Op 0 then some ([(⟨S.Var,b.Ref⟩:B0)]:Up B0)else if cmp .eql S.Op 2 then(C7 S.dD b.Choice).bind λr=>(C7 b.Kids 0).bind λt=>(Z5 N n r t).bind λl=>some l else(loopN (λ(a:Int×(Up B0))=>(if cmp .lss a.1 (Ar.len b.Kids)then(C7 b.Kids a.1).bind λi=>(El (cmp .neq (Ar.len S.dD) 0)).bind λ_=>(C7 S.dD (ar .rem .i64 a.1 (Ar.len S.dD))).bind λk=>(P5 N n k i).bind λg=>(V7 a.2 g).bind λe=>some (.inl (ar .add .i64 a.1 1,e))else some (.inr a.2):OS ((Int×(Up B0))⊕(((Up B0)))))) N (0,([]:Up B0))).bind λh=>some h
def Aq(S:A0) (i:A5):OS (D6×Int):=(Cn N S i).bind λv=>if cmp .neq v 0 then some ((⟨[]⟩:D6),v)else(Z5 N N S i).bind λk=>(Q4 N k (λn x=>Al N n x)).bind λa=>(loopN (λ(b:Int)=>(if cmp .lss b (Ar.len a)then(El (Hu a (ar .sub .i64 b 1))).bind λ_=>(C7 a (ar .sub .i64 b 1)).bind λg=>(El (Hu a b)).bind λ_=>(C7 a b).bind λh=>if an (cmp .eql g.Ref.Time h.Ref.Time) (an (cmp .eql g.Ref.Source h.Ref.Source) (an (cmp .eql g.Ref.Seq h.Ref.Seq) true))then some (.inr (.inr ()))else some (.inl (ar .add .i64 b 1))else some (.inr (.inl ())):OS ((Int)⊕(Unit⊕Unit)))) N 1).bind λl=>match l with
  | .inl r=>(Fu N (⟨a⟩:D6)).bind λe=>if cmp .neq e 0 then some ((⟨[]⟩:D6),e)else some ((⟨a⟩:D6),0)
  | .inr t=>some ((⟨[]⟩:D6),7)
def Kj (N:Nat)(a:Int)(b:Int):OS A5:=some (⟨(⟨a,0,b⟩:Bb),0,[]⟩:A5)
def Pt (N:Nat):OS B6:=some (⟨0,[],0,0,0,(⟨1,1,⟨#[]⟩⟩:B5)⟩:B6)
def Au(a:Int):OS A0:=(Pt N).bind λv=>(Pt N).bind λb=>some (⟨1,[(⟨0,[],0,0,0,0,v⟩:A0),(⟨4,[(⟨0,[],a,1,0,0,b⟩:A0)],0,0,0,0,(⟨0,[],0,0,0,(⟨0,0,⟨#[]⟩⟩:B5)⟩:B6)⟩:A0)],0,0,0,0,(⟨0,[],0,0,0,(⟨0,0,⟨#[]⟩⟩:B5)⟩:B6)⟩:A0)
def CR (N:Nat)(a:Int)(b:Int):OS (Up A9):=if cmp .lss b a then none else some ([(⟨0,0,0,1,[]⟩:A9),(⟨0,1,1,a,[]⟩:A9),(⟨0,2,1,b,[]⟩:A9)]:Up A9)
def Hp (N:Nat)(p:Int)(a:Int):OS Int:=if cmp .lss p a then some (-1)else if cmp .gtr p a then some 1 else some 0
def Hq(p:Bb)(a:Bb):OS Int:=if cmp .neq p.Time a.Time then(Hp N p.Time a.Time).bind λb=>some b else if cmp .neq p.Source a.Source then(Hp N p.Source a.Source).bind λv=>some v else(Hp N p.Seq a.Seq).bind λe=>some e
def It (N:Nat):Nat->A5->A5->OS Int
 |0,_,_=>none
 | n+1,p,a=>(Hq N p.Ref a.Ref).bind λb=>if cmp .neq b 0 then some b else if cmp .neq p.Choice a.Choice then if cmp .lss p.Choice a.Choice then some (-1)else some 1 else(loopN (λ(d:Int)=>(if an (cmp .lss d (Ar.len p.Kids)) (cmp .lss d (Ar.len a.Kids))then(C7 p.Kids d).bind λh=>(C7 a.Kids d).bind λx5=>(It N n h x5).bind λe=>if cmp .neq e 0 then some (.inr (.inr e))else some (.inl (ar .add .i64 d 1))else some (.inr (.inl ())):OS ((Int)⊕(Unit⊕Int)))) N 0).bind λg=>match g with
    | .inl k=>if cmp .lss (Ar.len p.Kids) (Ar.len a.Kids)then some (-1)else if cmp .gtr (Ar.len p.Kids) (Ar.len a.Kids)then some 1 else some 0
    | .inr i=>some i
def Qm(p:Up A5) (a:Up A5):OS Bool:=if cmp .neq (Ar.len p) (Ar.len a)then some false else(loopN (λ(I:Int)=>(if cmp .lss I (Ar.len p)then(C7 p I).bind λe=>(C7 a I).bind λg=>(It N N e g).bind λb=>if cmp .neq b 0 then some (.inr (.inr ()))else some (.inl (ar .add .i64 I 1))else some (.inr (.inl ())):OS ((Int)⊕(Unit⊕Unit)))) N 0).bind λd=>match d with
  | .inl h=>some true
  | .inr i=>some false
def Bh(a:Up A5):OS A5:=(Kj N 1 0).bind λv=>some (⟨(⟨0,0,0⟩:Bb),0,[v,(⟨(⟨0,0,0⟩:Bb),0,a⟩:A5)]⟩:A5)
def IX (N:Nat)(a:Up Int):OS (Up Int):=Az9 a
def Hb (N:Nat)(a:Up Int):OS (Up Int):=Wq a
def LU(S:A0):OS (Up Int):=(Bg N S).bind λl=>(M8 (λ(i:(Up Int)) (k:A0)=>(if cmp .eql k.Op 0 then(V7 i ([k.Var])).bind λa=>some (.inl a)else some (.inl i):OS (((Up Int))⊕(Unit)))) l ([])).bind λg=>match g with
 | .inl h=>(IX N h).bind λb=>(Hb N b).bind λe=>some e
 | .inr _=>none
def Ew(a:Up Int)(b:Int):OS Int:=(loopN (λ(I:Int)=>(if cmp .lss I (Ar.len a)then(C7 a I).bind λe=>if cmp .eql b e then some (.inr (.inr I))else some (.inl (ar .add .i64 I 1))else some (.inr (.inl ())):OS ((Int)⊕(Unit⊕Int)))) N 0).bind λd=>match d with
 | .inl h=>some (-1)
 | .inr g=>some g
def De(a:Up Int)(b:Int):OS Bool:=(Ew N a b).bind λe=>some (cmp .geq e 0)
def HE(S:A0)(a:Up A7):OS (Up A7):=(LU N S).bind λe=>(loopN (λ(d:(Up A7)×Int)=>(if cmp .lss d.2 (Ar.len a)then(C7 a d.2).bind λx5=>(De N e x5.v).bind λg=>if g then(V7 d.1 ([x5])).bind λb=>some (.inl (b,ar .add .i64 d.2 1))else some (.inl (d.1,ar .add .i64 d.2 1))else some (.inr d.1):OS (((Up A7)×Int)⊕(((Up A7)))))) N ([],0)).bind λh=>some h
mutual
def M1 (N:Nat):Nat->L9->Up (D1×B2)->A0->Int->Up A7->Up A7->OS (B2×Up (D1×B2))
 |0,_,_,_,_,_,_=>none
 |n+1,l,h,S,e,a,b=>(C7 a 0).bind λi=>(C7 a (ar .sub .i64 (Ar.len a) 1)).bind λk=>(Nn h (⟨e,i.at_,k.at_,Ar.len b⟩:D1) ((⟨(⟨(⟨0,0,0⟩:Bb),0,[]⟩:A5),false⟩:B2):B2)).bind λt=>if t.2 then none else(BB N n l h S e a b).bind λg=>(MC g.2 (⟨e,i.at_,k.at_,Ar.len b⟩:D1) g.1).bind λr=>some (g.1,r)
def BB (N:Nat):Nat->L9->Up (D1×B2)->A0->Int->Up A7->Up A7->OS (B2×Up (D1×B2))
 |0,_,_,_,_,_,_=>none
 |n+1,e,g,S,y,a,i=>((if cmp .eql S.Op 0 then if cmp .eql (Ar.len a) 1 then(C7 a 0).bind λV=>if cmp .eql V.v S.Var then(C7 a 0).bind λc=>(P2 N e.prover S i c.at_).bind λH=>(C7 a 0).bind λf=>(C7 e.prover.dH f.at_).bind λj=>(Dw N j).bind λK=>some ((⟨(⟨K,0,[]⟩:A5),H⟩:B2),g)else(C7 a 0).bind λm=>(C7 e.prover.dH m.at_).bind λr=>(Dw N r).bind λk=>some ((⟨(⟨k,0,[]⟩:A5),false⟩:B2),g)else(C7 a 0).bind λt=>(C7 e.prover.dH t.at_).bind λx=>(Dw N x).bind λl=>some ((⟨(⟨l,0,[]⟩:A5),false⟩:B2),g)else if cmp .eql S.Op 4 then(Z1 N n e g S y a i).bind λb=>some ((⟨(⟨(⟨0,0,0⟩:Bb),0,b.1.1⟩:A5),b.1.2⟩:B2),b.2)else if cmp .eql S.Op 2 then none else((if cmp .eql S.Op 1 then some ()else none):OS (Unit)).bind λP=>(Bo N n e g S y a i).bind λh=>some (h.1,h.2)):OS ((B2×(Up (D1×B2))))).bind λd=>some (d.1,d.2)
def Z1 (N:Nat):Nat->L9->Up (D1×B2)->A0->Int->Up A7->Up A7->OS (((Up A5)×Bool)×Up (D1×B2))
 |0,_,_,_,_,_,_=>none
 |n+1,q,v,S,u,g,s=>(ZW (ar .add .i64 (Ar.len g) 1) (ar .add .i64 (Ar.len g) 1) ([]:Up A5)).bind λw=>(ZW (ar .add .i64 (Ar.len g) 1) (ar .add .i64 (Ar.len g) 1) (false:Bool)).bind λp=>(El (Hu p (Ar.len g))).bind λ_=>(Ev p (Ar.len g) (λx5:Bool=>true)).bind λz=>(loopN (λ(b:Int×(Up Bool)×(Up (Up A5))×(Up (D1×B2)))=>(if cmp .geq b.1 0 then(loopN (λ(a:Int×(Up Bool)×(Up (Up A5))×(Up (D1×B2)))=>(if cmp .leq a.1 (Ar.len g)then(El (Hu a.2.1 b.1)).bind λ_=>(C7 a.2.1 b.1).bind λm=>if nt m then(El (Hu a.2.1 a.1)).bind λ_=>(C7 a.2.1 a.1).bind λo=>if nt o then some (.inl (ar .add .i64 a.1 1,a.2.1,a.2.2.1,a.2.2.2))else(((C7 S.dD 0).bind λd=>(R6 g (some b.1) (some a.1) none).bind λP=>(R6 g none (some b.1) none).bind λV=>(J4 N s V).bind λc=>(M1 N n q a.2.2.2 d (ar .add .i64 u 1) P c).bind λi=>some (i.1,i.2)):OS ((B2×(Up (D1×B2))))).bind λh=>if h.1.ok then(((El (Hu a.2.2.1 a.1)).bind λ_=>(C7 a.2.2.1 a.1).bind λy=>(V7 ([h.1.d]) y).bind λl=>(El (Hu a.2.2.1 b.1)).bind λ_=>(Ev a.2.2.1 b.1 (λf:Up A5=>l)).bind λr=>(El (Hu a.2.1 b.1)).bind λ_=>(Ev a.2.1 b.1 (λj:Bool=>true)).bind λt=>some (t,r)):OS (((Up Bool)×(Up (Up A5))))).bind λk=>some (.inl (ar .add .i64 a.1 1,k.1,k.2,h.2))else some (.inl (ar .add .i64 a.1 1,a.2.1,a.2.2.1,h.2))else some (.inr (a.2.1,a.2.2.1,a.2.2.2))else some (.inr (a.2.1,a.2.2.1,a.2.2.2)):OS ((Int×(Up Bool)×(Up (Up A5))×(Up (D1×B2)))⊕(((Up Bool)×(Up (Up A5))×(Up (D1×B2))))))) N (ar .add .i64 b.1 1,b.2.1,b.2.2.1,b.2.2.2)).bind λx=>some (.inl (ar .sub .i64 b.1 1,x.1,x.2.1,x.2.2))else some (.inr (b.2.1,b.2.2.1,b.2.2.2)):OS ((Int×(Up Bool)×(Up (Up A5))×(Up (D1×B2)))⊕(((Up Bool)×(Up (Up A5))×(Up (D1×B2))))))) N (ar .sub .i64 (Ar.len g) 1,z,w,v)).bind λe=>(El (Hu e.2.1 0)).bind λ_=>(C7 e.2.1 0).bind λH=>(El (Hu e.1 0)).bind λ_=>(C7 e.1 0).bind λK=>some ((H,K),e.2.2)
def CB (N:Nat):Nat->L9->Up (D1×B2)->A0->Int->Up A7->Up A7->OS (B2×Up (D1×B2))
 |0,_,_,_,_,_,_=>none
 |n+1,i,h,S,l,b,k=>(loopN (λ(d:Int×Int)=>(if cmp .lss d.2 (Ar.len S.dD)then(C7 S.dD d.2).bind λg=>(HE N g b).bind λr=>if cmp .eql (Ar.len r) (Ar.len b)then(M1 N n i h g d.1 b k).bind λe=>some (.inr (.inr ((⟨(⟨(⟨0,0,0⟩:Bb),d.2,[e.1.d]⟩:A5),e.1.ok⟩:B2),e.2)))else(Ad N N g).bind λt=>some (.inl (ar .add .i64 d.1 t.1,ar .add .i64 d.2 1))else some (.inr (.inl ())):OS ((Int×Int)⊕(Unit⊕(B2×(Up (D1×B2))))))) N (ar .add .i64 l 1,0)).bind λx=>match x with
  | .inl y=>some ((⟨(⟨(⟨0,0,0⟩:Bb),0,[]⟩:A5),false⟩:B2),h)
  | .inr a=>some (a.1,a.2)
def Bo (N:Nat):Nat->L9->Up (D1×B2)->A0->Int->Up A7->Up A7->OS (B2×Up (D1×B2))
 |0,_,_,_,_,_,_=>none
 |n+1,c,m,S,j,V,f=>(loopN (λ(d:Int×(Up A7)×(Up A5)×Int×Int×Int×(Up (D1×B2)))=>(if cmp .lss d.2.2.2.2.2.1 (Ar.len S.dD)then(C7 S.dD d.2.2.2.2.2.1).bind λh=>(HE N h V).bind λa=>if cmp .eql (Ar.len a) 0 then none else if cmp .eql S.Op 1 then(C7 a 0).bind λo=>if cmp .lss o.at_ d.2.2.2.2.1 then none else(M1 N n c d.2.2.2.2.2.2 h d.1 a d.2.1).bind λK=>if nt K.1.ok then none else((if cmp .eql S.Op 1 then(J4 N d.2.1 a).bind λl=>(V6 N a).bind λr=>some (l,r)else some (d.2.1,d.2.2.2.2.1)):OS (((Up A7)×Int))).bind λe=>(Ad N N h).bind λt=>(V7 d.2.2.1 ([K.1.d])).bind λi=>some (.inl (ar .add .i64 d.1 t.1,e.1,i,ar .add .i64 d.2.2.2.1 (Ar.len a),e.2,ar .add .i64 d.2.2.2.2.2.1 1,K.2))else(M1 N n c d.2.2.2.2.2.2 h d.1 a d.2.1).bind λb=>if nt b.1.ok then none else((if cmp .eql S.Op 1 then(J4 N d.2.1 a).bind λx=>(V6 N a).bind λy=>some (x,y)else some (d.2.1,d.2.2.2.2.1)):OS (((Up A7)×Int))).bind λg=>(Ad N N h).bind λH=>(V7 d.2.2.1 ([b.1.d])).bind λk=>some (.inl (ar .add .i64 d.1 H.1,g.1,k,ar .add .i64 d.2.2.2.1 (Ar.len a),g.2,ar .add .i64 d.2.2.2.2.2.1 1,b.2))else some (.inr (d.2.2.1,d.2.2.2.1,d.2.2.2.2.2.2)):OS ((Int×(Up A7)×(Up A5)×Int×Int×Int×(Up (D1×B2)))⊕(((Up A5)×Int×(Up (D1×B2))))))) N (ar .add .i64 j 1,f,[],0,0,0,m)).bind λP=>some ((⟨(⟨(⟨0,0,0⟩:Bb),0,P.1⟩:A5),cmp .eql P.2.1 (Ar.len V)⟩:B2),P.2.2)
end
def Ik(S:A0)(g:Up A9)(e:D6):OS (A5×Int):=(Dg N S).bind λv=>if cmp .neq v 0 then none else(BY N g).bind λl=>if cmp .neq l 0 then none else(Fu N e).bind λn=>if cmp .neq n 0 then none else if cmp .gtr (Ar.len e.dE) 256 then none else(loopN (λ(b:(Up A7)×Int)=>(if cmp .lss b.2 (Ar.len e.dE)then(C7 e.dE b.2).bind λk=>(Fk N g k.Ref).bind λi=>if nt i.2.1 then none else(V7 b.1 ([(⟨k.Var,i.1⟩:A7)])).bind λh=>some (.inl (h,ar .add .i64 b.2 1))else some (.inr b.1):OS (((Up A7)×Int)⊕(((Up A7)))))) N ([],0)).bind λr=>(M1 N N (⟨(⟨g,0⟩:F2)⟩:L9) ([]:Up (D1×B2)) S 0 r ([])).bind λa=>if nt a.1.ok then none else some (a.1.d,0)
def Ty(p:B0)(a:B0):OS Int:=(Jd N p.Ref a.Ref).bind λb=>if cmp .neq b 0 then some b else if cmp .lss p.Var a.Var then some (-1)else if cmp .gtr p.Var a.Var then some 1 else some 0
def PU(p:D6)(a:D6):OS Int:=(loopN (λ(I:Int)=>(if an (cmp .lss I (Ar.len p.dE)) (cmp .lss I (Ar.len a.dE))then(C7 p.dE I).bind λe=>(C7 a.dE I).bind λg=>(Ty N e g).bind λb=>if cmp .neq b 0 then some (.inr (.inr b))else some (.inl (ar .add .i64 I 1))else some (.inr (.inl ())):OS ((Int)⊕(Unit⊕Int)))) N 0).bind λd=>match d with
 | .inl i=>if cmp .lss (Ar.len p.dE) (Ar.len a.dE)then some (-1)else if cmp .gtr (Ar.len p.dE) (Ar.len a.dE)then some 1 else some 0
 | .inr h=>some h
def CS:OS Bool:=(Kj N 2 1).bind λa=>(Kj N 3 2).bind λv=>(Au N 1).bind λG=>(CR N 2 3).bind λI=>(FB N G I).bind λF=>if cmp .neq F.2 0 then some false else(Bh N ([a])).bind λJ=>(Bh N ([a,v])).bind λL=>(Bh N ([v])).bind λi=>(Qm N F.1 ([J,L,i])).bind λk=>if nt k then some false else(Bh N ([a,v])).bind λl=>(X2 N N l).bind λn=>if cmp .neq n 5 then some false else(Au N 1).bind λr=>(Bh N ([a,v])).bind λt=>(Aq N r t).bind λb=>(Au N 1).bind λx=>(CR N 2 3).bind λy=>(Ik N x y b.1).bind λe=>(Au N 1).bind λH=>(Bh N ([v,a])).bind λK=>(Aq N H K).bind λg=>if cmp .eql (ar .add .i64 (ar .add .i64 b.2 e.2) g.2) 0 then(Bh N ([a,v])).bind λP=>(R3 N N e.1 P).bind λV=>if an (cmp .eql V 0) (cmp .eql (Ar.len b.1.dE) 3)then(Au N 1).bind λc=>(CR N 2 3).bind λd=>(Bh N ([a,v])).bind λf=>(S8 N c d f).bind λj=>if cmp .eql j 0 then(Au N 1).bind λm=>(CR N 2 3).bind λo=>(R6 o none (some 2) none).bind λh=>(Bh N ([a,v])).bind λp=>(S8 N m h p).bind λq=>if cmp .eql q 6 then(Au N 0).bind λs=>(CR N 2 3).bind λu=>(Bh N ([a,v])).bind λw=>(S8 N s u w).bind λz=>if cmp .eql z 18 then(Au N 1).bind λA=>(CR N 2 3).bind λB=>(Bh N ([v,a])).bind λC=>(S8 N A B C).bind λD=>if cmp .eql D 18 then(PU N b.1 g.1).bind λE=>some (cmp .eql E 0)else some false else some false else some false else some false else some false else some false
def N7(a:Up B0)(b:Up B0)(g:B0->B0->OS Int):OS Int:=(loopN (λ(I:Int)=>(if cmp .lss I (Ar.len a)then(C7 a I).bind λh=>if cmp .geq I (Ar.len b)then some (.inr (.inr 1))else(C7 b I).bind λx5=>(g h x5).bind λe=>if cmp .neq e 0 then some (.inr (.inr e))else some (.inl (ar .add .i64 I 1))else some (.inr (.inl ())):OS ((Int)⊕(Unit⊕Int)))) N 0).bind λd=>match d with
 | .inl k=>if cmp .lss (Ar.len a) (Ar.len b)then some (-1)else some 0
 | .inr i=>some i
def CF(a:B0)(b:B0):OS Int:=(GE N a.Ref b.Ref).bind λe=>(Q3 N a.Var b.Var).bind λv=>(GJ N ([e,v])).bind λg=>some g
def X1(p:D6)(a:D6):OS Int:=(N7 N p.dE a.dE (λe g=>CF N e g)).bind λb=>some b
def Hn (N:Nat):OS Unit:=some ()
def LT (N:Nat)(a:Int):OS ByteArray:=UU a
def DX(e:Up Int)(a:Int)(b:Int):OS (Up Int):=if cmp .eql b 10 then if cmp .lss a 100 then(LT N (wr .i64 a)).bind λh=>(V7 e (SM h)).bind λg=>some g else none else none
def FV(e:Up Int)(a:Int)(b:Int):OS (Up Int):=if cmp .lss a 0 then(V7 e ([45])).bind λg=>(DX N g (Ar.neg .u64 (wr .u64 a)) b).bind λh=>some h else(DX N e (wr .u64 a) b).bind λi=>some i
def S4(e:Up Int)(a:Int)(b:Int):OS (Up Int):=(FV N e a b).bind λl1=>some l1
def AI(h:Up A3):OS ByteArray:=(loopN (λ(d:Int×(Up Int))=>(if cmp .lss d.1 (Ar.len h)then(C7 h d.1).bind λx5=>(S4 N d.2 x5.dJ 10).bind λi=>(((V7 i ([64])).bind λg=>(S4 N g x5.at_ 10).bind λa=>(V7 a ([32])).bind λb=>some b):OS (((Up Int)))).bind λl=>some (.inl (ar .add .i64 d.1 1,l))else some (.inr d.2):OS ((Int×(Up Int))⊕(((Up Int)))))) N (0,([]:Up Int))).bind λk=>(AS2 k).bind λe=>some e
def BR(k:C1)(i:Up A3)(l:Int):OS JJ:=(ZW 16 16 ([]:Up A9)).bind λn=>(loopN (λ(a:Int×(Up (Up A9)))=>(if cmp .lss a.1 (Ar.len i)then(C7 i a.1).bind λb=>if cmp .lss b.at_ l then(C7 a.2 b.dJ).bind λt=>(C7 k.dH b.at_).bind λh=>(V7 t ([h])).bind λg=>(Ev a.2 b.dJ (λ_=>g)).bind λe=>some (.inl (ar .add .i64 a.1 1,e))else some (.inl (ar .add .i64 a.1 1,a.2))else some (.inr a.2):OS ((Int×(Up (Up A9)))⊕(((Up (Up A9))))))) N (0,n)).bind λr=>some (⟨r⟩:JJ)
def Q0(a:C1)(h:B6)(e:Up A3)(g:Int)(b:Int):OS Bool:=(BR N a e b).bind λi=>(C7 a.dH b).bind λl=>(Fz N h i g l).bind λk=>some k
def Bw(e:Int)(b:C1)(a:A0)(g:Up A3):OS (Up (Up A3)):=((L5 (Ap (λ(I:Int)=>(if cmp .lss I (Ar.len b.dH)then(C7 b.dH I).bind λi=>if cmp .eql i.Typ a.Typ then(Q0 N b a.dF g a.Var I).bind λh=>if h then L5 (some ([[(⟨a.Var,I⟩:A3)]],())) λ_=>some ([],.inl (ar .add .i64 I 1))else some ([],.inl (ar .add .i64 I 1))else some ([],.inl (ar .add .i64 I 1))else some ([],.inr ()):OS (Up (Up A3)×((Int)⊕(Unit))))) N e) λk=>some ([],())):OS (Up (Up A3)×Unit)).bind λq=>some q.1
def Z2(e:C1)(S:A0)(a:Up A3)(b:Int):OS (Up (Up A3)):=Bw N b e S a
def M0(a:Up (Up A3)):OS (Up (Up A3)):=((L5 (Ap (λ(I:Int)=>(if cmp .lss I (Ar.len a)then(C7 a I).bind λb=>L5 (some ([b],())) λ_=>some ([],.inl (ar .add .i64 I 1))else some ([],.inr ()):OS (Up (Up A3)×((Int)⊕(Unit))))) N 0) λe=>some ([],())):OS (Up (Up A3)×Unit)).bind λq=>some q.1
def BZ(a:Up (Up A3)):OS (Up (Up A3)):=M0 N a
def Ia (N:Nat)(a:A3)(b:A3):OS Int:=some (ar .sub .i64 a.at_ b.at_)
def Z7(p:Up A3)(a:Up A3):OS (Up A3):=(ZW 0 (ar .add .i64 (Ar.len p) (Ar.len a)) ((⟨0,0⟩:A3):A3)).bind λb=>(V7 b p).bind λe=>(V7 e a).bind λg=>(Ll (λi k=>Ia N i k) g).bind λh=>some h
def Ah (N:Nat)(a:Up A3):OS Int:=(C7 a (ar .sub .i64 (Ar.len a) 1)).bind λb=>some b.at_
def Cu(a:Up A3)(b:A3->OS Bool):OS Int:=(loopN (λ(I:Int)=>(if cmp .lss I (Ar.len a)then(C7 a I).bind λg=>(b g).bind λe=>if e then some (.inr (.inr I))else some (.inl (ar .add .i64 I 1))else some (.inr (.inl ())):OS ((Int)⊕(Unit⊕Int)))) N 0).bind λd=>match d with
 | .inl i=>some (-1)
 | .inr h=>some h
def T4(a:Up A3)(b:A3->OS Bool):OS Bool:=(Cu N a b).bind λe=>some (cmp .geq e 0)
def Dm (N:Nat)(a:A3)(b:Int):OS Bool:=some (cmp .eql a.at_ b)
def CM(a:Up A3)(b:Int):OS Bool:=(T4 N a (λg=>Dm N g b)).bind λe=>some e
def Ey(a:A3)(b:Up A3):OS Bool:=(CM N b a.at_).bind λe=>some e
def Gn(p:Up A3)(a:Up A3):OS Bool:=(T4 N p (λe=>Ey N e a)).bind λb=>some b
def BO (N:Nat):Nat->Up (Up (Up A3))->Up A3->OS (Up (Up A3))
 |0,_,_=>none
 |n+1,e,b=>((if cmp .eql (Ar.len e) 0 then L5 (some ([b],())) λ_=>some ([],())else(C7 e 0).bind λl=>L5 (Ap (λ(a:Int)=>(if cmp .lss a (Ar.len l)then(C7 l a).bind λr=>(Gn N b r).bind λi=>if nt i then(R6 e (some 1) none none).bind λg=>(Z7 N b r).bind λk=>(BO N n g k).bind λh=>L5 (some (h,())) λ_=>some ([],.inl (ar .add .i64 a 1))else some ([],.inl (ar .add .i64 a 1))else some ([],.inr ()):OS (Up (Up A3)×((Int)⊕(Unit))))) N 0) λt=>some ([],())):OS (Up (Up A3)×Unit)).bind λq=>some q.1
def AX(e:C1) (S:A0) (n:Up A3) (b:Up A3):OS Bool:=if cmp .eql S.Op 6 then(Ah N b).bind λr=>(C7 e.dH r).bind λK=>(C7 b 0).bind λP=>(C7 e.dH P.at_).bind λV=>some (cmp .leq (ar .sub .i64 K.Time V.Time) S.Span)else if cmp .eql S.Op 7 then(Z7 N n b).bind λt=>(BR N e t (Ar.len e.dH)).bind λx=>(Fz N S.dF x (-1) (⟨0,0,0,0,[]⟩:A9)).bind λy=>some y else(Z7 N n b).bind λH=>(C7 b 0).bind λc=>(loopN (λ(a:Int)=>((Ah N b).bind λg=>if cmp .lss a g then(C7 e.dH a).bind λl=>if cmp .eql l.Typ S.Typ then(CM N b a).bind λh=>if nt h then(Q0 N e S.dF H S.Var a).bind λi=>if i then some (.inr (.inr ()))else some (.inl (ar .add .i64 a 1))else some (.inl (ar .add .i64 a 1))else some (.inl (ar .add .i64 a 1))else some (.inr (.inl ())):OS ((Int)⊕(Unit⊕Unit)))) N (ar .add .i64 c.at_ 1)).bind λk=>match k with
   | .inl d=>some true
   | .inr f=>some false
mutual
def G6 (N:Nat):Nat->C1->A0->Up A3->Int->OS (Up (Up A3))
 |0,_,_,_,_=>none
 |n+1,H,S,K,P=>(Hn N).bind λj=>(C7 ([λa b e g=>Z2 N a b e g,λa b e g=>Y1 N n a b e g,λa b e g=>Y2 N n a b e g,λa b e g=>Y3 N n a b e g,λa b e g=>W7 N n a b e g,λa b e g=>M5 N n a b e g,λa b e g=>M5 N n a b e g,λa b e g=>M5 N n a b e g]:Up (C1->A0->(Up A3)->Int->OS (Up (Up A3)))) S.Op).bind λV=>(V H S K P).bind λc=>(M8 (λ(h:(Up (za0×Bool))×(Up (Up A3))) (r:(Up A3))=>((AI N r).bind λl=>(Nn h.1 l (false:Bool)).bind λx=>if x.1 then some (.inl (h.1,h.2))else(MC h.1 l true).bind λk=>(V7 h.2 ([r])).bind λi=>((if cmp .gtr (Ar.len i) 4096 then none else some ()):OS (Unit)).bind λd=>if H.full then some (.inr (k,i))else some (.inl (k,i)):OS (((Up (za0×Bool))×(Up (Up A3)))⊕(((Up (za0×Bool))×(Up (Up A3))))))) c (([]:Up (za0×Bool)),[])).bind λt=>match t with
  | .inl y=>some y.2
  | .inr f=>some ([])
def Y1 (N:Nat):Nat->C1->A0->Up A3->Int->OS (Up (Up A3))
 |0,_,_,_,_=>none
 |n+1,a,S,b,e=>if cmp .eql (Ar.len S.dD) 1 then(C7 S.dD 0).bind λk=>(G6 N n a k b e).bind λv=>(BZ N v).bind λh=>some h else(R6 S.dD (some 1) none none).bind λg=>(C7 S.dD 0).bind λl=>(W6 N n a l b e (λr t=>R7 N n r t a ({S with dD:=g}))).bind λi=>some i
def Y2 (N:Nat):Nat->C1->A0->Up A3->Int->OS (Up (Up A3))
 |0,_,_,_,_=>none
 |n+1,e,S,a,b=>AY N n S e a b
def Y3 (N:Nat):Nat->C1->A0->Up A3->Int->OS (Up (Up A3))
 |0,_,_,_,_=>none
 |n+1,e,S,a,b=>AZ N n S e a b
def W7 (N:Nat):Nat->C1->A0->Up A3->Int->OS (Up (Up A3))
 |0,_,_,_,_=>none
 |n+1,e,S,a,b=>AL N n e S a b
def M5 (N:Nat):Nat->C1->A0->Up A3->Int->OS (Up (Up A3))
 |0,_,_,_,_=>none
 |n+1,e,S,a,b=>AK N n e S a b
def W6 (N:Nat):Nat->C1->A0->Up A3->Int->((Up A3)->Int->OS (Up (Up A3)))->OS (Up (Up A3))
 |0,_,_,_,_,_=>none
 |n+1,e,S,a,b,g=>AJ N n e S a b g
def R7 (N:Nat):Nat->Up A3->Int->C1->A0->OS (Up (Up A3))
 |0,_,_,_,_=>none
 |n+1,a,b,e,g=>(G6 N n e g a b).bind λh=>some h
def AY (N:Nat):Nat->A0->C1->Up A3->Int->OS (Up (Up A3))
 |0,_,_,_,_=>none
 |n+1,e,h,i,k=>((L5 (Ap (λ(I:Int)=>(if cmp .lss I (Ar.len e.dD)then(C7 e.dD I).bind λr=>(G6 N n h r i k).bind λg=>L5 (Ap (λ(a:Int)=>(if cmp .lss a (Ar.len g)then(C7 g a).bind λb=>L5 (some ([b],())) λ_=>some ([],.inl (ar .add .i64 a 1))else some ([],.inr ()):OS (Up (Up A3)×((Int)⊕(Unit))))) N 0) λl=>some ([],.inl (ar .add .i64 I 1))else some ([],.inr ()):OS (Up (Up A3)×((Int)⊕(Unit))))) N 0) λt=>some ([],())):OS (Up (Up A3)×Unit)).bind λq=>some q.1
def AZ (N:Nat):Nat->A0->C1->Up A3->Int->OS (Up (Up A3))
 |0,_,_,_,_=>none
 |n+1,e,g,h,i=>((L5 (Ap (λ(I:(Up (Up (Up A3)))×Int)=>(if cmp .lss I.2 (Ar.len e.dD)then(C7 e.dD I.2).bind λr=>(G6 N n g r h i).bind λk=>(V7 I.1 ([k])).bind λa=>some ([],.inl (a,ar .add .i64 I.2 1))else some ([],.inr I.1):OS (Up (Up A3)×(((Up (Up (Up A3)))×Int)⊕(((Up (Up (Up A3))))))))) N ([],0)) λl=>if nt g.full then(BO N N l ([])).bind λb=>L5 (some (b,())) λ_=>some ([],())else some ([],())):OS (Up (Up A3)×Unit)).bind λq=>some q.1
def AL (N:Nat):Nat->C1->A0->Up A3->Int->OS (Up (Up A3))
 |0,_,_,_,_=>none
 | n+1,a,b,l,r=>(((C7 b.dD 0).bind λx=>(G6 N n a x l r).bind λv=>L5 (Ap (λ(h:Int)=>(if cmp .lss h (Ar.len v)then(C7 v h).bind λy=>if a.full then some ([],.inr (.inr ()))else L5 (some ([y],())) λ_=>some ([],.inl (ar .add .i64 h 1))else some ([],.inr (.inl ())):OS (Up (Up A3)×((Int)⊕(Unit⊕Unit))))) N 0) λt=>match t with
   | .inl K=>(C7 b.dD 0).bind λi=>(W6 N n a i l r (λH P=>N9 N n H P a b)).bind λg=>L5 (AS (λ(_:Unit) (k:(Up A3))=>(L5 (some ([k],())) λ_=>some ([],.inl ()):OS (Up (Up A3)×(Unit⊕Unit)))) g ()) λe=>match e with
    | .inl _=>some ([],())
    | .inr _=>none
   | .inr V=>some ([],())):OS (Up (Up A3)×Unit)).bind λq=>some q.1
def N9 (N:Nat):Nat->Up A3->Int->C1->A0->OS (Up (Up A3))
 |0,_,_,_,_=>none
 |n+1,a,b,e,g=>(G6 N n e g a b).bind λh=>some h
def AK (N:Nat):Nat->C1->A0->Up A3->Int->OS (Up (Up A3))
 |0,_,_,_,_=>none
 |n+1,e,g,h,k=>(((C7 g.dD 0).bind λl=>(G6 N n e l h k).bind λv=>L5 (Ap (λ(a:Int)=>(if cmp .lss a (Ar.len v)then(C7 v a).bind λi=>(AX N e g h i).bind λb=>if b then L5 (some ([i],())) λ_=>some ([],.inl (ar .add .i64 a 1))else some ([],.inl (ar .add .i64 a 1))else some ([],.inr ()):OS (Up (Up A3)×((Int)⊕(Unit))))) N 0) λr=>some ([],())):OS (Up (Up A3)×Unit)).bind λq=>some q.1
def AJ (N:Nat):Nat->C1->A0->Up A3->Int->((Up A3)->Int->OS (Up (Up A3)))->OS (Up (Up A3))
 |0,_,_,_,_,_=>none
 | n + 1,l,x,r,y,H=>(((G6 N n l x r y).bind λt=>L5 (Ap (λ(d:Int)=>(if cmp .lss d (Ar.len t)then(C7 t d).bind λk=>(Z7 N r k).bind λK=>(Ah N k).bind λe=>(H K (ar .add .i64 e 1)).bind λb=>L5 (Ap (λ(a:Int)=>(if cmp .lss a (Ar.len b)then(C7 b a).bind λi=>if l.full then some ([],.inr (.inr ()))else(Z7 N k i).bind λg=>L5 (some ([g],())) λ_=>some ([],.inl (ar .add .i64 a 1))else some ([],.inr (.inl ())):OS (Up (Up A3)×((Int)⊕(Unit⊕Unit))))) N 0) λh=>match h with
       | .inl V=>some ([],.inl (ar .add .i64 d 1))
       | .inr c=>some ([],.inr (.inr ()))else some ([],.inr (.inl ())):OS (Up (Up A3)×((Int)⊕(Unit⊕Unit))))) N 0) λP=>match P with
   | .inl f=>some ([],())
   | .inr j=>some ([],())):OS (Up (Up A3)×Unit)).bind λq=>some q.1
end
def Ez(S:A0)(g:Up A9):OS ((Up D6)×Int):=(Dg N S).bind λt=>if cmp .neq t 0 then some ([],t)else(BY N g).bind λv=>if cmp .neq v 0 then some ([],v)else(G6 N N (⟨g,false⟩:C1) S ([]) 0).bind λx=>(loopN (λ(b:Int×(Up D6))=>(if cmp .lss b.1 (Ar.len x)then(C7 x b.1).bind λy=>(loopN (λ(a:Int×D6)=>(if cmp .lss a.1 (Ar.len y)then(C7 y a.1).bind λe=>(C7 g e.at_).bind λr=>(Dw N r).bind λl=>(V7 a.2.dE ([(⟨e.dJ,l⟩:B0)])).bind λh=>some (.inl (ar .add .i64 a.1 1,{a.2 with dE:=h}))else some (.inr a.2):OS ((Int×D6)⊕(D6)))) N (0,(⟨[]⟩:D6))).bind λn=>(V7 b.2 ([n])).bind λi=>some (.inl (ar .add .i64 b.1 1,i))else some (.inr b.2):OS ((Int×(Up D6))⊕(((Up D6)))))) N (0,([]:Up D6))).bind λH=>(PS (λK P=>X1 N K P) H).bind λk=>some (k,0)
def Ho(S:A0)(b:Up A9):OS ((Up D6)×Int):=(Ez N S b).bind λa=>some (a.1,a.2)
def Y9 (N:Nat)(a:Up B0):OS (Up B0):=(V7 [] a).bind λl=>some l
def W2(b:Up D6) (t:D6->D6->OS Bool):OS (Up D6):=if cmp .lss (Ar.len b) 2 then some b else(loopN (λ(I:Int)=>(if cmp .lss I (Ar.len b)then(El (Hu b I)).bind λ_=>(C7 b I).bind λK=>(El (Hu b (ar .sub .i64 I 1))).bind λ_=>(C7 b (ar .sub .i64 I 1)).bind λP=>(t K P).bind λy=>if y then(R6 b (some I) none none).bind λ_=>(loopN (λ(a:Int×Int×(Up D6))=>((R6 a.2.2 (some I) none none).bind λe=>if cmp .lss a.2.1 (Ar.len e)then(El (Hu e a.2.1)).bind λ_=>(C7 e a.2.1).bind λV=>(El (Hu e (ar .sub .i64 a.2.1 1))).bind λ_=>(C7 e (ar .sub .i64 a.2.1 1)).bind λl=>(t V l).bind λk=>if nt k then(El (Hu e a.2.1)).bind λ_=>(C7 e a.2.1).bind λn=>(El (Hu a.2.2 a.1)).bind λ_=>(Ev a.2.2 a.1 (λH:D6=>n)).bind λh=>some (.inl (ar .add .i64 a.1 1,ar .add .i64 a.2.1 1,h))else some (.inl (a.1,ar .add .i64 a.2.1 1,a.2.2))else some (.inr (a.1,a.2.2)):OS ((Int×Int×(Up D6))⊕((Int×(Up D6)))))) N (I,1,b)).bind λg=>(R6 g.2 (some g.1) none none).bind λx=>(R6 g.2 none (some g.1) none).bind λi=>some (.inr (.inr i))else some (.inl (ar .add .i64 I 1))else some (.inr (.inl ())):OS ((Int)⊕(Unit⊕((Up D6)))))) N 1).bind λd=>match d with
  | .inl c=>some b
  | .inr r=>some r
def JE(p:D6)(a:D6):OS Bool:=(X1 N p a).bind λb=>some (cmp .eql b 0)
def MM(l:Up D6):OS ((Up D6)×Int):=(loopN (λ(d:Int×(Up D6))=>(if cmp .lss d.1 (Ar.len l)then(C7 l d.1).bind λx5=>(Fu N x5).bind λn=>if cmp .neq n 0 then some (.inr (.inr (n,d.2)))else(Y9 N x5.dE).bind λr=>(V7 d.2 ([(⟨r⟩:D6)])).bind λb=>some (.inl (ar .add .i64 d.1 1,b))else some (.inr (.inl d.2)):OS ((Int×(Up D6))⊕(((Up D6))⊕(Int×(Up D6)))))) N (0,([]:Up D6))).bind λt=>match t with
 | .inl h=>(PS (λg k=>X1 N g k) h).bind λe=>(W2 N e (λg k=>JE N g k)).bind λa=>if cmp .gtr (Ar.len a) 4096 then some ([],5)else some (a,0)
 | .inr i=>some ([],i.1)
def N6(a:Up D6) (b:Up D6) (e:D6->D6->OS Bool):OS Bool:=if cmp .neq (Ar.len a) (Ar.len b)then some false else(loopN (λ(I:Int)=>(if cmp .lss I (Ar.len a)then(C7 a I).bind λh=>(C7 b I).bind λx5=>(e h x5).bind λg=>if nt g then some (.inr (.inr ()))else some (.inl (ar .add .i64 I 1))else some (.inr (.inl ())):OS ((Int)⊕(Unit⊕Unit)))) N 0).bind λd=>match d with
  | .inl i=>some true
  | .inr k=>some false
def Z9(p:D6)(a:D6):OS Bool:=(X1 N p a).bind λb=>some (cmp .eql b 0)
def Ec(S:A0) (e:Up A9):OS Bool:=(Lo N S e).bind λc=>if nt c then(CS N).bind λv=>some v else(JC N e).bind λd=>if nt d then(CS N).bind λf=>some f else(Lq N S).bind λj=>if cmp .neq j 0 then(CS N).bind λm=>some m else(Lu N e).bind λo=>if cmp .neq o 0 then(CS N).bind λp=>some p else(FB N S e).bind λl=>(Ho N S e).bind λg=>if Ar.or (cmp .neq l.2 0) (cmp .neq g.2 0)then some false else(loopN (λ(a:(Up D6)×Int)=>(if cmp .lss a.2 (Ar.len l.1)then(C7 l.1 a.2).bind λb=>(S8 N S e b).bind λt=>if cmp .neq t 0 then some (.inr (.inr ()))else if cmp .gtr a.2 0 then(C7 l.1 (ar .sub .i64 a.2 1)).bind λP=>(R3 N N P b).bind λx=>if cmp .geq x 0 then some (.inr (.inr ()))else(Aq N S b).bind λh=>if cmp .neq h.2 0 then some (.inr (.inr ()))else(V7 a.1 ([h.1])).bind λn=>some (.inl (n,ar .add .i64 a.2 1))else(Aq N S b).bind λi=>if cmp .neq i.2 0 then some (.inr (.inr ()))else(V7 a.1 ([i.1])).bind λr=>some (.inl (r,ar .add .i64 a.2 1))else some (.inr (.inl a.1)):OS (((Up D6)×Int)⊕(((Up D6))⊕Unit)))) N ([],0)).bind λK=>match K with
      | .inl V=>(MM N V).bind λk=>(CS N).bind λy=>if an y (cmp .eql k.2 0)then(N6 N k.1 g.1 (λq s=>Z9 N q s)).bind λH=>some H else some false
      | .inr u=>some false
end Go.Ab
