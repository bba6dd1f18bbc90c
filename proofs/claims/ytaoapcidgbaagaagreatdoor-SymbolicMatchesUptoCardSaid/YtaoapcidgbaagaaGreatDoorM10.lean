/- . -/
import Derived.Test.YtaoapcidgbaagaaGreatDoorM07
import Derived.KernelRfl
import Derived.Test.YtaoapcidgbaagaaGreatDoorChecked
set_option linter.all false
open Go.Ab.Ar (lst)
namespace Go.Ab
open Go.RowKit Go.Proofs
set_option maxRecDepth 100000
def tk {t:Nat}{I:AF1}(a:Hk Tryz.prog t=some I.sz:=by kernel_rfl)(b:UI Tryz.prog t=some I.by_:=by kernel_rfl)(c:ZC Tryz.prog t=some I.ag:=by kernel_rfl)(d:Ic Tryz.prog t=I.sl:=by kernel_rfl)(e:Qs Tryz.prog t=I.ar:=by kernel_rfl)
 (f:Bk2 Tryz.prog t 0 I.fs:=by repeat' (first|refine⟨?_,?_⟩|exact True.intro|kernel_rfl)) (g:Eh I.pl (λl=>SO Tryz.prog t=some l):=by first|exact True.intro|(show SO Tryz.prog _=some _;kernel_rfl))
 (h:Eh I.ze (λz=>Lr Tryz.prog t=some z):=by first|exact True.intro|(show Lr Tryz.prog _=some _;kernel_rfl)) (i:Eh I.ek (λk=>JR Tryz.prog 9 t=some k):=by first|exact True.intro|(show JR Tryz.prog 9 _=some _;kernel_rfl)) (j:PM Tryz.prog t=I.st:=by kernel_rfl)
 (k:I.bo=true->Bb3 ((Tryz.prog).underlying t)=true:=by intro h;first|(cases h;done)|kernel_rfl) (l:Eh I.ik (λk=>(Tryz.prog).underlying t=some (.int k)):=by first|exact True.intro|(show(Tryz.prog).underlying _=some (.int _);kernel_rfl))
 (m:I.nif=true->ifO Tryz.prog t=false:=by intro h;first|(cases h;done)|kernel_rfl):Cc4 Tryz.prog t I:=⟨a,b,c,d,e,f,g,h,i,j,k,l,m⟩
def Cr:V:=.int .i64 0
def TN:V:=.sl [] .nil
def MF:V:=.str ⟨#[]⟩
def So (k e:Nat):Nat×AF1:=(k,⟨1,24,false,some e,none,[],none,some (.sl [] .nil),none,false,false,none,true⟩)
def Sp (k s b:Nat)(f:Up (OS (Nat×Nat)))(p:Up (Nat×Nat))(z:Up V)(e:OS (Up Nat)):Nat×AF1:=(k,⟨s,b,true,none,none,f,some p,some (.agg z),e,false,false,none,true⟩)
def TT:JV:=[(2,⟨1,8,false,none,none,[],none,some (.int .i64 0),some [0],false,false,some .i64,true⟩),
 (3,⟨1,8,false,none,none,[],none,some (.int .i64 0),some [0],false,false,some .i64,true⟩),
 (4,⟨1,1,false,none,none,[],none,some (.bool false),some [1],false,true,none,true⟩),
 (5,⟨1,1,false,none,none,[],none,some (.int .u8 0),some [0],false,false,some .u8,true⟩),
 (9,⟨1,16,false,none,none,[],none,some (.str ⟨#[]⟩),some [2],true,false,none,true⟩),
 So 22 87,
 So 23 30,
 So 24 28,
 Sp 26 3 32 [some (0,3),some (1,3),some (2,9)] [(0,1),(1,1),(2,1)] [Cr,Cr,MF] (some [0,0,2]),
 Sp 28 8 88 [some (0,3),some (1,24),some (2,3),some (3,3),some (4,3),some (5,26)] [(0,1),(1,1),(2,1),(3,1),(4,1),(5,3)] [Cr,TN,Cr,Cr,Cr,Cr,Cr,MF] none,
 Sp 30 14 152 [some (0,3),some (1,23),some (2,3),some (3,3),some (4,3),some (5,3),some (6,28)] [(0,1),(1,1),(2,1),(3,1),(4,1),(5,1),(6,8)] [Cr,TN,Cr,Cr,Cr,Cr,Cr,TN,Cr,Cr,Cr,Cr,Cr,MF] none,
 So 31 37,
 So 35 26,
 Sp 37 5 56 [some (0,3),some (1,3),some (2,3),some (3,3),some (4,35)] [(0,1),(1,1),(2,1),(3,1),(4,1)] [Cr,Cr,Cr,Cr,TN] none,
 So 41 4,
 So 42 75,
 Sp 44 3 56 [some (0,3),some (1,41),some (2,42)] [(0,1),(1,1),(2,1)] [Cr,TN,TN] none,
 (45,⟨1,8,false,none,none,[],none,some (.int .i64 0),some [0],false,false,some .i64,true⟩),
 So 48 60,
 So 51 53,
 Sp 53 2 16 [some (0,3),some (1,3)] [(0,1),(1,1)] [Cr,Cr] (some [0,0]),
 So 58 158,
 Sp 60 1 24 [some (0,58)] [(0,1)] [TN] none,
 So 70 113,
 Sp 72 1 24 [some (0,70)] [(0,1)] [TN] none,
 Sp 75 3 40 [some (0,3),some (1,3),some (2,72)] [(0,1),(1,1),(2,1)] [Cr,Cr,TN] none,
 So 77 51,
 So 85 110,
 Sp 87 2 40 [some (0,9),some (1,85)] [(0,1),(1,1)] [MF,TN] none,
 So 91 190,
 So 92 100,
 Sp 94 4 64 [some (0,3),some (1,3),some (2,91),some (3,92)] [(0,1),(1,1),(2,1),(3,1)] [Cr,Cr,TN,TN] none,
 So 97 3,
 So 98 321,
 Sp 100 17 240 [some (0,3),some (1,3),some (2,3),some (3,3),some (4,28),some (12,97),some (13,97),some (14,24),some (15,98),some (16,97)] [(0,1),(1,1),(2,1),(3,1),(4,8),(12,1),(13,1),(14,1),(15,1),(16,1)] [Cr,Cr,Cr,Cr,Cr,TN,Cr,Cr,Cr,Cr,Cr,MF,TN,TN,TN,TN,TN] none,
 Sp 110 2 24 [some (0,9),some (1,3)] [(0,1),(1,1)] [MF,Cr] (some [2,0]),
 Sp 112 2 16 [some (0,3),some (1,3)] [(0,1),(1,1)] [Cr,Cr] (some [0,0]),
 So 113 112,
 (117,⟨1,8,false,none,none,[],none,some (.nilmap),none,false,false,none,true⟩),
 (122,⟨1,8,false,none,none,[],none,some (.nilmap),none,false,false,none,true⟩),
 (125,⟨1,8,false,none,none,[],none,some (.nilf),none,false,false,none,true⟩),
 (130,⟨1,8,false,none,none,[],none,some (.nilmap),none,false,false,none,true⟩),
 So 137 140,
 Sp 140 2 24 [some (0,9),some (1,3)] [(0,1),(1,1)] [MF,Cr] (some [2,0]),
 (145,⟨1,8,false,none,none,[],none,some (.nilp),none,false,false,none,true⟩),
 Sp 147 2 32 [some (0,31),some (1,4)] [(0,1),(1,1)] [TN,.bool false] none,
 So 148 151,
 So 150 153,
 So 151 153,
 Sp 153 2 16 [some (0,3),some (1,3)] [(0,1),(1,1)] [Cr,Cr] (some [0,0]),
 Sp 155 3 24 [some (0,3),some (1,3),some (2,3)] [(0,1),(1,1),(2,1)] [Cr,Cr,Cr] (some [0,0,0]),
 Sp 158 4 32 [some (0,3),some (1,155)] [(0,1),(1,3)] [Cr,Cr,Cr,Cr] (some [0,0,0,0]),
 So 186 289,
 Sp 190 1 24 [some (0,186)] [(0,1)] [TN] none,
 Sp 194 2 48 [some (0,22),some (1,137)] [(0,1),(1,1)] [TN,TN] none,
 (196,⟨1,8,false,none,none,[],none,some (.int .u64 0),some [0],false,false,some .u64,true⟩),
 Sp 200 2 16 [some (0,3),some (1,3)] [(0,1),(1,1)] [Cr,Cr] (some [0,0]),
 (208,⟨1,8,false,none,none,[],none,some (.nilmap),none,false,false,none,true⟩),
 Sp 211 2 16 [some (0,3),some (1,3)] [(0,1),(1,1)] [Cr,Cr] (some [0,0]),
 (214,⟨1,8,false,none,none,[],none,some (.nilf),none,false,false,none,true⟩),
 (215,⟨8,64,true,none,some (8,214),[],none,some (.agg [.nilf,.nilf,.nilf,.nilf,.nilf,.nilf,.nilf,.nilf]),none,false,false,none,true⟩),
 So 231 72,
 (245,⟨1,4,false,none,none,[],none,some (.int .u32 0),some [0],false,false,some .u32,true⟩),
 (248,⟨1,8,false,none,none,[],none,some (.int .u64 0),some [0],false,false,some .u64,true⟩),
 Sp 261 6 24 [some (0,3),some (1,3),some (2,4),some (3,4),some (4,4),some (5,4)] [(0,1),(1,1),(2,1),(3,1),(4,1),(5,1)] [Cr,Cr,.bool false,.bool false,.bool false,.bool false] (some [0,0,1,1,1,1]),
 (262,⟨66,264,true,none,some (11,261),[],none,none,none,false,false,none,true⟩),
 So 264 5,
 (267,⟨1,8,false,none,none,[],none,some (.int .i64 0),some [0],false,false,some .i64,true⟩),
 Sp 282 15 160 [some (0,4),some (1,30)] [(0,1),(1,14)] [.bool false,Cr,TN,Cr,Cr,Cr,Cr,Cr,TN,Cr,Cr,Cr,Cr,Cr,MF] none,
 Sp 289 11 112 [some (0,3),some (1,3),some (2,3),some (3,28)] [(0,1),(1,1),(2,1),(3,8)] [Cr,Cr,Cr,Cr,TN,Cr,Cr,Cr,Cr,Cr,MF] none,
 (299,⟨1,8,false,none,none,[],none,some (.nilf),none,false,false,none,true⟩),
 (303,⟨1,8,false,none,none,[],none,some (.nilf),none,false,false,none,true⟩),
 So 304 148,
 (307,⟨1,8,false,none,none,[],none,some (.int .u64 0),some [0],false,false,some .u64,true⟩),
 (313,⟨1,8,false,none,none,[],none,some (.nilf),none,false,false,none,true⟩),
 Sp 321 2 16 [some (0,3),some (1,3)] [(0,1),(1,1)] [Cr,Cr] (some [0,0]),
 So 330 31,
 Sp 332 1 24 [some (0,330)] [(0,1)] [TN] none,
 (354,⟨24,24,true,none,some (24,5),[],none,some (.agg [.int .u8 0,.int .u8 0,.int .u8 0,.int .u8 0,.int .u8 0,.int .u8 0,.int .u8 0,.int .u8 0,.int .u8 0,.int .u8 0,.int .u8 0,.int .u8 0,.int .u8 0,.int .u8 0,.int .u8 0,.int .u8 0,.int .u8 0,.int .u8 0,.int .u8 0,.int .u8 0,.int .u8 0,.int .u8 0,.int .u8 0,.int .u8 0]),none,false,false,none,true⟩),
 So 362 24,
 (372,⟨1,8,false,none,none,[],none,some (.nilmap),none,false,false,none,true⟩),
 Sp 375 8 96 [some (0,332),some (1,3),some (2,37),some (7,372)] [(0,1),(1,1),(2,5),(7,1)] [TN,Cr,Cr,Cr,Cr,Cr,TN,.nilmap] none,
 (381,⟨20,160,true,none,some (20,248),[],none,some (.agg [.int .u64 0,.int .u64 0,.int .u64 0,.int .u64 0,.int .u64 0,.int .u64 0,.int .u64 0,.int .u64 0,.int .u64 0,.int .u64 0,.int .u64 0,.int .u64 0,.int .u64 0,.int .u64 0,.int .u64 0,.int .u64 0,.int .u64 0,.int .u64 0,.int .u64 0,.int .u64 0]),none,false,false,none,true⟩),
 (382,⟨65,65,true,none,some (65,5),[],none,none,none,false,false,none,true⟩),
 So 385 97,
 So 387 98,
 (391,⟨1,8,false,none,none,[],none,some (.nilf),none,false,false,none,true⟩),
 (403,⟨32,32,true,none,some (32,5),[],none,some (.agg [.int .u8 0,.int .u8 0,.int .u8 0,.int .u8 0,.int .u8 0,.int .u8 0,.int .u8 0,.int .u8 0,.int .u8 0,.int .u8 0,.int .u8 0,.int .u8 0,.int .u8 0,.int .u8 0,.int .u8 0,.int .u8 0,.int .u8 0,.int .u8 0,.int .u8 0,.int .u8 0,.int .u8 0,.int .u8 0,.int .u8 0,.int .u8 0,.int .u8 0,.int .u8 0,.int .u8 0,.int .u8 0,.int .u8 0,.int .u8 0,.int .u8 0,.int .u8 0]),none,false,false,none,true⟩),
 (404,⟨64,64,true,none,some (64,5),[],none,none,none,false,false,none,true⟩),
 Sp 410 5 48 [some (0,3),some (1,3),some (2,26)] [(0,1),(1,1),(2,3)] [Cr,Cr,Cr,Cr,MF] (some [0,0,0,0,2]),
 (418,⟨1,8,false,none,none,[],none,some (.nilf),none,false,false,none,true⟩),
 (419,⟨6,48,true,none,some (6,418),[],none,some (.agg [.nilf,.nilf,.nilf,.nilf,.nilf,.nilf]),none,false,false,none,true⟩)]
def okT:Oz Tryz.prog TT:=⟨tk,tk,tk,tk,tk,tk,tk,tk,tk,tk,tk,tk,tk,tk,tk,tk,tk,tk,tk,tk,tk,tk,tk,tk,tk,tk,tk,tk,tk,tk,tk,tk,tk,tk,tk,tk,tk,tk,tk,tk,tk,tk,tk,tk,tk,tk,tk,tk,tk,tk,tk,tk,tk,tk,tk,tk,tk,tk,tk,tk,tk,tk,tk,tk,tk,tk,tk,tk,tk,tk,tk,tk,tk,tk,tk,tk,tk,tk,tk,tk,tk,tk,tk,tk,tk,tk,tk,tk,tk,tk,tk,tk,trivial⟩
end Go.Ab
namespace Go.Ab
structure Y5 where
 Name:ByteArray
 Kind:Int
structure F6 where
 Name:ByteArray
 Fields:List Y5
structure B2 where
 Kind:Int
 Num:Int
 Text:ByteArray
structure A8 where
 Op:Int
 dT:List A8
 Var:Int
 Field:Int
 Kind:Int
 Value:B2
structure A0 where
 Op:Int
 dT:List A0
 Typ:Int
 Var:Int
 dZ:Int
 Span:Int
 dU:A8
structure B0 where
 Source:Int
 Seq:Int
 Typ:Int
 Time:Int
 Values:List B2
structure A6 where
 Low:Int
 dV:Int
structure D3 where
 dW:List (List A6)
structure K7 where
 eA:Int
 To:Int
 On:D3
structure D1 where
 eC:Int
 dY:List Bool
 dX:List K7
structure Wd where
 Time:Int
 Source:Int
 Seq:Int
structure N2 where
 Var:Int
 Ref:Wd
structure P6 where
 eB:List N2
structure E9 where
 Typ:Int
 Num:Int
structure Ck where
 dZ:Int
 Typ:Int
 Var:Int
 dU:A8
structure Oj where
 eR:List Ck
structure Cq where
 dZ:Int
 Span:Int
structure C5 where
 eA:Int
 To:Int
 Var:Int
 Typ:Int
 dU:A8
 eL:List Int
 eN:List Int
 eI:List A8
 eO:List Cq
 eM:List Int
structure K6 where
 eK:Int
 eQ:Int
 eH:List Oj
 eG:List C5
structure R9 where
 Name:ByteArray
 Typ:Int
structure C2 where
 eP:List B0
 full:Bool
structure A3 where
 eF:Int
 at_:Int
structure JJ where
 types:List F6
 vars:List R9
structure L8 where
 times:Int
 plus:Int
structure H6 where
 source:Int
 seq:Int
structure V4 where
 eJ:Int
 most:Int
 eE:Bool
 cond:Bool
 scope:Bool
 span:Bool
structure A7 where
 done:Bool
 p:A0
structure LA where
 eK:List (List B0)
structure Ap where
 env:LA
 own:Int
 event:B0
 apply:Unit
structure I6 where
 Kind:Int
 Count:Int
 Value:B2
def O3:Up V4:=[⟨0,0,true,true,false,false⟩,⟨2,64,false,false,false,false⟩,⟨2,64,false,false,false,false⟩,⟨2,64,false,false,false,false⟩,⟨1,1,false,false,false,false⟩,⟨1,1,true,true,true,false⟩,⟨1,1,false,false,true,true⟩,⟨1,1,false,true,false,false⟩,⟨2,2,false,false,false,false⟩,⟨1,1,true,true,true,false⟩,⟨1,1,false,false,true,true⟩]
end Go.Ab
namespace Go.Ab
variable [Ar]
def BA8:Up Int:=[5,6,7,8,10,11,12]
def BA7:Up V:=[.func (.func 293) [] [.eref [.func (.func 292) [] []] 0],.func (.func 294) [] [.eref [.func (.func 292) [] []] 0],.func (.func 295) [] [],.func (.func 296) [] [],.func (.func 297) [] [],.func (.func 298) [] [],.func (.func 299) [] []]
class J6 where
 eCn6:Y5->V
 eCm0:F6->V
 eCm3:B2->V
 eCl6:A8->V
 eCl1:A0->V
 eCl4:B0->V
 eCl2:A6->V
 eCp8:D3->V
 eCm2:K7->V
 eCm9:N2->V
 eCm4:P6->V
 eCl9:E9->V
 eCn7:Ck->V
 eCn2:Oj->V
 eCm6:Cq->V
 eCl3:C5->V
 eCm5:R9->V
 eCl0:A3->V
 eCo2:H6->V
 eCq0:V4->V
 eCo3:List A8->V
 eCo7:List B0->V
 eCq1:List E9->V
 eLI:List Int->V
 eCo5:List Cq->V
 eCl7:List A6->V
 eCn9:List (List A3)->V
 eCl8:List A3->V
 eCp2:∀x,eCn6 x= .agg [.str x.Name,.int .i64 x.Kind]
 eCo1:∀x,eCm0 x= .agg [.str x.Name,.sl (lst eCn6 x.Fields) .ro]
 eCn3:∀x,eCm3 x= .agg [.int .i64 x.Kind,.int .i64 x.Num,.str x.Text]
 eCn0:∀x,eCl6 x= .agg [.int .i64 x.Op,.sl (lst eCl6 x.dT) .ro,.int .i64 x.Var,.int .i64 x.Field,.int .i64 x.Kind,.int .i64 x.Value.Kind,.int .i64 x.Value.Num,.str x.Value.Text]
 eCl5:∀x,eCl1 x= .agg [.int .i64 x.Op,.sl (lst eCl1 x.dT) .ro,.int .i64 x.Typ,.int .i64 x.Var,.int .i64 x.dZ,.int .i64 x.Span,.int .i64 x.dU.Op,.sl (lst eCl6 x.dU.dT) .ro,.int .i64 x.dU.Var,.int .i64 x.dU.Field,.int .i64 x.dU.Kind,.int .i64 x.dU.Value.Kind,.int .i64 x.dU.Value.Num,.str x.dU.Value.Text]
 eCn1:∀x,eCl4 x= .agg [.int .i64 x.Source,.int .i64 x.Seq,.int .i64 x.Typ,.int .i64 x.Time,.sl (lst eCm3 x.Values) .ro]
 eCm7:∀x,eCl2 x= .agg [.int .i64 x.Low,.int .i64 x.dV]
 eCp3:∀x,eCp8 x= .agg [.sl (lst eCl7 x.dW) .ro]
 eCm1:∀x,eCm2 x= .agg [.int .i64 x.eA,.int .i64 x.To,.sl (lst eCl7 x.On.dW) .ro]
 eCo8:∀x,eCm9 x= .agg [.int .i64 x.Var,.int .i64 x.Ref.Time,.int .i64 x.Ref.Source,.int .i64 x.Ref.Seq]
 eCo9:∀x,eCm4 x= .agg [.sl (lst eCm9 x.eB) .ro]
 eCo6:∀x,eCl9 x= .agg [.int .i64 x.Typ,.int .i64 x.Num]
 eCq2:∀x,eCn7 x= .agg [.int .i64 x.dZ,.int .i64 x.Typ,.int .i64 x.Var,.int .i64 x.dU.Op,.sl (lst eCl6 x.dU.dT) .ro,.int .i64 x.dU.Var,.int .i64 x.dU.Field,.int .i64 x.dU.Kind,.int .i64 x.dU.Value.Kind,.int .i64 x.dU.Value.Num,.str x.dU.Value.Text]
 eCq3:∀x,eCn2 x= .agg [.sl (lst eCn7 x.eR) .ro]
 eCp9:∀x,eCm6 x= .agg [.int .i64 x.dZ,.int .i64 x.Span]
 eCn4:∀x,eCl3 x= .agg [.int .i64 x.eA,.int .i64 x.To,.int .i64 x.Var,.int .i64 x.Typ,.int .i64 x.dU.Op,.sl (lst eCl6 x.dU.dT) .ro,.int .i64 x.dU.Var,.int .i64 x.dU.Field,.int .i64 x.dU.Kind,.int .i64 x.dU.Value.Kind,.int .i64 x.dU.Value.Num,.str x.dU.Value.Text,.sl (lst (V.int .i64) x.eL) .ro,.sl (lst (V.int .i64) x.eN) .ro,.sl (lst eCl6 x.eI) .ro,.sl (lst eCm6 x.eO) .ro,.sl (lst (V.int .i64) x.eM) .ro]
 eCp4:∀x,eCm5 x= .agg [.str x.Name,.int .i64 x.Typ]
 eCn8:∀x,eCl0 x= .agg [.int .i64 x.eF,.int .i64 x.at_]
 eCp0:∀x,eCo2 x= .agg [.int .i64 x.source,.int .i64 x.seq]
 eCq5:∀x,eCq0 x= .agg [.int .i64 x.eJ,.int .i64 x.most,.bool x.eE,.bool x.cond,.bool x.scope,.bool x.span]
 eCp5:∀x,eCo3 x= .sl (lst eCl6 x) .ro
 eCq4:∀x,eCo7 x= .sl (lst eCl4 x) .ro
 eCp1:∀x,eCq1 x= .sl (lst eCl9 x) .ro
 eCo0:∀x,eLI x= .sl (lst (V.int .i64) x) .ro
 eCp6:∀x,eCo5 x= .sl (lst eCm6 x) .ro
 eCm8:∀x,eCl7 x= .sl (lst eCl2 x) .ro
 eCp7:∀x,eCn9 x= .sl (lst eCl8 x) .ro
 eCn5:∀x,eCl8 x= .sl (lst eCl0 x) .ro
def ZJ [J6](x:B2):(J6.eCm3 x).cells.length=3:=by rw[J6.eCn3];rfl
def Ap9 [J6](x:A8):(J6.eCl6 x).cells.length=8:=by rw[J6.eCn0];rfl
def AM [J6](x:A0):(J6.eCl1 x).cells.length=14:=by rw[J6.eCl5];rfl
def Bd3 [J6](x:B0):(J6.eCl4 x).cells.length=5:=by rw[J6.eCn1];rfl
def BB [J6](x:A6):(J6.eCl2 x).cells.length=2:=by rw[J6.eCm7];rfl
def WQ [J6](x:K7):(J6.eCm2 x).cells.length=3:=by rw[J6.eCm1];rfl
def Aq0 [J6](x:N2):(J6.eCm9 x).cells.length=4:=by rw[J6.eCo8];rfl
def ZK [J6](x:P6):(J6.eCm4 x).cells.length=1:=by rw[J6.eCo9];rfl
def Rt [J6](x:E9):(J6.eCl9 x).cells.length=2:=by rw[J6.eCo6];rfl
def TV [J6](x:Ck):(J6.eCn7 x).cells.length=11:=by rw[J6.eCq2];rfl
def Bd2 [J6](x:Oj):(J6.eCn2 x).cells.length=1:=by rw[J6.eCq3];rfl
def ZL [J6](x:Cq):(J6.eCm6 x).cells.length=2:=by rw[J6.eCp9];rfl
def SE [J6](x:C5):(J6.eCl3 x).cells.length=17:=by rw[J6.eCn4];rfl
def Ag3 [J6](x:R9):(J6.eCm5 x).cells.length=2:=by rw[J6.eCp4];rfl
def Dg [J6](x:A3):(J6.eCl0 x).cells.length=2:=by rw[J6.eCn8];rfl
def MJ [J6](x:Up A6):(J6.eCl7 x).cells.length=1:=by rw[J6.eCm8];rfl
def Tst [J6](x:Up (Up A3)):(J6.eCn9 x).cells.length=1:=by rw[J6.eCp7];rfl
def za7 [J6](x:Up A3):(J6.eCl8 x).cells.length=1:=by rw[J6.eCn5];rfl
variable [J6]
abbrev Ci (x:C5):Up V:=[.int .i64 x.eA,.int .i64 x.To,.int .i64 x.Var,.int .i64 x.Typ,.int .i64 x.dU.Op,.sl (lst J6.eCl6 x.dU.dT) .ro,.int .i64 x.dU.Var,.int .i64 x.dU.Field,.int .i64 x.dU.Kind,.int .i64 x.dU.Value.Kind,.int .i64 x.dU.Value.Num,.str x.dU.Value.Text,.sl (lst (V.int .i64) x.eL) .ro,.sl (lst (V.int .i64) x.eN) .ro,.sl (lst J6.eCl6 x.eI) .ro,.sl (lst J6.eCm6 x.eO) .ro,.sl (lst (V.int .i64) x.eM) .ro]
abbrev M6 (x:C5):V:=.agg (Ci x)
abbrev O1 (x:A7):Up V:=[.bool x.done,.int .i64 x.p.Op,.sl (lst J6.eCl1 x.p.dT) .ro,.int .i64 x.p.Typ,.int .i64 x.p.Var,.int .i64 x.p.dZ,.int .i64 x.p.Span,.int .i64 x.p.dU.Op,.sl (lst J6.eCl6 x.p.dU.dT) .ro,.int .i64 x.p.dU.Var,.int .i64 x.p.dU.Field,.int .i64 x.p.dU.Kind,.int .i64 x.p.dU.Value.Kind,.int .i64 x.p.dU.Value.Num,.str x.p.dU.Value.Text]
abbrev B7 (x:A7):V:=.agg (O1 x)
abbrev E2 (x:A0):Up V:=[.int .i64 x.Op,.sl (lst J6.eCl1 x.dT) .ro,.int .i64 x.Typ,.int .i64 x.Var,.int .i64 x.dZ,.int .i64 x.Span,.int .i64 x.dU.Op,.sl (lst J6.eCl6 x.dU.dT) .ro,.int .i64 x.dU.Var,.int .i64 x.dU.Field,.int .i64 x.dU.Kind,.int .i64 x.dU.Value.Kind,.int .i64 x.dU.Value.Num,.str x.dU.Value.Text]
abbrev D5 (x:A0):V:=.agg (E2 x)
abbrev IH (x:Ap):Up V:=[.sl (lst J6.eCo7 x.env.eK) .ro,.int .i64 x.own,.int .i64 x.event.Source,.int .i64 x.event.Seq,.int .i64 x.event.Typ,.int .i64 x.event.Time,.sl (lst J6.eCm3 x.event.Values) .ro,.fmap BA8 BA7]
abbrev Fy (x:Ap):V:=.agg (IH x)
abbrev DE (x:A8):Up V:=[.int .i64 x.Op,.sl (lst J6.eCl6 x.dT) .ro,.int .i64 x.Var,.int .i64 x.Field,.int .i64 x.Kind,.int .i64 x.Value.Kind,.int .i64 x.Value.Num,.str x.Value.Text]
abbrev Bo (x:A8):V:=.agg (DE x)
abbrev AD0 (x:K6):Up V:=[.int .i64 x.eK,.int .i64 x.eQ,.sl (lst J6.eCn2 x.eH) .ro,.sl (lst J6.eCl3 x.eG) .ro]
abbrev Vo (x:K6):V:=.agg (AD0 x)
abbrev TD (x:B0):Up V:=[.int .i64 x.Source,.int .i64 x.Seq,.int .i64 x.Typ,.int .i64 x.Time,.sl (lst J6.eCm3 x.Values) .ro]
abbrev CB (x:B0):V:=.agg (TD x)
abbrev MZ (x:I6):Up V:=[.int .i64 x.Kind,.int .i64 x.Count,.int .i64 x.Value.Kind,.int .i64 x.Value.Num,.str x.Value.Text]
abbrev T7 (x:I6):V:=.agg (MZ x)
abbrev JT (x:V4):Up V:=[.int .i64 x.eJ,.int .i64 x.most,.bool x.eE,.bool x.cond,.bool x.scope,.bool x.span]
abbrev Al6 (x:V4):V:=.agg (JT x)
abbrev I0 (x:D1):Up V:=[.int .i64 x.eC,.sl (lst V.bool x.dY) .ro,.sl (lst J6.eCm2 x.dX) .ro]
abbrev AH (x:D1):V:=.agg (I0 x)
abbrev Bm6 (x:N2):Up V:=[.int .i64 x.Var,.int .i64 x.Ref.Time,.int .i64 x.Ref.Source,.int .i64 x.Ref.Seq]
abbrev Qw (x:N2):V:=.agg (Bm6 x)
abbrev cfo130 (x:JJ):Up V:=[.sl (lst J6.eCm0 x.types) .ro,.sl (lst J6.eCm5 x.vars) .ro]
abbrev c120 (x:JJ):V:=.agg (cfo130 x)
abbrev Am3 (x:K7):Up V:=[.int .i64 x.eA,.int .i64 x.To,.sl (lst J6.eCl7 x.On.dW) .ro]
abbrev Iu (x:K7):V:=.agg (Am3 x)
abbrev Cj5 (x:Wd):Up V:=[.int .i64 x.Time,.int .i64 x.Source,.int .i64 x.Seq]
abbrev Ap2 (x:Wd):V:=.agg (Cj5 x)
abbrev C9 (x:C2):Up V:=[.sl (lst J6.eCl4 x.eP) .ro,.bool x.full]
abbrev YK (x:F6):Up V:=[.str x.Name,.sl (lst J6.eCn6 x.Fields) .ro]
abbrev SB (x:F6):V:=.agg (YK x)
abbrev Av (x:B2):Up V:=[.int .i64 x.Kind,.int .i64 x.Num,.str x.Text]
abbrev J5 (x:B2):V:=.agg (Av x)
abbrev Bb1 (x:P6):Up V:=[.sl (lst J6.eCm9 x.eB) .ro]
abbrev ND (x:P6):V:=.agg (Bb1 x)
abbrev Hi (x:D3):Up V:=[.sl (lst J6.eCl7 x.dW) .ro]
abbrev N6 (x:D3):V:=.agg (Hi x)
abbrev ty2 (x:A3):Up V:=[.int .i64 x.eF,.int .i64 x.at_]
abbrev X1 (x:A3):V:=.agg (ty2 x)
abbrev Cj6 (x:LA):Up V:=[.sl (lst J6.eCo7 x.eK) .ro]
abbrev Bp7 (x:LA):V:=.agg (Cj6 x)
abbrev IG (x:L8):Up V:=[.int .i64 x.times,.int .i64 x.plus]
abbrev Fx (x:L8):V:=.agg (IG x)
abbrev Bgn (x:H6):Up V:=[.int .i64 x.source,.int .i64 x.seq]
abbrev za5 (x:H6):V:=.agg (Bgn x)
abbrev YM (x:A6):Up V:=[.int .i64 x.Low,.int .i64 x.dV]
abbrev Bn (x:A6):V:=.agg (YM x)
abbrev AX (x:E9):Up V:=[.int .i64 x.Typ,.int .i64 x.Num]
abbrev Nc (x:E9):V:=.agg (AX x)
abbrev BQ7 (x:Y5):Up V:=[.str x.Name,.int .i64 x.Kind]
abbrev AR9 (x:Y5):V:=.agg (BQ7 x)
end Go.Ab
open Go.Ab.Ar (an ar beq cmp mn mx neg nt sat scmp sh slen wr)
namespace Go.Ab
variable [Ar]
instance :DecidableEq E9:=λx y=>decidable_of_iff (x.Typ=y.Typ/\x.Num=y.Num) (by cases x;cases y;simp)
instance :DecidableEq H6:=λx y=>decidable_of_iff (x.source=y.source/\x.seq=y.seq) (by cases x;cases y;simp)
def CD (N:Nat):Nat->A0->Int->OS Int
 |0,_,_=>none
 |n+1,F,a=>(loopN (λ(A:Int×Int)=>(if an (cmp .lss A.2 (Ar.len F.dT)) (cmp .leq A.1 a)then(C4 F.dT A.2).bind λe=>(CD N n e a).bind λb=>some (.inl (ar .add .i64 A.1 b,ar .add .i64 A.2 1))else some (.inr A.1):OS ((Int×Int)⊕(Int)))) N (1,0)).bind λs=>some s
def CE (N:Nat):Nat->A0->OS (Up A0)
 |0,_=>none
 |n+1,F=>(loopN (λ(A:(Up A0)×Int)=>(if cmp .lss A.2 (Ar.len F.dT)then(C4 F.dT A.2).bind λh=>(CE N n h).bind λb=>(K2 A.1 b).bind λa=>some (.inl (a,ar .add .i64 A.2 1))else some (.inr A.1):OS (((Up A0)×Int)⊕(((Up A0)))))) N ([F],0)).bind λe=>some e
def BM (N:Nat):Nat->A8->Int->OS Int
 |0,_,_=>none
 |n+1,a,b=>(loopN (λ(A:Int×Int)=>(if an (cmp .lss A.2 (Ar.len a.dT)) (cmp .leq A.1 b)then(C4 a.dT A.2).bind λh=>(BM N n h b).bind λe=>some (.inl (ar .add .i64 A.1 e,ar .add .i64 A.2 1))else some (.inr A.1):OS ((Int×Int)⊕(Int)))) N (1,0)).bind λs=>some s
variable (N:Nat)
def Ml(F:A0):OS Bool:=(CD N N F 9).bind λe=>if cmp .gtr e 9 then some false else(CE N N F).bind λb=>(loopN (λ(a:Int)=>(if cmp .lss a (Ar.len b)then(C4 b a).bind λx5=>(BM N N x5.dU 20).bind λh=>if cmp .gtr h 20 then some (.inr (.inr ()))else some (.inl (ar .add .i64 a 1))else some (.inr (.inl ())):OS ((Int)⊕(Unit⊕Unit)))) N 0).bind λi=>match i with
  | .inl k=>some true
  | .inr l=>some false
def CF (N:Nat):Nat->A0->OS Int
 |0,_=>none
 |n+1,F=>(loopN (λ(A:Int×Int)=>(if cmp .lss A.2 (Ar.len F.dT)then(C4 F.dT A.2).bind λb=>(CF N n b).bind λa=>some (.inl (mx A.1 a,ar .add .i64 A.2 1))else some (.inr A.1):OS ((Int×Int)⊕(Int)))) N (0,0)).bind λs=>some (ar .add .i64 s 1)
def CG (N:Nat):Nat->A8->OS Int
 |0,_=>none
 |n+1,a=>(loopN (λ(A:Int×Int)=>(if cmp .lss A.2 (Ar.len a.dT)then(C4 a.dT A.2).bind λe=>(CG N n e).bind λb=>some (.inl (mx A.1 b,ar .add .i64 A.2 1))else some (.inr A.1):OS ((Int×Int)⊕(Int)))) N (0,0)).bind λs=>some (ar .add .i64 s 1)
def KB(a:A8):OS Bool:=(BM N N a 200).bind λb=>if cmp .leq b 200 then(CG N N a).bind λe=>some (cmp .leq e 100)else some false
def QA(F:A0):OS Bool:=(CD N N F 150).bind λe=>if cmp .gtr e 150 then some false else(CF N N F).bind λh=>if cmp .gtr h 60 then some false else(CE N N F).bind λb=>(loopN (λ(a:Int)=>(if cmp .lss a (Ar.len b)then(C4 b a).bind λl=>(KB N l.dU).bind λi=>if nt i then some (.inr (.inr ()))else some (.inl (ar .add .i64 a 1))else some (.inr (.inl ())):OS ((Int)⊕(Unit⊕Unit)))) N 0).bind λk=>match k with
   | .inl n=>some true
   | .inr r=>some false
def BE (N:Nat):Nat->A0->OS Int
 |0,_=>none
 |n+1,F=>((if cmp .eql F.Op 0 then some 1 else some 0):OS (Int)).bind λA=>(loopN (λ(s:Int×Int)=>(if cmp .lss s.2 (Ar.len F.dT)then(C4 F.dT s.2).bind λe=>(BE N n e).bind λa=>some (.inl (ar .add .i64 s.1 a,ar .add .i64 s.2 1))else some (.inr s.1):OS ((Int×Int)⊕(Int)))) N (A,0)).bind λb=>some b
def Jy(e:Int)(a:Int)(b:Int):OS Int:=(loopN (λ(A:Int×Int)=>(if an (cmp .lss A.2 a) (cmp .leq A.1 b)then some (.inl (ar .mul .i64 A.1 e,ar .add .i64 A.2 1))else some (.inr A.1):OS ((Int×Int)⊕(Int)))) N (1,0)).bind λs=>some s
def Du (N:Nat):Nat->A0->OS Bool
 |0,_=>none
 | n+1,F=>if cmp .eql F.Op 4 then some true else(loopN (λ(A:Int)=>(if cmp .lss A (Ar.len F.dT)then(C4 F.dT A).bind λb=>(Du N n b).bind λa=>if a then some (.inr (.inr ()))else some (.inl (ar .add .i64 A 1))else some (.inr (.inl ())):OS ((Int)⊕(Unit⊕Unit)))) N 0).bind λs=>match s with
   | .inl e=>some false
   | .inr h=>some true
def Mk(F:A0) (a:Up B0):OS Bool:=(QA N F).bind λe=>if Ar.or (nt e) (cmp .gtr (Ar.len a) 10)then some false else(loopN (λ(s:Int)=>(if cmp .lss s (Ar.len a)then(C4 a s).bind λn=>if cmp .gtr (Ar.len n.Values) 9 then some (.inr (.inr ()))else some (.inl (ar .add .i64 s 1))else some (.inr (.inl ())):OS ((Int)⊕(Unit⊕Unit)))) N 0).bind λl=>match l with
  | .inl v=>(BE N N F).bind λb=>(Jy N (ar .add .i64 b 1) (Ar.len a) 1500).bind λh=>if cmp .leq h 1500 then some true else(Du N N F).bind λi=>if nt i then(Jy N (Ar.len a) b 1500).bind λk=>some (cmp .leq k 1500)else some false
  | .inr r=>some false
def AR(a:Up B0)(b:B0->OS Bool):OS Int:=(loopN (λ(A:Int)=>(if cmp .lss A (Ar.len a)then(C4 a A).bind λh=>(b h).bind λe=>if e then some (.inr (.inr A))else some (.inl (ar .add .i64 A 1))else some (.inr (.inl ())):OS ((Int)⊕(Unit⊕Int)))) N 0).bind λs=>match s with
 | .inl k=>some (-1)
 | .inr i=>some i
def U5(a:Up B0)(b:B0->OS Bool):OS Bool:=(AR N a b).bind λe=>some (cmp .geq e 0)
def Hs (N:Nat)(a:Int):OS Bool:=some (Ar.or (Ar.or (an (cmp .geq a 97) (cmp .leq a 122)) (an (cmp .geq a 65) (cmp .leq a 90))) (cmp .eql a 95))
def Iz(a:Uf):OS Bool:=if Ar.or (cmp .eql (slen a) 0) (cmp .gtr (slen a) 24)then some false else(IS (an (cmp .geq 0 0) (cmp .lss 0 (slen a)))).bind λ_=>(Hs N (sat a 0)).bind λb=>if nt b then some false else(loopN (λ(s:Int)=>(if cmp .lss s (slen a)then(IS (an (cmp .geq s 0) (cmp .lss s (slen a)))).bind λ_=>(Hs N (sat a s)).bind λe=>if nt e then(IS (an (cmp .geq s 0) (cmp .lss s (slen a)))).bind λ_=>if cmp .lss (sat a s) 48 then some (.inr (.inr ()))else(IS (an (cmp .geq s 0) (cmp .lss s (slen a)))).bind λ_=>if cmp .gtr (sat a s) 57 then some (.inr (.inr ()))else some (.inl (ar .add .i64 s 1))else some (.inl (ar .add .i64 s 1))else some (.inr (.inl ())):OS ((Int)⊕(Unit⊕Unit)))) N 0).bind λh=>match h with
   | .inl i=>some true
   | .inr k=>some false
def Ht(a:F6)(b:Uf):OS Int:=(loopN (λ(A:Int)=>(if cmp .lss A (Ar.len a.Fields)then(C4 a.Fields A).bind λe=>if scmp .eql e.Name b then some (.inr (.inr A))else some (.inl (ar .add .i64 A 1))else some (.inr (.inl ())):OS ((Int)⊕(Unit⊕Int)))) N 0).bind λs=>match s with
 | .inl i=>some (-1)
 | .inr h=>some h
def Mo(b:F6):OS Int:=(Iz N b.Name).bind λe=>if nt e then some 8 else if cmp .gtr (Ar.len b.Fields) 8 then some 5 else(loopN (λ(s:Int)=>(if cmp .lss s (Ar.len b.Fields)then(C4 b.Fields s).bind λa=>(Iz N a.Name).bind λh=>if Ar.or (nt h) (scmp .eql a.Name (⟨#[116,105,109,101]⟩:Uf))then some (.inr (.inr 8))else(Ht N b a.Name).bind λi=>if cmp .lss i s then some (.inr (.inr 7))else if an (an (cmp .neq a.Kind 0) (cmp .neq a.Kind 1)) (cmp .neq a.Kind 2)then some (.inr (.inr 1))else some (.inl (ar .add .i64 s 1))else some (.inr (.inl ())):OS ((Int)⊕(Unit⊕Int)))) N 0).bind λk=>match k with
   | .inl n=>some 0
   | .inr l=>some l
def Mn(a:Up F6)(b:Uf):OS Int:=(loopN (λ(A:Int)=>(if cmp .lss A (Ar.len a)then(C4 a A).bind λe=>if scmp .eql e.Name b then some (.inr (.inr A))else some (.inl (ar .add .i64 A 1))else some (.inr (.inl ())):OS ((Int)⊕(Unit⊕Int)))) N 0).bind λs=>match s with
 | .inl i=>some (-1)
 | .inr h=>some h
def Hu(a:Up F6):OS Int:=if cmp .gtr (Ar.len a) 16 then some 5 else(loopN (λ(A:Int)=>(if cmp .lss A (Ar.len a)then(C4 a A).bind λh=>(Mo N h).bind λb=>if cmp .neq b 0 then some (.inr (.inr b))else(C4 a A).bind λx5=>(Mn N a x5.Name).bind λe=>if cmp .lss e A then some (.inr (.inr 7))else some (.inl (ar .add .i64 A 1))else some (.inr (.inl ())):OS ((Int)⊕(Unit⊕Int)))) N 0).bind λs=>match s with
  | .inl k=>some 0
  | .inr i=>some i
def Mp (N:Nat)(a:B2):OS Int:=if Ar.or (cmp .lss a.Kind 0) (cmp .gtr a.Kind 2)then some 1 else if cmp .eql a.Kind 2 then if cmp .neq a.Num 0 then some 3 else if cmp .gtr (slen a.Text) 64 then some 13 else some 0 else if scmp .neq a.Text (⟨#[]⟩:Uf)then some 3 else if Ar.or (Ar.or (an (cmp .eql a.Kind 1) (Ar.or (cmp .lss a.Num 0) (cmp .gtr a.Num 1))) (cmp .lss a.Num (-1099511627776))) (cmp .gtr a.Num 1099511627776)then some 2 else some 0
def Mm(e:Up F6) (a:B0):OS Int:=if Ar.or (cmp .lss a.Source 0) (cmp .geq a.Source 8)then some 32 else if Ar.or (Ar.or (Ar.or (cmp .lss a.Seq 0) (cmp .gtr a.Seq 1099511627776)) (cmp .lss a.Time 0)) (cmp .gtr a.Time 1099511627776)then some 2 else if Ar.or (cmp .lss a.Typ 0) (cmp .geq a.Typ (Ar.len e))then some 6 else(C4 e a.Typ).bind λb=>if cmp .neq (Ar.len a.Values) (Ar.len b.Fields)then some 15 else(loopN (λ(s:Int)=>(if cmp .lss s (Ar.len b.Fields)then(C4 a.Values s).bind λk=>(Mp N k).bind λh=>if cmp .neq h 0 then some (.inr (.inr h))else(C4 a.Values s).bind λl=>(C4 b.Fields s).bind λn=>if cmp .neq l.Kind n.Kind then some (.inr (.inr 9))else some (.inl (ar .add .i64 s 1))else some (.inr (.inl ())):OS ((Int)⊕(Unit⊕Int)))) N 0).bind λi=>match i with
     | .inl v=>some 0
     | .inr r=>some r
def PI(a:Up F6)(e:B0):OS Int:=(Hu N a).bind λb=>if cmp .neq b 0 then some b else(Mm N a e).bind λh=>some h
def Y8(a:B0)(b:Up F6):OS Bool:=(PI N b a).bind λe=>some (cmp .neq e 0)
def Hq (N:Nat)(a:Int):OS Bool:=some (an (cmp .geq a 48) (cmp .leq a 57))
def IR (N:Nat)(a:Int):OS Bool:=some (Ar.or (Ar.or (cmp .eql a 95) (an (cmp .geq a 97) (cmp .leq a 122))) (an (cmp .geq a 65) (cmp .leq a 90)))
def Fb(a:Uf):OS Bool:=if Ar.or (cmp .eql (slen a) 0) (cmp .gtr (slen a) 24)then some false else(IS (an (cmp .geq 0 0) (cmp .lss 0 (slen a)))).bind λ_=>(Hq N (sat a 0)).bind λb=>if b then some false else(loopN (λ(s:Int)=>(if cmp .lss s (slen a)then(IS (an (cmp .geq s 0) (cmp .lss s (slen a)))).bind λ_=>(IR N (sat a s)).bind λe=>if nt e then(IS (an (cmp .geq s 0) (cmp .lss s (slen a)))).bind λ_=>(Hq N (sat a s)).bind λh=>if nt h then some (.inr (.inr ()))else some (.inl (ar .add .i64 s 1))else some (.inl (ar .add .i64 s 1))else some (.inr (.inl ())):OS ((Int)⊕(Unit⊕Unit)))) N 0).bind λi=>match i with
   | .inl k=>some true
   | .inr l=>some false
def Dt(a:Uf):OS Bool:=(Fb N a).bind λb=>some (an b (scmp .neq a (⟨#[116,105,109,101]⟩:Uf)))
def Hr(e:F6):OS Int:=(Fb N e.Name).bind λk=>if nt k then some 8 else if cmp .gtr (Ar.len e.Fields) 8 then some 5 else(loopN (λ(a:Int×(Up (Uf×Bool)))=>(if cmp .lss a.1 (Ar.len e.Fields)then(C4 e.Fields a.1).bind λb=>(Dt N b.Name).bind λl=>if nt l then some (.inr (.inr (8,a.2)))else(Gf a.2 b.Name (false:Bool)).bind λn=>if n.1 then some (.inr (.inr (7,a.2)))else if Ar.or (cmp .lss b.Kind 0) (cmp .geq b.Kind 3)then some (.inr (.inr (1,a.2)))else(FX a.2 b.Name true).bind λh=>some (.inl (ar .add .i64 a.1 1,h))else some (.inr (.inl a.2)):OS ((Int×(Up (Uf×Bool)))⊕(((Up (Uf×Bool)))⊕(Int×(Up (Uf×Bool))))))) N (0,([]:Up (Uf×Bool)))).bind λr=>match r with
   | .inl v=>some 0
   | .inr i=>some i.1
def Bq(b:Up F6):OS Int:=if cmp .gtr (Ar.len b) 16 then some 5 else(loopN (λ(a:Int×(Up (Uf×Bool)))=>(if cmp .lss a.1 (Ar.len b)then(C4 b a.1).bind λh=>(Hr N h).bind λk=>if cmp .neq k 0 then some (.inr (.inr (k,a.2)))else(Gf a.2 h.Name (false:Bool)).bind λl=>if l.1 then some (.inr (.inr (7,a.2)))else(FX a.2 h.Name true).bind λe=>some (.inl (ar .add .i64 a.1 1,e))else some (.inr (.inl a.2)):OS ((Int×(Up (Uf×Bool)))⊕(((Up (Uf×Bool)))⊕(Int×(Up (Uf×Bool))))))) N (0,([]:Up (Uf×Bool)))).bind λn=>match n with
  | .inl r=>some 0
  | .inr i=>some i.1
def BF (N:Nat):Nat->A0->OS (Up A0)
 |0,_=>none
 |n+1,F=>((I1 (some ([F],())) λ_=>I1 (R7 (λ(s:Int)=>(if cmp .lss s (Ar.len F.dT)then(C4 F.dT s).bind λb=>(BF N n b).bind λa=>I1 (some (a,())) λ_=>some ([],.inl (ar .add .i64 s 1))else some ([],.inr ()):OS (Up A0×((Int)⊕(Unit))))) N 0) λe=>some ([],())):OS (Up A0×Unit)).bind λq=>some q.1
def Ec(a:A0):OS (Up A0):=(((BF N N a).bind λb=>I1 (some (b,())) λ_=>some ([],())):OS (Up A0×Unit)).bind λq=>some q.1
def BR(F:A0):OS (Up A0):=Ec N F
def BG (N:Nat):Nat->A0->OS (Int×Int)
 |0,_=>none
 |n+1,F=>(loopN (λ(A:Int×Int×Int)=>(if cmp .lss A.2.2 (Ar.len F.dT)then(C4 F.dT A.2.2).bind λb=>(BG N n b).bind λa=>some (.inl (ar .add .i64 A.1 a.1,mx A.2.1 a.2,ar .add .i64 A.2.2 1))else some (.inr (A.1,A.2.1)):OS ((Int×Int×Int)⊕((Int×Int))))) N (1,0,0)).bind λs=>some (s.1,ar .add .i64 s.2 1)
def FI (N:Nat):Nat->A8->OS (Int×Int)
 |0,_=>none
 |n+1,a=>(loopN (λ(A:Int×Int×Int)=>(if cmp .lss A.2.2 (Ar.len a.dT)then(C4 a.dT A.2.2).bind λe=>(FI N n e).bind λb=>some (.inl (ar .add .i64 A.1 b.1,mx A.2.1 b.2,ar .add .i64 A.2.2 1))else some (.inr (A.1,A.2.1)):OS ((Int×Int×Int)⊕((Int×Int))))) N (1,0,0)).bind λs=>some (s.1,ar .add .i64 s.2 1)
def GK (N:Nat):Nat->A8->(A8->OS Int)->OS Int
 |0,_,_=>none
 | n+1,a,b=>(b a).bind λe=>if cmp .neq e 0 then some e else(loopN (λ(s:Int)=>(if cmp .lss s (Ar.len a.dT)then(C4 a.dT s).bind λk=>(GK N n k b).bind λh=>if cmp .neq h 0 then some (.inr (.inr h))else some (.inl (ar .add .i64 s 1))else some (.inr (.inl ())):OS ((Int)⊕(Unit⊕Int)))) N 0).bind λi=>match i with
   | .inl r=>some 0
   | .inr l=>some l
def NZ (N:Nat)(a:Int):OS (Int×Bool):=if Ar.or (cmp .lss a 0) (cmp .gtr a 12)then some (0,false)else if cmp .lss a 5 then some (0,true)else if cmp .eql a 12 then some (1,true)else some (2,true)
def QN (N:Nat)(a:Int):OS (Bool×Bool):=((if cmp .eql a 1 then some true else some (cmp .eql a 4)):OS (Bool)).bind λA=>if A then some (true,true)else if cmp .eql a 2 then some (true,false)else if cmp .eql a 3 then some (true,false)else some (false,false)
def NC (N:Nat)(a:B2):OS Int:=if an (cmp .eql a.Kind 0) (Ar.or (cmp .lss a.Num (-1099511627776)) (cmp .gtr a.Num 1099511627776))then some 2 else if an (an (cmp .eql a.Kind 1) (cmp .neq a.Num 0)) (cmp .neq a.Num 1)then some 2 else if cmp .gtr (slen a.Text) 64 then some 13 else some 0
def BL(a:B2):OS Int:=((if cmp .eql a.Kind 0 then some true else some (cmp .eql a.Kind 1)):OS (Bool)).bind λA=>if A then if scmp .neq a.Text (⟨#[]⟩:Uf)then some 3 else(NC N a).bind λb=>some b else if cmp .eql a.Kind 2 then if cmp .neq a.Num 0 then some 3 else(NC N a).bind λe=>some e else some 1
def Lj (N:Nat)(a:Int)(b:B2):OS Bool:=some (Ar.or (Ar.or (cmp .eql b.Kind 0) (cmp .eql a 4)) (cmp .eql a 5))
def Lk(a:A8):OS Int:=(BL N a.Value).bind λb=>if cmp .neq b 0 then some b else if cmp .eql a.Op 4 then(Lj N a.Kind a.Value).bind λe=>if Ar.or (nt e) (an (cmp .eql a.Kind 1) (nt (an (cmp .eql a.Value.Kind 0) (an (cmp .eql a.Value.Num 0) (an (scmp .eql a.Value.Text (⟨#[]⟩)) true)))))then some 9 else some 0 else some 0
def KH(a:A8):OS Int:=(NZ N a.Op).bind λe=>if nt e.2 then some 1 else if cmp .neq (Ar.len a.dT) e.1 then some 15 else(QN N a.Op).bind λb=>if Ar.or (an b.1 (Ar.or (cmp .lss a.Var 0) (cmp .geq a.Var 16))) (an b.2 (Ar.or (cmp .lss a.Field 0) (cmp .geq a.Field 8)))then some 2 else if an (cmp .eql a.Op 4) (Ar.or (cmp .lss a.Kind 1) (cmp .gtr a.Kind 5))then some 1 else((if Ar.or (cmp .eql a.Op 4) (cmp .eql a.Op 0)then(Lk N a).bind λh=>if cmp .neq h 0 then some (.inr h)else some (.inl ())else some (.inl ())):OS (Unit⊕Int)).bind λi=>match i with
     | .inl l=>if Ar.or (Ar.or (Ar.or (an (nt b.1) (cmp .neq a.Var 0)) (an (nt b.2) (cmp .neq a.Field 0))) (an (nt (cmp .eql a.Op 4)) (cmp .neq a.Kind 0))) (an (nt (Ar.or (cmp .eql a.Op 4) (cmp .eql a.Op 0))) (nt (an (cmp .eql a.Value.Kind 0) (an (cmp .eql a.Value.Num 0) (an (scmp .eql a.Value.Text (⟨#[]⟩)) true)))))then some 3 else some 0
     | .inr k=>some k
def IE(a:A8):OS Int:=(FI N N a).bind λb=>if cmp .gtr b.1 64 then some 5 else if cmp .gtr b.2 12 then some 12 else(GK N N a (λh=>KH N h)).bind λe=>some e
def Bg (N:Nat):Nat->A8->A8->OS Bool
 |0,_,_=>none
 | n+1,a,b=>if Ar.or (Ar.or (Ar.or (Ar.or (Ar.or (cmp .neq a.Op b.Op) (cmp .neq a.Var b.Var)) (cmp .neq a.Field b.Field)) (cmp .neq a.Kind b.Kind)) (nt (an (cmp .eql a.Value.Kind b.Value.Kind) (an (cmp .eql a.Value.Num b.Value.Num) (an (scmp .eql a.Value.Text b.Value.Text) true))))) (cmp .neq (Ar.len a.dT) (Ar.len b.dT))then some false else(loopN (λ(A:Int)=>(if cmp .lss A (Ar.len a.dT)then(C4 a.dT A).bind λh=>(C4 b.dT A).bind λi=>(Bg N n h i).bind λe=>if nt e then some (.inr (.inr ()))else some (.inl (ar .add .i64 A 1))else some (.inr (.inl ())):OS ((Int)⊕(Unit⊕Unit)))) N 0).bind λs=>match s with
   | .inl k=>some true
   | .inr l=>some false
def Cd (N:Nat)(b:Bool)(a:Int)(e:Int):OS Bool:=some (Ar.or (nt b) (an (cmp .geq a 0) (cmp .leq a e)))
def X8 (N:Nat)(b:Bool)(a:Int):OS Bool:=some (Ar.or b (cmp .eql a 0))
def Z1(F:A0):OS Int:=if Ar.or (cmp .lss F.Op 0) (cmp .geq F.Op 11)then some 1 else(C4 O3 F.Op).bind λa=>if Ar.or (cmp .lss (Ar.len F.dT) a.eJ) (cmp .gtr (Ar.len F.dT) a.most)then some 15 else(Cd N a.eE F.Typ 15).bind λx=>if nt x then some 2 else(Cd N a.eE F.Var 15).bind λy=>if nt y then some 2 else(Cd N a.scope F.dZ 63).bind λH=>if nt H then some 2 else(Cd N a.span F.Span 1099511627776).bind λK=>if nt K then some 2 else((if a.cond then(IE N F.dU).bind λw=>if cmp .neq w 0 then some (.inr w)else some (.inl ())else some (.inl ())):OS (Unit⊕Int)).bind λV=>match V with
       | .inl c=>if nt a.cond then(Bg N N F.dU (⟨0,[],0,0,0,(⟨0,0,⟨#[]⟩⟩:B2)⟩:A8)).bind λP=>if nt P then some 3 else(X8 N a.eE F.Typ).bind λb=>if nt b then some 3 else(X8 N a.eE F.Var).bind λe=>if nt e then some 3 else(X8 N a.scope F.dZ).bind λh=>if nt h then some 3 else(X8 N a.span F.Span).bind λi=>if nt i then some 3 else some 0 else(X8 N a.eE F.Typ).bind λk=>if nt k then some 3 else(X8 N a.eE F.Var).bind λl=>if nt l then some 3 else(X8 N a.scope F.dZ).bind λn=>if nt n then some 3 else(X8 N a.span F.Span).bind λr=>if nt r then some 3 else some 0
       | .inr v=>some v
def N8(F:A0):OS Int:=(BG N N F).bind λe=>if cmp .gtr e.1 64 then some 5 else if cmp .gtr e.2 12 then some 12 else(BR N F).bind λi=>(E8 (λ(n:Unit) (l:A0)=>((Z1 N l).bind λa=>if cmp .neq a 0 then some (.inr a)else some (.inl ()):OS ((Unit)⊕(Int)))) i ()).bind λh=>match h with
   | .inl k=>some 0
   | .inr b=>some b
def IU(F:A0):OS Int:=(N8 N F).bind λb=>if cmp .neq b 0 then some b else(BR N F).bind λh=>(E8 (λ(l:Unit) (k:A0)=>(if cmp .geq k.Op 8 then some (.inr 1)else some (.inl ()):OS ((Unit)⊕(Int)))) h ()).bind λe=>match e with
  | .inl i=>some 0
  | .inr a=>some a
def Ga(F:A0):OS (Int×Int×Bool):=(BR N F).bind λl=>(E8 (λ(b:Bool×Int×Int) (k:A0)=>((C4 O3 k.Op).bind λh=>((if h.eE then some (an b.1 (cmp .eql k.Var b.2.2),ar .add .i64 b.2.2 1)else some (b.1,b.2.2)):OS ((Bool×Int))).bind λa=>if h.scope then some (.inl (an a.1 (cmp .eql k.dZ b.2.1),ar .add .i64 b.2.1 1,a.2))else some (.inl (a.1,b.2.1,a.2)):OS ((Bool×Int×Int)⊕(Unit)))) l (true,0,0)).bind λi=>match i with
 | .inl e=>some (e.2.2,e.2.1,e.1)
 | .inr _=>none
def Et(F:A0):OS Int:=(IU N F).bind λa=>if cmp .neq a 0 then some a else(Ga N F).bind λb=>if nt b.2.2 then some 14 else some 0
def M0(a:Up A0)(b:A0->OS Bool):OS Int:=(loopN (λ(A:Int)=>(if cmp .lss A (Ar.len a)then(C4 a A).bind λh=>(b h).bind λe=>if e then some (.inr (.inr A))else some (.inl (ar .add .i64 A 1))else some (.inr (.inl ())):OS ((Int)⊕(Unit⊕Int)))) N 0).bind λs=>match s with
 | .inl k=>some (-1)
 | .inr i=>some i
def O4(a:Up A0) (b:Up A0) (e:A0->A0->OS Bool):OS Bool:=if cmp .neq (Ar.len a) (Ar.len b)then some false else(loopN (λ(A:Int)=>(if cmp .lss A (Ar.len a)then(C4 a A).bind λi=>(C4 b A).bind λx5=>(e i x5).bind λh=>if nt h then some (.inr (.inr ()))else some (.inl (ar .add .i64 A 1))else some (.inr (.inl ())):OS ((Int)⊕(Unit⊕Unit)))) N 0).bind λs=>match s with
  | .inl k=>some true
  | .inr l=>some false
def CK (N:Nat):Nat->A0->A0->OS Bool
 |0,_,_=>none
 |n+1,a,b=>if Ar.or (Ar.or (Ar.or (Ar.or (cmp .neq a.Op b.Op) (cmp .neq a.Typ b.Typ)) (cmp .neq a.Var b.Var)) (cmp .neq a.dZ b.dZ)) (cmp .neq a.Span b.Span)then some false else(Bg N N a.dU b.dU).bind λe=>if nt e then some false else(O4 N a.dT b.dT (λi k=>CK N n i k)).bind λh=>some h
def Ee(b:A0)(a:A0):OS Bool:=(CK N N a b).bind λe=>some e
def P3(a:Up A0)(F:A0):OS Int:=(M0 N a (λe=>Ee N e F)).bind λb=>some b
def Ed (N:Nat)(a:A0):OS (Up (C5×A7)):=((I1 (some ([((⟨0,0,a.Var,a.Typ,a.dU,[],[],[],[],[]⟩:C5),(⟨true,(⟨0,[],0,0,0,0,(⟨0,[],0,0,0,(⟨0,0,⟨#[]⟩⟩:B2)⟩:A8)⟩:A0)⟩:A7))],())) λ_=>some ([],())):OS (Up (C5×A7)×Unit)).bind λq=>some q.1
def S6 (N:Nat)(a:Up A0):OS (Up A0):=(K2 [] a).bind λl=>some l
def V7 (N:Nat)(a:Up A0)(e:Int)(b:Up A0):OS (Up A0):=(Tb a e b).bind λl=>some l
def Cu (N:Nat)(b:Int)(a:Up A0):OS A0:=if cmp .eql (Ar.len a) 1 then(C4 a 0).bind λe=>some e else some (⟨b,a,0,0,0,0,(⟨0,[],0,0,0,(⟨0,0,⟨#[]⟩⟩:B2)⟩:A8)⟩:A0)
def CP(a:A7)(h:Up A0):OS A7:=(S6 N h).bind λb=>((if nt a.done then(V7 N b 0 ([a.p])).bind λi=>some i else some b):OS (((Up A0)))).bind λe=>if cmp .eql (Ar.len e) 0 then some (⟨true,(⟨0,[],0,0,0,0,(⟨0,[],0,0,0,(⟨0,0,⟨#[]⟩⟩:B2)⟩:A8)⟩:A0)⟩:A7)else(Cu N 1 e).bind λk=>some (⟨false,k⟩:A7)
def V9 (N:Nat)(a:Up A0)(b e:Int):OS (Up A0):=(Tw a b e).bind λl=>some l
def EF(h:Up A0)(a:Int)(e:A7):OS A7:=(S6 N h).bind λb=>if e.done then(V9 N b a (ar .add .i64 a 1)).bind λi=>(Cu N 3 i).bind λl=>some (⟨false,l⟩:A7)else(IS (OB b a)).bind λ_=>(Ex b a (λr:A0=>e.p)).bind λk=>(Cu N 3 k).bind λn=>some (⟨false,n⟩:A7)
def sym (N:Nat)(a:Up A8)(b:Int):OS (Up A8):=Tg a b
def AJ(b:Up (Up A8)):OS (Up A8):=(loopN (λ(A:Int×Int)=>(if cmp .lss A.2 (Ar.len b)then(C4 b A.2).bind λh=>if cmp .lss (ar .add .i64 A.1 (Ar.len h)) 0 then none else some (.inl (ar .add .i64 A.1 (Ar.len h),ar .add .i64 A.2 1))else some (.inr A.1):OS ((Int×Int)⊕(Int)))) N (0,0)).bind λs=>(sym N [] s).bind λi=>(loopN (λ(a:Int×(Up A8))=>(if cmp .lss a.1 (Ar.len b)then(C4 b a.1).bind λl=>(K2 a.2 l).bind λe=>some (.inl (ar .add .i64 a.1 1,e))else some (.inr a.2):OS ((Int×(Up A8))⊕(((Up A8)))))) N (0,i)).bind λk=>some k
def xdB (N:Nat)(a:Up Int)(b:Int):OS (Up Int):=Tg a b
def Z9(b:Up (Up Int)):OS (Up Int):=(loopN (λ(A:Int×Int)=>(if cmp .lss A.2 (Ar.len b)then(C4 b A.2).bind λh=>if cmp .lss (ar .add .i64 A.1 (Ar.len h)) 0 then none else some (.inl (ar .add .i64 A.1 (Ar.len h),ar .add .i64 A.2 1))else some (.inr A.1):OS ((Int×Int)⊕(Int)))) N (0,0)).bind λs=>(xdB N [] s).bind λi=>(loopN (λ(a:Int×(Up Int))=>(if cmp .lss a.1 (Ar.len b)then(C4 b a.1).bind λl=>(K2 a.2 l).bind λe=>some (.inl (ar .add .i64 a.1 1,e))else some (.inr a.2):OS ((Int×(Up Int))⊕(((Up Int)))))) N (0,i)).bind λk=>some k
def zax (N:Nat)(a:Up Cq)(b:Int):OS (Up Cq):=Tg a b
def BZ(b:Up (Up Cq)):OS (Up Cq):=(loopN (λ(A:Int×Int)=>(if cmp .lss A.2 (Ar.len b)then(C4 b A.2).bind λh=>if cmp .lss (ar .add .i64 A.1 (Ar.len h)) 0 then none else some (.inl (ar .add .i64 A.1 (Ar.len h),ar .add .i64 A.2 1))else some (.inr A.1):OS ((Int×Int)⊕(Int)))) N (0,0)).bind λs=>(zax N [] s).bind λi=>(loopN (λ(a:Int×(Up Cq))=>(if cmp .lss a.1 (Ar.len b)then(C4 b a.1).bind λl=>(K2 a.2 l).bind λe=>some (.inl (ar .add .i64 a.1 1,e))else some (.inr a.2):OS ((Int×(Up Cq))⊕(((Up Cq)))))) N (0,i)).bind λk=>some k
def Ah(F:A0)(b:C5)(h:Bool)(i:Bool):OS C5:=((if i then(Z9 N ([[F.dZ],b.eL])).bind λk=>some ({b with eL:=k})else some b):OS (C5)).bind λa=>((if Ar.or (cmp .eql F.Op 5) (cmp .eql F.Op 9)then(Z9 N ([[F.dZ],a.eM])).bind λl=>some ({a with eM:=l})else(BZ N ([[(⟨F.dZ,F.Span⟩:Cq)],a.eO])).bind λn=>some ({a with eO:=n})):OS (C5)).bind λe=>if h then(Z9 N ([e.eN,[F.dZ]])).bind λr=>some ({e with eN:=r})else some e
def CO (N:Nat)(F:A0)(a:Int)(b:A0):OS A0:=some ({F with Op:=a,dT:=[b]})
mutual
def M8 (N:Nat):Nat->A0->OS (Up (C5×A7))
 |0,_=>none
 |n+1,F=>if cmp .eql F.Op 0 then Ed N F else((if cmp .eql F.Op 1 then some true else if cmp .eql F.Op 2 then some true else some (cmp .eql F.Op 3)):OS (Bool)).bind λA=>if A then(Bw N n F).bind λe=>some e else if cmp .eql F.Op 4 then(C4 F.dT 0).bind λk=>(X0 N n k F).bind λh=>some h else if cmp .eql F.Op 8 then(C4 F.dT 0).bind λl=>(Dc F.dT (some 1) (some 2) (some 2)).bind λb=>(X0 N n l (⟨4,b,0,0,0,0,(⟨0,[],0,0,0,(⟨0,0,⟨#[]⟩⟩:B2)⟩:A8)⟩:A0)).bind λi=>some i else(DD N n F).bind λa=>some a
def Bw (N:Nat):Nat->A0->OS (Up (C5×A7))
 |0,_=>none
 |n+1,F=>AA N n F
def X0 (N:Nat):Nat->A0->A0->OS (Up (C5×A7))
 |0,_,_=>none
 |n+1,a,b=>X6 N n a b
def DD (N:Nat):Nat->A0->OS (Up (C5×A7))
 |0,_=>none
 |n+1,F=>Cg N n F
def AA (N:Nat):Nat->A0->OS (Up (C5×A7))
 |0,_=>none
 | n + 1,b=>((I1 (R7 (λ(s:Int)=>(if cmp .lss s (Ar.len b.dT)then(C4 b.dT s).bind λw=>if an (cmp .eql b.Op 1) (cmp .gtr s 0)then some ([],.inr (.inr ()))else(M8 N n w).bind λi=>I1 (Ca (λ(_:Unit) (a:(C5×A7))=>(I1 ((if cmp .eql b.Op 1 then(Dc b.dT (some 1) none none).bind λe=>(CP N a.2 e).bind λk=>some ([],k)else if cmp .eql b.Op 3 then(EF N b.dT s a.2).bind λl=>some ([],l)else some ([],a.2)):OS (Up (C5×A7)×(A7))) λr=>I1 (some ([(a.1,r)],())) λ_=>some ([],.inl ()):OS (Up (C5×A7)×(Unit⊕Unit)))) i ()) λh=>match h with
        | .inl _=>some ([],.inl (ar .add .i64 s 1))
        | .inr _=>none else some ([],.inr (.inl ())):OS (Up (C5×A7)×((Int)⊕(Unit⊕Unit))))) N 0) λv=>match v with
   | .inl x=>some ([],())
   | .inr y=>some ([],())):OS (Up (C5×A7)×Unit)).bind λq=>some q.1
def X6 (N:Nat):Nat->A0->A0->OS (Up (C5×A7))
 |0,_,_=>none
 | n+1,i,h=>(((M8 N n i).bind λk=>I1 (Ca (λ(_:Unit) (a:(C5×A7))=>(if nt a.2.done then(C4 h.dT 0).bind λe=>I1 (some ([(a.1,(⟨false,(⟨8,[a.2.p,e],0,0,0,0,(⟨0,[],0,0,0,(⟨0,0,⟨#[]⟩⟩:B2)⟩:A8)⟩:A0)⟩:A7))],())) λ_=>some ([],.inl ())else I1 (some ([(a.1,a.2)],())) λ_=>I1 (some ([(a.1,(⟨false,h⟩:A7))],())) λ_=>some ([],.inl ()):OS (Up (C5×A7)×(Unit⊕Unit)))) k ()) λb=>match b with
   | .inl _=>some ([],())
   | .inr _=>none):OS (Up (C5×A7)×Unit)).bind λq=>some q.1
def Cg (N:Nat):Nat->A0->OS (Up (C5×A7))
 |0,_=>none
 | n+1,a=>(((C4 a.dT 0).bind λy=>(M8 N n y).bind λx=>I1 (Ca (λ(_:Unit) (b:(C5×A7))=>(I1 ((if cmp .eql a.Op 7 then if b.2.done then(AJ N ([b.1.eI,[a.dU]])).bind λi=>some ([],(a.Op,{b.1 with eI:=i}))else some ([],(a.Op,b.1))else I1 ((if cmp .eql a.Op 5 then some ([],true)else some ([],cmp .eql a.Op 9)):OS (Up (C5×A7)×(Bool))) λv=>if v then(Ah N a b.1 b.2.done (cmp .eql a.Op 5)).bind λk=>some ([],(9,k))else(Ah N a b.1 b.2.done (cmp .eql a.Op 6)).bind λl=>some ([],(10,l))):OS (Up (C5×A7)×((Int×C5)))) λe=>I1 ((if nt b.2.done then(CO N a e.1 b.2.p).bind λr=>some ([],{b.2 with p:=r})else some ([],b.2)):OS (Up (C5×A7)×(A7))) λw=>I1 (some ([(e.2,w)],())) λ_=>some ([],.inl ()):OS (Up (C5×A7)×(Unit⊕Unit)))) x ()) λh=>match h with
   | .inl _=>some ([],())
   | .inr _=>none):OS (Up (C5×A7)×Unit)).bind λq=>some q.1
end
def Z0(a:Up C5)(b:C5->OS Bool):OS Int:=(loopN (λ(A:Int)=>(if cmp .lss A (Ar.len a)then(C4 a A).bind λh=>(b h).bind λe=>if e then some (.inr (.inr A))else some (.inl (ar .add .i64 A 1))else some (.inr (.inl ())):OS ((Int)⊕(Unit⊕Int)))) N 0).bind λs=>match s with
 | .inl k=>some (-1)
 | .inr i=>some i
def G4(a:Up C5)(b:C5->OS Bool):OS Bool:=(Z0 N a b).bind λe=>some (cmp .geq e 0)
def X4(a:Up Int) (b:Up Int):OS Bool:=if cmp .neq (Ar.len a) (Ar.len b)then some false else(loopN (λ(A:Int)=>(if cmp .lss A (Ar.len a)then(C4 a A).bind λe=>(C4 b A).bind λh=>if cmp .neq e h then some (.inr (.inr ()))else some (.inl (ar .add .i64 A 1))else some (.inr (.inl ())):OS ((Int)⊕(Unit⊕Unit)))) N 0).bind λs=>match s with
  | .inl i=>some true
  | .inr k=>some false
def P5(a:Up A8) (b:Up A8) (e:A8->A8->OS Bool):OS Bool:=if cmp .neq (Ar.len a) (Ar.len b)then some false else(loopN (λ(A:Int)=>(if cmp .lss A (Ar.len a)then(C4 a A).bind λi=>(C4 b A).bind λx5=>(e i x5).bind λh=>if nt h then some (.inr (.inr ()))else some (.inl (ar .add .i64 A 1))else some (.inr (.inl ())):OS ((Int)⊕(Unit⊕Unit)))) N 0).bind λs=>match s with
  | .inl k=>some true
  | .inr l=>some false
def Aq(a:Up Cq) (b:Up Cq):OS Bool:=if cmp .neq (Ar.len a) (Ar.len b)then some false else(loopN (λ(A:Int)=>(if cmp .lss A (Ar.len a)then(C4 a A).bind λe=>(C4 b A).bind λh=>if nt (an (cmp .eql e.dZ h.dZ) (an (cmp .eql e.Span h.Span) true))then some (.inr (.inr ()))else some (.inl (ar .add .i64 A 1))else some (.inr (.inl ())):OS ((Int)⊕(Unit⊕Unit)))) N 0).bind λs=>match s with
  | .inl i=>some true
  | .inr k=>some false
def Dl(a:C5)(b:C5):OS Bool:=if an (cmp .eql a.Var b.Var) (cmp .eql a.Typ b.Typ)then(Bg N N a.dU b.dU).bind λe=>if e then(X4 N a.eL b.eL).bind λh=>if h then(X4 N a.eN b.eN).bind λi=>if i then(P5 N a.eI b.eI (λr v=>Bg N N r v)).bind λk=>if k then(Aq N a.eO b.eO).bind λl=>if l then(X4 N a.eM b.eM).bind λn=>some n else some false else some false else some false else some false else some false else some false
def J4(b:C5)(a:C5):OS Bool:=if cmp .eql a.To b.To then(Dl N a b).bind λe=>some e else some false
def Q3(F:A0):OS ((Up C5)×(Up A0)×Int):=(M8 N N F).bind λH=>(E8 (λ(b:(Up A0)×(Up C5)) (e:(C5×A7))=>(((if nt e.2.done then(P3 N b.1 e.2.p).bind λi=>if cmp .lss i 0 then(N8 N e.2.p).bind λr=>if cmp .neq r 0 then some (.inr ({e.1 with To:=i},17))else(K2 b.1 ([e.2.p])).bind λl=>some (.inl ({e.1 with To:=Ar.len b.1},l))else some (.inl ({e.1 with To:=i},b.1))else some (.inl ({e.1 with To:=(-1)},b.1))):OS ((C5×(Up A0))⊕(C5×Int))).bind λw=>match w with
   | .inl a=>(G4 N b.2 (λK=>J4 N K a.1)).bind λv=>if v then some (.inl (a.2,b.2))else(K2 b.2 ([a.1])).bind λh=>if cmp .gtr (Ar.len h) 2048 then some (.inr (a.2,h,17))else some (.inl (a.2,h))
   | .inr x=>some (.inr (b.1,b.2,x.2)):OS (((Up A0)×(Up C5))⊕(((Up A0)×(Up C5)×Int))))) H ([],[])).bind λn=>match n with
 | .inl k=>some (k.2,k.1,0)
 | .inr y=>some ([],[],y.2.2)
def Y9(F:A0):OS ((Up A0)×Int):=(Et N F).bind λn=>if cmp .neq n 0 then some ([],n)else(loopN (λ(s:(Up A0)×Int)=>(if cmp .lss s.2 (Ar.len s.1)then(C4 s.1 s.2).bind λx5=>(Q3 N x5).bind λe=>if cmp .neq e.2.2 0 then some (.inr (.inr e.2.2))else(loopN (λ(a:(Up A0)×Int)=>(if cmp .lss a.2 (Ar.len e.2.1)then(C4 e.2.1 a.2).bind λb=>(P3 N a.1 b).bind λi=>if cmp .lss i 0 then(K2 a.1 ([b])).bind λh=>some (.inl (h,ar .add .i64 a.2 1))else some (.inl (a.1,ar .add .i64 a.2 1))else some (.inr a.1):OS (((Up A0)×Int)⊕(((Up A0)))))) N (s.1,0)).bind λr=>if cmp .gtr (Ar.len r) 256 then some (.inr (.inr 17))else some (.inl (r,ar .add .i64 s.2 1))else some (.inr (.inl s.1)):OS (((Up A0)×Int)⊕(((Up A0))⊕Int)))) N ([F],0)).bind λv=>match v with
  | .inl k=>some (k,0)
  | .inr l=>some ([],l)
def IV(F:A0):OS (Int×Int×Int):=(Et N F).bind λa=>if cmp .neq a 0 then some (0,0,a)else(Ga N F).bind λb=>some (b.1,b.2.1,0)
def CQ(F:A0):OS ((Up C5)×(Up A0)×Int):=(N8 N F).bind λb=>if cmp .neq b 0 then some ([],[],b)else(Q3 N F).bind λa=>some (a.1,a.2.1,a.2.2)
def HY(b:A0)(a:A0):OS Bool:=(CK N N b a).bind λe=>some e
def HZ(a:Up A0)(F:A0):OS Int:=(M0 N a (λe=>HY N e F)).bind λb=>some b
def AW(F:A0):OS ((Up C5)×(Up A0)×Int):=(M8 N N F).bind λK=>(E8 (λ(a:(Up A0)×(Up C5)) (b:(C5×A7))=>(((if nt b.2.done then(P3 N a.1 b.2.p).bind λi=>if cmp .lss i 0 then(N8 N b.2.p).bind λv=>if cmp .neq v 0 then some (.inr ({b.1 with To:=i},17,[]))else(K2 a.1 ([b.2.p])).bind λn=>some (.inl ({b.1 with To:=Ar.len a.1},n))else some (.inl ({b.1 with To:=i},a.1))else some (.inl ({b.1 with To:=(-1)},a.1))):OS ((C5×(Up A0))⊕(C5×Int×(Up C5)))).bind λx=>match x with
   | .inl e=>(G4 N a.2 (λP=>J4 N P e.1)).bind λw=>if w then some (.inl (e.2,a.2))else(K2 a.2 ([e.1])).bind λh=>if cmp .gtr (Ar.len h) 2048 then some (.inr (e.2,h,17,[]))else some (.inl (e.2,h))
   | .inr H=>some (.inr (a.1,a.2,H.2.1,[])):OS (((Up A0)×(Up C5))⊕(((Up A0)×(Up C5)×Int×(Up C5)))))) K ([],[])).bind λr=>match r with
 | .inl k=>((some k.1):OS (((Up A0)))).bind λy=>some (k.2,y,0)
 | .inr l=>some ([],[],l.2.2.1)
def Bx(F:A0):OS ((Up C5)×(Up A0)×Int):=(N8 N F).bind λb=>if cmp .neq b 0 then some (([]:Up C5),[],b)else(AW N F).bind λa=>some (a.1,a.2.1,a.2.2)
def FK(e:Up A0):OS (Up (Int×(Up C5))):=((I1 (R7 (λ(A:Int)=>(if cmp .lss A (Ar.len e)then(C4 e A).bind λy=>(Bx N y).bind λi=>I1 (R7 (λ(a:Int×(Up C5))=>(if cmp .lss a.1 (Ar.len i.1)then(IS (OB a.2 a.1)).bind λ_=>(Ex a.2 a.1 (λn:C5=>{n with eA:=A})).bind λb=>(C4 b a.1).bind λr=>if cmp .geq r.To 0 then(C4 b a.1).bind λv=>(C4 i.2.1 v.To).bind λw=>(HZ N e w).bind λk=>(Ex b a.1 (λx:C5=>{x with To:=k})).bind λh=>some ([],.inl (ar .add .i64 a.1 1,h))else some ([],.inl (ar .add .i64 a.1 1,b))else some ([],.inr a.2):OS (Up (Int×(Up C5))×((Int×(Up C5))⊕(((Up C5))))))) N (0,i.1)) λl=>I1 (some ([(A,l)],())) λ_=>some ([],.inl (ar .add .i64 A 1))else some ([],.inr ()):OS (Up (Int×(Up C5))×((Int)⊕(Unit))))) N 0) λH=>some ([],())):OS (Up (Int×(Up C5))×Unit)).bind λq=>some q.1
def Fm(a:Up A0):OS (Up (Int×(Up C5))):=FK N a
def N9 (N:Nat):Nat->A0->OS (Up Ck)
 |0,_=>none
 |n+1,F=>((if cmp .eql F.Op 1 then some true else some (cmp .eql F.Op 8)):OS (Bool)).bind λA=>if A then(C4 F.dT 0).bind λH=>(N9 N n H).bind λw=>some w else if cmp .eql F.Op 3 then(loopN (λ(a:(Up Ck)×Int)=>(if cmp .lss a.2 (Ar.len F.dT)then(C4 F.dT a.2).bind λK=>(N9 N n K).bind λx=>(K2 a.1 x).bind λb=>some (.inl (b,ar .add .i64 a.2 1))else some (.inr a.1):OS (((Up Ck)×Int)⊕(((Up Ck)))))) N ([],0)).bind λy=>some y else if cmp .eql F.Op 9 then(K2 ([]) ([(⟨F.dZ,F.Typ,F.Var,F.dU⟩:Ck)])).bind λe=>(C4 F.dT 0).bind λr=>(N9 N n r).bind λi=>(K2 e i).bind λh=>some h else((if cmp .eql F.Op 10 then some true else some (cmp .eql F.Op 7)):OS (Bool)).bind λl=>if l then(C4 F.dT 0).bind λv=>(N9 N n v).bind λk=>some k else some ([])
def Bh(F:A0):OS ((Up Ck)×Int):=(N8 N F).bind λa=>if cmp .neq a 0 then some ([],a)else(N9 N N F).bind λb=>some (b,0)
def FL(F:A0):OS (K6×(Up A0)×Int):=(Y9 N F).bind λk=>if cmp .neq k.2 0 then some ((⟨0,0,[],[]⟩:K6),[],k.2)else(IV N F).bind λn=>if cmp .neq n.2.2 0 then some ((⟨0,0,[],[]⟩:K6),[],n.2.2)else(Fm N k.1).bind λy=>(E8 (λ(a:K6) (x:(Int×(Up C5)))=>((C4 k.1 x.1).bind λw=>(Bh N w).bind λe=>if cmp .neq e.2 0 then some (.inr (a,e.2))else(((K2 a.eH ([(⟨e.1⟩:Oj)])).bind λh=>(K2 a.eG x.2).bind λi=>some ({a with eH:=h,eG:=i})):OS (K6)).bind λv=>some (.inl v):OS ((K6)⊕((K6×Int))))) y (⟨n.1,n.2.1,[],[]⟩:K6)).bind λr=>match r with
   | .inl b=>if cmp .gtr (Ar.len b.eG) 2048 then some ((⟨0,0,[],[]⟩:K6),[],17)else some (b,k.1,0)
   | .inr l=>some ((⟨0,0,[],[]⟩:K6),[],l.2)
def Gu(F:A0):OS (K6×Int):=(FL N F).bind λa=>some (a.1,a.2.2)
def Q9(a:Up A0)(b:A0->OS Bool):OS Bool:=(M0 N a b).bind λe=>some (cmp .geq e 0)
mutual
def AN (N:Nat):Nat->A0->OS Bool
 |0,_=>none
 |n+1,F=>((if cmp .eql F.Op 0 then some true else if cmp .eql F.Op 1 then some true else if cmp .eql F.Op 2 then some true else if cmp .eql F.Op 3 then some true else some (cmp .eql F.Op 4)):OS (Bool)).bind λA=>if A then(Q9 N F.dT (λb=>BP N n b)).bind λa=>some (nt a)else some false
def BP (N:Nat):Nat->A0->OS Bool
 |0,_=>none
 |n+1,a=>(AN N n a).bind λb=>some (nt b)
end
def AQ(a:Up Y5)(b:Y5->OS Bool):OS Int:=(loopN (λ(A:Int)=>(if cmp .lss A (Ar.len a)then(C4 a A).bind λh=>(b h).bind λe=>if e then some (.inr (.inr A))else some (.inl (ar .add .i64 A 1))else some (.inr (.inl ())):OS ((Int)⊕(Unit⊕Int)))) N 0).bind λs=>match s with
 | .inl k=>some (-1)
 | .inr i=>some i
def Di (N:Nat)(a:Y5):OS Bool:=some (cmp .eql a.Kind 0)
def CH(a:F6):OS Int:=(AQ N a.Fields (λe=>Di N e)).bind λb=>some b
def Gs(e:JJ)(a:A8):OS (Int×Int):=if cmp .eql a.Op 0 then some (a.Value.Kind,0)else if cmp .geq a.Var (Ar.len e.vars)then some (0,6)else if Ar.or (cmp .eql a.Op 2) (cmp .eql a.Op 3)then some (0,0)else(C4 e.vars a.Var).bind λk=>(C4 e.types k.Typ).bind λh=>if cmp .geq a.Field (Ar.len h.Fields)then some (0,6)else(C4 h.Fields a.Field).bind λb=>if cmp .eql a.Op 4 then if cmp .neq b.Kind a.Value.Kind then some (0,9)else(Lj N a.Kind (⟨b.Kind,0,⟨#[]⟩⟩:B2)).bind λi=>if nt i then some (0,9)else some (b.Kind,0)else some (b.Kind,0)
def Eu(a:Int)(b:Up Int):OS Int:=(loopN (λ(A:Int)=>(if cmp .lss A (Ar.len b)then(C4 b A).bind λe=>((if cmp .eql a 5 then some true else if cmp .eql a 6 then some true else if cmp .eql a 7 then some true else some (cmp .eql a 8)):OS (Bool)).bind λh=>if h then if nt (cmp .eql e 0)then some (.inr (.inr ()))else some (.inl (ar .add .i64 A 1))else((if cmp .eql a 10 then some true else if cmp .eql a 11 then some true else some (cmp .eql a 12)):OS (Bool)).bind λi=>if i then if nt (cmp .eql e 1)then some (.inr (.inr ()))else some (.inl (ar .add .i64 A 1))else if cmp .eql a 9 then(C4 b 0).bind λk=>if nt (cmp .eql e k)then some (.inr (.inr ()))else some (.inl (ar .add .i64 A 1))else some (.inl (ar .add .i64 A 1))else some (.inr (.inl ())):OS ((Int)⊕(Unit⊕Unit)))) N 0).bind λs=>match s with
 | .inl l=>some 0
 | .inr n=>some 9
def An (N:Nat):Nat->JJ->A8->OS (Int×Int)
 |0,_,_=>none
 | n+1,i,a=>if cmp .eql (Ar.len a.dT) 0 then(Gs N i a).bind λk=>some (k.1,k.2)else(loopN (λ(s:(Up Int)×Int)=>(if cmp .lss s.2 (Ar.len a.dT)then(C4 a.dT s.2).bind λx5=>(An N n i x5).bind λe=>if cmp .neq e.2 0 then some (.inr (.inr e.2))else(K2 s.1 ([e.1])).bind λl=>some (.inl (l,ar .add .i64 s.2 1))else some (.inr (.inl s.1)):OS (((Up Int)×Int)⊕(((Up Int))⊕Int)))) N ([],0)).bind λr=>match r with
   | .inl v=>(Eu N a.Op v).bind λb=>if cmp .neq b 0 then some (0,b)else if Ar.or (cmp .eql a.Op 5) (cmp .eql a.Op 6)then some (0,0)else some (1,0)
   | .inr h=>some (0,h)
def QO(b:Up F6) (a:Up R9) (e:A8):OS (Int×Int):=(Bq N b).bind λh=>if cmp .neq h 0 then some (0,h)else if cmp .gtr (Ar.len a) 16 then some (0,5)else(loopN (λ(s:Int)=>(if cmp .lss s (Ar.len a)then(C4 a s).bind λl=>if Ar.or (cmp .lss l.Typ 0) (cmp .geq l.Typ (Ar.len b))then some (.inr (.inr ()))else some (.inl (ar .add .i64 s 1))else some (.inr (.inl ())):OS ((Int)⊕(Unit⊕Unit)))) N 0).bind λn=>match n with
   | .inl r=>(IE N e).bind λi=>if cmp .neq i 0 then some (0,i)else(An N N (⟨b,a⟩:JJ) e).bind λk=>some (k.1,k.2)
   | .inr v=>some (0,6)
def YQ (N:Nat)(a:Int)(b:Int):OS (Int×Int):=some (ar .add .u64 (ar .add .u64 (ar .mul .u64 (sh .shr .u64 a 32) (sh .shr .u64 b 32)) (sh .shr .u64 (ar .add .u64 (ar .mul .u64 (sh .shr .u64 a 32) (ar .and .u64 b 4294967295)) (sh .shr .u64 (ar .mul .u64 (ar .and .u64 a 4294967295) (ar .and .u64 b 4294967295)) 32)) 32)) (sh .shr .u64 (ar .add .u64 (ar .and .u64 (ar .add .u64 (ar .mul .u64 (sh .shr .u64 a 32) (ar .and .u64 b 4294967295)) (sh .shr .u64 (ar .mul .u64 (ar .and .u64 a 4294967295) (ar .and .u64 b 4294967295)) 32)) 4294967295) (ar .mul .u64 (ar .and .u64 a 4294967295) (sh .shr .u64 b 32))) 32),ar .mul .u64 a b)
def AD3(b:Int)(e:Int):OS (Int×Int):=(YQ N b e).bind λa=>some (a.1,a.2)
def Z8(k:Up R9)(l:Int):OS (Up R9):=((if cmp .lss l 0 then none else some ()):OS (Unit)).bind λA=>(AD3 N (wr .u64 (Ar.len k)) (wr .u64 l)).bind λi=>((if Ar.or (cmp .gtr i.1 0) (cmp .gtr i.2 9223372036854775807)then none else some ()):OS (Unit)).bind λx=>(YZ (wr .i64 i.2) (wr .i64 i.2) ((⟨⟨#[]⟩,0⟩:R9):R9)).bind λv=>(AC0 v 0 k).bind λr=>(loopN (λ(a:Int×(Up R9))=>(if cmp .lss a.1 (Ar.len a.2)then(((Dc a.2 (some a.1) none none).bind λn=>(Dc a.2 none (some a.1) none).bind λe=>(AC0 a.2 a.1 e).bind λb=>some (ar .add .i64 a.1 b.2,b.1)):OS ((Int×(Up R9)))).bind λh=>some (.inl (h.1,h.2))else some (.inr a.2):OS ((Int×(Up R9))⊕(((Up R9)))))) N (r.2,r.1)).bind λw=>some w
def Eg (N:Nat):OS (Up A6):=some ([(⟨(-1099511627776),1099511627776⟩:A6)])
def Y6 (N:Nat):Nat->A8->Int->Int->OS (L8×Bool)
 |0,_,_,_=>none
 |n+1,a,h,e=>if cmp .eql a.Op 0 then some ((⟨0,a.Value.Num⟩:L8),cmp .eql a.Value.Kind 0)else if cmp .eql a.Op 1 then some ((⟨1,0⟩:L8),an (cmp .eql a.Var e) (cmp .eql a.Field h))else((if cmp .eql a.Op 5 then some true else some (cmp .eql a.Op 6)):OS (Bool)).bind λs=>if s then(C4 a.dT 0).bind λl=>(Y6 N n l h e).bind λi=>(C4 a.dT 1).bind λx5=>(Y6 N n x5 h e).bind λb=>((if cmp .eql a.Op 6 then some (⟨neg .i64 b.1.times,neg .i64 b.1.plus⟩:L8)else some b.1):OS (L8)).bind λk=>some ((⟨ar .add .i64 i.1.times k.times,ar .add .i64 i.1.plus k.plus⟩:L8),an i.2 b.2)else some ((⟨0,0⟩:L8),false)
def Dw (N:Nat)(a:Up A6):OS ((Up A6)×Int):=if cmp .gtr (Ar.len a) 256 then some ([],5)else some (a,0)
def Gq (N:Nat)(a:A6):OS Int:=if Ar.or (Ar.or (Ar.or (cmp .lss a.Low (-1099511627776)) (cmp .gtr a.Low 1099511627776)) (cmp .lss a.dV (-1099511627776))) (cmp .gtr a.dV 1099511627776)then some 2 else if cmp .gtr a.Low a.dV then some 3 else some 0
def AU(a:Up A6):OS Int:=if cmp .gtr (Ar.len a) 256 then some 5 else(loopN (λ(A:Int)=>(if cmp .lss A (Ar.len a)then(C4 a A).bind λe=>(Gq N e).bind λb=>if cmp .neq b 0 then some (.inr (.inr b))else if cmp .gtr A 0 then(C4 a (ar .sub .i64 A 1)).bind λh=>if cmp .lss e.Low (ar .add .i64 h.dV 2)then some (.inr (.inr 14))else some (.inl (ar .add .i64 A 1))else some (.inl (ar .add .i64 A 1))else some (.inr (.inl ())):OS ((Int)⊕(Unit⊕Int)))) N 0).bind λs=>match s with
  | .inl k=>some 0
  | .inr i=>some i
def MR(b:Up A6)(e:Up A6):OS Int:=(AU N b).bind λa=>if cmp .neq a 0 then some a else(AU N e).bind λh=>some h
def Q1(a:Up A6)(e:Int)(b:A6->Int->OS Int):OS (Int×Bool):=(loopN (λ(A:Int×Int)=>(if cmp .lss A.1 A.2 then(C4 a (wr .i64 (sh .shr .u64 (wr .u64 (ar .add .i64 A.1 A.2)) 1))).bind λk=>(b k e).bind λh=>if cmp .lss h 0 then some (.inl (ar .add .i64 (wr .i64 (sh .shr .u64 (wr .u64 (ar .add .i64 A.1 A.2)) 1)) 1,A.2))else some (.inl (A.1,wr .i64 (sh .shr .u64 (wr .u64 (ar .add .i64 A.1 A.2)) 1)))else some (.inr A.1):OS ((Int×Int)⊕(Int)))) N (0,Ar.len a)).bind λs=>if cmp .lss s (Ar.len a)then(C4 a s).bind λx5=>(b x5 e).bind λi=>some (s,cmp .eql i 0)else some (s,false)
def Dx (N:Nat)(a:A6)(b:Int):OS Int:=if cmp .lss a.dV b then some (-1)else if cmp .gtr a.Low b then some 1 else some 0
def CL(a:Up A6)(b:Int):OS Bool:=(Q1 N a b (λh i=>Dx N h i)).bind λe=>some e.2
def V8 (N:Nat)(a:Up A6)(b:Int):OS (Up A6):=Tg a b
def U6(b:Up (Up A6)):OS (Up A6):=(loopN (λ(A:Int×Int)=>(if cmp .lss A.2 (Ar.len b)then(C4 b A.2).bind λh=>if cmp .lss (ar .add .i64 A.1 (Ar.len h)) 0 then none else some (.inl (ar .add .i64 A.1 (Ar.len h),ar .add .i64 A.2 1))else some (.inr A.1):OS ((Int×Int)⊕(Int)))) N (0,0)).bind λs=>(V8 N [] s).bind λi=>(loopN (λ(a:Int×(Up A6))=>(if cmp .lss a.1 (Ar.len b)then(C4 b a.1).bind λl=>(K2 a.2 l).bind λe=>some (.inl (ar .add .i64 a.1 1,e))else some (.inr a.2):OS ((Int×(Up A6))⊕(((Up A6)))))) N (0,i)).bind λk=>some k
def Jb (N:Nat)(a:Int):OS Bool:=some (cmp .neq a a)
def EZ (N:Nat)(a:Up Int):OS (Up Int):=Vp a
def Ds (N:Nat)(a:Up Int):OS (Up Int):=Qp a
def Ge (N:Nat)(a:Up A6)(b:A6):OS (Up A6):=if cmp .gtr (Ar.len a) 0 then(IS (OB a (ar .sub .i64 (Ar.len a) 1))).bind λ_=>(C4 a (ar .sub .i64 (Ar.len a) 1)).bind λk=>if cmp .leq b.Low (ar .add .i64 k.dV 1)then(IS (OB a (ar .sub .i64 (Ar.len a) 1))).bind λ_=>(C4 a (ar .sub .i64 (Ar.len a) 1)).bind λl=>(IS (OB a (ar .sub .i64 (Ar.len a) 1))).bind λ_=>(Ex a (ar .sub .i64 (Ar.len a) 1) (λn:A6=>{n with dV:=mx l.dV b.dV})).bind λe=>some e else(K2 a ([b])).bind λh=>some h else(K2 a ([b])).bind λi=>some i
def HD(H:Up A6)(K:Up A6)(c:Bool->Bool->OS Bool):OS (Up A6):=(U6 N ([H,K])).bind λP=>(loopN (λ(e:Int×(Up Int))=>(if cmp .lss e.1 (Ar.len P)then(C4 P e.1).bind λV=>(K2 e.2 ([V.Low,ar .add .i64 V.dV 1])).bind λd=>some (.inl (ar .add .i64 e.1 1,d))else some (.inr e.2):OS ((Int×(Up Int))⊕(((Up Int)))))) N (0,([]:Up Int))).bind λf=>(EZ N f).bind λh=>(Ds N h).bind λb=>(loopN (λ(a:Int×(Up A6))=>(if cmp .lss (ar .add .i64 a.1 1) (Ar.len b)then(IS (OB b a.1)).bind λ_=>(C4 b a.1).bind λv=>(CL N H v).bind λk=>(IS (OB b a.1)).bind λ_=>(C4 b a.1).bind λw=>(CL N K w).bind λl=>(c k l).bind λn=>if n then(IS (OB b a.1)).bind λ_=>(C4 b a.1).bind λx=>(IS (OB b (ar .add .i64 a.1 1))).bind λ_=>(C4 b (ar .add .i64 a.1 1)).bind λy=>(Ge N a.2 (⟨x,ar .sub .i64 y 1⟩:A6)).bind λi=>some (.inl (ar .add .i64 a.1 1,i))else some (.inl (ar .add .i64 a.1 1,a.2))else some (.inr a.2):OS ((Int×(Up A6))⊕(((Up A6)))))) N (0,([]:Up A6))).bind λr=>some r
def BS(a:Up A6)(b:Up A6)(i:Bool->Bool->OS Bool):OS ((Up A6)×Int):=(MR N a b).bind λe=>if cmp .neq e 0 then some ([],e)else(HD N a b i).bind λk=>(Dw N k).bind λh=>some (h.1,h.2)
def CM (N:Nat)(a:Bool)(b:Bool):OS Bool:=some (an a b)
def AI(b:Up A6)(e:Up A6):OS ((Up A6)×Int):=(BS N b e (λh i=>CM N h i)).bind λa=>some (a.1,a.2)
def CI (N:Nat)(a:Int)(b:Int):OS (Up A6):=if cmp .gtr (mx a (-1099511627776)) (mn b 1099511627776)then some ([])else some ([(⟨mx a (-1099511627776),mn b 1099511627776⟩:A6)])
def Fe (N:Nat)(b:Int)(a:Int):OS Int:=(IS (cmp .neq a 0)).bind λ_=>(IS (cmp .neq a 0)).bind λ_=>if cmp .lss (ar .rem .i64 b a) 0 then some (ar .sub .i64 (ar .quo .i64 b a) 1)else some (ar .quo .i64 b a)
def Cb(a:L8):OS (Up A6):=if cmp .gtr a.times 0 then(Fe N (neg .i64 a.plus) a.times).bind λb=>(CI N (-1099511627776) b).bind λe=>some e else if cmp .lss a.times 0 then(Fe N (neg .i64 a.plus) (neg .i64 a.times)).bind λh=>(CI N (neg .i64 h) 1099511627776).bind λi=>some i else if cmp .leq a.plus 0 then(Eg N).bind λk=>some k else some ([])
def Eb(e:Int)(a:L8)(b:L8):OS ((Up A6)×Int):=if cmp .eql e 7 then(Cb N (⟨ar .sub .i64 a.times b.times,ar .add .i64 (ar .sub .i64 a.plus b.plus) 1⟩:L8)).bind λi=>some (i,0)else if cmp .eql e 8 then(Cb N (⟨ar .sub .i64 a.times b.times,ar .sub .i64 a.plus b.plus⟩:L8)).bind λk=>some (k,0)else(Cb N (⟨ar .sub .i64 a.times b.times,ar .sub .i64 a.plus b.plus⟩:L8)).bind λl=>(Cb N (⟨neg .i64 (ar .sub .i64 a.times b.times),neg .i64 (ar .sub .i64 a.plus b.plus)⟩:L8)).bind λn=>(AI N l n).bind λh=>some (h.1,h.2)
def FE (N:Nat)(a:Bool)(b:Bool):OS Bool:=some (Ar.or a b)
def Dy(b:Up A6)(e:Up A6):OS ((Up A6)×Int):=(BS N b e (λh i=>FE N h i)).bind λa=>some (a.1,a.2)
def Gp(b:Up A6):OS (Up A6):=((I1 (R7 (λ(A:Int×Int)=>(if cmp .lss A.2 (Ar.len b)then(C4 b A.2).bind λa=>if cmp .lss A.1 a.Low then I1 (some ([(⟨A.1,ar .sub .i64 a.Low 1⟩:A6)],())) λ_=>some ([],.inl (ar .add .i64 a.dV 1,ar .add .i64 A.2 1))else some ([],.inl (ar .add .i64 a.dV 1,ar .add .i64 A.2 1))else some ([],.inr A.1):OS (Up A6×((Int×Int)⊕(Int))))) N ((-1099511627776),0)) λe=>if cmp .leq e 1099511627776 then I1 (some ([(⟨e,1099511627776⟩:A6)],())) λ_=>some ([],())else some ([],())):OS (Up A6×Unit)).bind λq=>some q.1
def IZ(a:Up A6):OS (Up A6):=Gp N a
def W8(i:Up A6):OS ((Up A6)×Int):=(AU N i).bind λk=>if cmp .neq k 0 then some ([],k)else(IZ N i).bind λl=>(E8 (λ(n:(Up A6)) (r:A6)=>((K2 n ([r])).bind λb=>some (.inl b):OS (((Up A6))⊕(Unit)))) l ([])).bind λe=>match e with
  | .inl h=>(Dw N h).bind λa=>some (a.1,a.2)
  | .inr _=>none
def FF (N:Nat)(a:Bool)(b:Bool):OS Bool:=some (an a (nt b))
def Dz(b:Up A6)(e:Up A6):OS ((Up A6)×Int):=(BS N b e (λh i=>FF N h i)).bind λa=>some (a.1,a.2)
def Hx(h:Up A6)(i:Up A6):OS ((Up A6)×Int):=(Dz N h i).bind λa=>if cmp .neq a.2 0 then some ([],a.2)else(Dz N i h).bind λb=>if cmp .neq b.2 0 then some ([],b.2)else(Dy N a.1 b.1).bind λe=>if cmp .neq e.2 0 then some ([],e.2)else(W8 N e.1).bind λk=>some (k.1,k.2)
def V5 (N:Nat):Nat->A8->Int->Int->OS ((Up A6)×Int)
 |0,_,_,_=>none
 | n+1,a,x,w=>((if cmp .eql a.Op 0 then if cmp .neq a.Value.Kind 1 then some (.inr ([],3))else if cmp .eql a.Value.Num 1 then(Eg N).bind λs=>some (.inr (s,0))else some (.inr ([],0))else((if cmp .eql a.Op 7 then some true else if cmp .eql a.Op 8 then some true else some (cmp .eql a.Op 9)):OS (Bool)).bind λt=>if t then(C4 a.dT 0).bind λu=>(Y6 N N u x w).bind λo=>(C4 a.dT 1).bind λz=>(Y6 N N z x w).bind λp=>if an o.2 p.2 then(Eb N a.Op o.1 p.1).bind λq=>some (.inr (q.1,q.2))else if cmp .neq a.Op 9 then some (.inr ([],3))else some (.inl ())else if cmp .eql a.Op 10 then some (.inl ())else if cmp .eql a.Op 11 then some (.inl ())else if cmp .eql a.Op 12 then some (.inl ())else some (.inr ([],3))):OS (Unit⊕((Up A6)×Int))).bind λA=>match A with
  | .inl B=>(loopN (λ(e:(Up (Up A6))×Int)=>(if cmp .lss e.2 (Ar.len a.dT)then(C4 a.dT e.2).bind λK=>(V5 N n K x w).bind λh=>if cmp .neq h.2 0 then some (.inr (.inr h.2))else(K2 e.1 ([h.1])).bind λy=>some (.inl (y,ar .add .i64 e.2 1))else some (.inr (.inl e.1)):OS (((Up (Up A6))×Int)⊕(((Up (Up A6)))⊕Int)))) N ([],0)).bind λH=>match H with
   | .inl b=>if cmp .eql a.Op 10 then(C4 b 0).bind λP=>(C4 b 1).bind λV=>(AI N P V).bind λi=>some (i.1,i.2)else if cmp .eql a.Op 11 then(C4 b 0).bind λc=>(C4 b 1).bind λd=>(Dy N c d).bind λk=>some (k.1,k.2)else if cmp .eql a.Op 12 then(C4 b 0).bind λf=>(W8 N f).bind λl=>some (l.1,l.2)else(C4 b 0).bind λg=>(C4 b 1).bind λj=>(Hx N g j).bind λr=>some (r.1,r.2)
   | .inr m=>some ([],m)
  | .inr v=>some (v.1,v.2)
def CJ(a:Up F6)(b:Int)(k:A8)(e:Int):OS (D3×Int):=(Bq N a).bind λn=>if cmp .neq n 0 then some ((⟨[]⟩:D3),n)else if Ar.or (cmp .lss b 0) (cmp .geq b (Ar.len a))then some ((⟨[]⟩:D3),6)else if Ar.or (cmp .lss e 0) (cmp .geq e 16)then some ((⟨[]⟩:D3),2)else(Z8 N ([(⟨⟨#[]⟩,b⟩:R9)]) (ar .add .i64 e 1)).bind λv=>(QO N a v k).bind λh=>if cmp .neq h.2 0 then some ((⟨[]⟩:D3),h.2)else if cmp .neq h.1 1 then some ((⟨[]⟩:D3),9)else(C4 a b).bind λx5=>(CH N x5).bind λw=>(V5 N N k w e).bind λi=>if cmp .neq i.2 0 then some ((⟨[]⟩:D3),i.2)else(YZ (Ar.len a) (Ar.len a) ([]:Up A6)).bind λl=>(IS (OB l b)).bind λ_=>(Ex l b (λ_=>i.1)).bind λr=>some ((⟨r⟩:D3),0)
def AO(i:Up F6) (F:A0):OS (D1×Int):=(Bq N i).bind λx=>if cmp .neq x 0 then some ((⟨0,[],[]⟩:D1),x)else(Gu N F).bind λe=>if cmp .neq e.2 0 then some ((⟨0,[],[]⟩:D1),e.2)else(AN N N F).bind λH=>if nt H then some ((⟨0,[],[]⟩:D1),3)else if cmp .gtr (ar .add .i64 (Ar.len e.1.eH) 1) 256 then some ((⟨0,[],[]⟩:D1),5)else(YZ (ar .add .i64 (Ar.len e.1.eH) 1) (ar .add .i64 (Ar.len e.1.eH) 1) (false:Bool)).bind λw=>(IS (OB w (Ar.len e.1.eH))).bind λ_=>(Ex w (Ar.len e.1.eH) (λK:Bool=>true)).bind λy=>(loopN (λ(a:Int×D1)=>(if cmp .lss a.1 (Ar.len e.1.eG)then(C4 e.1.eG a.1).bind λb=>(CJ N i b.Typ b.dU b.Var).bind λh=>if cmp .neq h.2 0 then some (.inr (.inr (h.2,{a.2 with dY:=[]})))else((if cmp .lss b.To 0 then some (Ar.len e.1.eH)else some b.To):OS (Int)).bind λn=>(K2 a.2.dX ([(⟨b.eA,n,h.1⟩:K7)])).bind λk=>some (.inl (ar .add .i64 a.1 1,{a.2 with dY:=[],dX:=k}))else some (.inr (.inl ({a.2 with dY:=[]}))):OS ((Int×D1)⊕(D1⊕(Int×D1))))) N (0,(⟨Ar.len i,[],[]⟩:D1))).bind λl=>match l with
     | .inl r=>some ({r with dY:=y},0)
     | .inr v=>some ((⟨0,[],[]⟩:D1),v.1)
def GI (N:Nat)(a:Int)(b:Int):OS D3:=some (⟨[[(⟨a,b⟩:A6)]]⟩:D3)
def KY(a:Up Int):OS (Up E9):=(loopN (λ(A:(Up E9)×Int)=>(if cmp .lss A.2 (Ar.len a)then(C4 a A.2).bind λh=>(K2 A.1 ([(⟨0,h⟩:E9)])).bind λb=>some (.inl (b,ar .add .i64 A.2 1))else some (.inr A.1):OS (((Up E9)×Int)⊕(((Up E9)))))) N ([],0)).bind λe=>some e
def Fz (N:Nat)(a:Int)(b:D1):OS Bool:=some (an (cmp .geq a 0) (cmp .lss a (Ar.len b.dY)))
def Cs(a:Int) (F:D3):OS Int:=if Ar.or (cmp .lss a 1) (cmp .gtr a 16)then some 2 else if cmp .neq (Ar.len F.dW) a then some 15 else(loopN (λ(A:Int)=>(if cmp .lss A (Ar.len F.dW)then(C4 F.dW A).bind λe=>(AU N e).bind λb=>if cmp .neq b 0 then some (.inr (.inr b))else some (.inl (ar .add .i64 A 1))else some (.inr (.inl ())):OS ((Int)⊕(Unit⊕Int)))) N 0).bind λs=>match s with
   | .inl i=>some 0
   | .inr h=>some h
def Dm(a:D1):OS Int:=if Ar.or (cmp .lss a.eC 1) (cmp .gtr a.eC 16)then some 2 else if Ar.or (Ar.or (cmp .lss (Ar.len a.dY) 1) (cmp .gtr (Ar.len a.dY) 256)) (cmp .gtr (Ar.len a.dX) 2048)then some 5 else(loopN (λ(A:Int)=>(if cmp .lss A (Ar.len a.dX)then(C4 a.dX A).bind λb=>(Fz N b.eA a).bind λh=>if nt h then some (.inr (.inr 2))else(Fz N b.To a).bind λi=>if nt i then some (.inr (.inr 2))else(Cs N a.eC b.On).bind λe=>if cmp .neq e 0 then some (.inr (.inr e))else some (.inl (ar .add .i64 A 1))else some (.inr (.inl ())):OS ((Int)⊕(Unit⊕Int)))) N 0).bind λs=>match s with
   | .inl l=>some 0
   | .inr k=>some k
def zcn(h:Int)(i:Int->OS ((Up A6)×Int)):OS (D3×Int):=(loopN (λ(a:Int×D3)=>(if cmp .lss a.1 h then(i a.1).bind λb=>if cmp .neq b.2 0 then some (.inr (.inr (b.2,a.2)))else(K2 a.2.dW ([b.1])).bind λk=>some (.inl (ar .add .i64 a.1 1,{a.2 with dW:=k}))else some (.inr (.inl a.2)):OS ((Int×D3)⊕(D3⊕(Int×D3))))) N (0,(⟨[]⟩:D3))).bind λl=>match l with
 | .inl n=>some (n,0)
 | .inr e=>some ((⟨[]⟩:D3),e.1)
def JM(b:Int):OS ((Up A6)×Int):=(Eg N).bind λa=>some (a,0)
def FZ(a:Int):OS (D3×Int):=if Ar.or (cmp .lss a 1) (cmp .gtr a 16)then some ((⟨[]⟩:D3),2)else(zcn N a (λe=>JM N e)).bind λb=>some (b.1,b.2)
def Af(a:Up D3):OS Int:=(loopN (λ(A:Int)=>(if cmp .lss A (Ar.len a)then(C4 a A).bind λe=>(Cs N (Ar.len e.dW) e).bind λb=>if cmp .neq b 0 then some (.inr (.inr b))else some (.inl (ar .add .i64 A 1))else some (.inr (.inl ())):OS ((Int)⊕(Unit⊕Int)))) N 0).bind λs=>match s with
 | .inl i=>some 0
 | .inr h=>some h
def HE(a:Up A6)(e:Int):OS (Bool×Int):=(AU N a).bind λb=>if cmp .neq b 0 then some (false,b)else(CL N a e).bind λh=>some (h,0)
def Cc(F:D3)(a:E9):OS (Bool×Int):=(Af N ([F])).bind λb=>if cmp .neq b 0 then some (false,b)else if Ar.or (cmp .lss a.Typ 0) (cmp .geq a.Typ (Ar.len F.dW))then some (false,6)else if Ar.or (cmp .lss a.Num (-1099511627776)) (cmp .gtr a.Num 1099511627776)then some (false,2)else(C4 F.dW a.Typ).bind λh=>(HE N h a.Num).bind λe=>some (e.1,e.2)
def Gk(a:D1)(e:Int):OS (Up K7):=((I1 (R7 (λ(A:Int)=>(if cmp .lss A (Ar.len a.dX)then(C4 a.dX A).bind λb=>if cmp .eql b.eA e then I1 (some ([b],())) λ_=>some ([],.inl (ar .add .i64 A 1))else some ([],.inl (ar .add .i64 A 1))else some ([],.inr ()):OS (Up K7×((Int)⊕(Unit))))) N 0) λh=>some ([],())):OS (Up K7×Unit)).bind λq=>some q.1
def Db(a:D1)(b:Int):OS (Up K7):=Gk N a b
def Ba(F:D3)(b:E9):OS Bool:=(Cc N F b).bind λa=>some (an a.1 (cmp .eql a.2 0))
def Dp (N :Nat) (k:D1) (i:Up E9):OS (Bool×Int):=(Dm N k).bind λp=>if cmp .neq p 0 then some (false,p)else if cmp .gtr (Ar.len i) 4096 then some (false,5)else(FZ N k.eC).bind λs=>(loopN (λ(c:Int)=>(if cmp .lss c (Ar.len i)then(C4 i c).bind λx5=>(Cc N s.1 x5).bind λq=>if cmp .neq q.2 0 then some (.inr (.inr q.2))else some (.inl (ar .add .i64 c 1))else some (.inr (.inl ())):OS ((Int)⊕(Unit⊕Int)))) N 0).bind λt=>match t with
   | .inl A=>(FX ([]:Up (Int×Bool)) 0 true).bind λl=>(loopN (λ(a:Int×(Up (Int×Bool)))=>(if cmp .lss a.1 (Ar.len i)then(C4 i a.1).bind λj=>(GF (λ(e:(Up (Int×Bool))) (v:Int×Bool)=>((Db N k v.1).bind λx=>(E8 (λ(b:(Up (Int×Bool))) (h:K7)=>((Gf b h.To (false:Bool)).bind λH=>if nt H.1 then(Ba N h.On j).bind λK=>if K then(FX b h.To true).bind λn=>some (.inl n)else some (.inl b)else some (.inl b):OS (((Up (Int×Bool)))⊕(Unit)))) x e).bind λr=>match r with
           | .inl d=>some (.inl d)
           | .inr _=>none:OS (((Up (Int×Bool)))⊕(((Up (Int×Bool))))))) (λ(e:(Up (Int×Bool)))=>(e:((Up (Int×Bool))))) (λ(y:((Up (Int×Bool))))=>(Ik y:((Up (Int×Bool))))) a.2 ([]:Up (Int×Bool))).bind λV=>some (.inl (ar .add .i64 a.1 1,V))else some (.inr a.2):OS ((Int×(Up (Int×Bool)))⊕(((Up (Int×Bool))))))) N (0,l)).bind λP=>(GF (λ(f:Unit) (w:Int×Bool)=>((C4 k.dY w.1).bind λm=>if m then some (.inr (.inr ()))else some (.inl ()):OS ((Unit)⊕(Unit⊕Unit)))) (λ(f:Unit)=>((.inl ()):Unit⊕Unit)) (λ(y:Unit⊕Unit)=>y) P ()).bind λg=>match g with
    | .inl u=>some (false,0)
    | .inr z=>some (true,0)
   | .inr o=>some (false,o)
def GG(a:D3):OS (Up (Int×(Up A6))):=((I1 (R7 (λ(A:Int)=>(if cmp .lss A (Ar.len a.dW)then(C4 a.dW A).bind λb=>if cmp .gtr (Ar.len b) 0 then I1 (some ([(A,b)],())) λ_=>some ([],.inl (ar .add .i64 A 1))else some ([],.inl (ar .add .i64 A 1))else some ([],.inr ()):OS (Up (Int×(Up A6))×((Int)⊕(Unit))))) N 0) λe=>some ([],())):OS (Up (Int×(Up A6))×Unit)).bind λq=>some q.1
def IB(F:D3):OS (Up (Int×(Up A6))):=GG N F
def Aj2(F:D3):OS (Bool×Int):=(Af N ([F])).bind λb=>if cmp .neq b 0 then none else(IB N F).bind λe=>(E8 (λ(k:Unit) (l:(Int×(Up A6)))=>(some (.inr ()):OS ((Unit)⊕(Unit)))) e ()).bind λa=>match a with
  | .inl h=>some (true,0)
  | .inr i=>some (false,0)
def Ax8(F:D3):OS Bool:=(Aj2 N F).bind λa=>some a.1
def nmB(k:D1):OS (Up (Int×Int)):=(loopN (λ(b:Int×(Up Int)×(Up (Int×Int)))=>(if cmp .lss b.1 (Ar.len k.dY)then(C4 k.dY b.1).bind λd=>if d then(FX b.2.2 b.1 0).bind λl=>(K2 b.2.1 ([b.1])).bind λn=>some (.inl (ar .add .i64 b.1 1,n,l))else some (.inl (ar .add .i64 b.1 1,b.2.1,b.2.2))else some (.inr (b.2.1,b.2.2)):OS ((Int×(Up Int)×(Up (Int×Int)))⊕(((Up Int)×(Up (Int×Int))))))) N (0,([]:Up Int),([]:Up (Int×Int)))).bind λc=>(loopN (λ(e:(Up Int)×(Up (Int×Int)))=>(if cmp .gtr (Ar.len e.1) 0 then(loopN (λ(a:Int×(Up Int)×(Up (Int×Int)))=>(if cmp .lss a.1 (Ar.len k.dX)then(C4 k.dX a.1).bind λh=>(Gf a.2.2 h.eA (0:Int)).bind λx=>(IS (OB a.2.1 0)).bind λ_=>(C4 a.2.1 0).bind λP=>if an (cmp .eql h.To P) (nt x.2)then(Ax8 N h.On).bind λy=>if nt y then(IS (OB a.2.1 0)).bind λ_=>(C4 a.2.1 0).bind λV=>(Gf a.2.2 V (0:Int)).bind λH=>(FX a.2.2 h.eA (ar .add .i64 H.1 1)).bind λr=>(K2 a.2.1 ([h.eA])).bind λv=>some (.inl (ar .add .i64 a.1 1,v,r))else some (.inl (ar .add .i64 a.1 1,a.2.1,a.2.2))else some (.inl (ar .add .i64 a.1 1,a.2.1,a.2.2))else some (.inr (a.2.1,a.2.2)):OS ((Int×(Up Int)×(Up (Int×Int)))⊕(((Up Int)×(Up (Int×Int))))))) N (0,e.1,e.2)).bind λi=>(Dc i.1 (some 1) none none).bind λw=>some (.inl (w,i.2))else some (.inr (e.1,e.2)):OS (((Up Int)×(Up (Int×Int)))⊕(((Up Int)×(Up (Int×Int))))))) N (c.1,c.2)).bind λK=>some K.2
def Iw (N:Nat)(h:K7)(b:Up (Int×Int))(e:Int):OS Bool:=(Gf b h.To (0:Int)).bind λa=>some (an a.2 (cmp .eql a.1 (ar .sub .i64 e 1)))
def zc5(F:D3):OS (E9×Int):=(Af N ([F])).bind λi=>if cmp .neq i 0 then none else(IB N F).bind λk=>(E8 (λ(n:Unit) (h:(Int×(Up A6)))=>((C4 h.2 0).bind λb=>some (.inr (⟨h.1,b.Low⟩:E9)):OS ((Unit)⊕(E9)))) k ()).bind λa=>match a with
  | .inl l=>some ((⟨0,0⟩:E9),6)
  | .inr e=>some (e,0)
def Al3 (N:Nat)(a:E9)(b:E9):OS Bool:=some (Ar.or (cmp .lss a.Typ b.Typ) (an (cmp .eql a.Typ b.Typ) (cmp .lss a.Num b.Num)))
def zcm (N :Nat) (x:D1):OS (Bool×(Up E9)×Int):=(Dm N x).bind λB=>if cmp .neq B 0 then none else(nmB N x).bind λK=>(Gf K 0 (0:Int)).bind λA=>if nt A.2 then none else(FX ([]:Up (Int×Bool)) 0 true).bind λH=>(loopN (λ(a:(Up E9)×(Up (Int×Bool))×Int)=>(if cmp .gtr a.2.2 0 then(GF (λ(e:Bool×E9) (d:Int×Bool)=>((Db N x d.1).bind λg=>(E8 (λ(b:Bool×E9) (w:K7)=>((zc5 N w.On).bind λh=>if cmp .eql h.2 0 then(Iw N w K a.2.2).bind λj=>if j then if nt b.1 then some (.inl (true,h.1))else(Al3 N h.1 b.2).bind λm=>if m then some (.inl (true,h.1))else some (.inl (b.1,b.2))else some (.inl (b.1,b.2))else some (.inl (b.1,b.2)):OS ((Bool×E9)⊕(Unit)))) g (e.1,e.2)).bind λV=>match V with
          | .inl v=>some (.inl (v.1,v.2))
          | .inr _=>none:OS ((Bool×E9)⊕((Bool×E9))))) (λ(e:Bool×E9)=>((e.1,e.2):(Bool×E9))) (λ(y:(Bool×E9))=>y) a.2.1 (false,(⟨0,0⟩:E9))).bind λr=>(GF (λ(i:(Up (Int×Bool))) (f:Int×Bool)=>((Db N x f.1).bind λo=>(E8 (λ(k:(Up (Int×Bool))) (l:K7)=>((Iw N l K a.2.2).bind λp=>if p then(Ba N l.On r.2).bind λq=>if q then(FX k l.To true).bind λP=>some (.inl P)else some (.inl k)else some (.inl k):OS (((Up (Int×Bool)))⊕(Unit)))) o i).bind λc=>match c with
          | .inl u=>some (.inl u)
          | .inr _=>none:OS (((Up (Int×Bool)))⊕(((Up (Int×Bool))))))) (λ(i:(Up (Int×Bool)))=>(i:((Up (Int×Bool))))) (λ(y:((Up (Int×Bool))))=>(Ik y:((Up (Int×Bool))))) a.2.1 ([]:Up (Int×Bool))).bind λt=>(((K2 a.1 ([r.2])).bind λn=>some n):OS (((Up E9)))).bind λz=>some (.inl (z,t,ar .sub .i64 a.2.2 1))else some (.inr (a.1,a.2.1,a.2.2)):OS (((Up E9)×(Up (Int×Bool))×Int)⊕(((Up E9)×(Up (Int×Bool))×Int))))) N ([],H,A.1)).bind λs=>some (false,s.1,0)
def fnd (N:Nat)(a:Up A6):OS (Up A6):=(K2 [] a).bind λl=>some l
def JL(F:D3):OS D3:=(YZ (Ar.len F.dW) (Ar.len F.dW) ([]:Up A6)).bind λe=>(loopN (λ(a:Int×(Up (Up A6)))=>(if cmp .lss a.1 (Ar.len F.dW)then(C4 F.dW a.1).bind λl=>(fnd N l).bind λh=>(IS (OB a.2 a.1)).bind λ_=>(Ex a.2 a.1 (λk:Up A6=>h)).bind λb=>some (.inl (ar .add .i64 a.1 1,b))else some (.inr a.2):OS ((Int×(Up (Up A6)))⊕(((Up (Up A6))))))) N (0,e)).bind λi=>some (⟨i⟩:D3)
def c10 (N:Nat)(a:D1):OS (D1×Int):=if Ar.or (cmp .gtr (Ar.len a.dY) 256) (cmp .gtr (Ar.len a.dX) 2048)then none else some (a,0)
def DLg(i:D1):OS (D1×Int):=(Dm N i).bind λj=>if cmp .neq j 0 then none else(((YZ (ar .add .i64 (Ar.len i.dY) 1) (ar .add .i64 (Ar.len i.dY) 1) (false:Bool)).bind λn=>some n):OS (((Up Bool)))).bind λd=>(((C4 i.dY 0).bind λV=>(IS (OB d 0)).bind λ_=>(Ex d 0 (λf:Bool=>V)).bind λk=>(IS (OB k 1)).bind λ_=>(Ex k 1 (λg:Bool=>true)).bind λr=>some r):OS (((Up Bool)))).bind λH=>(loopN (λ(a:Int×D1)=>(if cmp .lss a.1 (Ar.len i.dX)then(C4 i.dX a.1).bind λe=>(C4 i.dY e.To).bind λc=>if c then(JL N e.On).bind λx=>(K2 a.2.dX ([(⟨0,ar .add .i64 e.eA 1,x⟩:K7)])).bind λv=>some (.inl (ar .add .i64 a.1 1,{a.2 with dY:=[],dX:=v}))else some (.inl (ar .add .i64 a.1 1,{a.2 with dY:=[]}))else some (.inr ({a.2 with dY:=[]})):OS ((Int×D1)⊕(D1)))) N (0,(⟨i.eC,[],[]⟩:D1))).bind λK=>(loopN (λ(b:Int×D1)=>(if cmp .lss b.1 (Ar.len i.dX)then(C4 i.dX b.1).bind λh=>(JL N h.On).bind λy=>(K2 b.2.dX ([(⟨ar .add .i64 h.To 1,ar .add .i64 h.eA 1,y⟩:K7)])).bind λw=>some (.inl (ar .add .i64 b.1 1,{b.2 with dY:=[],dX:=w}))else some (.inr ({b.2 with dY:=[]})):OS ((Int×D1)⊕(D1)))) N (0,{K with dY:=[]})).bind λP=>(c10 N ({P with dY:=H})).bind λl=>some (l.1,l.2)
def Xq (N:Nat)(a:Bool):OS B2:=if a then some (⟨1,1,⟨#[]⟩⟩:B2)else none
def MQ(a:Int):OS A0:=(Xq N true).bind λb=>some (⟨0,[],0,a,0,0,(⟨0,[],0,0,0,b⟩:A8)⟩:A0)
def Ak5(a:Up E9)(b:Up E9):OS Bool:=if cmp .neq (Ar.len a) (Ar.len b)then none else(loopN (λ(A:Int)=>(if cmp .lss A (Ar.len a)then(C4 a A).bind λe=>(C4 b A).bind λh=>if nt (an (cmp .eql e.Typ h.Typ) (an (cmp .eql e.Num h.Num) true))then none else some (.inl (ar .add .i64 A 1))else some (.inr ()):OS ((Int)⊕(Unit)))) N 0).bind λs=>some true
def Xs(a:Up A6) (b:Up A6):OS Bool:=if cmp .neq (Ar.len a) (Ar.len b)then some false else(loopN (λ(A:Int)=>(if cmp .lss A (Ar.len a)then(C4 a A).bind λe=>(C4 b A).bind λh=>if nt (an (cmp .eql e.Low h.Low) (an (cmp .eql e.dV h.dV) true))then some (.inr (.inr ()))else some (.inl (ar .add .i64 A 1))else some (.inr (.inl ())):OS ((Int)⊕(Unit⊕Unit)))) N 0).bind λs=>match s with
  | .inl i=>some true
  | .inr k=>some false
def Xp(F:D3) (a:D3):OS Bool:=if cmp .neq (Ar.len F.dW) (Ar.len a.dW)then some false else(loopN (λ(A:Int)=>(if cmp .lss A (Ar.len F.dW)then(C4 F.dW A).bind λe=>(C4 a.dW A).bind λh=>(Xs N e h).bind λb=>if nt b then some (.inr (.inr ()))else some (.inl (ar .add .i64 A 1))else some (.inr (.inl ())):OS ((Int)⊕(Unit⊕Unit)))) N 0).bind λs=>match s with
  | .inl i=>some true
  | .inr k=>some false
def RC(a:D1) (b:D1):OS Bool:=if Ar.or (Ar.or (cmp .neq a.eC b.eC) (cmp .neq (Ar.len a.dY) (Ar.len b.dY))) (cmp .neq (Ar.len a.dX) (Ar.len b.dX))then some false else(loopN (λ(A:Int)=>(if cmp .lss A (Ar.len a.dY)then(C4 a.dY A).bind λn=>(C4 b.dY A).bind λr=>if nt (beq n r)then some (.inr (.inr ()))else some (.inl (ar .add .i64 A 1))else some (.inr (.inl ())):OS ((Int)⊕(Unit⊕Unit)))) N 0).bind λs=>match s with
  | .inl y=>(loopN (λ(e:Int)=>(if cmp .lss e (Ar.len a.dX)then(C4 a.dX e).bind λi=>(C4 b.dX e).bind λk=>if Ar.or (cmp .neq i.eA k.eA) (cmp .neq i.To k.To)then some (.inr (.inr ()))else(Xp N i.On k.On).bind λh=>if nt h then some (.inr (.inr ()))else some (.inl (ar .add .i64 e 1))else some (.inr (.inl ())):OS ((Int)⊕(Unit⊕Unit)))) N 0).bind λl=>match l with
   | .inl v=>some true
   | .inr w=>some false
  | .inr x=>some false
def BN:OS Bool:=(GI N 1 5).bind λk=>(GI N 4 9).bind λy=>(KY N ([4])).bind λc=>(KY N ([1,4])).bind λd=>(KY N ([1])).bind λf=>(loopN (λ(i:Int)=>(if cmp .lss i 3 then(C4 ([c,d,f]) i).bind λg=>(Dp N (⟨1,[false,true],[(⟨0,0,k⟩:K7),(⟨0,1,y⟩:K7)]⟩:D1) g).bind λV=>if Ar.or (cmp .neq V.2 0) (nt (beq V.1 (cmp .lss i 2)))then none else some (.inl (ar .add .i64 i 1))else some (.inr ()):OS ((Int)⊕(Unit)))) N 0).bind λj=>(zcm N (⟨1,[false,true],[(⟨0,0,k⟩:K7),(⟨0,1,y⟩:K7)]⟩:D1)).bind λa=>(DLg N (⟨1,[false,true],[(⟨0,0,k⟩:K7),(⟨0,1,y⟩:K7)]⟩:D1)).bind λe=>(MQ N 0).bind λl=>(MQ N 1).bind λn=>(AO N ([(⟨(⟨#[97]⟩:Uf),[]⟩:F6)]) (⟨1,[l,(⟨4,[n],0,0,0,0,(⟨0,[],0,0,0,(⟨0,0,⟨#[]⟩⟩:B2)⟩:A8)⟩:A0)],0,0,0,0,(⟨0,[],0,0,0,(⟨0,0,⟨#[]⟩⟩:B2)⟩:A8)⟩:A0)).bind λh=>(GI N (-1099511627776) 1099511627776).bind λb=>if Ar.or (cmp .neq (ar .add .i64 (ar .add .i64 a.2.2 e.2) h.2) 0) a.1 then none else(KY N ([4])).bind λr=>(Ak5 N a.2.1 r).bind λv=>if nt v then none else(GI N 4 9).bind λw=>(GI N 1 5).bind λx=>(GI N 4 9).bind λH=>(RC N e.1 (⟨1,[false,true,false],[(⟨0,1,w⟩:K7),(⟨1,1,x⟩:K7),(⟨2,1,H⟩:K7)]⟩:D1)).bind λK=>if K then(RC N h.1 (⟨1,[false,false,true],[(⟨0,1,b⟩:K7),(⟨1,2,b⟩:K7),(⟨1,1,b⟩:K7)]⟩:D1)).bind λP=>some P else some false
def MK (N:Nat)(a:B0):OS Bool:=some (an (an (an (an (an (cmp .geq a.Time 0) (cmp .leq a.Time 1099511627776)) (cmp .geq a.Source 0)) (cmp .lss a.Source 8)) (cmp .geq a.Seq 0)) (cmp .leq a.Seq 1099511627776))
def KI (N:Nat)(a:B0):OS Wd:=some (⟨a.Time,a.Source,a.Seq⟩:Wd)
def IF(a:Up Int):OS Int:=(loopN (λ(A:Int)=>(if cmp .lss A (Ar.len a)then(C4 a A).bind λb=>if cmp .neq b 0 then some (.inr (.inr b))else some (.inl (ar .add .i64 A 1))else some (.inr (.inl ())):OS ((Int)⊕(Unit⊕Int)))) N 0).bind λs=>match s with
 | .inl h=>some 0
 | .inr e=>some e
def V6(a:Int)(b:Int):OS Int:=(Jb N a).bind λh=>(Jb N b).bind λe=>if h then if e then some 0 else some (-1)else if e then some 1 else if cmp .lss a b then some (-1)else if cmp .gtr a b then some 1 else some 0
def Ja(a:B0)(b:B0):OS Int:=(KI N a).bind λe=>(KI N b).bind λh=>if an (cmp .eql e.Time h.Time) (an (cmp .eql e.Source h.Source) (an (cmp .eql e.Seq h.Seq) true))then some 0 else(V6 N a.Time b.Time).bind λi=>(V6 N a.Source b.Source).bind λk=>(V6 N a.Seq b.Seq).bind λl=>(IF N ([i,k,l])).bind λn=>some n
def KA (N:Nat)(a:B0):OS H6:=some (⟨a.Source,a.Seq⟩:H6)
def Kq(e:Up B0):OS Int:=if cmp .gtr (Ar.len e) 4096 then some 5 else(loopN (λ(a:Int×(Up (H6×Bool)))=>(if cmp .lss a.1 (Ar.len e)then(C4 e a.1).bind λb=>(MK N b).bind λH=>if nt H then some (.inr (.inr (2,a.2)))else if cmp .gtr a.1 0 then(C4 e (ar .sub .i64 a.1 1)).bind λP=>(Ja N P b).bind λk=>if cmp .geq k 0 then some (.inr (.inr (14,a.2)))else(KA N b).bind λl=>(Gf a.2 l (false:Bool)).bind λn=>if n.1 then some (.inr (.inr (7,a.2)))else(KA N b).bind λr=>(FX a.2 r true).bind λh=>some (.inl (ar .add .i64 a.1 1,h))else(KA N b).bind λv=>(Gf a.2 v (false:Bool)).bind λw=>if w.1 then some (.inr (.inr (7,a.2)))else(KA N b).bind λx=>(FX a.2 x true).bind λi=>some (.inl (ar .add .i64 a.1 1,i))else some (.inr (.inl a.2)):OS ((Int×(Up (H6×Bool)))⊕(((Up (H6×Bool)))⊕(Int×(Up (H6×Bool))))))) N (0,([]:Up (H6×Bool)))).bind λK=>match K with
  | .inl V=>some 0
  | .inr y=>some y.1
def Ho (N:Nat):OS Unit:=some ()
def ML (N:Nat)(a:Int):OS ByteArray:=WY a
def DZ(e:Up Int)(a:Int)(b:Int):OS (Up Int):=if cmp .eql b 10 then if cmp .lss a 100 then(ML N (wr .i64 a)).bind λi=>(K2 e (UH i)).bind λh=>some h else none else none
def FO(e:Up Int)(a:Int)(b:Int):OS (Up Int):=if cmp .lss a 0 then(K2 e ([45])).bind λh=>(DZ N h (neg .u64 (wr .u64 a)) b).bind λi=>some i else(DZ N e (wr .u64 a) b).bind λk=>some k
def P4(e:Up Int)(a:Int)(b:Int):OS (Up Int):=(FO N e a b).bind λh=>some h
def Aa(i:Up A3):OS ByteArray:=(loopN (λ(s:Int×(Up Int))=>(if cmp .lss s.1 (Ar.len i)then(C4 i s.1).bind λx5=>(P4 N s.2 x5.eF 10).bind λk=>(((K2 k ([64])).bind λh=>(P4 N h x5.at_ 10).bind λa=>(K2 a ([32])).bind λb=>some b):OS (((Up Int)))).bind λn=>some (.inl (ar .add .i64 s.1 1,n))else some (.inr s.2):OS ((Int×(Up Int))⊕(((Up Int)))))) N (0,([]:Up Int))).bind λl=>(AT0 l).bind λe=>some e
def Bf (N:Nat)(a:Int):OS B2:=some (⟨0,a,⟨#[]⟩⟩:B2)
def HQ (N:Nat)(a:Int)(b:Int)(e:Int->OS B2):OS B2:=(e (ar .add .i64 a b)).bind λh=>some h
def HP (N:Nat)(a:Int)(b:Int)(e:Int->OS B2):OS B2:=(e (ar .sub .i64 a b)).bind λh=>some h
def Rs (N:Nat)(a:Bool):OS B2:=if a then some (⟨1,1,⟨#[]⟩⟩:B2)else some (⟨1,0,⟨#[]⟩⟩:B2)
def Ev(a:Bool):OS B2:=(Rs N a).bind λb=>some b
def HN(a:Int)(b:Int):OS B2:=(Ev N (cmp .lss a b)).bind λe=>some e
def HM(a:Int)(b:Int):OS B2:=(Ev N (cmp .leq a b)).bind λe=>some e
def HL(a:Int)(b:Int):OS B2:=(Ev N (an (cmp .eql a 1) (cmp .eql b 1))).bind λe=>some e
def HK(a:Int)(b:Int):OS B2:=(Ev N (Ar.or (cmp .eql a 1) (cmp .eql b 1))).bind λe=>some e
def HJ(a:Int)(e:Int):OS B2:=(Ev N (cmp .neq a 1)).bind λb=>some b
def cfA (N:Nat):OS Unit:=some ()
def Az (N:Nat)(b:Ap)(a:Int):OS (Up B0):=if Ar.or (cmp .lss a 0) (cmp .geq a (Ar.len b.env.eK))then some ([])else(C4 b.env.eK a).bind λe=>some e
def Fi (N:Nat)(a:B0)(b:Int):OS (B2×Int):=if cmp .geq b (Ar.len a.Values)then some ((⟨0,0,⟨#[]⟩⟩:B2),6)else(C4 a.Values b).bind λe=>some (e,0)
def El (N:Nat)(a:Int):OS Bool:=some (an (cmp .geq a 0) (cmp .leq a 5))
def Cv (N:Nat)(a:Int)(b:B2):OS Bool:=some (Ar.or (cmp .eql b.Kind 0) (an (an (cmp .neq a 1) (cmp .neq a 2)) (cmp .neq a 3)))
def Ao(e:Int)(a:B2):OS Int:=(BL N a).bind λb=>if cmp .neq b 0 then some b else(Cv N e a).bind λh=>if nt h then some 9 else some 0
def S9(e:I6)(b:Up B2)(h:I6->B2->OS I6):OS I6:=(loopN (λ(a:Int×I6)=>(if cmp .lss a.1 (Ar.len b)then(C4 b a.1).bind λx5=>(h a.2 x5).bind λi=>some (.inl (ar .add .i64 a.1 1,i))else some (.inr a.2):OS ((Int×I6)⊕(I6)))) N (0,e)).bind λk=>some k
def xeq (N:Nat):OS B2:=some (⟨0,0,⟨#[]⟩⟩:B2)
def zap (N:Nat)(b:B2)(a:B2):OS B2:=some (⟨0,ar .add .i64 b.Num a.Num,⟨#[]⟩⟩:B2)
def zbv (N:Nat)(b:B2)(a:B2):OS B2:=some (⟨0,mn b.Num a.Num,⟨#[]⟩⟩:B2)
def Eff (N:Nat)(b:B2)(a:B2):OS B2:=some (⟨0,mx b.Num a.Num,⟨#[]⟩⟩:B2)
def evC (N:Nat)(a:B2):OS B2:=some a
def geC (N:Nat)(a:B2):OS B2:=some a
def EH(a:Int)(b:B2)(e:B2):OS B2:=if cmp .eql a 0 then(xeq N).bind λh=>some h else if cmp .eql a 1 then(zap N b e).bind λi=>some i else if cmp .eql a 2 then(zbv N b e).bind λk=>some k else if cmp .eql a 3 then(Eff N b e).bind λl=>some l else if cmp .eql a 4 then(evC N b).bind λn=>some n else if cmp .eql a 5 then(geC N e).bind λr=>some r else none
def IK(a:I6)(b:I6):OS I6:=if cmp .eql a.Count 0 then some b else if cmp .eql b.Count 0 then some a else(EH N a.Kind a.Value b.Value).bind λe=>some (⟨a.Kind,ar .add .i64 a.Count b.Count,e⟩:I6)
def FN (N:Nat)(b:Int)(a:B2):OS B2:=if cmp .eql b 0 then some (⟨0,0,⟨#[]⟩⟩:B2)else some a
def Aj(b:I6)(e:B2)(a:Int):OS I6:=(FN N a e).bind λh=>(IK N b (⟨a,1,h⟩:I6)).bind λi=>some i
def Gw(a:I6):OS Int:=(El N a.Kind).bind λb=>if nt b then some 1 else if Ar.or (cmp .lss a.Count 0) (cmp .gtr a.Count 4096)then some 2 else if Ar.or (cmp .eql a.Count 0) (cmp .eql a.Kind 0)then if nt (an (cmp .eql a.Value.Kind 0) (an (cmp .eql a.Value.Num 0) (an (scmp .eql a.Value.Text (⟨#[]⟩)) true)))then some 3 else some 0 else if cmp .eql a.Kind 1 then if nt (an (an (an (cmp .eql a.Value.Kind 0) (scmp .eql a.Value.Text (⟨#[]⟩:Uf))) (cmp .geq a.Value.Num (neg .i64 (ar .mul .i64 a.Count 1099511627776)))) (cmp .leq a.Value.Num (ar .mul .i64 a.Count 1099511627776)))then some 3 else some 0 else(BL N a.Value).bind λe=>if cmp .eql e 0 then(Cv N a.Kind a.Value).bind λh=>if nt h then some 3 else some 0 else some 3
def IL(a:I6)(b:B2):OS (B2×Int):=(Gw N a).bind λe=>if cmp .neq e 0 then some ((⟨0,0,⟨#[]⟩⟩:B2),e)else(Ao N a.Kind b).bind λh=>if cmp .neq h 0 then some ((⟨0,0,⟨#[]⟩⟩:B2),h)else if cmp .eql a.Kind 0 then some ((⟨0,a.Count,⟨#[]⟩⟩:B2),0)else if an (cmp .eql a.Count 0) (cmp .neq a.Kind 1)then some (b,0)else some (a.Value,0)
def Kz(b:Int) (a:Up B2) (l:B2):OS (B2×Int):=(El N b).bind λn=>if nt n then some ((⟨0,0,⟨#[]⟩⟩:B2),1)else if cmp .gtr (Ar.len a) 4096 then some ((⟨0,0,⟨#[]⟩⟩:B2),5)else(loopN (λ(e:Int)=>(if cmp .lss e (Ar.len a)then(C4 a e).bind λx5=>(Ao N b x5).bind λi=>if cmp .neq i 0 then some (.inr (.inr i))else some (.inl (ar .add .i64 e 1))else some (.inr (.inl ())):OS ((Int)⊕(Unit⊕Int)))) N 0).bind λv=>match v with
   | .inl y=>(S9 N (⟨b,0,(⟨0,0,⟨#[]⟩⟩:B2)⟩:I6) a (λw x=>Aj N w x b)).bind λr=>(IL N r l).bind λk=>some (k.1,k.2)
   | .inr h=>some ((⟨0,0,⟨#[]⟩⟩:B2),h)
def CN(n:Ap)(e:A8):OS (B2×Int):=(Az N n e.Var).bind λl=>(loopN (λ(b:(Up B2)×Int)=>(if cmp .lss b.2 (Ar.len l)then(C4 l b.2).bind λw=>(Fi N w e.Field).bind λh=>if cmp .neq h.2 0 then some (.inr (.inr h.2))else(K2 b.1 ([h.1])).bind λr=>some (.inl (r,ar .add .i64 b.2 1))else some (.inr (.inl b.1)):OS (((Up B2)×Int)⊕(((Up B2))⊕Int)))) N ([],0)).bind λv=>match v with
 | .inl i=>(Kz N e.Kind i e.Value).bind λa=>some (a.1,a.2)
 | .inr k=>some ((⟨0,0,⟨#[]⟩⟩:B2),k)
def Dk(b:Ap) (a:A8):OS (B2×Int):=(Az N b a.Var).bind λe=>if cmp .eql a.Op 0 then some (a.Value,0)else if cmp .eql a.Op 3 then some ((⟨0,Ar.len e,⟨#[]⟩⟩:B2),0)else if cmp .eql a.Op 4 then(CN N b a).bind λk=>some (k.1,k.2)else((if cmp .neq a.Var b.own then if cmp .eql (Ar.len e) 0 then some (.inr ())else(C4 e (ar .sub .i64 (Ar.len e) 1)).bind λv=>some (.inl v)else some (.inl b.event)):OS (B0⊕Unit)).bind λr=>match r with
    | .inl n=>if cmp .eql a.Op 2 then some ((⟨0,n.Time,⟨#[]⟩⟩:B2),0)else(Fi N n a.Field).bind λh=>((if cmp .eql h.2 0 then(BL N h.1).bind λi=>some i else some h.2):OS (Int)).bind λl=>if cmp .neq l 0 then some ((⟨0,0,⟨#[]⟩⟩:B2),l)else some (h.1,0)
    | .inr w=>some ((⟨0,0,⟨#[]⟩⟩:B2),10)
def R0 (N:Nat):Nat->Ap->A8->OS (B2×Int)
 |0,_,_=>none
 | n+1,D,b=>if cmp .eql (Ar.len b.dT) 0 then(Dk N D b).bind λE=>some (E.1,E.2)else(loopN (λ(e:(Up B2)×(Up Int)×Int)=>(if cmp .lss e.2.2 (Ar.len b.dT)then(C4 b.dT e.2.2).bind λL=>(R0 N n D L).bind λl=>if cmp .neq l.2 0 then some (.inr (.inr l.2))else(K2 e.1 ([l.1])).bind λF=>(K2 e.2.1 ([l.1.Kind])).bind λr=>some (.inl (F,r,ar .add .i64 e.2.2 1))else some (.inr (.inl (e.1,e.2.1))):OS (((Up B2)×(Up Int)×Int)⊕(((Up B2)×(Up Int))⊕Int)))) N ([],[],0)).bind λG=>match G with
   | .inl a=>(Eu N b.Op a.2).bind λk=>if cmp .neq k 0 then some ((⟨0,0,⟨#[]⟩⟩:B2),k)else if cmp .eql b.Op 9 then(C4 a.1 0).bind λh=>(C4 a.1 1).bind λi=>(Ev N (an (cmp .eql h.Kind i.Kind) (an (cmp .eql h.Num i.Num) (an (scmp .eql h.Text i.Text) true)))).bind λv=>some (v,0)else if cmp .eql b.Op 5 then(C4 a.1 0).bind λc=>(C4 a.1 (ar .sub .i64 (Ar.len a.1) 1)).bind λd=>(HQ N c.Num d.Num (λB=>Bf N B)).bind λw=>some (w,0)else if cmp .eql b.Op 6 then(C4 a.1 0).bind λf=>(C4 a.1 (ar .sub .i64 (Ar.len a.1) 1)).bind λg=>(HP N f.Num g.Num (λB=>Bf N B)).bind λx=>some (x,0)else if cmp .eql b.Op 7 then(C4 a.1 0).bind λj=>(C4 a.1 (ar .sub .i64 (Ar.len a.1) 1)).bind λm=>(HN N j.Num m.Num).bind λy=>some (y,0)else if cmp .eql b.Op 8 then(C4 a.1 0).bind λo=>(C4 a.1 (ar .sub .i64 (Ar.len a.1) 1)).bind λp=>(HM N o.Num p.Num).bind λH=>some (H,0)else if cmp .eql b.Op 10 then(C4 a.1 0).bind λq=>(C4 a.1 (ar .sub .i64 (Ar.len a.1) 1)).bind λs=>(HL N q.Num s.Num).bind λK=>some (K,0)else if cmp .eql b.Op 11 then(C4 a.1 0).bind λt=>(C4 a.1 (ar .sub .i64 (Ar.len a.1) 1)).bind λu=>(HK N t.Num u.Num).bind λP=>some (P,0)else if cmp .eql b.Op 12 then(C4 a.1 0).bind λz=>(C4 a.1 (ar .sub .i64 (Ar.len a.1) 1)).bind λA=>(HJ N z.Num A.Num).bind λV=>some (V,0)else(C4 a.1 0).bind λI=>(C4 a.1 (ar .sub .i64 (Ar.len a.1) 1)).bind λJ=>none
   | .inr C=>some ((⟨0,0,⟨#[]⟩⟩:B2),C)
def QP(b:A8)(k:LA)(i:Int)(l:B0):OS (B2×Int):=(IE N b).bind λe=>if cmp .neq e 0 then some ((⟨0,0,⟨#[]⟩⟩:B2),e)else(((R0 N N (⟨k,i,l,()⟩:Ap) b).bind λa=>some (a.2,a.1)):OS ((Int×B2))).bind λh=>some (h.2,h.1)
def Ll(e:A8)(i:LA)(h:Int)(k:B0):OS Bool:=(QP N e i h k).bind λa=>if cmp .eql a.2 0 then(Ev N true).bind λb=>some (an (cmp .eql a.1.Kind b.Kind) (an (cmp .eql a.1.Num b.Num) (an (scmp .eql a.1.Text b.Text) true)))else some false
def Bu(l:C2)(k:Up A3)(n:Int):OS LA:=(YZ 16 16 ([]:Up B0)).bind λr=>(loopN (λ(a:Int×(Up (Up B0)))=>(if cmp .lss a.1 (Ar.len k)then(C4 k a.1).bind λb=>if cmp .lss b.at_ n then(C4 a.2 b.eF).bind λw=>(C4 l.eP b.at_).bind λi=>(K2 w ([i])).bind λh=>(Ex a.2 b.eF (λ_=>h)).bind λe=>some (.inl (ar .add .i64 a.1 1,e))else some (.inl (ar .add .i64 a.1 1,a.2))else some (.inr a.2):OS ((Int×(Up (Up B0)))⊕(((Up (Up B0))))))) N (0,r)).bind λv=>some (⟨v⟩:LA)
def S7(a:C2)(i:A8)(e:Up A3)(h:Int)(b:Int):OS Bool:=(Bu N a e b).bind λk=>(C4 a.eP b).bind λn=>(Ll N i k h n).bind λl=>some l
def Bb(e:Int)(b:C2)(a:A0)(h:Up A3):OS (Up (Up A3)):=((I1 (R7 (λ(A:Int)=>(if cmp .lss A (Ar.len b.eP)then(C4 b.eP A).bind λk=>if cmp .eql k.Typ a.Typ then(S7 N b a.dU h a.Var A).bind λi=>if i then I1 (some ([[(⟨a.Var,A⟩:A3)]],())) λ_=>some ([],.inl (ar .add .i64 A 1))else some ([],.inl (ar .add .i64 A 1))else some ([],.inl (ar .add .i64 A 1))else some ([],.inr ()):OS (Up (Up A3)×((Int)⊕(Unit))))) N e) λl=>some ([],())):OS (Up (Up A3)×Unit)).bind λq=>some q.1
def X5(a:C2)(F:A0)(b:Up A3)(e:Int):OS (Up (Up A3)):=Bb N e a F b
def L9(a:Up (Up A3)):OS (Up (Up A3)):=((I1 (R7 (λ(A:Int)=>(if cmp .lss A (Ar.len a)then(C4 a A).bind λb=>I1 (some ([b],())) λ_=>some ([],.inl (ar .add .i64 A 1))else some ([],.inr ()):OS (Up (Up A3)×((Int)⊕(Unit))))) N 0) λe=>some ([],())):OS (Up (Up A3)×Unit)).bind λq=>some q.1
def BC(a:Up (Up A3)):OS (Up (Up A3)):=L9 N a
def Iy (N:Nat)(a:A3)(b:A3):OS Int:=some (ar .sub .i64 a.at_ b.at_)
def X7(a:Up A3)(b:Up A3):OS (Up A3):=(YZ 0 (ar .add .i64 (Ar.len a) (Ar.len b)) ((⟨0,0⟩:A3):A3)).bind λe=>(K2 e a).bind λh=>(K2 h b).bind λi=>(Pz (λl n=>Iy N l n) i).bind λk=>some k
def Y3 (N:Nat)(a:Up A3):OS Int:=(C4 a (ar .sub .i64 (Ar.len a) 1)).bind λb=>some b.at_
def BY(a:Up A3)(b:A3->OS Bool):OS Int:=(loopN (λ(A:Int)=>(if cmp .lss A (Ar.len a)then(C4 a A).bind λh=>(b h).bind λe=>if e then some (.inr (.inr A))else some (.inl (ar .add .i64 A 1))else some (.inr (.inl ())):OS ((Int)⊕(Unit⊕Int)))) N 0).bind λs=>match s with
 | .inl k=>some (-1)
 | .inr i=>some i
def S5(a:Up A3)(b:A3->OS Bool):OS Bool:=(BY N a b).bind λe=>some (cmp .geq e 0)
def Dh (N:Nat)(b:A3)(a:Int):OS Bool:=some (cmp .eql b.at_ a)
def CC(a:Up A3)(b:Int):OS Bool:=(S5 N a (λh=>Dh N h b)).bind λe=>some e
def EC(b:A3)(a:Up A3):OS Bool:=(CC N a b.at_).bind λe=>some e
def Gl(a:Up A3)(b:Up A3):OS Bool:=(S5 N a (λh=>EC N h b)).bind λe=>some e
def Bp (N:Nat):Nat->Up (Up (Up A3))->Up A3->OS (Up (Up A3))
 |0,_,_=>none
 |n+1,e,b=>((if cmp .eql (Ar.len e) 0 then I1 (some ([b],())) λ_=>some ([],())else(C4 e 0).bind λr=>I1 (R7 (λ(a:Int)=>(if cmp .lss a (Ar.len r)then(C4 r a).bind λv=>(Gl N b v).bind λk=>if nt k then(Dc e (some 1) none none).bind λh=>(X7 N b v).bind λl=>(Bp N n h l).bind λi=>I1 (some (i,())) λ_=>some ([],.inl (ar .add .i64 a 1))else some ([],.inl (ar .add .i64 a 1))else some ([],.inr ()):OS (Up (Up A3)×((Int)⊕(Unit))))) N 0) λw=>some ([],())):OS (Up (Up A3)×Unit)).bind λq=>some q.1
def Cl(e:C2) (F:A0) (r:Up A3) (b:Up A3):OS Bool:=if cmp .eql F.Op 6 then(Y3 N b).bind λv=>(C4 e.eP v).bind λK=>(C4 b 0).bind λP=>(C4 e.eP P.at_).bind λV=>some (cmp .leq (ar .sub .i64 K.Time V.Time) F.Span)else if cmp .eql F.Op 7 then(X7 N r b).bind λw=>(Bu N e w (Ar.len e.eP)).bind λx=>(Ll N F.dU x (-1) (⟨0,0,0,0,[]⟩:B0)).bind λy=>some y else(X7 N r b).bind λH=>(C4 b 0).bind λc=>(loopN (λ(a:Int)=>((Y3 N b).bind λh=>if cmp .lss a h then(C4 e.eP a).bind λn=>if cmp .eql n.Typ F.Typ then(CC N b a).bind λi=>if nt i then(S7 N e F.dU H F.Var a).bind λk=>if k then some (.inr (.inr ()))else some (.inl (ar .add .i64 a 1))else some (.inl (ar .add .i64 a 1))else some (.inl (ar .add .i64 a 1))else some (.inr (.inl ())):OS ((Int)⊕(Unit⊕Unit)))) N (ar .add .i64 c.at_ 1)).bind λl=>match l with
   | .inl d=>some true
   | .inr f=>some false
mutual
def G6 (N:Nat):Nat->C2->A0->Up A3->Int->OS (Up (Up A3))
 |0,_,_,_,_=>none
 |n+1,H,F,K,P=>(Ho N).bind λg=>(C4 ([λa b e h=>X5 N a b e h,λa b e h=>W5 N n a b e h,λa b e h=>W6 N n a b e h,λa b e h=>W7 N n a b e h,λa b e h=>V2 N n a b e h,λa b e h=>M3 N n a b e h,λa b e h=>M3 N n a b e h,λa b e h=>M3 N n a b e h]:Up (C2->A0->(Up A3)->Int->OS (Up (Up A3)))) F.Op).bind λV=>(V H F K P).bind λc=>(E8 (λ(i:(Up (Uf×Bool))×(Up (Up A3))) (v:(Up A3))=>((Aa N v).bind λr=>(Gf i.1 r (false:Bool)).bind λx=>if x.1 then some (.inl (i.1,i.2))else(FX i.1 r true).bind λl=>(K2 i.2 ([v])).bind λk=>((if cmp .gtr (Ar.len k) 4096 then none else some ()):OS (Unit)).bind λd=>if H.full then some (.inr (l,k))else some (.inl (l,k)):OS (((Up (Uf×Bool))×(Up (Up A3)))⊕(((Up (Uf×Bool))×(Up (Up A3))))))) c (([]:Up (Uf×Bool)),[])).bind λw=>match w with
  | .inl y=>some y.2
  | .inr f=>some ([])
def W5 (N:Nat):Nat->C2->A0->Up A3->Int->OS (Up (Up A3))
 |0,_,_,_,_=>none
 |n+1,a,F,b,e=>if cmp .eql (Ar.len F.dT) 1 then(C4 F.dT 0).bind λr=>(G6 N n a r b e).bind λi=>(BC N i).bind λk=>some k else(Dc F.dT (some 1) none none).bind λh=>(C4 F.dT 0).bind λv=>(V1 N n a v b e (λw x=>U3 N n w x a ({F with dT:=h}))).bind λl=>some l
def W6 (N:Nat):Nat->C2->A0->Up A3->Int->OS (Up (Up A3))
 |0,_,_,_,_=>none
 |n+1,a,F,b,e=>Aw N n F a b e
def W7 (N:Nat):Nat->C2->A0->Up A3->Int->OS (Up (Up A3))
 |0,_,_,_,_=>none
 |n+1,a,F,b,e=>Ax N n F a b e
def V2 (N:Nat):Nat->C2->A0->Up A3->Int->OS (Up (Up A3))
 |0,_,_,_,_=>none
 |n+1,a,F,b,e=>Ae N n a F b e
def M3 (N:Nat):Nat->C2->A0->Up A3->Int->OS (Up (Up A3))
 |0,_,_,_,_=>none
 |n+1,a,F,b,e=>Ad N n a F b e
def V1 (N:Nat):Nat->C2->A0->Up A3->Int->((Up A3)->Int->OS (Up (Up A3)))->OS (Up (Up A3))
 |0,_,_,_,_,_=>none
 |n+1,a,F,b,e,h=>Ac N n a F b e h
def U3 (N:Nat):Nat->Up A3->Int->C2->A0->OS (Up (Up A3))
 |0,_,_,_,_=>none
 |n+1,b,e,a,h=>(G6 N n a h b e).bind λi=>some i
def Aw (N:Nat):Nat->A0->C2->Up A3->Int->OS (Up (Up A3))
 |0,_,_,_,_=>none
 |n+1,e,i,k,l=>((I1 (R7 (λ(A:Int)=>(if cmp .lss A (Ar.len e.dT)then(C4 e.dT A).bind λv=>(G6 N n i v k l).bind λh=>I1 (R7 (λ(a:Int)=>(if cmp .lss a (Ar.len h)then(C4 h a).bind λb=>I1 (some ([b],())) λ_=>some ([],.inl (ar .add .i64 a 1))else some ([],.inr ()):OS (Up (Up A3)×((Int)⊕(Unit))))) N 0) λr=>some ([],.inl (ar .add .i64 A 1))else some ([],.inr ()):OS (Up (Up A3)×((Int)⊕(Unit))))) N 0) λw=>some ([],())):OS (Up (Up A3)×Unit)).bind λq=>some q.1
def Ax (N:Nat):Nat->A0->C2->Up A3->Int->OS (Up (Up A3))
 |0,_,_,_,_=>none
 |n+1,e,h,i,k=>((I1 (R7 (λ(A:(Up (Up (Up A3)))×Int)=>(if cmp .lss A.2 (Ar.len e.dT)then(C4 e.dT A.2).bind λv=>(G6 N n h v i k).bind λl=>(K2 A.1 ([l])).bind λa=>some ([],.inl (a,ar .add .i64 A.2 1))else some ([],.inr A.1):OS (Up (Up A3)×(((Up (Up (Up A3)))×Int)⊕(((Up (Up (Up A3))))))))) N ([],0)) λr=>if nt h.full then(Bp N N r ([])).bind λb=>I1 (some (b,())) λ_=>some ([],())else some ([],())):OS (Up (Up A3)×Unit)).bind λq=>some q.1
def Ae (N:Nat):Nat->C2->A0->Up A3->Int->OS (Up (Up A3))
 |0,_,_,_,_=>none
 | n+1,a,b,r,v=>(((C4 b.dT 0).bind λy=>(G6 N n a y r v).bind λw=>I1 (R7 (λ(i:Int)=>(if cmp .lss i (Ar.len w)then(C4 w i).bind λH=>if a.full then some ([],.inr (.inr ()))else I1 (some ([H],())) λ_=>some ([],.inl (ar .add .i64 i 1))else some ([],.inr (.inl ())):OS (Up (Up A3)×((Int)⊕(Unit⊕Unit))))) N 0) λx=>match x with
   | .inl P=>(C4 b.dT 0).bind λk=>(V1 N n a k r v (λK V=>Q2 N n K V a b)).bind λh=>I1 (Ca (λ(_:Unit) (l:(Up A3))=>(I1 (some ([l],())) λ_=>some ([],.inl ()):OS (Up (Up A3)×(Unit⊕Unit)))) h ()) λe=>match e with
    | .inl _=>some ([],())
    | .inr _=>none
   | .inr c=>some ([],())):OS (Up (Up A3)×Unit)).bind λq=>some q.1
def Q2 (N:Nat):Nat->Up A3->Int->C2->A0->OS (Up (Up A3))
 |0,_,_,_,_=>none
 |n+1,b,e,a,h=>(G6 N n a h b e).bind λi=>some i
def Ad (N:Nat):Nat->C2->A0->Up A3->Int->OS (Up (Up A3))
 |0,_,_,_,_=>none
 |n+1,e,h,i,r=>(((C4 h.dT 0).bind λv=>(G6 N n e v i r).bind λk=>I1 (R7 (λ(a:Int)=>(if cmp .lss a (Ar.len k)then(C4 k a).bind λl=>(Cl N e h i l).bind λb=>if b then I1 (some ([l],())) λ_=>some ([],.inl (ar .add .i64 a 1))else some ([],.inl (ar .add .i64 a 1))else some ([],.inr ()):OS (Up (Up A3)×((Int)⊕(Unit))))) N 0) λw=>some ([],())):OS (Up (Up A3)×Unit)).bind λq=>some q.1
def Ac (N:Nat):Nat->C2->A0->Up A3->Int->((Up A3)->Int->OS (Up (Up A3)))->OS (Up (Up A3))
 |0,_,_,_,_,_=>none
 | n + 1,r,x,v,y,H=>(((G6 N n r x v y).bind λw=>I1 (R7 (λ(s:Int)=>(if cmp .lss s (Ar.len w)then(C4 w s).bind λl=>(X7 N v l).bind λK=>(Y3 N l).bind λe=>(H K (ar .add .i64 e 1)).bind λb=>I1 (R7 (λ(a:Int)=>(if cmp .lss a (Ar.len b)then(C4 b a).bind λk=>if r.full then some ([],.inr (.inr ()))else(X7 N l k).bind λh=>I1 (some ([h],())) λ_=>some ([],.inl (ar .add .i64 a 1))else some ([],.inr (.inl ())):OS (Up (Up A3)×((Int)⊕(Unit⊕Unit))))) N 0) λi=>match i with
       | .inl V=>some ([],.inl (ar .add .i64 s 1))
       | .inr c=>some ([],.inr (.inr ()))else some ([],.inr (.inl ())):OS (Up (Up A3)×((Int)⊕(Unit⊕Unit))))) N 0) λP=>match P with
   | .inl d=>some ([],())
   | .inr f=>some ([],())):OS (Up (Up A3)×Unit)).bind λq=>some q.1
end
def N3(a:Up N2)(b:Up N2)(h:N2->N2->OS Int):OS Int:=(loopN (λ(A:Int)=>(if cmp .lss A (Ar.len a)then(C4 a A).bind λi=>if cmp .geq A (Ar.len b)then some (.inr (.inr 1))else(C4 b A).bind λx5=>(h i x5).bind λe=>if cmp .neq e 0 then some (.inr (.inr e))else some (.inl (ar .add .i64 A 1))else some (.inr (.inl ())):OS ((Int)⊕(Unit⊕Int)))) N 0).bind λs=>match s with
 | .inl l=>if cmp .lss (Ar.len a) (Ar.len b)then some (-1)else some 0
 | .inr k=>some k
def NU(a:Wd)(b:Wd):OS Int:=(V6 N a.Time b.Time).bind λe=>(V6 N a.Source b.Source).bind λh=>(V6 N a.Seq b.Seq).bind λi=>(IF N ([e,h,i])).bind λk=>some k
def Ej(a:N2)(b:N2):OS Int:=(NU N a.Ref b.Ref).bind λe=>(V6 N a.Var b.Var).bind λh=>(IF N ([e,h])).bind λi=>some i
def Gb(a:P6)(b:P6):OS Int:=(N3 N a.eB b.eB (λh i=>Ej N h i)).bind λe=>some e
def Bc(F:A0)(h:Up B0):OS ((Up P6)×Int):=(Et N F).bind λw=>if cmp .neq w 0 then some ([],w)else(Kq N h).bind λx=>if cmp .neq x 0 then some ([],x)else(G6 N N (⟨h,false⟩:C2) F ([]) 0).bind λy=>(loopN (λ(b:Int×(Up P6))=>(if cmp .lss b.1 (Ar.len y)then(C4 y b.1).bind λH=>(loopN (λ(a:Int×P6)=>(if cmp .lss a.1 (Ar.len H)then(C4 H a.1).bind λe=>(C4 h e.at_).bind λv=>(KI N v).bind λn=>(K2 a.2.eB ([(⟨e.eF,n⟩:N2)])).bind λi=>some (.inl (ar .add .i64 a.1 1,{a.2 with eB:=i}))else some (.inr a.2):OS ((Int×P6)⊕(P6)))) N (0,(⟨[]⟩:P6))).bind λr=>(K2 b.2 ([r])).bind λk=>some (.inl (ar .add .i64 b.1 1,k))else some (.inr b.2):OS ((Int×(Up P6))⊕(((Up P6)))))) N (0,([]:Up P6))).bind λK=>(Pz (λP V=>Gb N P V) K).bind λl=>some (l,0)
def Bd(F:A0)(b:Up B0):OS ((Up P6)×Int):=(Bc N F b).bind λa=>some (a.1,a.2)
def MU (N:Nat)(a:B0):OS Int:=if Ar.or (cmp .lss a.Source 0) (cmp .geq a.Source 8)then some 32 else if Ar.or (Ar.or (Ar.or (cmp .lss a.Seq 0) (cmp .gtr a.Seq 1099511627776)) (cmp .lss a.Time 0)) (cmp .gtr a.Time 1099511627776)then some 2 else some 0
def Mz(h:Up F6) (a:B0):OS Int:=(MU N a).bind λi=>if cmp .neq i 0 then some i else if Ar.or (cmp .lss a.Typ 0) (cmp .geq a.Typ (Ar.len h))then some 6 else(C4 h a.Typ).bind λl=>if cmp .neq (Ar.len a.Values) (Ar.len l.Fields)then some 15 else(loopN (λ(b:Int)=>(if cmp .lss b (Ar.len a.Values)then(C4 a.Values b).bind λx5=>(BL N x5).bind λk=>if cmp .neq k 0 then some (.inr (.inr k))else(C4 l.Fields b).bind λr=>if cmp .neq x5.Kind r.Kind then some (.inr (.inr 9))else some (.inl (ar .add .i64 b 1))else some (.inr (.inl ())):OS ((Int)⊕(Unit⊕Int)))) N 0).bind λn=>match n with
    | .inl v=>some 0
    | .inr e=>some e
def MA(a:Up F6)(e:B0):OS Int:=(Bq N a).bind λb=>if cmp .neq b 0 then some b else(Mz N a e).bind λh=>some h
def W0(b:Up F6)(a:B0):OS (E9×Int):=(MA N b a).bind λe=>if cmp .neq e 0 then some ((⟨0,0⟩:E9),e)else(C4 b a.Typ).bind λi=>(CH N i).bind λh=>if cmp .geq h 0 then(C4 a.Values h).bind λk=>some ((⟨a.Typ,k.Num⟩:E9),0)else some ((⟨a.Typ,0⟩:E9),0)
def IY(b:D1)(e:Up E9):OS Bool:=(Dp N b e).bind λa=>some (an (cmp .eql a.2 0) a.1)
def AP(a:Up P6)(b:P6->OS Bool):OS Int:=(loopN (λ(A:Int)=>(if cmp .lss A (Ar.len a)then(C4 a A).bind λh=>(b h).bind λe=>if e then some (.inr (.inr A))else some (.inl (ar .add .i64 A 1))else some (.inr (.inl ())):OS ((Int)⊕(Unit⊕Int)))) N 0).bind λs=>match s with
 | .inl k=>some (-1)
 | .inr i=>some i
def U4(a:Up P6)(b:P6->OS Bool):OS Bool:=(AP N a b).bind λe=>some (cmp .geq e 0)
def Y7 (N:Nat)(b:P6)(a:Up B0):OS Bool:=some (cmp .eql (Ar.len b.eB) (Ar.len a))
def Ez(h:Up F6) (F:A0) (b:Up B0):OS Bool:=if cmp .gtr (Ar.len h) 4 then(BN N).bind λP=>some P else(Ml N F).bind λV=>if nt V then(BN N).bind λc=>some c else(Mk N F b).bind λd=>if Ar.or (nt d) (cmp .gtr (Ar.len b) 6)then(BN N).bind λf=>some f else(U5 N b (λx=>Y8 N x h)).bind λg=>if g then(BN N).bind λj=>some j else(AO N h F).bind λH=>(Bd N F b).bind λK=>if Ar.or (cmp .neq H.2 0) (cmp .neq K.2 0)then(BN N).bind λk=>some k else(loopN (λ(a:(Up E9)×Int)=>(if cmp .lss a.2 (Ar.len b)then(C4 b a.2).bind λw=>(W0 N h w).bind λe=>if cmp .neq e.2 0 then some (.inr (.inr ()))else(K2 a.1 ([e.1])).bind λi=>some (.inl (i,ar .add .i64 a.2 1))else some (.inr (.inl a.1)):OS (((Up E9)×Int)⊕(((Up E9))⊕Unit)))) N ([],0)).bind λv=>match v with
      | .inl y=>(IY N H.1 y).bind λl=>(U4 N K.1 (λx=>Y7 N x b)).bind λn=>if beq l n then(BN N).bind λr=>some r else some false
      | .inr m=>some false
end Go.Ab
