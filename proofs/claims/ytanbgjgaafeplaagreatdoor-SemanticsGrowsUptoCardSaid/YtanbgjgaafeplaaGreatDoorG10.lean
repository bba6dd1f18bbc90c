/- GTTypes GTTy GTEn -/
import Derived.Test.YtanbgjgaafeplaaGreatDoorG09
import Derived.KernelRfl
import Derived.Test.YtanbgjgaafeplaaGreatDoorChecked
set_option linter.all false
open Go.Ab.Ar (lst)
namespace Go.Ab
open Go.RowKit Go.Proofs
set_option maxRecDepth 100000
theorem tk {t:Nat}{I:Wo}(a:Eu Tryz.prog t=some I.sz:=by kernel_rfl)(b:Pw Tryz.prog t=some I.by_:=by kernel_rfl)(c:PC Tryz.prog t=some I.ag:=by kernel_rfl)(d:Fv Tryz.prog t=I.sl:=by kernel_rfl)(e:arO Tryz.prog t=I.ar:=by kernel_rfl)
 (f:Ye Tryz.prog t 0 I.fs:=by repeat' (first|refine⟨?_,?_⟩|exact True.intro|kernel_rfl)) (g:AO I.pl (fun l=>IZ Tryz.prog t=some l):=by first|exact True.intro|(show IZ Tryz.prog _=some _;kernel_rfl))
 (h:AO I.ze (fun z=>Gw Tryz.prog t=some z):=by first|exact True.intro|(show Gw Tryz.prog _=some _;kernel_rfl)) (i:AO I.ek (fun k=>Dm Tryz.prog 9 t=some k):=by first|exact True.intro|(show Dm Tryz.prog 9 _=some _;kernel_rfl)) (j:OC Tryz.prog t=I.st:=by kernel_rfl)
 (k:I.bo=true→UJ ((Tryz.prog).underlying t)=true:=by intro h;first|(cases h;done)|kernel_rfl) (l:AO I.ik (fun k=>(Tryz.prog).underlying t=some (.int k)):=by first|exact True.intro|(show(Tryz.prog).underlying _=some (.int _);kernel_rfl))
 (m:I.nif=true→ifO Tryz.prog t=false:=by intro h;first|(cases h;done)|kernel_rfl):Ai3 Tryz.prog t I:=⟨a,b,c,d,e,f,g,h,i,j,k,l,m⟩
def TT :EW:=[(2,⟨1,8,false,none,none,[],none,some (.int .i64 0),some [0],false,false,some .i64,true⟩),
 (3,⟨1,8,false,none,none,[],none,some (.int .i64 0),some [0],false,false,some .i64,true⟩),
 (4,⟨1,1,false,none,none,[],none,some (.bool false),some [1],false,true,none,true⟩),
 (5,⟨1,1,false,none,none,[],none,some (.int .u8 0),some [0],false,false,some .u8,true⟩),
 (9,⟨1,16,false,none,none,[],none,some (.str ⟨#[]⟩),some [2],true,false,none,true⟩),
 (22,⟨1,24,false,some (29),none,[],none,some (.sl [] .nil),none,false,false,none,true⟩),
 (23,⟨1,24,false,some (27),none,[],none,some (.sl [] .nil),none,false,false,none,true⟩),
 (25,⟨3,32,true,none,none,[some (0,3),some (1,3),some (2,9)],some [(0,1),(1,1),(2,1)],some (.agg [.int .i64 0,.int .i64 0,.str ⟨#[]⟩]),some [0,0,2],false,false,none,true⟩),
 (27,⟨8,88,true,none,none,[some (0,3),some (1,23),some (2,3),some (3,3),some (4,3),some (5,25)],some [(0,1),(1,1),(2,1),(3,1),(4,1),(5,3)],some (.agg [.int .i64 0,.sl [] .nil,.int .i64 0,.int .i64 0,.int .i64 0,.int .i64 0,.int .i64 0,.str ⟨#[]⟩]),none,false,false,none,true⟩),
 (29,⟨14,152,true,none,none,[some (0,3),some (1,22),some (2,3),some (3,3),some (4,3),some (5,3),some (6,27)],some [(0,1),(1,1),(2,1),(3,1),(4,1),(5,1),(6,8)],some (.agg [.int .i64 0,.sl [] .nil,.int .i64 0,.int .i64 0,.int .i64 0,.int .i64 0,.int .i64 0,.sl [] .nil,.int .i64 0,.int .i64 0,.int .i64 0,.int .i64 0,.int .i64 0,.str ⟨#[]⟩]),none,false,false,none,true⟩),
 (30,⟨1,24,false,some (62),none,[],none,some (.sl [] .nil),none,false,false,none,true⟩),
 (33,⟨1,24,false,some (48),none,[],none,some (.sl [] .nil),none,false,false,none,true⟩),
 (34,⟨1,8,false,none,none,[],none,some (.int .i64 0),some [0],false,false,some .i64,true⟩),
 (42,⟨1,24,false,some (3),none,[],none,some (.sl [] .nil),none,false,false,none,true⟩),
 (46,⟨1,24,false,some (52),none,[],none,some (.sl [] .nil),none,false,false,none,true⟩),
 (48,⟨1,24,true,none,none,[some (0,46)],some [(0,1)],some (.agg [.sl [] .nil]),none,false,false,none,true⟩),
 (50,⟨3,24,true,none,none,[some (0,3),some (1,3),some (2,3)],some [(0,1),(1,1),(2,1)],some (.agg [.int .i64 0,.int .i64 0,.int .i64 0]),some [0,0,0],false,false,none,true⟩),
 (52,⟨4,32,true,none,none,[some (0,3),some (1,50)],some [(0,1),(1,3)],some (.agg [.int .i64 0,.int .i64 0,.int .i64 0,.int .i64 0]),some [0,0,0,0],false,false,none,true⟩),
 (60,⟨1,24,false,some (25),none,[],none,some (.sl [] .nil),none,false,false,none,true⟩),
 (62,⟨5,56,true,none,none,[some (0,3),some (1,3),some (2,3),some (3,3),some (4,60)],some [(0,1),(1,1),(2,1),(3,1),(4,1)],some (.agg [.int .i64 0,.int .i64 0,.int .i64 0,.int .i64 0,.sl [] .nil]),none,false,false,none,true⟩),
 (91,⟨1,24,false,some (96),none,[],none,some (.sl [] .nil),none,false,false,none,true⟩),
 (94,⟨1,24,false,some (157),none,[],none,some (.sl [] .nil),none,false,false,none,true⟩),
 (96,⟨17,240,true,none,none,[some (0,3),some (1,3),some (2,3),some (3,3),some (4,27),some (12,42),some (13,42),some (14,23),some (15,94),some (16,42)],some [(0,1),(1,1),(2,1),(3,1),(4,8),(12,1),(13,1),(14,1),(15,1),(16,1)],some (.agg [.int .i64 0,.int .i64 0,.int .i64 0,.int .i64 0,.int .i64 0,.sl [] .nil,.int .i64 0,.int .i64 0,.int .i64 0,.int .i64 0,.int .i64 0,.str ⟨#[]⟩,.sl [] .nil,.sl [] .nil,.sl [] .nil,.sl [] .nil,.sl [] .nil]),none,false,false,none,true⟩),
 (98,⟨1,24,false,some (30),none,[],none,some (.sl [] .nil),none,false,false,none,true⟩),
 (100,⟨1,24,true,none,none,[some (0,98)],some [(0,1)],some (.agg [.sl [] .nil]),none,false,false,none,true⟩),
 (127,⟨1,24,false,some (4),none,[],none,some (.sl [] .nil),none,false,false,none,true⟩),
 (148,⟨1,24,false,some (152),none,[],none,some (.sl [] .nil),none,false,false,none,true⟩),
 (152,⟨11,112,true,none,none,[some (0,3),some (1,3),some (2,3),some (3,27)],some [(0,1),(1,1),(2,1),(3,8)],some (.agg [.int .i64 0,.int .i64 0,.int .i64 0,.int .i64 0,.sl [] .nil,.int .i64 0,.int .i64 0,.int .i64 0,.int .i64 0,.int .i64 0,.str ⟨#[]⟩]),none,false,false,none,true⟩),
 (157,⟨2,16,true,none,none,[some (0,3),some (1,3)],some [(0,1),(1,1)],some (.agg [.int .i64 0,.int .i64 0]),some [0,0],false,false,none,true⟩),
 (166,⟨1,8,false,none,none,[],none,some (.nilp),none,false,false,none,true⟩),
 (168,⟨2,32,true,none,none,[some (0,30),some (1,4)],some [(0,1),(1,1)],some (.agg [.sl [] .nil,.bool false]),none,false,false,none,true⟩),
 (169,⟨1,24,false,some (172),none,[],none,some (.sl [] .nil),none,false,false,none,true⟩),
 (171,⟨1,24,false,some (174),none,[],none,some (.sl [] .nil),none,false,false,none,true⟩),
 (172,⟨1,24,false,some (174),none,[],none,some (.sl [] .nil),none,false,false,none,true⟩),
 (174,⟨2,16,true,none,none,[some (0,3),some (1,3)],some [(0,1),(1,1)],some (.agg [.int .i64 0,.int .i64 0]),some [0,0],false,false,none,true⟩),
 (176,⟨1,24,false,some (179),none,[],none,some (.sl [] .nil),none,false,false,none,true⟩),
 (179,⟨1,24,false,some (227),none,[],none,some (.sl [] .nil),none,false,false,none,true⟩),
 (186,⟨1,8,false,none,none,[],none,some (.int .u64 0),some [0],false,false,some .u64,true⟩),
 (195,⟨6,24,true,none,none,[some (0,3),some (1,3),some (2,4),some (3,4),some (4,4),some (5,4)],some [(0,1),(1,1),(2,1),(3,1),(4,1),(5,1)],some (.agg [.int .i64 0,.int .i64 0,.bool false,.bool false,.bool false,.bool false]),some [0,0,1,1,1,1],false,false,none,true⟩),
 (196,⟨66,264,true,none,some (11,195),[],none,none,none,false,false,none,true⟩),
 (205,⟨15,160,true,none,none,[some (0,4),some (1,29)],some [(0,1),(1,14)],some (.agg [.bool false,.int .i64 0,.sl [] .nil,.int .i64 0,.int .i64 0,.int .i64 0,.int .i64 0,.int .i64 0,.sl [] .nil,.int .i64 0,.int .i64 0,.int .i64 0,.int .i64 0,.int .i64 0,.str ⟨#[]⟩]),none,false,false,none,true⟩),
 (209,⟨1,8,false,none,none,[],none,some (.nilmap),none,false,false,none,true⟩),
 (212,⟨2,16,true,none,none,[some (0,3),some (1,3)],some [(0,1),(1,1)],some (.agg [.int .i64 0,.int .i64 0]),some [0,0],false,false,none,true⟩),
 (214,⟨1,8,false,none,none,[],none,some (.nilmap),none,false,false,none,true⟩),
 (216,⟨1,8,false,none,none,[],none,some (.nilf),none,false,false,none,true⟩),
 (217,⟨8,64,true,none,some (8,216),[],none,some (.agg [.nilf,.nilf,.nilf,.nilf,.nilf,.nilf,.nilf,.nilf]),none,false,false,none,true⟩),
 (227,⟨2,16,true,none,none,[some (0,3),some (1,3)],some [(0,1),(1,1)],some (.agg [.int .i64 0,.int .i64 0]),some [0,0],false,false,none,true⟩),
 (232,⟨1,8,false,none,none,[],none,some (.nilf),none,false,false,none,true⟩),
 (239,⟨1,24,false,some (5),none,[],none,some (.sl [] .nil),none,false,false,none,true⟩),
 (242,⟨1,8,false,none,none,[],none,some (.int .i64 0),some [0],false,false,some .i64,true⟩),
 (249,⟨1,4,false,none,none,[],none,some (.int .u32 0),some [0],false,false,some .u32,true⟩),
 (251,⟨1,8,false,none,none,[],none,some (.int .u64 0),some [0],false,false,some .u64,true⟩),
 (269,⟨1,8,false,none,none,[],none,some (.nilf),none,false,false,none,true⟩),
 (273,⟨1,8,false,none,none,[],none,some (.nilf),none,false,false,none,true⟩),
 (274,⟨1,24,false,some (169),none,[],none,some (.sl [] .nil),none,false,false,none,true⟩),
 (277,⟨1,8,false,none,none,[],none,some (.int .u64 0),some [0],false,false,some .u64,true⟩),
 (290,⟨1,24,false,some (23),none,[],none,some (.sl [] .nil),none,false,false,none,true⟩),
 (295,⟨5,48,true,none,none,[some (0,3),some (1,3),some (2,25)],some [(0,1),(1,1),(2,3)],some (.agg [.int .i64 0,.int .i64 0,.int .i64 0,.int .i64 0,.str ⟨#[]⟩]),some [0,0,0,0,2],false,false,none,true⟩),
 (308,⟨1,24,false,some (42),none,[],none,some (.sl [] .nil),none,false,false,none,true⟩),
 (310,⟨1,24,false,some (94),none,[],none,some (.sl [] .nil),none,false,false,none,true⟩),
 (322,⟨24,24,true,none,some (24,5),[],none,some (.agg [.int .u8 0,.int .u8 0,.int .u8 0,.int .u8 0,.int .u8 0,.int .u8 0,.int .u8 0,.int .u8 0,.int .u8 0,.int .u8 0,.int .u8 0,.int .u8 0,.int .u8 0,.int .u8 0,.int .u8 0,.int .u8 0,.int .u8 0,.int .u8 0,.int .u8 0,.int .u8 0,.int .u8 0,.int .u8 0,.int .u8 0,.int .u8 0]),none,false,false,none,true⟩),
 (326,⟨1,8,false,none,none,[],none,some (.nilmap),none,false,false,none,true⟩),
 (329,⟨8,96,true,none,none,[some (0,100),some (1,3),some (2,62),some (7,326)],some [(0,1),(1,1),(2,5),(7,1)],some (.agg [.sl [] .nil,.int .i64 0,.int .i64 0,.int .i64 0,.int .i64 0,.int .i64 0,.sl [] .nil,.nilmap]),none,false,false,none,true⟩),
 (334,⟨20,160,true,none,some (20,251),[],none,some (.agg [.int .u64 0,.int .u64 0,.int .u64 0,.int .u64 0,.int .u64 0,.int .u64 0,.int .u64 0,.int .u64 0,.int .u64 0,.int .u64 0,.int .u64 0,.int .u64 0,.int .u64 0,.int .u64 0,.int .u64 0,.int .u64 0,.int .u64 0,.int .u64 0,.int .u64 0,.int .u64 0]),none,false,false,none,true⟩),
 (335,⟨65,65,true,none,some (65,5),[],none,none,none,false,false,none,true⟩),
 (337,⟨1,8,false,none,none,[],none,some (.nilf),none,false,false,none,true⟩),
 (349,⟨32,32,true,none,some (32,5),[],none,some (.agg [.int .u8 0,.int .u8 0,.int .u8 0,.int .u8 0,.int .u8 0,.int .u8 0,.int .u8 0,.int .u8 0,.int .u8 0,.int .u8 0,.int .u8 0,.int .u8 0,.int .u8 0,.int .u8 0,.int .u8 0,.int .u8 0,.int .u8 0,.int .u8 0,.int .u8 0,.int .u8 0,.int .u8 0,.int .u8 0,.int .u8 0,.int .u8 0,.int .u8 0,.int .u8 0,.int .u8 0,.int .u8 0,.int .u8 0,.int .u8 0,.int .u8 0,.int .u8 0]),none,false,false,none,true⟩),
 (350,⟨64,64,true,none,some (64,5),[],none,none,none,false,false,none,true⟩),
 (360,⟨1,8,false,none,none,[],none,some (.nilf),none,false,false,none,true⟩),
 (361,⟨6,48,true,none,some (6,360),[],none,some (.agg [.nilf,.nilf,.nilf,.nilf,.nilf,.nilf]),none,false,false,none,true⟩)]
theorem okT :Gu Tryz.prog TT:=⟨tk,tk,tk,tk,tk,tk,tk,tk,tk,tk,tk,tk,tk,tk,tk,tk,tk,tk,tk,tk,tk,tk,tk,tk,tk,tk,tk,tk,tk,tk,tk,tk,tk,tk,tk,tk,tk,tk,tk,tk,tk,tk,tk,tk,tk,tk,tk,tk,tk,tk,tk,tk,tk,tk,tk,tk,tk,tk,tk,tk,tk,tk,tk,tk,tk,tk,tk,tk,tk,tk,trivial⟩
end Go.Ab
namespace Go.Ab
structure A7 where
 Kind:Int
 Num:Int
 Text:ByteArray
structure A4 where
 Op:Int
 cP:List A4
 Var:Int
 Field:Int
 Kind:Int
 Value:A7
structure A0 where
 Op:Int
 cP:List A0
 Typ:Int
 Var:Int
 cS:Int
 Span:Int
 cQ:A4
structure A5 where
 Source:Int
 Seq:Int
 Typ:Int
 Time:Int
 Values:List A7
structure El where
 Time:Int
 Source:Int
 Seq:Int
structure C7 where
 Var:Int
 Ref:El
structure C8 where
 cR:List C7
structure PF where
 cS:Int
 Span:Int
structure JC where
 From:Int
 To:Int
 Var:Int
 Typ:Int
 cQ:A4
 Opens:List Int
 Closes:List Int
 Checks:List A4
 Limits:List PF
 Inside:List Int
structure DH where
 cY:List (List A5)
structure GGuard where
 cS:Int
 Typ:Int
 Var:Int
 cQ:A4
structure B0 where
 cX:List A5
 full:Bool
structure A1 where
 cU:Int
 at_:Int
structure L8 where
 Var:Int
 At:Int
structure H9 where
 cV:Int
 most:Int
 cT:Bool
 cond:Bool
 scope:Bool
 span:Bool
structure J4 where
 done:Bool
 p:A0
structure D1 where
 source:Int
 seq:Int
structure D0 where
 Kind:Int
 Count:Int
 Value:A7
structure P9 where
 env:DH
 own:Int
 event:A5
 apply:Unit
def G1 :List H9:=[⟨0,0,true,true,false,false⟩,⟨2,64,false,false,false,false⟩,⟨2,64,false,false,false,false⟩,⟨2,64,false,false,false,false⟩,⟨1,1,false,false,false,false⟩,⟨1,1,true,true,true,false⟩,⟨1,1,false,false,true,true⟩,⟨1,1,false,true,false,false⟩,⟨2,2,false,false,false,false⟩,⟨1,1,true,true,true,false⟩,⟨1,1,false,false,true,true⟩]
end Go.Ab
namespace Go.Ab
variable [Ar]
def Yi :List Int:=[5,6,7,8,10,11,12]
def Yh :List V:=[.func (.func 308) [] [.eref [.func (.func 307) [] []] 0],.func (.func 309) [] [.eref [.func (.func 307) [] []] 0],.func (.func 310) [] [],.func (.func 311) [] [],.func (.func 312) [] [],.func (.func 313) [] [],.func (.func 314) [] []]
class I0 where
 eAp0:A7→V
 eAo6:A4→V
 eAo2:A0→V
 eAo3:A5→V
 eAp1:C7→V
 eAo5:C8→V
 eAq5:PF→V
 eAo1:A1→V
 eAq2:L8→V
 eAq3:H9→V
 eAp8:D1→V
 eAp9:List A5→V
 eAp7:List (List A1)→V
 eAo7:List A1→V
 eAq6:List L8→V
 eAo8:∀x,eAp0 x= .agg [.int .i64 x.Kind,.int .i64 x.Num,.str x.Text]
 eAp2:∀x,eAo6 x= .agg [.int .i64 x.Op,.sl (lst eAo6 x.cP) .ro,.int .i64 x.Var,.int .i64 x.Field,.int .i64 x.Kind,.int .i64 x.Value.Kind,.int .i64 x.Value.Num,.str x.Value.Text]
 eAo4:∀x,eAo2 x= .agg [.int .i64 x.Op,.sl (lst eAo2 x.cP) .ro,.int .i64 x.Typ,.int .i64 x.Var,.int .i64 x.cS,.int .i64 x.Span,.int .i64 x.cQ.Op,.sl (lst eAo6 x.cQ.cP) .ro,.int .i64 x.cQ.Var,.int .i64 x.cQ.Field,.int .i64 x.cQ.Kind,.int .i64 x.cQ.Value.Kind,.int .i64 x.cQ.Value.Num,.str x.cQ.Value.Text]
 eAo9:∀x,eAo3 x= .agg [.int .i64 x.Source,.int .i64 x.Seq,.int .i64 x.Typ,.int .i64 x.Time,.sl (lst eAp0 x.Values) .ro]
 eAp5:∀x,eAp1 x= .agg [.int .i64 x.Var,.int .i64 x.Ref.Time,.int .i64 x.Ref.Source,.int .i64 x.Ref.Seq]
 eAp3:∀x,eAo5 x= .agg [.sl (lst eAp1 x.cR) .ro]
 eAq8:∀x,eAq5 x= .agg [.int .i64 x.cS,.int .i64 x.Span]
 eAp4:∀x,eAo1 x= .agg [.int .i64 x.cU,.int .i64 x.at_]
 eAq9:∀x,eAq2 x= .agg [.int .i64 x.Var,.int .i64 x.At]
 eAq7:∀x,eAq3 x= .agg [.int .i64 x.cV,.int .i64 x.most,.bool x.cT,.bool x.cond,.bool x.scope,.bool x.span]
 eAq0:∀x,eAp8 x= .agg [.int .i64 x.source,.int .i64 x.seq]
 eAq4:∀x,eAp9 x= .sl (lst eAo3 x) .ro
 eAq1:∀x,eAp7 x= .sl (lst eAo7 x) .ro
 eAp6:∀x,eAo7 x= .sl (lst eAo1 x) .ro
 eAr0:∀x,eAq6 x= .sl (lst eAq2 x) .ro
theorem Nt [I0](x:A7):(I0.eAp0 x).cells.length=3:=by rw[I0.eAo8];rfl
theorem WS [I0](x:A4):(I0.eAo6 x).cells.length=8:=by rw[I0.eAp2];rfl
theorem N4 [I0](x:A0):(I0.eAo2 x).cells.length=14:=by rw[I0.eAo4];rfl
theorem DL [I0](x:A5):(I0.eAo3 x).cells.length=5:=by rw[I0.eAo9];rfl
theorem Qc [I0](x:C7):(I0.eAp1 x).cells.length=4:=by rw[I0.eAp5];rfl
theorem Hq [I0](x:C8):(I0.eAo5 x).cells.length=1:=by rw[I0.eAp3];rfl
theorem Y3 [I0](x:A1):(I0.eAo1 x).cells.length=2:=by rw[I0.eAp4];rfl
theorem Cu [I0](x:List (List A1)):(I0.eAp7 x).cells.length=1:=by rw[I0.eAq1];rfl
theorem GA [I0](x:List A1):(I0.eAo7 x).cells.length=1:=by rw[I0.eAp6];rfl
variable [I0]
abbrev C0 (x:A0):List V:=[.int .i64 x.Op,.sl (lst I0.eAo2 x.cP) .ro,.int .i64 x.Typ,.int .i64 x.Var,.int .i64 x.cS,.int .i64 x.Span,.int .i64 x.cQ.Op,.sl (lst I0.eAo6 x.cQ.cP) .ro,.int .i64 x.cQ.Var,.int .i64 x.cQ.Field,.int .i64 x.cQ.Kind,.int .i64 x.cQ.Value.Kind,.int .i64 x.cQ.Value.Num,.str x.cQ.Value.Text]
abbrev B6 (x:A0):V:=.agg (C0 x)
abbrev CN (x:P9):List V:=[.sl (lst I0.eAp9 x.env.cY) .ro,.int .i64 x.own,.int .i64 x.event.Source,.int .i64 x.event.Seq,.int .i64 x.event.Typ,.int .i64 x.event.Time,.sl (lst I0.eAp0 x.event.Values) .ro,.fmap Yi Yh]
abbrev AW (x:P9):V:=.agg (CN x)
abbrev AR (x:A4):List V:=[.int .i64 x.Op,.sl (lst I0.eAo6 x.cP) .ro,.int .i64 x.Var,.int .i64 x.Field,.int .i64 x.Kind,.int .i64 x.Value.Kind,.int .i64 x.Value.Num,.str x.Value.Text]
abbrev H5 (x:A4):V:=.agg (AR x)
abbrev Lf (x:A5):List V:=[.int .i64 x.Source,.int .i64 x.Seq,.int .i64 x.Typ,.int .i64 x.Time,.sl (lst I0.eAp0 x.Values) .ro]
abbrev BC (x:A5):V:=.agg (Lf x)
abbrev ET (x:D0):List V:=[.int .i64 x.Kind,.int .i64 x.Count,.int .i64 x.Value.Kind,.int .i64 x.Value.Num,.str x.Value.Text]
abbrev J2 (x:D0):V:=.agg (ET x)
abbrev Dq (x:H9):List V:=[.int .i64 x.cV,.int .i64 x.most,.bool x.cT,.bool x.cond,.bool x.scope,.bool x.span]
abbrev Gf (x:H9):V:=.agg (Dq x)
abbrev Wj (x:C7):List V:=[.int .i64 x.Var,.int .i64 x.Ref.Time,.int .i64 x.Ref.Source,.int .i64 x.Ref.Seq]
abbrev AY (x:C7):V:=.agg (Wj x)
abbrev An1 (x:El):List V:=[.int .i64 x.Time,.int .i64 x.Source,.int .i64 x.Seq]
abbrev HJ (x:El):V:=.agg (An1 x)
abbrev B1 (x:B0):List V:=[.sl (lst I0.eAo3 x.cX) .ro,.bool x.full]
abbrev Q3 (x:A7):List V:=[.int .i64 x.Kind,.int .i64 x.Num,.str x.Text]
abbrev D4 (x:A7):V:=.agg (Q3 x)
abbrev FW (x:C8):List V:=[.sl (lst I0.eAp1 x.cR) .ro]
abbrev AX (x:C8):V:=.agg (FW x)
abbrev EI (x:A1):List V:=[.int .i64 x.cU,.int .i64 x.at_]
abbrev L9 (x:A1):V:=.agg (EI x)
abbrev An2 (x:DH):List V:=[.sl (lst I0.eAp9 x.cY) .ro]
abbrev PV (x:DH):V:=.agg (An2 x)
abbrev Jt (x:D1):List V:=[.int .i64 x.source,.int .i64 x.seq]
abbrev IS (x:D1):V:=.agg (Jt x)
end Go.Ab
