/- GTTypes GTTy GTEn -/
import Derived.Test.YtanbgjgaafeplaaGreatDoorH09
import Derived.KernelRfl
import Derived.Test.YtanbgjgaafeplaaGreatDoorChecked
set_option linter.all false
open Go.Ab.Ar (lst)
namespace Go.Ab
open Go.RowKit Go.Proofs
set_option maxRecDepth 100000
theorem tk {t:Nat}{I:Wp}(a:EN Tryz.prog t=some I.sz:=by kernel_rfl)(b:PC Tryz.prog t=some I.by_:=by kernel_rfl)(c:PH Tryz.prog t=some I.ag:=by kernel_rfl)(d:FT Tryz.prog t=I.sl:=by kernel_rfl)(e:arO Tryz.prog t=I.ar:=by kernel_rfl)
 (f:Yb Tryz.prog t 0 I.fs:=by repeat' (first|refine⟨?_,?_⟩|exact True.intro|kernel_rfl)) (g:AS I.pl (fun l=>JC Tryz.prog t=some l):=by first|exact True.intro|(show JC Tryz.prog _=some _;kernel_rfl))
 (h:AS I.ze (fun z=>GM Tryz.prog t=some z):=by first|exact True.intro|(show GM Tryz.prog _=some _;kernel_rfl)) (i:AS I.ek (fun k=>Dx Tryz.prog 9 t=some k):=by first|exact True.intro|(show Dx Tryz.prog 9 _=some _;kernel_rfl)) (j:OJ Tryz.prog t=I.st:=by kernel_rfl)
 (k:I.bo=true→UG ((Tryz.prog).underlying t)=true:=by intro h;first|(cases h;done)|kernel_rfl) (l:AS I.ik (fun k=>(Tryz.prog).underlying t=some (.int k)):=by first|exact True.intro|(show(Tryz.prog).underlying _=some (.int _);kernel_rfl))
 (m:I.nif=true→ifO Tryz.prog t=false:=by intro h;first|(cases h;done)|kernel_rfl):Aj3 Tryz.prog t I:=⟨a,b,c,d,e,f,g,h,i,j,k,l,m⟩
def TT :FP:=[(2,⟨1,8,false,none,none,[],none,some (.int .i64 0),some [0],false,false,some .i64,true⟩),
 (3,⟨1,8,false,none,none,[],none,some (.int .i64 0),some [0],false,false,some .i64,true⟩),
 (4,⟨1,1,false,none,none,[],none,some (.bool false),some [1],false,true,none,true⟩),
 (5,⟨1,1,false,none,none,[],none,some (.int .u8 0),some [0],false,false,some .u8,true⟩),
 (9,⟨1,16,false,none,none,[],none,some (.str ⟨#[]⟩),some [2],true,false,none,true⟩),
 (22,⟨1,24,false,some (29),none,[],none,some (.sl [] .nil),none,false,false,none,true⟩),
 (23,⟨1,24,false,some (27),none,[],none,some (.sl [] .nil),none,false,false,none,true⟩),
 (25,⟨3,32,true,none,none,[some (0,3),some (1,3),some (2,9)],some [(0,1),(1,1),(2,1)],some (.agg [.int .i64 0,.int .i64 0,.str ⟨#[]⟩]),some [0,0,2],false,false,none,true⟩),
 (27,⟨8,88,true,none,none,[some (0,3),some (1,23),some (2,3),some (3,3),some (4,3),some (5,25)],some [(0,1),(1,1),(2,1),(3,1),(4,1),(5,3)],some (.agg [.int .i64 0,.sl [] .nil,.int .i64 0,.int .i64 0,.int .i64 0,.int .i64 0,.int .i64 0,.str ⟨#[]⟩]),none,false,false,none,true⟩),
 (29,⟨14,152,true,none,none,[some (0,3),some (1,22),some (2,3),some (3,3),some (4,3),some (5,3),some (6,27)],some [(0,1),(1,1),(2,1),(3,1),(4,1),(5,1),(6,8)],some (.agg [.int .i64 0,.sl [] .nil,.int .i64 0,.int .i64 0,.int .i64 0,.int .i64 0,.int .i64 0,.sl [] .nil,.int .i64 0,.int .i64 0,.int .i64 0,.int .i64 0,.int .i64 0,.str ⟨#[]⟩]),none,false,false,none,true⟩),
 (30,⟨1,24,false,some (62),none,[],none,some (.sl [] .nil),none,false,false,none,true⟩),
 (33,⟨1,24,false,some (48),none,[],none,some (.sl [] .nil),none,false,false,none,true⟩),
 (34,⟨1,8,false,none,none,[],none,some (.int .i64 0),some [0],false,false,some .i64,true⟩),
 (42,⟨1,24,false,some (3),none,[],none,some (.sl [] .nil),none,false,false,none,true⟩),
 (46,⟨1,24,false,some (52),none,[],none,some (.sl [] .nil),none,false,false,none,true⟩),
 (48,⟨1,24,true,none,none,[some (0,46)],some [(0,1)],some (.agg [.sl [] .nil]),none,false,false,none,true⟩),
 (50,⟨3,24,true,none,none,[some (0,3),some (1,3),some (2,3)],some [(0,1),(1,1),(2,1)],some (.agg [.int .i64 0,.int .i64 0,.int .i64 0]),some [0,0,0],false,false,none,true⟩),
 (52,⟨4,32,true,none,none,[some (0,3),some (1,50)],some [(0,1),(1,3)],some (.agg [.int .i64 0,.int .i64 0,.int .i64 0,.int .i64 0]),some [0,0,0,0],false,false,none,true⟩),
 (60,⟨1,24,false,some (25),none,[],none,some (.sl [] .nil),none,false,false,none,true⟩),
 (62,⟨5,56,true,none,none,[some (0,3),some (1,3),some (2,3),some (3,3),some (4,60)],some [(0,1),(1,1),(2,1),(3,1),(4,1)],some (.agg [.int .i64 0,.int .i64 0,.int .i64 0,.int .i64 0,.sl [] .nil]),none,false,false,none,true⟩),
 (91,⟨1,24,false,some (96),none,[],none,some (.sl [] .nil),none,false,false,none,true⟩),
 (94,⟨1,24,false,some (157),none,[],none,some (.sl [] .nil),none,false,false,none,true⟩),
 (96,⟨17,240,true,none,none,[some (0,3),some (1,3),some (2,3),some (3,3),some (4,27),some (12,42),some (13,42),some (14,23),some (15,94),some (16,42)],some [(0,1),(1,1),(2,1),(3,1),(4,8),(12,1),(13,1),(14,1),(15,1),(16,1)],some (.agg [.int .i64 0,.int .i64 0,.int .i64 0,.int .i64 0,.int .i64 0,.sl [] .nil,.int .i64 0,.int .i64 0,.int .i64 0,.int .i64 0,.int .i64 0,.str ⟨#[]⟩,.sl [] .nil,.sl [] .nil,.sl [] .nil,.sl [] .nil,.sl [] .nil]),none,false,false,none,true⟩),
 (98,⟨1,24,false,some (30),none,[],none,some (.sl [] .nil),none,false,false,none,true⟩),
 (100,⟨1,24,true,none,none,[some (0,98)],some [(0,1)],some (.agg [.sl [] .nil]),none,false,false,none,true⟩),
 (127,⟨1,24,false,some (4),none,[],none,some (.sl [] .nil),none,false,false,none,true⟩),
 (148,⟨1,24,false,some (152),none,[],none,some (.sl [] .nil),none,false,false,none,true⟩),
 (152,⟨11,112,true,none,none,[some (0,3),some (1,3),some (2,3),some (3,27)],some [(0,1),(1,1),(2,1),(3,8)],some (.agg [.int .i64 0,.int .i64 0,.int .i64 0,.int .i64 0,.sl [] .nil,.int .i64 0,.int .i64 0,.int .i64 0,.int .i64 0,.int .i64 0,.str ⟨#[]⟩]),none,false,false,none,true⟩),
 (157,⟨2,16,true,none,none,[some (0,3),some (1,3)],some [(0,1),(1,1)],some (.agg [.int .i64 0,.int .i64 0]),some [0,0],false,false,none,true⟩),
 (166,⟨1,8,false,none,none,[],none,some (.nilp),none,false,false,none,true⟩),
 (168,⟨2,32,true,none,none,[some (0,30),some (1,4)],some [(0,1),(1,1)],some (.agg [.sl [] .nil,.bool false]),none,false,false,none,true⟩),
 (169,⟨1,24,false,some (172),none,[],none,some (.sl [] .nil),none,false,false,none,true⟩),
 (171,⟨1,24,false,some (174),none,[],none,some (.sl [] .nil),none,false,false,none,true⟩),
 (172,⟨1,24,false,some (174),none,[],none,some (.sl [] .nil),none,false,false,none,true⟩),
 (174,⟨2,16,true,none,none,[some (0,3),some (1,3)],some [(0,1),(1,1)],some (.agg [.int .i64 0,.int .i64 0]),some [0,0],false,false,none,true⟩),
 (176,⟨1,24,false,some (179),none,[],none,some (.sl [] .nil),none,false,false,none,true⟩),
 (179,⟨1,24,false,some (227),none,[],none,some (.sl [] .nil),none,false,false,none,true⟩),
 (186,⟨1,8,false,none,none,[],none,some (.int .u64 0),some [0],false,false,some .u64,true⟩),
 (195,⟨6,24,true,none,none,[some (0,3),some (1,3),some (2,4),some (3,4),some (4,4),some (5,4)],some [(0,1),(1,1),(2,1),(3,1),(4,1),(5,1)],some (.agg [.int .i64 0,.int .i64 0,.bool false,.bool false,.bool false,.bool false]),some [0,0,1,1,1,1],false,false,none,true⟩),
 (196,⟨66,264,true,none,some (11,195),[],none,none,none,false,false,none,true⟩),
 (205,⟨15,160,true,none,none,[some (0,4),some (1,29)],some [(0,1),(1,14)],some (.agg [.bool false,.int .i64 0,.sl [] .nil,.int .i64 0,.int .i64 0,.int .i64 0,.int .i64 0,.int .i64 0,.sl [] .nil,.int .i64 0,.int .i64 0,.int .i64 0,.int .i64 0,.int .i64 0,.str ⟨#[]⟩]),none,false,false,none,true⟩),
 (209,⟨1,8,false,none,none,[],none,some (.nilmap),none,false,false,none,true⟩),
 (212,⟨2,16,true,none,none,[some (0,3),some (1,3)],some [(0,1),(1,1)],some (.agg [.int .i64 0,.int .i64 0]),some [0,0],false,false,none,true⟩),
 (214,⟨1,8,false,none,none,[],none,some (.nilmap),none,false,false,none,true⟩),
 (216,⟨1,8,false,none,none,[],none,some (.nilf),none,false,false,none,true⟩),
 (217,⟨8,64,true,none,some (8,216),[],none,some (.agg [.nilf,.nilf,.nilf,.nilf,.nilf,.nilf,.nilf,.nilf]),none,false,false,none,true⟩),
 (227,⟨2,16,true,none,none,[some (0,3),some (1,3)],some [(0,1),(1,1)],some (.agg [.int .i64 0,.int .i64 0]),some [0,0],false,false,none,true⟩),
 (232,⟨1,8,false,none,none,[],none,some (.nilf),none,false,false,none,true⟩),
 (239,⟨1,24,false,some (5),none,[],none,some (.sl [] .nil),none,false,false,none,true⟩),
 (242,⟨1,8,false,none,none,[],none,some (.int .i64 0),some [0],false,false,some .i64,true⟩),
 (249,⟨1,4,false,none,none,[],none,some (.int .u32 0),some [0],false,false,some .u32,true⟩),
 (251,⟨1,8,false,none,none,[],none,some (.int .u64 0),some [0],false,false,some .u64,true⟩),
 (269,⟨1,8,false,none,none,[],none,some (.nilf),none,false,false,none,true⟩),
 (273,⟨1,8,false,none,none,[],none,some (.nilf),none,false,false,none,true⟩),
 (274,⟨1,24,false,some (169),none,[],none,some (.sl [] .nil),none,false,false,none,true⟩),
 (277,⟨1,8,false,none,none,[],none,some (.int .u64 0),some [0],false,false,some .u64,true⟩),
 (290,⟨1,24,false,some (23),none,[],none,some (.sl [] .nil),none,false,false,none,true⟩),
 (295,⟨5,48,true,none,none,[some (0,3),some (1,3),some (2,25)],some [(0,1),(1,1),(2,3)],some (.agg [.int .i64 0,.int .i64 0,.int .i64 0,.int .i64 0,.str ⟨#[]⟩]),some [0,0,0,0,2],false,false,none,true⟩),
 (308,⟨1,24,false,some (42),none,[],none,some (.sl [] .nil),none,false,false,none,true⟩),
 (310,⟨1,24,false,some (94),none,[],none,some (.sl [] .nil),none,false,false,none,true⟩),
 (322,⟨24,24,true,none,some (24,5),[],none,some (.agg [.int .u8 0,.int .u8 0,.int .u8 0,.int .u8 0,.int .u8 0,.int .u8 0,.int .u8 0,.int .u8 0,.int .u8 0,.int .u8 0,.int .u8 0,.int .u8 0,.int .u8 0,.int .u8 0,.int .u8 0,.int .u8 0,.int .u8 0,.int .u8 0,.int .u8 0,.int .u8 0,.int .u8 0,.int .u8 0,.int .u8 0,.int .u8 0]),none,false,false,none,true⟩),
 (326,⟨1,8,false,none,none,[],none,some (.nilmap),none,false,false,none,true⟩),
 (329,⟨8,96,true,none,none,[some (0,100),some (1,3),some (2,62),some (7,326)],some [(0,1),(1,1),(2,5),(7,1)],some (.agg [.sl [] .nil,.int .i64 0,.int .i64 0,.int .i64 0,.int .i64 0,.int .i64 0,.sl [] .nil,.nilmap]),none,false,false,none,true⟩),
 (334,⟨20,160,true,none,some (20,251),[],none,some (.agg [.int .u64 0,.int .u64 0,.int .u64 0,.int .u64 0,.int .u64 0,.int .u64 0,.int .u64 0,.int .u64 0,.int .u64 0,.int .u64 0,.int .u64 0,.int .u64 0,.int .u64 0,.int .u64 0,.int .u64 0,.int .u64 0,.int .u64 0,.int .u64 0,.int .u64 0,.int .u64 0]),none,false,false,none,true⟩),
 (335,⟨65,65,true,none,some (65,5),[],none,none,none,false,false,none,true⟩),
 (337,⟨1,8,false,none,none,[],none,some (.nilf),none,false,false,none,true⟩),
 (349,⟨32,32,true,none,some (32,5),[],none,some (.agg [.int .u8 0,.int .u8 0,.int .u8 0,.int .u8 0,.int .u8 0,.int .u8 0,.int .u8 0,.int .u8 0,.int .u8 0,.int .u8 0,.int .u8 0,.int .u8 0,.int .u8 0,.int .u8 0,.int .u8 0,.int .u8 0,.int .u8 0,.int .u8 0,.int .u8 0,.int .u8 0,.int .u8 0,.int .u8 0,.int .u8 0,.int .u8 0,.int .u8 0,.int .u8 0,.int .u8 0,.int .u8 0,.int .u8 0,.int .u8 0,.int .u8 0,.int .u8 0]),none,false,false,none,true⟩),
 (350,⟨64,64,true,none,some (64,5),[],none,none,none,false,false,none,true⟩),
 (360,⟨1,8,false,none,none,[],none,some (.nilf),none,false,false,none,true⟩),
 (361,⟨6,48,true,none,some (6,360),[],none,some (.agg [.nilf,.nilf,.nilf,.nilf,.nilf,.nilf]),none,false,false,none,true⟩)]
theorem okT :GL Tryz.prog TT:=⟨tk,tk,tk,tk,tk,tk,tk,tk,tk,tk,tk,tk,tk,tk,tk,tk,tk,tk,tk,tk,tk,tk,tk,tk,tk,tk,tk,tk,tk,tk,tk,tk,tk,tk,tk,tk,tk,tk,tk,tk,tk,tk,tk,tk,tk,tk,tk,tk,tk,tk,tk,tk,tk,tk,tk,tk,tk,tk,tk,tk,tk,tk,tk,tk,tk,tk,tk,tk,tk,tk,trivial⟩
end Go.Ab
namespace Go.Ab
structure A5 where
 Kind:Int
 Num:Int
 Text:ByteArray
structure B1 where
 Op:Int
 cP:List B1
 Var:Int
 Field:Int
 Kind:Int
 Value:A5
structure A1 where
 Op:Int
 cP:List A1
 Typ:Int
 Var:Int
 cT:Int
 Span:Int
 cR:B1
structure A8 where
 Source:Int
 Seq:Int
 Typ:Int
 Time:Int
 Values:List A5
structure Ds where
 Time:Int
 Source:Int
 Seq:Int
structure D1 where
 Var:Int
 Ref:Ds
structure D0 where
 cQ:List D1
structure PJ where
 cT:Int
 Span:Int
structure Ke where
 From:Int
 To:Int
 Var:Int
 Typ:Int
 cR:B1
 Opens:List Int
 Closes:List Int
 Checks:List B1
 Limits:List PJ
 Inside:List Int
structure Bk where
 cX:List (List A8)
structure GGuard where
 cT:Int
 Typ:Int
 Var:Int
 cR:B1
structure B3 where
 cY:List A8
 full:Bool
structure A0 where
 cU:Int
 at_:Int
structure A2 where
 Var:Int
 At:Int
structure J6 where
 cV:Int
 most:Int
 cS:Bool
 cond:Bool
 scope:Bool
 span:Bool
structure J8 where
 done:Bool
 p:A1
structure D4 where
 source:Int
 seq:Int
structure C0 where
 Kind:Int
 Count:Int
 Value:A5
structure P8 where
 env:Bk
 own:Int
 event:A8
 apply:Unit
def G3 :List J6:=[⟨0,0,true,true,false,false⟩,⟨2,64,false,false,false,false⟩,⟨2,64,false,false,false,false⟩,⟨2,64,false,false,false,false⟩,⟨1,1,false,false,false,false⟩,⟨1,1,true,true,true,false⟩,⟨1,1,false,false,true,true⟩,⟨1,1,false,true,false,false⟩,⟨2,2,false,false,false,false⟩,⟨1,1,true,true,true,false⟩,⟨1,1,false,false,true,true⟩]
end Go.Ab
namespace Go.Ab
variable [Ar]
def Yf :List Int:=[5,6,7,8,10,11,12]
def Ye :List V:=[.func (.func 308) [] [.eref [.func (.func 307) [] []] 0],.func (.func 309) [] [.eref [.func (.func 307) [] []] 0],.func (.func 310) [] [],.func (.func 311) [] [],.func (.func 312) [] [],.func (.func 313) [] [],.func (.func 314) [] []]
class H7 where
 eAp9:A5→V
 eAq3:B1→V
 eAp4:A1→V
 eAp0:A8→V
 eAq1:D1→V
 eAp6:D0→V
 eAr6:PJ→V
 eAo9:A0→V
 eAp1:A2→V
 eAr5:J6→V
 eAr1:D4→V
 eAr0:List A8→V
 eAq9:List (List A0)→V
 eAp8:List A0→V
 eAp2:List A2→V
 eAp5:∀x,eAp9 x= .agg [.int .i64 x.Kind,.int .i64 x.Num,.str x.Text]
 eAq4:∀x,eAq3 x= .agg [.int .i64 x.Op,.sl (lst eAq3 x.cP) .ro,.int .i64 x.Var,.int .i64 x.Field,.int .i64 x.Kind,.int .i64 x.Value.Kind,.int .i64 x.Value.Num,.str x.Value.Text]
 eAp3:∀x,eAp4 x= .agg [.int .i64 x.Op,.sl (lst eAp4 x.cP) .ro,.int .i64 x.Typ,.int .i64 x.Var,.int .i64 x.cT,.int .i64 x.Span,.int .i64 x.cR.Op,.sl (lst eAq3 x.cR.cP) .ro,.int .i64 x.cR.Var,.int .i64 x.cR.Field,.int .i64 x.cR.Kind,.int .i64 x.cR.Value.Kind,.int .i64 x.cR.Value.Num,.str x.cR.Value.Text]
 eAp7:∀x,eAp0 x= .agg [.int .i64 x.Source,.int .i64 x.Seq,.int .i64 x.Typ,.int .i64 x.Time,.sl (lst eAp9 x.Values) .ro]
 eAq5:∀x,eAq1 x= .agg [.int .i64 x.Var,.int .i64 x.Ref.Time,.int .i64 x.Ref.Source,.int .i64 x.Ref.Seq]
 eAq6:∀x,eAp6 x= .agg [.sl (lst eAq1 x.cQ) .ro]
 eAr8:∀x,eAr6 x= .agg [.int .i64 x.cT,.int .i64 x.Span]
 eAq7:∀x,eAo9 x= .agg [.int .i64 x.cU,.int .i64 x.at_]
 eAq0:∀x,eAp1 x= .agg [.int .i64 x.Var,.int .i64 x.At]
 eAr7:∀x,eAr5 x= .agg [.int .i64 x.cV,.int .i64 x.most,.bool x.cS,.bool x.cond,.bool x.scope,.bool x.span]
 eAr2:∀x,eAr1 x= .agg [.int .i64 x.source,.int .i64 x.seq]
 eAr3:∀x,eAr0 x= .sl (lst eAp0 x) .ro
 eAr4:∀x,eAq9 x= .sl (lst eAp8 x) .ro
 eAq8:∀x,eAp8 x= .sl (lst eAo9 x) .ro
 eAq2:∀x,eAp2 x= .sl (lst eAp1 x) .ro
theorem HM [H7](x:A5):(H7.eAp9 x).cells.length=3:=by rw[H7.eAp5];rfl
theorem GS [H7](x:A1):(H7.eAp4 x).cells.length=14:=by rw[H7.eAp3];rfl
theorem Kk [H7](x:A8):(H7.eAp0 x).cells.length=5:=by rw[H7.eAp7];rfl
theorem KR [H7](x:D1):(H7.eAq1 x).cells.length=4:=by rw[H7.eAq5];rfl
theorem DR [H7](x:D0):(H7.eAp6 x).cells.length=1:=by rw[H7.eAq6];rfl
theorem Y1 [H7](x:A0):(H7.eAo9 x).cells.length=2:=by rw[H7.eAq7];rfl
theorem H8 [H7](x:A2):(H7.eAp1 x).cells.length=2:=by rw[H7.eAq0];rfl
theorem Cv [H7](x:List (List A0)):(H7.eAq9 x).cells.length=1:=by rw[H7.eAr4];rfl
theorem GR [H7](x:List A0):(H7.eAp8 x).cells.length=1:=by rw[H7.eAq8];rfl
theorem Y5 [H7](x:List A2):(H7.eAp2 x).cells.length=1:=by rw[H7.eAq2];rfl
variable [H7]
abbrev D6 (x:A1):List V:=[.int .i64 x.Op,.sl (lst H7.eAp4 x.cP) .ro,.int .i64 x.Typ,.int .i64 x.Var,.int .i64 x.cT,.int .i64 x.Span,.int .i64 x.cR.Op,.sl (lst H7.eAq3 x.cR.cP) .ro,.int .i64 x.cR.Var,.int .i64 x.cR.Field,.int .i64 x.cR.Kind,.int .i64 x.cR.Value.Kind,.int .i64 x.cR.Value.Num,.str x.cR.Value.Text]
abbrev C3 (x:A1):V:=.agg (D6 x)
abbrev CM (x:P8):List V:=[.sl (lst H7.eAr0 x.env.cX) .ro,.int .i64 x.own,.int .i64 x.event.Source,.int .i64 x.event.Seq,.int .i64 x.event.Typ,.int .i64 x.event.Time,.sl (lst H7.eAp9 x.event.Values) .ro,.fmap Yf Ye]
abbrev AY (x:P8):V:=.agg (CM x)
abbrev Am (x:B1):List V:=[.int .i64 x.Op,.sl (lst H7.eAq3 x.cP) .ro,.int .i64 x.Var,.int .i64 x.Field,.int .i64 x.Kind,.int .i64 x.Value.Kind,.int .i64 x.Value.Num,.str x.Value.Text]
abbrev I5 (x:B1):V:=.agg (Am x)
abbrev JV (x:A8):List V:=[.int .i64 x.Source,.int .i64 x.Seq,.int .i64 x.Typ,.int .i64 x.Time,.sl (lst H7.eAp9 x.Values) .ro]
abbrev W2 (x:A8):V:=.agg (JV x)
abbrev Aw (x:C0):List V:=[.int .i64 x.Kind,.int .i64 x.Count,.int .i64 x.Value.Kind,.int .i64 x.Value.Num,.str x.Value.Text]
abbrev F3 (x:C0):V:=.agg (Aw x)
abbrev Dz (x:J6):List V:=[.int .i64 x.cV,.int .i64 x.most,.bool x.cS,.bool x.cond,.bool x.scope,.bool x.span]
abbrev Gz (x:J6):V:=.agg (Dz x)
abbrev Wm (x:D1):List V:=[.int .i64 x.Var,.int .i64 x.Ref.Time,.int .i64 x.Ref.Source,.int .i64 x.Ref.Seq]
abbrev DP (x:D1):V:=.agg (Wm x)
abbrev Ao2 (x:Ds):List V:=[.int .i64 x.Time,.int .i64 x.Source,.int .i64 x.Seq]
abbrev GQ (x:Ds):V:=.agg (Ao2 x)
abbrev B5 (x:B3):List V:=[.sl (lst H7.eAp0 x.cY) .ro,.bool x.full]
abbrev N3 (x:A5):List V:=[.int .i64 x.Kind,.int .i64 x.Num,.str x.Text]
abbrev C7 (x:A5):V:=.agg (N3 x)
abbrev Bh (x:D0):List V:=[.sl (lst H7.eAq1 x.cQ) .ro]
abbrev W9 (x:D0):V:=.agg (Bh x)
abbrev Ff (x:A0):List V:=[.int .i64 x.cU,.int .i64 x.at_]
abbrev M2 (x:A0):V:=.agg (Ff x)
abbrev Ae1 (x:Bk):List V:=[.sl (lst H7.eAr0 x.cX) .ro]
abbrev Ed (x:Bk):V:=.agg (Ae1 x)
abbrev JU (x:D4):List V:=[.int .i64 x.source,.int .i64 x.seq]
abbrev Js (x:D4):V:=.agg (JU x)
end Go.Ab
