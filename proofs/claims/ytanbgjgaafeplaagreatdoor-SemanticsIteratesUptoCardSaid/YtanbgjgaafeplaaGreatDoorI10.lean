/- GTTypes GTTy GTEn -/
import Derived.Test.YtanbgjgaafeplaaGreatDoorI09
import Derived.KernelRfl
import Derived.Test.YtanbgjgaafeplaaGreatDoorChecked
set_option linter.all false
open Go.Ab.Ar (lst)
namespace Go.Ab
open Go.RowKit Go.Proofs
set_option maxRecDepth 100000
theorem tk {t:Nat}{I:WB}(a:Ex Tryz.prog t=some I.sz:=by kernel_rfl)(b:PE Tryz.prog t=some I.by_:=by kernel_rfl)(c:PH Tryz.prog t=some I.ag:=by kernel_rfl)(d:Fy Tryz.prog t=I.sl:=by kernel_rfl)(e:arO Tryz.prog t=I.ar:=by kernel_rfl)
 (f:Yt Tryz.prog t 0 I.fs:=by repeat' (first|refine⟨?_,?_⟩|exact True.intro|kernel_rfl)) (g:AP I.pl (fun l=>Jd Tryz.prog t=some l):=by first|exact True.intro|(show Jd Tryz.prog _=some _;kernel_rfl))
 (h:AP I.ze (fun z=>Gy Tryz.prog t=some z):=by first|exact True.intro|(show Gy Tryz.prog _=some _;kernel_rfl)) (i:AP I.ek (fun k=>Dp Tryz.prog 9 t=some k):=by first|exact True.intro|(show Dp Tryz.prog 9 _=some _;kernel_rfl)) (j:ON Tryz.prog t=I.st:=by kernel_rfl)
 (k:I.bo=true→UP ((Tryz.prog).underlying t)=true:=by intro h;first|(cases h;done)|kernel_rfl) (l:AP I.ik (fun k=>(Tryz.prog).underlying t=some (.int k)):=by first|exact True.intro|(show(Tryz.prog).underlying _=some (.int _);kernel_rfl))
 (m:I.nif=true→ifO Tryz.prog t=false:=by intro h;first|(cases h;done)|kernel_rfl):Al4 Tryz.prog t I:=⟨a,b,c,d,e,f,g,h,i,j,k,l,m⟩
def TT :Et:=[(2,⟨1,8,false,none,none,[],none,some (.int .i64 0),some [0],false,false,some .i64,true⟩),
 (3,⟨1,8,false,none,none,[],none,some (.int .i64 0),some [0],false,false,some .i64,true⟩),
 (4,⟨1,1,false,none,none,[],none,some (.bool false),some [1],false,true,none,true⟩),
 (5,⟨1,1,false,none,none,[],none,some (.int .u8 0),some [0],false,false,some .u8,true⟩),
 (9,⟨1,16,false,none,none,[],none,some (.str ⟨#[]⟩),some [2],true,false,none,true⟩),
 (22,⟨1,24,false,some (29),none,[],none,some (.sl [] .nil),none,false,false,none,true⟩),
 (23,⟨1,24,false,some (27),none,[],none,some (.sl [] .nil),none,false,false,none,true⟩),
 (25,⟨3,32,true,none,none,[some (0,3),some (1,3),some (2,9)],some [(0,1),(1,1),(2,1)],some (.agg [.int .i64 0,.int .i64 0,.str ⟨#[]⟩]),some [0,0,2],false,false,none,true⟩),
 (27,⟨8,88,true,none,none,[some (0,3),some (1,23),some (2,3),some (3,3),some (4,3),some (5,25)],some [(0,1),(1,1),(2,1),(3,1),(4,1),(5,3)],some (.agg [.int .i64 0,.sl [] .nil,.int .i64 0,.int .i64 0,.int .i64 0,.int .i64 0,.int .i64 0,.str ⟨#[]⟩]),none,false,false,none,true⟩),
 (29,⟨14,152,true,none,none,[some (0,3),some (1,22),some (2,3),some (3,3),some (4,3),some (5,3),some (6,27)],some [(0,1),(1,1),(2,1),(3,1),(4,1),(5,1),(6,8)],some (.agg [.int .i64 0,.sl [] .nil,.int .i64 0,.int .i64 0,.int .i64 0,.int .i64 0,.int .i64 0,.sl [] .nil,.int .i64 0,.int .i64 0,.int .i64 0,.int .i64 0,.int .i64 0,.str ⟨#[]⟩]),none,false,false,none,true⟩),
 (30,⟨1,24,false,some (62),none,[],none,some (.sl [] .nil),none,false,false,none,true⟩),
 (33,⟨1,24,false,some (48),none,[],none,some (.sl [] .nil),none,false,false,none,true⟩),
 (34,⟨1,8,false,none,none,[],none,some (.int .i64 0),some [0],false,false,some .i64,true⟩),
 (42,⟨1,24,false,some (3),none,[],none,some (.sl [] .nil),none,false,false,none,true⟩),
 (46,⟨1,24,false,some (52),none,[],none,some (.sl [] .nil),none,false,false,none,true⟩),
 (48,⟨1,24,true,none,none,[some (0,46)],some [(0,1)],some (.agg [.sl [] .nil]),none,false,false,none,true⟩),
 (50,⟨3,24,true,none,none,[some (0,3),some (1,3),some (2,3)],some [(0,1),(1,1),(2,1)],some (.agg [.int .i64 0,.int .i64 0,.int .i64 0]),some [0,0,0],false,false,none,true⟩),
 (52,⟨4,32,true,none,none,[some (0,3),some (1,50)],some [(0,1),(1,3)],some (.agg [.int .i64 0,.int .i64 0,.int .i64 0,.int .i64 0]),some [0,0,0,0],false,false,none,true⟩),
 (60,⟨1,24,false,some (25),none,[],none,some (.sl [] .nil),none,false,false,none,true⟩),
 (62,⟨5,56,true,none,none,[some (0,3),some (1,3),some (2,3),some (3,3),some (4,60)],some [(0,1),(1,1),(2,1),(3,1),(4,1)],some (.agg [.int .i64 0,.int .i64 0,.int .i64 0,.int .i64 0,.sl [] .nil]),none,false,false,none,true⟩),
 (91,⟨1,24,false,some (96),none,[],none,some (.sl [] .nil),none,false,false,none,true⟩),
 (94,⟨1,24,false,some (157),none,[],none,some (.sl [] .nil),none,false,false,none,true⟩),
 (96,⟨17,240,true,none,none,[some (0,3),some (1,3),some (2,3),some (3,3),some (4,27),some (12,42),some (13,42),some (14,23),some (15,94),some (16,42)],some [(0,1),(1,1),(2,1),(3,1),(4,8),(12,1),(13,1),(14,1),(15,1),(16,1)],some (.agg [.int .i64 0,.int .i64 0,.int .i64 0,.int .i64 0,.int .i64 0,.sl [] .nil,.int .i64 0,.int .i64 0,.int .i64 0,.int .i64 0,.int .i64 0,.str ⟨#[]⟩,.sl [] .nil,.sl [] .nil,.sl [] .nil,.sl [] .nil,.sl [] .nil]),none,false,false,none,true⟩),
 (98,⟨1,24,false,some (30),none,[],none,some (.sl [] .nil),none,false,false,none,true⟩),
 (100,⟨1,24,true,none,none,[some (0,98)],some [(0,1)],some (.agg [.sl [] .nil]),none,false,false,none,true⟩),
 (127,⟨1,24,false,some (4),none,[],none,some (.sl [] .nil),none,false,false,none,true⟩),
 (148,⟨1,24,false,some (152),none,[],none,some (.sl [] .nil),none,false,false,none,true⟩),
 (152,⟨11,112,true,none,none,[some (0,3),some (1,3),some (2,3),some (3,27)],some [(0,1),(1,1),(2,1),(3,8)],some (.agg [.int .i64 0,.int .i64 0,.int .i64 0,.int .i64 0,.sl [] .nil,.int .i64 0,.int .i64 0,.int .i64 0,.int .i64 0,.int .i64 0,.str ⟨#[]⟩]),none,false,false,none,true⟩),
 (157,⟨2,16,true,none,none,[some (0,3),some (1,3)],some [(0,1),(1,1)],some (.agg [.int .i64 0,.int .i64 0]),some [0,0],false,false,none,true⟩),
 (166,⟨1,8,false,none,none,[],none,some (.nilp),none,false,false,none,true⟩),
 (168,⟨2,32,true,none,none,[some (0,30),some (1,4)],some [(0,1),(1,1)],some (.agg [.sl [] .nil,.bool false]),none,false,false,none,true⟩),
 (169,⟨1,24,false,some (172),none,[],none,some (.sl [] .nil),none,false,false,none,true⟩),
 (171,⟨1,24,false,some (174),none,[],none,some (.sl [] .nil),none,false,false,none,true⟩),
 (172,⟨1,24,false,some (174),none,[],none,some (.sl [] .nil),none,false,false,none,true⟩),
 (174,⟨2,16,true,none,none,[some (0,3),some (1,3)],some [(0,1),(1,1)],some (.agg [.int .i64 0,.int .i64 0]),some [0,0],false,false,none,true⟩),
 (176,⟨1,24,false,some (179),none,[],none,some (.sl [] .nil),none,false,false,none,true⟩),
 (179,⟨1,24,false,some (227),none,[],none,some (.sl [] .nil),none,false,false,none,true⟩),
 (186,⟨1,8,false,none,none,[],none,some (.int .u64 0),some [0],false,false,some .u64,true⟩),
 (195,⟨6,24,true,none,none,[some (0,3),some (1,3),some (2,4),some (3,4),some (4,4),some (5,4)],some [(0,1),(1,1),(2,1),(3,1),(4,1),(5,1)],some (.agg [.int .i64 0,.int .i64 0,.bool false,.bool false,.bool false,.bool false]),some [0,0,1,1,1,1],false,false,none,true⟩),
 (196,⟨66,264,true,none,some (11,195),[],none,none,none,false,false,none,true⟩),
 (205,⟨15,160,true,none,none,[some (0,4),some (1,29)],some [(0,1),(1,14)],some (.agg [.bool false,.int .i64 0,.sl [] .nil,.int .i64 0,.int .i64 0,.int .i64 0,.int .i64 0,.int .i64 0,.sl [] .nil,.int .i64 0,.int .i64 0,.int .i64 0,.int .i64 0,.int .i64 0,.str ⟨#[]⟩]),none,false,false,none,true⟩),
 (209,⟨1,8,false,none,none,[],none,some (.nilmap),none,false,false,none,true⟩),
 (212,⟨2,16,true,none,none,[some (0,3),some (1,3)],some [(0,1),(1,1)],some (.agg [.int .i64 0,.int .i64 0]),some [0,0],false,false,none,true⟩),
 (214,⟨1,8,false,none,none,[],none,some (.nilmap),none,false,false,none,true⟩),
 (216,⟨1,8,false,none,none,[],none,some (.nilf),none,false,false,none,true⟩),
 (217,⟨8,64,true,none,some (8,216),[],none,some (.agg [.nilf,.nilf,.nilf,.nilf,.nilf,.nilf,.nilf,.nilf]),none,false,false,none,true⟩),
 (227,⟨2,16,true,none,none,[some (0,3),some (1,3)],some [(0,1),(1,1)],some (.agg [.int .i64 0,.int .i64 0]),some [0,0],false,false,none,true⟩),
 (232,⟨1,8,false,none,none,[],none,some (.nilf),none,false,false,none,true⟩),
 (239,⟨1,24,false,some (5),none,[],none,some (.sl [] .nil),none,false,false,none,true⟩),
 (242,⟨1,8,false,none,none,[],none,some (.int .i64 0),some [0],false,false,some .i64,true⟩),
 (249,⟨1,4,false,none,none,[],none,some (.int .u32 0),some [0],false,false,some .u32,true⟩),
 (251,⟨1,8,false,none,none,[],none,some (.int .u64 0),some [0],false,false,some .u64,true⟩),
 (269,⟨1,8,false,none,none,[],none,some (.nilf),none,false,false,none,true⟩),
 (273,⟨1,8,false,none,none,[],none,some (.nilf),none,false,false,none,true⟩),
 (274,⟨1,24,false,some (169),none,[],none,some (.sl [] .nil),none,false,false,none,true⟩),
 (277,⟨1,8,false,none,none,[],none,some (.int .u64 0),some [0],false,false,some .u64,true⟩),
 (290,⟨1,24,false,some (23),none,[],none,some (.sl [] .nil),none,false,false,none,true⟩),
 (295,⟨5,48,true,none,none,[some (0,3),some (1,3),some (2,25)],some [(0,1),(1,1),(2,3)],some (.agg [.int .i64 0,.int .i64 0,.int .i64 0,.int .i64 0,.str ⟨#[]⟩]),some [0,0,0,0,2],false,false,none,true⟩),
 (308,⟨1,24,false,some (42),none,[],none,some (.sl [] .nil),none,false,false,none,true⟩),
 (310,⟨1,24,false,some (94),none,[],none,some (.sl [] .nil),none,false,false,none,true⟩),
 (322,⟨24,24,true,none,some (24,5),[],none,some (.agg [.int .u8 0,.int .u8 0,.int .u8 0,.int .u8 0,.int .u8 0,.int .u8 0,.int .u8 0,.int .u8 0,.int .u8 0,.int .u8 0,.int .u8 0,.int .u8 0,.int .u8 0,.int .u8 0,.int .u8 0,.int .u8 0,.int .u8 0,.int .u8 0,.int .u8 0,.int .u8 0,.int .u8 0,.int .u8 0,.int .u8 0,.int .u8 0]),none,false,false,none,true⟩),
 (326,⟨1,8,false,none,none,[],none,some (.nilmap),none,false,false,none,true⟩),
 (329,⟨8,96,true,none,none,[some (0,100),some (1,3),some (2,62),some (7,326)],some [(0,1),(1,1),(2,5),(7,1)],some (.agg [.sl [] .nil,.int .i64 0,.int .i64 0,.int .i64 0,.int .i64 0,.int .i64 0,.sl [] .nil,.nilmap]),none,false,false,none,true⟩),
 (334,⟨20,160,true,none,some (20,251),[],none,some (.agg [.int .u64 0,.int .u64 0,.int .u64 0,.int .u64 0,.int .u64 0,.int .u64 0,.int .u64 0,.int .u64 0,.int .u64 0,.int .u64 0,.int .u64 0,.int .u64 0,.int .u64 0,.int .u64 0,.int .u64 0,.int .u64 0,.int .u64 0,.int .u64 0,.int .u64 0,.int .u64 0]),none,false,false,none,true⟩),
 (335,⟨65,65,true,none,some (65,5),[],none,none,none,false,false,none,true⟩),
 (337,⟨1,8,false,none,none,[],none,some (.nilf),none,false,false,none,true⟩),
 (349,⟨32,32,true,none,some (32,5),[],none,some (.agg [.int .u8 0,.int .u8 0,.int .u8 0,.int .u8 0,.int .u8 0,.int .u8 0,.int .u8 0,.int .u8 0,.int .u8 0,.int .u8 0,.int .u8 0,.int .u8 0,.int .u8 0,.int .u8 0,.int .u8 0,.int .u8 0,.int .u8 0,.int .u8 0,.int .u8 0,.int .u8 0,.int .u8 0,.int .u8 0,.int .u8 0,.int .u8 0,.int .u8 0,.int .u8 0,.int .u8 0,.int .u8 0,.int .u8 0,.int .u8 0,.int .u8 0,.int .u8 0]),none,false,false,none,true⟩),
 (350,⟨64,64,true,none,some (64,5),[],none,none,none,false,false,none,true⟩),
 (360,⟨1,8,false,none,none,[],none,some (.nilf),none,false,false,none,true⟩),
 (361,⟨6,48,true,none,some (6,360),[],none,some (.agg [.nilf,.nilf,.nilf,.nilf,.nilf,.nilf]),none,false,false,none,true⟩)]
theorem okT :Gx Tryz.prog TT:=⟨tk,tk,tk,tk,tk,tk,tk,tk,tk,tk,tk,tk,tk,tk,tk,tk,tk,tk,tk,tk,tk,tk,tk,tk,tk,tk,tk,tk,tk,tk,tk,tk,tk,tk,tk,tk,tk,tk,tk,tk,tk,tk,tk,tk,tk,tk,tk,tk,tk,tk,tk,tk,tk,tk,tk,tk,tk,tk,tk,tk,tk,tk,tk,tk,tk,tk,tk,tk,tk,tk,trivial⟩
end Go.Ab
namespace Go.Ab
structure A5 where
 Kind:Int
 Num:Int
 Text:ByteArray
structure A3 where
 Op:Int
 cO:List A3
 Var:Int
 Field:Int
 Kind:Int
 Value:A5
structure A0 where
 Op:Int
 cO:List A0
 Typ:Int
 Var:Int
 cR:Int
 Span:Int
 cP:A3
structure A6 where
 Source:Int
 Seq:Int
 Typ:Int
 Time:Int
 Values:List A5
structure Gv where
 Time:Int
 Source:Int
 Seq:Int
structure E8 where
 Var:Int
 Ref:Gv
structure D1 where
 cQ:List E8
structure PM where
 cR:Int
 Span:Int
structure JK where
 From:Int
 To:Int
 Var:Int
 Typ:Int
 cP:A3
 Opens:List Int
 Closes:List Int
 Checks:List A3
 Limits:List PM
 Inside:List Int
structure Cu where
 cV:List (List A6)
structure GGuard where
 cR:Int
 Typ:Int
 Var:Int
 cP:A3
structure B0 where
 cX:List A6
 full:Bool
structure A1 where
 cT:Int
 at_:Int
structure I0 where
 Var:Int
 At:Int
structure J3 where
 cU:Int
 most:Int
 cS:Bool
 cond:Bool
 scope:Bool
 span:Bool
structure J7 where
 done:Bool
 p:A0
structure C9 where
 source:Int
 seq:Int
structure C8 where
 Kind:Int
 Count:Int
 Value:A5
structure P4 where
 env:Cu
 own:Int
 event:A6
 apply:Unit
def D0 :List J3:=[⟨0,0,true,true,false,false⟩,⟨2,64,false,false,false,false⟩,⟨2,64,false,false,false,false⟩,⟨2,64,false,false,false,false⟩,⟨1,1,false,false,false,false⟩,⟨1,1,true,true,true,false⟩,⟨1,1,false,false,true,true⟩,⟨1,1,false,true,false,false⟩,⟨2,2,false,false,false,false⟩,⟨1,1,true,true,true,false⟩,⟨1,1,false,false,true,true⟩]
end Go.Ab
namespace Go.Ab
variable [Ar]
def Yx :List Int:=[5,6,7,8,10,11,12]
def Yw :List V:=[.func (.func 308) [] [.eref [.func (.func 307) [] []] 0],.func (.func 309) [] [.eref [.func (.func 307) [] []] 0],.func (.func 310) [] [],.func (.func 311) [] [],.func (.func 312) [] [],.func (.func 313) [] [],.func (.func 314) [] []]
class H6 where
 eAs2:A5→V
 eAr7:A3→V
 eAr4:A0→V
 eAr6:A6→V
 eAs3:E8→V
 eAr5:D1→V
 eAt6:PM→V
 eAr2:A1→V
 eAt3:I0→V
 eAt4:J3→V
 eAs9:C9→V
 eAt0:List A6→V
 eAs8:List (List A1)→V
 eAr8:List A1→V
 eAt7:List I0→V
 eAr9:∀x,eAs2 x= .agg [.int .i64 x.Kind,.int .i64 x.Num,.str x.Text]
 eAs1:∀x,eAr7 x= .agg [.int .i64 x.Op,.sl (lst eAr7 x.cO) .ro,.int .i64 x.Var,.int .i64 x.Field,.int .i64 x.Kind,.int .i64 x.Value.Kind,.int .i64 x.Value.Num,.str x.Value.Text]
 eAr3:∀x,eAr4 x= .agg [.int .i64 x.Op,.sl (lst eAr4 x.cO) .ro,.int .i64 x.Typ,.int .i64 x.Var,.int .i64 x.cR,.int .i64 x.Span,.int .i64 x.cP.Op,.sl (lst eAr7 x.cP.cO) .ro,.int .i64 x.cP.Var,.int .i64 x.cP.Field,.int .i64 x.cP.Kind,.int .i64 x.cP.Value.Kind,.int .i64 x.cP.Value.Num,.str x.cP.Value.Text]
 eAs0:∀x,eAr6 x= .agg [.int .i64 x.Source,.int .i64 x.Seq,.int .i64 x.Typ,.int .i64 x.Time,.sl (lst eAs2 x.Values) .ro]
 eAs5:∀x,eAs3 x= .agg [.int .i64 x.Var,.int .i64 x.Ref.Time,.int .i64 x.Ref.Source,.int .i64 x.Ref.Seq]
 eAs4:∀x,eAr5 x= .agg [.sl (lst eAs3 x.cQ) .ro]
 eAt9:∀x,eAt6 x= .agg [.int .i64 x.cR,.int .i64 x.Span]
 eAs6:∀x,eAr2 x= .agg [.int .i64 x.cT,.int .i64 x.at_]
 eAu0:∀x,eAt3 x= .agg [.int .i64 x.Var,.int .i64 x.At]
 eAt8:∀x,eAt4 x= .agg [.int .i64 x.cU,.int .i64 x.most,.bool x.cS,.bool x.cond,.bool x.scope,.bool x.span]
 eAt1:∀x,eAs9 x= .agg [.int .i64 x.source,.int .i64 x.seq]
 eAt5:∀x,eAt0 x= .sl (lst eAr6 x) .ro
 eAt2:∀x,eAs8 x= .sl (lst eAr8 x) .ro
 eAs7:∀x,eAr8 x= .sl (lst eAr2 x) .ro
 eAu1:∀x,eAt7 x= .sl (lst eAt3 x) .ro
theorem NA [H6](x:A5):(H6.eAs2 x).cells.length=3:=by rw[H6.eAr9];rfl
theorem Xc [H6](x:A3):(H6.eAr7 x).cells.length=8:=by rw[H6.eAs1];rfl
theorem N0 [H6](x:A0):(H6.eAr4 x).cells.length=14:=by rw[H6.eAr3];rfl
theorem NB [H6](x:A6):(H6.eAr6 x).cells.length=5:=by rw[H6.eAs0];rfl
theorem Qk [H6](x:E8):(H6.eAs3 x).cells.length=4:=by rw[H6.eAs5];rfl
theorem JQ [H6](x:D1):(H6.eAr5 x).cells.length=1:=by rw[H6.eAs4];rfl
theorem Y3 [H6](x:A1):(H6.eAr2 x).cells.length=2:=by rw[H6.eAs6];rfl
theorem Cv [H6](x:List (List A1)):(H6.eAs8 x).cells.length=1:=by rw[H6.eAt2];rfl
theorem GC [H6](x:List A1):(H6.eAr8 x).cells.length=1:=by rw[H6.eAs7];rfl
variable [H6]
abbrev C0 (x:A0):List V:=[.int .i64 x.Op,.sl (lst H6.eAr4 x.cO) .ro,.int .i64 x.Typ,.int .i64 x.Var,.int .i64 x.cR,.int .i64 x.Span,.int .i64 x.cP.Op,.sl (lst H6.eAr7 x.cP.cO) .ro,.int .i64 x.cP.Var,.int .i64 x.cP.Field,.int .i64 x.cP.Kind,.int .i64 x.cP.Value.Kind,.int .i64 x.cP.Value.Num,.str x.cP.Value.Text]
abbrev B6 (x:A0):V:=.agg (C0 x)
abbrev CK (x:P4):List V:=[.sl (lst H6.eAt0 x.env.cV) .ro,.int .i64 x.own,.int .i64 x.event.Source,.int .i64 x.event.Seq,.int .i64 x.event.Typ,.int .i64 x.event.Time,.sl (lst H6.eAs2 x.event.Values) .ro,.fmap Yx Yw]
abbrev AW (x:P4):V:=.agg (CK x)
abbrev Ak (x:A3):List V:=[.int .i64 x.Op,.sl (lst H6.eAr7 x.cO) .ro,.int .i64 x.Var,.int .i64 x.Field,.int .i64 x.Kind,.int .i64 x.Value.Kind,.int .i64 x.Value.Num,.str x.Value.Text]
abbrev G0 (x:A3):V:=.agg (Ak x)
abbrev Ls (x:A6):List V:=[.int .i64 x.Source,.int .i64 x.Seq,.int .i64 x.Typ,.int .i64 x.Time,.sl (lst H6.eAs2 x.Values) .ro]
abbrev BF (x:A6):V:=.agg (Ls x)
abbrev EY (x:C8):List V:=[.int .i64 x.Kind,.int .i64 x.Count,.int .i64 x.Value.Kind,.int .i64 x.Value.Num,.str x.Value.Text]
abbrev J4 (x:C8):V:=.agg (EY x)
abbrev Dr (x:J3):List V:=[.int .i64 x.cU,.int .i64 x.most,.bool x.cS,.bool x.cond,.bool x.scope,.bool x.span]
abbrev Gg (x:J3):V:=.agg (Dr x)
abbrev Wx (x:E8):List V:=[.int .i64 x.Var,.int .i64 x.Ref.Time,.int .i64 x.Ref.Source,.int .i64 x.Ref.Seq]
abbrev DK (x:E8):V:=.agg (Wx x)
abbrev Aq1 (x:Gv):List V:=[.int .i64 x.Time,.int .i64 x.Source,.int .i64 x.Seq]
abbrev IW (x:Gv):V:=.agg (Aq1 x)
abbrev B2 (x:B0):List V:=[.sl (lst H6.eAr6 x.cX) .ro,.bool x.full]
abbrev P9 (x:A5):List V:=[.int .i64 x.Kind,.int .i64 x.Num,.str x.Text]
abbrev D3 (x:A5):V:=.agg (P9 x)
abbrev DG (x:D1):List V:=[.sl (lst H6.eAs3 x.cQ) .ro]
abbrev BE (x:D1):V:=.agg (DG x)
abbrev EM (x:A1):List V:=[.int .i64 x.cT,.int .i64 x.at_]
abbrev L9 (x:A1):V:=.agg (EM x)
abbrev Aq2 (x:Cu):List V:=[.sl (lst H6.eAt0 x.cV) .ro]
abbrev Qc (x:Cu):V:=.agg (Aq2 x)
abbrev JC (x:C9):List V:=[.int .i64 x.source,.int .i64 x.seq]
abbrev IV (x:C9):V:=.agg (JC x)
end Go.Ab
