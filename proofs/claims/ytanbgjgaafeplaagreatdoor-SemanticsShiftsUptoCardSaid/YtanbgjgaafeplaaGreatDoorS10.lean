/- GTTypes GTTy GTEn -/
import Derived.Test.YtanbgjgaafeplaaGreatDoorS09
import Derived.KernelRfl
import Derived.Test.YtanbgjgaafeplaaGreatDoorChecked
set_option linter.all false
open Go.Ab.Ar (lst)
namespace Go.Ab
open Go.RowKit Go.Proofs
set_option maxRecDepth 100000
theorem tk {t:Nat}{I:Vd}(a:DM Tryz.prog t=some I.sz:=by kernel_rfl)(b:Oo Tryz.prog t=some I.by_:=by kernel_rfl)(c:Ov Tryz.prog t=some I.ag:=by kernel_rfl)(d:EQ Tryz.prog t=I.sl:=by kernel_rfl)(e:ZD Tryz.prog t=I.ar:=by kernel_rfl)
 (f:WS Tryz.prog t 0 I.fs:=by repeat' (first|refine⟨?_,?_⟩|exact True.intro|kernel_rfl)) (g:As I.pl (fun l=>Ip Tryz.prog t=some l):=by first|exact True.intro|(show Ip Tryz.prog _=some _;kernel_rfl))
 (h:As I.ze (fun z=>FK Tryz.prog t=some z):=by first|exact True.intro|(show FK Tryz.prog _=some _;kernel_rfl)) (i:As I.ek (fun k=>CK Tryz.prog 9 t=some k):=by first|exact True.intro|(show CK Tryz.prog 9 _=some _;kernel_rfl)) (j:Nz Tryz.prog t=I.st:=by kernel_rfl)
 (k:I.bo=true→Tw ((Tryz.prog).underlying t)=true:=by intro h;first|(cases h;done)|kernel_rfl) (l:As I.ik (fun k=>(Tryz.prog).underlying t=some (.int k)):=by first|exact True.intro|(show(Tryz.prog).underlying _=some (.int _);kernel_rfl))
 (m:I.nif=true→ifO Tryz.prog t=false:=by intro h;first|(cases h;done)|kernel_rfl):Ad6 Tryz.prog t I:=⟨a,b,c,d,e,f,g,h,i,j,k,l,m⟩
def TT :Ev:=[(2,⟨1,8,false,none,none,[],none,some (.int .i64 0),some [0],false,false,some .i64,true⟩),
 (3,⟨1,8,false,none,none,[],none,some (.int .i64 0),some [0],false,false,some .i64,true⟩),
 (4,⟨1,1,false,none,none,[],none,some (.bool false),some [1],false,true,none,true⟩),
 (5,⟨1,1,false,none,none,[],none,some (.int .u8 0),some [0],false,false,some .u8,true⟩),
 (9,⟨1,16,false,none,none,[],none,some (.str ⟨#[]⟩),some [2],true,false,none,true⟩),
 (22,⟨1,24,false,some (29),none,[],none,some (.sl [] .nil),none,false,false,none,true⟩),
 (23,⟨1,24,false,some (27),none,[],none,some (.sl [] .nil),none,false,false,none,true⟩),
 (25,⟨3,32,true,none,none,[some (0,3),some (1,3),some (2,9)],some [(0,1),(1,1),(2,1)],some (.agg [.int .i64 0,.int .i64 0,.str ⟨#[]⟩]),some [0,0,2],false,false,none,true⟩),
 (27,⟨8,88,true,none,none,[some (0,3),some (1,23),some (2,3),some (3,3),some (4,3),some (5,25)],some [(0,1),(1,1),(2,1),(3,1),(4,1),(5,3)],some (.agg [.int .i64 0,.sl [] .nil,.int .i64 0,.int .i64 0,.int .i64 0,.int .i64 0,.int .i64 0,.str ⟨#[]⟩]),none,false,false,none,true⟩),
 (29,⟨14,152,true,none,none,[some (0,3),some (1,22),some (2,3),some (3,3),some (4,3),some (5,3),some (6,27)],some [(0,1),(1,1),(2,1),(3,1),(4,1),(5,1),(6,8)],some (.agg [.int .i64 0,.sl [] .nil,.int .i64 0,.int .i64 0,.int .i64 0,.int .i64 0,.int .i64 0,.sl [] .nil,.int .i64 0,.int .i64 0,.int .i64 0,.int .i64 0,.int .i64 0,.str ⟨#[]⟩]),none,false,false,none,true⟩),
 (30,⟨1,24,false,some (62),none,[],none,some (.sl [] .nil),none,false,false,none,true⟩),
 (33,⟨1,24,false,some (48),none,[],none,some (.sl [] .nil),none,false,false,none,true⟩),
 (34,⟨1,8,false,none,none,[],none,some (.int .i64 0),some [0],false,false,some .i64,true⟩),
 (42,⟨1,24,false,some (3),none,[],none,some (.sl [] .nil),none,false,false,none,true⟩),
 (46,⟨1,24,false,some (52),none,[],none,some (.sl [] .nil),none,false,false,none,true⟩),
 (48,⟨1,24,true,none,none,[some (0,46)],some [(0,1)],some (.agg [.sl [] .nil]),none,false,false,none,true⟩),
 (50,⟨3,24,true,none,none,[some (0,3),some (1,3),some (2,3)],some [(0,1),(1,1),(2,1)],some (.agg [.int .i64 0,.int .i64 0,.int .i64 0]),some [0,0,0],false,false,none,true⟩),
 (52,⟨4,32,true,none,none,[some (0,3),some (1,50)],some [(0,1),(1,3)],some (.agg [.int .i64 0,.int .i64 0,.int .i64 0,.int .i64 0]),some [0,0,0,0],false,false,none,true⟩),
 (60,⟨1,24,false,some (25),none,[],none,some (.sl [] .nil),none,false,false,none,true⟩),
 (62,⟨5,56,true,none,none,[some (0,3),some (1,3),some (2,3),some (3,3),some (4,60)],some [(0,1),(1,1),(2,1),(3,1),(4,1)],some (.agg [.int .i64 0,.int .i64 0,.int .i64 0,.int .i64 0,.sl [] .nil]),none,false,false,none,true⟩),
 (91,⟨1,24,false,some (96),none,[],none,some (.sl [] .nil),none,false,false,none,true⟩),
 (94,⟨1,24,false,some (157),none,[],none,some (.sl [] .nil),none,false,false,none,true⟩),
 (96,⟨17,240,true,none,none,[some (0,3),some (1,3),some (2,3),some (3,3),some (4,27),some (12,42),some (13,42),some (14,23),some (15,94),some (16,42)],some [(0,1),(1,1),(2,1),(3,1),(4,8),(12,1),(13,1),(14,1),(15,1),(16,1)],some (.agg [.int .i64 0,.int .i64 0,.int .i64 0,.int .i64 0,.int .i64 0,.sl [] .nil,.int .i64 0,.int .i64 0,.int .i64 0,.int .i64 0,.int .i64 0,.str ⟨#[]⟩,.sl [] .nil,.sl [] .nil,.sl [] .nil,.sl [] .nil,.sl [] .nil]),none,false,false,none,true⟩),
 (98,⟨1,24,false,some (30),none,[],none,some (.sl [] .nil),none,false,false,none,true⟩),
 (100,⟨1,24,true,none,none,[some (0,98)],some [(0,1)],some (.agg [.sl [] .nil]),none,false,false,none,true⟩),
 (127,⟨1,24,false,some (4),none,[],none,some (.sl [] .nil),none,false,false,none,true⟩),
 (148,⟨1,24,false,some (152),none,[],none,some (.sl [] .nil),none,false,false,none,true⟩),
 (152,⟨11,112,true,none,none,[some (0,3),some (1,3),some (2,3),some (3,27)],some [(0,1),(1,1),(2,1),(3,8)],some (.agg [.int .i64 0,.int .i64 0,.int .i64 0,.int .i64 0,.sl [] .nil,.int .i64 0,.int .i64 0,.int .i64 0,.int .i64 0,.int .i64 0,.str ⟨#[]⟩]),none,false,false,none,true⟩),
 (157,⟨2,16,true,none,none,[some (0,3),some (1,3)],some [(0,1),(1,1)],some (.agg [.int .i64 0,.int .i64 0]),some [0,0],false,false,none,true⟩),
 (166,⟨1,8,false,none,none,[],none,some (.nilp),none,false,false,none,true⟩),
 (168,⟨2,32,true,none,none,[some (0,30),some (1,4)],some [(0,1),(1,1)],some (.agg [.sl [] .nil,.bool false]),none,false,false,none,true⟩),
 (169,⟨1,24,false,some (172),none,[],none,some (.sl [] .nil),none,false,false,none,true⟩),
 (171,⟨1,24,false,some (174),none,[],none,some (.sl [] .nil),none,false,false,none,true⟩),
 (172,⟨1,24,false,some (174),none,[],none,some (.sl [] .nil),none,false,false,none,true⟩),
 (174,⟨2,16,true,none,none,[some (0,3),some (1,3)],some [(0,1),(1,1)],some (.agg [.int .i64 0,.int .i64 0]),some [0,0],false,false,none,true⟩),
 (176,⟨1,24,false,some (179),none,[],none,some (.sl [] .nil),none,false,false,none,true⟩),
 (179,⟨1,24,false,some (227),none,[],none,some (.sl [] .nil),none,false,false,none,true⟩),
 (186,⟨1,8,false,none,none,[],none,some (.int .u64 0),some [0],false,false,some .u64,true⟩),
 (195,⟨6,24,true,none,none,[some (0,3),some (1,3),some (2,4),some (3,4),some (4,4),some (5,4)],some [(0,1),(1,1),(2,1),(3,1),(4,1),(5,1)],some (.agg [.int .i64 0,.int .i64 0,.bool false,.bool false,.bool false,.bool false]),some [0,0,1,1,1,1],false,false,none,true⟩),
 (196,⟨66,264,true,none,some (11,195),[],none,none,none,false,false,none,true⟩),
 (205,⟨15,160,true,none,none,[some (0,4),some (1,29)],some [(0,1),(1,14)],some (.agg [.bool false,.int .i64 0,.sl [] .nil,.int .i64 0,.int .i64 0,.int .i64 0,.int .i64 0,.int .i64 0,.sl [] .nil,.int .i64 0,.int .i64 0,.int .i64 0,.int .i64 0,.int .i64 0,.str ⟨#[]⟩]),none,false,false,none,true⟩),
 (209,⟨1,8,false,none,none,[],none,some (.nilmap),none,false,false,none,true⟩),
 (212,⟨2,16,true,none,none,[some (0,3),some (1,3)],some [(0,1),(1,1)],some (.agg [.int .i64 0,.int .i64 0]),some [0,0],false,false,none,true⟩),
 (214,⟨1,8,false,none,none,[],none,some (.nilmap),none,false,false,none,true⟩),
 (216,⟨1,8,false,none,none,[],none,some (.nilf),none,false,false,none,true⟩),
 (217,⟨8,64,true,none,some (8,216),[],none,some (.agg [.nilf,.nilf,.nilf,.nilf,.nilf,.nilf,.nilf,.nilf]),none,false,false,none,true⟩),
 (227,⟨2,16,true,none,none,[some (0,3),some (1,3)],some [(0,1),(1,1)],some (.agg [.int .i64 0,.int .i64 0]),some [0,0],false,false,none,true⟩),
 (232,⟨1,8,false,none,none,[],none,some (.nilf),none,false,false,none,true⟩),
 (239,⟨1,24,false,some (5),none,[],none,some (.sl [] .nil),none,false,false,none,true⟩),
 (242,⟨1,8,false,none,none,[],none,some (.int .i64 0),some [0],false,false,some .i64,true⟩),
 (249,⟨1,4,false,none,none,[],none,some (.int .u32 0),some [0],false,false,some .u32,true⟩),
 (251,⟨1,8,false,none,none,[],none,some (.int .u64 0),some [0],false,false,some .u64,true⟩),
 (269,⟨1,8,false,none,none,[],none,some (.nilf),none,false,false,none,true⟩),
 (273,⟨1,8,false,none,none,[],none,some (.nilf),none,false,false,none,true⟩),
 (274,⟨1,24,false,some (169),none,[],none,some (.sl [] .nil),none,false,false,none,true⟩),
 (277,⟨1,8,false,none,none,[],none,some (.int .u64 0),some [0],false,false,some .u64,true⟩),
 (290,⟨1,24,false,some (23),none,[],none,some (.sl [] .nil),none,false,false,none,true⟩),
 (295,⟨5,48,true,none,none,[some (0,3),some (1,3),some (2,25)],some [(0,1),(1,1),(2,3)],some (.agg [.int .i64 0,.int .i64 0,.int .i64 0,.int .i64 0,.str ⟨#[]⟩]),some [0,0,0,0,2],false,false,none,true⟩),
 (308,⟨1,24,false,some (42),none,[],none,some (.sl [] .nil),none,false,false,none,true⟩),
 (310,⟨1,24,false,some (94),none,[],none,some (.sl [] .nil),none,false,false,none,true⟩),
 (322,⟨24,24,true,none,some (24,5),[],none,some (.agg [.int .u8 0,.int .u8 0,.int .u8 0,.int .u8 0,.int .u8 0,.int .u8 0,.int .u8 0,.int .u8 0,.int .u8 0,.int .u8 0,.int .u8 0,.int .u8 0,.int .u8 0,.int .u8 0,.int .u8 0,.int .u8 0,.int .u8 0,.int .u8 0,.int .u8 0,.int .u8 0,.int .u8 0,.int .u8 0,.int .u8 0,.int .u8 0]),none,false,false,none,true⟩),
 (326,⟨1,8,false,none,none,[],none,some (.nilmap),none,false,false,none,true⟩),
 (329,⟨8,96,true,none,none,[some (0,100),some (1,3),some (2,62),some (7,326)],some [(0,1),(1,1),(2,5),(7,1)],some (.agg [.sl [] .nil,.int .i64 0,.int .i64 0,.int .i64 0,.int .i64 0,.int .i64 0,.sl [] .nil,.nilmap]),none,false,false,none,true⟩),
 (334,⟨20,160,true,none,some (20,251),[],none,some (.agg [.int .u64 0,.int .u64 0,.int .u64 0,.int .u64 0,.int .u64 0,.int .u64 0,.int .u64 0,.int .u64 0,.int .u64 0,.int .u64 0,.int .u64 0,.int .u64 0,.int .u64 0,.int .u64 0,.int .u64 0,.int .u64 0,.int .u64 0,.int .u64 0,.int .u64 0,.int .u64 0]),none,false,false,none,true⟩),
 (335,⟨65,65,true,none,some (65,5),[],none,none,none,false,false,none,true⟩),
 (337,⟨1,8,false,none,none,[],none,some (.nilf),none,false,false,none,true⟩),
 (349,⟨32,32,true,none,some (32,5),[],none,some (.agg [.int .u8 0,.int .u8 0,.int .u8 0,.int .u8 0,.int .u8 0,.int .u8 0,.int .u8 0,.int .u8 0,.int .u8 0,.int .u8 0,.int .u8 0,.int .u8 0,.int .u8 0,.int .u8 0,.int .u8 0,.int .u8 0,.int .u8 0,.int .u8 0,.int .u8 0,.int .u8 0,.int .u8 0,.int .u8 0,.int .u8 0,.int .u8 0,.int .u8 0,.int .u8 0,.int .u8 0,.int .u8 0,.int .u8 0,.int .u8 0,.int .u8 0,.int .u8 0]),none,false,false,none,true⟩),
 (350,⟨64,64,true,none,some (64,5),[],none,none,none,false,false,none,true⟩),
 (360,⟨1,8,false,none,none,[],none,some (.nilf),none,false,false,none,true⟩),
 (361,⟨6,48,true,none,some (6,360),[],none,some (.agg [.nilf,.nilf,.nilf,.nilf,.nilf,.nilf]),none,false,false,none,true⟩)]
theorem okT :FI Tryz.prog TT:=⟨tk,tk,tk,tk,tk,tk,tk,tk,tk,tk,tk,tk,tk,tk,tk,tk,tk,tk,tk,tk,tk,tk,tk,tk,tk,tk,tk,tk,tk,tk,tk,tk,tk,tk,tk,tk,tk,tk,tk,tk,tk,tk,tk,tk,tk,tk,tk,tk,tk,tk,tk,tk,tk,tk,tk,tk,tk,tk,tk,tk,tk,tk,tk,tk,tk,tk,tk,tk,tk,tk,trivial⟩
end Go.Ab
namespace Go.Ab
structure A7 where
 Kind:Int
 Num:Int
 Text:ByteArray
structure A5 where
 Op:Int
 cN:List A5
 Var:Int
 Field:Int
 Kind:Int
 Value:A7
structure A0 where
 Op:Int
 cN:List A0
 Typ:Int
 Var:Int
 cR:Int
 Span:Int
 cO:A5
structure A3 where
 Source:Int
 Seq:Int
 Typ:Int
 Time:Int
 Values:List A7
structure EO where
 Time:Int
 Source:Int
 Seq:Int
structure C1 where
 Var:Int
 Ref:EO
structure D3 where
 cP:List C1
structure Oz where
 cR:Int
 Span:Int
structure IN where
 From:Int
 To:Int
 Var:Int
 Typ:Int
 cO:A5
 Opens:List Int
 Closes:List Int
 Checks:List A5
 Limits:List Oz
 Inside:List Int
structure CH where
 cU:List (List A3)
structure GGuard where
 cR:Int
 Typ:Int
 Var:Int
 cO:A5
structure A8 where
 cV:List A3
 full:Bool
structure A1 where
 cS:Int
 at_:Int
structure K7 where
 Var:Int
 At:Int
structure I5 where
 cT:Int
 most:Int
 cQ:Bool
 cond:Bool
 scope:Bool
 span:Bool
structure I9 where
 done:Bool
 p:A0
structure C8 where
 source:Int
 seq:Int
structure C7 where
 Kind:Int
 Count:Int
 Value:A7
structure N9 where
 env:CH
 own:Int
 event:A3
 apply:Unit
def F2 :List I5:=[⟨0,0,true,true,false,false⟩,⟨2,64,false,false,false,false⟩,⟨2,64,false,false,false,false⟩,⟨2,64,false,false,false,false⟩,⟨1,1,false,false,false,false⟩,⟨1,1,true,true,true,false⟩,⟨1,1,false,false,true,true⟩,⟨1,1,false,true,false,false⟩,⟨2,2,false,false,false,false⟩,⟨1,1,true,true,true,false⟩,⟨1,1,false,false,true,true⟩]
end Go.Ab
namespace Go.Ab
variable [Ar]
def WW :List Int:=[5,6,7,8,10,11,12]
def WV :List V:=[.func (.func 308) [] [.eref [.func (.func 307) [] []] 0],.func (.func 309) [] [.eref [.func (.func 307) [] []] 0],.func (.func 310) [] [],.func (.func 311) [] [],.func (.func 312) [] [],.func (.func 313) [] [],.func (.func 314) [] []]
class J0 where
 eAk6:A7→V
 eAk7:A5→V
 eAk0:A0→V
 eAj8:A3→V
 eAk5:C1→V
 eAk4:D3→V
 eAm1:Oz→V
 eAj7:A1→V
 eAl8:K7→V
 eAl9:I5→V
 eAl4:C8→V
 eAl5:List A3→V
 eAl2:List (List A1)→V
 eAk1:List A1→V
 eAm2:List K7→V
 eAk2:∀x,eAk6 x= .agg [.int .i64 x.Kind,.int .i64 x.Num,.str x.Text]
 eAk8:∀x,eAk7 x= .agg [.int .i64 x.Op,.sl (lst eAk7 x.cN) .ro,.int .i64 x.Var,.int .i64 x.Field,.int .i64 x.Kind,.int .i64 x.Value.Kind,.int .i64 x.Value.Num,.str x.Value.Text]
 eAj9:∀x,eAk0 x= .agg [.int .i64 x.Op,.sl (lst eAk0 x.cN) .ro,.int .i64 x.Typ,.int .i64 x.Var,.int .i64 x.cR,.int .i64 x.Span,.int .i64 x.cO.Op,.sl (lst eAk7 x.cO.cN) .ro,.int .i64 x.cO.Var,.int .i64 x.cO.Field,.int .i64 x.cO.Kind,.int .i64 x.cO.Value.Kind,.int .i64 x.cO.Value.Num,.str x.cO.Value.Text]
 eAk3:∀x,eAj8 x= .agg [.int .i64 x.Source,.int .i64 x.Seq,.int .i64 x.Typ,.int .i64 x.Time,.sl (lst eAk6 x.Values) .ro]
 eAl0:∀x,eAk5 x= .agg [.int .i64 x.Var,.int .i64 x.Ref.Time,.int .i64 x.Ref.Source,.int .i64 x.Ref.Seq]
 eAl3:∀x,eAk4 x= .agg [.sl (lst eAk5 x.cP) .ro]
 eAm4:∀x,eAm1 x= .agg [.int .i64 x.cR,.int .i64 x.Span]
 eAk9:∀x,eAj7 x= .agg [.int .i64 x.cS,.int .i64 x.at_]
 eAm5:∀x,eAl8 x= .agg [.int .i64 x.Var,.int .i64 x.At]
 eAm3:∀x,eAl9 x= .agg [.int .i64 x.cT,.int .i64 x.most,.bool x.cQ,.bool x.cond,.bool x.scope,.bool x.span]
 eAl6:∀x,eAl4 x= .agg [.int .i64 x.source,.int .i64 x.seq]
 eAm0:∀x,eAl5 x= .sl (lst eAj8 x) .ro
 eAl7:∀x,eAl2 x= .sl (lst eAk1 x) .ro
 eAl1:∀x,eAk1 x= .sl (lst eAj7 x) .ro
 eAm6:∀x,eAm2 x= .sl (lst eAl8 x) .ro
theorem Mq [J0](x:A7):(J0.eAk6 x).cells.length=3:=by rw[J0.eAk2];rfl
theorem Jx [J0](x:A0):(J0.eAk0 x).cells.length=14:=by rw[J0.eAj9];rfl
theorem IU [J0](x:A3):(J0.eAj8 x).cells.length=5:=by rw[J0.eAk3];rfl
theorem FP [J0](x:C1):(J0.eAk5 x).cells.length=4:=by rw[J0.eAl0];rfl
theorem Mr [J0](x:D3):(J0.eAk4 x).cells.length=1:=by rw[J0.eAl3];rfl
theorem W4 [J0](x:A1):(J0.eAj7 x).cells.length=2:=by rw[J0.eAk9];rfl
theorem BU [J0](x:List (List A1)):(J0.eAl2 x).cells.length=1:=by rw[J0.eAl7];rfl
theorem FO [J0](x:List A1):(J0.eAk1 x).cells.length=1:=by rw[J0.eAl1];rfl
variable [J0]
abbrev D1 (x:A0):List V:=[.int .i64 x.Op,.sl (lst J0.eAk0 x.cN) .ro,.int .i64 x.Typ,.int .i64 x.Var,.int .i64 x.cR,.int .i64 x.Span,.int .i64 x.cO.Op,.sl (lst J0.eAk7 x.cO.cN) .ro,.int .i64 x.cO.Var,.int .i64 x.cO.Field,.int .i64 x.cO.Kind,.int .i64 x.cO.Value.Kind,.int .i64 x.cO.Value.Num,.str x.cO.Value.Text]
abbrev B6 (x:A0):V:=.agg (D1 x)
abbrev Cj (x:N9):List V:=[.sl (lst J0.eAl5 x.env.cU) .ro,.int .i64 x.own,.int .i64 x.event.Source,.int .i64 x.event.Seq,.int .i64 x.event.Typ,.int .i64 x.event.Time,.sl (lst J0.eAk6 x.event.Values) .ro,.fmap WW WV]
abbrev AB (x:N9):V:=.agg (Cj x)
abbrev Bn (x:A5):List V:=[.int .i64 x.Op,.sl (lst J0.eAk7 x.cN) .ro,.int .i64 x.Var,.int .i64 x.Field,.int .i64 x.Kind,.int .i64 x.Value.Kind,.int .i64 x.Value.Num,.str x.Value.Text]
abbrev H5 (x:A5):V:=.agg (Bn x)
abbrev Ko (x:A3):List V:=[.int .i64 x.Source,.int .i64 x.Seq,.int .i64 x.Typ,.int .i64 x.Time,.sl (lst J0.eAk6 x.Values) .ro]
abbrev Bd (x:A3):V:=.agg (Ko x)
abbrev Eu (x:C7):List V:=[.int .i64 x.Kind,.int .i64 x.Count,.int .i64 x.Value.Kind,.int .i64 x.Value.Num,.str x.Value.Text]
abbrev I7 (x:C7):V:=.agg (Eu x)
abbrev CM (x:I5):List V:=[.int .i64 x.cT,.int .i64 x.most,.bool x.cQ,.bool x.cond,.bool x.scope,.bool x.span]
abbrev Fx (x:I5):V:=.agg (CM x)
abbrev Va (x:C1):List V:=[.int .i64 x.Var,.int .i64 x.Ref.Time,.int .i64 x.Ref.Source,.int .i64 x.Ref.Seq]
abbrev Dd (x:C1):V:=.agg (Va x)
abbrev Ai7 (x:EO):List V:=[.int .i64 x.Time,.int .i64 x.Source,.int .i64 x.Seq]
abbrev Ih (x:EO):V:=.agg (Ai7 x)
abbrev B0 (x:A8):List V:=[.sl (lst J0.eAj8 x.cV) .ro,.bool x.full]
abbrev O5 (x:A7):List V:=[.int .i64 x.Kind,.int .i64 x.Num,.str x.Text]
abbrev D0 (x:A7):V:=.agg (O5 x)
abbrev Ef (x:D3):List V:=[.sl (lst J0.eAk5 x.cP) .ro]
abbrev Co (x:D3):V:=.agg (Ef x)
abbrev Ee (x:A1):List V:=[.int .i64 x.cS,.int .i64 x.at_]
abbrev K8 (x:A1):V:=.agg (Ee x)
abbrev Ai8 (x:CH):List V:=[.sl (lst J0.eAl5 x.cU) .ro]
abbrev OO (x:CH):V:=.agg (Ai8 x)
abbrev IH (x:C8):List V:=[.int .i64 x.source,.int .i64 x.seq]
abbrev Ig (x:C8):V:=.agg (IH x)
end Go.Ab
