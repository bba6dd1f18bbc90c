/- GTTypes GTTy GTEn -/
import Derived.Test.YtanbgjgaafeplaaGreatDoorB09
import Derived.KernelRfl
import Derived.Test.YtanbgjgaafeplaaGreatDoorChecked
set_option linter.all false
open Go.Ab.Ar (lst)
namespace Go.Ab
open Go.RowKit Go.Proofs
set_option maxRecDepth 100000
theorem tk {t:Nat}{I:WL}(a:Cc Tryz.prog t=some I.sz:=by kernel_rfl)(b:Kb Tryz.prog t=some I.by_:=by kernel_rfl)(c:PM Tryz.prog t=some I.ag:=by kernel_rfl)(d:Cy Tryz.prog t=I.sl:=by kernel_rfl)(e:arO Tryz.prog t=I.ar:=by kernel_rfl)
 (f:YE Tryz.prog t 0 I.fs:=by repeat' (first|refine⟨?_,?_⟩|exact True.intro|kernel_rfl)) (g:Aj I.pl (fun l=>Ja Tryz.prog t=some l):=by first|exact True.intro|(show Ja Tryz.prog _=some _;kernel_rfl))
 (h:Aj I.ze (fun z=>EW Tryz.prog t=some z):=by first|exact True.intro|(show EW Tryz.prog _=some _;kernel_rfl)) (i:Aj I.ek (fun k=>Du Tryz.prog 9 t=some k):=by first|exact True.intro|(show Du Tryz.prog 9 _=some _;kernel_rfl)) (j:OP Tryz.prog t=I.st:=by kernel_rfl)
 (k:I.bo=true→UU ((Tryz.prog).underlying t)=true:=by intro h;first|(cases h;done)|kernel_rfl) (l:Aj I.ik (fun k=>(Tryz.prog).underlying t=some (.int k)):=by first|exact True.intro|(show(Tryz.prog).underlying _=some (.int _);kernel_rfl))
 (m:I.nif=true→ifO Tryz.prog t=false:=by intro h;first|(cases h;done)|kernel_rfl):Am2 Tryz.prog t I:=⟨a,b,c,d,e,f,g,h,i,j,k,l,m⟩
def TT :Et:=[(2,⟨1,8,false,none,none,[],none,some (.int .i64 0),some [0],false,false,some .i64,true⟩),
 (3,⟨1,8,false,none,none,[],none,some (.int .i64 0),some [0],false,false,some .i64,true⟩),
 (4,⟨1,1,false,none,none,[],none,some (.bool false),some [1],false,true,none,true⟩),
 (5,⟨1,1,false,none,none,[],none,some (.int .u8 0),some [0],false,false,some .u8,true⟩),
 (9,⟨1,16,false,none,none,[],none,some (.str ⟨#[]⟩),some [2],true,false,none,true⟩),
 (22,⟨1,24,false,some (29),none,[],none,some (.sl [] .nil),none,false,false,none,true⟩),
 (23,⟨1,24,false,some (27),none,[],none,some (.sl [] .nil),none,false,false,none,true⟩),
 (25,⟨3,32,true,none,none,[some (0,3),some (1,3),some (2,9)],some [(0,1),(1,1),(2,1)],some (.agg [.int .i64 0,.int .i64 0,.str ⟨#[]⟩]),some [0,0,2],false,false,none,true⟩),
 (27,⟨8,88,true,none,none,[some (0,3),some (1,23),some (2,3),some (3,3),some (4,3),some (5,25)],some [(0,1),(1,1),(2,1),(3,1),(4,1),(5,3)],some (.agg [.int .i64 0,.sl [] .nil,.int .i64 0,.int .i64 0,.int .i64 0,.int .i64 0,.int .i64 0,.str ⟨#[]⟩]),none,false,false,none,true⟩),
 (29,⟨14,152,true,none,none,[some (0,3),some (1,22),some (2,3),some (3,3),some (4,3),some (5,3),some (6,27)],some [(0,1),(1,1),(2,1),(3,1),(4,1),(5,1),(6,8)],some (.agg [.int .i64 0,.sl [] .nil,.int .i64 0,.int .i64 0,.int .i64 0,.int .i64 0,.int .i64 0,.sl [] .nil,.int .i64 0,.int .i64 0,.int .i64 0,.int .i64 0,.int .i64 0,.str ⟨#[]⟩]),none,false,false,none,true⟩),
 (30,⟨1,24,false,some (62),none,[],none,some (.sl [] .nil),none,false,false,none,true⟩),
 (33,⟨1,24,false,some (48),none,[],none,some (.sl [] .nil),none,false,false,none,true⟩),
 (34,⟨1,8,false,none,none,[],none,some (.int .i64 0),some [0],false,false,some .i64,true⟩),
 (42,⟨1,24,false,some (3),none,[],none,some (.sl [] .nil),none,false,false,none,true⟩),
 (46,⟨1,24,false,some (52),none,[],none,some (.sl [] .nil),none,false,false,none,true⟩),
 (48,⟨1,24,true,none,none,[some (0,46)],some [(0,1)],some (.agg [.sl [] .nil]),none,false,false,none,true⟩),
 (50,⟨3,24,true,none,none,[some (0,3),some (1,3),some (2,3)],some [(0,1),(1,1),(2,1)],some (.agg [.int .i64 0,.int .i64 0,.int .i64 0]),some [0,0,0],false,false,none,true⟩),
 (52,⟨4,32,true,none,none,[some (0,3),some (1,50)],some [(0,1),(1,3)],some (.agg [.int .i64 0,.int .i64 0,.int .i64 0,.int .i64 0]),some [0,0,0,0],false,false,none,true⟩),
 (60,⟨1,24,false,some (25),none,[],none,some (.sl [] .nil),none,false,false,none,true⟩),
 (62,⟨5,56,true,none,none,[some (0,3),some (1,3),some (2,3),some (3,3),some (4,60)],some [(0,1),(1,1),(2,1),(3,1),(4,1)],some (.agg [.int .i64 0,.int .i64 0,.int .i64 0,.int .i64 0,.sl [] .nil]),none,false,false,none,true⟩),
 (91,⟨1,24,false,some (96),none,[],none,some (.sl [] .nil),none,false,false,none,true⟩),
 (94,⟨1,24,false,some (157),none,[],none,some (.sl [] .nil),none,false,false,none,true⟩),
 (96,⟨17,240,true,none,none,[some (0,3),some (1,3),some (2,3),some (3,3),some (4,27),some (12,42),some (13,42),some (14,23),some (15,94),some (16,42)],some [(0,1),(1,1),(2,1),(3,1),(4,8),(12,1),(13,1),(14,1),(15,1),(16,1)],some (.agg [.int .i64 0,.int .i64 0,.int .i64 0,.int .i64 0,.int .i64 0,.sl [] .nil,.int .i64 0,.int .i64 0,.int .i64 0,.int .i64 0,.int .i64 0,.str ⟨#[]⟩,.sl [] .nil,.sl [] .nil,.sl [] .nil,.sl [] .nil,.sl [] .nil]),none,false,false,none,true⟩),
 (98,⟨1,24,false,some (30),none,[],none,some (.sl [] .nil),none,false,false,none,true⟩),
 (100,⟨1,24,true,none,none,[some (0,98)],some [(0,1)],some (.agg [.sl [] .nil]),none,false,false,none,true⟩),
 (127,⟨1,24,false,some (4),none,[],none,some (.sl [] .nil),none,false,false,none,true⟩),
 (148,⟨1,24,false,some (152),none,[],none,some (.sl [] .nil),none,false,false,none,true⟩),
 (152,⟨11,112,true,none,none,[some (0,3),some (1,3),some (2,3),some (3,27)],some [(0,1),(1,1),(2,1),(3,8)],some (.agg [.int .i64 0,.int .i64 0,.int .i64 0,.int .i64 0,.sl [] .nil,.int .i64 0,.int .i64 0,.int .i64 0,.int .i64 0,.int .i64 0,.str ⟨#[]⟩]),none,false,false,none,true⟩),
 (157,⟨2,16,true,none,none,[some (0,3),some (1,3)],some [(0,1),(1,1)],some (.agg [.int .i64 0,.int .i64 0]),some [0,0],false,false,none,true⟩),
 (166,⟨1,8,false,none,none,[],none,some (.nilp),none,false,false,none,true⟩),
 (168,⟨2,32,true,none,none,[some (0,30),some (1,4)],some [(0,1),(1,1)],some (.agg [.sl [] .nil,.bool false]),none,false,false,none,true⟩),
 (169,⟨1,24,false,some (172),none,[],none,some (.sl [] .nil),none,false,false,none,true⟩),
 (171,⟨1,24,false,some (174),none,[],none,some (.sl [] .nil),none,false,false,none,true⟩),
 (172,⟨1,24,false,some (174),none,[],none,some (.sl [] .nil),none,false,false,none,true⟩),
 (174,⟨2,16,true,none,none,[some (0,3),some (1,3)],some [(0,1),(1,1)],some (.agg [.int .i64 0,.int .i64 0]),some [0,0],false,false,none,true⟩),
 (176,⟨1,24,false,some (179),none,[],none,some (.sl [] .nil),none,false,false,none,true⟩),
 (179,⟨1,24,false,some (227),none,[],none,some (.sl [] .nil),none,false,false,none,true⟩),
 (186,⟨1,8,false,none,none,[],none,some (.int .u64 0),some [0],false,false,some .u64,true⟩),
 (195,⟨6,24,true,none,none,[some (0,3),some (1,3),some (2,4),some (3,4),some (4,4),some (5,4)],some [(0,1),(1,1),(2,1),(3,1),(4,1),(5,1)],some (.agg [.int .i64 0,.int .i64 0,.bool false,.bool false,.bool false,.bool false]),some [0,0,1,1,1,1],false,false,none,true⟩),
 (196,⟨66,264,true,none,some (11,195),[],none,none,none,false,false,none,true⟩),
 (205,⟨15,160,true,none,none,[some (0,4),some (1,29)],some [(0,1),(1,14)],some (.agg [.bool false,.int .i64 0,.sl [] .nil,.int .i64 0,.int .i64 0,.int .i64 0,.int .i64 0,.int .i64 0,.sl [] .nil,.int .i64 0,.int .i64 0,.int .i64 0,.int .i64 0,.int .i64 0,.str ⟨#[]⟩]),none,false,false,none,true⟩),
 (209,⟨1,8,false,none,none,[],none,some (.nilmap),none,false,false,none,true⟩),
 (212,⟨2,16,true,none,none,[some (0,3),some (1,3)],some [(0,1),(1,1)],some (.agg [.int .i64 0,.int .i64 0]),some [0,0],false,false,none,true⟩),
 (214,⟨1,8,false,none,none,[],none,some (.nilmap),none,false,false,none,true⟩),
 (216,⟨1,8,false,none,none,[],none,some (.nilf),none,false,false,none,true⟩),
 (217,⟨8,64,true,none,some (8,216),[],none,some (.agg [.nilf,.nilf,.nilf,.nilf,.nilf,.nilf,.nilf,.nilf]),none,false,false,none,true⟩),
 (227,⟨2,16,true,none,none,[some (0,3),some (1,3)],some [(0,1),(1,1)],some (.agg [.int .i64 0,.int .i64 0]),some [0,0],false,false,none,true⟩),
 (232,⟨1,8,false,none,none,[],none,some (.nilf),none,false,false,none,true⟩),
 (239,⟨1,24,false,some (5),none,[],none,some (.sl [] .nil),none,false,false,none,true⟩),
 (242,⟨1,8,false,none,none,[],none,some (.int .i64 0),some [0],false,false,some .i64,true⟩),
 (249,⟨1,4,false,none,none,[],none,some (.int .u32 0),some [0],false,false,some .u32,true⟩),
 (251,⟨1,8,false,none,none,[],none,some (.int .u64 0),some [0],false,false,some .u64,true⟩),
 (269,⟨1,8,false,none,none,[],none,some (.nilf),none,false,false,none,true⟩),
 (273,⟨1,8,false,none,none,[],none,some (.nilf),none,false,false,none,true⟩),
 (274,⟨1,24,false,some (169),none,[],none,some (.sl [] .nil),none,false,false,none,true⟩),
 (277,⟨1,8,false,none,none,[],none,some (.int .u64 0),some [0],false,false,some .u64,true⟩),
 (290,⟨1,24,false,some (23),none,[],none,some (.sl [] .nil),none,false,false,none,true⟩),
 (295,⟨5,48,true,none,none,[some (0,3),some (1,3),some (2,25)],some [(0,1),(1,1),(2,3)],some (.agg [.int .i64 0,.int .i64 0,.int .i64 0,.int .i64 0,.str ⟨#[]⟩]),some [0,0,0,0,2],false,false,none,true⟩),
 (308,⟨1,24,false,some (42),none,[],none,some (.sl [] .nil),none,false,false,none,true⟩),
 (310,⟨1,24,false,some (94),none,[],none,some (.sl [] .nil),none,false,false,none,true⟩),
 (322,⟨24,24,true,none,some (24,5),[],none,some (.agg [.int .u8 0,.int .u8 0,.int .u8 0,.int .u8 0,.int .u8 0,.int .u8 0,.int .u8 0,.int .u8 0,.int .u8 0,.int .u8 0,.int .u8 0,.int .u8 0,.int .u8 0,.int .u8 0,.int .u8 0,.int .u8 0,.int .u8 0,.int .u8 0,.int .u8 0,.int .u8 0,.int .u8 0,.int .u8 0,.int .u8 0,.int .u8 0]),none,false,false,none,true⟩),
 (326,⟨1,8,false,none,none,[],none,some (.nilmap),none,false,false,none,true⟩),
 (329,⟨8,96,true,none,none,[some (0,100),some (1,3),some (2,62),some (7,326)],some [(0,1),(1,1),(2,5),(7,1)],some (.agg [.sl [] .nil,.int .i64 0,.int .i64 0,.int .i64 0,.int .i64 0,.int .i64 0,.sl [] .nil,.nilmap]),none,false,false,none,true⟩),
 (334,⟨20,160,true,none,some (20,251),[],none,some (.agg [.int .u64 0,.int .u64 0,.int .u64 0,.int .u64 0,.int .u64 0,.int .u64 0,.int .u64 0,.int .u64 0,.int .u64 0,.int .u64 0,.int .u64 0,.int .u64 0,.int .u64 0,.int .u64 0,.int .u64 0,.int .u64 0,.int .u64 0,.int .u64 0,.int .u64 0,.int .u64 0]),none,false,false,none,true⟩),
 (335,⟨65,65,true,none,some (65,5),[],none,none,none,false,false,none,true⟩),
 (337,⟨1,8,false,none,none,[],none,some (.nilf),none,false,false,none,true⟩),
 (349,⟨32,32,true,none,some (32,5),[],none,some (.agg [.int .u8 0,.int .u8 0,.int .u8 0,.int .u8 0,.int .u8 0,.int .u8 0,.int .u8 0,.int .u8 0,.int .u8 0,.int .u8 0,.int .u8 0,.int .u8 0,.int .u8 0,.int .u8 0,.int .u8 0,.int .u8 0,.int .u8 0,.int .u8 0,.int .u8 0,.int .u8 0,.int .u8 0,.int .u8 0,.int .u8 0,.int .u8 0,.int .u8 0,.int .u8 0,.int .u8 0,.int .u8 0,.int .u8 0,.int .u8 0,.int .u8 0,.int .u8 0]),none,false,false,none,true⟩),
 (350,⟨64,64,true,none,some (64,5),[],none,none,none,false,false,none,true⟩),
 (360,⟨1,8,false,none,none,[],none,some (.nilf),none,false,false,none,true⟩),
 (361,⟨6,48,true,none,some (6,360),[],none,some (.agg [.nilf,.nilf,.nilf,.nilf,.nilf,.nilf]),none,false,false,none,true⟩)]
theorem okT :Gt Tryz.prog TT:=⟨tk,tk,tk,tk,tk,tk,tk,tk,tk,tk,tk,tk,tk,tk,tk,tk,tk,tk,tk,tk,tk,tk,tk,tk,tk,tk,tk,tk,tk,tk,tk,tk,tk,tk,tk,tk,tk,tk,tk,tk,tk,tk,tk,tk,tk,tk,tk,tk,tk,tk,tk,tk,tk,tk,tk,tk,tk,tk,tk,tk,tk,tk,tk,tk,tk,tk,tk,tk,tk,tk,trivial⟩
end Go.Ab
namespace Go.Ab
structure A6 where
 Kind:Int
 Num:Int
 Text:ByteArray
structure A7 where
 Op:Int
 cQ:List A7
 Var:Int
 Field:Int
 Kind:Int
 Value:A6
structure A1 where
 Op:Int
 cQ:List A1
 Typ:Int
 Var:Int
 cU:Int
 Span:Int
 cS:A7
structure A4 where
 Source:Int
 Seq:Int
 Typ:Int
 Time:Int
 Values:List A6
structure Af where
 Time:Int
 Source:Int
 Seq:Int
structure D6 where
 Var:Int
 Ref:Af
structure B6 where
 cR:List D6
structure PS where
 cU:Int
 Span:Int
structure JC where
 From:Int
 To:Int
 Var:Int
 Typ:Int
 cS:A7
 Opens:List Int
 Closes:List Int
 Checks:List A7
 Limits:List PS
 Inside:List Int
structure DK where
 cZ:List (List A4)
structure GGuard where
 cU:Int
 Typ:Int
 Var:Int
 cS:A7
structure A8 where
 cY:List A4
 full:Bool
structure A0 where
 cV:Int
 at_:Int
structure M1 where
 Var:Int
 At:Int
structure J3 where
 cX:Int
 most:Int
 cT:Bool
 cond:Bool
 scope:Bool
 span:Bool
structure J6 where
 done:Bool
 p:A1
structure C9 where
 source:Int
 seq:Int
structure C8 where
 Kind:Int
 Count:Int
 Value:A6
structure O9 where
 env:DK
 own:Int
 event:A4
 apply:Unit
def F5 :List J3:=[⟨0,0,true,true,false,false⟩,⟨2,64,false,false,false,false⟩,⟨2,64,false,false,false,false⟩,⟨2,64,false,false,false,false⟩,⟨1,1,false,false,false,false⟩,⟨1,1,true,true,true,false⟩,⟨1,1,false,false,true,true⟩,⟨1,1,false,true,false,false⟩,⟨2,2,false,false,false,false⟩,⟨1,1,true,true,true,false⟩,⟨1,1,false,false,true,true⟩]
end Go.Ab
namespace Go.Ab
variable [Ar]
def YI :List Int:=[5,6,7,8,10,11,12]
def YH :List V:=[.func (.func 308) [] [.eref [.func (.func 307) [] []] 0],.func (.func 309) [] [.eref [.func (.func 307) [] []] 0],.func (.func 310) [] [],.func (.func 311) [] [],.func (.func 312) [] [],.func (.func 313) [] [],.func (.func 314) [] []]
class J7 where
 eAs9:A6→V
 eAt1:A7→V
 eAs6:A1→V
 eAs3:A4→V
 eAt0:D6→V
 eAs2:B6→V
 eAu5:PS→V
 eAs1:A0→V
 eAu2:M1→V
 eAu3:J3→V
 eAt8:C9→V
 eAt9:List A4→V
 eAt7:List (List A0)→V
 eAs5:List A0→V
 eAu6:List M1→V
 eAs7:∀x,eAs9 x= .agg [.int .i64 x.Kind,.int .i64 x.Num,.str x.Text]
 eAt2:∀x,eAt1 x= .agg [.int .i64 x.Op,.sl (lst eAt1 x.cQ) .ro,.int .i64 x.Var,.int .i64 x.Field,.int .i64 x.Kind,.int .i64 x.Value.Kind,.int .i64 x.Value.Num,.str x.Value.Text]
 eAs4:∀x,eAs6 x= .agg [.int .i64 x.Op,.sl (lst eAs6 x.cQ) .ro,.int .i64 x.Typ,.int .i64 x.Var,.int .i64 x.cU,.int .i64 x.Span,.int .i64 x.cS.Op,.sl (lst eAt1 x.cS.cQ) .ro,.int .i64 x.cS.Var,.int .i64 x.cS.Field,.int .i64 x.cS.Kind,.int .i64 x.cS.Value.Kind,.int .i64 x.cS.Value.Num,.str x.cS.Value.Text]
 eAs8:∀x,eAs3 x= .agg [.int .i64 x.Source,.int .i64 x.Seq,.int .i64 x.Typ,.int .i64 x.Time,.sl (lst eAs9 x.Values) .ro]
 eAt6:∀x,eAt0 x= .agg [.int .i64 x.Var,.int .i64 x.Ref.Time,.int .i64 x.Ref.Source,.int .i64 x.Ref.Seq]
 eAt3:∀x,eAs2 x= .agg [.sl (lst eAt0 x.cR) .ro]
 eAu8:∀x,eAu5 x= .agg [.int .i64 x.cU,.int .i64 x.Span]
 eAt4:∀x,eAs1 x= .agg [.int .i64 x.cV,.int .i64 x.at_]
 eAu9:∀x,eAu2 x= .agg [.int .i64 x.Var,.int .i64 x.At]
 eAu7:∀x,eAu3 x= .agg [.int .i64 x.cX,.int .i64 x.most,.bool x.cT,.bool x.cond,.bool x.scope,.bool x.span]
 eAu0:∀x,eAt8 x= .agg [.int .i64 x.source,.int .i64 x.seq]
 eAu4:∀x,eAt9 x= .sl (lst eAs3 x) .ro
 eAu1:∀x,eAt7 x= .sl (lst eAs5 x) .ro
 eAt5:∀x,eAs5 x= .sl (lst eAs1 x) .ro
 eAv0:∀x,eAu6 x= .sl (lst eAu2 x) .ro
theorem NI [J7](x:A6):(J7.eAs9 x).cells.length=3:=by rw[J7.eAs7];rfl
theorem Kl [J7](x:A1):(J7.eAs6 x).cells.length=14:=by rw[J7.eAs4];rfl
theorem Hn [J7](x:A4):(J7.eAs3 x).cells.length=5:=by rw[J7.eAs8];rfl
theorem Km [J7](x:D6):(J7.eAt0 x).cells.length=4:=by rw[J7.eAt6];rfl
theorem DN [J7](x:B6):(J7.eAs2 x).cells.length=1:=by rw[J7.eAt3];rfl
theorem X7 [J7](x:A0):(J7.eAs1 x).cells.length=2:=by rw[J7.eAt4];rfl
theorem Cx [J7](x:List (List A0)):(J7.eAt7 x).cells.length=1:=by rw[J7.eAu1];rfl
theorem Gz [J7](x:List A0):(J7.eAs5 x).cells.length=1:=by rw[J7.eAt5];rfl
variable [J7]
abbrev D4 (x:A1):List V:=[.int .i64 x.Op,.sl (lst J7.eAs6 x.cQ) .ro,.int .i64 x.Typ,.int .i64 x.Var,.int .i64 x.cU,.int .i64 x.Span,.int .i64 x.cS.Op,.sl (lst J7.eAt1 x.cS.cQ) .ro,.int .i64 x.cS.Var,.int .i64 x.cS.Field,.int .i64 x.cS.Kind,.int .i64 x.cS.Value.Kind,.int .i64 x.cS.Value.Num,.str x.cS.Value.Text]
abbrev B8 (x:A1):V:=.agg (D4 x)
abbrev CJ (x:O9):List V:=[.sl (lst J7.eAt9 x.env.cZ) .ro,.int .i64 x.own,.int .i64 x.event.Source,.int .i64 x.event.Seq,.int .i64 x.event.Typ,.int .i64 x.event.Time,.sl (lst J7.eAs9 x.event.Values) .ro,.fmap YI YH]
abbrev AY (x:O9):V:=.agg (CJ x)
abbrev BO (x:A7):List V:=[.int .i64 x.Op,.sl (lst J7.eAt1 x.cQ) .ro,.int .i64 x.Var,.int .i64 x.Field,.int .i64 x.Kind,.int .i64 x.Value.Kind,.int .i64 x.Value.Num,.str x.Value.Text]
abbrev J1 (x:A7):V:=.agg (BO x)
abbrev Lk (x:A4):List V:=[.int .i64 x.Source,.int .i64 x.Seq,.int .i64 x.Typ,.int .i64 x.Time,.sl (lst J7.eAs9 x.Values) .ro]
abbrev X6 (x:A4):V:=.agg (Lk x)
abbrev Fd (x:C8):List V:=[.int .i64 x.Kind,.int .i64 x.Count,.int .i64 x.Value.Kind,.int .i64 x.Value.Num,.str x.Value.Text]
abbrev J5 (x:C8):V:=.agg (Fd x)
abbrev Dw (x:J3):List V:=[.int .i64 x.cX,.int .i64 x.most,.bool x.cT,.bool x.cond,.bool x.scope,.bool x.span]
abbrev Gf (x:J3):V:=.agg (Dw x)
abbrev WG (x:D6):List V:=[.int .i64 x.Var,.int .i64 x.Ref.Time,.int .i64 x.Ref.Source,.int .i64 x.Ref.Seq]
abbrev DL (x:D6):V:=.agg (WG x)
abbrev HY (x:Af):List V:=[.int .i64 x.Time,.int .i64 x.Source,.int .i64 x.Seq]
abbrev Ex (x:Af):V:=.agg (HY x)
abbrev B0 (x:A8):List V:=[.sl (lst J7.eAs3 x.cY) .ro,.bool x.full]
abbrev P3 (x:A6):List V:=[.int .i64 x.Kind,.int .i64 x.Num,.str x.Text]
abbrev D3 (x:A6):V:=.agg (P3 x)
abbrev FZ (x:B6):List V:=[.sl (lst J7.eAt0 x.cR) .ro]
abbrev Ax (x:B6):V:=.agg (FZ x)
abbrev EP (x:A0):List V:=[.int .i64 x.cV,.int .i64 x.at_]
abbrev M2 (x:A0):V:=.agg (EP x)
abbrev Ar1 (x:DK):List V:=[.sl (lst J7.eAt9 x.cZ) .ro]
abbrev Qh (x:DK):V:=.agg (Ar1 x)
abbrev Jt (x:C9):List V:=[.int .i64 x.source,.int .i64 x.seq]
abbrev IT (x:C9):V:=.agg (Jt x)
end Go.Ab
