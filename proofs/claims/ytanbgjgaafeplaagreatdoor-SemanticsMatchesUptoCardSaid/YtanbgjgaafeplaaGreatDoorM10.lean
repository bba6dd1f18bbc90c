/- GTTypes GTTy GTEn -/
import Derived.Test.YtanbgjgaafeplaaGreatDoorM09
import Derived.KernelRfl
import Derived.Test.YtanbgjgaafeplaaGreatDoorChecked
set_option linter.all false
open Go.Ab.Ar (lst)
namespace Go.Ab
open Go.RowKit Go.Proofs
set_option maxRecDepth 100000
theorem tk {t:Nat}{I:VZ}(a:EC Tryz.prog t=some I.sz:=by kernel_rfl)(b:Pl Tryz.prog t=some I.by_:=by kernel_rfl)(c:Pq Tryz.prog t=some I.ag:=by kernel_rfl)(d:FI Tryz.prog t=I.sl:=by kernel_rfl)(e:arO Tryz.prog t=I.ar:=by kernel_rfl)
 (f:XL Tryz.prog t 0 I.fs:=by repeat' (first|refine⟨?_,?_⟩|exact True.intro|kernel_rfl)) (g:AN I.pl (fun l=>Jt Tryz.prog t=some l):=by first|exact True.intro|(show Jt Tryz.prog _=some _;kernel_rfl))
 (h:AN I.ze (fun z=>GD Tryz.prog t=some z):=by first|exact True.intro|(show GD Tryz.prog _=some _;kernel_rfl)) (i:AN I.ek (fun k=>Dh Tryz.prog 9 t=some k):=by first|exact True.intro|(show Dh Tryz.prog 9 _=some _;kernel_rfl)) (j:Ot Tryz.prog t=I.st:=by kernel_rfl)
 (k:I.bo=true→Ur ((Tryz.prog).underlying t)=true:=by intro h;first|(cases h;done)|kernel_rfl) (l:AN I.ik (fun k=>(Tryz.prog).underlying t=some (.int k)):=by first|exact True.intro|(show(Tryz.prog).underlying _=some (.int _);kernel_rfl))
 (m:I.nif=true→ifO Tryz.prog t=false:=by intro h;first|(cases h;done)|kernel_rfl):Ag4 Tryz.prog t I:=⟨a,b,c,d,e,f,g,h,i,j,k,l,m⟩
def TT :FE:=[(2,⟨1,8,false,none,none,[],none,some (.int .i64 0),some [0],false,false,some .i64,true⟩),
 (3,⟨1,8,false,none,none,[],none,some (.int .i64 0),some [0],false,false,some .i64,true⟩),
 (4,⟨1,1,false,none,none,[],none,some (.bool false),some [1],false,true,none,true⟩),
 (5,⟨1,1,false,none,none,[],none,some (.int .u8 0),some [0],false,false,some .u8,true⟩),
 (9,⟨1,16,false,none,none,[],none,some (.str ⟨#[]⟩),some [2],true,false,none,true⟩),
 (22,⟨1,24,false,some (29),none,[],none,some (.sl [] .nil),none,false,false,none,true⟩),
 (23,⟨1,24,false,some (27),none,[],none,some (.sl [] .nil),none,false,false,none,true⟩),
 (25,⟨3,32,true,none,none,[some (0,3),some (1,3),some (2,9)],some [(0,1),(1,1),(2,1)],some (.agg [.int .i64 0,.int .i64 0,.str ⟨#[]⟩]),some [0,0,2],false,false,none,true⟩),
 (27,⟨8,88,true,none,none,[some (0,3),some (1,23),some (2,3),some (3,3),some (4,3),some (5,25)],some [(0,1),(1,1),(2,1),(3,1),(4,1),(5,3)],some (.agg [.int .i64 0,.sl [] .nil,.int .i64 0,.int .i64 0,.int .i64 0,.int .i64 0,.int .i64 0,.str ⟨#[]⟩]),none,false,false,none,true⟩),
 (29,⟨14,152,true,none,none,[some (0,3),some (1,22),some (2,3),some (3,3),some (4,3),some (5,3),some (6,27)],some [(0,1),(1,1),(2,1),(3,1),(4,1),(5,1),(6,8)],some (.agg [.int .i64 0,.sl [] .nil,.int .i64 0,.int .i64 0,.int .i64 0,.int .i64 0,.int .i64 0,.sl [] .nil,.int .i64 0,.int .i64 0,.int .i64 0,.int .i64 0,.int .i64 0,.str ⟨#[]⟩]),none,false,false,none,true⟩),
 (30,⟨1,24,false,some (62),none,[],none,some (.sl [] .nil),none,false,false,none,true⟩),
 (33,⟨1,24,false,some (48),none,[],none,some (.sl [] .nil),none,false,false,none,true⟩),
 (34,⟨1,8,false,none,none,[],none,some (.int .i64 0),some [0],false,false,some .i64,true⟩),
 (42,⟨1,24,false,some (3),none,[],none,some (.sl [] .nil),none,false,false,none,true⟩),
 (46,⟨1,24,false,some (52),none,[],none,some (.sl [] .nil),none,false,false,none,true⟩),
 (48,⟨1,24,true,none,none,[some (0,46)],some [(0,1)],some (.agg [.sl [] .nil]),none,false,false,none,true⟩),
 (50,⟨3,24,true,none,none,[some (0,3),some (1,3),some (2,3)],some [(0,1),(1,1),(2,1)],some (.agg [.int .i64 0,.int .i64 0,.int .i64 0]),some [0,0,0],false,false,none,true⟩),
 (52,⟨4,32,true,none,none,[some (0,3),some (1,50)],some [(0,1),(1,3)],some (.agg [.int .i64 0,.int .i64 0,.int .i64 0,.int .i64 0]),some [0,0,0,0],false,false,none,true⟩),
 (60,⟨1,24,false,some (25),none,[],none,some (.sl [] .nil),none,false,false,none,true⟩),
 (62,⟨5,56,true,none,none,[some (0,3),some (1,3),some (2,3),some (3,3),some (4,60)],some [(0,1),(1,1),(2,1),(3,1),(4,1)],some (.agg [.int .i64 0,.int .i64 0,.int .i64 0,.int .i64 0,.sl [] .nil]),none,false,false,none,true⟩),
 (91,⟨1,24,false,some (96),none,[],none,some (.sl [] .nil),none,false,false,none,true⟩),
 (94,⟨1,24,false,some (157),none,[],none,some (.sl [] .nil),none,false,false,none,true⟩),
 (96,⟨17,240,true,none,none,[some (0,3),some (1,3),some (2,3),some (3,3),some (4,27),some (12,42),some (13,42),some (14,23),some (15,94),some (16,42)],some [(0,1),(1,1),(2,1),(3,1),(4,8),(12,1),(13,1),(14,1),(15,1),(16,1)],some (.agg [.int .i64 0,.int .i64 0,.int .i64 0,.int .i64 0,.int .i64 0,.sl [] .nil,.int .i64 0,.int .i64 0,.int .i64 0,.int .i64 0,.int .i64 0,.str ⟨#[]⟩,.sl [] .nil,.sl [] .nil,.sl [] .nil,.sl [] .nil,.sl [] .nil]),none,false,false,none,true⟩),
 (98,⟨1,24,false,some (30),none,[],none,some (.sl [] .nil),none,false,false,none,true⟩),
 (100,⟨1,24,true,none,none,[some (0,98)],some [(0,1)],some (.agg [.sl [] .nil]),none,false,false,none,true⟩),
 (127,⟨1,24,false,some (4),none,[],none,some (.sl [] .nil),none,false,false,none,true⟩),
 (148,⟨1,24,false,some (152),none,[],none,some (.sl [] .nil),none,false,false,none,true⟩),
 (152,⟨11,112,true,none,none,[some (0,3),some (1,3),some (2,3),some (3,27)],some [(0,1),(1,1),(2,1),(3,8)],some (.agg [.int .i64 0,.int .i64 0,.int .i64 0,.int .i64 0,.sl [] .nil,.int .i64 0,.int .i64 0,.int .i64 0,.int .i64 0,.int .i64 0,.str ⟨#[]⟩]),none,false,false,none,true⟩),
 (157,⟨2,16,true,none,none,[some (0,3),some (1,3)],some [(0,1),(1,1)],some (.agg [.int .i64 0,.int .i64 0]),some [0,0],false,false,none,true⟩),
 (166,⟨1,8,false,none,none,[],none,some (.nilp),none,false,false,none,true⟩),
 (168,⟨2,32,true,none,none,[some (0,30),some (1,4)],some [(0,1),(1,1)],some (.agg [.sl [] .nil,.bool false]),none,false,false,none,true⟩),
 (169,⟨1,24,false,some (172),none,[],none,some (.sl [] .nil),none,false,false,none,true⟩),
 (171,⟨1,24,false,some (174),none,[],none,some (.sl [] .nil),none,false,false,none,true⟩),
 (172,⟨1,24,false,some (174),none,[],none,some (.sl [] .nil),none,false,false,none,true⟩),
 (174,⟨2,16,true,none,none,[some (0,3),some (1,3)],some [(0,1),(1,1)],some (.agg [.int .i64 0,.int .i64 0]),some [0,0],false,false,none,true⟩),
 (176,⟨1,24,false,some (179),none,[],none,some (.sl [] .nil),none,false,false,none,true⟩),
 (179,⟨1,24,false,some (227),none,[],none,some (.sl [] .nil),none,false,false,none,true⟩),
 (186,⟨1,8,false,none,none,[],none,some (.int .u64 0),some [0],false,false,some .u64,true⟩),
 (195,⟨6,24,true,none,none,[some (0,3),some (1,3),some (2,4),some (3,4),some (4,4),some (5,4)],some [(0,1),(1,1),(2,1),(3,1),(4,1),(5,1)],some (.agg [.int .i64 0,.int .i64 0,.bool false,.bool false,.bool false,.bool false]),some [0,0,1,1,1,1],false,false,none,true⟩),
 (196,⟨66,264,true,none,some (11,195),[],none,none,none,false,false,none,true⟩),
 (205,⟨15,160,true,none,none,[some (0,4),some (1,29)],some [(0,1),(1,14)],some (.agg [.bool false,.int .i64 0,.sl [] .nil,.int .i64 0,.int .i64 0,.int .i64 0,.int .i64 0,.int .i64 0,.sl [] .nil,.int .i64 0,.int .i64 0,.int .i64 0,.int .i64 0,.int .i64 0,.str ⟨#[]⟩]),none,false,false,none,true⟩),
 (209,⟨1,8,false,none,none,[],none,some (.nilmap),none,false,false,none,true⟩),
 (212,⟨2,16,true,none,none,[some (0,3),some (1,3)],some [(0,1),(1,1)],some (.agg [.int .i64 0,.int .i64 0]),some [0,0],false,false,none,true⟩),
 (214,⟨1,8,false,none,none,[],none,some (.nilmap),none,false,false,none,true⟩),
 (216,⟨1,8,false,none,none,[],none,some (.nilf),none,false,false,none,true⟩),
 (217,⟨8,64,true,none,some (8,216),[],none,some (.agg [.nilf,.nilf,.nilf,.nilf,.nilf,.nilf,.nilf,.nilf]),none,false,false,none,true⟩),
 (227,⟨2,16,true,none,none,[some (0,3),some (1,3)],some [(0,1),(1,1)],some (.agg [.int .i64 0,.int .i64 0]),some [0,0],false,false,none,true⟩),
 (232,⟨1,8,false,none,none,[],none,some (.nilf),none,false,false,none,true⟩),
 (239,⟨1,24,false,some (5),none,[],none,some (.sl [] .nil),none,false,false,none,true⟩),
 (242,⟨1,8,false,none,none,[],none,some (.int .i64 0),some [0],false,false,some .i64,true⟩),
 (249,⟨1,4,false,none,none,[],none,some (.int .u32 0),some [0],false,false,some .u32,true⟩),
 (251,⟨1,8,false,none,none,[],none,some (.int .u64 0),some [0],false,false,some .u64,true⟩),
 (269,⟨1,8,false,none,none,[],none,some (.nilf),none,false,false,none,true⟩),
 (273,⟨1,8,false,none,none,[],none,some (.nilf),none,false,false,none,true⟩),
 (274,⟨1,24,false,some (169),none,[],none,some (.sl [] .nil),none,false,false,none,true⟩),
 (277,⟨1,8,false,none,none,[],none,some (.int .u64 0),some [0],false,false,some .u64,true⟩),
 (290,⟨1,24,false,some (23),none,[],none,some (.sl [] .nil),none,false,false,none,true⟩),
 (295,⟨5,48,true,none,none,[some (0,3),some (1,3),some (2,25)],some [(0,1),(1,1),(2,3)],some (.agg [.int .i64 0,.int .i64 0,.int .i64 0,.int .i64 0,.str ⟨#[]⟩]),some [0,0,0,0,2],false,false,none,true⟩),
 (308,⟨1,24,false,some (42),none,[],none,some (.sl [] .nil),none,false,false,none,true⟩),
 (310,⟨1,24,false,some (94),none,[],none,some (.sl [] .nil),none,false,false,none,true⟩),
 (322,⟨24,24,true,none,some (24,5),[],none,some (.agg [.int .u8 0,.int .u8 0,.int .u8 0,.int .u8 0,.int .u8 0,.int .u8 0,.int .u8 0,.int .u8 0,.int .u8 0,.int .u8 0,.int .u8 0,.int .u8 0,.int .u8 0,.int .u8 0,.int .u8 0,.int .u8 0,.int .u8 0,.int .u8 0,.int .u8 0,.int .u8 0,.int .u8 0,.int .u8 0,.int .u8 0,.int .u8 0]),none,false,false,none,true⟩),
 (326,⟨1,8,false,none,none,[],none,some (.nilmap),none,false,false,none,true⟩),
 (329,⟨8,96,true,none,none,[some (0,100),some (1,3),some (2,62),some (7,326)],some [(0,1),(1,1),(2,5),(7,1)],some (.agg [.sl [] .nil,.int .i64 0,.int .i64 0,.int .i64 0,.int .i64 0,.int .i64 0,.sl [] .nil,.nilmap]),none,false,false,none,true⟩),
 (334,⟨20,160,true,none,some (20,251),[],none,some (.agg [.int .u64 0,.int .u64 0,.int .u64 0,.int .u64 0,.int .u64 0,.int .u64 0,.int .u64 0,.int .u64 0,.int .u64 0,.int .u64 0,.int .u64 0,.int .u64 0,.int .u64 0,.int .u64 0,.int .u64 0,.int .u64 0,.int .u64 0,.int .u64 0,.int .u64 0,.int .u64 0]),none,false,false,none,true⟩),
 (335,⟨65,65,true,none,some (65,5),[],none,none,none,false,false,none,true⟩),
 (337,⟨1,8,false,none,none,[],none,some (.nilf),none,false,false,none,true⟩),
 (349,⟨32,32,true,none,some (32,5),[],none,some (.agg [.int .u8 0,.int .u8 0,.int .u8 0,.int .u8 0,.int .u8 0,.int .u8 0,.int .u8 0,.int .u8 0,.int .u8 0,.int .u8 0,.int .u8 0,.int .u8 0,.int .u8 0,.int .u8 0,.int .u8 0,.int .u8 0,.int .u8 0,.int .u8 0,.int .u8 0,.int .u8 0,.int .u8 0,.int .u8 0,.int .u8 0,.int .u8 0,.int .u8 0,.int .u8 0,.int .u8 0,.int .u8 0,.int .u8 0,.int .u8 0,.int .u8 0,.int .u8 0]),none,false,false,none,true⟩),
 (350,⟨64,64,true,none,some (64,5),[],none,none,none,false,false,none,true⟩),
 (360,⟨1,8,false,none,none,[],none,some (.nilf),none,false,false,none,true⟩),
 (361,⟨6,48,true,none,some (6,360),[],none,some (.agg [.nilf,.nilf,.nilf,.nilf,.nilf,.nilf]),none,false,false,none,true⟩)]
theorem okT :GC Tryz.prog TT:=⟨tk,tk,tk,tk,tk,tk,tk,tk,tk,tk,tk,tk,tk,tk,tk,tk,tk,tk,tk,tk,tk,tk,tk,tk,tk,tk,tk,tk,tk,tk,tk,tk,tk,tk,tk,tk,tk,tk,tk,tk,tk,tk,tk,tk,tk,tk,tk,tk,tk,tk,tk,tk,tk,tk,tk,tk,tk,tk,tk,tk,tk,tk,tk,tk,tk,tk,tk,tk,tk,tk,trivial⟩
end Go.Ab
namespace Go.Ab
structure A4 where
 Kind:Int
 Num:Int
 Text:ByteArray
structure B0 where
 Op:Int
 cL:List B0
 Var:Int
 Field:Int
 Kind:Int
 Value:A4
structure A1 where
 Op:Int
 cL:List A1
 Typ:Int
 Var:Int
 cQ:Int
 Span:Int
 cN:B0
structure A7 where
 Source:Int
 Seq:Int
 Typ:Int
 Time:Int
 Values:List A4
structure Hx where
 Time:Int
 Source:Int
 Seq:Int
structure E0 where
 Var:Int
 Ref:Hx
structure E4 where
 cO:List E0
structure Pt where
 cQ:Int
 Span:Int
structure JV where
 From:Int
 To:Int
 Var:Int
 Typ:Int
 cN:B0
 Opens:List Int
 Closes:List Int
 Checks:List B0
 Limits:List Pt
 Inside:List Int
structure Bd where
 cT:List (List A7)
structure GGuard where
 cQ:Int
 Typ:Int
 Var:Int
 cN:B0
structure B3 where
 cU:List A7
 full:Bool
structure A0 where
 cR:Int
 at_:Int
structure A2 where
 Var:Int
 At:Int
structure J1 where
 cS:Int
 most:Int
 cP:Bool
 cond:Bool
 scope:Bool
 span:Bool
structure J3 where
 done:Bool
 p:A1
structure D2 where
 source:Int
 seq:Int
structure B9 where
 Kind:Int
 Count:Int
 Value:A4
structure P2 where
 env:Bd
 own:Int
 event:A7
 apply:Unit
def G1 :List J1:=[⟨0,0,true,true,false,false⟩,⟨2,64,false,false,false,false⟩,⟨2,64,false,false,false,false⟩,⟨2,64,false,false,false,false⟩,⟨1,1,false,false,false,false⟩,⟨1,1,true,true,true,false⟩,⟨1,1,false,false,true,true⟩,⟨1,1,false,true,false,false⟩,⟨2,2,false,false,false,false⟩,⟨1,1,true,true,true,false⟩,⟨1,1,false,false,true,true⟩]
end Go.Ab
namespace Go.Ab
variable [Ar]
def XP :List Int:=[5,6,7,8,10,11,12]
def XO :List V:=[.func (.func 308) [] [.eref [.func (.func 307) [] []] 0],.func (.func 309) [] [.eref [.func (.func 307) [] []] 0],.func (.func 310) [] [],.func (.func 311) [] [],.func (.func 312) [] [],.func (.func 313) [] [],.func (.func 314) [] []]
class I7 where
 eAm8:A4→V
 eAn2:B0→V
 eAm3:A1→V
 eAl9:A7→V
 eAn0:E0→V
 eAm7:E4→V
 eAo5:Pt→V
 eAl8:A0→V
 eAm0:A2→V
 eAo4:J1→V
 eAo0:D2→V
 eAn9:List A7→V
 eAn6:List (List A0)→V
 eAm6:List A0→V
 eAm1:List A2→V
 eAm4:∀x,eAm8 x= .agg [.int .i64 x.Kind,.int .i64 x.Num,.str x.Text]
 eAn3:∀x,eAn2 x= .agg [.int .i64 x.Op,.sl (lst eAn2 x.cL) .ro,.int .i64 x.Var,.int .i64 x.Field,.int .i64 x.Kind,.int .i64 x.Value.Kind,.int .i64 x.Value.Num,.str x.Value.Text]
 eAm2:∀x,eAm3 x= .agg [.int .i64 x.Op,.sl (lst eAm3 x.cL) .ro,.int .i64 x.Typ,.int .i64 x.Var,.int .i64 x.cQ,.int .i64 x.Span,.int .i64 x.cN.Op,.sl (lst eAn2 x.cN.cL) .ro,.int .i64 x.cN.Var,.int .i64 x.cN.Field,.int .i64 x.cN.Kind,.int .i64 x.cN.Value.Kind,.int .i64 x.cN.Value.Num,.str x.cN.Value.Text]
 eAm5:∀x,eAl9 x= .agg [.int .i64 x.Source,.int .i64 x.Seq,.int .i64 x.Typ,.int .i64 x.Time,.sl (lst eAm8 x.Values) .ro]
 eAn7:∀x,eAn0 x= .agg [.int .i64 x.Var,.int .i64 x.Ref.Time,.int .i64 x.Ref.Source,.int .i64 x.Ref.Seq]
 eAn8:∀x,eAm7 x= .agg [.sl (lst eAn0 x.cO) .ro]
 eAo7:∀x,eAo5 x= .agg [.int .i64 x.cQ,.int .i64 x.Span]
 eAn4:∀x,eAl8 x= .agg [.int .i64 x.cR,.int .i64 x.at_]
 eAm9:∀x,eAm0 x= .agg [.int .i64 x.Var,.int .i64 x.At]
 eAo6:∀x,eAo4 x= .agg [.int .i64 x.cS,.int .i64 x.most,.bool x.cP,.bool x.cond,.bool x.scope,.bool x.span]
 eAo1:∀x,eAo0 x= .agg [.int .i64 x.source,.int .i64 x.seq]
 eAo2:∀x,eAn9 x= .sl (lst eAl9 x) .ro
 eAo3:∀x,eAn6 x= .sl (lst eAm6 x) .ro
 eAn5:∀x,eAm6 x= .sl (lst eAl8 x) .ro
 eAn1:∀x,eAm1 x= .sl (lst eAm0 x) .ro
theorem HC [I7](x:A4):(I7.eAm8 x).cells.length=3:=by rw[I7.eAm4];rfl
theorem GI [I7](x:A1):(I7.eAm3 x).cells.length=14:=by rw[I7.eAm2];rfl
theorem Kb [I7](x:A7):(I7.eAl9 x).cells.length=5:=by rw[I7.eAm5];rfl
theorem KF [I7](x:E0):(I7.eAn0 x).cells.length=4:=by rw[I7.eAn7];rfl
theorem DD [I7](x:E4):(I7.eAm7 x).cells.length=1:=by rw[I7.eAn8];rfl
theorem X8 [I7](x:A0):(I7.eAl8 x).cells.length=2:=by rw[I7.eAn4];rfl
theorem H5 [I7](x:A2):(I7.eAm0 x).cells.length=2:=by rw[I7.eAm9];rfl
theorem Cm [I7](x:List (List A0)):(I7.eAn6 x).cells.length=1:=by rw[I7.eAo3];rfl
theorem GH [I7](x:List A0):(I7.eAm6 x).cells.length=1:=by rw[I7.eAn5];rfl
theorem Y1 [I7](x:List A2):(I7.eAm1 x).cells.length=1:=by rw[I7.eAn1];rfl
variable [I7]
abbrev D3 (x:A1):List V:=[.int .i64 x.Op,.sl (lst I7.eAm3 x.cL) .ro,.int .i64 x.Typ,.int .i64 x.Var,.int .i64 x.cQ,.int .i64 x.Span,.int .i64 x.cN.Op,.sl (lst I7.eAn2 x.cN.cL) .ro,.int .i64 x.cN.Var,.int .i64 x.cN.Field,.int .i64 x.cN.Kind,.int .i64 x.cN.Value.Kind,.int .i64 x.cN.Value.Num,.str x.cN.Value.Text]
abbrev C3 (x:A1):V:=.agg (D3 x)
abbrev CC (x:P2):List V:=[.sl (lst I7.eAn9 x.env.cT) .ro,.int .i64 x.own,.int .i64 x.event.Source,.int .i64 x.event.Seq,.int .i64 x.event.Typ,.int .i64 x.event.Time,.sl (lst I7.eAm8 x.event.Values) .ro,.fmap XP XO]
abbrev AT (x:P2):V:=.agg (CC x)
abbrev Af (x:B0):List V:=[.int .i64 x.Op,.sl (lst I7.eAn2 x.cL) .ro,.int .i64 x.Var,.int .i64 x.Field,.int .i64 x.Kind,.int .i64 x.Value.Kind,.int .i64 x.Value.Num,.str x.Value.Text]
abbrev I0 (x:B0):V:=.agg (Af x)
abbrev JM (x:A7):List V:=[.int .i64 x.Source,.int .i64 x.Seq,.int .i64 x.Typ,.int .i64 x.Time,.sl (lst I7.eAm8 x.Values) .ro]
abbrev V7 (x:A7):V:=.agg (JM x)
abbrev An (x:B9):List V:=[.int .i64 x.Kind,.int .i64 x.Count,.int .i64 x.Value.Kind,.int .i64 x.Value.Num,.str x.Value.Text]
abbrev E8 (x:B9):V:=.agg (An x)
abbrev Dj (x:J1):List V:=[.int .i64 x.cS,.int .i64 x.most,.bool x.cP,.bool x.cond,.bool x.scope,.bool x.span]
abbrev Gq (x:J1):V:=.agg (Dj x)
abbrev VW (x:E0):List V:=[.int .i64 x.Var,.int .i64 x.Ref.Time,.int .i64 x.Ref.Source,.int .i64 x.Ref.Seq]
abbrev DA (x:E0):V:=.agg (VW x)
abbrev Al2 (x:Hx):List V:=[.int .i64 x.Time,.int .i64 x.Source,.int .i64 x.Seq]
abbrev HX (x:Hx):V:=.agg (Al2 x)
abbrev B5 (x:B3):List V:=[.sl (lst I7.eAl9 x.cU) .ro,.bool x.full]
abbrev N0 (x:A4):List V:=[.int .i64 x.Kind,.int .i64 x.Num,.str x.Text]
abbrev C6 (x:A4):V:=.agg (N0 x)
abbrev EV (x:E4):List V:=[.sl (lst I7.eAn0 x.cO) .ro]
abbrev Ez (x:E4):V:=.agg (EV x)
abbrev EU (x:A0):List V:=[.int .i64 x.cR,.int .i64 x.at_]
abbrev L8 (x:A0):V:=.agg (EU x)
abbrev Ab5 (x:Bd):List V:=[.sl (lst I7.eAn9 x.cT) .ro]
abbrev DP (x:Bd):V:=.agg (Ab5 x)
abbrev JL (x:D2):List V:=[.int .i64 x.source,.int .i64 x.seq]
abbrev Jk (x:D2):V:=.agg (JL x)
end Go.Ab
