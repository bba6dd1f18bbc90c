/- GTTypes GTTy GTEn -/
import Derived.Test.YtanbgjgaafeplaaGreatDoorC09
import Derived.KernelRfl
import Derived.Test.YtanbgjgaafeplaaGreatDoorChecked
set_option linter.all false
open Go.Ab.Ar (lst)
namespace Go.Ab
open Go.RowKit Go.Proofs
set_option maxRecDepth 100000
theorem tk {t:Nat}{I:Xi}(a:EQ Tryz.prog t=some I.sz:=by kernel_rfl)(b:Qi Tryz.prog t=some I.by_:=by kernel_rfl)(c:Qo Tryz.prog t=some I.ag:=by kernel_rfl)(d:FH Tryz.prog t=I.sl:=by kernel_rfl)(e:arO Tryz.prog t=I.ar:=by kernel_rfl)
 (f:YY Tryz.prog t 0 I.fs:=by repeat' (first|refine⟨?_,?_⟩|exact True.intro|kernel_rfl)) (g:AR I.pl (fun l=>JV Tryz.prog t=some l):=by first|exact True.intro|(show JV Tryz.prog _=some _;kernel_rfl))
 (h:AR I.ze (fun z=>GZ Tryz.prog t=some z):=by first|exact True.intro|(show GZ Tryz.prog _=some _;kernel_rfl)) (i:AR I.ek (fun k=>DI Tryz.prog 9 t=some k):=by first|exact True.intro|(show DI Tryz.prog 9 _=some _;kernel_rfl)) (j:Pj Tryz.prog t=I.st:=by kernel_rfl)
 (k:I.bo=true→Vr ((Tryz.prog).underlying t)=true:=by intro h;first|(cases h;done)|kernel_rfl) (l:AR I.ik (fun k=>(Tryz.prog).underlying t=some (.int k)):=by first|exact True.intro|(show(Tryz.prog).underlying _=some (.int _);kernel_rfl))
 (m:I.nif=true→ifO Tryz.prog t=false:=by intro h;first|(cases h;done)|kernel_rfl):Ao0 Tryz.prog t I:=⟨a,b,c,d,e,f,g,h,i,j,k,l,m⟩
def TT :Fv:=[(2,⟨1,8,false,none,none,[],none,some (.int .i64 0),some [0],false,false,some .i64,true⟩),
 (3,⟨1,8,false,none,none,[],none,some (.int .i64 0),some [0],false,false,some .i64,true⟩),
 (4,⟨1,1,false,none,none,[],none,some (.bool false),some [1],false,true,none,true⟩),
 (5,⟨1,1,false,none,none,[],none,some (.int .u8 0),some [0],false,false,some .u8,true⟩),
 (9,⟨1,16,false,none,none,[],none,some (.str ⟨#[]⟩),some [2],true,false,none,true⟩),
 (22,⟨1,24,false,some (29),none,[],none,some (.sl [] .nil),none,false,false,none,true⟩),
 (23,⟨1,24,false,some (27),none,[],none,some (.sl [] .nil),none,false,false,none,true⟩),
 (25,⟨3,32,true,none,none,[some (0,3),some (1,3),some (2,9)],some [(0,1),(1,1),(2,1)],some (.agg [.int .i64 0,.int .i64 0,.str ⟨#[]⟩]),some [0,0,2],false,false,none,true⟩),
 (27,⟨8,88,true,none,none,[some (0,3),some (1,23),some (2,3),some (3,3),some (4,3),some (5,25)],some [(0,1),(1,1),(2,1),(3,1),(4,1),(5,3)],some (.agg [.int .i64 0,.sl [] .nil,.int .i64 0,.int .i64 0,.int .i64 0,.int .i64 0,.int .i64 0,.str ⟨#[]⟩]),none,false,false,none,true⟩),
 (29,⟨14,152,true,none,none,[some (0,3),some (1,22),some (2,3),some (3,3),some (4,3),some (5,3),some (6,27)],some [(0,1),(1,1),(2,1),(3,1),(4,1),(5,1),(6,8)],some (.agg [.int .i64 0,.sl [] .nil,.int .i64 0,.int .i64 0,.int .i64 0,.int .i64 0,.int .i64 0,.sl [] .nil,.int .i64 0,.int .i64 0,.int .i64 0,.int .i64 0,.int .i64 0,.str ⟨#[]⟩]),none,false,false,none,true⟩),
 (30,⟨1,24,false,some (62),none,[],none,some (.sl [] .nil),none,false,false,none,true⟩),
 (33,⟨1,24,false,some (48),none,[],none,some (.sl [] .nil),none,false,false,none,true⟩),
 (34,⟨1,8,false,none,none,[],none,some (.int .i64 0),some [0],false,false,some .i64,true⟩),
 (42,⟨1,24,false,some (3),none,[],none,some (.sl [] .nil),none,false,false,none,true⟩),
 (46,⟨1,24,false,some (52),none,[],none,some (.sl [] .nil),none,false,false,none,true⟩),
 (48,⟨1,24,true,none,none,[some (0,46)],some [(0,1)],some (.agg [.sl [] .nil]),none,false,false,none,true⟩),
 (50,⟨3,24,true,none,none,[some (0,3),some (1,3),some (2,3)],some [(0,1),(1,1),(2,1)],some (.agg [.int .i64 0,.int .i64 0,.int .i64 0]),some [0,0,0],false,false,none,true⟩),
 (52,⟨4,32,true,none,none,[some (0,3),some (1,50)],some [(0,1),(1,3)],some (.agg [.int .i64 0,.int .i64 0,.int .i64 0,.int .i64 0]),some [0,0,0,0],false,false,none,true⟩),
 (60,⟨1,24,false,some (25),none,[],none,some (.sl [] .nil),none,false,false,none,true⟩),
 (62,⟨5,56,true,none,none,[some (0,3),some (1,3),some (2,3),some (3,3),some (4,60)],some [(0,1),(1,1),(2,1),(3,1),(4,1)],some (.agg [.int .i64 0,.int .i64 0,.int .i64 0,.int .i64 0,.sl [] .nil]),none,false,false,none,true⟩),
 (91,⟨1,24,false,some (96),none,[],none,some (.sl [] .nil),none,false,false,none,true⟩),
 (94,⟨1,24,false,some (157),none,[],none,some (.sl [] .nil),none,false,false,none,true⟩),
 (96,⟨17,240,true,none,none,[some (0,3),some (1,3),some (2,3),some (3,3),some (4,27),some (12,42),some (13,42),some (14,23),some (15,94),some (16,42)],some [(0,1),(1,1),(2,1),(3,1),(4,8),(12,1),(13,1),(14,1),(15,1),(16,1)],some (.agg [.int .i64 0,.int .i64 0,.int .i64 0,.int .i64 0,.int .i64 0,.sl [] .nil,.int .i64 0,.int .i64 0,.int .i64 0,.int .i64 0,.int .i64 0,.str ⟨#[]⟩,.sl [] .nil,.sl [] .nil,.sl [] .nil,.sl [] .nil,.sl [] .nil]),none,false,false,none,true⟩),
 (98,⟨1,24,false,some (30),none,[],none,some (.sl [] .nil),none,false,false,none,true⟩),
 (100,⟨1,24,true,none,none,[some (0,98)],some [(0,1)],some (.agg [.sl [] .nil]),none,false,false,none,true⟩),
 (127,⟨1,24,false,some (4),none,[],none,some (.sl [] .nil),none,false,false,none,true⟩),
 (148,⟨1,24,false,some (152),none,[],none,some (.sl [] .nil),none,false,false,none,true⟩),
 (152,⟨11,112,true,none,none,[some (0,3),some (1,3),some (2,3),some (3,27)],some [(0,1),(1,1),(2,1),(3,8)],some (.agg [.int .i64 0,.int .i64 0,.int .i64 0,.int .i64 0,.sl [] .nil,.int .i64 0,.int .i64 0,.int .i64 0,.int .i64 0,.int .i64 0,.str ⟨#[]⟩]),none,false,false,none,true⟩),
 (157,⟨2,16,true,none,none,[some (0,3),some (1,3)],some [(0,1),(1,1)],some (.agg [.int .i64 0,.int .i64 0]),some [0,0],false,false,none,true⟩),
 (166,⟨1,8,false,none,none,[],none,some (.nilp),none,false,false,none,true⟩),
 (168,⟨2,32,true,none,none,[some (0,30),some (1,4)],some [(0,1),(1,1)],some (.agg [.sl [] .nil,.bool false]),none,false,false,none,true⟩),
 (169,⟨1,24,false,some (172),none,[],none,some (.sl [] .nil),none,false,false,none,true⟩),
 (171,⟨1,24,false,some (174),none,[],none,some (.sl [] .nil),none,false,false,none,true⟩),
 (172,⟨1,24,false,some (174),none,[],none,some (.sl [] .nil),none,false,false,none,true⟩),
 (174,⟨2,16,true,none,none,[some (0,3),some (1,3)],some [(0,1),(1,1)],some (.agg [.int .i64 0,.int .i64 0]),some [0,0],false,false,none,true⟩),
 (176,⟨1,24,false,some (179),none,[],none,some (.sl [] .nil),none,false,false,none,true⟩),
 (179,⟨1,24,false,some (227),none,[],none,some (.sl [] .nil),none,false,false,none,true⟩),
 (186,⟨1,8,false,none,none,[],none,some (.int .u64 0),some [0],false,false,some .u64,true⟩),
 (195,⟨6,24,true,none,none,[some (0,3),some (1,3),some (2,4),some (3,4),some (4,4),some (5,4)],some [(0,1),(1,1),(2,1),(3,1),(4,1),(5,1)],some (.agg [.int .i64 0,.int .i64 0,.bool false,.bool false,.bool false,.bool false]),some [0,0,1,1,1,1],false,false,none,true⟩),
 (196,⟨66,264,true,none,some (11,195),[],none,none,none,false,false,none,true⟩),
 (205,⟨15,160,true,none,none,[some (0,4),some (1,29)],some [(0,1),(1,14)],some (.agg [.bool false,.int .i64 0,.sl [] .nil,.int .i64 0,.int .i64 0,.int .i64 0,.int .i64 0,.int .i64 0,.sl [] .nil,.int .i64 0,.int .i64 0,.int .i64 0,.int .i64 0,.int .i64 0,.str ⟨#[]⟩]),none,false,false,none,true⟩),
 (209,⟨1,8,false,none,none,[],none,some (.nilmap),none,false,false,none,true⟩),
 (212,⟨2,16,true,none,none,[some (0,3),some (1,3)],some [(0,1),(1,1)],some (.agg [.int .i64 0,.int .i64 0]),some [0,0],false,false,none,true⟩),
 (214,⟨1,8,false,none,none,[],none,some (.nilmap),none,false,false,none,true⟩),
 (216,⟨1,8,false,none,none,[],none,some (.nilf),none,false,false,none,true⟩),
 (217,⟨8,64,true,none,some (8,216),[],none,some (.agg [.nilf,.nilf,.nilf,.nilf,.nilf,.nilf,.nilf,.nilf]),none,false,false,none,true⟩),
 (227,⟨2,16,true,none,none,[some (0,3),some (1,3)],some [(0,1),(1,1)],some (.agg [.int .i64 0,.int .i64 0]),some [0,0],false,false,none,true⟩),
 (232,⟨1,8,false,none,none,[],none,some (.nilf),none,false,false,none,true⟩),
 (239,⟨1,24,false,some (5),none,[],none,some (.sl [] .nil),none,false,false,none,true⟩),
 (242,⟨1,8,false,none,none,[],none,some (.int .i64 0),some [0],false,false,some .i64,true⟩),
 (249,⟨1,4,false,none,none,[],none,some (.int .u32 0),some [0],false,false,some .u32,true⟩),
 (251,⟨1,8,false,none,none,[],none,some (.int .u64 0),some [0],false,false,some .u64,true⟩),
 (269,⟨1,8,false,none,none,[],none,some (.nilf),none,false,false,none,true⟩),
 (273,⟨1,8,false,none,none,[],none,some (.nilf),none,false,false,none,true⟩),
 (274,⟨1,24,false,some (169),none,[],none,some (.sl [] .nil),none,false,false,none,true⟩),
 (277,⟨1,8,false,none,none,[],none,some (.int .u64 0),some [0],false,false,some .u64,true⟩),
 (290,⟨1,24,false,some (23),none,[],none,some (.sl [] .nil),none,false,false,none,true⟩),
 (295,⟨5,48,true,none,none,[some (0,3),some (1,3),some (2,25)],some [(0,1),(1,1),(2,3)],some (.agg [.int .i64 0,.int .i64 0,.int .i64 0,.int .i64 0,.str ⟨#[]⟩]),some [0,0,0,0,2],false,false,none,true⟩),
 (308,⟨1,24,false,some (42),none,[],none,some (.sl [] .nil),none,false,false,none,true⟩),
 (310,⟨1,24,false,some (94),none,[],none,some (.sl [] .nil),none,false,false,none,true⟩),
 (322,⟨24,24,true,none,some (24,5),[],none,some (.agg [.int .u8 0,.int .u8 0,.int .u8 0,.int .u8 0,.int .u8 0,.int .u8 0,.int .u8 0,.int .u8 0,.int .u8 0,.int .u8 0,.int .u8 0,.int .u8 0,.int .u8 0,.int .u8 0,.int .u8 0,.int .u8 0,.int .u8 0,.int .u8 0,.int .u8 0,.int .u8 0,.int .u8 0,.int .u8 0,.int .u8 0,.int .u8 0]),none,false,false,none,true⟩),
 (326,⟨1,8,false,none,none,[],none,some (.nilmap),none,false,false,none,true⟩),
 (329,⟨8,96,true,none,none,[some (0,100),some (1,3),some (2,62),some (7,326)],some [(0,1),(1,1),(2,5),(7,1)],some (.agg [.sl [] .nil,.int .i64 0,.int .i64 0,.int .i64 0,.int .i64 0,.int .i64 0,.sl [] .nil,.nilmap]),none,false,false,none,true⟩),
 (334,⟨20,160,true,none,some (20,251),[],none,some (.agg [.int .u64 0,.int .u64 0,.int .u64 0,.int .u64 0,.int .u64 0,.int .u64 0,.int .u64 0,.int .u64 0,.int .u64 0,.int .u64 0,.int .u64 0,.int .u64 0,.int .u64 0,.int .u64 0,.int .u64 0,.int .u64 0,.int .u64 0,.int .u64 0,.int .u64 0,.int .u64 0]),none,false,false,none,true⟩),
 (335,⟨65,65,true,none,some (65,5),[],none,none,none,false,false,none,true⟩),
 (337,⟨1,8,false,none,none,[],none,some (.nilf),none,false,false,none,true⟩),
 (349,⟨32,32,true,none,some (32,5),[],none,some (.agg [.int .u8 0,.int .u8 0,.int .u8 0,.int .u8 0,.int .u8 0,.int .u8 0,.int .u8 0,.int .u8 0,.int .u8 0,.int .u8 0,.int .u8 0,.int .u8 0,.int .u8 0,.int .u8 0,.int .u8 0,.int .u8 0,.int .u8 0,.int .u8 0,.int .u8 0,.int .u8 0,.int .u8 0,.int .u8 0,.int .u8 0,.int .u8 0,.int .u8 0,.int .u8 0,.int .u8 0,.int .u8 0,.int .u8 0,.int .u8 0,.int .u8 0,.int .u8 0]),none,false,false,none,true⟩),
 (350,⟨64,64,true,none,some (64,5),[],none,none,none,false,false,none,true⟩),
 (360,⟨1,8,false,none,none,[],none,some (.nilf),none,false,false,none,true⟩),
 (361,⟨6,48,true,none,some (6,360),[],none,some (.agg [.nilf,.nilf,.nilf,.nilf,.nilf,.nilf]),none,false,false,none,true⟩)]
theorem okT :He Tryz.prog TT:=⟨tk,tk,tk,tk,tk,tk,tk,tk,tk,tk,tk,tk,tk,tk,tk,tk,tk,tk,tk,tk,tk,tk,tk,tk,tk,tk,tk,tk,tk,tk,tk,tk,tk,tk,tk,tk,tk,tk,tk,tk,tk,tk,tk,tk,tk,tk,tk,tk,tk,tk,tk,tk,tk,tk,tk,tk,tk,tk,tk,tk,tk,tk,tk,tk,tk,tk,tk,tk,tk,tk,trivial⟩
end Go.Ab
namespace Go.Ab
structure A6 where
 Kind:Int
 Num:Int
 Text:ByteArray
structure B0 where
 Op:Int
 cR:List B0
 Var:Int
 Field:Int
 Kind:Int
 Value:A6
structure A0 where
 Op:Int
 cR:List A0
 Typ:Int
 Var:Int
 cV:Int
 Span:Int
 cS:B0
structure A4 where
 Source:Int
 Seq:Int
 Typ:Int
 Time:Int
 Values:List A6
structure X5 where
 Time:Int
 Source:Int
 Seq:Int
structure D6 where
 Var:Int
 Ref:X5
structure C4 where
 cT:List D6
structure Qs where
 cV:Int
 Span:Int
structure Ky where
 From:Int
 To:Int
 Var:Int
 Typ:Int
 cS:B0
 Opens:List Int
 Closes:List Int
 Checks:List B0
 Limits:List Qs
 Inside:List Int
structure AE where
 cZ:List (List A4)
structure GGuard where
 cV:Int
 Typ:Int
 Var:Int
 cS:B0
structure B3 where
 dA:List A4
 full:Bool
structure A1 where
 cX:Int
 at_:Int
structure A2 where
 Var:Int
 At:Int
structure J8 where
 cY:Int
 most:Int
 cU:Bool
 cond:Bool
 scope:Bool
 span:Bool
structure K1 where
 done:Bool
 p:A0
structure D4 where
 source:Int
 seq:Int
structure C1 where
 Kind:Int
 Count:Int
 Value:A6
structure Q1 where
 env:AE
 own:Int
 event:A4
 apply:Unit
def G2 :List J8:=[⟨0,0,true,true,false,false⟩,⟨2,64,false,false,false,false⟩,⟨2,64,false,false,false,false⟩,⟨2,64,false,false,false,false⟩,⟨1,1,false,false,false,false⟩,⟨1,1,true,true,true,false⟩,⟨1,1,false,false,true,true⟩,⟨1,1,false,true,false,false⟩,⟨2,2,false,false,false,false⟩,⟨1,1,true,true,true,false⟩,⟨1,1,false,false,true,true⟩]
end Go.Ab
namespace Go.Ab
variable [Ar]
def Zc :List Int:=[5,6,7,8,10,11,12]
def Zb :List V:=[.func (.func 308) [] [.eref [.func (.func 307) [] []] 0],.func (.func 309) [] [.eref [.func (.func 307) [] []] 0],.func (.func 310) [] [],.func (.func 311) [] [],.func (.func 312) [] [],.func (.func 313) [] [],.func (.func 314) [] []]
class J2 where
 eAu4:A6→V
 eAu9:B0→V
 eAu0:A0→V
 eAt5:A4→V
 eAu6:D6→V
 eAt7:C4→V
 eAw1:Qs→V
 eAt4:A1→V
 eAt6:A2→V
 eAw0:J8→V
 eAv6:D4→V
 eAv5:List A4→V
 eAv4:List (List A1)→V
 eAu3:List A1→V
 eAt8:List A2→V
 eAu1:∀x,eAu4 x= .agg [.int .i64 x.Kind,.int .i64 x.Num,.str x.Text]
 eAv0:∀x,eAu9 x= .agg [.int .i64 x.Op,.sl (lst eAu9 x.cR) .ro,.int .i64 x.Var,.int .i64 x.Field,.int .i64 x.Kind,.int .i64 x.Value.Kind,.int .i64 x.Value.Num,.str x.Value.Text]
 eAt9:∀x,eAu0 x= .agg [.int .i64 x.Op,.sl (lst eAu0 x.cR) .ro,.int .i64 x.Typ,.int .i64 x.Var,.int .i64 x.cV,.int .i64 x.Span,.int .i64 x.cS.Op,.sl (lst eAu9 x.cS.cR) .ro,.int .i64 x.cS.Var,.int .i64 x.cS.Field,.int .i64 x.cS.Kind,.int .i64 x.cS.Value.Kind,.int .i64 x.cS.Value.Num,.str x.cS.Value.Text]
 eAu2:∀x,eAt5 x= .agg [.int .i64 x.Source,.int .i64 x.Seq,.int .i64 x.Typ,.int .i64 x.Time,.sl (lst eAu4 x.Values) .ro]
 eAv2:∀x,eAu6 x= .agg [.int .i64 x.Var,.int .i64 x.Ref.Time,.int .i64 x.Ref.Source,.int .i64 x.Ref.Seq]
 eAu7:∀x,eAt7 x= .agg [.sl (lst eAu6 x.cT) .ro]
 eAw3:∀x,eAw1 x= .agg [.int .i64 x.cV,.int .i64 x.Span]
 eAv1:∀x,eAt4 x= .agg [.int .i64 x.cX,.int .i64 x.at_]
 eAu5:∀x,eAt6 x= .agg [.int .i64 x.Var,.int .i64 x.At]
 eAw2:∀x,eAw0 x= .agg [.int .i64 x.cY,.int .i64 x.most,.bool x.cU,.bool x.cond,.bool x.scope,.bool x.span]
 eAv7:∀x,eAv6 x= .agg [.int .i64 x.source,.int .i64 x.seq]
 eAv8:∀x,eAv5 x= .sl (lst eAt5 x) .ro
 eAv9:∀x,eAv4 x= .sl (lst eAu3 x) .ro
 eAv3:∀x,eAu3 x= .sl (lst eAt4 x) .ro
 eAu8:∀x,eAt8 x= .sl (lst eAt6 x) .ro
theorem Ih [J2](x:A6):(J2.eAu4 x).cells.length=3:=by rw[J2.eAu1];rfl
theorem Hj [J2](x:A0):(J2.eAu0 x).cells.length=14:=by rw[J2.eAt9];rfl
theorem KF [J2](x:A4):(J2.eAt5 x).cells.length=5:=by rw[J2.eAu2];rfl
theorem Hk [J2](x:D6):(J2.eAu6 x).cells.length=4:=by rw[J2.eAv2];rfl
theorem AH [J2](x:C4):(J2.eAt7 x).cells.length=1:=by rw[J2.eAu7];rfl
theorem Z3 [J2](x:A1):(J2.eAt4 x).cells.length=2:=by rw[J2.eAv1];rfl
theorem I0 [J2](x:A2):(J2.eAt6 x).cells.length=2:=by rw[J2.eAu5];rfl
theorem CP [J2](x:List (List A1)):(J2.eAv4 x).cells.length=1:=by rw[J2.eAv9];rfl
theorem Hi [J2](x:List A1):(J2.eAu3 x).cells.length=1:=by rw[J2.eAv3];rfl
theorem Z8 [J2](x:List A2):(J2.eAt8 x).cells.length=1:=by rw[J2.eAu8];rfl
variable [J2]
abbrev D3 (x:A0):List V:=[.int .i64 x.Op,.sl (lst J2.eAu0 x.cR) .ro,.int .i64 x.Typ,.int .i64 x.Var,.int .i64 x.cV,.int .i64 x.Span,.int .i64 x.cS.Op,.sl (lst J2.eAu9 x.cS.cR) .ro,.int .i64 x.cS.Var,.int .i64 x.cS.Field,.int .i64 x.cS.Kind,.int .i64 x.cS.Value.Kind,.int .i64 x.cS.Value.Num,.str x.cS.Value.Text]
abbrev C3 (x:A0):V:=.agg (D3 x)
abbrev Df (x:Q1):List V:=[.sl (lst J2.eAv5 x.env.cZ) .ro,.int .i64 x.own,.int .i64 x.event.Source,.int .i64 x.event.Seq,.int .i64 x.event.Typ,.int .i64 x.event.Time,.sl (lst J2.eAu4 x.event.Values) .ro,.fmap Zc Zb]
abbrev Bp (x:Q1):V:=.agg (Df x)
abbrev Aw (x:B0):List V:=[.int .i64 x.Op,.sl (lst J2.eAu9 x.cR) .ro,.int .i64 x.Var,.int .i64 x.Field,.int .i64 x.Kind,.int .i64 x.Value.Kind,.int .i64 x.Value.Num,.str x.Value.Text]
abbrev I5 (x:B0):V:=.agg (Aw x)
abbrev Kq (x:A4):List V:=[.int .i64 x.Source,.int .i64 x.Seq,.int .i64 x.Typ,.int .i64 x.Time,.sl (lst J2.eAu4 x.Values) .ro]
abbrev R3 (x:A4):V:=.agg (Kq x)
abbrev AL (x:C1):List V:=[.int .i64 x.Kind,.int .i64 x.Count,.int .i64 x.Value.Kind,.int .i64 x.Value.Num,.str x.Value.Text]
abbrev F4 (x:C1):V:=.agg (AL x)
abbrev DL (x:J8):List V:=[.int .i64 x.cY,.int .i64 x.most,.bool x.cU,.bool x.cond,.bool x.scope,.bool x.span]
abbrev GP (x:J8):V:=.agg (DL x)
abbrev Xe (x:D6):List V:=[.int .i64 x.Var,.int .i64 x.Ref.Time,.int .i64 x.Ref.Source,.int .i64 x.Ref.Seq]
abbrev Ea (x:D6):V:=.agg (Xe x)
abbrev IL (x:X5):List V:=[.int .i64 x.Time,.int .i64 x.Source,.int .i64 x.Seq]
abbrev DM (x:X5):V:=.agg (IL x)
abbrev B5 (x:B3):List V:=[.sl (lst J2.eAt5 x.dA) .ro,.bool x.full]
abbrev N9 (x:A6):List V:=[.int .i64 x.Kind,.int .i64 x.Num,.str x.Text]
abbrev C9 (x:A6):V:=.agg (N9 x)
abbrev Fq (x:C4):List V:=[.sl (lst J2.eAu6 x.cT) .ro]
abbrev Cx (x:C4):V:=.agg (Fq x)
abbrev Fp (x:A1):List V:=[.int .i64 x.cX,.int .i64 x.at_]
abbrev M9 (x:A1):V:=.agg (Fp x)
abbrev Ai9 (x:AE):List V:=[.sl (lst J2.eAv5 x.cZ) .ro]
abbrev El (x:AE):V:=.agg (Ai9 x)
abbrev Kp (x:D4):List V:=[.int .i64 x.source,.int .i64 x.seq]
abbrev JM (x:D4):V:=.agg (Kp x)
end Go.Ab
