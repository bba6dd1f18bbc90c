/- GVTypes GVTy GVEn -/
import Derived.Test.YtjhobbohibnioaaGreatDoorC10
import Derived.KernelRfl
import Derived.Test.YtjhobbohibnioaaGreatDoorChecked
set_option linter.all false
open Go.Ab.Ar (lst)
namespace Go.Ab
open Go.RowKit Go.Proofs
set_option maxRecDepth 100000
theorem tk {t:Nat}{I:SU}(a:AH Tryz.prog t=some I.sz:=by kernel_rfl)(b:IE Tryz.prog t=some I.by_:=by kernel_rfl)(c:Nm Tryz.prog t=some I.ag:=by kernel_rfl)(d:Bp Tryz.prog t=I.sl:=by kernel_rfl)(e:Xr Tryz.prog t=I.ar:=by kernel_rfl)
 (f:UG Tryz.prog t 0 I.fs:=by repeat' (first|refine⟨?_,?_⟩|exact True.intro|kernel_rfl)) (g:V6 I.pl (fun l=>HF Tryz.prog t=some l):=by first|exact True.intro|(show HF Tryz.prog _=some _;kernel_rfl))
 (h:V6 I.ze (fun z=>CX Tryz.prog t=some z):=by first|exact True.intro|(show CX Tryz.prog _=some _;kernel_rfl)) (i:V6 I.ek (fun k=>Ca Tryz.prog 9 t=some k):=by first|exact True.intro|(show Ca Tryz.prog 9 _=some _;kernel_rfl)) (j:Mz Tryz.prog t=I.st:=by kernel_rfl)
 (k:I.bo=true→RE ((Tryz.prog).underlying t)=true:=by intro h;first|(cases h;done)|kernel_rfl) (l:V6 I.ik (fun k=>(Tryz.prog).underlying t=some (.int k)):=by first|exact True.intro|(show(Tryz.prog).underlying _=some (.int _);kernel_rfl))
 (m:I.nif=true→YR Tryz.prog t=false:=by intro h;first|(cases h;done)|kernel_rfl):Yd Tryz.prog t I:=⟨a,b,c,d,e,f,g,h,i,j,k,l,m⟩
def TT :Cr:=[(2,⟨1,8,false,none,none,[],none,some (.int .i64 0),some [0],false,false,some .i64,true⟩),
 (3,⟨1,8,false,none,none,[],none,some (.int .i64 0),some [0],false,false,some .i64,true⟩),
 (4,⟨1,1,false,none,none,[],none,some (.bool false),some [1],false,true,none,true⟩),
 (5,⟨1,1,false,none,none,[],none,some (.int .u8 0),some [0],false,false,some .u8,true⟩),
 (9,⟨1,16,false,none,none,[],none,some (.str ⟨#[]⟩),some [2],true,false,none,true⟩),
 (22,⟨1,24,false,some (29),none,[],none,some (.sl [] .nil),none,false,false,none,true⟩),
 (23,⟨1,24,false,some (27),none,[],none,some (.sl [] .nil),none,false,false,none,true⟩),
 (25,⟨3,32,true,none,none,[some (0,3),some (1,3),some (2,9)],some [(0,1),(1,1),(2,1)],some (.agg [.int .i64 0,.int .i64 0,.str ⟨#[]⟩]),some [0,0,2],false,false,none,true⟩),
 (27,⟨8,88,true,none,none,[some (0,3),some (1,23),some (2,3),some (3,3),some (4,3),some (5,25)],some [(0,1),(1,1),(2,1),(3,1),(4,1),(5,3)],some (.agg [.int .i64 0,.sl [] .nil,.int .i64 0,.int .i64 0,.int .i64 0,.int .i64 0,.int .i64 0,.str ⟨#[]⟩]),none,false,false,none,true⟩),
 (29,⟨14,152,true,none,none,[some (0,3),some (1,22),some (2,3),some (3,3),some (4,3),some (5,3),some (6,27)],some [(0,1),(1,1),(2,1),(3,1),(4,1),(5,1),(6,8)],some (.agg [.int .i64 0,.sl [] .nil,.int .i64 0,.int .i64 0,.int .i64 0,.int .i64 0,.int .i64 0,.sl [] .nil,.int .i64 0,.int .i64 0,.int .i64 0,.int .i64 0,.int .i64 0,.str ⟨#[]⟩]),none,false,false,none,true⟩),
 (30,⟨1,24,false,some (78),none,[],none,some (.sl [] .nil),none,false,false,none,true⟩),
 (33,⟨1,24,false,some (42),none,[],none,some (.sl [] .nil),none,false,false,none,true⟩),
 (34,⟨1,8,false,none,none,[],none,some (.int .i64 0),some [0],false,false,some .i64,true⟩),
 (37,⟨1,24,false,some (46),none,[],none,some (.sl [] .nil),none,false,false,none,true⟩),
 (40,⟨1,24,false,some (82),none,[],none,some (.sl [] .nil),none,false,false,none,true⟩),
 (42,⟨1,24,true,none,none,[some (0,40)],some [(0,1)],some (.agg [.sl [] .nil]),none,false,false,none,true⟩),
 (44,⟨3,24,true,none,none,[some (0,3),some (1,3),some (2,3)],some [(0,1),(1,1),(2,1)],some (.agg [.int .i64 0,.int .i64 0,.int .i64 0]),some [0,0,0],false,false,none,true⟩),
 (46,⟨5,56,true,none,none,[some (0,44),some (3,3),some (4,37)],some [(0,3),(3,1),(4,1)],some (.agg [.int .i64 0,.int .i64 0,.int .i64 0,.int .i64 0,.sl [] .nil]),none,false,false,none,true⟩),
 (76,⟨1,24,false,some (25),none,[],none,some (.sl [] .nil),none,false,false,none,true⟩),
 (78,⟨5,56,true,none,none,[some (0,3),some (1,3),some (2,3),some (3,3),some (4,76)],some [(0,1),(1,1),(2,1),(3,1),(4,1)],some (.agg [.int .i64 0,.int .i64 0,.int .i64 0,.int .i64 0,.sl [] .nil]),none,false,false,none,true⟩),
 (82,⟨4,32,true,none,none,[some (0,3),some (1,44)],some [(0,1),(1,3)],some (.agg [.int .i64 0,.int .i64 0,.int .i64 0,.int .i64 0]),some [0,0,0,0],false,false,none,true⟩),
 (95,⟨1,8,false,none,none,[],none,some (.nilp),none,false,false,none,true⟩),
 (97,⟨2,32,true,none,none,[some (0,30),some (1,3)],some [(0,1),(1,1)],some (.agg [.sl [] .nil,.int .i64 0]),none,false,false,none,true⟩),
 (101,⟨1,24,false,some (109),none,[],none,some (.sl [] .nil),none,false,false,none,true⟩),
 (103,⟨6,80,true,none,none,[some (0,46),some (5,101)],some [(0,5),(5,1)],some (.agg [.int .i64 0,.int .i64 0,.int .i64 0,.int .i64 0,.sl [] .nil,.sl [] .nil]),none,false,false,none,true⟩),
 (109,⟨2,16,true,none,none,[some (0,3),some (1,3)],some [(0,1),(1,1)],some (.agg [.int .i64 0,.int .i64 0]),some [0,0],false,false,none,true⟩),
 (111,⟨1,8,false,none,none,[],none,some (.nilmap),none,false,false,none,true⟩),
 (113,⟨3,40,true,none,none,[some (0,97),some (2,111)],some [(0,2),(2,1)],some (.agg [.sl [] .nil,.int .i64 0,.nilmap]),none,false,false,none,true⟩),
 (115,⟨6,64,true,none,none,[some (0,46),some (5,4)],some [(0,5),(5,1)],some (.agg [.int .i64 0,.int .i64 0,.int .i64 0,.int .i64 0,.sl [] .nil,.bool false]),none,false,false,none,true⟩),
 (136,⟨1,24,false,some (44),none,[],none,some (.sl [] .nil),none,false,false,none,true⟩),
 (154,⟨1,8,false,none,none,[],none,some (.nilp),none,false,false,none,true⟩),
 (156,⟨2,32,true,none,none,[some (0,30),some (1,4)],some [(0,1),(1,1)],some (.agg [.sl [] .nil,.bool false]),none,false,false,none,true⟩),
 (157,⟨1,24,false,some (160),none,[],none,some (.sl [] .nil),none,false,false,none,true⟩),
 (159,⟨1,24,false,some (162),none,[],none,some (.sl [] .nil),none,false,false,none,true⟩),
 (160,⟨1,24,false,some (162),none,[],none,some (.sl [] .nil),none,false,false,none,true⟩),
 (162,⟨2,16,true,none,none,[some (0,3),some (1,3)],some [(0,1),(1,1)],some (.agg [.int .i64 0,.int .i64 0]),some [0,0],false,false,none,true⟩),
 (165,⟨1,8,false,none,none,[],none,some (.nilmap),none,false,false,none,true⟩),
 (167,⟨2,16,true,none,none,[some (0,3),some (1,3)],some [(0,1),(1,1)],some (.agg [.int .i64 0,.int .i64 0]),some [0,0],false,false,none,true⟩),
 (169,⟨1,8,false,none,none,[],none,some (.nilf),none,false,false,none,true⟩),
 (173,⟨1,8,false,none,none,[],none,some (.int .u64 0),some [0],false,false,some .u64,true⟩),
 (178,⟨4,32,true,none,none,[some (0,3),some (1,3),some (2,3),some (3,3)],some [(0,1),(1,1),(2,1),(3,1)],some (.agg [.int .i64 0,.int .i64 0,.int .i64 0,.int .i64 0]),some [0,0,0,0],false,false,none,true⟩),
 (181,⟨1,24,false,some (3),none,[],none,some (.sl [] .nil),none,false,false,none,true⟩),
 (194,⟨1,24,false,some (252),none,[],none,some (.sl [] .nil),none,false,false,none,true⟩),
 (201,⟨1,24,false,some (205),none,[],none,some (.sl [] .nil),none,false,false,none,true⟩),
 (205,⟨6,80,true,none,none,[some (0,194),some (1,46)],some [(0,1),(1,5)],some (.agg [.sl [] .nil,.int .i64 0,.int .i64 0,.int .i64 0,.int .i64 0,.sl [] .nil]),none,false,false,none,true⟩),
 (207,⟨1,8,false,none,none,[],none,some (.nilmap),none,false,false,none,true⟩),
 (209,⟨1,8,false,none,none,[],none,some (.nilf),none,false,false,none,true⟩),
 (210,⟨8,64,true,none,some (8,209),[],none,some (.agg [.nilf,.nilf,.nilf,.nilf,.nilf,.nilf,.nilf,.nilf]),none,false,false,none,true⟩),
 (219,⟨6,24,true,none,none,[some (0,3),some (1,3),some (2,4),some (3,4),some (4,4),some (5,4)],some [(0,1),(1,1),(2,1),(3,1),(4,1),(5,1)],some (.agg [.int .i64 0,.int .i64 0,.bool false,.bool false,.bool false,.bool false]),some [0,0,1,1,1,1],false,false,none,true⟩),
 (220,⟨66,264,true,none,some (11,219),[],none,none,none,false,false,none,true⟩),
 (223,⟨1,8,false,none,none,[],none,some (.int .i64 0),some [0],false,false,some .i64,true⟩),
 (230,⟨1,4,false,none,none,[],none,some (.int .u32 0),some [0],false,false,some .u32,true⟩),
 (232,⟨1,8,false,none,none,[],none,some (.int .u64 0),some [0],false,false,some .u64,true⟩),
 (242,⟨1,24,false,some (30),none,[],none,some (.sl [] .nil),none,false,false,none,true⟩),
 (244,⟨1,24,true,none,none,[some (0,242)],some [(0,1)],some (.agg [.sl [] .nil]),none,false,false,none,true⟩),
 (252,⟨2,16,true,none,none,[some (0,3),some (1,3)],some [(0,1),(1,1)],some (.agg [.int .i64 0,.int .i64 0]),some [0,0],false,false,none,true⟩),
 (256,⟨1,24,false,some (194),none,[],none,some (.sl [] .nil),none,false,false,none,true⟩),
 (268,⟨1,24,false,some (5),none,[],none,some (.sl [] .nil),none,false,false,none,true⟩),
 (272,⟨1,8,false,none,none,[],none,some (.int .u64 0),some [0],false,false,some .u64,true⟩),
 (278,⟨1,24,false,some (37),none,[],none,some (.sl [] .nil),none,false,false,none,true⟩),
 (279,⟨1,24,false,some (4),none,[],none,some (.sl [] .nil),none,false,false,none,true⟩),
 (288,⟨1,24,false,some (101),none,[],none,some (.sl [] .nil),none,false,false,none,true⟩),
 (297,⟨1,8,false,none,none,[],none,some (.nilf),none,false,false,none,true⟩),
 (301,⟨1,8,false,none,none,[],none,some (.nilf),none,false,false,none,true⟩),
 (302,⟨1,24,false,some (157),none,[],none,some (.sl [] .nil),none,false,false,none,true⟩),
 (311,⟨1,8,false,none,none,[],none,some (.nilmap),none,false,false,none,true⟩),
 (314,⟨8,96,true,none,none,[some (0,244),some (1,3),some (2,78),some (7,311)],some [(0,1),(1,1),(2,5),(7,1)],some (.agg [.sl [] .nil,.int .i64 0,.int .i64 0,.int .i64 0,.int .i64 0,.int .i64 0,.sl [] .nil,.nilmap]),none,false,false,none,true⟩),
 (337,⟨1,8,false,none,none,[],none,some (.nilf),none,false,false,none,true⟩),
 (352,⟨24,24,true,none,some (24,5),[],none,some (.agg [.int .u8 0,.int .u8 0,.int .u8 0,.int .u8 0,.int .u8 0,.int .u8 0,.int .u8 0,.int .u8 0,.int .u8 0,.int .u8 0,.int .u8 0,.int .u8 0,.int .u8 0,.int .u8 0,.int .u8 0,.int .u8 0,.int .u8 0,.int .u8 0,.int .u8 0,.int .u8 0,.int .u8 0,.int .u8 0,.int .u8 0,.int .u8 0]),none,false,false,none,true⟩),
 (367,⟨20,160,true,none,some (20,232),[],none,some (.agg [.int .u64 0,.int .u64 0,.int .u64 0,.int .u64 0,.int .u64 0,.int .u64 0,.int .u64 0,.int .u64 0,.int .u64 0,.int .u64 0,.int .u64 0,.int .u64 0,.int .u64 0,.int .u64 0,.int .u64 0,.int .u64 0,.int .u64 0,.int .u64 0,.int .u64 0,.int .u64 0]),none,false,false,none,true⟩),
 (368,⟨65,65,true,none,some (65,5),[],none,none,none,false,false,none,true⟩),
 (388,⟨5,48,true,none,none,[some (0,3),some (1,3),some (2,25)],some [(0,1),(1,1),(2,3)],some (.agg [.int .i64 0,.int .i64 0,.int .i64 0,.int .i64 0,.str ⟨#[]⟩]),some [0,0,0,0,2],false,false,none,true⟩),
 (399,⟨32,32,true,none,some (32,5),[],none,some (.agg [.int .u8 0,.int .u8 0,.int .u8 0,.int .u8 0,.int .u8 0,.int .u8 0,.int .u8 0,.int .u8 0,.int .u8 0,.int .u8 0,.int .u8 0,.int .u8 0,.int .u8 0,.int .u8 0,.int .u8 0,.int .u8 0,.int .u8 0,.int .u8 0,.int .u8 0,.int .u8 0,.int .u8 0,.int .u8 0,.int .u8 0,.int .u8 0,.int .u8 0,.int .u8 0,.int .u8 0,.int .u8 0,.int .u8 0,.int .u8 0,.int .u8 0,.int .u8 0]),none,false,false,none,true⟩),
 (400,⟨64,64,true,none,some (64,5),[],none,none,none,false,false,none,true⟩),
 (407,⟨1,8,false,none,none,[],none,some (.nilf),none,false,false,none,true⟩),
 (408,⟨6,48,true,none,some (6,407),[],none,some (.agg [.nilf,.nilf,.nilf,.nilf,.nilf,.nilf]),none,false,false,none,true⟩)]
theorem okT :ET Tryz.prog TT:=⟨tk,tk,tk,tk,tk,tk,tk,tk,tk,tk,tk,tk,tk,tk,tk,tk,tk,tk,tk,tk,tk,tk,tk,tk,tk,tk,tk,tk,tk,tk,tk,tk,tk,tk,tk,tk,tk,tk,tk,tk,tk,tk,tk,tk,tk,tk,tk,tk,tk,tk,tk,tk,tk,tk,tk,tk,tk,tk,tk,tk,tk,tk,tk,tk,tk,tk,tk,tk,tk,tk,tk,tk,tk,tk,tk,tk,trivial⟩
end Go.Ab
namespace Go.Ab
structure B4 where
 Kind:Int
 Num:Int
 Text:ByteArray
structure B6 where
 Op:Int
 cJ:List B6
 Var:Int
 Field:Int
 Kind:Int
 Value:B4
structure A1 where
 Op:Int
 cJ:List A1
 Typ:Int
 Var:Int
 cP:Int
 Span:Int
 cK:B6
structure B5 where
 Source:Int
 Seq:Int
 Typ:Int
 Time:Int
 Values:List B4
structure L4 where
 Time:Int
 Source:Int
 Seq:Int
structure C0 where
 Var:Int
 Ref:L4
structure Aw where
 cO:List C0
structure A2 where
 Ref:L4
 Choice:Int
 Kids:List A2
structure C5 where
 cN:List B5
 count:Int
structure A3 where
 v:Int
 at_:Int
structure A4 where
 d:A2
 s:List A3
structure F2 where
 prover:C5
structure A5 where
 d:A2
 ok:Bool
structure Ec where
 cN:List B5
 full:Bool
structure Q3 where
 cS:Int
 at_:Int
structure F6 where
 source:Int
 seq:Int
structure B2 where
 node:Int
 first:Int
 last:Int
 outer:Int
structure M9 where
 Var:Int
 At:Int
structure Cl where
 s:List M9
 d:A2
structure I0 where
 cQ:Int
 most:Int
 cL:Bool
 cond:Bool
 scope:Bool
 span:Bool
structure Id where
 cR:List (List B5)
structure K0 where
 env:Id
 own:Int
 event:B5
 apply:Unit
structure D3 where
 Kind:Int
 Count:Int
 Value:B4
def J5 :List I0:=[⟨0,0,true,true,false,false⟩,⟨2,64,false,false,false,false⟩,⟨2,64,false,false,false,false⟩,⟨2,64,false,false,false,false⟩,⟨1,1,false,false,false,false⟩,⟨1,1,true,true,true,false⟩,⟨1,1,false,false,true,true⟩,⟨1,1,false,true,false,false⟩,⟨2,2,false,false,false,false⟩,⟨1,1,true,true,true,false⟩,⟨1,1,false,false,true,true⟩]
end Go.Ab
namespace Go.Ab
variable [Ar]
def Nc :List Int:=[5,6,7,8,10,11,12]
def Nb :List V:=[.func (.func 301) [] [.eref [.func (.func 300) [] []] 0],.func (.func 302) [] [.eref [.func (.func 300) [] []] 0],.func (.func 303) [] [],.func (.func 304) [] [],.func (.func 305) [] [],.func (.func 306) [] [],.func (.func 307) [] []]
class I6 where
 eZt:B4→V
 eZw:B6→V
 eZn:A1→V
 eZj:B5→V
 eZx:L4→V
 eZl:C0→V
 eZN:Aw→V
 eZi:A2→V
 eZO:C5→V
 eZh:A3→V
 eZP:A4→V
 eZu:A5→V
 eZQ:Ec→V
 eZJ:Q3→V
 eZz:F6→V
 eZr:B2→V
 eZG:M9→V
 eZR:Cl→V
 eZK:I0→V
 eZS:Id→V
 eZT:K0→V
 eZU:D3→V
 eZy:List B5→V
 eZv:List A2→V
 eZA:List A3→V
 eZV:List (List Q3)→V
 eZL:List Q3→V
 eZW:List M9→V
 eZo:∀x,eZt x= .agg [.int .i64 x.Kind,.int .i64 x.Num,.str x.Text]
 eZC:∀x,eZw x= .agg [.int .i64 x.Op,.sl (lst eZw x.cJ) .ro,.int .i64 x.Var,.int .i64 x.Field,.int .i64 x.Kind,.int .i64 x.Value.Kind,.int .i64 x.Value.Num,.str x.Value.Text]
 eZp:∀x,eZn x= .agg [.int .i64 x.Op,.sl (lst eZn x.cJ) .ro,.int .i64 x.Typ,.int .i64 x.Var,.int .i64 x.cP,.int .i64 x.Span,.int .i64 x.cK.Op,.sl (lst eZw x.cK.cJ) .ro,.int .i64 x.cK.Var,.int .i64 x.cK.Field,.int .i64 x.cK.Kind,.int .i64 x.cK.Value.Kind,.int .i64 x.cK.Value.Num,.str x.cK.Value.Text]
 eZm:∀x,eZj x= .agg [.int .i64 x.Source,.int .i64 x.Seq,.int .i64 x.Typ,.int .i64 x.Time,.sl (lst eZt x.Values) .ro]
 eZD:∀x,eZx x= .agg [.int .i64 x.Time,.int .i64 x.Source,.int .i64 x.Seq]
 eZs:∀x,eZl x= .agg [.int .i64 x.Var,.int .i64 x.Ref.Time,.int .i64 x.Ref.Source,.int .i64 x.Ref.Seq]
 eZY:∀x,eZN x= .agg [.sl (lst eZl x.cO) .ro]
 eZk:∀x,eZi x= .agg [.int .i64 x.Ref.Time,.int .i64 x.Ref.Source,.int .i64 x.Ref.Seq,.int .i64 x.Choice,.sl (lst eZi x.Kids) .ro]
 eZZ:∀x,eZO x= .agg [.sl (lst eZj x.cN) .ro,.int .i64 x.count]
 eZq:∀x,eZh x= .agg [.int .i64 x.v,.int .i64 x.at_]
 eAa0:∀x,eZP x= .agg [.int .i64 x.d.Ref.Time,.int .i64 x.d.Ref.Source,.int .i64 x.d.Ref.Seq,.int .i64 x.d.Choice,.sl (lst eZi x.d.Kids) .ro,.sl (lst eZh x.s) .ro]
 eZH:∀x,eZu x= .agg [.int .i64 x.d.Ref.Time,.int .i64 x.d.Ref.Source,.int .i64 x.d.Ref.Seq,.int .i64 x.d.Choice,.sl (lst eZi x.d.Kids) .ro,.bool x.ok]
 eAa1:∀x,eZQ x= .agg [.sl (lst eZj x.cN) .ro,.bool x.full]
 eAa2:∀x,eZJ x= .agg [.int .i64 x.cS,.int .i64 x.at_]
 eZE:∀x,eZz x= .agg [.int .i64 x.source,.int .i64 x.seq]
 eZI:∀x,eZr x= .agg [.int .i64 x.node,.int .i64 x.first,.int .i64 x.last,.int .i64 x.outer]
 eAa3:∀x,eZG x= .agg [.int .i64 x.Var,.int .i64 x.At]
 eAa4:∀x,eZR x= .agg [.sl (lst eZG x.s) .ro,.int .i64 x.d.Ref.Time,.int .i64 x.d.Ref.Source,.int .i64 x.d.Ref.Seq,.int .i64 x.d.Choice,.sl (lst eZi x.d.Kids) .ro]
 eZX:∀x,eZK x= .agg [.int .i64 x.cQ,.int .i64 x.most,.bool x.cL,.bool x.cond,.bool x.scope,.bool x.span]
 eAa5:∀x,eZS x= .agg [.sl (lst eZy x.cR) .ro]
 eAa6:∀x,eZT x= .agg [.sl (lst eZy x.env.cR) .ro,.int .i64 x.own,.int .i64 x.event.Source,.int .i64 x.event.Seq,.int .i64 x.event.Typ,.int .i64 x.event.Time,.sl (lst eZt x.event.Values) .ro,.fmap Nc Nb]
 eAa7:∀x,eZU x= .agg [.int .i64 x.Kind,.int .i64 x.Count,.int .i64 x.Value.Kind,.int .i64 x.Value.Num,.str x.Value.Text]
 eZM:∀x,eZy x= .sl (lst eZj x) .ro
 eZB:∀x,eZv x= .sl (lst eZi x) .ro
 eZF:∀x,eZA x= .sl (lst eZh x) .ro
 eAa8:∀x,eZV x= .sl (lst eZL x) .ro
 eAa9:∀x,eZL x= .sl (lst eZJ x) .ro
 eAb0:∀x,eZW x= .sl (lst eZG x) .ro
theorem LF [I6](x:B4):(I6.eZt x).cells.length=3:=by rw[I6.eZo];rfl
theorem IM [I6](x:A1):(I6.eZn x).cells.length=14:=by rw[I6.eZp];rfl
theorem FU [I6](x:B5):(I6.eZj x).cells.length=5:=by rw[I6.eZm];rfl
theorem VA [I6](x:L4):(I6.eZx x).cells.length=3:=by rw[I6.eZD];rfl
theorem BO [I6](x:C0):(I6.eZl x).cells.length=4:=by rw[I6.eZs];rfl
theorem J6 [I6](x:A2):(I6.eZi x).cells.length=5:=by rw[I6.eZk];rfl
theorem M7 [I6](x:A3):(I6.eZh x).cells.length=2:=by rw[I6.eZq];rfl
theorem Jn [I6](x:List A2):(I6.eZv x).cells.length=1:=by rw[I6.eZB];rfl
variable [I6]
abbrev C7 (x:A1):List V:=[.int .i64 x.Op,.sl (lst I6.eZn x.cJ) .ro,.int .i64 x.Typ,.int .i64 x.Var,.int .i64 x.cP,.int .i64 x.Span,.int .i64 x.cK.Op,.sl (lst I6.eZw x.cK.cJ) .ro,.int .i64 x.cK.Var,.int .i64 x.cK.Field,.int .i64 x.cK.Kind,.int .i64 x.cK.Value.Kind,.int .i64 x.cK.Value.Num,.str x.cK.Value.Text]
abbrev C4 (x:A1):V:=.agg (C7 x)
abbrev BA (x:K0):List V:=[.sl (lst I6.eZy x.env.cR) .ro,.int .i64 x.own,.int .i64 x.event.Source,.int .i64 x.event.Seq,.int .i64 x.event.Typ,.int .i64 x.event.Time,.sl (lst I6.eZt x.event.Values) .ro,.fmap Nc Nb]
abbrev Y0 (x:K0):V:=.agg (BA x)
abbrev K9 (x:A4):List V:=[.int .i64 x.d.Ref.Time,.int .i64 x.d.Ref.Source,.int .i64 x.d.Ref.Seq,.int .i64 x.d.Choice,.sl (lst I6.eZi x.d.Kids) .ro,.sl (lst I6.eZh x.s) .ro]
abbrev B3 (x:A4):V:=.agg (K9 x)
abbrev EF (x:B6):List V:=[.int .i64 x.Op,.sl (lst I6.eZw x.cJ) .ro,.int .i64 x.Var,.int .i64 x.Field,.int .i64 x.Kind,.int .i64 x.Value.Kind,.int .i64 x.Value.Num,.str x.Value.Text]
abbrev AF (x:B6):V:=.agg (EF x)
abbrev K3 (x:A5):List V:=[.int .i64 x.d.Ref.Time,.int .i64 x.d.Ref.Source,.int .i64 x.d.Ref.Seq,.int .i64 x.d.Choice,.sl (lst I6.eZi x.d.Kids) .ro,.bool x.ok]
abbrev D8 (x:A5):V:=.agg (K3 x)
abbrev J2 (x:A2):List V:=[.int .i64 x.Ref.Time,.int .i64 x.Ref.Source,.int .i64 x.Ref.Seq,.int .i64 x.Choice,.sl (lst I6.eZi x.Kids) .ro]
abbrev C2 (x:A2):V:=.agg (J2 x)
abbrev JG (x:B5):List V:=[.int .i64 x.Source,.int .i64 x.Seq,.int .i64 x.Typ,.int .i64 x.Time,.sl (lst I6.eZt x.Values) .ro]
abbrev BJ (x:B5):V:=.agg (JG x)
abbrev DG (x:D3):List V:=[.int .i64 x.Kind,.int .i64 x.Count,.int .i64 x.Value.Kind,.int .i64 x.Value.Num,.str x.Value.Text]
abbrev I1 (x:D3):V:=.agg (DG x)
abbrev Cc (x:I0):List V:=[.int .i64 x.cQ,.int .i64 x.most,.bool x.cL,.bool x.cond,.bool x.scope,.bool x.span]
abbrev EJ (x:I0):V:=.agg (Cc x)
abbrev SO (x:C0):List V:=[.int .i64 x.Var,.int .i64 x.Ref.Time,.int .i64 x.Ref.Source,.int .i64 x.Ref.Seq]
abbrev V9 (x:C0):V:=.agg (SO x)
abbrev B9 (x:C5):List V:=[.sl (lst I6.eZj x.cN) .ro,.int .i64 x.count]
abbrev UX (x:L4):List V:=[.int .i64 x.Time,.int .i64 x.Source,.int .i64 x.Seq]
abbrev Bn (x:L4):V:=.agg (UX x)
abbrev N2 (x:B4):List V:=[.int .i64 x.Kind,.int .i64 x.Num,.str x.Text]
abbrev D9 (x:B4):V:=.agg (N2 x)
abbrev Gm (x:Aw):List V:=[.sl (lst I6.eZl x.cO) .ro]
abbrev Ee (x:Aw):V:=.agg (Gm x)
abbrev YX (x:Id):List V:=[.sl (lst I6.eZy x.cR) .ro]
abbrev NA (x:Id):V:=.agg (YX x)
abbrev HX (x:F6):List V:=[.int .i64 x.source,.int .i64 x.seq]
abbrev Hx (x:F6):V:=.agg (HX x)
abbrev R9 (x:A3):List V:=[.int .i64 x.v,.int .i64 x.at_]
abbrev I9 (x:A3):V:=.agg (R9 x)
end Go.Ab
