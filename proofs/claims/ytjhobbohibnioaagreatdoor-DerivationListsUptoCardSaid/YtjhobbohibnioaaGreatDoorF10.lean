/- . -/
import Derived.Test.YtjhobbohibnioaaGreatDoorF09
import Derived.KernelRfl
import Derived.Test.YtjhobbohibnioaaGreatDoorChecked
set_option linter.all false
open Go.Ab.Ar (lst)
namespace Go.Ab
open Go.RowKit Go.Proofs
set_option maxRecDepth 100000
theorem tk {t:Nat}{I:Aw6}(a:GS Tryz.prog t=some I.sz:=by kernel_rfl)(b:TZ Tryz.prog t=some I.by_:=by kernel_rfl)(c:ZH Tryz.prog t=some I.ag:=by kernel_rfl)(d:HG Tryz.prog t=I.sl:=by kernel_rfl)(e:arO Tryz.prog t=I.ar:=by kernel_rfl)
 (f:Au9 Tryz.prog t 0 I.fs:=by repeat' (first|refine⟨?_,?_⟩|exact True.intro|kernel_rfl)) (g:Cs I.pl (fun l=>Pm Tryz.prog t=some l):=by first|exact True.intro|(show Pm Tryz.prog _=some _;kernel_rfl))
 (h:Cs I.ze (fun z=>JD Tryz.prog t=some z):=by first|exact True.intro|(show JD Tryz.prog _=some _;kernel_rfl)) (i:Cs I.ek (fun k=>GM Tryz.prog 9 t=some k):=by first|exact True.intro|(show GM Tryz.prog 9 _=some _;kernel_rfl)) (j:VT Tryz.prog t=I.st:=by kernel_rfl)
 (k:I.bo=true→Ao3 ((Tryz.prog).underlying t)=true:=by intro h;first|(cases h;done)|kernel_rfl) (l:Cs I.ik (fun k=>(Tryz.prog).underlying t=some (.int k)):=by first|exact True.intro|(show(Tryz.prog).underlying _=some (.int _);kernel_rfl))
 (m:I.nif=true→ifO Tryz.prog t=false:=by intro h;first|(cases h;done)|kernel_rfl):Bb0 Tryz.prog t I:=⟨a,b,c,d,e,f,g,h,i,j,k,l,m⟩
def TT:Ih:=[(2,⟨1,8,false,none,none,[],none,some (.int .i64 0),some [0],false,false,some .i64,true⟩),
 (3,⟨1,8,false,none,none,[],none,some (.int .i64 0),some [0],false,false,some .i64,true⟩),
 (4,⟨1,1,false,none,none,[],none,some (.bool false),some [1],false,true,none,true⟩),
 (5,⟨1,1,false,none,none,[],none,some (.int .u8 0),some [0],false,false,some .u8,true⟩),
 (9,⟨1,16,false,none,none,[],none,some (.str ⟨#[]⟩),some [2],true,false,none,true⟩),
 (22,⟨1,24,false,some (29),none,[],none,some (.sl [] .nil),none,false,false,none,true⟩),
 (23,⟨1,24,false,some (27),none,[],none,some (.sl [] .nil),none,false,false,none,true⟩),
 (25,⟨3,32,true,none,none,[some (0,3),some (1,3),some (2,9)],some [(0,1),(1,1),(2,1)],some (.agg [.int .i64 0,.int .i64 0,.str ⟨#[]⟩]),some [0,0,2],false,false,none,true⟩),
 (27,⟨8,88,true,none,none,[some (0,3),some (1,23),some (2,3),some (3,3),some (4,3),some (5,25)],some [(0,1),(1,1),(2,1),(3,1),(4,1),(5,3)],some (.agg [.int .i64 0,.sl [] .nil,.int .i64 0,.int .i64 0,.int .i64 0,.int .i64 0,.int .i64 0,.str ⟨#[]⟩]),none,false,false,none,true⟩),
 (29,⟨14,152,true,none,none,[some (0,3),some (1,22),some (2,3),some (3,3),some (4,3),some (5,3),some (6,27)],some [(0,1),(1,1),(2,1),(3,1),(4,1),(5,1),(6,8)],some (.agg [.int .i64 0,.sl [] .nil,.int .i64 0,.int .i64 0,.int .i64 0,.int .i64 0,.int .i64 0,.sl [] .nil,.int .i64 0,.int .i64 0,.int .i64 0,.int .i64 0,.int .i64 0,.str ⟨#[]⟩]),none,false,false,none,true⟩),
 (30,⟨1,24,false,some (78),none,[],none,some (.sl [] .nil),none,false,false,none,true⟩),
 (33,⟨1,24,false,some (42),none,[],none,some (.sl [] .nil),none,false,false,none,true⟩),
 (34,⟨1,8,false,none,none,[],none,some (.int .i64 0),some [0],false,false,some .i64,true⟩),
 (37,⟨1,24,false,some (46),none,[],none,some (.sl [] .nil),none,false,false,none,true⟩),
 (40,⟨1,24,false,some (82),none,[],none,some (.sl [] .nil),none,false,false,none,true⟩),
 (42,⟨1,24,true,none,none,[some (0,40)],some [(0,1)],some (.agg [.sl [] .nil]),none,false,false,none,true⟩),
 (44,⟨3,24,true,none,none,[some (0,3),some (1,3),some (2,3)],some [(0,1),(1,1),(2,1)],some (.agg [.int .i64 0,.int .i64 0,.int .i64 0]),some [0,0,0],false,false,none,true⟩),
 (46,⟨5,56,true,none,none,[some (0,44),some (3,3),some (4,37)],some [(0,3),(3,1),(4,1)],some (.agg [.int .i64 0,.int .i64 0,.int .i64 0,.int .i64 0,.sl [] .nil]),none,false,false,none,true⟩),
 (76,⟨1,24,false,some (25),none,[],none,some (.sl [] .nil),none,false,false,none,true⟩),
 (78,⟨5,56,true,none,none,[some (0,3),some (1,3),some (2,3),some (3,3),some (4,76)],some [(0,1),(1,1),(2,1),(3,1),(4,1)],some (.agg [.int .i64 0,.int .i64 0,.int .i64 0,.int .i64 0,.sl [] .nil]),none,false,false,none,true⟩),
 (82,⟨4,32,true,none,none,[some (0,3),some (1,44)],some [(0,1),(1,3)],some (.agg [.int .i64 0,.int .i64 0,.int .i64 0,.int .i64 0]),some [0,0,0,0],false,false,none,true⟩),
 (95,⟨1,8,false,none,none,[],none,some (.nilp),none,false,false,none,true⟩),
 (97,⟨2,32,true,none,none,[some (0,30),some (1,3)],some [(0,1),(1,1)],some (.agg [.sl [] .nil,.int .i64 0]),none,false,false,none,true⟩),
 (101,⟨1,24,false,some (109),none,[],none,some (.sl [] .nil),none,false,false,none,true⟩),
 (103,⟨6,80,true,none,none,[some (0,46),some (5,101)],some [(0,5),(5,1)],some (.agg [.int .i64 0,.int .i64 0,.int .i64 0,.int .i64 0,.sl [] .nil,.sl [] .nil]),none,false,false,none,true⟩),
 (109,⟨2,16,true,none,none,[some (0,3),some (1,3)],some [(0,1),(1,1)],some (.agg [.int .i64 0,.int .i64 0]),some [0,0],false,false,none,true⟩),
 (111,⟨1,8,false,none,none,[],none,some (.nilmap),none,false,false,none,true⟩),
 (113,⟨3,40,true,none,none,[some (0,97),some (2,111)],some [(0,2),(2,1)],some (.agg [.sl [] .nil,.int .i64 0,.nilmap]),none,false,false,none,true⟩),
 (115,⟨6,64,true,none,none,[some (0,46),some (5,4)],some [(0,5),(5,1)],some (.agg [.int .i64 0,.int .i64 0,.int .i64 0,.int .i64 0,.sl [] .nil,.bool false]),none,false,false,none,true⟩),
 (136,⟨1,24,false,some (44),none,[],none,some (.sl [] .nil),none,false,false,none,true⟩),
 (154,⟨1,8,false,none,none,[],none,some (.nilp),none,false,false,none,true⟩),
 (156,⟨2,32,true,none,none,[some (0,30),some (1,4)],some [(0,1),(1,1)],some (.agg [.sl [] .nil,.bool false]),none,false,false,none,true⟩),
 (157,⟨1,24,false,some (160),none,[],none,some (.sl [] .nil),none,false,false,none,true⟩),
 (159,⟨1,24,false,some (162),none,[],none,some (.sl [] .nil),none,false,false,none,true⟩),
 (160,⟨1,24,false,some (162),none,[],none,some (.sl [] .nil),none,false,false,none,true⟩),
 (162,⟨2,16,true,none,none,[some (0,3),some (1,3)],some [(0,1),(1,1)],some (.agg [.int .i64 0,.int .i64 0]),some [0,0],false,false,none,true⟩),
 (165,⟨1,8,false,none,none,[],none,some (.nilmap),none,false,false,none,true⟩),
 (167,⟨2,16,true,none,none,[some (0,3),some (1,3)],some [(0,1),(1,1)],some (.agg [.int .i64 0,.int .i64 0]),some [0,0],false,false,none,true⟩),
 (169,⟨1,8,false,none,none,[],none,some (.nilf),none,false,false,none,true⟩),
 (173,⟨1,8,false,none,none,[],none,some (.int .u64 0),some [0],false,false,some .u64,true⟩),
 (178,⟨4,32,true,none,none,[some (0,3),some (1,3),some (2,3),some (3,3)],some [(0,1),(1,1),(2,1),(3,1)],some (.agg [.int .i64 0,.int .i64 0,.int .i64 0,.int .i64 0]),some [0,0,0,0],false,false,none,true⟩),
 (181,⟨1,24,false,some (3),none,[],none,some (.sl [] .nil),none,false,false,none,true⟩),
 (194,⟨1,24,false,some (252),none,[],none,some (.sl [] .nil),none,false,false,none,true⟩),
 (201,⟨1,24,false,some (205),none,[],none,some (.sl [] .nil),none,false,false,none,true⟩),
 (205,⟨6,80,true,none,none,[some (0,194),some (1,46)],some [(0,1),(1,5)],some (.agg [.sl [] .nil,.int .i64 0,.int .i64 0,.int .i64 0,.int .i64 0,.sl [] .nil]),none,false,false,none,true⟩),
 (207,⟨1,8,false,none,none,[],none,some (.nilmap),none,false,false,none,true⟩),
 (209,⟨1,8,false,none,none,[],none,some (.nilf),none,false,false,none,true⟩),
 (210,⟨8,64,true,none,some (8,209),[],none,some (.agg [.nilf,.nilf,.nilf,.nilf,.nilf,.nilf,.nilf,.nilf]),none,false,false,none,true⟩),
 (219,⟨6,24,true,none,none,[some (0,3),some (1,3),some (2,4),some (3,4),some (4,4),some (5,4)],some [(0,1),(1,1),(2,1),(3,1),(4,1),(5,1)],some (.agg [.int .i64 0,.int .i64 0,.bool false,.bool false,.bool false,.bool false]),some [0,0,1,1,1,1],false,false,none,true⟩),
 (220,⟨66,264,true,none,some (11,219),[],none,none,none,false,false,none,true⟩),
 (223,⟨1,8,false,none,none,[],none,some (.int .i64 0),some [0],false,false,some .i64,true⟩),
 (230,⟨1,4,false,none,none,[],none,some (.int .u32 0),some [0],false,false,some .u32,true⟩),
 (232,⟨1,8,false,none,none,[],none,some (.int .u64 0),some [0],false,false,some .u64,true⟩),
 (242,⟨1,24,false,some (30),none,[],none,some (.sl [] .nil),none,false,false,none,true⟩),
 (244,⟨1,24,true,none,none,[some (0,242)],some [(0,1)],some (.agg [.sl [] .nil]),none,false,false,none,true⟩),
 (252,⟨2,16,true,none,none,[some (0,3),some (1,3)],some [(0,1),(1,1)],some (.agg [.int .i64 0,.int .i64 0]),some [0,0],false,false,none,true⟩),
 (256,⟨1,24,false,some (194),none,[],none,some (.sl [] .nil),none,false,false,none,true⟩),
 (268,⟨1,24,false,some (5),none,[],none,some (.sl [] .nil),none,false,false,none,true⟩),
 (272,⟨1,8,false,none,none,[],none,some (.int .u64 0),some [0],false,false,some .u64,true⟩),
 (278,⟨1,24,false,some (37),none,[],none,some (.sl [] .nil),none,false,false,none,true⟩),
 (279,⟨1,24,false,some (4),none,[],none,some (.sl [] .nil),none,false,false,none,true⟩),
 (288,⟨1,24,false,some (101),none,[],none,some (.sl [] .nil),none,false,false,none,true⟩),
 (297,⟨1,8,false,none,none,[],none,some (.nilf),none,false,false,none,true⟩),
 (301,⟨1,8,false,none,none,[],none,some (.nilf),none,false,false,none,true⟩),
 (302,⟨1,24,false,some (157),none,[],none,some (.sl [] .nil),none,false,false,none,true⟩),
 (311,⟨1,8,false,none,none,[],none,some (.nilmap),none,false,false,none,true⟩),
 (314,⟨8,96,true,none,none,[some (0,244),some (1,3),some (2,78),some (7,311)],some [(0,1),(1,1),(2,5),(7,1)],some (.agg [.sl [] .nil,.int .i64 0,.int .i64 0,.int .i64 0,.int .i64 0,.int .i64 0,.sl [] .nil,.nilmap]),none,false,false,none,true⟩),
 (337,⟨1,8,false,none,none,[],none,some (.nilf),none,false,false,none,true⟩),
 (352,⟨24,24,true,none,some (24,5),[],none,some (.agg [.int .u8 0,.int .u8 0,.int .u8 0,.int .u8 0,.int .u8 0,.int .u8 0,.int .u8 0,.int .u8 0,.int .u8 0,.int .u8 0,.int .u8 0,.int .u8 0,.int .u8 0,.int .u8 0,.int .u8 0,.int .u8 0,.int .u8 0,.int .u8 0,.int .u8 0,.int .u8 0,.int .u8 0,.int .u8 0,.int .u8 0,.int .u8 0]),none,false,false,none,true⟩),
 (367,⟨20,160,true,none,some (20,232),[],none,some (.agg [.int .u64 0,.int .u64 0,.int .u64 0,.int .u64 0,.int .u64 0,.int .u64 0,.int .u64 0,.int .u64 0,.int .u64 0,.int .u64 0,.int .u64 0,.int .u64 0,.int .u64 0,.int .u64 0,.int .u64 0,.int .u64 0,.int .u64 0,.int .u64 0,.int .u64 0,.int .u64 0]),none,false,false,none,true⟩),
 (368,⟨65,65,true,none,some (65,5),[],none,none,none,false,false,none,true⟩),
 (388,⟨5,48,true,none,none,[some (0,3),some (1,3),some (2,25)],some [(0,1),(1,1),(2,3)],some (.agg [.int .i64 0,.int .i64 0,.int .i64 0,.int .i64 0,.str ⟨#[]⟩]),some [0,0,0,0,2],false,false,none,true⟩),
 (399,⟨32,32,true,none,some (32,5),[],none,some (.agg [.int .u8 0,.int .u8 0,.int .u8 0,.int .u8 0,.int .u8 0,.int .u8 0,.int .u8 0,.int .u8 0,.int .u8 0,.int .u8 0,.int .u8 0,.int .u8 0,.int .u8 0,.int .u8 0,.int .u8 0,.int .u8 0,.int .u8 0,.int .u8 0,.int .u8 0,.int .u8 0,.int .u8 0,.int .u8 0,.int .u8 0,.int .u8 0,.int .u8 0,.int .u8 0,.int .u8 0,.int .u8 0,.int .u8 0,.int .u8 0,.int .u8 0,.int .u8 0]),none,false,false,none,true⟩),
 (400,⟨64,64,true,none,some (64,5),[],none,none,none,false,false,none,true⟩),
 (407,⟨1,8,false,none,none,[],none,some (.nilf),none,false,false,none,true⟩),
 (408,⟨6,48,true,none,some (6,407),[],none,some (.agg [.nilf,.nilf,.nilf,.nilf,.nilf,.nilf]),none,false,false,none,true⟩)]
theorem okT:Lc Tryz.prog TT:=⟨tk,tk,tk,tk,tk,tk,tk,tk,tk,tk,tk,tk,tk,tk,tk,tk,tk,tk,tk,tk,tk,tk,tk,tk,tk,tk,tk,tk,tk,tk,tk,tk,tk,tk,tk,tk,tk,tk,tk,tk,tk,tk,tk,tk,tk,tk,tk,tk,tk,tk,tk,tk,tk,tk,tk,tk,tk,tk,tk,tk,tk,tk,tk,tk,tk,tk,tk,tk,tk,tk,tk,tk,tk,tk,tk,tk,trivial⟩
end Go.Ab
namespace Go.Ab
structure B1 where
 Kind:Int
 Num:Int
 Text:ByteArray
structure B6 where
 Op:Int
 cL:List B6
 Var:Int
 Field:Int
 Kind:Int
 Value:B1
structure A1 where
 Op:Int
 cL:List A1
 Typ:Int
 Var:Int
 cP:Int
 Span:Int
 cN:B6
structure A8 where
 Source:Int
 Seq:Int
 Typ:Int
 Time:Int
 Values:List B1
structure Q4 where
 Time:Int
 Source:Int
 Seq:Int
structure E1 where
 Var:Int
 Ref:Q4
structure Ij where
 cR:List E1
structure A3 where
 Ref:Q4
 Choice:Int
 Kids:List A3
structure E8 where
 cQ:List A8
 count:Int
structure A6 where
 v:Int
 at_:Int
structure A7 where
 d:A3
 s:List A6
structure K5 where
 prover:E8
structure B2 where
 d:A3
 ok:Bool
structure Kc where
 cQ:List A8
 full:Bool
structure AA where
 cU:Int
 at_:Int
structure I1 where
 source:Int
 seq:Int
structure C7 where
 node:Int
 first:Int
 last:Int
 outer:Int
structure B5 where
 Var:Int
 At:Int
structure A9 where
 s:List B5
 d:A3
structure Q3 where
 cS:Int
 most:Int
 cO:Bool
 cond:Bool
 scope:Bool
 span:Bool
structure Cz where
 cT:List (List A8)
structure S1 where
 env:Cz
 own:Int
 event:A8
 apply:Unit
structure D0 where
 Kind:Int
 Count:Int
 Value:B1
def M7:List Q3:=[⟨0,0,true,true,false,false⟩,⟨2,64,false,false,false,false⟩,⟨2,64,false,false,false,false⟩,⟨2,64,false,false,false,false⟩,⟨1,1,false,false,false,false⟩,⟨1,1,true,true,true,false⟩,⟨1,1,false,false,true,true⟩,⟨1,1,false,true,false,false⟩,⟨2,2,false,false,false,false⟩,⟨1,1,true,true,true,false⟩,⟨1,1,false,false,true,true⟩]
end Go.Ab
namespace Go.Ab
variable [Ar]
def WD:List Int:=[5,6,7,8,10,11,12]
def WC:List V:=[.func (.func 301) [] [.eref [.func (.func 300) [] []] 0],.func (.func 302) [] [.eref [.func (.func 300) [] []] 0],.func (.func 303) [] [],.func (.func 304) [] [],.func (.func 305) [] [],.func (.func 306) [] [],.func (.func 307) [] []]
class O6 where
 eBh3:B1→V
 eBi3:B6→V
 eBh0:A1→V
 eBg5:A8→V
 eBi6:Q4→V
 eBh1:E1→V
 eBj9:Ij→V
 eBg6:A3→V
 eBk0:E8→V
 eBg4:A6→V
 eBk1:A7→V
 eBi0:B2→V
 eBk2:Kc→V
 eBj6:AA→V
 eBi7:I1→V
 eBh9:C7→V
 eBg7:B5→V
 eBg9:A9→V
 eBj7:Q3→V
 eBk3:Cz→V
 eBk4:S1→V
 eBk5:D0→V
 eBi5:List A8→V
 eBi4:List A3→V
 eBi8:List A6→V
 eBk6:List (List AA)→V
 eBj8:List AA→V
 eBk7:List B5→V
 eBh7:∀x,eBh3 x= .agg [.int .i64 x.Kind,.int .i64 x.Num,.str x.Text]
 eBi2:∀x,eBi3 x= .agg [.int .i64 x.Op,.sl (lst eBi3 x.cL) .ro,.int .i64 x.Var,.int .i64 x.Field,.int .i64 x.Kind,.int .i64 x.Value.Kind,.int .i64 x.Value.Num,.str x.Value.Text]
 eBh2:∀x,eBh0 x= .agg [.int .i64 x.Op,.sl (lst eBh0 x.cL) .ro,.int .i64 x.Typ,.int .i64 x.Var,.int .i64 x.cP,.int .i64 x.Span,.int .i64 x.cN.Op,.sl (lst eBi3 x.cN.cL) .ro,.int .i64 x.cN.Var,.int .i64 x.cN.Field,.int .i64 x.cN.Kind,.int .i64 x.cN.Value.Kind,.int .i64 x.cN.Value.Num,.str x.cN.Value.Text]
 eBh4:∀x,eBg5 x= .agg [.int .i64 x.Source,.int .i64 x.Seq,.int .i64 x.Typ,.int .i64 x.Time,.sl (lst eBh3 x.Values) .ro]
 eBj3:∀x,eBi6 x= .agg [.int .i64 x.Time,.int .i64 x.Source,.int .i64 x.Seq]
 eBi1:∀x,eBh1 x= .agg [.int .i64 x.Var,.int .i64 x.Ref.Time,.int .i64 x.Ref.Source,.int .i64 x.Ref.Seq]
 eBk9:∀x,eBj9 x= .agg [.sl (lst eBh1 x.cR) .ro]
 eBg8:∀x,eBg6 x= .agg [.int .i64 x.Ref.Time,.int .i64 x.Ref.Source,.int .i64 x.Ref.Seq,.int .i64 x.Choice,.sl (lst eBg6 x.Kids) .ro]
 eBl0:∀x,eBk0 x= .agg [.sl (lst eBg5 x.cQ) .ro,.int .i64 x.count]
 eBh8:∀x,eBg4 x= .agg [.int .i64 x.v,.int .i64 x.at_]
 eBl1:∀x,eBk1 x= .agg [.int .i64 x.d.Ref.Time,.int .i64 x.d.Ref.Source,.int .i64 x.d.Ref.Seq,.int .i64 x.d.Choice,.sl (lst eBg6 x.d.Kids) .ro,.sl (lst eBg4 x.s) .ro]
 eBj4:∀x,eBi0 x= .agg [.int .i64 x.d.Ref.Time,.int .i64 x.d.Ref.Source,.int .i64 x.d.Ref.Seq,.int .i64 x.d.Choice,.sl (lst eBg6 x.d.Kids) .ro,.bool x.ok]
 eBl2:∀x,eBk2 x= .agg [.sl (lst eBg5 x.cQ) .ro,.bool x.full]
 eBl3:∀x,eBj6 x= .agg [.int .i64 x.cU,.int .i64 x.at_]
 eBj0:∀x,eBi7 x= .agg [.int .i64 x.source,.int .i64 x.seq]
 eBj5:∀x,eBh9 x= .agg [.int .i64 x.node,.int .i64 x.first,.int .i64 x.last,.int .i64 x.outer]
 eBh5:∀x,eBg7 x= .agg [.int .i64 x.Var,.int .i64 x.At]
 eBh6:∀x,eBg9 x= .agg [.sl (lst eBg7 x.s) .ro,.int .i64 x.d.Ref.Time,.int .i64 x.d.Ref.Source,.int .i64 x.d.Ref.Seq,.int .i64 x.d.Choice,.sl (lst eBg6 x.d.Kids) .ro]
 eBk8:∀x,eBj7 x= .agg [.int .i64 x.cS,.int .i64 x.most,.bool x.cO,.bool x.cond,.bool x.scope,.bool x.span]
 eBl4:∀x,eBk3 x= .agg [.sl (lst eBi5 x.cT) .ro]
 eBl5:∀x,eBk4 x= .agg [.sl (lst eBi5 x.env.cT) .ro,.int .i64 x.own,.int .i64 x.event.Source,.int .i64 x.event.Seq,.int .i64 x.event.Typ,.int .i64 x.event.Time,.sl (lst eBh3 x.event.Values) .ro,.fmap WD WC]
 eBl6:∀x,eBk5 x= .agg [.int .i64 x.Kind,.int .i64 x.Count,.int .i64 x.Value.Kind,.int .i64 x.Value.Num,.str x.Value.Text]
 eBj1:∀x,eBi5 x= .sl (lst eBg5 x) .ro
 eBi9:∀x,eBi4 x= .sl (lst eBg6 x) .ro
 eBj2:∀x,eBi8 x= .sl (lst eBg4 x) .ro
 eBl7:∀x,eBk6 x= .sl (lst eBj8 x) .ro
 eBl8:∀x,eBj8 x= .sl (lst eBj6 x) .ro
 eBl9:∀x,eBk7 x= .sl (lst eBg7 x) .ro
theorem MQ [O6](x:B1):(O6.eBh3 x).cells.length=3:=by rw[O6.eBh7];rfl
theorem LS [O6](x:A1):(O6.eBh0 x).cells.length=14:=by rw[O6.eBh2];rfl
theorem Qc [O6](x:A8):(O6.eBg5 x).cells.length=5:=by rw[O6.eBh4];rfl
theorem AL5 [O6](x:Q4):(O6.eBi6 x).cells.length=3:=by rw[O6.eBj3];rfl
theorem Gv [O6](x:E1):(O6.eBh1 x).cells.length=4:=by rw[O6.eBi1];rfl
theorem J8 [O6](x:A3):(O6.eBg6 x).cells.length=5:=by rw[O6.eBg8];rfl
theorem W3 [O6](x:A6):(O6.eBg4 x).cells.length=2:=by rw[O6.eBh8];rfl
theorem G1 [O6](x:B5):(O6.eBg7 x).cells.length=2:=by rw[O6.eBh5];rfl
theorem N9 [O6](x:A9):(O6.eBg9 x).cells.length=6:=by rw[O6.eBh6];rfl
theorem RD [O6](x:List A3):(O6.eBi4 x).cells.length=1:=by rw[O6.eBi9];rfl
variable [O6]
abbrev D2 (x:A1):List V:=[.int .i64 x.Op,.sl (lst O6.eBh0 x.cL) .ro,.int .i64 x.Typ,.int .i64 x.Var,.int .i64 x.cP,.int .i64 x.Span,.int .i64 x.cN.Op,.sl (lst O6.eBi3 x.cN.cL) .ro,.int .i64 x.cN.Var,.int .i64 x.cN.Field,.int .i64 x.cN.Kind,.int .i64 x.cN.Value.Kind,.int .i64 x.cN.Value.Num,.str x.cN.Value.Text]
abbrev C8 (x:A1):V:=.agg (D2 x)
abbrev FK (x:S1):List V:=[.sl (lst O6.eBi5 x.env.cT) .ro,.int .i64 x.own,.int .i64 x.event.Source,.int .i64 x.event.Seq,.int .i64 x.event.Typ,.int .i64 x.event.Time,.sl (lst O6.eBh3 x.event.Values) .ro,.fmap WD WC]
abbrev Dl (x:S1):V:=.agg (FK x)
abbrev GG (x:A9):List V:=[.sl (lst O6.eBg7 x.s) .ro,.int .i64 x.d.Ref.Time,.int .i64 x.d.Ref.Source,.int .i64 x.d.Ref.Seq,.int .i64 x.d.Choice,.sl (lst O6.eBg6 x.d.Kids) .ro]
abbrev U9 (x:A7):List V:=[.int .i64 x.d.Ref.Time,.int .i64 x.d.Ref.Source,.int .i64 x.d.Ref.Seq,.int .i64 x.d.Choice,.sl (lst O6.eBg6 x.d.Kids) .ro,.sl (lst O6.eBg4 x.s) .ro]
abbrev C6 (x:A7):V:=.agg (U9 x)
abbrev BT (x:B6):List V:=[.int .i64 x.Op,.sl (lst O6.eBi3 x.cL) .ro,.int .i64 x.Var,.int .i64 x.Field,.int .i64 x.Kind,.int .i64 x.Value.Kind,.int .i64 x.Value.Num,.str x.Value.Text]
abbrev Y9 (x:B6):V:=.agg (BT x)
abbrev S9 (x:B2):List V:=[.int .i64 x.d.Ref.Time,.int .i64 x.d.Ref.Source,.int .i64 x.d.Ref.Seq,.int .i64 x.d.Choice,.sl (lst O6.eBg6 x.d.Kids) .ro,.bool x.ok]
abbrev K0 (x:B2):V:=.agg (S9 x)
abbrev U6 (x:A3):List V:=[.int .i64 x.Ref.Time,.int .i64 x.Ref.Source,.int .i64 x.Ref.Seq,.int .i64 x.Choice,.sl (lst O6.eBg6 x.Kids) .ro]
abbrev G0 (x:A3):V:=.agg (U6 x)
abbrev PJ (x:A8):List V:=[.int .i64 x.Source,.int .i64 x.Seq,.int .i64 x.Typ,.int .i64 x.Time,.sl (lst O6.eBh3 x.Values) .ro]
abbrev W4 (x:A8):V:=.agg (PJ x)
abbrev Ch (x:D0):List V:=[.int .i64 x.Kind,.int .i64 x.Count,.int .i64 x.Value.Kind,.int .i64 x.Value.Num,.str x.Value.Text]
abbrev L7 (x:D0):V:=.agg (Ch x)
abbrev GP (x:Q3):List V:=[.int .i64 x.cS,.int .i64 x.most,.bool x.cO,.bool x.cond,.bool x.scope,.bool x.span]
abbrev KQ (x:Q3):V:=.agg (GP x)
abbrev Aw2 (x:E1):List V:=[.int .i64 x.Var,.int .i64 x.Ref.Time,.int .i64 x.Ref.Source,.int .i64 x.Ref.Seq]
abbrev BY (x:E1):V:=.agg (Aw2 x)
abbrev D7 (x:E8):List V:=[.sl (lst O6.eBg5 x.cQ) .ro,.int .i64 x.count]
abbrev AI3 (x:Q4):List V:=[.int .i64 x.Time,.int .i64 x.Source,.int .i64 x.Seq]
abbrev Dy (x:Q4):V:=.agg (AI3 x)
abbrev V3 (x:B1):List V:=[.int .i64 x.Kind,.int .i64 x.Num,.str x.Text]
abbrev F4 (x:B1):V:=.agg (V3 x)
abbrev Nr (x:Ij):List V:=[.sl (lst O6.eBh1 x.cR) .ro]
abbrev Kg (x:Ij):V:=.agg (Nr x)
abbrev AX0 (x:Cz):List V:=[.sl (lst O6.eBi5 x.cT) .ro]
abbrev HD (x:Cz):V:=.agg (AX0 x)
abbrev PI (x:I1):List V:=[.int .i64 x.source,.int .i64 x.seq]
abbrev Pa (x:I1):V:=.agg (PI x)
abbrev Bb (x:A6):List V:=[.int .i64 x.v,.int .i64 x.at_]
abbrev Q8 (x:A6):V:=.agg (Bb x)
end Go.Ab
