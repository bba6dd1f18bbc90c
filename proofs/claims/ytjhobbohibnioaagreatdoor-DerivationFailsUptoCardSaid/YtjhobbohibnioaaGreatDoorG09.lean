/- . -/
import Derived.Test.YtjhobbohibnioaaGreatDoorG08
import Derived.KernelRfl
import Derived.Test.YtjhobbohibnioaaGreatDoorChecked
set_option linter.all false
open Go.Ab.Ar (lst)
namespace Go.Ab
open Go.RowKit Go.Proofs
set_option maxRecDepth 100000
def tk {t:Nat}{I:AC8}(a:Hq Tryz.prog t=some I.sz:=by kernel_rfl)(b:UK Tryz.prog t=some I.by_:=by kernel_rfl)(c:agO Tryz.prog t=some I.ag:=by kernel_rfl)(d:Ib Tryz.prog t=I.sl:=by kernel_rfl)(e:arO Tryz.prog t=I.ar:=by kernel_rfl)
 (f:AB0 Tryz.prog t 0 I.fs:=by repeat' (first|refine⟨?_,?_⟩|exact True.intro|kernel_rfl)) (g:CS I.pl (fun l=>PL Tryz.prog t=some l):=by first|exact True.intro|(show PL Tryz.prog _=some _;kernel_rfl))
 (h:CS I.ze (fun z=>Kc Tryz.prog t=some z):=by first|exact True.intro|(show Kc Tryz.prog _=some _;kernel_rfl)) (i:CS I.ek (fun k=>Hl Tryz.prog 9 t=some k):=by first|exact True.intro|(show Hl Tryz.prog 9 _=some _;kernel_rfl)) (j:WO Tryz.prog t=I.st:=by kernel_rfl)
 (k:I.bo=true→Au1 ((Tryz.prog).underlying t)=true:=by intro h;first|(cases h;done)|kernel_rfl) (l:CS I.ik (fun k=>(Tryz.prog).underlying t=some (.int k)):=by first|exact True.intro|(show(Tryz.prog).underlying _=some (.int _);kernel_rfl))
 (m:I.nif=true→ifO Tryz.prog t=false:=by intro h;first|(cases h;done)|kernel_rfl):Bi6 Tryz.prog t I:=⟨a,b,c,d,e,f,g,h,i,j,k,l,m⟩
def TT:ID:=[(2,⟨1,8,false,none,none,[],none,some (.int .i64 0),some [0],false,false,some .i64,true⟩),
 (3,⟨1,8,false,none,none,[],none,some (.int .i64 0),some [0],false,false,some .i64,true⟩),
 (4,⟨1,1,false,none,none,[],none,some (.bool false),some [1],false,true,none,true⟩),
 (5,⟨1,1,false,none,none,[],none,some (.int .u8 0),some [0],false,false,some .u8,true⟩),
 (9,⟨1,16,false,none,none,[],none,some (.str ⟨#[]⟩),some [2],true,false,none,true⟩),
 (22,⟨1,24,false,some (29),none,[],none,some (.sl [] .nil),none,false,false,none,true⟩),
 (23,⟨1,24,false,some (27),none,[],none,some (.sl [] .nil),none,false,false,none,true⟩),
 (25,⟨3,32,true,none,none,[some (0,3),some (1,3),some (2,9)],some [(0,1),(1,1),(2,1)],some (.agg [.int .i64 0,.int .i64 0,.str ⟨#[]⟩]),some [0,0,2],false,false,none,true⟩),
 (27,⟨8,88,true,none,none,[some (0,3),some (1,23),some (2,3),some (3,3),some (4,3),some (5,25)],some [(0,1),(1,1),(2,1),(3,1),(4,1),(5,3)],some (.agg [.int .i64 0,.sl [] .nil,.int .i64 0,.int .i64 0,.int .i64 0,.int .i64 0,.int .i64 0,.str ⟨#[]⟩]),none,false,false,none,true⟩),
 (29,⟨14,152,true,none,none,[some (0,3),some (1,22),some (2,3),some (3,3),some (4,3),some (5,3),some (6,27)],some [(0,1),(1,1),(2,1),(3,1),(4,1),(5,1),(6,8)],some (.agg [.int .i64 0,.sl [] .nil,.int .i64 0,.int .i64 0,.int .i64 0,.int .i64 0,.int .i64 0,.sl [] .nil,.int .i64 0,.int .i64 0,.int .i64 0,.int .i64 0,.int .i64 0,.str ⟨#[]⟩]),none,false,false,none,true⟩),
 (30,⟨1,24,false,some (78),none,[],none,some (.sl [] .nil),none,false,false,none,true⟩),
 (33,⟨1,24,false,some (42),none,[],none,some (.sl [] .nil),none,false,false,none,true⟩),
 (34,⟨1,8,false,none,none,[],none,some (.int .i64 0),some [0],false,false,some .i64,true⟩),
 (37,⟨1,24,false,some (46),none,[],none,some (.sl [] .nil),none,false,false,none,true⟩),
 (40,⟨1,24,false,some (82),none,[],none,some (.sl [] .nil),none,false,false,none,true⟩),
 (42,⟨1,24,true,none,none,[some (0,40)],some [(0,1)],some (.agg [.sl [] .nil]),none,false,false,none,true⟩),
 (44,⟨3,24,true,none,none,[some (0,3),some (1,3),some (2,3)],some [(0,1),(1,1),(2,1)],some (.agg [.int .i64 0,.int .i64 0,.int .i64 0]),some [0,0,0],false,false,none,true⟩),
 (46,⟨5,56,true,none,none,[some (0,44),some (3,3),some (4,37)],some [(0,3),(3,1),(4,1)],some (.agg [.int .i64 0,.int .i64 0,.int .i64 0,.int .i64 0,.sl [] .nil]),none,false,false,none,true⟩),
 (76,⟨1,24,false,some (25),none,[],none,some (.sl [] .nil),none,false,false,none,true⟩),
 (78,⟨5,56,true,none,none,[some (0,3),some (1,3),some (2,3),some (3,3),some (4,76)],some [(0,1),(1,1),(2,1),(3,1),(4,1)],some (.agg [.int .i64 0,.int .i64 0,.int .i64 0,.int .i64 0,.sl [] .nil]),none,false,false,none,true⟩),
 (82,⟨4,32,true,none,none,[some (0,3),some (1,44)],some [(0,1),(1,3)],some (.agg [.int .i64 0,.int .i64 0,.int .i64 0,.int .i64 0]),some [0,0,0,0],false,false,none,true⟩),
 (95,⟨1,8,false,none,none,[],none,some (.nilp),none,false,false,none,true⟩),
 (97,⟨2,32,true,none,none,[some (0,30),some (1,3)],some [(0,1),(1,1)],some (.agg [.sl [] .nil,.int .i64 0]),none,false,false,none,true⟩),
 (101,⟨1,24,false,some (109),none,[],none,some (.sl [] .nil),none,false,false,none,true⟩),
 (103,⟨6,80,true,none,none,[some (0,46),some (5,101)],some [(0,5),(5,1)],some (.agg [.int .i64 0,.int .i64 0,.int .i64 0,.int .i64 0,.sl [] .nil,.sl [] .nil]),none,false,false,none,true⟩),
 (109,⟨2,16,true,none,none,[some (0,3),some (1,3)],some [(0,1),(1,1)],some (.agg [.int .i64 0,.int .i64 0]),some [0,0],false,false,none,true⟩),
 (111,⟨1,8,false,none,none,[],none,some (.nilmap),none,false,false,none,true⟩),
 (113,⟨3,40,true,none,none,[some (0,97),some (2,111)],some [(0,2),(2,1)],some (.agg [.sl [] .nil,.int .i64 0,.nilmap]),none,false,false,none,true⟩),
 (115,⟨6,64,true,none,none,[some (0,46),some (5,4)],some [(0,5),(5,1)],some (.agg [.int .i64 0,.int .i64 0,.int .i64 0,.int .i64 0,.sl [] .nil,.bool false]),none,false,false,none,true⟩),
 (136,⟨1,24,false,some (44),none,[],none,some (.sl [] .nil),none,false,false,none,true⟩),
 (154,⟨1,8,false,none,none,[],none,some (.nilp),none,false,false,none,true⟩),
 (156,⟨2,32,true,none,none,[some (0,30),some (1,4)],some [(0,1),(1,1)],some (.agg [.sl [] .nil,.bool false]),none,false,false,none,true⟩),
 (157,⟨1,24,false,some (160),none,[],none,some (.sl [] .nil),none,false,false,none,true⟩),
 (159,⟨1,24,false,some (162),none,[],none,some (.sl [] .nil),none,false,false,none,true⟩),
 (160,⟨1,24,false,some (162),none,[],none,some (.sl [] .nil),none,false,false,none,true⟩),
 (162,⟨2,16,true,none,none,[some (0,3),some (1,3)],some [(0,1),(1,1)],some (.agg [.int .i64 0,.int .i64 0]),some [0,0],false,false,none,true⟩),
 (165,⟨1,8,false,none,none,[],none,some (.nilmap),none,false,false,none,true⟩),
 (167,⟨2,16,true,none,none,[some (0,3),some (1,3)],some [(0,1),(1,1)],some (.agg [.int .i64 0,.int .i64 0]),some [0,0],false,false,none,true⟩),
 (169,⟨1,8,false,none,none,[],none,some (.nilf),none,false,false,none,true⟩),
 (173,⟨1,8,false,none,none,[],none,some (.int .u64 0),some [0],false,false,some .u64,true⟩),
 (178,⟨4,32,true,none,none,[some (0,3),some (1,3),some (2,3),some (3,3)],some [(0,1),(1,1),(2,1),(3,1)],some (.agg [.int .i64 0,.int .i64 0,.int .i64 0,.int .i64 0]),some [0,0,0,0],false,false,none,true⟩),
 (181,⟨1,24,false,some (3),none,[],none,some (.sl [] .nil),none,false,false,none,true⟩),
 (194,⟨1,24,false,some (252),none,[],none,some (.sl [] .nil),none,false,false,none,true⟩),
 (201,⟨1,24,false,some (205),none,[],none,some (.sl [] .nil),none,false,false,none,true⟩),
 (205,⟨6,80,true,none,none,[some (0,194),some (1,46)],some [(0,1),(1,5)],some (.agg [.sl [] .nil,.int .i64 0,.int .i64 0,.int .i64 0,.int .i64 0,.sl [] .nil]),none,false,false,none,true⟩),
 (207,⟨1,8,false,none,none,[],none,some (.nilmap),none,false,false,none,true⟩),
 (209,⟨1,8,false,none,none,[],none,some (.nilf),none,false,false,none,true⟩),
 (210,⟨8,64,true,none,some (8,209),[],none,some (.agg [.nilf,.nilf,.nilf,.nilf,.nilf,.nilf,.nilf,.nilf]),none,false,false,none,true⟩),
 (219,⟨6,24,true,none,none,[some (0,3),some (1,3),some (2,4),some (3,4),some (4,4),some (5,4)],some [(0,1),(1,1),(2,1),(3,1),(4,1),(5,1)],some (.agg [.int .i64 0,.int .i64 0,.bool false,.bool false,.bool false,.bool false]),some [0,0,1,1,1,1],false,false,none,true⟩),
 (220,⟨66,264,true,none,some (11,219),[],none,none,none,false,false,none,true⟩),
 (223,⟨1,8,false,none,none,[],none,some (.int .i64 0),some [0],false,false,some .i64,true⟩),
 (230,⟨1,4,false,none,none,[],none,some (.int .u32 0),some [0],false,false,some .u32,true⟩),
 (232,⟨1,8,false,none,none,[],none,some (.int .u64 0),some [0],false,false,some .u64,true⟩),
 (242,⟨1,24,false,some (30),none,[],none,some (.sl [] .nil),none,false,false,none,true⟩),
 (244,⟨1,24,true,none,none,[some (0,242)],some [(0,1)],some (.agg [.sl [] .nil]),none,false,false,none,true⟩),
 (252,⟨2,16,true,none,none,[some (0,3),some (1,3)],some [(0,1),(1,1)],some (.agg [.int .i64 0,.int .i64 0]),some [0,0],false,false,none,true⟩),
 (256,⟨1,24,false,some (194),none,[],none,some (.sl [] .nil),none,false,false,none,true⟩),
 (268,⟨1,24,false,some (5),none,[],none,some (.sl [] .nil),none,false,false,none,true⟩),
 (272,⟨1,8,false,none,none,[],none,some (.int .u64 0),some [0],false,false,some .u64,true⟩),
 (278,⟨1,24,false,some (37),none,[],none,some (.sl [] .nil),none,false,false,none,true⟩),
 (279,⟨1,24,false,some (4),none,[],none,some (.sl [] .nil),none,false,false,none,true⟩),
 (288,⟨1,24,false,some (101),none,[],none,some (.sl [] .nil),none,false,false,none,true⟩),
 (297,⟨1,8,false,none,none,[],none,some (.nilf),none,false,false,none,true⟩),
 (301,⟨1,8,false,none,none,[],none,some (.nilf),none,false,false,none,true⟩),
 (302,⟨1,24,false,some (157),none,[],none,some (.sl [] .nil),none,false,false,none,true⟩),
 (311,⟨1,8,false,none,none,[],none,some (.nilmap),none,false,false,none,true⟩),
 (314,⟨8,96,true,none,none,[some (0,244),some (1,3),some (2,78),some (7,311)],some [(0,1),(1,1),(2,5),(7,1)],some (.agg [.sl [] .nil,.int .i64 0,.int .i64 0,.int .i64 0,.int .i64 0,.int .i64 0,.sl [] .nil,.nilmap]),none,false,false,none,true⟩),
 (337,⟨1,8,false,none,none,[],none,some (.nilf),none,false,false,none,true⟩),
 (352,⟨24,24,true,none,some (24,5),[],none,some (.agg [.int .u8 0,.int .u8 0,.int .u8 0,.int .u8 0,.int .u8 0,.int .u8 0,.int .u8 0,.int .u8 0,.int .u8 0,.int .u8 0,.int .u8 0,.int .u8 0,.int .u8 0,.int .u8 0,.int .u8 0,.int .u8 0,.int .u8 0,.int .u8 0,.int .u8 0,.int .u8 0,.int .u8 0,.int .u8 0,.int .u8 0,.int .u8 0]),none,false,false,none,true⟩),
 (367,⟨20,160,true,none,some (20,232),[],none,some (.agg [.int .u64 0,.int .u64 0,.int .u64 0,.int .u64 0,.int .u64 0,.int .u64 0,.int .u64 0,.int .u64 0,.int .u64 0,.int .u64 0,.int .u64 0,.int .u64 0,.int .u64 0,.int .u64 0,.int .u64 0,.int .u64 0,.int .u64 0,.int .u64 0,.int .u64 0,.int .u64 0]),none,false,false,none,true⟩),
 (368,⟨65,65,true,none,some (65,5),[],none,none,none,false,false,none,true⟩),
 (388,⟨5,48,true,none,none,[some (0,3),some (1,3),some (2,25)],some [(0,1),(1,1),(2,3)],some (.agg [.int .i64 0,.int .i64 0,.int .i64 0,.int .i64 0,.str ⟨#[]⟩]),some [0,0,0,0,2],false,false,none,true⟩),
 (399,⟨32,32,true,none,some (32,5),[],none,some (.agg [.int .u8 0,.int .u8 0,.int .u8 0,.int .u8 0,.int .u8 0,.int .u8 0,.int .u8 0,.int .u8 0,.int .u8 0,.int .u8 0,.int .u8 0,.int .u8 0,.int .u8 0,.int .u8 0,.int .u8 0,.int .u8 0,.int .u8 0,.int .u8 0,.int .u8 0,.int .u8 0,.int .u8 0,.int .u8 0,.int .u8 0,.int .u8 0,.int .u8 0,.int .u8 0,.int .u8 0,.int .u8 0,.int .u8 0,.int .u8 0,.int .u8 0,.int .u8 0]),none,false,false,none,true⟩),
 (400,⟨64,64,true,none,some (64,5),[],none,none,none,false,false,none,true⟩),
 (407,⟨1,8,false,none,none,[],none,some (.nilf),none,false,false,none,true⟩),
 (408,⟨6,48,true,none,some (6,407),[],none,some (.agg [.nilf,.nilf,.nilf,.nilf,.nilf,.nilf]),none,false,false,none,true⟩)]
def okT:Lz Tryz.prog TT:=⟨tk,tk,tk,tk,tk,tk,tk,tk,tk,tk,tk,tk,tk,tk,tk,tk,tk,tk,tk,tk,tk,tk,tk,tk,tk,tk,tk,tk,tk,tk,tk,tk,tk,tk,tk,tk,tk,tk,tk,tk,tk,tk,tk,tk,tk,tk,tk,tk,tk,tk,tk,tk,tk,tk,tk,tk,tk,tk,tk,tk,tk,tk,tk,tk,tk,tk,tk,tk,tk,tk,tk,tk,tk,tk,tk,tk,trivial⟩
end Go.Ab
namespace Go.Ab
structure A9 where
 Kind:Int
 Num:Int
 Text:ByteArray
structure B5 where
 Op:Int
 cQ:List B5
 Var:Int
 Field:Int
 Kind:Int
 Value:A9
structure A2 where
 Op:Int
 cQ:List A2
 Typ:Int
 Var:Int
 cV:Int
 Span:Int
 cR:B5
structure A8 where
 Source:Int
 Seq:Int
 Typ:Int
 Time:Int
 Values:List A9
structure T4 where
 Time:Int
 Source:Int
 Seq:Int
structure C1 where
 Var:Int
 Ref:T4
structure DX where
 cT:List C1
structure A4 where
 Ref:T4
 Choice:Int
 Kids:List A4
structure E6 where
 cU:List A8
 count:Int
structure A6 where
 v:Int
 at_:Int
structure A7 where
 d:A4
 s:List A6
structure L3 where
 prover:E6
structure B2 where
 d:A4
 ok:Bool
structure KE where
 cU:List A8
 full:Bool
structure AR where
 cZ:Int
 at_:Int
structure I1 where
 source:Int
 seq:Int
structure C5 where
 node:Int
 first:Int
 last:Int
 outer:Int
structure B6 where
 Var:Int
 At:Int
structure B4 where
 s:List B6
 d:A4
structure Q6 where
 cX:Int
 most:Int
 cS:Bool
 cond:Bool
 scope:Bool
 span:Bool
structure CY where
 cY:List (List A8)
structure T3 where
 env:CY
 own:Int
 event:A8
 apply:Unit
structure D3 where
 Kind:Int
 Count:Int
 Value:A9
def N2:List Q6:=[⟨0,0,true,true,false,false⟩,⟨2,64,false,false,false,false⟩,⟨2,64,false,false,false,false⟩,⟨2,64,false,false,false,false⟩,⟨1,1,false,false,false,false⟩,⟨1,1,true,true,true,false⟩,⟨1,1,false,false,true,true⟩,⟨1,1,false,true,false,false⟩,⟨2,2,false,false,false,false⟩,⟨1,1,true,true,true,false⟩,⟨1,1,false,false,true,true⟩]
end Go.Ab
namespace Go.Ab
variable [Ar]
def XA:List Int:=[5,6,7,8,10,11,12]
def Xz:List V:=[.func (.func 301) [] [.eref [.func (.func 300) [] []] 0],.func (.func 302) [] [.eref [.func (.func 300) [] []] 0],.func (.func 303) [] [],.func (.func 304) [] [],.func (.func 305) [] [],.func (.func 306) [] [],.func (.func 307) [] []]
class R0 where
 eBo9:A9→V
 eBp5:B5→V
 eBo6:A2→V
 eBo2:A8→V
 eBp8:T4→V
 eBo5:C1→V
 eBr3:DX→V
 eBo3:A4→V
 eBr4:E6→V
 eBo1:A6→V
 eBr5:A7→V
 eBp3:B2→V
 eBr6:KE→V
 eBq9:AR→V
 eBq0:I1→V
 eBp2:C5→V
 eBq5:B6→V
 eBr7:B4→V
 eBr0:Q6→V
 eBr8:CY→V
 eBr9:T3→V
 eBs0:D3→V
 eBp9:List A8→V
 eBp6:List A4→V
 eBq1:List A6→V
 eBs1:List (List AR)→V
 eBr1:List AR→V
 eBs2:List B6→V
 eBp4:∀x,eBo9 x= .agg [.int .i64 x.Kind,.int .i64 x.Num,.str x.Text]
 eBp7:∀x,eBp5 x= .agg [.int .i64 x.Op,.sl (lst eBp5 x.cQ) .ro,.int .i64 x.Var,.int .i64 x.Field,.int .i64 x.Kind,.int .i64 x.Value.Kind,.int .i64 x.Value.Num,.str x.Value.Text]
 eBo7:∀x,eBo6 x= .agg [.int .i64 x.Op,.sl (lst eBo6 x.cQ) .ro,.int .i64 x.Typ,.int .i64 x.Var,.int .i64 x.cV,.int .i64 x.Span,.int .i64 x.cR.Op,.sl (lst eBp5 x.cR.cQ) .ro,.int .i64 x.cR.Var,.int .i64 x.cR.Field,.int .i64 x.cR.Kind,.int .i64 x.cR.Value.Kind,.int .i64 x.cR.Value.Num,.str x.cR.Value.Text]
 eBo8:∀x,eBo2 x= .agg [.int .i64 x.Source,.int .i64 x.Seq,.int .i64 x.Typ,.int .i64 x.Time,.sl (lst eBo9 x.Values) .ro]
 eBq6:∀x,eBp8 x= .agg [.int .i64 x.Time,.int .i64 x.Source,.int .i64 x.Seq]
 eBp1:∀x,eBo5 x= .agg [.int .i64 x.Var,.int .i64 x.Ref.Time,.int .i64 x.Ref.Source,.int .i64 x.Ref.Seq]
 eBs4:∀x,eBr3 x= .agg [.sl (lst eBo5 x.cT) .ro]
 eBo4:∀x,eBo3 x= .agg [.int .i64 x.Ref.Time,.int .i64 x.Ref.Source,.int .i64 x.Ref.Seq,.int .i64 x.Choice,.sl (lst eBo3 x.Kids) .ro]
 eBs5:∀x,eBr4 x= .agg [.sl (lst eBo2 x.cU) .ro,.int .i64 x.count]
 eBp0:∀x,eBo1 x= .agg [.int .i64 x.v,.int .i64 x.at_]
 eBs6:∀x,eBr5 x= .agg [.int .i64 x.d.Ref.Time,.int .i64 x.d.Ref.Source,.int .i64 x.d.Ref.Seq,.int .i64 x.d.Choice,.sl (lst eBo3 x.d.Kids) .ro,.sl (lst eBo1 x.s) .ro]
 eBq7:∀x,eBp3 x= .agg [.int .i64 x.d.Ref.Time,.int .i64 x.d.Ref.Source,.int .i64 x.d.Ref.Seq,.int .i64 x.d.Choice,.sl (lst eBo3 x.d.Kids) .ro,.bool x.ok]
 eBs7:∀x,eBr6 x= .agg [.sl (lst eBo2 x.cU) .ro,.bool x.full]
 eBs8:∀x,eBq9 x= .agg [.int .i64 x.cZ,.int .i64 x.at_]
 eBq3:∀x,eBq0 x= .agg [.int .i64 x.source,.int .i64 x.seq]
 eBq8:∀x,eBp2 x= .agg [.int .i64 x.node,.int .i64 x.first,.int .i64 x.last,.int .i64 x.outer]
 eBs9:∀x,eBq5 x= .agg [.int .i64 x.Var,.int .i64 x.At]
 eBt0:∀x,eBr7 x= .agg [.sl (lst eBq5 x.s) .ro,.int .i64 x.d.Ref.Time,.int .i64 x.d.Ref.Source,.int .i64 x.d.Ref.Seq,.int .i64 x.d.Choice,.sl (lst eBo3 x.d.Kids) .ro]
 eBs3:∀x,eBr0 x= .agg [.int .i64 x.cX,.int .i64 x.most,.bool x.cS,.bool x.cond,.bool x.scope,.bool x.span]
 eBt1:∀x,eBr8 x= .agg [.sl (lst eBp9 x.cY) .ro]
 eBt2:∀x,eBr9 x= .agg [.sl (lst eBp9 x.env.cY) .ro,.int .i64 x.own,.int .i64 x.event.Source,.int .i64 x.event.Seq,.int .i64 x.event.Typ,.int .i64 x.event.Time,.sl (lst eBo9 x.event.Values) .ro,.fmap XA Xz]
 eBt3:∀x,eBs0 x= .agg [.int .i64 x.Kind,.int .i64 x.Count,.int .i64 x.Value.Kind,.int .i64 x.Value.Num,.str x.Value.Text]
 eBr2:∀x,eBp9 x= .sl (lst eBo2 x) .ro
 eBq2:∀x,eBp6 x= .sl (lst eBo3 x) .ro
 eBq4:∀x,eBq1 x= .sl (lst eBo1 x) .ro
 eBt4:∀x,eBs1 x= .sl (lst eBr1 x) .ro
 eBt5:∀x,eBr1 x= .sl (lst eBq9 x) .ro
 eBt6:∀x,eBs2 x= .sl (lst eBq5 x) .ro
def Vu [R0](x:A9):(R0.eBo9 x).cells.length=3:=by rw[R0.eBp4];rfl
def Mo [R0](x:A2):(R0.eBo6 x).cells.length=14:=by rw[R0.eBo7];rfl
def Nj [R0](x:A8):(R0.eBo2 x).cells.length=5:=by rw[R0.eBo8];rfl
def AS2 [R0](x:T4):(R0.eBp8 x).cells.length=3:=by rw[R0.eBq6];rfl
def GT [R0](x:C1):(R0.eBo5 x).cells.length=4:=by rw[R0.eBp1];rfl
def V0 [R0](x:A4):(R0.eBo3 x).cells.length=5:=by rw[R0.eBo4];rfl
def Y1 [R0](x:A6):(R0.eBo1 x).cells.length=2:=by rw[R0.eBp0];rfl
def Se [R0](x:List A4):(R0.eBp6 x).cells.length=1:=by rw[R0.eBq2];rfl
variable [R0]
abbrev E0 (x:A2):List V:=[.int .i64 x.Op,.sl (lst R0.eBo6 x.cQ) .ro,.int .i64 x.Typ,.int .i64 x.Var,.int .i64 x.cV,.int .i64 x.Span,.int .i64 x.cR.Op,.sl (lst R0.eBp5 x.cR.cQ) .ro,.int .i64 x.cR.Var,.int .i64 x.cR.Field,.int .i64 x.cR.Kind,.int .i64 x.cR.Value.Kind,.int .i64 x.cR.Value.Num,.str x.cR.Value.Text]
abbrev D5 (x:A2):V:=.agg (E0 x)
abbrev Gj (x:T3):List V:=[.sl (lst R0.eBp9 x.env.cY) .ro,.int .i64 x.own,.int .i64 x.event.Source,.int .i64 x.event.Seq,.int .i64 x.event.Typ,.int .i64 x.event.Time,.sl (lst R0.eBo9 x.event.Values) .ro,.fmap XA Xz]
abbrev DH (x:T3):V:=.agg (Gj x)
abbrev W4 (x:A7):List V:=[.int .i64 x.d.Ref.Time,.int .i64 x.d.Ref.Source,.int .i64 x.d.Ref.Seq,.int .i64 x.d.Choice,.sl (lst R0.eBo3 x.d.Kids) .ro,.sl (lst R0.eBo1 x.s) .ro]
abbrev C3 (x:A7):V:=.agg (W4 x)
abbrev EF (x:B5):List V:=[.int .i64 x.Op,.sl (lst R0.eBp5 x.cQ) .ro,.int .i64 x.Var,.int .i64 x.Field,.int .i64 x.Kind,.int .i64 x.Value.Kind,.int .i64 x.Value.Num,.str x.Value.Text]
abbrev Bk (x:B5):V:=.agg (EF x)
abbrev U4 (x:B2):List V:=[.int .i64 x.d.Ref.Time,.int .i64 x.d.Ref.Source,.int .i64 x.d.Ref.Seq,.int .i64 x.d.Choice,.sl (lst R0.eBo3 x.d.Kids) .ro,.bool x.ok]
abbrev J9 (x:B2):V:=.agg (U4 x)
abbrev Ae (x:A4):List V:=[.int .i64 x.Ref.Time,.int .i64 x.Ref.Source,.int .i64 x.Ref.Seq,.int .i64 x.Choice,.sl (lst R0.eBo3 x.Kids) .ro]
abbrev G2 (x:A4):V:=.agg (Ae x)
abbrev SK (x:A8):List V:=[.int .i64 x.Source,.int .i64 x.Seq,.int .i64 x.Typ,.int .i64 x.Time,.sl (lst R0.eBo9 x.Values) .ro]
abbrev BO (x:A8):V:=.agg (SK x)
abbrev Kb (x:D3):List V:=[.int .i64 x.Kind,.int .i64 x.Count,.int .i64 x.Value.Kind,.int .i64 x.Value.Num,.str x.Value.Text]
abbrev Q8 (x:D3):V:=.agg (Kb x)
abbrev Ho (x:Q6):List V:=[.int .i64 x.cX,.int .i64 x.most,.bool x.cS,.bool x.cond,.bool x.scope,.bool x.span]
abbrev Lm (x:Q6):V:=.agg (Ho x)
abbrev AC4 (x:C1):List V:=[.int .i64 x.Var,.int .i64 x.Ref.Time,.int .i64 x.Ref.Source,.int .i64 x.Ref.Seq]
abbrev AQ (x:C1):V:=.agg (AC4 x)
abbrev D8 (x:E6):List V:=[.sl (lst R0.eBo2 x.cU) .ro,.int .i64 x.count]
abbrev AP5 (x:T4):List V:=[.int .i64 x.Time,.int .i64 x.Source,.int .i64 x.Seq]
abbrev DU (x:T4):V:=.agg (AP5 x)
abbrev Y3 (x:A9):List V:=[.int .i64 x.Kind,.int .i64 x.Num,.str x.Text]
abbrev H5 (x:A9):V:=.agg (Y3 x)
abbrev NH (x:DX):List V:=[.sl (lst R0.eBo5 x.cT) .ro]
abbrev KJ (x:DX):V:=.agg (NH x)
abbrev Bn2 (x:CY):List V:=[.sl (lst R0.eBp9 x.cY) .ro]
abbrev Yo (x:CY):V:=.agg (Bn2 x)
abbrev Qk (x:I1):List V:=[.int .i64 x.source,.int .i64 x.seq]
abbrev PA (x:I1):V:=.agg (Qk x)
abbrev Bx (x:A6):List V:=[.int .i64 x.v,.int .i64 x.at_]
abbrev R9 (x:A6):V:=.agg (Bx x)
end Go.Ab
