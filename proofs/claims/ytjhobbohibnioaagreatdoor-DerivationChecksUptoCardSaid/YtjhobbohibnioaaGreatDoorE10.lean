/- GVTypes GVTy GVEn -/
import Derived.Test.YtjhobbohibnioaaGreatDoorE09
import Derived.KernelRfl
import Derived.Test.YtjhobbohibnioaaGreatDoorChecked
set_option linter.all false
open Go.Ab.Ar (lst)
namespace Go.Ab
open Go.RowKit Go.Proofs
set_option maxRecDepth 100000
theorem tk {t:Nat}{I:UU}(a:DA Tryz.prog t=some I.sz:=by kernel_rfl)(b:Mo Tryz.prog t=some I.by_:=by kernel_rfl)(c:ON Tryz.prog t=some I.ag:=by kernel_rfl)(d:Ek Tryz.prog t=I.sl:=by kernel_rfl)(e:ZF Tryz.prog t=I.ar:=by kernel_rfl)
 (f:WI Tryz.prog t 0 I.fs:=by repeat' (first|refine⟨?_,?_⟩|exact True.intro|kernel_rfl)) (g:Av I.pl (fun l=>IP Tryz.prog t=some l):=by first|exact True.intro|(show IP Tryz.prog _=some _;kernel_rfl))
 (h:Av I.ze (fun z=>Fq Tryz.prog t=some z):=by first|exact True.intro|(show Fq Tryz.prog _=some _;kernel_rfl)) (i:Av I.ek (fun k=>Dm Tryz.prog 9 t=some k):=by first|exact True.intro|(show Dm Tryz.prog 9 _=some _;kernel_rfl)) (j:NX Tryz.prog t=I.st:=by kernel_rfl)
 (k:I.bo=true→TC ((Tryz.prog).underlying t)=true:=by intro h;first|(cases h;done)|kernel_rfl) (l:Av I.ik (fun k=>(Tryz.prog).underlying t=some (.int k)):=by first|exact True.intro|(show(Tryz.prog).underlying _=some (.int _);kernel_rfl))
 (m:I.nif=true→ifO Tryz.prog t=false:=by intro h;first|(cases h;done)|kernel_rfl):Ac1 Tryz.prog t I:=⟨a,b,c,d,e,f,g,h,i,j,k,l,m⟩
def TT :Eh:=[(2,⟨1,8,false,none,none,[],none,some (.int .i64 0),some [0],false,false,some .i64,true⟩),
 (3,⟨1,8,false,none,none,[],none,some (.int .i64 0),some [0],false,false,some .i64,true⟩),
 (4,⟨1,1,false,none,none,[],none,some (.bool false),some [1],false,true,none,true⟩),
 (5,⟨1,1,false,none,none,[],none,some (.int .u8 0),some [0],false,false,some .u8,true⟩),
 (9,⟨1,16,false,none,none,[],none,some (.str ⟨#[]⟩),some [2],true,false,none,true⟩),
 (22,⟨1,24,false,some (29),none,[],none,some (.sl [] .nil),none,false,false,none,true⟩),
 (23,⟨1,24,false,some (27),none,[],none,some (.sl [] .nil),none,false,false,none,true⟩),
 (25,⟨3,32,true,none,none,[some (0,3),some (1,3),some (2,9)],some [(0,1),(1,1),(2,1)],some (.agg [.int .i64 0,.int .i64 0,.str ⟨#[]⟩]),some [0,0,2],false,false,none,true⟩),
 (27,⟨8,88,true,none,none,[some (0,3),some (1,23),some (2,3),some (3,3),some (4,3),some (5,25)],some [(0,1),(1,1),(2,1),(3,1),(4,1),(5,3)],some (.agg [.int .i64 0,.sl [] .nil,.int .i64 0,.int .i64 0,.int .i64 0,.int .i64 0,.int .i64 0,.str ⟨#[]⟩]),none,false,false,none,true⟩),
 (29,⟨14,152,true,none,none,[some (0,3),some (1,22),some (2,3),some (3,3),some (4,3),some (5,3),some (6,27)],some [(0,1),(1,1),(2,1),(3,1),(4,1),(5,1),(6,8)],some (.agg [.int .i64 0,.sl [] .nil,.int .i64 0,.int .i64 0,.int .i64 0,.int .i64 0,.int .i64 0,.sl [] .nil,.int .i64 0,.int .i64 0,.int .i64 0,.int .i64 0,.int .i64 0,.str ⟨#[]⟩]),none,false,false,none,true⟩),
 (30,⟨1,24,false,some (78),none,[],none,some (.sl [] .nil),none,false,false,none,true⟩),
 (33,⟨1,24,false,some (42),none,[],none,some (.sl [] .nil),none,false,false,none,true⟩),
 (34,⟨1,8,false,none,none,[],none,some (.int .i64 0),some [0],false,false,some .i64,true⟩),
 (37,⟨1,24,false,some (46),none,[],none,some (.sl [] .nil),none,false,false,none,true⟩),
 (40,⟨1,24,false,some (82),none,[],none,some (.sl [] .nil),none,false,false,none,true⟩),
 (42,⟨1,24,true,none,none,[some (0,40)],some [(0,1)],some (.agg [.sl [] .nil]),none,false,false,none,true⟩),
 (44,⟨3,24,true,none,none,[some (0,3),some (1,3),some (2,3)],some [(0,1),(1,1),(2,1)],some (.agg [.int .i64 0,.int .i64 0,.int .i64 0]),some [0,0,0],false,false,none,true⟩),
 (46,⟨5,56,true,none,none,[some (0,44),some (3,3),some (4,37)],some [(0,3),(3,1),(4,1)],some (.agg [.int .i64 0,.int .i64 0,.int .i64 0,.int .i64 0,.sl [] .nil]),none,false,false,none,true⟩),
 (76,⟨1,24,false,some (25),none,[],none,some (.sl [] .nil),none,false,false,none,true⟩),
 (78,⟨5,56,true,none,none,[some (0,3),some (1,3),some (2,3),some (3,3),some (4,76)],some [(0,1),(1,1),(2,1),(3,1),(4,1)],some (.agg [.int .i64 0,.int .i64 0,.int .i64 0,.int .i64 0,.sl [] .nil]),none,false,false,none,true⟩),
 (82,⟨4,32,true,none,none,[some (0,3),some (1,44)],some [(0,1),(1,3)],some (.agg [.int .i64 0,.int .i64 0,.int .i64 0,.int .i64 0]),some [0,0,0,0],false,false,none,true⟩),
 (95,⟨1,8,false,none,none,[],none,some (.nilp),none,false,false,none,true⟩),
 (97,⟨2,32,true,none,none,[some (0,30),some (1,3)],some [(0,1),(1,1)],some (.agg [.sl [] .nil,.int .i64 0]),none,false,false,none,true⟩),
 (101,⟨1,24,false,some (109),none,[],none,some (.sl [] .nil),none,false,false,none,true⟩),
 (103,⟨6,80,true,none,none,[some (0,46),some (5,101)],some [(0,5),(5,1)],some (.agg [.int .i64 0,.int .i64 0,.int .i64 0,.int .i64 0,.sl [] .nil,.sl [] .nil]),none,false,false,none,true⟩),
 (109,⟨2,16,true,none,none,[some (0,3),some (1,3)],some [(0,1),(1,1)],some (.agg [.int .i64 0,.int .i64 0]),some [0,0],false,false,none,true⟩),
 (111,⟨1,8,false,none,none,[],none,some (.nilmap),none,false,false,none,true⟩),
 (113,⟨3,40,true,none,none,[some (0,97),some (2,111)],some [(0,2),(2,1)],some (.agg [.sl [] .nil,.int .i64 0,.nilmap]),none,false,false,none,true⟩),
 (115,⟨6,64,true,none,none,[some (0,46),some (5,4)],some [(0,5),(5,1)],some (.agg [.int .i64 0,.int .i64 0,.int .i64 0,.int .i64 0,.sl [] .nil,.bool false]),none,false,false,none,true⟩),
 (136,⟨1,24,false,some (44),none,[],none,some (.sl [] .nil),none,false,false,none,true⟩),
 (154,⟨1,8,false,none,none,[],none,some (.nilp),none,false,false,none,true⟩),
 (156,⟨2,32,true,none,none,[some (0,30),some (1,4)],some [(0,1),(1,1)],some (.agg [.sl [] .nil,.bool false]),none,false,false,none,true⟩),
 (157,⟨1,24,false,some (160),none,[],none,some (.sl [] .nil),none,false,false,none,true⟩),
 (159,⟨1,24,false,some (162),none,[],none,some (.sl [] .nil),none,false,false,none,true⟩),
 (160,⟨1,24,false,some (162),none,[],none,some (.sl [] .nil),none,false,false,none,true⟩),
 (162,⟨2,16,true,none,none,[some (0,3),some (1,3)],some [(0,1),(1,1)],some (.agg [.int .i64 0,.int .i64 0]),some [0,0],false,false,none,true⟩),
 (165,⟨1,8,false,none,none,[],none,some (.nilmap),none,false,false,none,true⟩),
 (167,⟨2,16,true,none,none,[some (0,3),some (1,3)],some [(0,1),(1,1)],some (.agg [.int .i64 0,.int .i64 0]),some [0,0],false,false,none,true⟩),
 (169,⟨1,8,false,none,none,[],none,some (.nilf),none,false,false,none,true⟩),
 (173,⟨1,8,false,none,none,[],none,some (.int .u64 0),some [0],false,false,some .u64,true⟩),
 (178,⟨4,32,true,none,none,[some (0,3),some (1,3),some (2,3),some (3,3)],some [(0,1),(1,1),(2,1),(3,1)],some (.agg [.int .i64 0,.int .i64 0,.int .i64 0,.int .i64 0]),some [0,0,0,0],false,false,none,true⟩),
 (181,⟨1,24,false,some (3),none,[],none,some (.sl [] .nil),none,false,false,none,true⟩),
 (194,⟨1,24,false,some (252),none,[],none,some (.sl [] .nil),none,false,false,none,true⟩),
 (201,⟨1,24,false,some (205),none,[],none,some (.sl [] .nil),none,false,false,none,true⟩),
 (205,⟨6,80,true,none,none,[some (0,194),some (1,46)],some [(0,1),(1,5)],some (.agg [.sl [] .nil,.int .i64 0,.int .i64 0,.int .i64 0,.int .i64 0,.sl [] .nil]),none,false,false,none,true⟩),
 (207,⟨1,8,false,none,none,[],none,some (.nilmap),none,false,false,none,true⟩),
 (209,⟨1,8,false,none,none,[],none,some (.nilf),none,false,false,none,true⟩),
 (210,⟨8,64,true,none,some (8,209),[],none,some (.agg [.nilf,.nilf,.nilf,.nilf,.nilf,.nilf,.nilf,.nilf]),none,false,false,none,true⟩),
 (219,⟨6,24,true,none,none,[some (0,3),some (1,3),some (2,4),some (3,4),some (4,4),some (5,4)],some [(0,1),(1,1),(2,1),(3,1),(4,1),(5,1)],some (.agg [.int .i64 0,.int .i64 0,.bool false,.bool false,.bool false,.bool false]),some [0,0,1,1,1,1],false,false,none,true⟩),
 (220,⟨66,264,true,none,some (11,219),[],none,none,none,false,false,none,true⟩),
 (223,⟨1,8,false,none,none,[],none,some (.int .i64 0),some [0],false,false,some .i64,true⟩),
 (230,⟨1,4,false,none,none,[],none,some (.int .u32 0),some [0],false,false,some .u32,true⟩),
 (232,⟨1,8,false,none,none,[],none,some (.int .u64 0),some [0],false,false,some .u64,true⟩),
 (242,⟨1,24,false,some (30),none,[],none,some (.sl [] .nil),none,false,false,none,true⟩),
 (244,⟨1,24,true,none,none,[some (0,242)],some [(0,1)],some (.agg [.sl [] .nil]),none,false,false,none,true⟩),
 (252,⟨2,16,true,none,none,[some (0,3),some (1,3)],some [(0,1),(1,1)],some (.agg [.int .i64 0,.int .i64 0]),some [0,0],false,false,none,true⟩),
 (256,⟨1,24,false,some (194),none,[],none,some (.sl [] .nil),none,false,false,none,true⟩),
 (268,⟨1,24,false,some (5),none,[],none,some (.sl [] .nil),none,false,false,none,true⟩),
 (272,⟨1,8,false,none,none,[],none,some (.int .u64 0),some [0],false,false,some .u64,true⟩),
 (278,⟨1,24,false,some (37),none,[],none,some (.sl [] .nil),none,false,false,none,true⟩),
 (279,⟨1,24,false,some (4),none,[],none,some (.sl [] .nil),none,false,false,none,true⟩),
 (288,⟨1,24,false,some (101),none,[],none,some (.sl [] .nil),none,false,false,none,true⟩),
 (297,⟨1,8,false,none,none,[],none,some (.nilf),none,false,false,none,true⟩),
 (301,⟨1,8,false,none,none,[],none,some (.nilf),none,false,false,none,true⟩),
 (302,⟨1,24,false,some (157),none,[],none,some (.sl [] .nil),none,false,false,none,true⟩),
 (311,⟨1,8,false,none,none,[],none,some (.nilmap),none,false,false,none,true⟩),
 (314,⟨8,96,true,none,none,[some (0,244),some (1,3),some (2,78),some (7,311)],some [(0,1),(1,1),(2,5),(7,1)],some (.agg [.sl [] .nil,.int .i64 0,.int .i64 0,.int .i64 0,.int .i64 0,.int .i64 0,.sl [] .nil,.nilmap]),none,false,false,none,true⟩),
 (337,⟨1,8,false,none,none,[],none,some (.nilf),none,false,false,none,true⟩),
 (352,⟨24,24,true,none,some (24,5),[],none,some (.agg [.int .u8 0,.int .u8 0,.int .u8 0,.int .u8 0,.int .u8 0,.int .u8 0,.int .u8 0,.int .u8 0,.int .u8 0,.int .u8 0,.int .u8 0,.int .u8 0,.int .u8 0,.int .u8 0,.int .u8 0,.int .u8 0,.int .u8 0,.int .u8 0,.int .u8 0,.int .u8 0,.int .u8 0,.int .u8 0,.int .u8 0,.int .u8 0]),none,false,false,none,true⟩),
 (367,⟨20,160,true,none,some (20,232),[],none,some (.agg [.int .u64 0,.int .u64 0,.int .u64 0,.int .u64 0,.int .u64 0,.int .u64 0,.int .u64 0,.int .u64 0,.int .u64 0,.int .u64 0,.int .u64 0,.int .u64 0,.int .u64 0,.int .u64 0,.int .u64 0,.int .u64 0,.int .u64 0,.int .u64 0,.int .u64 0,.int .u64 0]),none,false,false,none,true⟩),
 (368,⟨65,65,true,none,some (65,5),[],none,none,none,false,false,none,true⟩),
 (388,⟨5,48,true,none,none,[some (0,3),some (1,3),some (2,25)],some [(0,1),(1,1),(2,3)],some (.agg [.int .i64 0,.int .i64 0,.int .i64 0,.int .i64 0,.str ⟨#[]⟩]),some [0,0,0,0,2],false,false,none,true⟩),
 (399,⟨32,32,true,none,some (32,5),[],none,some (.agg [.int .u8 0,.int .u8 0,.int .u8 0,.int .u8 0,.int .u8 0,.int .u8 0,.int .u8 0,.int .u8 0,.int .u8 0,.int .u8 0,.int .u8 0,.int .u8 0,.int .u8 0,.int .u8 0,.int .u8 0,.int .u8 0,.int .u8 0,.int .u8 0,.int .u8 0,.int .u8 0,.int .u8 0,.int .u8 0,.int .u8 0,.int .u8 0,.int .u8 0,.int .u8 0,.int .u8 0,.int .u8 0,.int .u8 0,.int .u8 0,.int .u8 0,.int .u8 0]),none,false,false,none,true⟩),
 (400,⟨64,64,true,none,some (64,5),[],none,none,none,false,false,none,true⟩),
 (407,⟨1,8,false,none,none,[],none,some (.nilf),none,false,false,none,true⟩),
 (408,⟨6,48,true,none,some (6,407),[],none,some (.agg [.nilf,.nilf,.nilf,.nilf,.nilf,.nilf]),none,false,false,none,true⟩)]
theorem okT :Gk Tryz.prog TT:=⟨tk,tk,tk,tk,tk,tk,tk,tk,tk,tk,tk,tk,tk,tk,tk,tk,tk,tk,tk,tk,tk,tk,tk,tk,tk,tk,tk,tk,tk,tk,tk,tk,tk,tk,tk,tk,tk,tk,tk,tk,tk,tk,tk,tk,tk,tk,tk,tk,tk,tk,tk,tk,tk,tk,tk,tk,tk,tk,tk,tk,tk,tk,tk,tk,tk,tk,tk,tk,tk,tk,tk,tk,tk,tk,tk,tk,trivial⟩
end Go.Ab
namespace Go.Ab
structure B3 where
 Kind:Int
 Num:Int
 Text:ByteArray
structure B1 where
 Op:Int
 cK:List B1
 Var:Int
 Field:Int
 Kind:Int
 Value:B3
structure A0 where
 Op:Int
 cK:List A0
 Typ:Int
 Var:Int
 cO:Int
 Span:Int
 cL:B1
structure B8 where
 Source:Int
 Seq:Int
 Typ:Int
 Time:Int
 Values:List B3
structure R0 where
 Time:Int
 Source:Int
 Seq:Int
structure A4 where
 Var:Int
 Ref:R0
structure T8 where
 cP:List A4
structure A2 where
 Ref:R0
 Choice:Int
 Kids:List A2
structure C9 where
 cQ:List B8
 count:Int
structure A3 where
 v:Int
 at_:Int
structure A9 where
 d:A2
 s:List A3
structure F6 where
 prover:C9
structure A6 where
 d:A2
 ok:Bool
structure Fp where
 cQ:List B8
 full:Bool
structure U8 where
 cT:Int
 at_:Int
structure G4 where
 source:Int
 seq:Int
structure B5 where
 node:Int
 first:Int
 last:Int
 outer:Int
structure P1 where
 Var:Int
 At:Int
structure Dx where
 s:List P1
 d:A2
structure J5 where
 cR:Int
 most:Int
 cN:Bool
 cond:Bool
 scope:Bool
 span:Bool
structure Jq where
 cS:List (List B8)
structure L1 where
 env:Jq
 own:Int
 event:B8
 apply:Unit
structure D8 where
 Kind:Int
 Count:Int
 Value:B3
def G6 :List J5:=[⟨0,0,true,true,false,false⟩,⟨2,64,false,false,false,false⟩,⟨2,64,false,false,false,false⟩,⟨2,64,false,false,false,false⟩,⟨1,1,false,false,false,false⟩,⟨1,1,true,true,true,false⟩,⟨1,1,false,false,true,true⟩,⟨1,1,false,true,false,false⟩,⟨2,2,false,false,false,false⟩,⟨1,1,true,true,true,false⟩,⟨1,1,false,false,true,true⟩]
end Go.Ab
namespace Go.Ab
variable [Ar]
def OE :List Int:=[5,6,7,8,10,11,12]
def OD :List V:=[.func (.func 301) [] [.eref [.func (.func 300) [] []] 0],.func (.func 302) [] [.eref [.func (.func 300) [] []] 0],.func (.func 303) [] [],.func (.func 304) [] [],.func (.func 305) [] [],.func (.func 306) [] [],.func (.func 307) [] []]
class I8 where
 eAi1:B3→V
 eAi7:B1→V
 eAh8:A0→V
 eAh5:B8→V
 eAi9:R0→V
 eAh3:A4→V
 eAk4:T8→V
 eAh4:A2→V
 eAk5:C9→V
 eAh2:A3→V
 eAk6:A9→V
 eAi5:A6→V
 eAk7:Fp→V
 eAk0:U8→V
 eAj1:G4→V
 eAi3:B5→V
 eAj7:P1→V
 eAk8:Dx→V
 eAk1:J5→V
 eAk9:Jq→V
 eAl0:L1→V
 eAl1:D8→V
 eAj0:List B8→V
 eAi8:List A2→V
 eAj2:List A3→V
 eAl2:List (List U8)→V
 eAk2:List U8→V
 eAl3:List P1→V
 eAi0:∀x,eAi1 x= .agg [.int .i64 x.Kind,.int .i64 x.Num,.str x.Text]
 eAi6:∀x,eAi7 x= .agg [.int .i64 x.Op,.sl (lst eAi7 x.cK) .ro,.int .i64 x.Var,.int .i64 x.Field,.int .i64 x.Kind,.int .i64 x.Value.Kind,.int .i64 x.Value.Num,.str x.Value.Text]
 eAh9:∀x,eAh8 x= .agg [.int .i64 x.Op,.sl (lst eAh8 x.cK) .ro,.int .i64 x.Typ,.int .i64 x.Var,.int .i64 x.cO,.int .i64 x.Span,.int .i64 x.cL.Op,.sl (lst eAi7 x.cL.cK) .ro,.int .i64 x.cL.Var,.int .i64 x.cL.Field,.int .i64 x.cL.Kind,.int .i64 x.cL.Value.Kind,.int .i64 x.cL.Value.Num,.str x.cL.Value.Text]
 eAi4:∀x,eAh5 x= .agg [.int .i64 x.Source,.int .i64 x.Seq,.int .i64 x.Typ,.int .i64 x.Time,.sl (lst eAi1 x.Values) .ro]
 eAj4:∀x,eAi9 x= .agg [.int .i64 x.Time,.int .i64 x.Source,.int .i64 x.Seq]
 eAh7:∀x,eAh3 x= .agg [.int .i64 x.Var,.int .i64 x.Ref.Time,.int .i64 x.Ref.Source,.int .i64 x.Ref.Seq]
 eAl5:∀x,eAk4 x= .agg [.sl (lst eAh3 x.cP) .ro]
 eAh6:∀x,eAh4 x= .agg [.int .i64 x.Ref.Time,.int .i64 x.Ref.Source,.int .i64 x.Ref.Seq,.int .i64 x.Choice,.sl (lst eAh4 x.Kids) .ro]
 eAl6:∀x,eAk5 x= .agg [.sl (lst eAh5 x.cQ) .ro,.int .i64 x.count]
 eAi2:∀x,eAh2 x= .agg [.int .i64 x.v,.int .i64 x.at_]
 eAl7:∀x,eAk6 x= .agg [.int .i64 x.d.Ref.Time,.int .i64 x.d.Ref.Source,.int .i64 x.d.Ref.Seq,.int .i64 x.d.Choice,.sl (lst eAh4 x.d.Kids) .ro,.sl (lst eAh2 x.s) .ro]
 eAj8:∀x,eAi5 x= .agg [.int .i64 x.d.Ref.Time,.int .i64 x.d.Ref.Source,.int .i64 x.d.Ref.Seq,.int .i64 x.d.Choice,.sl (lst eAh4 x.d.Kids) .ro,.bool x.ok]
 eAl8:∀x,eAk7 x= .agg [.sl (lst eAh5 x.cQ) .ro,.bool x.full]
 eAl9:∀x,eAk0 x= .agg [.int .i64 x.cT,.int .i64 x.at_]
 eAj5:∀x,eAj1 x= .agg [.int .i64 x.source,.int .i64 x.seq]
 eAj9:∀x,eAi3 x= .agg [.int .i64 x.node,.int .i64 x.first,.int .i64 x.last,.int .i64 x.outer]
 eAm0:∀x,eAj7 x= .agg [.int .i64 x.Var,.int .i64 x.At]
 eAm1:∀x,eAk8 x= .agg [.sl (lst eAj7 x.s) .ro,.int .i64 x.d.Ref.Time,.int .i64 x.d.Ref.Source,.int .i64 x.d.Ref.Seq,.int .i64 x.d.Choice,.sl (lst eAh4 x.d.Kids) .ro]
 eAl4:∀x,eAk1 x= .agg [.int .i64 x.cR,.int .i64 x.most,.bool x.cN,.bool x.cond,.bool x.scope,.bool x.span]
 eAm2:∀x,eAk9 x= .agg [.sl (lst eAj0 x.cS) .ro]
 eAm3:∀x,eAl0 x= .agg [.sl (lst eAj0 x.env.cS) .ro,.int .i64 x.own,.int .i64 x.event.Source,.int .i64 x.event.Seq,.int .i64 x.event.Typ,.int .i64 x.event.Time,.sl (lst eAi1 x.event.Values) .ro,.fmap OE OD]
 eAm4:∀x,eAl1 x= .agg [.int .i64 x.Kind,.int .i64 x.Count,.int .i64 x.Value.Kind,.int .i64 x.Value.Num,.str x.Value.Text]
 eAk3:∀x,eAj0 x= .sl (lst eAh5 x) .ro
 eAj3:∀x,eAi8 x= .sl (lst eAh4 x) .ro
 eAj6:∀x,eAj2 x= .sl (lst eAh2 x) .ro
 eAm5:∀x,eAl2 x= .sl (lst eAk2 x) .ro
 eAm6:∀x,eAk2 x= .sl (lst eAk0 x) .ro
 eAm7:∀x,eAl3 x= .sl (lst eAj7 x) .ro
theorem MR [I8](x:B3):(I8.eAi1 x).cells.length=3:=by rw[I8.eAi0];rfl
theorem Gn [I8](x:A0):(I8.eAh8 x).cells.length=14:=by rw[I8.eAh9];rfl
theorem MS [I8](x:B8):(I8.eAh5 x).cells.length=5:=by rw[I8.eAi4];rfl
theorem XD [I8](x:R0):(I8.eAi9 x).cells.length=3:=by rw[I8.eAj4];rfl
theorem G1 [I8](x:A4):(I8.eAh3 x).cells.length=4:=by rw[I8.eAh7];rfl
theorem M2 [I8](x:A2):(I8.eAh4 x).cells.length=5:=by rw[I8.eAh6];rfl
theorem O9 [I8](x:A3):(I8.eAh2 x).cells.length=2:=by rw[I8.eAi2];rfl
theorem Kx [I8](x:List A2):(I8.eAi8 x).cells.length=1:=by rw[I8.eAj3];rfl
variable [I8]
abbrev D6 (x:A0):List V:=[.int .i64 x.Op,.sl (lst I8.eAh8 x.cK) .ro,.int .i64 x.Typ,.int .i64 x.Var,.int .i64 x.cO,.int .i64 x.Span,.int .i64 x.cL.Op,.sl (lst I8.eAi7 x.cL.cK) .ro,.int .i64 x.cL.Var,.int .i64 x.cL.Field,.int .i64 x.cL.Kind,.int .i64 x.cL.Value.Kind,.int .i64 x.cL.Value.Num,.str x.cL.Value.Text]
abbrev B7 (x:A0):V:=.agg (D6 x)
abbrev CH (x:L1):List V:=[.sl (lst I8.eAj0 x.env.cS) .ro,.int .i64 x.own,.int .i64 x.event.Source,.int .i64 x.event.Seq,.int .i64 x.event.Typ,.int .i64 x.event.Time,.sl (lst I8.eAi1 x.event.Values) .ro,.fmap OE OD]
abbrev AE (x:L1):V:=.agg (CH x)
abbrev V4 (x:A9):List V:=[.int .i64 x.d.Ref.Time,.int .i64 x.d.Ref.Source,.int .i64 x.d.Ref.Seq,.int .i64 x.d.Choice,.sl (lst I8.eAh4 x.d.Kids) .ro,.sl (lst I8.eAh2 x.s) .ro]
abbrev C4 (x:A9):V:=.agg (V4 x)
abbrev Bw (x:B1):List V:=[.int .i64 x.Op,.sl (lst I8.eAi7 x.cK) .ro,.int .i64 x.Var,.int .i64 x.Field,.int .i64 x.Kind,.int .i64 x.Value.Kind,.int .i64 x.Value.Num,.str x.Value.Text]
abbrev W2 (x:B1):V:=.agg (Bw x)
abbrev L6 (x:A6):List V:=[.int .i64 x.d.Ref.Time,.int .i64 x.d.Ref.Source,.int .i64 x.d.Ref.Seq,.int .i64 x.d.Choice,.sl (lst I8.eAh4 x.d.Kids) .ro,.bool x.ok]
abbrev E7 (x:A6):V:=.agg (L6 x)
abbrev K3 (x:A2):List V:=[.int .i64 x.Ref.Time,.int .i64 x.Ref.Source,.int .i64 x.Ref.Seq,.int .i64 x.Choice,.sl (lst I8.eAh4 x.Kids) .ro]
abbrev C2 (x:A2):V:=.agg (K3 x)
abbrev KU (x:B8):List V:=[.int .i64 x.Source,.int .i64 x.Seq,.int .i64 x.Typ,.int .i64 x.Time,.sl (lst I8.eAi1 x.Values) .ro]
abbrev Bi (x:B8):V:=.agg (KU x)
abbrev ET (x:D8):List V:=[.int .i64 x.Kind,.int .i64 x.Count,.int .i64 x.Value.Kind,.int .i64 x.Value.Num,.str x.Value.Text]
abbrev J6 (x:D8):V:=.agg (ET x)
abbrev Dq (x:J5):List V:=[.int .i64 x.cR,.int .i64 x.most,.bool x.cN,.bool x.cond,.bool x.scope,.bool x.span]
abbrev FX (x:J5):V:=.agg (Dq x)
abbrev UQ (x:A4):List V:=[.int .i64 x.Var,.int .i64 x.Ref.Time,.int .i64 x.Ref.Source,.int .i64 x.Ref.Seq]
abbrev O8 (x:A4):V:=.agg (UQ x)
abbrev C5 (x:C9):List V:=[.sl (lst I8.eAh5 x.cQ) .ro,.int .i64 x.count]
abbrev WX (x:R0):List V:=[.int .i64 x.Time,.int .i64 x.Source,.int .i64 x.Seq]
abbrev BR (x:R0):V:=.agg (WX x)
abbrev P5 (x:B3):List V:=[.int .i64 x.Kind,.int .i64 x.Num,.str x.Text]
abbrev E0 (x:B3):V:=.agg (P5 x)
abbrev FP (x:T8):List V:=[.sl (lst I8.eAh3 x.cP) .ro]
abbrev Dy (x:T8):V:=.agg (FP x)
abbrev Ag4 (x:Jq):List V:=[.sl (lst I8.eAj0 x.cS) .ro]
abbrev SN (x:Jq):V:=.agg (Ag4 x)
abbrev Jg (x:G4):List V:=[.int .i64 x.source,.int .i64 x.seq]
abbrev II (x:G4):V:=.agg (Jg x)
abbrev W6 (x:A3):List V:=[.int .i64 x.v,.int .i64 x.at_]
abbrev L7 (x:A3):V:=.agg (W6 x)
end Go.Ab
