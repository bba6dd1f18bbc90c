/- GHTypes GHTy GHEn -/
import Derived.Test.YtmfdlklcmoklhaaGreatDoorB09
import Derived.KernelRfl
import Derived.Test.YtmfdlklcmoklhaaGreatDoorChecked
set_option linter.all false
open Go.Ab.Ar (lst)
namespace Go.Ab
open Go.RowKit Go.Proofs
set_option maxRecDepth 100000
theorem tk {t:Nat}{I:At1}(a:Fm Tryz.prog t=some I.sz:=by kernel_rfl)(b:Qb Tryz.prog t=some I.by_:=by kernel_rfl)(c:YE Tryz.prog t=some I.ag:=by kernel_rfl)(d:FN Tryz.prog t=I.sl:=by kernel_rfl)(e:arO Tryz.prog t=I.ar:=by kernel_rfl)
 (f:Ar1 Tryz.prog t 0 I.fs:=by repeat' (first|refine⟨?_,?_⟩|exact True.intro|kernel_rfl)) (g:CR I.pl (fun l=>OB Tryz.prog t=some l):=by first|exact True.intro|(show OB Tryz.prog _=some _;kernel_rfl))
 (h:CR I.ze (fun z=>IZ Tryz.prog t=some z):=by first|exact True.intro|(show IZ Tryz.prog _=some _;kernel_rfl)) (i:CR I.ek (fun k=>Hk Tryz.prog 9 t=some k):=by first|exact True.intro|(show Hk Tryz.prog 9 _=some _;kernel_rfl)) (j:Vh Tryz.prog t=I.st:=by kernel_rfl)
 (k:I.bo=true→Aj2 ((Tryz.prog).underlying t)=true:=by intro h;first|(cases h;done)|kernel_rfl) (l:CR I.ik (fun k=>(Tryz.prog).underlying t=some (.int k)):=by first|exact True.intro|(show(Tryz.prog).underlying _=some (.int _);kernel_rfl))
 (m:I.nif=true→ifO Tryz.prog t=false:=by intro h;first|(cases h;done)|kernel_rfl):AX8 Tryz.prog t I:=⟨a,b,c,d,e,f,g,h,i,j,k,l,m⟩
def TT :Ix:=[(2,⟨1,8,false,none,none,[],none,some (.int .i64 0),some [0],false,false,some .i64,true⟩),
 (3,⟨1,8,false,none,none,[],none,some (.int .i64 0),some [0],false,false,some .i64,true⟩),
 (4,⟨1,1,false,none,none,[],none,some (.bool false),some [1],false,true,none,true⟩),
 (5,⟨1,1,false,none,none,[],none,some (.int .u8 0),some [0],false,false,some .u8,true⟩),
 (9,⟨1,16,false,none,none,[],none,some (.str ⟨#[]⟩),some [2],true,false,none,true⟩),
 (22,⟨1,24,false,some (29),none,[],none,some (.sl [] .nil),none,false,false,none,true⟩),
 (23,⟨1,24,false,some (27),none,[],none,some (.sl [] .nil),none,false,false,none,true⟩),
 (25,⟨3,32,true,none,none,[some (0,3),some (1,3),some (2,9)],some [(0,1),(1,1),(2,1)],some (.agg [.int .i64 0,.int .i64 0,.str ⟨#[]⟩]),some [0,0,2],false,false,none,true⟩),
 (27,⟨8,88,true,none,none,[some (0,3),some (1,23),some (2,3),some (3,3),some (4,3),some (5,25)],some [(0,1),(1,1),(2,1),(3,1),(4,1),(5,3)],some (.agg [.int .i64 0,.sl [] .nil,.int .i64 0,.int .i64 0,.int .i64 0,.int .i64 0,.int .i64 0,.str ⟨#[]⟩]),none,false,false,none,true⟩),
 (29,⟨14,152,true,none,none,[some (0,3),some (1,22),some (2,3),some (3,3),some (4,3),some (5,3),some (6,27)],some [(0,1),(1,1),(2,1),(3,1),(4,1),(5,1),(6,8)],some (.agg [.int .i64 0,.sl [] .nil,.int .i64 0,.int .i64 0,.int .i64 0,.int .i64 0,.int .i64 0,.sl [] .nil,.int .i64 0,.int .i64 0,.int .i64 0,.int .i64 0,.int .i64 0,.str ⟨#[]⟩]),none,false,false,none,true⟩),
 (30,⟨1,24,false,some (25),none,[],none,some (.sl [] .nil),none,false,false,none,true⟩),
 (32,⟨5,56,true,none,none,[some (0,3),some (1,3),some (2,3),some (3,3),some (4,30)],some [(0,1),(1,1),(2,1),(3,1),(4,1)],some (.agg [.int .i64 0,.int .i64 0,.int .i64 0,.int .i64 0,.sl [] .nil]),none,false,false,none,true⟩),
 (33,⟨1,24,false,some (32),none,[],none,some (.sl [] .nil),none,false,false,none,true⟩),
 (35,⟨1,8,false,none,none,[],none,some (.int .i64 0),some [0],false,false,some .i64,true⟩),
 (40,⟨1,24,false,some (61),none,[],none,some (.sl [] .nil),none,false,false,none,true⟩),
 (43,⟨1,24,false,some (49),none,[],none,some (.sl [] .nil),none,false,false,none,true⟩),
 (46,⟨1,24,false,some (3),none,[],none,some (.sl [] .nil),none,false,false,none,true⟩),
 (47,⟨1,24,false,some (91),none,[],none,some (.sl [] .nil),none,false,false,none,true⟩),
 (49,⟨17,240,true,none,none,[some (0,3),some (1,3),some (2,3),some (3,3),some (4,27),some (12,46),some (13,46),some (14,23),some (15,47),some (16,46)],some [(0,1),(1,1),(2,1),(3,1),(4,8),(12,1),(13,1),(14,1),(15,1),(16,1)],some (.agg [.int .i64 0,.int .i64 0,.int .i64 0,.int .i64 0,.int .i64 0,.sl [] .nil,.int .i64 0,.int .i64 0,.int .i64 0,.int .i64 0,.int .i64 0,.str ⟨#[]⟩,.sl [] .nil,.sl [] .nil,.sl [] .nil,.sl [] .nil,.sl [] .nil]),none,false,false,none,true⟩),
 (51,⟨1,24,false,some (33),none,[],none,some (.sl [] .nil),none,false,false,none,true⟩),
 (53,⟨1,24,true,none,none,[some (0,51)],some [(0,1)],some (.agg [.sl [] .nil]),none,false,false,none,true⟩),
 (55,⟨3,24,true,none,none,[some (0,3),some (1,3),some (2,3)],some [(0,1),(1,1),(2,1)],some (.agg [.int .i64 0,.int .i64 0,.int .i64 0]),some [0,0,0],false,false,none,true⟩),
 (58,⟨4,32,true,none,none,[some (0,3),some (1,55)],some [(0,1),(1,3)],some (.agg [.int .i64 0,.int .i64 0,.int .i64 0,.int .i64 0]),some [0,0,0,0],false,false,none,true⟩),
 (59,⟨1,24,false,some (58),none,[],none,some (.sl [] .nil),none,false,false,none,true⟩),
 (61,⟨1,24,true,none,none,[some (0,59)],some [(0,1)],some (.agg [.sl [] .nil]),none,false,false,none,true⟩),
 (82,⟨1,24,false,some (86),none,[],none,some (.sl [] .nil),none,false,false,none,true⟩),
 (86,⟨11,112,true,none,none,[some (0,3),some (1,3),some (2,3),some (3,27)],some [(0,1),(1,1),(2,1),(3,8)],some (.agg [.int .i64 0,.int .i64 0,.int .i64 0,.int .i64 0,.sl [] .nil,.int .i64 0,.int .i64 0,.int .i64 0,.int .i64 0,.int .i64 0,.str ⟨#[]⟩]),none,false,false,none,true⟩),
 (91,⟨2,16,true,none,none,[some (0,3),some (1,3)],some [(0,1),(1,1)],some (.agg [.int .i64 0,.int .i64 0]),some [0,0],false,false,none,true⟩),
 (104,⟨6,24,true,none,none,[some (0,3),some (1,3),some (2,4),some (3,4),some (4,4),some (5,4)],some [(0,1),(1,1),(2,1),(3,1),(4,1),(5,1)],some (.agg [.int .i64 0,.int .i64 0,.bool false,.bool false,.bool false,.bool false]),some [0,0,1,1,1,1],false,false,none,true⟩),
 (105,⟨66,264,true,none,some (11,104),[],none,none,none,false,false,none,true⟩),
 (110,⟨1,8,false,none,none,[],none,some (.nilp),none,false,false,none,true⟩),
 (112,⟨2,32,true,none,none,[some (0,33),some (1,4)],some [(0,1),(1,1)],some (.agg [.sl [] .nil,.bool false]),none,false,false,none,true⟩),
 (113,⟨1,24,false,some (116),none,[],none,some (.sl [] .nil),none,false,false,none,true⟩),
 (115,⟨1,24,false,some (118),none,[],none,some (.sl [] .nil),none,false,false,none,true⟩),
 (116,⟨1,24,false,some (118),none,[],none,some (.sl [] .nil),none,false,false,none,true⟩),
 (118,⟨2,16,true,none,none,[some (0,3),some (1,3)],some [(0,1),(1,1)],some (.agg [.int .i64 0,.int .i64 0]),some [0,0],false,false,none,true⟩),
 (126,⟨15,160,true,none,none,[some (0,4),some (1,29)],some [(0,1),(1,14)],some (.agg [.bool false,.int .i64 0,.sl [] .nil,.int .i64 0,.int .i64 0,.int .i64 0,.int .i64 0,.int .i64 0,.sl [] .nil,.int .i64 0,.int .i64 0,.int .i64 0,.int .i64 0,.int .i64 0,.str ⟨#[]⟩]),none,false,false,none,true⟩),
 (135,⟨1,8,false,none,none,[],none,some (.nilmap),none,false,false,none,true⟩),
 (138,⟨2,16,true,none,none,[some (0,3),some (1,3)],some [(0,1),(1,1)],some (.agg [.int .i64 0,.int .i64 0]),some [0,0],false,false,none,true⟩),
 (140,⟨1,8,false,none,none,[],none,some (.nilmap),none,false,false,none,true⟩),
 (142,⟨1,8,false,none,none,[],none,some (.nilf),none,false,false,none,true⟩),
 (143,⟨8,64,true,none,some (8,142),[],none,some (.agg [.nilf,.nilf,.nilf,.nilf,.nilf,.nilf,.nilf,.nilf]),none,false,false,none,true⟩),
 (150,⟨1,8,false,none,none,[],none,some (.int .u64 0),some [0],false,false,some .u64,true⟩),
 (157,⟨1,8,false,none,none,[],none,some (.nilf),none,false,false,none,true⟩),
 (165,⟨1,24,false,some (5),none,[],none,some (.sl [] .nil),none,false,false,none,true⟩),
 (168,⟨1,8,false,none,none,[],none,some (.int .i64 0),some [0],false,false,some .i64,true⟩),
 (176,⟨1,4,false,none,none,[],none,some (.int .u32 0),some [0],false,false,some .u32,true⟩),
 (178,⟨1,8,false,none,none,[],none,some (.int .u64 0),some [0],false,false,some .u64,true⟩),
 (192,⟨1,8,false,none,none,[],none,some (.nilf),none,false,false,none,true⟩),
 (196,⟨1,8,false,none,none,[],none,some (.nilf),none,false,false,none,true⟩),
 (197,⟨1,24,false,some (113),none,[],none,some (.sl [] .nil),none,false,false,none,true⟩),
 (200,⟨1,8,false,none,none,[],none,some (.int .u64 0),some [0],false,false,some .u64,true⟩),
 (213,⟨1,24,false,some (23),none,[],none,some (.sl [] .nil),none,false,false,none,true⟩),
 (219,⟨5,48,true,none,none,[some (0,3),some (1,3),some (2,25)],some [(0,1),(1,1),(2,3)],some (.agg [.int .i64 0,.int .i64 0,.int .i64 0,.int .i64 0,.str ⟨#[]⟩]),some [0,0,0,0,2],false,false,none,true⟩),
 (232,⟨1,24,false,some (46),none,[],none,some (.sl [] .nil),none,false,false,none,true⟩),
 (234,⟨1,24,false,some (47),none,[],none,some (.sl [] .nil),none,false,false,none,true⟩),
 (246,⟨24,24,true,none,some (24,5),[],none,some (.agg [.int .u8 0,.int .u8 0,.int .u8 0,.int .u8 0,.int .u8 0,.int .u8 0,.int .u8 0,.int .u8 0,.int .u8 0,.int .u8 0,.int .u8 0,.int .u8 0,.int .u8 0,.int .u8 0,.int .u8 0,.int .u8 0,.int .u8 0,.int .u8 0,.int .u8 0,.int .u8 0,.int .u8 0,.int .u8 0,.int .u8 0,.int .u8 0]),none,false,false,none,true⟩),
 (250,⟨1,8,false,none,none,[],none,some (.nilmap),none,false,false,none,true⟩),
 (253,⟨8,96,true,none,none,[some (0,53),some (1,3),some (2,32),some (7,250)],some [(0,1),(1,1),(2,5),(7,1)],some (.agg [.sl [] .nil,.int .i64 0,.int .i64 0,.int .i64 0,.int .i64 0,.int .i64 0,.sl [] .nil,.nilmap]),none,false,false,none,true⟩),
 (258,⟨20,160,true,none,some (20,178),[],none,some (.agg [.int .u64 0,.int .u64 0,.int .u64 0,.int .u64 0,.int .u64 0,.int .u64 0,.int .u64 0,.int .u64 0,.int .u64 0,.int .u64 0,.int .u64 0,.int .u64 0,.int .u64 0,.int .u64 0,.int .u64 0,.int .u64 0,.int .u64 0,.int .u64 0,.int .u64 0,.int .u64 0]),none,false,false,none,true⟩),
 (259,⟨65,65,true,none,some (65,5),[],none,none,none,false,false,none,true⟩),
 (261,⟨1,8,false,none,none,[],none,some (.nilf),none,false,false,none,true⟩),
 (273,⟨32,32,true,none,some (32,5),[],none,some (.agg [.int .u8 0,.int .u8 0,.int .u8 0,.int .u8 0,.int .u8 0,.int .u8 0,.int .u8 0,.int .u8 0,.int .u8 0,.int .u8 0,.int .u8 0,.int .u8 0,.int .u8 0,.int .u8 0,.int .u8 0,.int .u8 0,.int .u8 0,.int .u8 0,.int .u8 0,.int .u8 0,.int .u8 0,.int .u8 0,.int .u8 0,.int .u8 0,.int .u8 0,.int .u8 0,.int .u8 0,.int .u8 0,.int .u8 0,.int .u8 0,.int .u8 0,.int .u8 0]),none,false,false,none,true⟩),
 (274,⟨64,64,true,none,some (64,5),[],none,none,none,false,false,none,true⟩),
 (284,⟨1,8,false,none,none,[],none,some (.nilf),none,false,false,none,true⟩),
 (285,⟨6,48,true,none,some (6,284),[],none,some (.agg [.nilf,.nilf,.nilf,.nilf,.nilf,.nilf]),none,false,false,none,true⟩)]
theorem okT :KP Tryz.prog TT:=⟨tk,tk,tk,tk,tk,tk,tk,tk,tk,tk,tk,tk,tk,tk,tk,tk,tk,tk,tk,tk,tk,tk,tk,tk,tk,tk,tk,tk,tk,tk,tk,tk,tk,tk,tk,tk,tk,tk,tk,tk,tk,tk,tk,tk,tk,tk,tk,tk,tk,tk,tk,tk,tk,tk,tk,tk,tk,tk,tk,tk,tk,tk,tk,tk,tk,tk,trivial⟩
end Go.Ab
namespace Go.Ab
structure A7 where
 Kind:Int
 Num:Int
 Text:ByteArray
structure B0 where
 Op:Int
 dD:List B0
 Var:Int
 Field:Int
 Kind:Int
 Value:A7
structure A0 where
 Op:Int
 dD:List A0
 Typ:Int
 Var:Int
 dG:Int
 Span:Int
 dE:B0
structure B3 where
 Source:Int
 Seq:Int
 Typ:Int
 Time:Int
 Values:List A7
structure Kb where
 Time:Int
 Source:Int
 Seq:Int
structure G7 where
 Var:Int
 Ref:Kb
structure G6 where
 dF:List G7
structure As where
 dG:Int
 Span:Int
structure D7 where
 dQ:Int
 To:Int
 Var:Int
 Typ:Int
 dE:B0
 dM:List Int
 dJ:List Int
 dH:List B0
 dN:List As
 dL:List Int
structure Cl where
 dO:List (List B3)
structure Iv where
 dG:Int
 Typ:Int
 Var:Int
 dE:B0
structure P3 where
 dK:Int
 most:Int
 typed:Bool
 cond:Bool
 scope:Bool
 span:Bool
structure B7 where
 dP:List B3
 full:Bool
structure A3 where
 dI:Int
 at_:Int
structure A6 where
 done:Bool
 p:A0
structure G0 where
 source:Int
 seq:Int
structure C6 where
 Kind:Int
 Count:Int
 Value:A7
structure S6 where
 env:Cl
 own:Int
 event:B3
 apply:Unit
def K8 :List P3:=[⟨0,0,true,true,false,false⟩,⟨2,64,false,false,false,false⟩,⟨2,64,false,false,false,false⟩,⟨2,64,false,false,false,false⟩,⟨1,1,false,false,false,false⟩,⟨1,1,true,true,true,false⟩,⟨1,1,false,false,true,true⟩,⟨1,1,false,true,false,false⟩,⟨2,2,false,false,false,false⟩,⟨1,1,true,true,true,false⟩,⟨1,1,false,false,true,true⟩]
end Go.Ab
namespace Go.Ab
variable [Ar]
def VW :List Int:=[5,6,7,8,10,11,12]
def VV :List V:=[.func (.func 208) [] [.eref [.func (.func 207) [] []] 0],.func (.func 209) [] [.eref [.func (.func 207) [] []] 0],.func (.func 210) [] [],.func (.func 211) [] [],.func (.func 212) [] [],.func (.func 213) [] [],.func (.func 214) [] []]
class L9 where
 eBe8:A7→V
 eBe5:B0→V
 eBe0:A0→V
 eBe2:B3→V
 eBh4:Kb→V
 eBf1:G7→V
 eBe4:G6→V
 eBe9:As→V
 eBf2:D7→V
 eBh5:Cl→V
 eBf7:Iv→V
 eBh3:P3→V
 eBh6:B7→V
 eBd9:A3→V
 eBh7:A6→V
 eBg2:G0→V
 eBh8:C6→V
 eBh9:S6→V
 eBg3:List B0→V
 eBf8:List B3→V
 eLI:List Int→V
 eBg5:List As→V
 eBg0:List (List A3)→V
 eBe7:List A3→V
 eBe3:∀x,eBe8 x= .agg [.int .i64 x.Kind,.int .i64 x.Num,.str x.Text]
 eBf0:∀x,eBe5 x= .agg [.int .i64 x.Op,.sl (lst eBe5 x.dD) .ro,.int .i64 x.Var,.int .i64 x.Field,.int .i64 x.Kind,.int .i64 x.Value.Kind,.int .i64 x.Value.Num,.str x.Value.Text]
 eBe1:∀x,eBe0 x= .agg [.int .i64 x.Op,.sl (lst eBe0 x.dD) .ro,.int .i64 x.Typ,.int .i64 x.Var,.int .i64 x.dG,.int .i64 x.Span,.int .i64 x.dE.Op,.sl (lst eBe5 x.dE.dD) .ro,.int .i64 x.dE.Var,.int .i64 x.dE.Field,.int .i64 x.dE.Kind,.int .i64 x.dE.Value.Kind,.int .i64 x.dE.Value.Num,.str x.dE.Value.Text]
 eBe6:∀x,eBe2 x= .agg [.int .i64 x.Source,.int .i64 x.Seq,.int .i64 x.Typ,.int .i64 x.Time,.sl (lst eBe8 x.Values) .ro]
 eBi1:∀x,eBh4 x= .agg [.int .i64 x.Time,.int .i64 x.Source,.int .i64 x.Seq]
 eBf9:∀x,eBf1 x= .agg [.int .i64 x.Var,.int .i64 x.Ref.Time,.int .i64 x.Ref.Source,.int .i64 x.Ref.Seq]
 eBf4:∀x,eBe4 x= .agg [.sl (lst eBf1 x.dF) .ro]
 eBg6:∀x,eBe9 x= .agg [.int .i64 x.dG,.int .i64 x.Span]
 eBf3:∀x,eBf2 x= .agg [.int .i64 x.dQ,.int .i64 x.To,.int .i64 x.Var,.int .i64 x.Typ,.int .i64 x.dE.Op,.sl (lst eBe5 x.dE.dD) .ro,.int .i64 x.dE.Var,.int .i64 x.dE.Field,.int .i64 x.dE.Kind,.int .i64 x.dE.Value.Kind,.int .i64 x.dE.Value.Num,.str x.dE.Value.Text,.sl (lst (V.int .i64) x.dM) .ro,.sl (lst (V.int .i64) x.dJ) .ro,.sl (lst eBe5 x.dH) .ro,.sl (lst eBe9 x.dN) .ro,.sl (lst (V.int .i64) x.dL) .ro]
 eBi2:∀x,eBh5 x= .agg [.sl (lst eBf8 x.dO) .ro]
 eBh1:∀x,eBf7 x= .agg [.int .i64 x.dG,.int .i64 x.Typ,.int .i64 x.Var,.int .i64 x.dE.Op,.sl (lst eBe5 x.dE.dD) .ro,.int .i64 x.dE.Var,.int .i64 x.dE.Field,.int .i64 x.dE.Kind,.int .i64 x.dE.Value.Kind,.int .i64 x.dE.Value.Num,.str x.dE.Value.Text]
 eBi0:∀x,eBh3 x= .agg [.int .i64 x.dK,.int .i64 x.most,.bool x.typed,.bool x.cond,.bool x.scope,.bool x.span]
 eBi3:∀x,eBh6 x= .agg [.sl (lst eBe2 x.dP) .ro,.bool x.full]
 eBf5:∀x,eBd9 x= .agg [.int .i64 x.dI,.int .i64 x.at_]
 eBi4:∀x,eBh7 x= .agg [.bool x.done,.int .i64 x.p.Op,.sl (lst eBe0 x.p.dD) .ro,.int .i64 x.p.Typ,.int .i64 x.p.Var,.int .i64 x.p.dG,.int .i64 x.p.Span,.int .i64 x.p.dE.Op,.sl (lst eBe5 x.p.dE.dD) .ro,.int .i64 x.p.dE.Var,.int .i64 x.p.dE.Field,.int .i64 x.p.dE.Kind,.int .i64 x.p.dE.Value.Kind,.int .i64 x.p.dE.Value.Num,.str x.p.dE.Value.Text]
 eBg7:∀x,eBg2 x= .agg [.int .i64 x.source,.int .i64 x.seq]
 eBi5:∀x,eBh8 x= .agg [.int .i64 x.Kind,.int .i64 x.Count,.int .i64 x.Value.Kind,.int .i64 x.Value.Num,.str x.Value.Text]
 eBi6:∀x,eBh9 x= .agg [.sl (lst eBf8 x.env.dO) .ro,.int .i64 x.own,.int .i64 x.event.Source,.int .i64 x.event.Seq,.int .i64 x.event.Typ,.int .i64 x.event.Time,.sl (lst eBe8 x.event.Values) .ro,.fmap VW VV]
 eBg8:∀x,eBg3 x= .sl (lst eBe5 x) .ro
 eBg9:∀x,eBf8 x= .sl (lst eBe2 x) .ro
 eBg1:∀x,eLI x= .sl (lst (V.int .i64) x) .ro
 eBh0:∀x,eBg5 x= .sl (lst eBe9 x) .ro
 eBh2:∀x,eBg0 x= .sl (lst eBe7 x) .ro
 eBf6:∀x,eBe7 x= .sl (lst eBd9 x) .ro
theorem MC [L9](x:A7):(L9.eBe8 x).cells.length=3:=by rw[L9.eBe3];rfl
theorem WG [L9](x:B0):(L9.eBe5 x).cells.length=8:=by rw[L9.eBf0];rfl
theorem AR [L9](x:A0):(L9.eBe0 x).cells.length=14:=by rw[L9.eBe1];rfl
theorem Ud [L9](x:B3):(L9.eBe2 x).cells.length=5:=by rw[L9.eBe6];rfl
theorem WH [L9](x:G7):(L9.eBf1 x).cells.length=4:=by rw[L9.eBf9];rfl
theorem AY [L9](x:G6):(L9.eBe4 x).cells.length=1:=by rw[L9.eBf4];rfl
theorem Uc [L9](x:As):(L9.eBe9 x).cells.length=2:=by rw[L9.eBg6];rfl
theorem Av9 [L9](x:D7):(L9.eBf2 x).cells.length=17:=by rw[L9.eBf3];rfl
theorem PA [L9](x:Iv):(L9.eBf7 x).cells.length=11:=by rw[L9.eBh1];rfl
theorem BV [L9](x:A3):(L9.eBd9 x).cells.length=2:=by rw[L9.eBf5];rfl
theorem FT [L9](x:List (List A3)):(L9.eBg0 x).cells.length=1:=by rw[L9.eBh2];rfl
theorem LE [L9](x:List A3):(L9.eBe7 x).cells.length=1:=by rw[L9.eBf6];rfl
variable [L9]
abbrev DM (x:D7):List V:=[.int .i64 x.dQ,.int .i64 x.To,.int .i64 x.Var,.int .i64 x.Typ,.int .i64 x.dE.Op,.sl (lst L9.eBe5 x.dE.dD) .ro,.int .i64 x.dE.Var,.int .i64 x.dE.Field,.int .i64 x.dE.Kind,.int .i64 x.dE.Value.Kind,.int .i64 x.dE.Value.Num,.str x.dE.Value.Text,.sl (lst (V.int .i64) x.dM) .ro,.sl (lst (V.int .i64) x.dJ) .ro,.sl (lst L9.eBe5 x.dH) .ro,.sl (lst L9.eBe9 x.dN) .ro,.sl (lst (V.int .i64) x.dL) .ro]
abbrev K3 (x:D7):V:=.agg (DM x)
abbrev M8 (x:A6):List V:=[.bool x.done,.int .i64 x.p.Op,.sl (lst L9.eBe0 x.p.dD) .ro,.int .i64 x.p.Typ,.int .i64 x.p.Var,.int .i64 x.p.dG,.int .i64 x.p.Span,.int .i64 x.p.dE.Op,.sl (lst L9.eBe5 x.p.dE.dD) .ro,.int .i64 x.p.dE.Var,.int .i64 x.p.dE.Field,.int .i64 x.p.dE.Kind,.int .i64 x.p.dE.Value.Kind,.int .i64 x.p.dE.Value.Num,.str x.p.dE.Value.Text]
abbrev B8 (x:A6):V:=.agg (M8 x)
abbrev E3 (x:A0):List V:=[.int .i64 x.Op,.sl (lst L9.eBe0 x.dD) .ro,.int .i64 x.Typ,.int .i64 x.Var,.int .i64 x.dG,.int .i64 x.Span,.int .i64 x.dE.Op,.sl (lst L9.eBe5 x.dE.dD) .ro,.int .i64 x.dE.Var,.int .i64 x.dE.Field,.int .i64 x.dE.Kind,.int .i64 x.dE.Value.Kind,.int .i64 x.dE.Value.Num,.str x.dE.Value.Text]
abbrev D2 (x:A0):V:=.agg (E3 x)
abbrev Gu (x:S6):List V:=[.sl (lst L9.eBf8 x.env.dO) .ro,.int .i64 x.own,.int .i64 x.event.Source,.int .i64 x.event.Seq,.int .i64 x.event.Typ,.int .i64 x.event.Time,.sl (lst L9.eBe8 x.event.Values) .ro,.fmap VW VV]
abbrev DR (x:S6):V:=.agg (Gu x)
abbrev CO (x:B0):List V:=[.int .i64 x.Op,.sl (lst L9.eBe5 x.dD) .ro,.int .i64 x.Var,.int .i64 x.Field,.int .i64 x.Kind,.int .i64 x.Value.Kind,.int .i64 x.Value.Num,.str x.Value.Text]
abbrev V9 (x:B0):V:=.agg (CO x)
abbrev Ky (x:B3):List V:=[.int .i64 x.Source,.int .i64 x.Seq,.int .i64 x.Typ,.int .i64 x.Time,.sl (lst L9.eBe8 x.Values) .ro]
abbrev Af (x:B3):V:=.agg (Ky x)
abbrev CY (x:C6):List V:=[.int .i64 x.Kind,.int .i64 x.Count,.int .i64 x.Value.Kind,.int .i64 x.Value.Num,.str x.Value.Text]
abbrev K1 (x:C6):V:=.agg (CY x)
abbrev Hl (x:P3):List V:=[.int .i64 x.dK,.int .i64 x.most,.bool x.typed,.bool x.cond,.bool x.scope,.bool x.span]
abbrev KE (x:P3):V:=.agg (Hl x)
abbrev As6 (x:G7):List V:=[.int .i64 x.Var,.int .i64 x.Ref.Time,.int .i64 x.Ref.Source,.int .i64 x.Ref.Seq]
abbrev HD (x:G7):V:=.agg (As6 x)
abbrev AS3 (x:Kb):List V:=[.int .i64 x.Time,.int .i64 x.Source,.int .i64 x.Seq]
abbrev KF (x:Kb):V:=.agg (AS3 x)
abbrev C1 (x:B7):List V:=[.sl (lst L9.eBe2 x.dP) .ro,.bool x.full]
abbrev W1 (x:A7):List V:=[.int .i64 x.Kind,.int .i64 x.Num,.str x.Text]
abbrev E7 (x:A7):V:=.agg (W1 x)
abbrev Js (x:G6):List V:=[.sl (lst L9.eBf1 x.dF) .ro]
abbrev Kf (x:G6):V:=.agg (Js x)
abbrev Jr (x:A3):List V:=[.int .i64 x.dI,.int .i64 x.at_]
abbrev U4 (x:A3):V:=.agg (Jr x)
abbrev Yw (x:Cl):List V:=[.sl (lst L9.eBf8 x.dO) .ro]
abbrev KH (x:Cl):V:=.agg (Yw x)
abbrev Pi (x:G0):List V:=[.int .i64 x.source,.int .i64 x.seq]
abbrev Ou (x:G0):V:=.agg (Pi x)
end Go.Ab
