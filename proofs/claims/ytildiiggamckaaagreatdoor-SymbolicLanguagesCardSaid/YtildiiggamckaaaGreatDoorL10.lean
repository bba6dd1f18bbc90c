/- GLTypes GLTy GLEn -/
import Derived.Test.YtildiiggamckaaaGreatDoorL09
import Derived.KernelRfl
import Derived.Test.YtildiiggamckaaaGreatDoorChecked
set_option linter.all false
open Go.Ab.Ar (lst)
namespace Go.Ab
open Go.RowKit Go.Proofs
set_option maxRecDepth 100000
theorem tk {t:Nat}{I:YI}(a:DS Tryz.prog t=some I.sz:=by kernel_rfl)(b:Nr Tryz.prog t=some I.by_:=by kernel_rfl)(c:UW Tryz.prog t=some I.ag:=by kernel_rfl)(d:Ev Tryz.prog t=I.sl:=by kernel_rfl)(e:arO Tryz.prog t=I.ar:=by kernel_rfl)
 (f:Yq Tryz.prog t 0 I.fs:=by repeat' (first|refine⟨?_,?_⟩|exact True.intro|kernel_rfl)) (g:BF I.pl (fun l=>Mh Tryz.prog t=some l):=by first|exact True.intro|(show Mh Tryz.prog _=some _;kernel_rfl))
 (h:BF I.ze (fun z=>Hi Tryz.prog t=some z):=by first|exact True.intro|(show Hi Tryz.prog _=some _;kernel_rfl)) (i:BF I.ek (fun k=>FM Tryz.prog 9 t=some k):=by first|exact True.intro|(show FM Tryz.prog 9 _=some _;kernel_rfl)) (j:RR Tryz.prog t=I.st:=by kernel_rfl)
 (k:I.bo=true→Xu ((Tryz.prog).underlying t)=true:=by intro h;first|(cases h;done)|kernel_rfl) (l:BF I.ik (fun k=>(Tryz.prog).underlying t=some (.int k)):=by first|exact True.intro|(show(Tryz.prog).underlying _=some (.int _);kernel_rfl))
 (m:I.nif=true→ifO Tryz.prog t=false:=by intro h;first|(cases h;done)|kernel_rfl):Av1 Tryz.prog t I:=⟨a,b,c,d,e,f,g,h,i,j,k,l,m⟩
def TT :FQ:=[(3,⟨1,8,false,none,none,[],none,some (.int .i64 0),some [0],false,false,some .i64,true⟩),
 (4,⟨1,1,false,none,none,[],none,some (.bool false),some [1],false,true,none,true⟩),
 (5,⟨1,1,false,none,none,[],none,some (.int .u8 0),some [0],false,false,some .u8,true⟩),
 (9,⟨1,16,false,none,none,[],none,some (.str ⟨#[]⟩),some [2],true,false,none,true⟩),
 (22,⟨1,24,false,some (4),none,[],none,some (.sl [] .nil),none,false,false,none,true⟩),
 (23,⟨1,24,false,some (73),none,[],none,some (.sl [] .nil),none,false,false,none,true⟩),
 (25,⟨3,56,true,none,none,[some (0,3),some (1,22),some (2,23)],some [(0,1),(1,1),(2,1)],some (.agg [.int .i64 0,.sl [] .nil,.sl [] .nil]),none,false,false,none,true⟩),
 (26,⟨1,24,false,some (65),none,[],none,some (.sl [] .nil),none,false,false,none,true⟩),
 (29,⟨1,8,false,none,none,[],none,some (.int .i64 0),some [0],false,false,some .i64,true⟩),
 (37,⟨1,24,false,some (81),none,[],none,some (.sl [] .nil),none,false,false,none,true⟩),
 (38,⟨1,24,false,some (45),none,[],none,some (.sl [] .nil),none,false,false,none,true⟩),
 (39,⟨1,24,false,some (43),none,[],none,some (.sl [] .nil),none,false,false,none,true⟩),
 (41,⟨3,32,true,none,none,[some (0,3),some (1,3),some (2,9)],some [(0,1),(1,1),(2,1)],some (.agg [.int .i64 0,.int .i64 0,.str ⟨#[]⟩]),some [0,0,2],false,false,none,true⟩),
 (43,⟨8,88,true,none,none,[some (0,3),some (1,39),some (2,3),some (3,3),some (4,3),some (5,41)],some [(0,1),(1,1),(2,1),(3,1),(4,1),(5,3)],some (.agg [.int .i64 0,.sl [] .nil,.int .i64 0,.int .i64 0,.int .i64 0,.int .i64 0,.int .i64 0,.str ⟨#[]⟩]),none,false,false,none,true⟩),
 (45,⟨14,152,true,none,none,[some (0,3),some (1,38),some (2,3),some (3,3),some (4,3),some (5,3),some (6,43)],some [(0,1),(1,1),(2,1),(3,1),(4,1),(5,1),(6,8)],some (.agg [.int .i64 0,.sl [] .nil,.int .i64 0,.int .i64 0,.int .i64 0,.int .i64 0,.int .i64 0,.sl [] .nil,.int .i64 0,.int .i64 0,.int .i64 0,.int .i64 0,.int .i64 0,.str ⟨#[]⟩]),none,false,false,none,true⟩),
 (65,⟨2,16,true,none,none,[some (0,3),some (1,3)],some [(0,1),(1,1)],some (.agg [.int .i64 0,.int .i64 0]),some [0,0],false,false,none,true⟩),
 (69,⟨1,24,false,some (147),none,[],none,some (.sl [] .nil),none,false,false,none,true⟩),
 (71,⟨1,24,true,none,none,[some (0,69)],some [(0,1)],some (.agg [.sl [] .nil]),none,false,false,none,true⟩),
 (73,⟨3,40,true,none,none,[some (0,3),some (1,3),some (2,71)],some [(0,1),(1,1),(2,1)],some (.agg [.int .i64 0,.int .i64 0,.sl [] .nil]),none,false,false,none,true⟩),
 (76,⟨1,24,false,some (26),none,[],none,some (.sl [] .nil),none,false,false,none,true⟩),
 (79,⟨1,24,false,some (200),none,[],none,some (.sl [] .nil),none,false,false,none,true⟩),
 (81,⟨2,40,true,none,none,[some (0,9),some (1,79)],some [(0,1),(1,1)],some (.agg [.str ⟨#[]⟩,.sl [] .nil]),none,false,false,none,true⟩),
 (85,⟨1,8,false,none,none,[],none,some (.nilmap),none,false,false,none,true⟩),
 (98,⟨1,24,false,some (212),none,[],none,some (.sl [] .nil),none,false,false,none,true⟩),
 (99,⟨1,24,false,some (107),none,[],none,some (.sl [] .nil),none,false,false,none,true⟩),
 (101,⟨4,64,true,none,none,[some (0,3),some (1,3),some (2,98),some (3,99)],some [(0,1),(1,1),(2,1),(3,1)],some (.agg [.int .i64 0,.int .i64 0,.sl [] .nil,.sl [] .nil]),none,false,false,none,true⟩),
 (104,⟨1,24,false,some (3),none,[],none,some (.sl [] .nil),none,false,false,none,true⟩),
 (105,⟨1,24,false,some (318),none,[],none,some (.sl [] .nil),none,false,false,none,true⟩),
 (107,⟨17,240,true,none,none,[some (0,3),some (1,3),some (2,3),some (3,3),some (4,43),some (12,104),some (13,104),some (14,39),some (15,105),some (16,104)],some [(0,1),(1,1),(2,1),(3,1),(4,8),(12,1),(13,1),(14,1),(15,1),(16,1)],some (.agg [.int .i64 0,.int .i64 0,.int .i64 0,.int .i64 0,.int .i64 0,.sl [] .nil,.int .i64 0,.int .i64 0,.int .i64 0,.int .i64 0,.int .i64 0,.str ⟨#[]⟩,.sl [] .nil,.sl [] .nil,.sl [] .nil,.sl [] .nil,.sl [] .nil]),none,false,false,none,true⟩),
 (115,⟨1,8,false,none,none,[],none,some (.nilmap),none,false,false,none,true⟩),
 (118,⟨1,8,false,none,none,[],none,some (.nilf),none,false,false,none,true⟩),
 (124,⟨1,24,false,some (25),none,[],none,some (.sl [] .nil),none,false,false,none,true⟩),
 (129,⟨2,16,true,none,some (2,3),[],none,some (.agg [.int .i64 0,.int .i64 0]),none,false,false,none,true⟩),
 (130,⟨1,8,false,none,none,[],none,some (.nilmap),none,false,false,none,true⟩),
 (131,⟨1,24,false,some (129),none,[],none,some (.sl [] .nil),none,false,false,none,true⟩),
 (142,⟨1,24,false,some (23),none,[],none,some (.sl [] .nil),none,false,false,none,true⟩),
 (147,⟨1,24,false,some (149),none,[],none,some (.sl [] .nil),none,false,false,none,true⟩),
 (149,⟨2,16,true,none,none,[some (0,3),some (1,3)],some [(0,1),(1,1)],some (.agg [.int .i64 0,.int .i64 0]),some [0,0],false,false,none,true⟩),
 (158,⟨1,8,false,none,none,[],none,some (.nilmap),none,false,false,none,true⟩),
 (165,⟨1,24,false,some (168),none,[],none,some (.sl [] .nil),none,false,false,none,true⟩),
 (168,⟨2,24,true,none,none,[some (0,9),some (1,3)],some [(0,1),(1,1)],some (.agg [.str ⟨#[]⟩,.int .i64 0]),some [2,0],false,false,none,true⟩),
 (190,⟨1,8,false,none,none,[],none,some (.nilf),none,false,false,none,true⟩),
 (192,⟨1,24,false,some (22),none,[],none,some (.sl [] .nil),none,false,false,none,true⟩),
 (194,⟨1,24,false,some (71),none,[],none,some (.sl [] .nil),none,false,false,none,true⟩),
 (200,⟨2,24,true,none,none,[some (0,9),some (1,3)],some [(0,1),(1,1)],some (.agg [.str ⟨#[]⟩,.int .i64 0]),some [2,0],false,false,none,true⟩),
 (208,⟨1,24,false,some (269),none,[],none,some (.sl [] .nil),none,false,false,none,true⟩),
 (212,⟨1,24,true,none,none,[some (0,208)],some [(0,1)],some (.agg [.sl [] .nil]),none,false,false,none,true⟩),
 (216,⟨2,48,true,none,none,[some (0,37),some (1,165)],some [(0,1),(1,1)],some (.agg [.sl [] .nil,.sl [] .nil]),none,false,false,none,true⟩),
 (218,⟨1,8,false,none,none,[],none,some (.int .u64 0),some [0],false,false,some .u64,true⟩),
 (222,⟨2,16,true,none,none,[some (0,3),some (1,3)],some [(0,1),(1,1)],some (.agg [.int .i64 0,.int .i64 0]),some [0,0],false,false,none,true⟩),
 (257,⟨1,4,false,none,none,[],none,some (.int .u32 0),some [0],false,false,some .u32,true⟩),
 (260,⟨1,8,false,none,none,[],none,some (.int .u64 0),some [0],false,false,some .u64,true⟩),
 (269,⟨11,112,true,none,none,[some (0,3),some (1,3),some (2,3),some (3,43)],some [(0,1),(1,1),(2,1),(3,8)],some (.agg [.int .i64 0,.int .i64 0,.int .i64 0,.int .i64 0,.sl [] .nil,.int .i64 0,.int .i64 0,.int .i64 0,.int .i64 0,.int .i64 0,.str ⟨#[]⟩]),none,false,false,none,true⟩),
 (285,⟨15,160,true,none,none,[some (0,4),some (1,45)],some [(0,1),(1,14)],some (.agg [.bool false,.int .i64 0,.sl [] .nil,.int .i64 0,.int .i64 0,.int .i64 0,.int .i64 0,.int .i64 0,.sl [] .nil,.int .i64 0,.int .i64 0,.int .i64 0,.int .i64 0,.int .i64 0,.str ⟨#[]⟩]),none,false,false,none,true⟩),
 (293,⟨6,24,true,none,none,[some (0,3),some (1,3),some (2,4),some (3,4),some (4,4),some (5,4)],some [(0,1),(1,1),(2,1),(3,1),(4,1),(5,1)],some (.agg [.int .i64 0,.int .i64 0,.bool false,.bool false,.bool false,.bool false]),some [0,0,1,1,1,1],false,false,none,true⟩),
 (294,⟨66,264,true,none,some (11,293),[],none,none,none,false,false,none,true⟩),
 (311,⟨1,8,false,none,none,[],none,some (.nilf),none,false,false,none,true⟩),
 (318,⟨2,16,true,none,none,[some (0,3),some (1,3)],some [(0,1),(1,1)],some (.agg [.int .i64 0,.int .i64 0]),some [0,0],false,false,none,true⟩),
 (340,⟨1,8,false,none,none,[],none,some (.int .i64 0),some [0],false,false,some .i64,true⟩),
 (353,⟨1,24,false,some (39),none,[],none,some (.sl [] .nil),none,false,false,none,true⟩),
 (357,⟨1,8,false,none,none,[],none,some (.int .u64 0),some [0],false,false,some .u64,true⟩),
 (365,⟨1,24,false,some (104),none,[],none,some (.sl [] .nil),none,false,false,none,true⟩),
 (366,⟨1,24,false,some (105),none,[],none,some (.sl [] .nil),none,false,false,none,true⟩)]
theorem okT :IM Tryz.prog TT:=⟨tk,tk,tk,tk,tk,tk,tk,tk,tk,tk,tk,tk,tk,tk,tk,tk,tk,tk,tk,tk,tk,tk,tk,tk,tk,tk,tk,tk,tk,tk,tk,tk,tk,tk,tk,tk,tk,tk,tk,tk,tk,tk,tk,tk,tk,tk,tk,tk,tk,tk,tk,tk,tk,tk,tk,tk,tk,tk,tk,tk,tk,tk,tk,trivial⟩
end Go.Ab
namespace Go.Ab
structure A4 where
 Low:Int
 dC:Int
structure B3 where
 cZ:List (List A4)
structure C3 where
 cX:Int
 To:Int
 On:B3
structure A0 where
 cW:Int
 cU:List Bool
 cV:List C3
structure B8 where
 Typ:Int
 Num:Int
structure HK where
 Name:ByteArray
 Kind:Int
structure BX where
 Name:ByteArray
 Fields:List HK
structure X0 where
 Kind:Int
 Num:Int
 Text:ByteArray
structure L7 where
 Op:Int
 dA:List L7
 Var:Int
 Field:Int
 Kind:Int
 Value:X0
structure A9 where
 Op:Int
 dA:List A9
 Typ:Int
 Var:Int
 dD:Int
 Span:Int
 cY:L7
structure FW where
 dD:Int
 Typ:Int
 Var:Int
 cY:L7
structure LR where
 dM:List FW
structure BC where
 dD:Int
 Span:Int
structure D6 where
 cX:Int
 To:Int
 Var:Int
 Typ:Int
 cY:L7
 dI:List Int
 dJ:List Int
 dG:List L7
 dH:List BC
 dK:List Int
structure P1 where
 Vars:Int
 dL:Int
 dE:List LR
 dF:List D6
structure C9 where
 E0:Int
 E1:Int
structure Gb where
 a:Int
 b:Int
structure R7 where
 Name:ByteArray
 Typ:Int
structure Bm where
 types:List BX
 vars:List R7
structure G1 where
 times:Int
 plus:Int
structure Gc where
 Edge:D6
 Done:Bool
 Rest:A9
structure A5 where
 done:Bool
 p:A9
structure W9 where
 least:Int
 most:Int
 typed:Bool
 cond:Bool
 scope:Bool
 span:Bool
def R0 :List W9:=[⟨0,0,true,true,false,false⟩,⟨2,64,false,false,false,false⟩,⟨2,64,false,false,false,false⟩,⟨2,64,false,false,false,false⟩,⟨1,1,false,false,false,false⟩,⟨1,1,true,true,true,false⟩,⟨1,1,false,false,true,true⟩,⟨1,1,false,true,false,false⟩,⟨2,2,false,false,false,false⟩,⟨1,1,true,true,true,false⟩,⟨1,1,false,false,true,true⟩]
end Go.Ab
namespace Go.Ab
variable [Ar]
class K2 where
 eAA4:A4→V
 eAD8:B3→V
 eAA5:C3→V
 eAC2:A0→V
 eAA8:B8→V
 eAD2:HK→V
 eAC3:BX→V
 eAE9:X0→V
 eAB0:L7→V
 eAA6:A9→V
 eAC6:FW→V
 eAC4:LR→V
 eAB6:BC→V
 eAA7:D6→V
 eAF0:P1→V
 eAA9:C9→V
 eAF1:Gb→V
 eAB7:R7→V
 eAF2:Bm→V
 eAF3:G1→V
 eAF4:Gc→V
 eAF5:A5→V
 eAE5:W9→V
 eLB:List Bool→V
 eAC5:List C3→V
 eAE6:List B8→V
 eAD4:List L7→V
 eLI:List Int→V
 eAD6:List BC→V
 eAB2:List A4→V
 eAB5:∀x,eAA4 x= .agg [.int .i64 x.Low,.int .i64 x.dC]
 eAC8:∀x,eAD8 x= .agg [.sl (lst eAB2 x.cZ) .ro]
 eAB1:∀x,eAA5 x= .agg [.int .i64 x.cX,.int .i64 x.To,.sl (lst eAB2 x.On.cZ) .ro]
 eAC9:∀x,eAC2 x= .agg [.int .i64 x.cW,.sl (lst V.bool x.cU) .ro,.sl (lst eAA5 x.cV) .ro]
 eAB8:∀x,eAA8 x= .agg [.int .i64 x.Typ,.int .i64 x.Num]
 eAE4:∀x,eAD2 x= .agg [.str x.Name,.int .i64 x.Kind]
 eAD9:∀x,eAC3 x= .agg [.str x.Name,.sl (lst eAD2 x.Fields) .ro]
 eAF7:∀x,eAE9 x= .agg [.int .i64 x.Kind,.int .i64 x.Num,.str x.Text]
 eAB9:∀x,eAB0 x= .agg [.int .i64 x.Op,.sl (lst eAB0 x.dA) .ro,.int .i64 x.Var,.int .i64 x.Field,.int .i64 x.Kind,.int .i64 x.Value.Kind,.int .i64 x.Value.Num,.str x.Value.Text]
 eAB3:∀x,eAA6 x= .agg [.int .i64 x.Op,.sl (lst eAA6 x.dA) .ro,.int .i64 x.Typ,.int .i64 x.Var,.int .i64 x.dD,.int .i64 x.Span,.int .i64 x.cY.Op,.sl (lst eAB0 x.cY.dA) .ro,.int .i64 x.cY.Var,.int .i64 x.cY.Field,.int .i64 x.cY.Kind,.int .i64 x.cY.Value.Kind,.int .i64 x.cY.Value.Num,.str x.cY.Value.Text]
 eAE7:∀x,eAC6 x= .agg [.int .i64 x.dD,.int .i64 x.Typ,.int .i64 x.Var,.int .i64 x.cY.Op,.sl (lst eAB0 x.cY.dA) .ro,.int .i64 x.cY.Var,.int .i64 x.cY.Field,.int .i64 x.cY.Kind,.int .i64 x.cY.Value.Kind,.int .i64 x.cY.Value.Num,.str x.cY.Value.Text]
 eAE8:∀x,eAC4 x= .agg [.sl (lst eAC6 x.dM) .ro]
 eAE0:∀x,eAB6 x= .agg [.int .i64 x.dD,.int .i64 x.Span]
 eAC7:∀x,eAA7 x= .agg [.int .i64 x.cX,.int .i64 x.To,.int .i64 x.Var,.int .i64 x.Typ,.int .i64 x.cY.Op,.sl (lst eAB0 x.cY.dA) .ro,.int .i64 x.cY.Var,.int .i64 x.cY.Field,.int .i64 x.cY.Kind,.int .i64 x.cY.Value.Kind,.int .i64 x.cY.Value.Num,.str x.cY.Value.Text,.sl (lst (V.int .i64) x.dI) .ro,.sl (lst (V.int .i64) x.dJ) .ro,.sl (lst eAB0 x.dG) .ro,.sl (lst eAB6 x.dH) .ro,.sl (lst (V.int .i64) x.dK) .ro]
 eAF8:∀x,eAF0 x= .agg [.int .i64 x.Vars,.int .i64 x.dL,.sl (lst eAC4 x.dE) .ro,.sl (lst eAA7 x.dF) .ro]
 eAC0:∀x,eAA9 x= .agg [.int .i64 x.E0,.int .i64 x.E1]
 eAF9:∀x,eAF1 x= .agg [.int .i64 x.a,.int .i64 x.b]
 eAD7:∀x,eAB7 x= .agg [.str x.Name,.int .i64 x.Typ]
 eAG0:∀x,eAF2 x= .agg [.sl (lst eAC3 x.types) .ro,.sl (lst eAB7 x.vars) .ro]
 eAG1:∀x,eAF3 x= .agg [.int .i64 x.times,.int .i64 x.plus]
 eAG2:∀x,eAF4 x= .agg [.int .i64 x.Edge.cX,.int .i64 x.Edge.To,.int .i64 x.Edge.Var,.int .i64 x.Edge.Typ,.int .i64 x.Edge.cY.Op,.sl (lst eAB0 x.Edge.cY.dA) .ro,.int .i64 x.Edge.cY.Var,.int .i64 x.Edge.cY.Field,.int .i64 x.Edge.cY.Kind,.int .i64 x.Edge.cY.Value.Kind,.int .i64 x.Edge.cY.Value.Num,.str x.Edge.cY.Value.Text,.sl (lst (V.int .i64) x.Edge.dI) .ro,.sl (lst (V.int .i64) x.Edge.dJ) .ro,.sl (lst eAB0 x.Edge.dG) .ro,.sl (lst eAB6 x.Edge.dH) .ro,.sl (lst (V.int .i64) x.Edge.dK) .ro,.bool x.Done,.int .i64 x.Rest.Op,.sl (lst eAA6 x.Rest.dA) .ro,.int .i64 x.Rest.Typ,.int .i64 x.Rest.Var,.int .i64 x.Rest.dD,.int .i64 x.Rest.Span,.int .i64 x.Rest.cY.Op,.sl (lst eAB0 x.Rest.cY.dA) .ro,.int .i64 x.Rest.cY.Var,.int .i64 x.Rest.cY.Field,.int .i64 x.Rest.cY.Kind,.int .i64 x.Rest.cY.Value.Kind,.int .i64 x.Rest.cY.Value.Num,.str x.Rest.cY.Value.Text]
 eAG3:∀x,eAF5 x= .agg [.bool x.done,.int .i64 x.p.Op,.sl (lst eAA6 x.p.dA) .ro,.int .i64 x.p.Typ,.int .i64 x.p.Var,.int .i64 x.p.dD,.int .i64 x.p.Span,.int .i64 x.p.cY.Op,.sl (lst eAB0 x.p.cY.dA) .ro,.int .i64 x.p.cY.Var,.int .i64 x.p.cY.Field,.int .i64 x.p.cY.Kind,.int .i64 x.p.cY.Value.Kind,.int .i64 x.p.cY.Value.Num,.str x.p.cY.Value.Text]
 eAF6:∀x,eAE5 x= .agg [.int .i64 x.least,.int .i64 x.most,.bool x.typed,.bool x.cond,.bool x.scope,.bool x.span]
 eAD0:∀x,eLB x= .sl (lst V.bool x) .ro
 eAC1:∀x,eAC5 x= .sl (lst eAA5 x) .ro
 eAE1:∀x,eAE6 x= .sl (lst eAA8 x) .ro
 eAE2:∀x,eAD4 x= .sl (lst eAB0 x) .ro
 eAD1:∀x,eLI x= .sl (lst (V.int .i64) x) .ro
 eAE3:∀x,eAD6 x= .sl (lst eAB6 x) .ro
 eAB4:∀x,eAB2 x= .sl (lst eAA4 x) .ro
theorem Y4 [K2](x:A4):(K2.eAA4 x).cells.length=2:=by rw[K2.eAB5];rfl
theorem Ck [K2](x:C3):(K2.eAA5 x).cells.length=3:=by rw[K2.eAB1];rfl
theorem EC [K2](x:B8):(K2.eAA8 x).cells.length=2:=by rw[K2.eAB8];rfl
theorem Tj [K2](x:L7):(K2.eAB0 x).cells.length=8:=by rw[K2.eAB9];rfl
theorem Bj [K2](x:A9):(K2.eAA6 x).cells.length=14:=by rw[K2.eAB3];rfl
theorem MU [K2](x:FW):(K2.eAC6 x).cells.length=11:=by rw[K2.eAE7];rfl
theorem XD [K2](x:LR):(K2.eAC4 x).cells.length=1:=by rw[K2.eAE8];rfl
theorem QV [K2](x:BC):(K2.eAB6 x).cells.length=2:=by rw[K2.eAE0];rfl
theorem OU [K2](x:D6):(K2.eAA7 x).cells.length=17:=by rw[K2.eAC7];rfl
theorem Ti [K2](x:C9):(K2.eAA9 x).cells.length=2:=by rw[K2.eAC0];rfl
theorem RQ [K2](x:R7):(K2.eAB7 x).cells.length=2:=by rw[K2.eAD7];rfl
theorem Hu [K2](x:List A4):(K2.eAB2 x).cells.length=1:=by rw[K2.eAB4];rfl
variable [K2]
abbrev BO (x:D6):List V:=[.int .i64 x.cX,.int .i64 x.To,.int .i64 x.Var,.int .i64 x.Typ,.int .i64 x.cY.Op,.sl (lst K2.eAB0 x.cY.dA) .ro,.int .i64 x.cY.Var,.int .i64 x.cY.Field,.int .i64 x.cY.Kind,.int .i64 x.cY.Value.Kind,.int .i64 x.cY.Value.Num,.str x.cY.Value.Text,.sl (lst (V.int .i64) x.dI) .ro,.sl (lst (V.int .i64) x.dJ) .ro,.sl (lst K2.eAB0 x.dG) .ro,.sl (lst K2.eAB6 x.dH) .ro,.sl (lst (V.int .i64) x.dK) .ro]
abbrev J8 (x:D6):V:=.agg (BO x)
abbrev L6 (x:A5):List V:=[.bool x.done,.int .i64 x.p.Op,.sl (lst K2.eAA6 x.p.dA) .ro,.int .i64 x.p.Typ,.int .i64 x.p.Var,.int .i64 x.p.dD,.int .i64 x.p.Span,.int .i64 x.p.cY.Op,.sl (lst K2.eAB0 x.p.cY.dA) .ro,.int .i64 x.p.cY.Var,.int .i64 x.p.cY.Field,.int .i64 x.p.cY.Kind,.int .i64 x.p.cY.Value.Kind,.int .i64 x.p.cY.Value.Num,.str x.p.cY.Value.Text]
abbrev B7 (x:A5):V:=.agg (L6 x)
abbrev G4 (x:A9):List V:=[.int .i64 x.Op,.sl (lst K2.eAA6 x.dA) .ro,.int .i64 x.Typ,.int .i64 x.Var,.int .i64 x.dD,.int .i64 x.Span,.int .i64 x.cY.Op,.sl (lst K2.eAB0 x.cY.dA) .ro,.int .i64 x.cY.Var,.int .i64 x.cY.Field,.int .i64 x.cY.Kind,.int .i64 x.cY.Value.Kind,.int .i64 x.cY.Value.Num,.str x.cY.Value.Text]
abbrev D7 (x:A9):V:=.agg (G4 x)
abbrev EM (x:L7):List V:=[.int .i64 x.Op,.sl (lst K2.eAB0 x.dA) .ro,.int .i64 x.Var,.int .i64 x.Field,.int .i64 x.Kind,.int .i64 x.Value.Kind,.int .i64 x.Value.Num,.str x.Value.Text]
abbrev CL (x:L7):V:=.agg (EM x)
abbrev UR (x:P1):List V:=[.int .i64 x.Vars,.int .i64 x.dL,.sl (lst K2.eAC4 x.dE) .ro,.sl (lst K2.eAA7 x.dF) .ro]
abbrev NN (x:P1):V:=.agg (UR x)
abbrev FP (x:W9):List V:=[.int .i64 x.least,.int .i64 x.most,.bool x.typed,.bool x.cond,.bool x.scope,.bool x.span]
abbrev IJ (x:W9):V:=.agg (FP x)
abbrev C6 (x:A0):List V:=[.int .i64 x.cW,.sl (lst V.bool x.cU) .ro,.sl (lst K2.eAA5 x.cV) .ro]
abbrev G3 (x:A0):V:=.agg (C6 x)
abbrev MH (x:Bm):List V:=[.sl (lst K2.eAC3 x.types) .ro,.sl (lst K2.eAB7 x.vars) .ro]
abbrev LZ (x:Bm):V:=.agg (MH x)
abbrev GM (x:C3):List V:=[.int .i64 x.cX,.int .i64 x.To,.sl (lst K2.eAB2 x.On.cZ) .ro]
abbrev BL (x:C3):V:=.agg (GM x)
abbrev Ae1 (x:BX):List V:=[.str x.Name,.sl (lst K2.eAD2 x.Fields) .ro]
abbrev Te (x:BX):V:=.agg (Ae1 x)
abbrev Xt (x:X0):List V:=[.int .i64 x.Kind,.int .i64 x.Num,.str x.Text]
abbrev Ov (x:X0):V:=.agg (Xt x)
abbrev N1 (x:B3):List V:=[.sl (lst K2.eAB2 x.cZ) .ro]
abbrev F2 (x:B3):V:=.agg (N1 x)
abbrev EL (x:G1):List V:=[.int .i64 x.times,.int .i64 x.plus]
abbrev CC (x:G1):V:=.agg (EL x)
abbrev Qj (x:A4):List V:=[.int .i64 x.Low,.int .i64 x.dC]
abbrev V2 (x:A4):V:=.agg (Qj x)
abbrev U6 (x:B8):List V:=[.int .i64 x.Typ,.int .i64 x.Num]
abbrev Fq (x:B8):V:=.agg (U6 x)
abbrev Ae2 (x:C9):List V:=[.int .i64 x.E0,.int .i64 x.E1]
abbrev Ao0 (x:HK):List V:=[.str x.Name,.int .i64 x.Kind]
abbrev WB (x:HK):V:=.agg (Ao0 x)
end Go.Ab
