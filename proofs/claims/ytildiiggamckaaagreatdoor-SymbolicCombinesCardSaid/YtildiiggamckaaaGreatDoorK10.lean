/- . -/
import Derived.Test.YtildiiggamckaaaGreatDoorK09
import Derived.KernelRfl
import Derived.Test.YtildiiggamckaaaGreatDoorChecked
set_option linter.all false
open Go.Ab.Ar (lst)
namespace Go.Ab
open Go.RowKit Go.Proofs
set_option maxRecDepth 100000
def tk {t:Nat}{I:Zl}(a:Eh Tryz.prog t=some I.sz:=by kernel_rfl)(b:Ny Tryz.prog t=some I.by_:=by kernel_rfl)(c:Vq Tryz.prog t=some I.ag:=by kernel_rfl)(d:EO Tryz.prog t=I.sl:=by kernel_rfl)(e:arO Tryz.prog t=I.ar:=by kernel_rfl)
 (f:YT Tryz.prog t 0 I.fs:=by repeat' (first|refine⟨?_,?_⟩|exact True.intro|kernel_rfl)) (g:BO I.pl (fun l=>Mq Tryz.prog t=some l):=by first|exact True.intro|(show Mq Tryz.prog _=some _;kernel_rfl))
 (h:BO I.ze (fun z=>HA Tryz.prog t=some z):=by first|exact True.intro|(show HA Tryz.prog _=some _;kernel_rfl)) (i:BO I.ek (fun k=>Gi Tryz.prog 9 t=some k):=by first|exact True.intro|(show Gi Tryz.prog 9 _=some _;kernel_rfl)) (j:Sg Tryz.prog t=I.st:=by kernel_rfl)
 (k:I.bo=true→XL ((Tryz.prog).underlying t)=true:=by intro h;first|(cases h;done)|kernel_rfl) (l:BO I.ik (fun k=>(Tryz.prog).underlying t=some (.int k)):=by first|exact True.intro|(show(Tryz.prog).underlying _=some (.int _);kernel_rfl))
 (m:I.nif=true→ifO Tryz.prog t=false:=by intro h;first|(cases h;done)|kernel_rfl):Ay3 Tryz.prog t I:=⟨a,b,c,d,e,f,g,h,i,j,k,l,m⟩
def TT:FY:=[(3,⟨1,8,false,none,none,[],none,some (.int .i64 0),some [0],false,false,some .i64,true⟩),
 (4,⟨1,1,false,none,none,[],none,some (.bool false),some [1],false,true,none,true⟩),
 (5,⟨1,1,false,none,none,[],none,some (.int .u8 0),some [0],false,false,some .u8,true⟩),
 (9,⟨1,16,false,none,none,[],none,some (.str ⟨#[]⟩),some [2],true,false,none,true⟩),
 (22,⟨1,24,false,some (4),none,[],none,some (.sl [] .nil),none,false,false,none,true⟩),
 (23,⟨1,24,false,some (73),none,[],none,some (.sl [] .nil),none,false,false,none,true⟩),
 (25,⟨3,56,true,none,none,[some (0,3),some (1,22),some (2,23)],some [(0,1),(1,1),(2,1)],some (.agg [.int .i64 0,.sl [] .nil,.sl [] .nil]),none,false,false,none,true⟩),
 (26,⟨1,24,false,some (65),none,[],none,some (.sl [] .nil),none,false,false,none,true⟩),
 (29,⟨1,8,false,none,none,[],none,some (.int .i64 0),some [0],false,false,some .i64,true⟩),
 (37,⟨1,24,false,some (81),none,[],none,some (.sl [] .nil),none,false,false,none,true⟩),
 (38,⟨1,24,false,some (45),none,[],none,some (.sl [] .nil),none,false,false,none,true⟩),
 (39,⟨1,24,false,some (43),none,[],none,some (.sl [] .nil),none,false,false,none,true⟩),
 (41,⟨3,32,true,none,none,[some (0,3),some (1,3),some (2,9)],some [(0,1),(1,1),(2,1)],some (.agg [.int .i64 0,.int .i64 0,.str ⟨#[]⟩]),some [0,0,2],false,false,none,true⟩),
 (43,⟨8,88,true,none,none,[some (0,3),some (1,39),some (2,3),some (3,3),some (4,3),some (5,41)],some [(0,1),(1,1),(2,1),(3,1),(4,1),(5,3)],some (.agg [.int .i64 0,.sl [] .nil,.int .i64 0,.int .i64 0,.int .i64 0,.int .i64 0,.int .i64 0,.str ⟨#[]⟩]),none,false,false,none,true⟩),
 (45,⟨14,152,true,none,none,[some (0,3),some (1,38),some (2,3),some (3,3),some (4,3),some (5,3),some (6,43)],some [(0,1),(1,1),(2,1),(3,1),(4,1),(5,1),(6,8)],some (.agg [.int .i64 0,.sl [] .nil,.int .i64 0,.int .i64 0,.int .i64 0,.int .i64 0,.int .i64 0,.sl [] .nil,.int .i64 0,.int .i64 0,.int .i64 0,.int .i64 0,.int .i64 0,.str ⟨#[]⟩]),none,false,false,none,true⟩),
 (65,⟨2,16,true,none,none,[some (0,3),some (1,3)],some [(0,1),(1,1)],some (.agg [.int .i64 0,.int .i64 0]),some [0,0],false,false,none,true⟩),
 (69,⟨1,24,false,some (147),none,[],none,some (.sl [] .nil),none,false,false,none,true⟩),
 (71,⟨1,24,true,none,none,[some (0,69)],some [(0,1)],some (.agg [.sl [] .nil]),none,false,false,none,true⟩),
 (73,⟨3,40,true,none,none,[some (0,3),some (1,3),some (2,71)],some [(0,1),(1,1),(2,1)],some (.agg [.int .i64 0,.int .i64 0,.sl [] .nil]),none,false,false,none,true⟩),
 (76,⟨1,24,false,some (26),none,[],none,some (.sl [] .nil),none,false,false,none,true⟩),
 (79,⟨1,24,false,some (200),none,[],none,some (.sl [] .nil),none,false,false,none,true⟩),
 (81,⟨2,40,true,none,none,[some (0,9),some (1,79)],some [(0,1),(1,1)],some (.agg [.str ⟨#[]⟩,.sl [] .nil]),none,false,false,none,true⟩),
 (85,⟨1,8,false,none,none,[],none,some (.nilmap),none,false,false,none,true⟩),
 (98,⟨1,24,false,some (212),none,[],none,some (.sl [] .nil),none,false,false,none,true⟩),
 (99,⟨1,24,false,some (107),none,[],none,some (.sl [] .nil),none,false,false,none,true⟩),
 (101,⟨4,64,true,none,none,[some (0,3),some (1,3),some (2,98),some (3,99)],some [(0,1),(1,1),(2,1),(3,1)],some (.agg [.int .i64 0,.int .i64 0,.sl [] .nil,.sl [] .nil]),none,false,false,none,true⟩),
 (104,⟨1,24,false,some (3),none,[],none,some (.sl [] .nil),none,false,false,none,true⟩),
 (105,⟨1,24,false,some (318),none,[],none,some (.sl [] .nil),none,false,false,none,true⟩),
 (107,⟨17,240,true,none,none,[some (0,3),some (1,3),some (2,3),some (3,3),some (4,43),some (12,104),some (13,104),some (14,39),some (15,105),some (16,104)],some [(0,1),(1,1),(2,1),(3,1),(4,8),(12,1),(13,1),(14,1),(15,1),(16,1)],some (.agg [.int .i64 0,.int .i64 0,.int .i64 0,.int .i64 0,.int .i64 0,.sl [] .nil,.int .i64 0,.int .i64 0,.int .i64 0,.int .i64 0,.int .i64 0,.str ⟨#[]⟩,.sl [] .nil,.sl [] .nil,.sl [] .nil,.sl [] .nil,.sl [] .nil]),none,false,false,none,true⟩),
 (115,⟨1,8,false,none,none,[],none,some (.nilmap),none,false,false,none,true⟩),
 (118,⟨1,8,false,none,none,[],none,some (.nilf),none,false,false,none,true⟩),
 (124,⟨1,24,false,some (25),none,[],none,some (.sl [] .nil),none,false,false,none,true⟩),
 (129,⟨2,16,true,none,some (2,3),[],none,some (.agg [.int .i64 0,.int .i64 0]),none,false,false,none,true⟩),
 (130,⟨1,8,false,none,none,[],none,some (.nilmap),none,false,false,none,true⟩),
 (131,⟨1,24,false,some (129),none,[],none,some (.sl [] .nil),none,false,false,none,true⟩),
 (135,⟨2,16,true,none,none,[some (0,3),some (1,3)],some [(0,1),(1,1)],some (.agg [.int .i64 0,.int .i64 0]),some [0,0],false,false,none,true⟩),
 (136,⟨1,24,false,some (135),none,[],none,some (.sl [] .nil),none,false,false,none,true⟩),
 (142,⟨1,24,false,some (23),none,[],none,some (.sl [] .nil),none,false,false,none,true⟩),
 (147,⟨1,24,false,some (149),none,[],none,some (.sl [] .nil),none,false,false,none,true⟩),
 (149,⟨2,16,true,none,none,[some (0,3),some (1,3)],some [(0,1),(1,1)],some (.agg [.int .i64 0,.int .i64 0]),some [0,0],false,false,none,true⟩),
 (158,⟨1,8,false,none,none,[],none,some (.nilmap),none,false,false,none,true⟩),
 (165,⟨1,24,false,some (168),none,[],none,some (.sl [] .nil),none,false,false,none,true⟩),
 (168,⟨2,24,true,none,none,[some (0,9),some (1,3)],some [(0,1),(1,1)],some (.agg [.str ⟨#[]⟩,.int .i64 0]),some [2,0],false,false,none,true⟩),
 (190,⟨1,8,false,none,none,[],none,some (.nilf),none,false,false,none,true⟩),
 (192,⟨1,24,false,some (22),none,[],none,some (.sl [] .nil),none,false,false,none,true⟩),
 (194,⟨1,24,false,some (71),none,[],none,some (.sl [] .nil),none,false,false,none,true⟩),
 (200,⟨2,24,true,none,none,[some (0,9),some (1,3)],some [(0,1),(1,1)],some (.agg [.str ⟨#[]⟩,.int .i64 0]),some [2,0],false,false,none,true⟩),
 (208,⟨1,24,false,some (269),none,[],none,some (.sl [] .nil),none,false,false,none,true⟩),
 (212,⟨1,24,true,none,none,[some (0,208)],some [(0,1)],some (.agg [.sl [] .nil]),none,false,false,none,true⟩),
 (216,⟨2,48,true,none,none,[some (0,37),some (1,165)],some [(0,1),(1,1)],some (.agg [.sl [] .nil,.sl [] .nil]),none,false,false,none,true⟩),
 (218,⟨1,8,false,none,none,[],none,some (.int .u64 0),some [0],false,false,some .u64,true⟩),
 (222,⟨2,16,true,none,none,[some (0,3),some (1,3)],some [(0,1),(1,1)],some (.agg [.int .i64 0,.int .i64 0]),some [0,0],false,false,none,true⟩),
 (257,⟨1,4,false,none,none,[],none,some (.int .u32 0),some [0],false,false,some .u32,true⟩),
 (260,⟨1,8,false,none,none,[],none,some (.int .u64 0),some [0],false,false,some .u64,true⟩),
 (269,⟨11,112,true,none,none,[some (0,3),some (1,3),some (2,3),some (3,43)],some [(0,1),(1,1),(2,1),(3,8)],some (.agg [.int .i64 0,.int .i64 0,.int .i64 0,.int .i64 0,.sl [] .nil,.int .i64 0,.int .i64 0,.int .i64 0,.int .i64 0,.int .i64 0,.str ⟨#[]⟩]),none,false,false,none,true⟩),
 (285,⟨15,160,true,none,none,[some (0,4),some (1,45)],some [(0,1),(1,14)],some (.agg [.bool false,.int .i64 0,.sl [] .nil,.int .i64 0,.int .i64 0,.int .i64 0,.int .i64 0,.int .i64 0,.sl [] .nil,.int .i64 0,.int .i64 0,.int .i64 0,.int .i64 0,.int .i64 0,.str ⟨#[]⟩]),none,false,false,none,true⟩),
 (293,⟨6,24,true,none,none,[some (0,3),some (1,3),some (2,4),some (3,4),some (4,4),some (5,4)],some [(0,1),(1,1),(2,1),(3,1),(4,1),(5,1)],some (.agg [.int .i64 0,.int .i64 0,.bool false,.bool false,.bool false,.bool false]),some [0,0,1,1,1,1],false,false,none,true⟩),
 (294,⟨66,264,true,none,some (11,293),[],none,none,none,false,false,none,true⟩),
 (311,⟨1,8,false,none,none,[],none,some (.nilf),none,false,false,none,true⟩),
 (318,⟨2,16,true,none,none,[some (0,3),some (1,3)],some [(0,1),(1,1)],some (.agg [.int .i64 0,.int .i64 0]),some [0,0],false,false,none,true⟩),
 (340,⟨1,8,false,none,none,[],none,some (.int .i64 0),some [0],false,false,some .i64,true⟩),
 (353,⟨1,24,false,some (39),none,[],none,some (.sl [] .nil),none,false,false,none,true⟩),
 (357,⟨1,8,false,none,none,[],none,some (.int .u64 0),some [0],false,false,some .u64,true⟩),
 (365,⟨1,24,false,some (104),none,[],none,some (.sl [] .nil),none,false,false,none,true⟩),
 (366,⟨1,24,false,some (105),none,[],none,some (.sl [] .nil),none,false,false,none,true⟩)]
def okT:Jb Tryz.prog TT:=⟨tk,tk,tk,tk,tk,tk,tk,tk,tk,tk,tk,tk,tk,tk,tk,tk,tk,tk,tk,tk,tk,tk,tk,tk,tk,tk,tk,tk,tk,tk,tk,tk,tk,tk,tk,tk,tk,tk,tk,tk,tk,tk,tk,tk,tk,tk,tk,tk,tk,tk,tk,tk,tk,tk,tk,tk,tk,tk,tk,tk,tk,tk,tk,tk,tk,trivial⟩
end Go.Ab
namespace Go.Ab
structure A2 where
 Low:Int
 cZ:Int
structure B3 where
 cX:List (List A2)
structure B5 where
 cW:Int
 To:Int
 On:B3
structure A0 where
 cV:Int
 cT:List Bool
 cU:List B5
structure H9 where
 Typ:Int
 Num:Int
structure Ic where
 Name:ByteArray
 Kind:Int
structure Ch where
 Name:ByteArray
 Fields:List Ic
structure X8 where
 Kind:Int
 Num:Int
 Text:ByteArray
structure M4 where
 Op:Int
 dA:List M4
 Var:Int
 Field:Int
 Kind:Int
 Value:X8
structure B1 where
 Op:Int
 dA:List B1
 Typ:Int
 Var:Int
 dC:Int
 Span:Int
 cY:M4
structure Gq where
 dC:Int
 Typ:Int
 Var:Int
 cY:M4
structure Mc where
 dL:List Gq
structure BJ where
 dC:Int
 Span:Int
structure E4 where
 cW:Int
 To:Int
 Var:Int
 Typ:Int
 cY:M4
 dH:List Int
 dG:List Int
 dF:List M4
 dI:List BJ
 dJ:List Int
structure P7 where
 Vars:Int
 dK:Int
 dD:List Mc
 dE:List E4
structure D4 where
 E0:Int
 E1:Int
structure C2 where
 a:Int
 b:Int
structure S7 where
 Name:ByteArray
 Typ:Int
structure Bp where
 types:List Ch
 vars:List S7
structure G4 where
 times:Int
 plus:Int
structure Gv where
 Edge:E4
 Done:Bool
 Rest:B1
structure A6 where
 done:Bool
 p:B1
structure X7 where
 least:Int
 most:Int
 typed:Bool
 cond:Bool
 scope:Bool
 span:Bool
def R8:List X7:=[⟨0,0,true,true,false,false⟩,⟨2,64,false,false,false,false⟩,⟨2,64,false,false,false,false⟩,⟨2,64,false,false,false,false⟩,⟨1,1,false,false,false,false⟩,⟨1,1,true,true,true,false⟩,⟨1,1,false,false,true,true⟩,⟨1,1,false,true,false,false⟩,⟨2,2,false,false,false,false⟩,⟨1,1,true,true,true,false⟩,⟨1,1,false,false,true,true⟩]
end Go.Ab
namespace Go.Ab
variable [Ar]
class K8 where
 eAD7:A2→V
 eAH1:B3→V
 eAD6:B5→V
 eAG4:A0→V
 eAE7:H9→V
 eAG5:Ic→V
 eAF4:Ch→V
 eAI3:X8→V
 eAE4:M4→V
 eAD8:B1→V
 eAF7:Gq→V
 eAF5:Mc→V
 eAE9:BJ→V
 eAE0:E4→V
 eAI4:P7→V
 eAE1:D4→V
 eAE8:C2→V
 eAF0:S7→V
 eAI5:Bp→V
 eAI6:G4→V
 eAI7:Gv→V
 eAI8:A6→V
 eAH9:X7→V
 eLB:List Bool→V
 eAF6:List B5→V
 eAI0:List H9→V
 eAG7:List M4→V
 eLI:List Int→V
 eAG9:List BJ→V
 eAE3:List A2→V
 eAE2:∀x,eAD7 x= .agg [.int .i64 x.Low,.int .i64 x.cZ]
 eAG0:∀x,eAH1 x= .agg [.sl (lst eAE3 x.cX) .ro]
 eAD9:∀x,eAD6 x= .agg [.int .i64 x.cW,.int .i64 x.To,.sl (lst eAE3 x.On.cX) .ro]
 eAH2:∀x,eAG4 x= .agg [.int .i64 x.cV,.sl (lst V.bool x.cT) .ro,.sl (lst eAD6 x.cU) .ro]
 eAG3:∀x,eAE7 x= .agg [.int .i64 x.Typ,.int .i64 x.Num]
 eAH8:∀x,eAG5 x= .agg [.str x.Name,.int .i64 x.Kind]
 eAH3:∀x,eAF4 x= .agg [.str x.Name,.sl (lst eAG5 x.Fields) .ro]
 eAJ0:∀x,eAI3 x= .agg [.int .i64 x.Kind,.int .i64 x.Num,.str x.Text]
 eAF1:∀x,eAE4 x= .agg [.int .i64 x.Op,.sl (lst eAE4 x.dA) .ro,.int .i64 x.Var,.int .i64 x.Field,.int .i64 x.Kind,.int .i64 x.Value.Kind,.int .i64 x.Value.Num,.str x.Value.Text]
 eAE6:∀x,eAD8 x= .agg [.int .i64 x.Op,.sl (lst eAD8 x.dA) .ro,.int .i64 x.Typ,.int .i64 x.Var,.int .i64 x.dC,.int .i64 x.Span,.int .i64 x.cY.Op,.sl (lst eAE4 x.cY.dA) .ro,.int .i64 x.cY.Var,.int .i64 x.cY.Field,.int .i64 x.cY.Kind,.int .i64 x.cY.Value.Kind,.int .i64 x.cY.Value.Num,.str x.cY.Value.Text]
 eAI1:∀x,eAF7 x= .agg [.int .i64 x.dC,.int .i64 x.Typ,.int .i64 x.Var,.int .i64 x.cY.Op,.sl (lst eAE4 x.cY.dA) .ro,.int .i64 x.cY.Var,.int .i64 x.cY.Field,.int .i64 x.cY.Kind,.int .i64 x.cY.Value.Kind,.int .i64 x.cY.Value.Num,.str x.cY.Value.Text]
 eAI2:∀x,eAF5 x= .agg [.sl (lst eAF7 x.dL) .ro]
 eAH4:∀x,eAE9 x= .agg [.int .i64 x.dC,.int .i64 x.Span]
 eAF8:∀x,eAE0 x= .agg [.int .i64 x.cW,.int .i64 x.To,.int .i64 x.Var,.int .i64 x.Typ,.int .i64 x.cY.Op,.sl (lst eAE4 x.cY.dA) .ro,.int .i64 x.cY.Var,.int .i64 x.cY.Field,.int .i64 x.cY.Kind,.int .i64 x.cY.Value.Kind,.int .i64 x.cY.Value.Num,.str x.cY.Value.Text,.sl (lst (V.int .i64) x.dH) .ro,.sl (lst (V.int .i64) x.dG) .ro,.sl (lst eAE4 x.dF) .ro,.sl (lst eAE9 x.dI) .ro,.sl (lst (V.int .i64) x.dJ) .ro]
 eAJ1:∀x,eAI4 x= .agg [.int .i64 x.Vars,.int .i64 x.dK,.sl (lst eAF5 x.dD) .ro,.sl (lst eAE0 x.dE) .ro]
 eAF2:∀x,eAE1 x= .agg [.int .i64 x.E0,.int .i64 x.E1]
 eAF9:∀x,eAE8 x= .agg [.int .i64 x.a,.int .i64 x.b]
 eAH0:∀x,eAF0 x= .agg [.str x.Name,.int .i64 x.Typ]
 eAJ2:∀x,eAI5 x= .agg [.sl (lst eAF4 x.types) .ro,.sl (lst eAF0 x.vars) .ro]
 eAJ3:∀x,eAI6 x= .agg [.int .i64 x.times,.int .i64 x.plus]
 eAJ4:∀x,eAI7 x= .agg [.int .i64 x.Edge.cW,.int .i64 x.Edge.To,.int .i64 x.Edge.Var,.int .i64 x.Edge.Typ,.int .i64 x.Edge.cY.Op,.sl (lst eAE4 x.Edge.cY.dA) .ro,.int .i64 x.Edge.cY.Var,.int .i64 x.Edge.cY.Field,.int .i64 x.Edge.cY.Kind,.int .i64 x.Edge.cY.Value.Kind,.int .i64 x.Edge.cY.Value.Num,.str x.Edge.cY.Value.Text,.sl (lst (V.int .i64) x.Edge.dH) .ro,.sl (lst (V.int .i64) x.Edge.dG) .ro,.sl (lst eAE4 x.Edge.dF) .ro,.sl (lst eAE9 x.Edge.dI) .ro,.sl (lst (V.int .i64) x.Edge.dJ) .ro,.bool x.Done,.int .i64 x.Rest.Op,.sl (lst eAD8 x.Rest.dA) .ro,.int .i64 x.Rest.Typ,.int .i64 x.Rest.Var,.int .i64 x.Rest.dC,.int .i64 x.Rest.Span,.int .i64 x.Rest.cY.Op,.sl (lst eAE4 x.Rest.cY.dA) .ro,.int .i64 x.Rest.cY.Var,.int .i64 x.Rest.cY.Field,.int .i64 x.Rest.cY.Kind,.int .i64 x.Rest.cY.Value.Kind,.int .i64 x.Rest.cY.Value.Num,.str x.Rest.cY.Value.Text]
 eAJ5:∀x,eAI8 x= .agg [.bool x.done,.int .i64 x.p.Op,.sl (lst eAD8 x.p.dA) .ro,.int .i64 x.p.Typ,.int .i64 x.p.Var,.int .i64 x.p.dC,.int .i64 x.p.Span,.int .i64 x.p.cY.Op,.sl (lst eAE4 x.p.cY.dA) .ro,.int .i64 x.p.cY.Var,.int .i64 x.p.cY.Field,.int .i64 x.p.cY.Kind,.int .i64 x.p.cY.Value.Kind,.int .i64 x.p.cY.Value.Num,.str x.p.cY.Value.Text]
 eAI9:∀x,eAH9 x= .agg [.int .i64 x.least,.int .i64 x.most,.bool x.typed,.bool x.cond,.bool x.scope,.bool x.span]
 eAG1:∀x,eLB x= .sl (lst V.bool x) .ro
 eAF3:∀x,eAF6 x= .sl (lst eAD6 x) .ro
 eAH5:∀x,eAI0 x= .sl (lst eAE7 x) .ro
 eAH6:∀x,eAG7 x= .sl (lst eAE4 x) .ro
 eAG2:∀x,eLI x= .sl (lst (V.int .i64) x) .ro
 eAH7:∀x,eAG9 x= .sl (lst eAE9 x) .ro
 eAE5:∀x,eAE3 x= .sl (lst eAD7 x) .ro
def K6 [K8](x:A2):(K8.eAD7 x).cells.length=2:=by rw[K8.eAE2];rfl
def O3 [K8](x:B5):(K8.eAD6 x).cells.length=3:=by rw[K8.eAD9];rfl
def Pc [K8](x:H9):(K8.eAE7 x).cells.length=2:=by rw[K8.eAG3];rfl
def TB [K8](x:M4):(K8.eAE4 x).cells.length=8:=by rw[K8.eAF1];rfl
def Bm [K8](x:B1):(K8.eAD8 x).cells.length=14:=by rw[K8.eAE6];rfl
def Na [K8](x:Gq):(K8.eAF7 x).cells.length=11:=by rw[K8.eAI1];rfl
def XX [K8](x:Mc):(K8.eAF5 x).cells.length=1:=by rw[K8.eAI2];rfl
def Rf [K8](x:BJ):(K8.eAE9 x).cells.length=2:=by rw[K8.eAH4];rfl
def Pd [K8](x:E4):(K8.eAE0 x).cells.length=17:=by rw[K8.eAF8];rfl
def TA [K8](x:D4):(K8.eAE1 x).cells.length=2:=by rw[K8.eAF2];rfl
def Iy [K8](x:C2):(K8.eAE8 x).cells.length=2:=by rw[K8.eAF9];rfl
def Sf [K8](x:S7):(K8.eAF0 x).cells.length=2:=by rw[K8.eAH0];rfl
def Fo [K8](x:List A2):(K8.eAE3 x).cells.length=1:=by rw[K8.eAE5];rfl
variable [K8]
abbrev BY (x:E4):List V:=[.int .i64 x.cW,.int .i64 x.To,.int .i64 x.Var,.int .i64 x.Typ,.int .i64 x.cY.Op,.sl (lst K8.eAE4 x.cY.dA) .ro,.int .i64 x.cY.Var,.int .i64 x.cY.Field,.int .i64 x.cY.Kind,.int .i64 x.cY.Value.Kind,.int .i64 x.cY.Value.Num,.str x.cY.Value.Text,.sl (lst (V.int .i64) x.dH) .ro,.sl (lst (V.int .i64) x.dG) .ro,.sl (lst K8.eAE4 x.dF) .ro,.sl (lst K8.eAE9 x.dI) .ro,.sl (lst (V.int .i64) x.dJ) .ro]
abbrev K3 (x:E4):V:=.agg (BY x)
abbrev M3 (x:A6):List V:=[.bool x.done,.int .i64 x.p.Op,.sl (lst K8.eAD8 x.p.dA) .ro,.int .i64 x.p.Typ,.int .i64 x.p.Var,.int .i64 x.p.dC,.int .i64 x.p.Span,.int .i64 x.p.cY.Op,.sl (lst K8.eAE4 x.p.cY.dA) .ro,.int .i64 x.p.cY.Var,.int .i64 x.p.cY.Field,.int .i64 x.p.cY.Kind,.int .i64 x.p.cY.Value.Kind,.int .i64 x.p.cY.Value.Num,.str x.p.cY.Value.Text]
abbrev C1 (x:A6):V:=.agg (M3 x)
abbrev G7 (x:B1):List V:=[.int .i64 x.Op,.sl (lst K8.eAD8 x.dA) .ro,.int .i64 x.Typ,.int .i64 x.Var,.int .i64 x.dC,.int .i64 x.Span,.int .i64 x.cY.Op,.sl (lst K8.eAE4 x.cY.dA) .ro,.int .i64 x.cY.Var,.int .i64 x.cY.Field,.int .i64 x.cY.Kind,.int .i64 x.cY.Value.Kind,.int .i64 x.cY.Value.Num,.str x.cY.Value.Text]
abbrev E5 (x:B1):V:=.agg (G7 x)
abbrev Fi (x:M4):List V:=[.int .i64 x.Op,.sl (lst K8.eAE4 x.dA) .ro,.int .i64 x.Var,.int .i64 x.Field,.int .i64 x.Kind,.int .i64 x.Value.Kind,.int .i64 x.Value.Num,.str x.Value.Text]
abbrev Db (x:M4):V:=.agg (Fi x)
abbrev Vk (x:P7):List V:=[.int .i64 x.Vars,.int .i64 x.dK,.sl (lst K8.eAF5 x.dD) .ro,.sl (lst K8.eAE0 x.dE) .ro]
abbrev NY (x:P7):V:=.agg (Vk x)
abbrev Gl (x:X7):List V:=[.int .i64 x.least,.int .i64 x.most,.bool x.typed,.bool x.cond,.bool x.scope,.bool x.span]
abbrev IX (x:X7):V:=.agg (Gl x)
abbrev B8 (x:A0):List V:=[.int .i64 x.cV,.sl (lst V.bool x.cT) .ro,.sl (lst K8.eAD6 x.cU) .ro]
abbrev F2 (x:A0):V:=.agg (B8 x)
abbrev MP (x:Bp):List V:=[.sl (lst K8.eAF4 x.types) .ro,.sl (lst K8.eAF0 x.vars) .ro]
abbrev Mk (x:Bp):V:=.agg (MP x)
abbrev Hg (x:B5):List V:=[.int .i64 x.cW,.int .i64 x.To,.sl (lst K8.eAE3 x.On.cX) .ro]
abbrev BW (x:B5):V:=.agg (Hg x)
abbrev Ah5 (x:Ch):List V:=[.str x.Name,.sl (lst K8.eAG5 x.Fields) .ro]
abbrev Tv (x:Ch):V:=.agg (Ah5 x)
abbrev XK (x:X8):List V:=[.int .i64 x.Kind,.int .i64 x.Num,.str x.Text]
abbrev OF (x:X8):V:=.agg (XK x)
abbrev L3 (x:B3):List V:=[.sl (lst K8.eAE3 x.cX) .ro]
abbrev F3 (x:B3):V:=.agg (L3 x)
abbrev Fh (x:G4):List V:=[.int .i64 x.times,.int .i64 x.plus]
abbrev CT (x:G4):V:=.agg (Fh x)
abbrev Qx (x:A2):List V:=[.int .i64 x.Low,.int .i64 x.cZ]
abbrev V9 (x:A2):V:=.agg (Qx x)
abbrev X6 (x:H9):List V:=[.int .i64 x.Typ,.int .i64 x.Num]
abbrev JT (x:H9):V:=.agg (X6 x)
abbrev Ah6 (x:D4):List V:=[.int .i64 x.E0,.int .i64 x.E1]
abbrev Ar1 (x:Ic):List V:=[.str x.Name,.int .i64 x.Kind]
abbrev WO (x:Ic):V:=.agg (Ar1 x)
abbrev CN (x:C2):List V:=[.int .i64 x.a,.int .i64 x.b]
abbrev JS (x:C2):V:=.agg (CN x)
end Go.Ab
