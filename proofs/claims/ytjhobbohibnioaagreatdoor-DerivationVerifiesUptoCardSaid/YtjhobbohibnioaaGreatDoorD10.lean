/- GVTypes GVTy GVEn -/
import Derived.Test.YtjhobbohibnioaaGreatDoorD09
import Derived.KernelRfl
import Derived.Test.YtjhobbohibnioaaGreatDoorChecked
set_option linter.all false
open Go.Ab.Ar (lst)
namespace Go.Ab
open Go.RowKit Go.Proofs
set_option maxRecDepth 100000
theorem tk {t:Nat}{I:XH}(a:Ed Tryz.prog t=some I.sz:=by kernel_rfl)(b:Oc Tryz.prog t=some I.by_:=by kernel_rfl)(c:QT Tryz.prog t=some I.ag:=by kernel_rfl)(d:Fc Tryz.prog t=I.sl:=by kernel_rfl)(e:arO Tryz.prog t=I.ar:=by kernel_rfl)
 (f:Zu Tryz.prog t 0 I.fs:=by repeat' (first|refine⟨?_,?_⟩|exact True.intro|kernel_rfl)) (g:Bm I.pl (fun l=>Ks Tryz.prog t=some l):=by first|exact True.intro|(show Ks Tryz.prog _=some _;kernel_rfl))
 (h:Bm I.ze (fun z=>Gt Tryz.prog t=some z):=by first|exact True.intro|(show Gt Tryz.prog _=some _;kernel_rfl)) (i:Bm I.ek (fun k=>DS Tryz.prog 9 t=some k):=by first|exact True.intro|(show DS Tryz.prog 9 _=some _;kernel_rfl)) (j:PX Tryz.prog t=I.st:=by kernel_rfl)
 (k:I.bo=true→Wl ((Tryz.prog).underlying t)=true:=by intro h;first|(cases h;done)|kernel_rfl) (l:Bm I.ik (fun k=>(Tryz.prog).underlying t=some (.int k)):=by first|exact True.intro|(show(Tryz.prog).underlying _=some (.int _);kernel_rfl))
 (m:I.nif=true→ifO Tryz.prog t=false:=by intro h;first|(cases h;done)|kernel_rfl):Ap5 Tryz.prog t I:=⟨a,b,c,d,e,f,g,h,i,j,k,l,m⟩
def TT :EZ:=[(3,⟨1,8,false,none,none,[],none,some (.int .i64 0),some [0],false,false,some .i64,true⟩),
 (4,⟨1,1,false,none,none,[],none,some (.bool false),some [1],false,true,none,true⟩),
 (5,⟨1,1,false,none,none,[],none,some (.int .u8 0),some [0],false,false,some .u8,true⟩),
 (9,⟨1,16,false,none,none,[],none,some (.str ⟨#[]⟩),some [2],true,false,none,true⟩),
 (22,⟨1,24,false,some (29),none,[],none,some (.sl [] .nil),none,false,false,none,true⟩),
 (23,⟨1,24,false,some (27),none,[],none,some (.sl [] .nil),none,false,false,none,true⟩),
 (25,⟨3,32,true,none,none,[some (0,3),some (1,3),some (2,9)],some [(0,1),(1,1),(2,1)],some (.agg [.int .i64 0,.int .i64 0,.str ⟨#[]⟩]),some [0,0,2],false,false,none,true⟩),
 (27,⟨8,88,true,none,none,[some (0,3),some (1,23),some (2,3),some (3,3),some (4,3),some (5,25)],some [(0,1),(1,1),(2,1),(3,1),(4,1),(5,3)],some (.agg [.int .i64 0,.sl [] .nil,.int .i64 0,.int .i64 0,.int .i64 0,.int .i64 0,.int .i64 0,.str ⟨#[]⟩]),none,false,false,none,true⟩),
 (29,⟨14,152,true,none,none,[some (0,3),some (1,22),some (2,3),some (3,3),some (4,3),some (5,3),some (6,27)],some [(0,1),(1,1),(2,1),(3,1),(4,1),(5,1),(6,8)],some (.agg [.int .i64 0,.sl [] .nil,.int .i64 0,.int .i64 0,.int .i64 0,.int .i64 0,.int .i64 0,.sl [] .nil,.int .i64 0,.int .i64 0,.int .i64 0,.int .i64 0,.int .i64 0,.str ⟨#[]⟩]),none,false,false,none,true⟩),
 (30,⟨1,24,false,some (78),none,[],none,some (.sl [] .nil),none,false,false,none,true⟩),
 (34,⟨1,8,false,none,none,[],none,some (.int .i64 0),some [0],false,false,some .i64,true⟩),
 (37,⟨1,24,false,some (46),none,[],none,some (.sl [] .nil),none,false,false,none,true⟩),
 (40,⟨1,24,false,some (82),none,[],none,some (.sl [] .nil),none,false,false,none,true⟩),
 (42,⟨1,24,true,none,none,[some (0,40)],some [(0,1)],some (.agg [.sl [] .nil]),none,false,false,none,true⟩),
 (44,⟨3,24,true,none,none,[some (0,3),some (1,3),some (2,3)],some [(0,1),(1,1),(2,1)],some (.agg [.int .i64 0,.int .i64 0,.int .i64 0]),some [0,0,0],false,false,none,true⟩),
 (46,⟨5,56,true,none,none,[some (0,44),some (3,3),some (4,37)],some [(0,3),(3,1),(4,1)],some (.agg [.int .i64 0,.int .i64 0,.int .i64 0,.int .i64 0,.sl [] .nil]),none,false,false,none,true⟩),
 (76,⟨1,24,false,some (25),none,[],none,some (.sl [] .nil),none,false,false,none,true⟩),
 (78,⟨5,56,true,none,none,[some (0,3),some (1,3),some (2,3),some (3,3),some (4,76)],some [(0,1),(1,1),(2,1),(3,1),(4,1)],some (.agg [.int .i64 0,.int .i64 0,.int .i64 0,.int .i64 0,.sl [] .nil]),none,false,false,none,true⟩),
 (82,⟨4,32,true,none,none,[some (0,3),some (1,44)],some [(0,1),(1,3)],some (.agg [.int .i64 0,.int .i64 0,.int .i64 0,.int .i64 0]),some [0,0,0,0],false,false,none,true⟩),
 (95,⟨1,8,false,none,none,[],none,some (.nilp),none,false,false,none,true⟩),
 (97,⟨2,32,true,none,none,[some (0,30),some (1,3)],some [(0,1),(1,1)],some (.agg [.sl [] .nil,.int .i64 0]),none,false,false,none,true⟩),
 (101,⟨1,24,false,some (109),none,[],none,some (.sl [] .nil),none,false,false,none,true⟩),
 (103,⟨6,80,true,none,none,[some (0,46),some (5,101)],some [(0,5),(5,1)],some (.agg [.int .i64 0,.int .i64 0,.int .i64 0,.int .i64 0,.sl [] .nil,.sl [] .nil]),none,false,false,none,true⟩),
 (109,⟨2,16,true,none,none,[some (0,3),some (1,3)],some [(0,1),(1,1)],some (.agg [.int .i64 0,.int .i64 0]),some [0,0],false,false,none,true⟩),
 (111,⟨1,8,false,none,none,[],none,some (.nilmap),none,false,false,none,true⟩),
 (113,⟨3,40,true,none,none,[some (0,97),some (2,111)],some [(0,2),(2,1)],some (.agg [.sl [] .nil,.int .i64 0,.nilmap]),none,false,false,none,true⟩),
 (115,⟨6,64,true,none,none,[some (0,46),some (5,4)],some [(0,5),(5,1)],some (.agg [.int .i64 0,.int .i64 0,.int .i64 0,.int .i64 0,.sl [] .nil,.bool false]),none,false,false,none,true⟩),
 (136,⟨1,24,false,some (44),none,[],none,some (.sl [] .nil),none,false,false,none,true⟩),
 (165,⟨1,8,false,none,none,[],none,some (.nilmap),none,false,false,none,true⟩),
 (167,⟨2,16,true,none,none,[some (0,3),some (1,3)],some [(0,1),(1,1)],some (.agg [.int .i64 0,.int .i64 0]),some [0,0],false,false,none,true⟩),
 (169,⟨1,8,false,none,none,[],none,some (.nilf),none,false,false,none,true⟩),
 (173,⟨1,8,false,none,none,[],none,some (.int .u64 0),some [0],false,false,some .u64,true⟩),
 (178,⟨4,32,true,none,none,[some (0,3),some (1,3),some (2,3),some (3,3)],some [(0,1),(1,1),(2,1),(3,1)],some (.agg [.int .i64 0,.int .i64 0,.int .i64 0,.int .i64 0]),some [0,0,0,0],false,false,none,true⟩),
 (181,⟨1,24,false,some (3),none,[],none,some (.sl [] .nil),none,false,false,none,true⟩),
 (194,⟨1,24,false,some (252),none,[],none,some (.sl [] .nil),none,false,false,none,true⟩),
 (219,⟨6,24,true,none,none,[some (0,3),some (1,3),some (2,4),some (3,4),some (4,4),some (5,4)],some [(0,1),(1,1),(2,1),(3,1),(4,1),(5,1)],some (.agg [.int .i64 0,.int .i64 0,.bool false,.bool false,.bool false,.bool false]),some [0,0,1,1,1,1],false,false,none,true⟩),
 (220,⟨66,264,true,none,some (11,219),[],none,none,none,false,false,none,true⟩),
 (223,⟨1,8,false,none,none,[],none,some (.int .i64 0),some [0],false,false,some .i64,true⟩),
 (230,⟨1,4,false,none,none,[],none,some (.int .u32 0),some [0],false,false,some .u32,true⟩),
 (232,⟨1,8,false,none,none,[],none,some (.int .u64 0),some [0],false,false,some .u64,true⟩),
 (242,⟨1,24,false,some (30),none,[],none,some (.sl [] .nil),none,false,false,none,true⟩),
 (244,⟨1,24,true,none,none,[some (0,242)],some [(0,1)],some (.agg [.sl [] .nil]),none,false,false,none,true⟩),
 (252,⟨2,16,true,none,none,[some (0,3),some (1,3)],some [(0,1),(1,1)],some (.agg [.int .i64 0,.int .i64 0]),some [0,0],false,false,none,true⟩),
 (272,⟨1,8,false,none,none,[],none,some (.int .u64 0),some [0],false,false,some .u64,true⟩),
 (278,⟨1,24,false,some (37),none,[],none,some (.sl [] .nil),none,false,false,none,true⟩),
 (279,⟨1,24,false,some (4),none,[],none,some (.sl [] .nil),none,false,false,none,true⟩),
 (288,⟨1,24,false,some (101),none,[],none,some (.sl [] .nil),none,false,false,none,true⟩),
 (311,⟨1,8,false,none,none,[],none,some (.nilmap),none,false,false,none,true⟩),
 (314,⟨8,96,true,none,none,[some (0,244),some (1,3),some (2,78),some (7,311)],some [(0,1),(1,1),(2,5),(7,1)],some (.agg [.sl [] .nil,.int .i64 0,.int .i64 0,.int .i64 0,.int .i64 0,.int .i64 0,.sl [] .nil,.nilmap]),none,false,false,none,true⟩),
 (337,⟨1,8,false,none,none,[],none,some (.nilf),none,false,false,none,true⟩),
 (388,⟨5,48,true,none,none,[some (0,3),some (1,3),some (2,25)],some [(0,1),(1,1),(2,3)],some (.agg [.int .i64 0,.int .i64 0,.int .i64 0,.int .i64 0,.str ⟨#[]⟩]),some [0,0,0,0,2],false,false,none,true⟩),
 (407,⟨1,8,false,none,none,[],none,some (.nilf),none,false,false,none,true⟩),
 (408,⟨6,48,true,none,some (6,407),[],none,some (.agg [.nilf,.nilf,.nilf,.nilf,.nilf,.nilf]),none,false,false,none,true⟩)]
theorem okT :Hl Tryz.prog TT:=⟨tk,tk,tk,tk,tk,tk,tk,tk,tk,tk,tk,tk,tk,tk,tk,tk,tk,tk,tk,tk,tk,tk,tk,tk,tk,tk,tk,tk,tk,tk,tk,tk,tk,tk,tk,tk,tk,tk,tk,tk,tk,tk,tk,tk,tk,tk,tk,tk,tk,tk,tk,tk,tk,trivial⟩
end Go.Ab
namespace Go.Ab
structure A6 where
 Kind:Int
 Num:Int
 Text:ByteArray
structure B4 where
 Op:Int
 cK:List B4
 Var:Int
 Field:Int
 Kind:Int
 Value:A6
structure A0 where
 Op:Int
 cK:List A0
 Typ:Int
 Var:Int
 cO:Int
 Span:Int
 cL:B4
structure A9 where
 Source:Int
 Seq:Int
 Typ:Int
 Time:Int
 Values:List A6
structure O7 where
 Time:Int
 Source:Int
 Seq:Int
structure C6 where
 Var:Int
 Ref:O7
structure DV where
 cQ:List C6
structure A1 where
 Ref:O7
 Choice:Int
 Kids:List A1
structure D4 where
 cP:List A9
 count:Int
structure A3 where
 v:Int
 at_:Int
structure B3 where
 d:A1
 s:List A3
structure G2 where
 prover:D4
structure A8 where
 d:A1
 ok:Bool
structure Gs where
 cP:List A9
 full:Bool
structure V6 where
 cT:Int
 at_:Int
structure E1 where
 source:Int
 seq:Int
structure B8 where
 node:Int
 first:Int
 last:Int
 outer:Int
structure B2 where
 Var:Int
 At:Int
structure Eb where
 s:List B2
 d:A1
structure L1 where
 cR:Int
 most:Int
 cN:Bool
 cond:Bool
 scope:Bool
 span:Bool
structure AZ where
 cS:List (List A9)
structure M2 where
 env:AZ
 own:Int
 event:A9
 apply:Unit
structure C2 where
 Kind:Int
 Count:Int
 Value:A6
def H7 :List L1:=[⟨0,0,true,true,false,false⟩,⟨2,64,false,false,false,false⟩,⟨2,64,false,false,false,false⟩,⟨2,64,false,false,false,false⟩,⟨1,1,false,false,false,false⟩,⟨1,1,true,true,true,false⟩,⟨1,1,false,false,true,true⟩,⟨1,1,false,true,false,false⟩,⟨2,2,false,false,false,false⟩,⟨1,1,true,true,true,false⟩,⟨1,1,false,false,true,true⟩]
end Go.Ab
namespace Go.Ab
variable [Ar]
def QH :List Int:=[5,6,7,8,10,11,12]
def QG :List V:=[.func (.func 301) [] [.eref [.func (.func 300) [] []] 0],.func (.func 302) [] [.eref [.func (.func 300) [] []] 0],.func (.func 303) [] [],.func (.func 304) [] [],.func (.func 305) [] [],.func (.func 306) [] [],.func (.func 307) [] []]
class I8 where
 eAv4:A6→V
 eAw0:B4→V
 eAv1:A0→V
 eAu4:A9→V
 eAw3:O7→V
 eAu8:C6→V
 eAx6:DV→V
 eAu5:A1→V
 eAx7:D4→V
 eAu3:A3→V
 eAx8:B3→V
 eAv8:A8→V
 eAx9:Gs→V
 eAx3:V6→V
 eAw4:E1→V
 eAv7:B8→V
 eAu6:B2→V
 eAy0:Eb→V
 eAx4:L1→V
 eAy1:AZ→V
 eAy2:M2→V
 eAy3:C2→V
 eAw2:List A9→V
 eAw1:List A1→V
 eAw5:List A3→V
 eAy4:List (List V6)→V
 eAx5:List V6→V
 eAy5:List B2→V
 eAu9:∀x,eAv4 x= .agg [.int .i64 x.Kind,.int .i64 x.Num,.str x.Text]
 eAv9:∀x,eAw0 x= .agg [.int .i64 x.Op,.sl (lst eAw0 x.cK) .ro,.int .i64 x.Var,.int .i64 x.Field,.int .i64 x.Kind,.int .i64 x.Value.Kind,.int .i64 x.Value.Num,.str x.Value.Text]
 eAv2:∀x,eAv1 x= .agg [.int .i64 x.Op,.sl (lst eAv1 x.cK) .ro,.int .i64 x.Typ,.int .i64 x.Var,.int .i64 x.cO,.int .i64 x.Span,.int .i64 x.cL.Op,.sl (lst eAw0 x.cL.cK) .ro,.int .i64 x.cL.Var,.int .i64 x.cL.Field,.int .i64 x.cL.Kind,.int .i64 x.cL.Value.Kind,.int .i64 x.cL.Value.Num,.str x.cL.Value.Text]
 eAv0:∀x,eAu4 x= .agg [.int .i64 x.Source,.int .i64 x.Seq,.int .i64 x.Typ,.int .i64 x.Time,.sl (lst eAv4 x.Values) .ro]
 eAw7:∀x,eAw3 x= .agg [.int .i64 x.Time,.int .i64 x.Source,.int .i64 x.Seq]
 eAv5:∀x,eAu8 x= .agg [.int .i64 x.Var,.int .i64 x.Ref.Time,.int .i64 x.Ref.Source,.int .i64 x.Ref.Seq]
 eAy7:∀x,eAx6 x= .agg [.sl (lst eAu8 x.cQ) .ro]
 eAu7:∀x,eAu5 x= .agg [.int .i64 x.Ref.Time,.int .i64 x.Ref.Source,.int .i64 x.Ref.Seq,.int .i64 x.Choice,.sl (lst eAu5 x.Kids) .ro]
 eAy8:∀x,eAx7 x= .agg [.sl (lst eAu4 x.cP) .ro,.int .i64 x.count]
 eAv6:∀x,eAu3 x= .agg [.int .i64 x.v,.int .i64 x.at_]
 eAy9:∀x,eAx8 x= .agg [.int .i64 x.d.Ref.Time,.int .i64 x.d.Ref.Source,.int .i64 x.d.Ref.Seq,.int .i64 x.d.Choice,.sl (lst eAu5 x.d.Kids) .ro,.sl (lst eAu3 x.s) .ro]
 eAx1:∀x,eAv8 x= .agg [.int .i64 x.d.Ref.Time,.int .i64 x.d.Ref.Source,.int .i64 x.d.Ref.Seq,.int .i64 x.d.Choice,.sl (lst eAu5 x.d.Kids) .ro,.bool x.ok]
 eAz0:∀x,eAx9 x= .agg [.sl (lst eAu4 x.cP) .ro,.bool x.full]
 eAz1:∀x,eAx3 x= .agg [.int .i64 x.cT,.int .i64 x.at_]
 eAw8:∀x,eAw4 x= .agg [.int .i64 x.source,.int .i64 x.seq]
 eAx2:∀x,eAv7 x= .agg [.int .i64 x.node,.int .i64 x.first,.int .i64 x.last,.int .i64 x.outer]
 eAv3:∀x,eAu6 x= .agg [.int .i64 x.Var,.int .i64 x.At]
 eAz2:∀x,eAy0 x= .agg [.sl (lst eAu6 x.s) .ro,.int .i64 x.d.Ref.Time,.int .i64 x.d.Ref.Source,.int .i64 x.d.Ref.Seq,.int .i64 x.d.Choice,.sl (lst eAu5 x.d.Kids) .ro]
 eAy6:∀x,eAx4 x= .agg [.int .i64 x.cR,.int .i64 x.most,.bool x.cN,.bool x.cond,.bool x.scope,.bool x.span]
 eAz3:∀x,eAy1 x= .agg [.sl (lst eAw2 x.cS) .ro]
 eAz4:∀x,eAy2 x= .agg [.sl (lst eAw2 x.env.cS) .ro,.int .i64 x.own,.int .i64 x.event.Source,.int .i64 x.event.Seq,.int .i64 x.event.Typ,.int .i64 x.event.Time,.sl (lst eAv4 x.event.Values) .ro,.fmap QH QG]
 eAz5:∀x,eAy3 x= .agg [.int .i64 x.Kind,.int .i64 x.Count,.int .i64 x.Value.Kind,.int .i64 x.Value.Num,.str x.Value.Text]
 eAw9:∀x,eAw2 x= .sl (lst eAu4 x) .ro
 eAw6:∀x,eAw1 x= .sl (lst eAu5 x) .ro
 eAx0:∀x,eAw5 x= .sl (lst eAu3 x) .ro
 eAz6:∀x,eAy4 x= .sl (lst eAx5 x) .ro
 eAz7:∀x,eAx5 x= .sl (lst eAx3 x) .ro
 eAz8:∀x,eAy5 x= .sl (lst eAu6 x) .ro
theorem Ir [I8](x:A6):(I8.eAv4 x).cells.length=3:=by rw[I8.eAu9];rfl
theorem Ho [I8](x:A0):(I8.eAv1 x).cells.length=14:=by rw[I8.eAv2];rfl
theorem Le [I8](x:A9):(I8.eAu4 x).cells.length=5:=by rw[I8.eAv0];rfl
theorem Ab1 [I8](x:O7):(I8.eAw3 x).cells.length=3:=by rw[I8.eAw7];rfl
theorem Cn [I8](x:C6):(I8.eAu8 x).cells.length=4:=by rw[I8.eAv5];rfl
theorem N2 [I8](x:A1):(I8.eAu5 x).cells.length=5:=by rw[I8.eAu7];rfl
theorem Q1 [I8](x:A3):(I8.eAu3 x).cells.length=2:=by rw[I8.eAv6];rfl
theorem D8 [I8](x:B2):(I8.eAu6 x).cells.length=2:=by rw[I8.eAv3];rfl
theorem Mg [I8](x:List A1):(I8.eAw1 x).cells.length=1:=by rw[I8.eAw6];rfl
variable [I8]
abbrev D6 (x:A0):List V:=[.int .i64 x.Op,.sl (lst I8.eAv1 x.cK) .ro,.int .i64 x.Typ,.int .i64 x.Var,.int .i64 x.cO,.int .i64 x.Span,.int .i64 x.cL.Op,.sl (lst I8.eAw0 x.cL.cK) .ro,.int .i64 x.cL.Var,.int .i64 x.cL.Field,.int .i64 x.cL.Kind,.int .i64 x.cL.Value.Kind,.int .i64 x.cL.Value.Num,.str x.cL.Value.Text]
abbrev C0 (x:A0):V:=.agg (D6 x)
abbrev Dm (x:M2):List V:=[.sl (lst I8.eAw2 x.env.cS) .ro,.int .i64 x.own,.int .i64 x.event.Source,.int .i64 x.event.Seq,.int .i64 x.event.Typ,.int .i64 x.event.Time,.sl (lst I8.eAv4 x.event.Values) .ro,.fmap QH QG]
abbrev Bt (x:M2):V:=.agg (Dm x)
abbrev W1 (x:B3):List V:=[.int .i64 x.d.Ref.Time,.int .i64 x.d.Ref.Source,.int .i64 x.d.Ref.Seq,.int .i64 x.d.Choice,.sl (lst I8.eAu5 x.d.Kids) .ro,.sl (lst I8.eAu3 x.s) .ro]
abbrev D0 (x:B3):V:=.agg (W1 x)
abbrev Ay (x:B4):List V:=[.int .i64 x.Op,.sl (lst I8.eAw0 x.cK) .ro,.int .i64 x.Var,.int .i64 x.Field,.int .i64 x.Kind,.int .i64 x.Value.Kind,.int .i64 x.Value.Num,.str x.Value.Text]
abbrev S2 (x:B4):V:=.agg (Ay x)
abbrev M6 (x:A8):List V:=[.int .i64 x.d.Ref.Time,.int .i64 x.d.Ref.Source,.int .i64 x.d.Ref.Seq,.int .i64 x.d.Choice,.sl (lst I8.eAu5 x.d.Kids) .ro,.bool x.ok]
abbrev F5 (x:A8):V:=.agg (M6 x)
abbrev J1 (x:A1):List V:=[.int .i64 x.Ref.Time,.int .i64 x.Ref.Source,.int .i64 x.Ref.Seq,.int .i64 x.Choice,.sl (lst I8.eAu5 x.Kids) .ro]
abbrev C8 (x:A1):V:=.agg (J1 x)
abbrev KO (x:A9):List V:=[.int .i64 x.Source,.int .i64 x.Seq,.int .i64 x.Typ,.int .i64 x.Time,.sl (lst I8.eAv4 x.Values) .ro]
abbrev Q4 (x:A9):V:=.agg (KO x)
abbrev AF (x:C2):List V:=[.int .i64 x.Kind,.int .i64 x.Count,.int .i64 x.Value.Kind,.int .i64 x.Value.Num,.str x.Value.Text]
abbrev G6 (x:C2):V:=.agg (AF x)
abbrev DU (x:L1):List V:=[.int .i64 x.cR,.int .i64 x.most,.bool x.cN,.bool x.cond,.bool x.scope,.bool x.span]
abbrev GX (x:L1):V:=.agg (DU x)
abbrev XC (x:C6):List V:=[.int .i64 x.Var,.int .i64 x.Ref.Time,.int .i64 x.Ref.Source,.int .i64 x.Ref.Seq]
abbrev AE (x:C6):V:=.agg (XC x)
abbrev D1 (x:D4):List V:=[.sl (lst I8.eAu4 x.cP) .ro,.int .i64 x.count]
abbrev Wj (x:O7):List V:=[.int .i64 x.Time,.int .i64 x.Source,.int .i64 x.Seq]
abbrev Bb (x:O7):V:=.agg (Wj x)
abbrev O6 (x:A6):List V:=[.int .i64 x.Kind,.int .i64 x.Num,.str x.Text]
abbrev D7 (x:A6):V:=.agg (O6 x)
abbrev IM (x:DV):List V:=[.sl (lst I8.eAu8 x.cQ) .ro]
abbrev Gx (x:DV):V:=.agg (IM x)
abbrev Al7 (x:AZ):List V:=[.sl (lst I8.eAw2 x.cS) .ro]
abbrev Ew (x:AZ):V:=.agg (Al7 x)
abbrev KN (x:E1):List V:=[.int .i64 x.source,.int .i64 x.seq]
abbrev Kk (x:E1):V:=.agg (KN x)
abbrev X7 (x:A3):List V:=[.int .i64 x.v,.int .i64 x.at_]
abbrev L5 (x:A3):V:=.agg (X7 x)
end Go.Ab
