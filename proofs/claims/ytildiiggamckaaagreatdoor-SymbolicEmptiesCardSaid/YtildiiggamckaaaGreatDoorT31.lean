/- GYTypes GYTy GYEn -/
import Derived.Test.YtildiiggamckaaaGreatDoorT22
import Derived.KernelRfl
import Derived.Test.YtildiiggamckaaaGreatDoorChecked
import Derived.Test.YtildiiggamckaaaGreatDoorT25
import Derived.Test.YtildiiggamckaaaGreatDoorT26
set_option linter.all false
namespace Go.Ab
open Go.RowKit Go.Proofs
set_option maxRecDepth 100000
theorem tk {t : Nat} {I : Sn} (a : Bw Tryz.prog t = some I.sz := by kernel_rfl) (b : Jc Tryz.prog t = some I.by_ := by kernel_rfl) (c : MX Tryz.prog t = some I.ag := by kernel_rfl) (d : BT Tryz.prog t = I.sl := by kernel_rfl) (e : Wf Tryz.prog t = I.ar := by kernel_rfl)
 (f : TN Tryz.prog t 0 I.fs := by repeat' (first | refine ⟨?_, ?_⟩ | exact True.intro | kernel_rfl)) (g : X0 I.pl (fun l => He Tryz.prog t = some l) := by first | exact True.intro | (show He Tryz.prog _ = some _; kernel_rfl))
 (h : X0 I.ze (fun z => Er Tryz.prog t = some z) := by first | exact True.intro | (show Er Tryz.prog _ = some _; kernel_rfl)) (i : X0 I.ek (fun k => Cq Tryz.prog 9 t = some k) := by first | exact True.intro | (show Cq Tryz.prog 9 _ = some _; kernel_rfl)) (j : LZ Tryz.prog t = I.st := by kernel_rfl)
 (k : I.bo = true → QX ((Tryz.prog).underlying t) = true := by intro h; first | (cases h; done) | kernel_rfl) (l : X0 I.ik (fun k => (Tryz.prog).underlying t = some (.int k)) := by first | exact True.intro | (show (Tryz.prog).underlying _ = some (.int _); kernel_rfl))
 (m : I.nif = true → Xv Tryz.prog t = false := by intro h; first | (cases h; done) | kernel_rfl) : WR Tryz.prog t I := ⟨a, b, c, d, e, f, g, h, i, j, k, l, m⟩
def TT : Dm := [(3, ⟨1, 8, false, none, none, [], none, some (.int .i64 0), some [0], false, false, some .i64, true⟩),
 (4, ⟨1, 1, false, none, none, [], none, some (.bool false), some [1], false, true, none, true⟩),
 (5, ⟨1, 1, false, none, none, [], none, some (.int .u8 0), some [0], false, false, some .u8, true⟩),
 (9, ⟨1, 16, false, none, none, [], none, some (.str ⟨#[]⟩), some [2], true, false, none, true⟩),
 (22, ⟨1, 24, false, some (4), none, [], none, some (.sl [] .nil), none, false, false, none, true⟩),
 (23, ⟨1, 24, false, some (73), none, [], none, some (.sl [] .nil), none, false, false, none, true⟩),
 (25, ⟨3, 56, true, none, none, [some (0, 3), some (1, 22), some (2, 23)], some [(0, 1), (1, 1), (2, 1)], some (.agg [.int .i64 0, .sl [] .nil, .sl [] .nil]), none, false, false, none, true⟩),
 (26, ⟨1, 24, false, some (65), none, [], none, some (.sl [] .nil), none, false, false, none, true⟩),
 (29, ⟨1, 8, false, none, none, [], none, some (.int .i64 0), some [0], false, false, some .i64, true⟩),
 (37, ⟨1, 24, false, some (81), none, [], none, some (.sl [] .nil), none, false, false, none, true⟩),
 (38, ⟨1, 24, false, some (45), none, [], none, some (.sl [] .nil), none, false, false, none, true⟩),
 (39, ⟨1, 24, false, some (43), none, [], none, some (.sl [] .nil), none, false, false, none, true⟩),
 (41, ⟨3, 32, true, none, none, [some (0, 3), some (1, 3), some (2, 9)], some [(0, 1), (1, 1), (2, 1)], some (.agg [.int .i64 0, .int .i64 0, .str ⟨#[]⟩]), some [0, 0, 2], false, false, none, true⟩),
 (43, ⟨8, 88, true, none, none, [some (0, 3), some (1, 39), some (2, 3), some (3, 3), some (4, 3), some (5, 41)], some [(0, 1), (1, 1), (2, 1), (3, 1), (4, 1), (5, 3)], some (.agg [.int .i64 0, .sl [] .nil, .int .i64 0, .int .i64 0, .int .i64 0, .int .i64 0, .int .i64 0, .str ⟨#[]⟩]), none, false, false, none, true⟩),
 (45, ⟨14, 152, true, none, none, [some (0, 3), some (1, 38), some (2, 3), some (3, 3), some (4, 3), some (5, 3), some (6, 43)], some [(0, 1), (1, 1), (2, 1), (3, 1), (4, 1), (5, 1), (6, 8)], some (.agg [.int .i64 0, .sl [] .nil, .int .i64 0, .int .i64 0, .int .i64 0, .int .i64 0, .int .i64 0, .sl [] .nil, .int .i64 0, .int .i64 0, .int .i64 0, .int .i64 0, .int .i64 0, .str ⟨#[]⟩]), none, false, false, none, true⟩),
 (65, ⟨2, 16, true, none, none, [some (0, 3), some (1, 3)], some [(0, 1), (1, 1)], some (.agg [.int .i64 0, .int .i64 0]), some [0, 0], false, false, none, true⟩),
 (69, ⟨1, 24, false, some (147), none, [], none, some (.sl [] .nil), none, false, false, none, true⟩),
 (71, ⟨1, 24, true, none, none, [some (0, 69)], some [(0, 1)], some (.agg [.sl [] .nil]), none, false, false, none, true⟩),
 (73, ⟨3, 40, true, none, none, [some (0, 3), some (1, 3), some (2, 71)], some [(0, 1), (1, 1), (2, 1)], some (.agg [.int .i64 0, .int .i64 0, .sl [] .nil]), none, false, false, none, true⟩),
 (76, ⟨1, 24, false, some (26), none, [], none, some (.sl [] .nil), none, false, false, none, true⟩),
 (79, ⟨1, 24, false, some (200), none, [], none, some (.sl [] .nil), none, false, false, none, true⟩),
 (81, ⟨2, 40, true, none, none, [some (0, 9), some (1, 79)], some [(0, 1), (1, 1)], some (.agg [.str ⟨#[]⟩, .sl [] .nil]), none, false, false, none, true⟩),
 (85, ⟨1, 8, false, none, none, [], none, some (.nilmap), none, false, false, none, true⟩),
 (98, ⟨1, 24, false, some (212), none, [], none, some (.sl [] .nil), none, false, false, none, true⟩),
 (99, ⟨1, 24, false, some (107), none, [], none, some (.sl [] .nil), none, false, false, none, true⟩),
 (101, ⟨4, 64, true, none, none, [some (0, 3), some (1, 3), some (2, 98), some (3, 99)], some [(0, 1), (1, 1), (2, 1), (3, 1)], some (.agg [.int .i64 0, .int .i64 0, .sl [] .nil, .sl [] .nil]), none, false, false, none, true⟩),
 (104, ⟨1, 24, false, some (3), none, [], none, some (.sl [] .nil), none, false, false, none, true⟩),
 (105, ⟨1, 24, false, some (318), none, [], none, some (.sl [] .nil), none, false, false, none, true⟩),
 (107, ⟨17, 240, true, none, none, [some (0, 3), some (1, 3), some (2, 3), some (3, 3), some (4, 43), some (12, 104), some (13, 104), some (14, 39), some (15, 105), some (16, 104)], some [(0, 1), (1, 1), (2, 1), (3, 1), (4, 8), (12, 1), (13, 1), (14, 1), (15, 1), (16, 1)], some (.agg [.int .i64 0, .int .i64 0, .int .i64 0, .int .i64 0, .int .i64 0, .sl [] .nil, .int .i64 0, .int .i64 0, .int .i64 0, .int .i64 0, .int .i64 0, .str ⟨#[]⟩, .sl [] .nil, .sl [] .nil, .sl [] .nil, .sl [] .nil, .sl [] .nil]), none, false, false, none, true⟩),
 (115, ⟨1, 8, false, none, none, [], none, some (.nilmap), none, false, false, none, true⟩),
 (118, ⟨1, 8, false, none, none, [], none, some (.nilf), none, false, false, none, true⟩),
 (124, ⟨1, 24, false, some (25), none, [], none, some (.sl [] .nil), none, false, false, none, true⟩),
 (129, ⟨2, 16, true, none, some (2, 3), [], none, some (.agg [.int .i64 0, .int .i64 0]), none, false, false, none, true⟩),
 (130, ⟨1, 8, false, none, none, [], none, some (.nilmap), none, false, false, none, true⟩),
 (131, ⟨1, 24, false, some (129), none, [], none, some (.sl [] .nil), none, false, false, none, true⟩),
 (135, ⟨2, 16, true, none, none, [some (0, 3), some (1, 3)], some [(0, 1), (1, 1)], some (.agg [.int .i64 0, .int .i64 0]), some [0, 0], false, false, none, true⟩),
 (136, ⟨1, 24, false, some (135), none, [], none, some (.sl [] .nil), none, false, false, none, true⟩),
 (142, ⟨1, 24, false, some (23), none, [], none, some (.sl [] .nil), none, false, false, none, true⟩),
 (147, ⟨1, 24, false, some (149), none, [], none, some (.sl [] .nil), none, false, false, none, true⟩),
 (149, ⟨2, 16, true, none, none, [some (0, 3), some (1, 3)], some [(0, 1), (1, 1)], some (.agg [.int .i64 0, .int .i64 0]), some [0, 0], false, false, none, true⟩),
 (158, ⟨1, 8, false, none, none, [], none, some (.nilmap), none, false, false, none, true⟩),
 (165, ⟨1, 24, false, some (168), none, [], none, some (.sl [] .nil), none, false, false, none, true⟩),
 (168, ⟨2, 24, true, none, none, [some (0, 9), some (1, 3)], some [(0, 1), (1, 1)], some (.agg [.str ⟨#[]⟩, .int .i64 0]), some [2, 0], false, false, none, true⟩),
 (190, ⟨1, 8, false, none, none, [], none, some (.nilf), none, false, false, none, true⟩),
 (192, ⟨1, 24, false, some (22), none, [], none, some (.sl [] .nil), none, false, false, none, true⟩),
 (194, ⟨1, 24, false, some (71), none, [], none, some (.sl [] .nil), none, false, false, none, true⟩),
 (200, ⟨2, 24, true, none, none, [some (0, 9), some (1, 3)], some [(0, 1), (1, 1)], some (.agg [.str ⟨#[]⟩, .int .i64 0]), some [2, 0], false, false, none, true⟩),
 (208, ⟨1, 24, false, some (269), none, [], none, some (.sl [] .nil), none, false, false, none, true⟩),
 (212, ⟨1, 24, true, none, none, [some (0, 208)], some [(0, 1)], some (.agg [.sl [] .nil]), none, false, false, none, true⟩),
 (216, ⟨2, 48, true, none, none, [some (0, 37), some (1, 165)], some [(0, 1), (1, 1)], some (.agg [.sl [] .nil, .sl [] .nil]), none, false, false, none, true⟩),
 (218, ⟨1, 8, false, none, none, [], none, some (.int .u64 0), some [0], false, false, some .u64, true⟩),
 (222, ⟨2, 16, true, none, none, [some (0, 3), some (1, 3)], some [(0, 1), (1, 1)], some (.agg [.int .i64 0, .int .i64 0]), some [0, 0], false, false, none, true⟩),
 (257, ⟨1, 4, false, none, none, [], none, some (.int .u32 0), some [0], false, false, some .u32, true⟩),
 (260, ⟨1, 8, false, none, none, [], none, some (.int .u64 0), some [0], false, false, some .u64, true⟩),
 (269, ⟨11, 112, true, none, none, [some (0, 3), some (1, 3), some (2, 3), some (3, 43)], some [(0, 1), (1, 1), (2, 1), (3, 8)], some (.agg [.int .i64 0, .int .i64 0, .int .i64 0, .int .i64 0, .sl [] .nil, .int .i64 0, .int .i64 0, .int .i64 0, .int .i64 0, .int .i64 0, .str ⟨#[]⟩]), none, false, false, none, true⟩),
 (270, ⟨1, 24, false, some (273), none, [], none, some (.sl [] .nil), none, false, false, none, true⟩),
 (273, ⟨32, 400, true, none, none, [some (0, 107), some (17, 4), some (18, 45)], some [(0, 17), (17, 1), (18, 14)], some (.agg [.int .i64 0, .int .i64 0, .int .i64 0, .int .i64 0, .int .i64 0, .sl [] .nil, .int .i64 0, .int .i64 0, .int .i64 0, .int .i64 0, .int .i64 0, .str ⟨#[]⟩, .sl [] .nil, .sl [] .nil, .sl [] .nil, .sl [] .nil, .sl [] .nil, .bool false, .int .i64 0, .sl [] .nil, .int .i64 0, .int .i64 0, .int .i64 0, .int .i64 0, .int .i64 0, .sl [] .nil, .int .i64 0, .int .i64 0, .int .i64 0, .int .i64 0, .int .i64 0, .str ⟨#[]⟩]), none, false, false, none, true⟩),
 (285, ⟨15, 160, true, none, none, [some (0, 4), some (1, 45)], some [(0, 1), (1, 14)], some (.agg [.bool false, .int .i64 0, .sl [] .nil, .int .i64 0, .int .i64 0, .int .i64 0, .int .i64 0, .int .i64 0, .sl [] .nil, .int .i64 0, .int .i64 0, .int .i64 0, .int .i64 0, .int .i64 0, .str ⟨#[]⟩]), none, false, false, none, true⟩),
 (293, ⟨6, 24, true, none, none, [some (0, 3), some (1, 3), some (2, 4), some (3, 4), some (4, 4), some (5, 4)], some [(0, 1), (1, 1), (2, 1), (3, 1), (4, 1), (5, 1)], some (.agg [.int .i64 0, .int .i64 0, .bool false, .bool false, .bool false, .bool false]), some [0, 0, 1, 1, 1, 1], false, false, none, true⟩),
 (294, ⟨66, 264, true, none, some (11, 293), [], none, none, none, false, false, none, true⟩),
 (311, ⟨1, 8, false, none, none, [], none, some (.nilf), none, false, false, none, true⟩),
 (318, ⟨2, 16, true, none, none, [some (0, 3), some (1, 3)], some [(0, 1), (1, 1)], some (.agg [.int .i64 0, .int .i64 0]), some [0, 0], false, false, none, true⟩),
 (340, ⟨1, 8, false, none, none, [], none, some (.int .i64 0), some [0], false, false, some .i64, true⟩),
 (353, ⟨1, 24, false, some (39), none, [], none, some (.sl [] .nil), none, false, false, none, true⟩),
 (357, ⟨1, 8, false, none, none, [], none, some (.int .u64 0), some [0], false, false, some .u64, true⟩),
 (365, ⟨1, 24, false, some (104), none, [], none, some (.sl [] .nil), none, false, false, none, true⟩),
 (366, ⟨1, 24, false, some (105), none, [], none, some (.sl [] .nil), none, false, false, none, true⟩)]
theorem okT : EX Tryz.prog TT := ⟨tk, tk, tk, tk, tk, tk, tk, tk, tk, tk, tk, tk, tk, tk, tk, tk, tk, tk, tk, tk, tk, tk, tk, tk, tk, tk, tk, tk, tk, tk, tk, tk, tk, tk, tk, tk, tk, tk, tk, tk, tk, tk, tk, tk, tk, tk, tk, tk, tk, tk, tk, tk, tk, tk, tk, tk, tk, tk, tk, tk, tk, tk, tk, tk, tk, tk, tk, trivial⟩
end Go.Ab
namespace Go.Ab
structure A2 where
 Low : Int
 High : Int
structure B5 where
 Sets : List (List A2)
structure D0 where
 From : Int
 To : Int
 On : B5
structure A5 where
 Types : Int
 Finals : List Bool
 Moves : List D0
structure B2 where
 Typ : Int
 Num : Int
structure DW where
 Name : ByteArray
 Kind : Int
structure Y2 where
 Name : ByteArray
 Fields : List DW
structure O9 where
 Kind : Int
 Num : Int
 Text : ByteArray
structure G2 where
 Op : Int
 Args : List G2
 Var : Int
 Field : Int
 Kind : Int
 Value : O9
structure A4 where
 Op : Int
 Args : List A4
 Typ : Int
 Var : Int
 Scope : Int
 Span : Int
 Cond : G2
structure Cu where
 Scope : Int
 Typ : Int
 Var : Int
 Cond : G2
structure GR where
 Guards : List Cu
structure W6 where
 Scope : Int
 Span : Int
structure B8 where
 From : Int
 To : Int
 Var : Int
 Typ : Int
 Cond : G2
 Opens : List Int
 Closes : List Int
 Checks : List G2
 Limits : List W6
 Inside : List Int
structure I8 where
 Vars : Int
 Scopes : Int
 States : List GR
 Edges : List B8
structure Wg where
 E0 : Int
 E1 : Int
structure Cy where
 a : Int
 b : Int
structure K6 where
 Name : ByteArray
 Typ : Int
structure V4 where
 types : List Y2
 vars : List K6
structure D1 where
 times : Int
 plus : Int
structure Cz where
 Edge : B8
 Done : Bool
 Rest : A4
structure A1 where
 done : Bool
 p : A4
structure O8 where
 least : Int
 most : Int
 typed : Bool
 cond : Bool
 scope : Bool
 span : Bool
def K3 : List O8 := [⟨0, 0, true, true, false, false⟩, ⟨2, 64, false, false, false, false⟩, ⟨2, 64, false, false, false, false⟩, ⟨2, 64, false, false, false, false⟩, ⟨1, 1, false, false, false, false⟩, ⟨1, 1, true, true, true, false⟩, ⟨1, 1, false, false, true, true⟩, ⟨1, 1, false, true, false, false⟩, ⟨2, 2, false, false, false, false⟩, ⟨1, 1, true, true, true, false⟩, ⟨1, 1, false, false, true, true⟩]
end Go.Ab
namespace Go.Ab
variable [Ar]
class G6 where
 eXI : A2 → V
 eYj : B5 → V
 eXS : D0 → V
 eYh : A5 → V
 eXN : B2 → V
 eYc : DW → V
 eXW : Y2 → V
 eYv : O9 → V
 eXL : G2 → V
 eXJ : A4 → V
 eXZ : Cu → V
 eXX : GR → V
 eXT : W6 → V
 eXK : B8 → V
 eYw : I8 → V
 eYx : Wg → V
 eYy : Cy → V
 eXU : K6 → V
 eYz : V4 → V
 eYA : D1 → V
 eYB : Cz → V
 eYC : A1 → V
 eYr : O8 → V
 eLB : List Bool → V
 eYE : List D0 → V
 eYs : List B2 → V
 eYd : List G2 → V
 eYe : List Int → V
 eYf : List W6 → V
 eXM : List A2 → V
 eXR : ∀ x, eXI x = .agg [.int .i64 x.Low, .int .i64 x.High]
 eYg : ∀ x, eYj x = .agg [.sl (Ar.lst eXM x.Sets) .ro]
 eXQ : ∀ x, eXS x = .agg [.int .i64 x.From, .int .i64 x.To, .sl (Ar.lst eXM x.On.Sets) .ro]
 eYp : ∀ x, eYh x = .agg [.int .i64 x.Types, .sl (Ar.lst V.bool x.Finals) .ro, .sl (Ar.lst eXS x.Moves) .ro]
 eYa : ∀ x, eXN x = .agg [.int .i64 x.Typ, .int .i64 x.Num]
 eYq : ∀ x, eYc x = .agg [.str x.Name, .int .i64 x.Kind]
 eYk : ∀ x, eXW x = .agg [.str x.Name, .sl (Ar.lst eYc x.Fields) .ro]
 eYG : ∀ x, eYv x = .agg [.int .i64 x.Kind, .int .i64 x.Num, .str x.Text]
 eXV : ∀ x, eXL x = .agg [.int .i64 x.Op, .sl (Ar.lst eXL x.Args) .ro, .int .i64 x.Var, .int .i64 x.Field, .int .i64 x.Kind, .int .i64 x.Value.Kind, .int .i64 x.Value.Num, .str x.Value.Text]
 eXO : ∀ x, eXJ x = .agg [.int .i64 x.Op, .sl (Ar.lst eXJ x.Args) .ro, .int .i64 x.Typ, .int .i64 x.Var, .int .i64 x.Scope, .int .i64 x.Span, .int .i64 x.Cond.Op, .sl (Ar.lst eXL x.Cond.Args) .ro, .int .i64 x.Cond.Var, .int .i64 x.Cond.Field, .int .i64 x.Cond.Kind, .int .i64 x.Cond.Value.Kind, .int .i64 x.Cond.Value.Num, .str x.Cond.Value.Text]
 eYt : ∀ x, eXZ x = .agg [.int .i64 x.Scope, .int .i64 x.Typ, .int .i64 x.Var, .int .i64 x.Cond.Op, .sl (Ar.lst eXL x.Cond.Args) .ro, .int .i64 x.Cond.Var, .int .i64 x.Cond.Field, .int .i64 x.Cond.Kind, .int .i64 x.Cond.Value.Kind, .int .i64 x.Cond.Value.Num, .str x.Cond.Value.Text]
 eYu : ∀ x, eXX x = .agg [.sl (Ar.lst eXZ x.Guards) .ro]
 eYl : ∀ x, eXT x = .agg [.int .i64 x.Scope, .int .i64 x.Span]
 eXY : ∀ x, eXK x = .agg [.int .i64 x.From, .int .i64 x.To, .int .i64 x.Var, .int .i64 x.Typ, .int .i64 x.Cond.Op, .sl (Ar.lst eXL x.Cond.Args) .ro, .int .i64 x.Cond.Var, .int .i64 x.Cond.Field, .int .i64 x.Cond.Kind, .int .i64 x.Cond.Value.Kind, .int .i64 x.Cond.Value.Num, .str x.Cond.Value.Text, .sl (Ar.lst (V.int .i64) x.Opens) .ro, .sl (Ar.lst (V.int .i64) x.Closes) .ro, .sl (Ar.lst eXL x.Checks) .ro, .sl (Ar.lst eXT x.Limits) .ro, .sl (Ar.lst (V.int .i64) x.Inside) .ro]
 eYH : ∀ x, eYw x = .agg [.int .i64 x.Vars, .int .i64 x.Scopes, .sl (Ar.lst eXX x.States) .ro, .sl (Ar.lst eXK x.Edges) .ro]
 eYI : ∀ x, eYx x = .agg [.int .i64 x.E0, .int .i64 x.E1]
 eYJ : ∀ x, eYy x = .agg [.int .i64 x.a, .int .i64 x.b]
 eYi : ∀ x, eXU x = .agg [.str x.Name, .int .i64 x.Typ]
 eYK : ∀ x, eYz x = .agg [.sl (Ar.lst eXW x.types) .ro, .sl (Ar.lst eXU x.vars) .ro]
 eYM : ∀ x, eYA x = .agg [.int .i64 x.times, .int .i64 x.plus]
 eYN : ∀ x, eYB x = .agg [.int .i64 x.Edge.From, .int .i64 x.Edge.To, .int .i64 x.Edge.Var, .int .i64 x.Edge.Typ, .int .i64 x.Edge.Cond.Op, .sl (Ar.lst eXL x.Edge.Cond.Args) .ro, .int .i64 x.Edge.Cond.Var, .int .i64 x.Edge.Cond.Field, .int .i64 x.Edge.Cond.Kind, .int .i64 x.Edge.Cond.Value.Kind, .int .i64 x.Edge.Cond.Value.Num, .str x.Edge.Cond.Value.Text, .sl (Ar.lst (V.int .i64) x.Edge.Opens) .ro, .sl (Ar.lst (V.int .i64) x.Edge.Closes) .ro, .sl (Ar.lst eXL x.Edge.Checks) .ro, .sl (Ar.lst eXT x.Edge.Limits) .ro, .sl (Ar.lst (V.int .i64) x.Edge.Inside) .ro, .bool x.Done, .int .i64 x.Rest.Op, .sl (Ar.lst eXJ x.Rest.Args) .ro, .int .i64 x.Rest.Typ, .int .i64 x.Rest.Var, .int .i64 x.Rest.Scope, .int .i64 x.Rest.Span, .int .i64 x.Rest.Cond.Op, .sl (Ar.lst eXL x.Rest.Cond.Args) .ro, .int .i64 x.Rest.Cond.Var, .int .i64 x.Rest.Cond.Field, .int .i64 x.Rest.Cond.Kind, .int .i64 x.Rest.Cond.Value.Kind, .int .i64 x.Rest.Cond.Value.Num, .str x.Rest.Cond.Value.Text]
 eYO : ∀ x, eYC x = .agg [.bool x.done, .int .i64 x.p.Op, .sl (Ar.lst eXJ x.p.Args) .ro, .int .i64 x.p.Typ, .int .i64 x.p.Var, .int .i64 x.p.Scope, .int .i64 x.p.Span, .int .i64 x.p.Cond.Op, .sl (Ar.lst eXL x.p.Cond.Args) .ro, .int .i64 x.p.Cond.Var, .int .i64 x.p.Cond.Field, .int .i64 x.p.Cond.Kind, .int .i64 x.p.Cond.Value.Kind, .int .i64 x.p.Cond.Value.Num, .str x.p.Cond.Value.Text]
 eYF : ∀ x, eYr x = .agg [.int .i64 x.least, .int .i64 x.most, .bool x.typed, .bool x.cond, .bool x.scope, .bool x.span]
 eYP : ∀ x, eLB x = .sl (Ar.lst V.bool x) .ro
 eYQ : ∀ x, eYE x = .sl (Ar.lst eXS x) .ro
 eYm : ∀ x, eYs x = .sl (Ar.lst eXN x) .ro
 eYn : ∀ x, eYd x = .sl (Ar.lst eXL x) .ro
 eYb : ∀ x, eYe x = .sl (Ar.lst (V.int .i64) x) .ro
 eYo : ∀ x, eYf x = .sl (Ar.lst eXT x) .ro
 eXP : ∀ x, eXM x = .sl (Ar.lst eXI x) .ro
theorem P7 [G6] (x : A2) : (G6.eXI x).cells.length = 2 := by rw [G6.eXR]; rfl
theorem Jj [G6] (x : D0) : (G6.eXS x).cells.length = 3 := by rw [G6.eXQ]; rfl
theorem Gw [G6] (x : B2) : (G6.eXN x).cells.length = 2 := by rw [G6.eYa]; rfl
theorem Nm [G6] (x : G2) : (G6.eXL x).cells.length = 8 := by rw [G6.eXV]; rfl
theorem S5 [G6] (x : A4) : (G6.eXJ x).cells.length = 14 := by rw [G6.eXO]; rfl
theorem HG [G6] (x : Cu) : (G6.eXZ x).cells.length = 11 := by rw [G6.eYt]; rfl
theorem Rf [G6] (x : GR) : (G6.eXX x).cells.length = 1 := by rw [G6.eYu]; rfl
theorem Ld [G6] (x : W6) : (G6.eXT x).cells.length = 2 := by rw [G6.eYl]; rfl
theorem GZ [G6] (x : B8) : (G6.eXK x).cells.length = 17 := by rw [G6.eXY]; rfl
theorem LY [G6] (x : K6) : (G6.eXU x).cells.length = 2 := by rw [G6.eYi]; rfl
theorem DF [G6] (x : List A2) : (G6.eXM x).cells.length = 1 := by rw [G6.eXP]; rfl
variable [G6]
abbrev R0 (x : B8) : List V := [.int .i64 x.From, .int .i64 x.To, .int .i64 x.Var, .int .i64 x.Typ, .int .i64 x.Cond.Op, .sl (Ar.lst G6.eXL x.Cond.Args) .ro, .int .i64 x.Cond.Var, .int .i64 x.Cond.Field, .int .i64 x.Cond.Kind, .int .i64 x.Cond.Value.Kind, .int .i64 x.Cond.Value.Num, .str x.Cond.Value.Text, .sl (Ar.lst (V.int .i64) x.Opens) .ro, .sl (Ar.lst (V.int .i64) x.Closes) .ro, .sl (Ar.lst G6.eXL x.Checks) .ro, .sl (Ar.lst G6.eXT x.Limits) .ro, .sl (Ar.lst (V.int .i64) x.Inside) .ro]
abbrev E8 (x : B8) : V := .agg (R0 x)
abbrev F6 (x : A1) : List V := [.bool x.done, .int .i64 x.p.Op, .sl (Ar.lst G6.eXJ x.p.Args) .ro, .int .i64 x.p.Typ, .int .i64 x.p.Var, .int .i64 x.p.Scope, .int .i64 x.p.Span, .int .i64 x.p.Cond.Op, .sl (Ar.lst G6.eXL x.p.Cond.Args) .ro, .int .i64 x.p.Cond.Var, .int .i64 x.p.Cond.Field, .int .i64 x.p.Cond.Kind, .int .i64 x.p.Cond.Value.Kind, .int .i64 x.p.Cond.Value.Num, .str x.p.Cond.Value.Text]
abbrev B0 (x : A1) : V := .agg (F6 x)
abbrev D3 (x : A4) : List V := [.int .i64 x.Op, .sl (Ar.lst G6.eXJ x.Args) .ro, .int .i64 x.Typ, .int .i64 x.Var, .int .i64 x.Scope, .int .i64 x.Span, .int .i64 x.Cond.Op, .sl (Ar.lst G6.eXL x.Cond.Args) .ro, .int .i64 x.Cond.Var, .int .i64 x.Cond.Field, .int .i64 x.Cond.Kind, .int .i64 x.Cond.Value.Kind, .int .i64 x.Cond.Value.Num, .str x.Cond.Value.Text]
abbrev B9 (x : A4) : V := .agg (D3 x)
abbrev BR (x : G2) : List V := [.int .i64 x.Op, .sl (Ar.lst G6.eXL x.Args) .ro, .int .i64 x.Var, .int .i64 x.Field, .int .i64 x.Kind, .int .i64 x.Value.Kind, .int .i64 x.Value.Num, .str x.Value.Text]
abbrev An (x : G2) : V := .agg (BR x)
abbrev OE (x : I8) : List V := [.int .i64 x.Vars, .int .i64 x.Scopes, .sl (Ar.lst G6.eXX x.States) .ro, .sl (Ar.lst G6.eXK x.Edges) .ro]
abbrev Io (x : I8) : V := .agg (OE x)
abbrev Ct (x : O8) : List V := [.int .i64 x.least, .int .i64 x.most, .bool x.typed, .bool x.cond, .bool x.scope, .bool x.span]
abbrev EU (x : O8) : V := .agg (Ct x)
abbrev C1 (x : A5) : List V := [.int .i64 x.Types, .sl (Ar.lst V.bool x.Finals) .ro, .sl (Ar.lst G6.eXS x.Moves) .ro]
abbrev H6 (x : A5) : V := .agg (C1 x)
abbrev Hx (x : V4) : List V := [.sl (Ar.lst G6.eXW x.types) .ro, .sl (Ar.lst G6.eXU x.vars) .ro]
abbrev GY (x : V4) : V := .agg (Hx x)
abbrev MS (x : D0) : List V := [.int .i64 x.From, .int .i64 x.To, .sl (Ar.lst G6.eXM x.On.Sets) .ro]
abbrev Bz (x : D0) : V := .agg (MS x)
abbrev TY (x : Y2) : List V := [.str x.Name, .sl (Ar.lst G6.eYc x.Fields) .ro]
abbrev Nj (x : Y2) : V := .agg (TY x)
abbrev QW (x : O9) : List V := [.int .i64 x.Kind, .int .i64 x.Num, .str x.Text]
abbrev IT (x : O9) : V := .agg (QW x)
abbrev O6 (x : B5) : List V := [.sl (Ar.lst G6.eXM x.Sets) .ro]
abbrev E3 (x : B5) : V := .agg (O6 x)
abbrev BQ (x : D1) : List V := [.int .i64 x.times, .int .i64 x.plus]
abbrev Ag (x : D1) : V := .agg (BQ x)
abbrev Ky (x : A2) : List V := [.int .i64 x.Low, .int .i64 x.High]
abbrev M5 (x : A2) : V := .agg (Ky x)
abbrev K0 (x : B2) : List V := [.int .i64 x.Typ, .int .i64 x.Num]
abbrev Av (x : B2) : V := .agg (K0 x)
abbrev VE (x : DW) : List V := [.str x.Name, .int .i64 x.Kind]
abbrev Qn (x : DW) : V := .agg (VE x)
end Go.Ab
