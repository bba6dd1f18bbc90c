/- GYTypes GYTy GYEn -/
import Derived.Test.YtildiiggamckaaaGreatDoorT22
import Derived.KernelRfl
import Derived.Test.YtildiiggamckaaaGreatDoorChecked
import Derived.Test.YtildiiggamckaaaGreatDoorT25
import Derived.Test.YtildiiggamckaaaGreatDoorT26
set_option linter.all false
namespace Go.Ab
open Go.RowKit Go.Proofs
set_option maxRecDepth 100000
theorem tk {t : Nat} {I : Rc} (a : Bm Tryz.prog t = some I.sz := by kernel_rfl) (b : IC Tryz.prog t = some I.by_ := by kernel_rfl) (c : Mj Tryz.prog t = some I.ag := by kernel_rfl) (d : BF Tryz.prog t = I.sl := by kernel_rfl) (e : UQ Tryz.prog t = I.ar := by kernel_rfl)
 (f : SB Tryz.prog t 0 I.fs := by repeat' (first | refine ⟨?_, ?_⟩ | exact True.intro | kernel_rfl)) (g : V7 I.pl (fun l => GI Tryz.prog t = some l) := by first | exact True.intro | (show GI Tryz.prog _ = some _; kernel_rfl))
 (h : V7 I.ze (fun z => DR Tryz.prog t = some z) := by first | exact True.intro | (show DR Tryz.prog _ = some _; kernel_rfl)) (i : V7 I.ek (fun k => Cc Tryz.prog 9 t = some k) := by first | exact True.intro | (show Cc Tryz.prog 9 _ = some _; kernel_rfl)) (j : Ls Tryz.prog t = I.st := by kernel_rfl)
 (k : I.bo = true → PW ((Tryz.prog).underlying t) = true := by intro h; first | (cases h; done) | kernel_rfl) (l : V7 I.ik (fun k => (Tryz.prog).underlying t = some (.int k)) := by first | exact True.intro | (show (Tryz.prog).underlying _ = some (.int _); kernel_rfl))
 (m : I.nif = true → VZ Tryz.prog t = false := by intro h; first | (cases h; done) | kernel_rfl) : Vy Tryz.prog t I := ⟨a, b, c, d, e, f, g, h, i, j, k, l, m⟩
def TT : CW := [(3, ⟨1, 8, false, none, none, [], none, some (.int .i64 0), some [0], false, false, some .i64, true⟩),
 (4, ⟨1, 1, false, none, none, [], none, some (.bool false), some [1], false, true, none, true⟩),
 (5, ⟨1, 1, false, none, none, [], none, some (.int .u8 0), some [0], false, false, some .u8, true⟩),
 (9, ⟨1, 16, false, none, none, [], none, some (.str ⟨#[]⟩), some [2], true, false, none, true⟩),
 (22, ⟨1, 24, false, some (4), none, [], none, some (.sl [] .nil), none, false, false, none, true⟩),
 (23, ⟨1, 24, false, some (73), none, [], none, some (.sl [] .nil), none, false, false, none, true⟩),
 (25, ⟨3, 56, true, none, none, [some (0, 3), some (1, 22), some (2, 23)], some [(0, 1), (1, 1), (2, 1)], some (.agg [.int .i64 0, .sl [] .nil, .sl [] .nil]), none, false, false, none, true⟩),
 (26, ⟨1, 24, false, some (65), none, [], none, some (.sl [] .nil), none, false, false, none, true⟩),
 (29, ⟨1, 8, false, none, none, [], none, some (.int .i64 0), some [0], false, false, some .i64, true⟩),
 (37, ⟨1, 24, false, some (81), none, [], none, some (.sl [] .nil), none, false, false, none, true⟩),
 (38, ⟨1, 24, false, some (45), none, [], none, some (.sl [] .nil), none, false, false, none, true⟩),
 (39, ⟨1, 24, false, some (43), none, [], none, some (.sl [] .nil), none, false, false, none, true⟩),
 (41, ⟨3, 32, true, none, none, [some (0, 3), some (1, 3), some (2, 9)], some [(0, 1), (1, 1), (2, 1)], some (.agg [.int .i64 0, .int .i64 0, .str ⟨#[]⟩]), some [0, 0, 2], false, false, none, true⟩),
 (43, ⟨8, 88, true, none, none, [some (0, 3), some (1, 39), some (2, 3), some (3, 3), some (4, 3), some (5, 41)], some [(0, 1), (1, 1), (2, 1), (3, 1), (4, 1), (5, 3)], some (.agg [.int .i64 0, .sl [] .nil, .int .i64 0, .int .i64 0, .int .i64 0, .int .i64 0, .int .i64 0, .str ⟨#[]⟩]), none, false, false, none, true⟩),
 (45, ⟨14, 152, true, none, none, [some (0, 3), some (1, 38), some (2, 3), some (3, 3), some (4, 3), some (5, 3), some (6, 43)], some [(0, 1), (1, 1), (2, 1), (3, 1), (4, 1), (5, 1), (6, 8)], some (.agg [.int .i64 0, .sl [] .nil, .int .i64 0, .int .i64 0, .int .i64 0, .int .i64 0, .int .i64 0, .sl [] .nil, .int .i64 0, .int .i64 0, .int .i64 0, .int .i64 0, .int .i64 0, .str ⟨#[]⟩]), none, false, false, none, true⟩),
 (65, ⟨2, 16, true, none, none, [some (0, 3), some (1, 3)], some [(0, 1), (1, 1)], some (.agg [.int .i64 0, .int .i64 0]), some [0, 0], false, false, none, true⟩),
 (69, ⟨1, 24, false, some (147), none, [], none, some (.sl [] .nil), none, false, false, none, true⟩),
 (71, ⟨1, 24, true, none, none, [some (0, 69)], some [(0, 1)], some (.agg [.sl [] .nil]), none, false, false, none, true⟩),
 (73, ⟨3, 40, true, none, none, [some (0, 3), some (1, 3), some (2, 71)], some [(0, 1), (1, 1), (2, 1)], some (.agg [.int .i64 0, .int .i64 0, .sl [] .nil]), none, false, false, none, true⟩),
 (76, ⟨1, 24, false, some (26), none, [], none, some (.sl [] .nil), none, false, false, none, true⟩),
 (79, ⟨1, 24, false, some (200), none, [], none, some (.sl [] .nil), none, false, false, none, true⟩),
 (81, ⟨2, 40, true, none, none, [some (0, 9), some (1, 79)], some [(0, 1), (1, 1)], some (.agg [.str ⟨#[]⟩, .sl [] .nil]), none, false, false, none, true⟩),
 (85, ⟨1, 8, false, none, none, [], none, some (.nilmap), none, false, false, none, true⟩),
 (98, ⟨1, 24, false, some (212), none, [], none, some (.sl [] .nil), none, false, false, none, true⟩),
 (99, ⟨1, 24, false, some (107), none, [], none, some (.sl [] .nil), none, false, false, none, true⟩),
 (101, ⟨4, 64, true, none, none, [some (0, 3), some (1, 3), some (2, 98), some (3, 99)], some [(0, 1), (1, 1), (2, 1), (3, 1)], some (.agg [.int .i64 0, .int .i64 0, .sl [] .nil, .sl [] .nil]), none, false, false, none, true⟩),
 (104, ⟨1, 24, false, some (3), none, [], none, some (.sl [] .nil), none, false, false, none, true⟩),
 (105, ⟨1, 24, false, some (318), none, [], none, some (.sl [] .nil), none, false, false, none, true⟩),
 (107, ⟨17, 240, true, none, none, [some (0, 3), some (1, 3), some (2, 3), some (3, 3), some (4, 43), some (12, 104), some (13, 104), some (14, 39), some (15, 105), some (16, 104)], some [(0, 1), (1, 1), (2, 1), (3, 1), (4, 8), (12, 1), (13, 1), (14, 1), (15, 1), (16, 1)], some (.agg [.int .i64 0, .int .i64 0, .int .i64 0, .int .i64 0, .int .i64 0, .sl [] .nil, .int .i64 0, .int .i64 0, .int .i64 0, .int .i64 0, .int .i64 0, .str ⟨#[]⟩, .sl [] .nil, .sl [] .nil, .sl [] .nil, .sl [] .nil, .sl [] .nil]), none, false, false, none, true⟩),
 (115, ⟨1, 8, false, none, none, [], none, some (.nilmap), none, false, false, none, true⟩),
 (118, ⟨1, 8, false, none, none, [], none, some (.nilf), none, false, false, none, true⟩),
 (124, ⟨1, 24, false, some (25), none, [], none, some (.sl [] .nil), none, false, false, none, true⟩),
 (129, ⟨2, 16, true, none, some (2, 3), [], none, some (.agg [.int .i64 0, .int .i64 0]), none, false, false, none, true⟩),
 (130, ⟨1, 8, false, none, none, [], none, some (.nilmap), none, false, false, none, true⟩),
 (131, ⟨1, 24, false, some (129), none, [], none, some (.sl [] .nil), none, false, false, none, true⟩),
 (135, ⟨2, 16, true, none, none, [some (0, 3), some (1, 3)], some [(0, 1), (1, 1)], some (.agg [.int .i64 0, .int .i64 0]), some [0, 0], false, false, none, true⟩),
 (136, ⟨1, 24, false, some (135), none, [], none, some (.sl [] .nil), none, false, false, none, true⟩),
 (142, ⟨1, 24, false, some (23), none, [], none, some (.sl [] .nil), none, false, false, none, true⟩),
 (147, ⟨1, 24, false, some (149), none, [], none, some (.sl [] .nil), none, false, false, none, true⟩),
 (149, ⟨2, 16, true, none, none, [some (0, 3), some (1, 3)], some [(0, 1), (1, 1)], some (.agg [.int .i64 0, .int .i64 0]), some [0, 0], false, false, none, true⟩),
 (158, ⟨1, 8, false, none, none, [], none, some (.nilmap), none, false, false, none, true⟩),
 (165, ⟨1, 24, false, some (168), none, [], none, some (.sl [] .nil), none, false, false, none, true⟩),
 (168, ⟨2, 24, true, none, none, [some (0, 9), some (1, 3)], some [(0, 1), (1, 1)], some (.agg [.str ⟨#[]⟩, .int .i64 0]), some [2, 0], false, false, none, true⟩),
 (190, ⟨1, 8, false, none, none, [], none, some (.nilf), none, false, false, none, true⟩),
 (192, ⟨1, 24, false, some (22), none, [], none, some (.sl [] .nil), none, false, false, none, true⟩),
 (194, ⟨1, 24, false, some (71), none, [], none, some (.sl [] .nil), none, false, false, none, true⟩),
 (200, ⟨2, 24, true, none, none, [some (0, 9), some (1, 3)], some [(0, 1), (1, 1)], some (.agg [.str ⟨#[]⟩, .int .i64 0]), some [2, 0], false, false, none, true⟩),
 (208, ⟨1, 24, false, some (269), none, [], none, some (.sl [] .nil), none, false, false, none, true⟩),
 (212, ⟨1, 24, true, none, none, [some (0, 208)], some [(0, 1)], some (.agg [.sl [] .nil]), none, false, false, none, true⟩),
 (216, ⟨2, 48, true, none, none, [some (0, 37), some (1, 165)], some [(0, 1), (1, 1)], some (.agg [.sl [] .nil, .sl [] .nil]), none, false, false, none, true⟩),
 (218, ⟨1, 8, false, none, none, [], none, some (.int .u64 0), some [0], false, false, some .u64, true⟩),
 (222, ⟨2, 16, true, none, none, [some (0, 3), some (1, 3)], some [(0, 1), (1, 1)], some (.agg [.int .i64 0, .int .i64 0]), some [0, 0], false, false, none, true⟩),
 (257, ⟨1, 4, false, none, none, [], none, some (.int .u32 0), some [0], false, false, some .u32, true⟩),
 (260, ⟨1, 8, false, none, none, [], none, some (.int .u64 0), some [0], false, false, some .u64, true⟩),
 (269, ⟨11, 112, true, none, none, [some (0, 3), some (1, 3), some (2, 3), some (3, 43)], some [(0, 1), (1, 1), (2, 1), (3, 8)], some (.agg [.int .i64 0, .int .i64 0, .int .i64 0, .int .i64 0, .sl [] .nil, .int .i64 0, .int .i64 0, .int .i64 0, .int .i64 0, .int .i64 0, .str ⟨#[]⟩]), none, false, false, none, true⟩),
 (270, ⟨1, 24, false, some (273), none, [], none, some (.sl [] .nil), none, false, false, none, true⟩),
 (273, ⟨32, 400, true, none, none, [some (0, 107), some (17, 4), some (18, 45)], some [(0, 17), (17, 1), (18, 14)], some (.agg [.int .i64 0, .int .i64 0, .int .i64 0, .int .i64 0, .int .i64 0, .sl [] .nil, .int .i64 0, .int .i64 0, .int .i64 0, .int .i64 0, .int .i64 0, .str ⟨#[]⟩, .sl [] .nil, .sl [] .nil, .sl [] .nil, .sl [] .nil, .sl [] .nil, .bool false, .int .i64 0, .sl [] .nil, .int .i64 0, .int .i64 0, .int .i64 0, .int .i64 0, .int .i64 0, .sl [] .nil, .int .i64 0, .int .i64 0, .int .i64 0, .int .i64 0, .int .i64 0, .str ⟨#[]⟩]), none, false, false, none, true⟩),
 (285, ⟨15, 160, true, none, none, [some (0, 4), some (1, 45)], some [(0, 1), (1, 14)], some (.agg [.bool false, .int .i64 0, .sl [] .nil, .int .i64 0, .int .i64 0, .int .i64 0, .int .i64 0, .int .i64 0, .sl [] .nil, .int .i64 0, .int .i64 0, .int .i64 0, .int .i64 0, .int .i64 0, .str ⟨#[]⟩]), none, false, false, none, true⟩),
 (293, ⟨6, 24, true, none, none, [some (0, 3), some (1, 3), some (2, 4), some (3, 4), some (4, 4), some (5, 4)], some [(0, 1), (1, 1), (2, 1), (3, 1), (4, 1), (5, 1)], some (.agg [.int .i64 0, .int .i64 0, .bool false, .bool false, .bool false, .bool false]), some [0, 0, 1, 1, 1, 1], false, false, none, true⟩),
 (294, ⟨66, 264, true, none, some (11, 293), [], none, none, none, false, false, none, true⟩),
 (311, ⟨1, 8, false, none, none, [], none, some (.nilf), none, false, false, none, true⟩),
 (318, ⟨2, 16, true, none, none, [some (0, 3), some (1, 3)], some [(0, 1), (1, 1)], some (.agg [.int .i64 0, .int .i64 0]), some [0, 0], false, false, none, true⟩),
 (340, ⟨1, 8, false, none, none, [], none, some (.int .i64 0), some [0], false, false, some .i64, true⟩),
 (353, ⟨1, 24, false, some (39), none, [], none, some (.sl [] .nil), none, false, false, none, true⟩),
 (357, ⟨1, 8, false, none, none, [], none, some (.int .u64 0), some [0], false, false, some .u64, true⟩),
 (365, ⟨1, 24, false, some (104), none, [], none, some (.sl [] .nil), none, false, false, none, true⟩),
 (366, ⟨1, 24, false, some (105), none, [], none, some (.sl [] .nil), none, false, false, none, true⟩)]
theorem okT : EC Tryz.prog TT := ⟨tk, tk, tk, tk, tk, tk, tk, tk, tk, tk, tk, tk, tk, tk, tk, tk, tk, tk, tk, tk, tk, tk, tk, tk, tk, tk, tk, tk, tk, tk, tk, tk, tk, tk, tk, tk, tk, tk, tk, tk, tk, tk, tk, tk, tk, tk, tk, tk, tk, tk, tk, tk, tk, tk, tk, tk, tk, tk, tk, tk, tk, tk, tk, tk, tk, tk, tk, trivial⟩
end Go.Ab
namespace Go.Ab
structure A2 where
 Low : Int
 High : Int
structure B5 where
 Sets : List (List A2)
structure D5 where
 From : Int
 To : Int
 On : B5
structure B3 where
 Types : Int
 Finals : List Bool
 Moves : List D5
structure B8 where
 Typ : Int
 Num : Int
structure DC where
 Name : ByteArray
 Kind : Int
structure X0 where
 Name : ByteArray
 Fields : List DC
structure O5 where
 Kind : Int
 Num : Int
 Text : ByteArray
structure G2 where
 Op : Int
 Args : List G2
 Var : Int
 Field : Int
 Kind : Int
 Value : O5
structure A4 where
 Op : Int
 Args : List A4
 Typ : Int
 Var : Int
 Scope : Int
 Span : Int
 Cond : G2
structure Ch where
 Scope : Int
 Typ : Int
 Var : Int
 Cond : G2
structure Gw where
 Guards : List Ch
structure V4 where
 Scope : Int
 Span : Int
structure B7 where
 From : Int
 To : Int
 Var : Int
 Typ : Int
 Cond : G2
 Opens : List Int
 Closes : List Int
 Checks : List G2
 Limits : List V4
 Inside : List Int
structure I6 where
 Vars : Int
 Scopes : Int
 States : List Gw
 Edges : List B7
structure UR where
 E0 : Int
 E1 : Int
structure Cl where
 a : Int
 b : Int
structure K2 where
 Name : ByteArray
 Typ : Int
structure U4 where
 types : List X0
 vars : List K2
structure C9 where
 times : Int
 plus : Int
structure Cm where
 Edge : B7
 Done : Bool
 Rest : A4
structure A1 where
 done : Bool
 p : A4
structure O4 where
 least : Int
 most : Int
 typed : Bool
 cond : Bool
 scope : Bool
 span : Bool
def K0 : List O4 := [⟨0, 0, true, true, false, false⟩, ⟨2, 64, false, false, false, false⟩, ⟨2, 64, false, false, false, false⟩, ⟨2, 64, false, false, false, false⟩, ⟨1, 1, false, false, false, false⟩, ⟨1, 1, true, true, true, false⟩, ⟨1, 1, false, false, true, true⟩, ⟨1, 1, false, true, false, false⟩, ⟨2, 2, false, false, false, false⟩, ⟨1, 1, true, true, true, false⟩, ⟨1, 1, false, false, true, true⟩]
end Go.Ab
namespace Go.Ab
variable [Ar]
class G1 where
 eWm : A2 → V
 eWN : B5 → V
 eWw : D5 → V
 eWL : B3 → V
 eWq : B8 → V
 eWG : DC → V
 eWA : X0 → V
 eWZ : O5 → V
 eWp : G2 → V
 eWn : A4 → V
 eWD : Ch → V
 eWB : Gw → V
 eWx : V4 → V
 eWo : B7 → V
 eXb : I6 → V
 eXc : UR → V
 eXd : Cl → V
 eWy : K2 → V
 eXe : U4 → V
 eXf : C9 → V
 eXg : Cm → V
 eXh : A1 → V
 eWV : O4 → V
 eLB : List Bool → V
 eXj : List D5 → V
 eWW : List B8 → V
 eWH : List G2 → V
 eWI : List Int → V
 eWJ : List V4 → V
 eWr : List A2 → V
 eWv : ∀ x, eWm x = .agg [.int .i64 x.Low, .int .i64 x.High]
 eWK : ∀ x, eWN x = .agg [.sl (Ar.lst eWr x.Sets) .ro]
 eWu : ∀ x, eWw x = .agg [.int .i64 x.From, .int .i64 x.To, .sl (Ar.lst eWr x.On.Sets) .ro]
 eWT : ∀ x, eWL x = .agg [.int .i64 x.Types, .sl (Ar.lst V.bool x.Finals) .ro, .sl (Ar.lst eWw x.Moves) .ro]
 eWE : ∀ x, eWq x = .agg [.int .i64 x.Typ, .int .i64 x.Num]
 eWU : ∀ x, eWG x = .agg [.str x.Name, .int .i64 x.Kind]
 eWO : ∀ x, eWA x = .agg [.str x.Name, .sl (Ar.lst eWG x.Fields) .ro]
 eXl : ∀ x, eWZ x = .agg [.int .i64 x.Kind, .int .i64 x.Num, .str x.Text]
 eWz : ∀ x, eWp x = .agg [.int .i64 x.Op, .sl (Ar.lst eWp x.Args) .ro, .int .i64 x.Var, .int .i64 x.Field, .int .i64 x.Kind, .int .i64 x.Value.Kind, .int .i64 x.Value.Num, .str x.Value.Text]
 eWs : ∀ x, eWn x = .agg [.int .i64 x.Op, .sl (Ar.lst eWn x.Args) .ro, .int .i64 x.Typ, .int .i64 x.Var, .int .i64 x.Scope, .int .i64 x.Span, .int .i64 x.Cond.Op, .sl (Ar.lst eWp x.Cond.Args) .ro, .int .i64 x.Cond.Var, .int .i64 x.Cond.Field, .int .i64 x.Cond.Kind, .int .i64 x.Cond.Value.Kind, .int .i64 x.Cond.Value.Num, .str x.Cond.Value.Text]
 eWX : ∀ x, eWD x = .agg [.int .i64 x.Scope, .int .i64 x.Typ, .int .i64 x.Var, .int .i64 x.Cond.Op, .sl (Ar.lst eWp x.Cond.Args) .ro, .int .i64 x.Cond.Var, .int .i64 x.Cond.Field, .int .i64 x.Cond.Kind, .int .i64 x.Cond.Value.Kind, .int .i64 x.Cond.Value.Num, .str x.Cond.Value.Text]
 eWY : ∀ x, eWB x = .agg [.sl (Ar.lst eWD x.Guards) .ro]
 eWP : ∀ x, eWx x = .agg [.int .i64 x.Scope, .int .i64 x.Span]
 eWC : ∀ x, eWo x = .agg [.int .i64 x.From, .int .i64 x.To, .int .i64 x.Var, .int .i64 x.Typ, .int .i64 x.Cond.Op, .sl (Ar.lst eWp x.Cond.Args) .ro, .int .i64 x.Cond.Var, .int .i64 x.Cond.Field, .int .i64 x.Cond.Kind, .int .i64 x.Cond.Value.Kind, .int .i64 x.Cond.Value.Num, .str x.Cond.Value.Text, .sl (Ar.lst (V.int .i64) x.Opens) .ro, .sl (Ar.lst (V.int .i64) x.Closes) .ro, .sl (Ar.lst eWp x.Checks) .ro, .sl (Ar.lst eWx x.Limits) .ro, .sl (Ar.lst (V.int .i64) x.Inside) .ro]
 eXm : ∀ x, eXb x = .agg [.int .i64 x.Vars, .int .i64 x.Scopes, .sl (Ar.lst eWB x.States) .ro, .sl (Ar.lst eWo x.Edges) .ro]
 eXn : ∀ x, eXc x = .agg [.int .i64 x.E0, .int .i64 x.E1]
 eXo : ∀ x, eXd x = .agg [.int .i64 x.a, .int .i64 x.b]
 eWM : ∀ x, eWy x = .agg [.str x.Name, .int .i64 x.Typ]
 eXp : ∀ x, eXe x = .agg [.sl (Ar.lst eWA x.types) .ro, .sl (Ar.lst eWy x.vars) .ro]
 eXq : ∀ x, eXf x = .agg [.int .i64 x.times, .int .i64 x.plus]
 eXs : ∀ x, eXg x = .agg [.int .i64 x.Edge.From, .int .i64 x.Edge.To, .int .i64 x.Edge.Var, .int .i64 x.Edge.Typ, .int .i64 x.Edge.Cond.Op, .sl (Ar.lst eWp x.Edge.Cond.Args) .ro, .int .i64 x.Edge.Cond.Var, .int .i64 x.Edge.Cond.Field, .int .i64 x.Edge.Cond.Kind, .int .i64 x.Edge.Cond.Value.Kind, .int .i64 x.Edge.Cond.Value.Num, .str x.Edge.Cond.Value.Text, .sl (Ar.lst (V.int .i64) x.Edge.Opens) .ro, .sl (Ar.lst (V.int .i64) x.Edge.Closes) .ro, .sl (Ar.lst eWp x.Edge.Checks) .ro, .sl (Ar.lst eWx x.Edge.Limits) .ro, .sl (Ar.lst (V.int .i64) x.Edge.Inside) .ro, .bool x.Done, .int .i64 x.Rest.Op, .sl (Ar.lst eWn x.Rest.Args) .ro, .int .i64 x.Rest.Typ, .int .i64 x.Rest.Var, .int .i64 x.Rest.Scope, .int .i64 x.Rest.Span, .int .i64 x.Rest.Cond.Op, .sl (Ar.lst eWp x.Rest.Cond.Args) .ro, .int .i64 x.Rest.Cond.Var, .int .i64 x.Rest.Cond.Field, .int .i64 x.Rest.Cond.Kind, .int .i64 x.Rest.Cond.Value.Kind, .int .i64 x.Rest.Cond.Value.Num, .str x.Rest.Cond.Value.Text]
 eXt : ∀ x, eXh x = .agg [.bool x.done, .int .i64 x.p.Op, .sl (Ar.lst eWn x.p.Args) .ro, .int .i64 x.p.Typ, .int .i64 x.p.Var, .int .i64 x.p.Scope, .int .i64 x.p.Span, .int .i64 x.p.Cond.Op, .sl (Ar.lst eWp x.p.Cond.Args) .ro, .int .i64 x.p.Cond.Var, .int .i64 x.p.Cond.Field, .int .i64 x.p.Cond.Kind, .int .i64 x.p.Cond.Value.Kind, .int .i64 x.p.Cond.Value.Num, .str x.p.Cond.Value.Text]
 eXk : ∀ x, eWV x = .agg [.int .i64 x.least, .int .i64 x.most, .bool x.typed, .bool x.cond, .bool x.scope, .bool x.span]
 eXu : ∀ x, eLB x = .sl (Ar.lst V.bool x) .ro
 eXv : ∀ x, eXj x = .sl (Ar.lst eWw x) .ro
 eWQ : ∀ x, eWW x = .sl (Ar.lst eWq x) .ro
 eWR : ∀ x, eWH x = .sl (Ar.lst eWp x) .ro
 eWF : ∀ x, eWI x = .sl (Ar.lst (V.int .i64) x) .ro
 eWS : ∀ x, eWJ x = .sl (Ar.lst eWx x) .ro
 eWt : ∀ x, eWr x = .sl (Ar.lst eWm x) .ro
theorem P3 [G1] (x : A2) : (G1.eWm x).cells.length = 2 := by rw [G1.eWv]; rfl
theorem IL [G1] (x : D5) : (G1.eWw x).cells.length = 3 := by rw [G1.eWu]; rfl
theorem IK [G1] (x : B8) : (G1.eWq x).cells.length = 2 := by rw [G1.eWE]; rfl
theorem Mv [G1] (x : G2) : (G1.eWp x).cells.length = 8 := by rw [G1.eWz]; rfl
theorem R3 [G1] (x : A4) : (G1.eWn x).cells.length = 14 := by rw [G1.eWs]; rfl
theorem Hk [G1] (x : Ch) : (G1.eWD x).cells.length = 11 := by rw [G1.eWX]; rfl
theorem Qf [G1] (x : Gw) : (G1.eWB x).cells.length = 1 := by rw [G1.eWY]; rfl
theorem KD [G1] (x : V4) : (G1.eWx x).cells.length = 2 := by rw [G1.eWP]; rfl
theorem GE [G1] (x : B7) : (G1.eWo x).cells.length = 17 := by rw [G1.eWC]; rfl
theorem Lr [G1] (x : K2) : (G1.eWy x).cells.length = 2 := by rw [G1.eWM]; rfl
theorem Di [G1] (x : List A2) : (G1.eWr x).cells.length = 1 := by rw [G1.eWt]; rfl
variable [G1]
abbrev Q4 (x : B7) : List V := [.int .i64 x.From, .int .i64 x.To, .int .i64 x.Var, .int .i64 x.Typ, .int .i64 x.Cond.Op, .sl (Ar.lst G1.eWp x.Cond.Args) .ro, .int .i64 x.Cond.Var, .int .i64 x.Cond.Field, .int .i64 x.Cond.Kind, .int .i64 x.Cond.Value.Kind, .int .i64 x.Cond.Value.Num, .str x.Cond.Value.Text, .sl (Ar.lst (V.int .i64) x.Opens) .ro, .sl (Ar.lst (V.int .i64) x.Closes) .ro, .sl (Ar.lst G1.eWp x.Checks) .ro, .sl (Ar.lst G1.eWx x.Limits) .ro, .sl (Ar.lst (V.int .i64) x.Inside) .ro]
abbrev E7 (x : B7) : V := .agg (Q4 x)
abbrev F3 (x : A1) : List V := [.bool x.done, .int .i64 x.p.Op, .sl (Ar.lst G1.eWn x.p.Args) .ro, .int .i64 x.p.Typ, .int .i64 x.p.Var, .int .i64 x.p.Scope, .int .i64 x.p.Span, .int .i64 x.p.Cond.Op, .sl (Ar.lst G1.eWp x.p.Cond.Args) .ro, .int .i64 x.p.Cond.Var, .int .i64 x.p.Cond.Field, .int .i64 x.p.Cond.Kind, .int .i64 x.p.Cond.Value.Kind, .int .i64 x.p.Cond.Value.Num, .str x.p.Cond.Value.Text]
abbrev A9 (x : A1) : V := .agg (F3 x)
abbrev D1 (x : A4) : List V := [.int .i64 x.Op, .sl (Ar.lst G1.eWn x.Args) .ro, .int .i64 x.Typ, .int .i64 x.Var, .int .i64 x.Scope, .int .i64 x.Span, .int .i64 x.Cond.Op, .sl (Ar.lst G1.eWp x.Cond.Args) .ro, .int .i64 x.Cond.Var, .int .i64 x.Cond.Field, .int .i64 x.Cond.Kind, .int .i64 x.Cond.Value.Kind, .int .i64 x.Cond.Value.Num, .str x.Cond.Value.Text]
abbrev B9 (x : A4) : V := .agg (D1 x)
abbrev BD (x : G2) : List V := [.int .i64 x.Op, .sl (Ar.lst G1.eWp x.Args) .ro, .int .i64 x.Var, .int .i64 x.Field, .int .i64 x.Kind, .int .i64 x.Value.Kind, .int .i64 x.Value.Num, .str x.Value.Text]
abbrev Aa (x : G2) : V := .agg (BD x)
abbrev NJ (x : I6) : List V := [.int .i64 x.Vars, .int .i64 x.Scopes, .sl (Ar.lst G1.eWB x.States) .ro, .sl (Ar.lst G1.eWo x.Edges) .ro]
abbrev HP (x : I6) : V := .agg (NJ x)
abbrev Cg (x : O4) : List V := [.int .i64 x.least, .int .i64 x.most, .bool x.typed, .bool x.cond, .bool x.scope, .bool x.span]
abbrev Ey (x : O4) : V := .agg (Cg x)
abbrev C1 (x : B3) : List V := [.int .i64 x.Types, .sl (Ar.lst V.bool x.Finals) .ro, .sl (Ar.lst G1.eWw x.Moves) .ro]
abbrev H6 (x : B3) : V := .agg (C1 x)
abbrev Ha (x : U4) : List V := [.sl (Ar.lst G1.eWA x.types) .ro, .sl (Ar.lst G1.eWy x.vars) .ro]
abbrev GD (x : U4) : V := .agg (Ha x)
abbrev Me (x : D5) : List V := [.int .i64 x.From, .int .i64 x.To, .sl (Ar.lst G1.eWr x.On.Sets) .ro]
abbrev Bn (x : D5) : V := .agg (Me x)
abbrev SK (x : X0) : List V := [.str x.Name, .sl (Ar.lst G1.eWG x.Fields) .ro]
abbrev Ms (x : X0) : V := .agg (SK x)
abbrev PV (x : O5) : List V := [.int .i64 x.Kind, .int .i64 x.Num, .str x.Text]
abbrev Ir (x : O5) : V := .agg (PV x)
abbrev R7 (x : B5) : List V := [.sl (Ar.lst G1.eWr x.Sets) .ro]
abbrev E2 (x : B5) : V := .agg (R7 x)
abbrev BC (x : C9) : List V := [.int .i64 x.times, .int .i64 x.plus]
abbrev Z0 (x : C9) : V := .agg (BC x)
abbrev JV (x : A2) : List V := [.int .i64 x.Low, .int .i64 x.High]
abbrev M5 (x : A2) : V := .agg (JV x)
abbrev M3 (x : B8) : List V := [.int .i64 x.Typ, .int .i64 x.Num]
abbrev BN (x : B8) : V := .agg (M3 x)
abbrev Uq (x : DC) : List V := [.str x.Name, .int .i64 x.Kind]
abbrev Pr (x : DC) : V := .agg (Uq x)
end Go.Ab
