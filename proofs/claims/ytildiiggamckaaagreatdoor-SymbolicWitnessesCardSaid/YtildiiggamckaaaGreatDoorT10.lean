/- GXTypes GXTy GXEn -/
import Derived.Test.YtildiiggamckaaaGreatDoorT09
import Derived.KernelRfl
import Derived.Test.YtildiiggamckaaaGreatDoorChecked
set_option linter.all false
namespace Go.Ab
open Go.RowKit Go.Proofs
set_option maxRecDepth 100000
theorem tk {t : Nat} {I : SF} (a : BF Tryz.prog t = some I.sz := by kernel_rfl) (b : Jv Tryz.prog t = some I.by_ := by kernel_rfl) (c : Nw Tryz.prog t = some I.ag := by kernel_rfl) (d : BY Tryz.prog t = I.sl := by kernel_rfl) (e : WA Tryz.prog t = I.ar := by kernel_rfl)
 (f : Ui Tryz.prog t 0 I.fs := by repeat' (first | refine ⟨?_, ?_⟩ | exact True.intro | kernel_rfl)) (g : Y1 I.pl (fun l => Hm Tryz.prog t = some l) := by first | exact True.intro | (show Hm Tryz.prog _ = some _; kernel_rfl))
 (h : Y1 I.ze (fun z => Eu Tryz.prog t = some z) := by first | exact True.intro | (show Eu Tryz.prog _ = some _; kernel_rfl)) (i : Y1 I.ek (fun k => Cx Tryz.prog 9 t = some k) := by first | exact True.intro | (show Cx Tryz.prog 9 _ = some _; kernel_rfl)) (j : MB Tryz.prog t = I.st := by kernel_rfl)
 (k : I.bo = true → Rs ((Tryz.prog).underlying t) = true := by intro h; first | (cases h; done) | kernel_rfl) (l : Y1 I.ik (fun k => (Tryz.prog).underlying t = some (.int k)) := by first | exact True.intro | (show (Tryz.prog).underlying _ = some (.int _); kernel_rfl))
 (m : I.nif = true → XN Tryz.prog t = false := by intro h; first | (cases h; done) | kernel_rfl) : Xk Tryz.prog t I := ⟨a, b, c, d, e, f, g, h, i, j, k, l, m⟩
def TT : Dt := [(3, ⟨1, 8, false, none, none, [], none, some (.int .i64 0), some [0], false, false, some .i64, true⟩),
 (4, ⟨1, 1, false, none, none, [], none, some (.bool false), some [1], false, true, none, true⟩),
 (5, ⟨1, 1, false, none, none, [], none, some (.int .u8 0), some [0], false, false, some .u8, true⟩),
 (9, ⟨1, 16, false, none, none, [], none, some (.str ⟨#[]⟩), some [2], true, false, none, true⟩),
 (22, ⟨1, 24, false, some (4), none, [], none, some (.sl [] .nil), none, false, false, none, true⟩),
 (23, ⟨1, 24, false, some (73), none, [], none, some (.sl [] .nil), none, false, false, none, true⟩),
 (25, ⟨3, 56, true, none, none, [some (0, 3), some (1, 22), some (2, 23)], some [(0, 1), (1, 1), (2, 1)], some (.agg [.int .i64 0, .sl [] .nil, .sl [] .nil]), none, false, false, none, true⟩),
 (26, ⟨1, 24, false, some (65), none, [], none, some (.sl [] .nil), none, false, false, none, true⟩),
 (29, ⟨1, 8, false, none, none, [], none, some (.int .i64 0), some [0], false, false, some .i64, true⟩),
 (37, ⟨1, 24, false, some (81), none, [], none, some (.sl [] .nil), none, false, false, none, true⟩),
 (38, ⟨1, 24, false, some (45), none, [], none, some (.sl [] .nil), none, false, false, none, true⟩),
 (39, ⟨1, 24, false, some (43), none, [], none, some (.sl [] .nil), none, false, false, none, true⟩),
 (41, ⟨3, 32, true, none, none, [some (0, 3), some (1, 3), some (2, 9)], some [(0, 1), (1, 1), (2, 1)], some (.agg [.int .i64 0, .int .i64 0, .str ⟨#[]⟩]), some [0, 0, 2], false, false, none, true⟩),
 (43, ⟨8, 88, true, none, none, [some (0, 3), some (1, 39), some (2, 3), some (3, 3), some (4, 3), some (5, 41)], some [(0, 1), (1, 1), (2, 1), (3, 1), (4, 1), (5, 3)], some (.agg [.int .i64 0, .sl [] .nil, .int .i64 0, .int .i64 0, .int .i64 0, .int .i64 0, .int .i64 0, .str ⟨#[]⟩]), none, false, false, none, true⟩),
 (45, ⟨14, 152, true, none, none, [some (0, 3), some (1, 38), some (2, 3), some (3, 3), some (4, 3), some (5, 3), some (6, 43)], some [(0, 1), (1, 1), (2, 1), (3, 1), (4, 1), (5, 1), (6, 8)], some (.agg [.int .i64 0, .sl [] .nil, .int .i64 0, .int .i64 0, .int .i64 0, .int .i64 0, .int .i64 0, .sl [] .nil, .int .i64 0, .int .i64 0, .int .i64 0, .int .i64 0, .int .i64 0, .str ⟨#[]⟩]), none, false, false, none, true⟩),
 (65, ⟨2, 16, true, none, none, [some (0, 3), some (1, 3)], some [(0, 1), (1, 1)], some (.agg [.int .i64 0, .int .i64 0]), some [0, 0], false, false, none, true⟩),
 (69, ⟨1, 24, false, some (147), none, [], none, some (.sl [] .nil), none, false, false, none, true⟩),
 (71, ⟨1, 24, true, none, none, [some (0, 69)], some [(0, 1)], some (.agg [.sl [] .nil]), none, false, false, none, true⟩),
 (73, ⟨3, 40, true, none, none, [some (0, 3), some (1, 3), some (2, 71)], some [(0, 1), (1, 1), (2, 1)], some (.agg [.int .i64 0, .int .i64 0, .sl [] .nil]), none, false, false, none, true⟩),
 (76, ⟨1, 24, false, some (26), none, [], none, some (.sl [] .nil), none, false, false, none, true⟩),
 (79, ⟨1, 24, false, some (200), none, [], none, some (.sl [] .nil), none, false, false, none, true⟩),
 (81, ⟨2, 40, true, none, none, [some (0, 9), some (1, 79)], some [(0, 1), (1, 1)], some (.agg [.str ⟨#[]⟩, .sl [] .nil]), none, false, false, none, true⟩),
 (85, ⟨1, 8, false, none, none, [], none, some (.nilmap), none, false, false, none, true⟩),
 (98, ⟨1, 24, false, some (212), none, [], none, some (.sl [] .nil), none, false, false, none, true⟩),
 (99, ⟨1, 24, false, some (107), none, [], none, some (.sl [] .nil), none, false, false, none, true⟩),
 (101, ⟨4, 64, true, none, none, [some (0, 3), some (1, 3), some (2, 98), some (3, 99)], some [(0, 1), (1, 1), (2, 1), (3, 1)], some (.agg [.int .i64 0, .int .i64 0, .sl [] .nil, .sl [] .nil]), none, false, false, none, true⟩),
 (104, ⟨1, 24, false, some (3), none, [], none, some (.sl [] .nil), none, false, false, none, true⟩),
 (105, ⟨1, 24, false, some (318), none, [], none, some (.sl [] .nil), none, false, false, none, true⟩),
 (107, ⟨17, 240, true, none, none, [some (0, 3), some (1, 3), some (2, 3), some (3, 3), some (4, 43), some (12, 104), some (13, 104), some (14, 39), some (15, 105), some (16, 104)], some [(0, 1), (1, 1), (2, 1), (3, 1), (4, 8), (12, 1), (13, 1), (14, 1), (15, 1), (16, 1)], some (.agg [.int .i64 0, .int .i64 0, .int .i64 0, .int .i64 0, .int .i64 0, .sl [] .nil, .int .i64 0, .int .i64 0, .int .i64 0, .int .i64 0, .int .i64 0, .str ⟨#[]⟩, .sl [] .nil, .sl [] .nil, .sl [] .nil, .sl [] .nil, .sl [] .nil]), none, false, false, none, true⟩),
 (115, ⟨1, 8, false, none, none, [], none, some (.nilmap), none, false, false, none, true⟩),
 (118, ⟨1, 8, false, none, none, [], none, some (.nilf), none, false, false, none, true⟩),
 (124, ⟨1, 24, false, some (25), none, [], none, some (.sl [] .nil), none, false, false, none, true⟩),
 (147, ⟨1, 24, false, some (149), none, [], none, some (.sl [] .nil), none, false, false, none, true⟩),
 (149, ⟨2, 16, true, none, none, [some (0, 3), some (1, 3)], some [(0, 1), (1, 1)], some (.agg [.int .i64 0, .int .i64 0]), some [0, 0], false, false, none, true⟩),
 (158, ⟨1, 8, false, none, none, [], none, some (.nilmap), none, false, false, none, true⟩),
 (165, ⟨1, 24, false, some (168), none, [], none, some (.sl [] .nil), none, false, false, none, true⟩),
 (168, ⟨2, 24, true, none, none, [some (0, 9), some (1, 3)], some [(0, 1), (1, 1)], some (.agg [.str ⟨#[]⟩, .int .i64 0]), some [2, 0], false, false, none, true⟩),
 (194, ⟨1, 24, false, some (71), none, [], none, some (.sl [] .nil), none, false, false, none, true⟩),
 (200, ⟨2, 24, true, none, none, [some (0, 9), some (1, 3)], some [(0, 1), (1, 1)], some (.agg [.str ⟨#[]⟩, .int .i64 0]), some [2, 0], false, false, none, true⟩),
 (208, ⟨1, 24, false, some (269), none, [], none, some (.sl [] .nil), none, false, false, none, true⟩),
 (212, ⟨1, 24, true, none, none, [some (0, 208)], some [(0, 1)], some (.agg [.sl [] .nil]), none, false, false, none, true⟩),
 (216, ⟨2, 48, true, none, none, [some (0, 37), some (1, 165)], some [(0, 1), (1, 1)], some (.agg [.sl [] .nil, .sl [] .nil]), none, false, false, none, true⟩),
 (218, ⟨1, 8, false, none, none, [], none, some (.int .u64 0), some [0], false, false, some .u64, true⟩),
 (222, ⟨2, 16, true, none, none, [some (0, 3), some (1, 3)], some [(0, 1), (1, 1)], some (.agg [.int .i64 0, .int .i64 0]), some [0, 0], false, false, none, true⟩),
 (257, ⟨1, 4, false, none, none, [], none, some (.int .u32 0), some [0], false, false, some .u32, true⟩),
 (260, ⟨1, 8, false, none, none, [], none, some (.int .u64 0), some [0], false, false, some .u64, true⟩),
 (269, ⟨11, 112, true, none, none, [some (0, 3), some (1, 3), some (2, 3), some (3, 43)], some [(0, 1), (1, 1), (2, 1), (3, 8)], some (.agg [.int .i64 0, .int .i64 0, .int .i64 0, .int .i64 0, .sl [] .nil, .int .i64 0, .int .i64 0, .int .i64 0, .int .i64 0, .int .i64 0, .str ⟨#[]⟩]), none, false, false, none, true⟩),
 (285, ⟨15, 160, true, none, none, [some (0, 4), some (1, 45)], some [(0, 1), (1, 14)], some (.agg [.bool false, .int .i64 0, .sl [] .nil, .int .i64 0, .int .i64 0, .int .i64 0, .int .i64 0, .int .i64 0, .sl [] .nil, .int .i64 0, .int .i64 0, .int .i64 0, .int .i64 0, .int .i64 0, .str ⟨#[]⟩]), none, false, false, none, true⟩),
 (293, ⟨6, 24, true, none, none, [some (0, 3), some (1, 3), some (2, 4), some (3, 4), some (4, 4), some (5, 4)], some [(0, 1), (1, 1), (2, 1), (3, 1), (4, 1), (5, 1)], some (.agg [.int .i64 0, .int .i64 0, .bool false, .bool false, .bool false, .bool false]), some [0, 0, 1, 1, 1, 1], false, false, none, true⟩),
 (294, ⟨66, 264, true, none, some (11, 293), [], none, none, none, false, false, none, true⟩),
 (311, ⟨1, 8, false, none, none, [], none, some (.nilf), none, false, false, none, true⟩),
 (318, ⟨2, 16, true, none, none, [some (0, 3), some (1, 3)], some [(0, 1), (1, 1)], some (.agg [.int .i64 0, .int .i64 0]), some [0, 0], false, false, none, true⟩),
 (340, ⟨1, 8, false, none, none, [], none, some (.int .i64 0), some [0], false, false, some .i64, true⟩),
 (353, ⟨1, 24, false, some (39), none, [], none, some (.sl [] .nil), none, false, false, none, true⟩),
 (357, ⟨1, 8, false, none, none, [], none, some (.int .u64 0), some [0], false, false, some .u64, true⟩),
 (365, ⟨1, 24, false, some (104), none, [], none, some (.sl [] .nil), none, false, false, none, true⟩),
 (366, ⟨1, 24, false, some (105), none, [], none, some (.sl [] .nil), none, false, false, none, true⟩)]
theorem okT : EZ Tryz.prog TT := ⟨tk, tk, tk, tk, tk, tk, tk, tk, tk, tk, tk, tk, tk, tk, tk, tk, tk, tk, tk, tk, tk, tk, tk, tk, tk, tk, tk, tk, tk, tk, tk, tk, tk, tk, tk, tk, tk, tk, tk, tk, tk, tk, tk, tk, tk, tk, tk, tk, tk, tk, tk, tk, tk, tk, tk, tk, tk, trivial⟩
end Go.Ab
namespace Go.Ab
structure A2 where
 Low : Int
 cT : Int
structure B6 where
 cP : List (List A2)
structure C9 where
 cQ : Int
 To : Int
 On : B6
structure A3 where
 cS : Int
 cM : List Bool
 cO : List C9
structure B2 where
 Typ : Int
 Num : Int
structure DW where
 Name : ByteArray
 Kind : Int
structure Z3 where
 Name : ByteArray
 Fields : List DW
structure P7 where
 Kind : Int
 Num : Int
 Text : ByteArray
structure G7 where
 Op : Int
 cR : List G7
 Var : Int
 Field : Int
 Kind : Int
 Value : P7
structure A5 where
 Op : Int
 cR : List A5
 Typ : Int
 Var : Int
 cU : Int
 Span : Int
 cN : G7
structure CB where
 cU : Int
 Typ : Int
 Var : Int
 cN : G7
structure GX where
 dE : List CB
structure X7 where
 cU : Int
 Span : Int
structure B8 where
 cQ : Int
 To : Int
 Var : Int
 Typ : Int
 cN : G7
 cZ : List Int
 cX : List Int
 cY : List G7
 dC : List X7
 dA : List Int
structure J1 where
 Vars : Int
 dD : Int
 cV : List GX
 cW : List B8
structure WB where
 E0 : Int
 E1 : Int
structure CF where
 a : Int
 b : Int
structure L4 where
 Name : ByteArray
 Typ : Int
structure W5 where
 types : List Z3
 vars : List L4
structure D3 where
 times : Int
 plus : Int
structure CG where
 Edge : B8
 Done : Bool
 Rest : A5
structure A1 where
 done : Bool
 p : A5
structure P6 where
 least : Int
 most : Int
 typed : Bool
 cond : Bool
 scope : Bool
 span : Bool
def K8 : List P6 := [⟨0, 0, true, true, false, false⟩, ⟨2, 64, false, false, false, false⟩, ⟨2, 64, false, false, false, false⟩, ⟨2, 64, false, false, false, false⟩, ⟨1, 1, false, false, false, false⟩, ⟨1, 1, true, true, true, false⟩, ⟨1, 1, false, false, true, true⟩, ⟨1, 1, false, true, false, false⟩, ⟨2, 2, false, false, false, false⟩, ⟨1, 1, true, true, true, false⟩, ⟨1, 1, false, false, true, true⟩]
end Go.Ab
namespace Go.Ab
variable [Ar]
class G4 where
 eYc : A2 → V
 eYE : B6 → V
 eYk : C9 → V
 eYq : A3 → V
 eYf : B2 → V
 eYx : DW → V
 eYr : Z3 → V
 eYQ : P7 → V
 eYg : G7 → V
 eYd : A5 → V
 eYt : CB → V
 eYs : GX → V
 eYn : X7 → V
 eYe : B8 → V
 eYR : J1 → V
 eYS : WB → V
 eYT : CF → V
 eYo : L4 → V
 eYU : W5 → V
 eYV : D3 → V
 eYW : CG → V
 eYX : A1 → V
 eYM : P6 → V
 eLB : List Bool → V
 eYZ : List C9 → V
 eYN : List B2 → V
 eYy : List G7 → V
 eYz : List Int → V
 eYA : List X7 → V
 eYh : List A2 → V
 eYm : ∀ x, eYc x = .agg [.int .i64 x.Low, .int .i64 x.cT]
 eYB : ∀ x, eYE x = .agg [.sl (Ar.lst eYh x.cP) .ro]
 eYl : ∀ x, eYk x = .agg [.int .i64 x.cQ, .int .i64 x.To, .sl (Ar.lst eYh x.On.cP) .ro]
 eYC : ∀ x, eYq x = .agg [.int .i64 x.cS, .sl (Ar.lst V.bool x.cM) .ro, .sl (Ar.lst eYk x.cO) .ro]
 eYu : ∀ x, eYf x = .agg [.int .i64 x.Typ, .int .i64 x.Num]
 eYK : ∀ x, eYx x = .agg [.str x.Name, .int .i64 x.Kind]
 eYF : ∀ x, eYr x = .agg [.str x.Name, .sl (Ar.lst eYx x.Fields) .ro]
 eZb : ∀ x, eYQ x = .agg [.int .i64 x.Kind, .int .i64 x.Num, .str x.Text]
 eYp : ∀ x, eYg x = .agg [.int .i64 x.Op, .sl (Ar.lst eYg x.cR) .ro, .int .i64 x.Var, .int .i64 x.Field, .int .i64 x.Kind, .int .i64 x.Value.Kind, .int .i64 x.Value.Num, .str x.Value.Text]
 eYi : ∀ x, eYd x = .agg [.int .i64 x.Op, .sl (Ar.lst eYd x.cR) .ro, .int .i64 x.Typ, .int .i64 x.Var, .int .i64 x.cU, .int .i64 x.Span, .int .i64 x.cN.Op, .sl (Ar.lst eYg x.cN.cR) .ro, .int .i64 x.cN.Var, .int .i64 x.cN.Field, .int .i64 x.cN.Kind, .int .i64 x.cN.Value.Kind, .int .i64 x.cN.Value.Num, .str x.cN.Value.Text]
 eYO : ∀ x, eYt x = .agg [.int .i64 x.cU, .int .i64 x.Typ, .int .i64 x.Var, .int .i64 x.cN.Op, .sl (Ar.lst eYg x.cN.cR) .ro, .int .i64 x.cN.Var, .int .i64 x.cN.Field, .int .i64 x.cN.Kind, .int .i64 x.cN.Value.Kind, .int .i64 x.cN.Value.Num, .str x.cN.Value.Text]
 eYP : ∀ x, eYs x = .agg [.sl (Ar.lst eYt x.dE) .ro]
 eYG : ∀ x, eYn x = .agg [.int .i64 x.cU, .int .i64 x.Span]
 eYv : ∀ x, eYe x = .agg [.int .i64 x.cQ, .int .i64 x.To, .int .i64 x.Var, .int .i64 x.Typ, .int .i64 x.cN.Op, .sl (Ar.lst eYg x.cN.cR) .ro, .int .i64 x.cN.Var, .int .i64 x.cN.Field, .int .i64 x.cN.Kind, .int .i64 x.cN.Value.Kind, .int .i64 x.cN.Value.Num, .str x.cN.Value.Text, .sl (Ar.lst (V.int .i64) x.cZ) .ro, .sl (Ar.lst (V.int .i64) x.cX) .ro, .sl (Ar.lst eYg x.cY) .ro, .sl (Ar.lst eYn x.dC) .ro, .sl (Ar.lst (V.int .i64) x.dA) .ro]
 eZc : ∀ x, eYR x = .agg [.int .i64 x.Vars, .int .i64 x.dD, .sl (Ar.lst eYs x.cV) .ro, .sl (Ar.lst eYe x.cW) .ro]
 eZd : ∀ x, eYS x = .agg [.int .i64 x.E0, .int .i64 x.E1]
 eZe : ∀ x, eYT x = .agg [.int .i64 x.a, .int .i64 x.b]
 eYD : ∀ x, eYo x = .agg [.str x.Name, .int .i64 x.Typ]
 eZf : ∀ x, eYU x = .agg [.sl (Ar.lst eYr x.types) .ro, .sl (Ar.lst eYo x.vars) .ro]
 eZg : ∀ x, eYV x = .agg [.int .i64 x.times, .int .i64 x.plus]
 eZh : ∀ x, eYW x = .agg [.int .i64 x.Edge.cQ, .int .i64 x.Edge.To, .int .i64 x.Edge.Var, .int .i64 x.Edge.Typ, .int .i64 x.Edge.cN.Op, .sl (Ar.lst eYg x.Edge.cN.cR) .ro, .int .i64 x.Edge.cN.Var, .int .i64 x.Edge.cN.Field, .int .i64 x.Edge.cN.Kind, .int .i64 x.Edge.cN.Value.Kind, .int .i64 x.Edge.cN.Value.Num, .str x.Edge.cN.Value.Text, .sl (Ar.lst (V.int .i64) x.Edge.cZ) .ro, .sl (Ar.lst (V.int .i64) x.Edge.cX) .ro, .sl (Ar.lst eYg x.Edge.cY) .ro, .sl (Ar.lst eYn x.Edge.dC) .ro, .sl (Ar.lst (V.int .i64) x.Edge.dA) .ro, .bool x.Done, .int .i64 x.Rest.Op, .sl (Ar.lst eYd x.Rest.cR) .ro, .int .i64 x.Rest.Typ, .int .i64 x.Rest.Var, .int .i64 x.Rest.cU, .int .i64 x.Rest.Span, .int .i64 x.Rest.cN.Op, .sl (Ar.lst eYg x.Rest.cN.cR) .ro, .int .i64 x.Rest.cN.Var, .int .i64 x.Rest.cN.Field, .int .i64 x.Rest.cN.Kind, .int .i64 x.Rest.cN.Value.Kind, .int .i64 x.Rest.cN.Value.Num, .str x.Rest.cN.Value.Text]
 eZi : ∀ x, eYX x = .agg [.bool x.done, .int .i64 x.p.Op, .sl (Ar.lst eYd x.p.cR) .ro, .int .i64 x.p.Typ, .int .i64 x.p.Var, .int .i64 x.p.cU, .int .i64 x.p.Span, .int .i64 x.p.cN.Op, .sl (Ar.lst eYg x.p.cN.cR) .ro, .int .i64 x.p.cN.Var, .int .i64 x.p.cN.Field, .int .i64 x.p.cN.Kind, .int .i64 x.p.cN.Value.Kind, .int .i64 x.p.cN.Value.Num, .str x.p.cN.Value.Text]
 eZa : ∀ x, eYM x = .agg [.int .i64 x.least, .int .i64 x.most, .bool x.typed, .bool x.cond, .bool x.scope, .bool x.span]
 eZj : ∀ x, eLB x = .sl (Ar.lst V.bool x) .ro
 eZk : ∀ x, eYZ x = .sl (Ar.lst eYk x) .ro
 eYH : ∀ x, eYN x = .sl (Ar.lst eYf x) .ro
 eYI : ∀ x, eYy x = .sl (Ar.lst eYg x) .ro
 eYw : ∀ x, eYz x = .sl (Ar.lst (V.int .i64) x) .ro
 eYJ : ∀ x, eYA x = .sl (Ar.lst eYn x) .ro
 eYj : ∀ x, eYh x = .sl (Ar.lst eYc x) .ro
theorem R0 [G4] (x : A2) : (G4.eYc x).cells.length = 2 := by rw [G4.eYm]; rfl
theorem Hh [G4] (x : C9) : (G4.eYk x).cells.length = 3 := by rw [G4.eYl]; rfl
theorem JF [G4] (x : B2) : (G4.eYf x).cells.length = 2 := by rw [G4.eYu]; rfl
theorem NN [G4] (x : G7) : (G4.eYg x).cells.length = 8 := by rw [G4.eYp]; rfl
theorem W3 [G4] (x : A5) : (G4.eYd x).cells.length = 14 := by rw [G4.eYi]; rfl
theorem HZ [G4] (x : CB) : (G4.eYt x).cells.length = 11 := by rw [G4.eYO]; rfl
theorem RB [G4] (x : GX) : (G4.eYs x).cells.length = 1 := by rw [G4.eYP]; rfl
theorem LF [G4] (x : X7) : (G4.eYn x).cells.length = 2 := by rw [G4.eYG]; rfl
theorem JG [G4] (x : B8) : (G4.eYe x).cells.length = 17 := by rw [G4.eYv]; rfl
theorem Mz [G4] (x : L4) : (G4.eYo x).cells.length = 2 := by rw [G4.eYD]; rfl
theorem DG [G4] (x : List A2) : (G4.eYh x).cells.length = 1 := by rw [G4.eYj]; rfl
variable [G4]
abbrev Y8 (x : B8) : List V := [.int .i64 x.cQ, .int .i64 x.To, .int .i64 x.Var, .int .i64 x.Typ, .int .i64 x.cN.Op, .sl (Ar.lst G4.eYg x.cN.cR) .ro, .int .i64 x.cN.Var, .int .i64 x.cN.Field, .int .i64 x.cN.Kind, .int .i64 x.cN.Value.Kind, .int .i64 x.cN.Value.Num, .str x.cN.Value.Text, .sl (Ar.lst (V.int .i64) x.cZ) .ro, .sl (Ar.lst (V.int .i64) x.cX) .ro, .sl (Ar.lst G4.eYg x.cY) .ro, .sl (Ar.lst G4.eYn x.dC) .ro, .sl (Ar.lst (V.int .i64) x.dA) .ro]
abbrev F3 (x : B8) : V := .agg (Y8 x)
abbrev G6 (x : A1) : List V := [.bool x.done, .int .i64 x.p.Op, .sl (Ar.lst G4.eYd x.p.cR) .ro, .int .i64 x.p.Typ, .int .i64 x.p.Var, .int .i64 x.p.cU, .int .i64 x.p.Span, .int .i64 x.p.cN.Op, .sl (Ar.lst G4.eYg x.p.cN.cR) .ro, .int .i64 x.p.cN.Var, .int .i64 x.p.cN.Field, .int .i64 x.p.cN.Kind, .int .i64 x.p.cN.Value.Kind, .int .i64 x.p.cN.Value.Num, .str x.p.cN.Value.Text]
abbrev B0 (x : A1) : V := .agg (G6 x)
abbrev D5 (x : A5) : List V := [.int .i64 x.Op, .sl (Ar.lst G4.eYd x.cR) .ro, .int .i64 x.Typ, .int .i64 x.Var, .int .i64 x.cU, .int .i64 x.Span, .int .i64 x.cN.Op, .sl (Ar.lst G4.eYg x.cN.cR) .ro, .int .i64 x.cN.Var, .int .i64 x.cN.Field, .int .i64 x.cN.Kind, .int .i64 x.cN.Value.Kind, .int .i64 x.cN.Value.Num, .str x.cN.Value.Text]
abbrev C1 (x : A5) : V := .agg (D5 x)
abbrev BW (x : G7) : List V := [.int .i64 x.Op, .sl (Ar.lst G4.eYg x.cR) .ro, .int .i64 x.Var, .int .i64 x.Field, .int .i64 x.Kind, .int .i64 x.Value.Kind, .int .i64 x.Value.Num, .str x.Value.Text]
abbrev AE (x : G7) : V := .agg (BW x)
abbrev Pb (x : J1) : List V := [.int .i64 x.Vars, .int .i64 x.dD, .sl (Ar.lst G4.eYs x.cV) .ro, .sl (Ar.lst G4.eYe x.cW) .ro]
abbrev IF (x : J1) : V := .agg (Pb x)
abbrev CA (x : P6) : List V := [.int .i64 x.least, .int .i64 x.most, .bool x.typed, .bool x.cond, .bool x.scope, .bool x.span]
abbrev EW (x : P6) : V := .agg (CA x)
abbrev B9 (x : A3) : List V := [.int .i64 x.cS, .sl (Ar.lst V.bool x.cM) .ro, .sl (Ar.lst G4.eYk x.cO) .ro]
abbrev F2 (x : A3) : V := .agg (B9 x)
abbrev HL (x : W5) : List V := [.sl (Ar.lst G4.eYr x.types) .ro, .sl (Ar.lst G4.eYo x.vars) .ro]
abbrev Hg (x : W5) : V := .agg (HL x)
abbrev KT (x : C9) : List V := [.int .i64 x.cQ, .int .i64 x.To, .sl (Ar.lst G4.eYh x.On.cP) .ro]
abbrev Bk (x : C9) : V := .agg (KT x)
abbrev Ut (x : Z3) : List V := [.str x.Name, .sl (Ar.lst G4.eYx x.Fields) .ro]
abbrev NJ (x : Z3) : V := .agg (Ut x)
abbrev Rr (x : P7) : List V := [.int .i64 x.Kind, .int .i64 x.Num, .str x.Text]
abbrev Jh (x : P7) : V := .agg (Rr x)
abbrev T8 (x : B6) : List V := [.sl (Ar.lst G4.eYh x.cP) .ro]
abbrev E5 (x : B6) : V := .agg (T8 x)
abbrev BV (x : D3) : List V := [.int .i64 x.times, .int .i64 x.plus]
abbrev Ap (x : D3) : V := .agg (BV x)
abbrev KU (x : A2) : List V := [.int .i64 x.Low, .int .i64 x.cT]
abbrev N5 (x : A2) : V := .agg (KU x)
abbrev N3 (x : B2) : List V := [.int .i64 x.Typ, .int .i64 x.Num]
abbrev Ch (x : B2) : V := .agg (N3 x)
abbrev VY (x : DW) : List V := [.str x.Name, .int .i64 x.Kind]
abbrev QH (x : DW) : V := .agg (VY x)
end Go.Ab
