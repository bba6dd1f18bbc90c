/- A part of the proof: GDTy GDEn. -/
import Derived.Test.YtlbkmdpaalofkaaDoorT18
import Derived.Test.YtlbkmdpaalofkaaDoorT21
set_option linter.unusedVariables false
set_option linter.unusedSimpArgs false
set_option linter.unusedSectionVars false

/- The program's types. By program. -/
namespace Go.Ab

structure GValue where
  Kind : Int
  Num : Int
  Text : ByteArray

structure GExpr where
  Op : Int
  Args : List GExpr
  Var : Int
  Field : Int
  Kind : Int
  Value : GValue

structure GPattern where
  Op : Int
  Args : List GPattern
  Typ : Int
  Var : Int
  Scope : Int
  Span : Int
  Cond : GExpr

structure GGuard where
  Scope : Int
  Typ : Int
  Var : Int
  Cond : GExpr

structure GLimit where
  Scope : Int
  Span : Int

structure GEdge where
  From : Int
  To : Int
  Var : Int
  Typ : Int
  Cond : GExpr
  Opens : List Int
  Closes : List Int
  Checks : List GExpr
  Limits : List GLimit
  Inside : List Int

structure Gpattern_shape where
  least : Int
  most : Int
  typed : Bool
  cond : Bool
  scope : Bool
  span : Bool

structure Gderivative_rest where
  done : Bool
  p : GPattern

def tab_pattern_shapes : List Gpattern_shape := [⟨0, 0, true, true, false, false⟩, ⟨2, 64, false, false, false, false⟩, ⟨2, 64, false, false, false, false⟩, ⟨2, 64, false, false, false, false⟩, ⟨1, 1, false, false, false, false⟩, ⟨1, 1, true, true, true, false⟩, ⟨1, 1, false, false, true, true⟩, ⟨1, 1, false, true, false, false⟩, ⟨2, 2, false, false, false, false⟩, ⟨1, 1, true, true, true, false⟩, ⟨1, 1, false, false, true, true⟩]
end Go.Ab

/- Which values stand for data. By program. -/
namespace Go.Ab
variable [Ar]

class Encs where
  eGValue : GValue → V
  eGExpr : GExpr → V
  eGPattern : GPattern → V
  eGGuard : GGuard → V
  eGLimit : GLimit → V
  eGEdge : GEdge → V
  eGpattern_shape : Gpattern_shape → V
  eGderivative_rest : Gderivative_rest → V
  eLGExpr : List GExpr → V
  eLI : List Int → V
  eLGLimit : List GLimit → V
  eGValue_eq : ∀ x, eGValue x = .agg [.int .i64 x.Kind, .int .i64 x.Num, .str x.Text]
  eGExpr_eq : ∀ x, eGExpr x = .agg [.int .i64 x.Op, .sl (Ar.lst eGExpr x.Args) .ro, .int .i64 x.Var, .int .i64 x.Field, .int .i64 x.Kind, .int .i64 x.Value.Kind, .int .i64 x.Value.Num, .str x.Value.Text]
  eGPattern_eq : ∀ x, eGPattern x = .agg [.int .i64 x.Op, .sl (Ar.lst eGPattern x.Args) .ro, .int .i64 x.Typ, .int .i64 x.Var, .int .i64 x.Scope, .int .i64 x.Span, .int .i64 x.Cond.Op, .sl (Ar.lst eGExpr x.Cond.Args) .ro, .int .i64 x.Cond.Var, .int .i64 x.Cond.Field, .int .i64 x.Cond.Kind, .int .i64 x.Cond.Value.Kind, .int .i64 x.Cond.Value.Num, .str x.Cond.Value.Text]
  eGGuard_eq : ∀ x, eGGuard x = .agg [.int .i64 x.Scope, .int .i64 x.Typ, .int .i64 x.Var, .int .i64 x.Cond.Op, .sl (Ar.lst eGExpr x.Cond.Args) .ro, .int .i64 x.Cond.Var, .int .i64 x.Cond.Field, .int .i64 x.Cond.Kind, .int .i64 x.Cond.Value.Kind, .int .i64 x.Cond.Value.Num, .str x.Cond.Value.Text]
  eGLimit_eq : ∀ x, eGLimit x = .agg [.int .i64 x.Scope, .int .i64 x.Span]
  eGEdge_eq : ∀ x, eGEdge x = .agg [.int .i64 x.From, .int .i64 x.To, .int .i64 x.Var, .int .i64 x.Typ, .int .i64 x.Cond.Op, .sl (Ar.lst eGExpr x.Cond.Args) .ro, .int .i64 x.Cond.Var, .int .i64 x.Cond.Field, .int .i64 x.Cond.Kind, .int .i64 x.Cond.Value.Kind, .int .i64 x.Cond.Value.Num, .str x.Cond.Value.Text, .sl (Ar.lst (V.int .i64) x.Opens) .ro, .sl (Ar.lst (V.int .i64) x.Closes) .ro, .sl (Ar.lst eGExpr x.Checks) .ro, .sl (Ar.lst eGLimit x.Limits) .ro, .sl (Ar.lst (V.int .i64) x.Inside) .ro]
  eGpattern_shape_eq : ∀ x, eGpattern_shape x = .agg [.int .i64 x.least, .int .i64 x.most, .bool x.typed, .bool x.cond, .bool x.scope, .bool x.span]
  eGderivative_rest_eq : ∀ x, eGderivative_rest x = .agg [.bool x.done, .int .i64 x.p.Op, .sl (Ar.lst eGPattern x.p.Args) .ro, .int .i64 x.p.Typ, .int .i64 x.p.Var, .int .i64 x.p.Scope, .int .i64 x.p.Span, .int .i64 x.p.Cond.Op, .sl (Ar.lst eGExpr x.p.Cond.Args) .ro, .int .i64 x.p.Cond.Var, .int .i64 x.p.Cond.Field, .int .i64 x.p.Cond.Kind, .int .i64 x.p.Cond.Value.Kind, .int .i64 x.p.Cond.Value.Num, .str x.p.Cond.Value.Text]
  eLGExpr_eq : ∀ x, eLGExpr x = .sl (Ar.lst eGExpr x) .ro
  eLI_eq : ∀ x, eLI x = .sl (Ar.lst (V.int .i64) x) .ro
  eLGLimit_eq : ∀ x, eLGLimit x = .sl (Ar.lst eGLimit x) .ro

theorem sz_GValue [Encs] (x : GValue) : (Encs.eGValue x).cells.length = 3 := by rw [Encs.eGValue_eq]; rfl
theorem sz_GExpr [Encs] (x : GExpr) : (Encs.eGExpr x).cells.length = 8 := by rw [Encs.eGExpr_eq]; rfl
theorem sz_GPattern [Encs] (x : GPattern) : (Encs.eGPattern x).cells.length = 14 := by rw [Encs.eGPattern_eq]; rfl
theorem sz_GGuard [Encs] (x : GGuard) : (Encs.eGGuard x).cells.length = 11 := by rw [Encs.eGGuard_eq]; rfl
theorem sz_GLimit [Encs] (x : GLimit) : (Encs.eGLimit x).cells.length = 2 := by rw [Encs.eGLimit_eq]; rfl
theorem sz_GEdge [Encs] (x : GEdge) : (Encs.eGEdge x).cells.length = 17 := by rw [Encs.eGEdge_eq]; rfl
theorem sz_Gpattern_shape [Encs] (x : Gpattern_shape) : (Encs.eGpattern_shape x).cells.length = 6 := by rw [Encs.eGpattern_shape_eq]; rfl
theorem sz_Gderivative_rest [Encs] (x : Gderivative_rest) : (Encs.eGderivative_rest x).cells.length = 15 := by rw [Encs.eGderivative_rest_eq]; rfl
theorem sz_LGExpr [Encs] (x : List GExpr) : (Encs.eLGExpr x).cells.length = 1 := by rw [Encs.eLGExpr_eq]; rfl
theorem sz_LI [Encs] (x : List Int) : (Encs.eLI x).cells.length = 1 := by rw [Encs.eLI_eq]; rfl
theorem sz_LGLimit [Encs] (x : List GLimit) : (Encs.eLGLimit x).cells.length = 1 := by rw [Encs.eLGLimit_eq]; rfl
end Go.Ab

