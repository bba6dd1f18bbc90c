/- GPEn -/
import Derived.Test.YtpapabjndpgcnaaGreatT24
import Derived.Test.YtpapabjndpgcnaaGreatT26
set_option linter.all false

namespace Go.Ab
variable [Ar]
class Encs where
 eGInterval : GInterval → V
 eGPredicate : GPredicate → V
 eGSymbol : GSymbol → V
 eGField : GField → V
 eGSchema : GSchema → V
 eGValue : GValue → V
 eGExpr : GExpr → V
 eGEvent : GEvent → V
 eGtidegatelaw27_Case : Gtidegatelaw27_Case → V
 eGEnv : GEnv → V
 eGVariable : GVariable → V
 eGexpr_typer : Gexpr_typer → V
 eGpredicate_line : Gpredicate_line → V
 eGAccumulator : GAccumulator → V
 eLB : List Bool → V
 eLGInterval : List GInterval → V
 eLGEvent : List GEvent → V
 eGInterval_eq : ∀ x, eGInterval x = .agg [.int .i64 x.Low, .int .i64 x.High]
 eGPredicate_eq : ∀ x, eGPredicate x = .agg [.sl (Ar.lst eLGInterval x.Sets) .ro]
 eGSymbol_eq : ∀ x, eGSymbol x = .agg [.int .i64 x.Typ, .int .i64 x.Num]
 eGField_eq : ∀ x, eGField x = .agg [.str x.Name, .int .i64 x.Kind]
 eGSchema_eq : ∀ x, eGSchema x = .agg [.str x.Name, .sl (Ar.lst eGField x.Fields) .ro]
 eGValue_eq : ∀ x, eGValue x = .agg [.int .i64 x.Kind, .int .i64 x.Num, .str x.Text]
 eGExpr_eq : ∀ x, eGExpr x = .agg [.int .i64 x.Op, .sl (Ar.lst eGExpr x.Args) .ro, .int .i64 x.Var, .int .i64 x.Field, .int .i64 x.Kind, .int .i64 x.Value.Kind, .int .i64 x.Value.Num, .str x.Value.Text]
 eGEvent_eq : ∀ x, eGEvent x = .agg [.int .i64 x.Source, .int .i64 x.Seq, .int .i64 x.Typ, .int .i64 x.Time, .sl (Ar.lst eGValue x.Values) .ro]
 eGtidegatelaw27_Case_eq : ∀ x, eGtidegatelaw27_Case x = .agg [.int .i64 x.Index, .int .i64 x.Own, .int .i64 x.Cond.Op, .sl (Ar.lst eGExpr x.Cond.Args) .ro, .int .i64 x.Cond.Var, .int .i64 x.Cond.Field, .int .i64 x.Cond.Kind, .int .i64 x.Cond.Value.Kind, .int .i64 x.Cond.Value.Num, .str x.Cond.Value.Text, .int .i64 x.Event.Source, .int .i64 x.Event.Seq, .int .i64 x.Event.Typ, .int .i64 x.Event.Time, .sl (Ar.lst eGValue x.Event.Values) .ro]
 eGEnv_eq : ∀ x, eGEnv x = .agg [.sl (Ar.lst eLGEvent x.Vars) .ro]
 eGVariable_eq : ∀ x, eGVariable x = .agg [.str x.Name, .int .i64 x.Typ]
 eGexpr_typer_eq : ∀ x, eGexpr_typer x = .agg [.sl (Ar.lst eGSchema x.types) .ro, .sl (Ar.lst eGVariable x.vars) .ro]
 eGpredicate_line_eq : ∀ x, eGpredicate_line x = .agg [.int .i64 x.times, .int .i64 x.plus]
 eGAccumulator_eq : ∀ x, eGAccumulator x = .agg [.int .i64 x.Kind, .int .i64 x.Count, .int .i64 x.Value.Kind, .int .i64 x.Value.Num, .str x.Value.Text]
 eLB_eq : ∀ x, eLB x = .sl (Ar.lst V.bool x) .ro
 eLGInterval_eq : ∀ x, eLGInterval x = .sl (Ar.lst eGInterval x) .ro
 eLGEvent_eq : ∀ x, eLGEvent x = .sl (Ar.lst eGEvent x) .ro
theorem sz_GInterval [Encs] (x : GInterval) : (Encs.eGInterval x).cells.length = 2 := by rw [Encs.eGInterval_eq]; rfl
theorem sz_GPredicate [Encs] (x : GPredicate) : (Encs.eGPredicate x).cells.length = 1 := by rw [Encs.eGPredicate_eq]; rfl
theorem sz_GVariable [Encs] (x : GVariable) : (Encs.eGVariable x).cells.length = 2 := by rw [Encs.eGVariable_eq]; rfl
theorem sz_LB [Encs] (x : List Bool) : (Encs.eLB x).cells.length = 1 := by rw [Encs.eLB_eq]; rfl
theorem sz_LGInterval [Encs] (x : List GInterval) : (Encs.eLGInterval x).cells.length = 1 := by rw [Encs.eLGInterval_eq]; rfl
end Go.Ab

