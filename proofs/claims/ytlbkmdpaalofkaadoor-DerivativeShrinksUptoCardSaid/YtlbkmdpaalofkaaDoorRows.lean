/-
  NARROWER THAN 'FOR EVERY INPUT', by the rows' own cells (each row's printed sentence says how): DerivativeGuards: loops, laid · DerivativeShrinks: loops, laid.
  DERIVED. THE GIVEN ROWS OF THIS SEAT. 2 by the template 'for every input the law returns true; each argument reads behind the call as it read before'; 0 by the template 'total and deterministic' (their statements: YtlbkmdpaalofkaaDoorTotals.lean).
  GIVEN WITH THE SEED: the statements are not yours to turn. If you find one false, say at which input.
  Laid BY PROGRAM, IN A SANDBOX (cutbox-rows.mjs): the forced cells as the released guide's own fill.sh prints them over the translation 072f92f4597cf69c… (all of the seat's roots in one cut). By AI agents, Wed Nov 11 2026. No macro, syntax, notation, axiom, sorry.
-/
import Derived.Test.YtlbkmdpaalofkaaDoorChecked
import GoSem.Claim
import GoSem.ClaimJoined
import GoSem.ClaimMapViews
import Derived.JoinedTies
import Derived.KernelRfl
namespace Go.Proofs.YtlbkmdpaalofkaaDoor
/- THE CELL 'sum', in the pinned program and in every row, IS THE sha256 OF THE DUMP (.gsa) THAT YtlbkmdpaalofkaaDoorProg.lean LOADS. Nothing in Lean hashes anything: it is a label: what it is worth is what the hold of that sum in a sandbox is worth. -/
noncomputable def Tryd.pinned : Pinned := { name := "ytlbkmdpaalofkaadoor", sum := "072f92f4597cf69cc496c821edf11493bf4a0eecfa23f753d65fbbcb02cb8edc", checked := Tryd.checked }
namespace Rows
def none {H : Type} : Left H := { results := [], args := [] }

/- WHAT THE LISTED PACKAGE-LEVEL VARIABLES READ AS WHEN THE CALL BEGINS. Each datum BY PROGRAM (the guide's laid-datum.mjs) off the statement by which the dump's own 'gosem.cut.vars' lays the variable. In a bare row this is a premise. The card (YtlbkmdpaalofkaaDoorCards.lean) ties it to the program's text. -/
def laid_tidegate_pattern_shapes {H : Type} : DataW H := .agg [.agg [.lit (.int .i64 0), .lit (.int .i64 0), .lit (.bool true), .lit (.bool true), .lit (.bool false), .lit (.bool false)], .agg [.lit (.int .i64 2), .lit (.int .i64 64), .lit (.bool false), .lit (.bool false), .lit (.bool false), .lit (.bool false)], .agg [.lit (.int .i64 2), .lit (.int .i64 64), .lit (.bool false), .lit (.bool false), .lit (.bool false), .lit (.bool false)], .agg [.lit (.int .i64 2), .lit (.int .i64 64), .lit (.bool false), .lit (.bool false), .lit (.bool false), .lit (.bool false)], .agg [.lit (.int .i64 1), .lit (.int .i64 1), .lit (.bool false), .lit (.bool false), .lit (.bool false), .lit (.bool false)], .agg [.lit (.int .i64 1), .lit (.int .i64 1), .lit (.bool true), .lit (.bool true), .lit (.bool true), .lit (.bool false)], .agg [.lit (.int .i64 1), .lit (.int .i64 1), .lit (.bool false), .lit (.bool false), .lit (.bool true), .lit (.bool true)], .agg [.lit (.int .i64 1), .lit (.int .i64 1), .lit (.bool false), .lit (.bool true), .lit (.bool false), .lit (.bool false)], .agg [.lit (.int .i64 2), .lit (.int .i64 2), .lit (.bool false), .lit (.bool false), .lit (.bool false), .lit (.bool false)], .agg [.lit (.int .i64 1), .lit (.int .i64 1), .lit (.bool true), .lit (.bool true), .lit (.bool true), .lit (.bool false)], .agg [.lit (.int .i64 1), .lit (.int .i64 1), .lit (.bool false), .lit (.bool false), .lit (.bool true), .lit (.bool true)]]

/-- 'tidegatelaw22.DerivativeGuards': WHATEVER THE INPUT: true; the input reads as it did. -/
def derivativeGuardsSpec : ChangeSpec := { name := "derivativeGuards", fn := fun _ => fun
  | [d] => { results := [.lit (.bool true)], args := [d] }
  | _ => none }
def derivativeGuardsRow : OpenClaim := { program := "ytlbkmdpaalofkaadoor", sum := "072f92f4597cf69cc496c821edf11493bf4a0eecfa23f753d65fbbcb02cb8edc", func := "tidegate/tidegatelaw22.DerivativeGuards", spec := "derivativeGuards", inPlace := ["slices.overlaps[tidegate/api.Pattern]"], unfollowed := true, recurses := true, named := ["tidegate/pattern.shapes"], loops := true, apart := false, laid := [("tidegate/pattern.shapes", laid_tidegate_pattern_shapes)] }
def DerivativeGuardsSaid : Prop := derivativeGuardsRow.holds Tryd.pinned (OpenSpec.ofChange derivativeGuardsSpec)

/-- ITS FALSE NEIGHBOUR: 'it returns false'. Refute it at one input. -/
def derivativeGuardsWrong : ChangeSpec := { name := "derivativeGuards", fn := fun _ => fun
  | [d] => { results := [.lit (.bool false)], args := [d] }
  | _ => none }
def DerivativeGuardsWrongFalsely : Prop := derivativeGuardsRow.holds Tryd.pinned (OpenSpec.ofChange derivativeGuardsWrong)

/-- 'tidegatelaw22.DerivativeShrinks': WHATEVER THE INPUT: true; the input reads as it did. -/
def derivativeShrinksSpec : ChangeSpec := { name := "derivativeShrinks", fn := fun _ => fun
  | [d] => { results := [.lit (.bool true)], args := [d] }
  | _ => none }
def derivativeShrinksRow : OpenClaim := { program := "ytlbkmdpaalofkaadoor", sum := "072f92f4597cf69cc496c821edf11493bf4a0eecfa23f753d65fbbcb02cb8edc", func := "tidegate/tidegatelaw22.DerivativeShrinks", spec := "derivativeShrinks", inPlace := ["slices.overlaps[tidegate/api.Pattern]"], unfollowed := true, recurses := true, named := ["tidegate/pattern.shapes"], loops := true, apart := false, laid := [("tidegate/pattern.shapes", laid_tidegate_pattern_shapes)] }
def DerivativeShrinksSaid : Prop := derivativeShrinksRow.holds Tryd.pinned (OpenSpec.ofChange derivativeShrinksSpec)

/-- ITS FALSE NEIGHBOUR: 'it returns false'. Refute it at one input. -/
def derivativeShrinksWrong : ChangeSpec := { name := "derivativeShrinks", fn := fun _ => fun
  | [d] => { results := [.lit (.bool false)], args := [d] }
  | _ => none }
def DerivativeShrinksWrongFalsely : Prop := derivativeShrinksRow.holds Tryd.pinned (OpenSpec.ofChange derivativeShrinksWrong)

/- THE SECOND FORM. 'bulk': how many values and letters a reading holds, each counted each time it is reached (what is shared counts as often as it is met; a slice's spare places count too). A statement '..UptoSaid' is the law's where the arguments, and the package variables that the reading takes, are together of bulk at most 1048576: NARROWER than '..Said'. Prove '..Said' where nothing that the law and all that it calls make is longer than what came in: it says more and counts as full. Else prove '..UptoSaid'. A law counts once. -/
mutual
def uptoBulk {H : Type} : DataW H → Nat
  | .lit (.string bytes) => bytes.length + 1
  | .lit _ => 1
  | .nil => 1
  | .ptr d => uptoBulk d + 1
  | .slice elems spare => uptoBulkAll elems + uptoBulkAll spare + 1
  | .agg parts => uptoBulkAll parts + 1
  | .iface _ d => uptoBulk d + 1
  | .map entries => uptoBulkEntries entries + 1
  | .held _ => 1
def uptoBulkAll {H : Type} : List (DataW H) → Nat
  | [] => 0
  | d :: r => uptoBulk d + uptoBulkAll r
def uptoBulkEntries {H : Type} : List (Lit × DataW H) → Nat
  | [] => 0
  | x :: r => uptoBulkEntry x + uptoBulkEntries r
def uptoBulkEntry {H : Type} : Lit × DataW H → Nat
  | (.string bytes, d) => bytes.length + uptoBulk d + 1
  | (_, d) => uptoBulk d + 1
 end
def uptoSmall : (H : Type) → List (DataW H) → Bool := fun _ ds => decide (uptoBulkAll ds ≤ 1048576)
def OpenSpec.upto (s : _root_.Go.ChangeSpec) : _root_.Go.OpenSpec := { _root_.Go.OpenSpec.ofChange s with cond := some uptoSmall }

/-- 'tidegatelaw22.DerivativeGuards', WHERE WHAT IT READS IS OF BULK AT MOST 1048576: true; the input reads as it did. -/
def derivativeGuardsUptoRow : OpenClaim := { program := "ytlbkmdpaalofkaadoor", sum := "072f92f4597cf69cc496c821edf11493bf4a0eecfa23f753d65fbbcb02cb8edc", func := "tidegate/tidegatelaw22.DerivativeGuards", spec := "derivativeGuards", inPlace := ["slices.overlaps[tidegate/api.Pattern]"], unfollowed := true, recurses := true, named := ["tidegate/pattern.shapes"], loops := true, apart := false, laid := [("tidegate/pattern.shapes", laid_tidegate_pattern_shapes)], narrowed := true }
def DerivativeGuardsUptoSaid : Prop := derivativeGuardsUptoRow.holds Tryd.pinned (OpenSpec.upto derivativeGuardsSpec)

/-- 'tidegatelaw22.DerivativeShrinks', WHERE WHAT IT READS IS OF BULK AT MOST 1048576: true; the input reads as it did. -/
def derivativeShrinksUptoRow : OpenClaim := { program := "ytlbkmdpaalofkaadoor", sum := "072f92f4597cf69cc496c821edf11493bf4a0eecfa23f753d65fbbcb02cb8edc", func := "tidegate/tidegatelaw22.DerivativeShrinks", spec := "derivativeShrinks", inPlace := ["slices.overlaps[tidegate/api.Pattern]"], unfollowed := true, recurses := true, named := ["tidegate/pattern.shapes"], loops := true, apart := false, laid := [("tidegate/pattern.shapes", laid_tidegate_pattern_shapes)], narrowed := true }
def DerivativeShrinksUptoSaid : Prop := derivativeShrinksUptoRow.holds Tryd.pinned (OpenSpec.upto derivativeShrinksSpec)

end Rows
end Go.Proofs.YtlbkmdpaalofkaaDoor
