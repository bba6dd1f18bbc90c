/-
  NARROWER THAN 'FOR EVERY INPUT', by the rows' own cells (each row's printed sentence says how): SymbolicChecks: laid · SymbolicTranslates: loops, laid · SymbolicEmpties: laid · SymbolicWitnesses: laid · SymbolicCombines: laid · SymbolicLanguages: laid.
  DERIVED. THE GIVEN ROWS OF THIS SEAT. 6 by the template 'for every input the law returns true; each argument reads behind the call as it read before'; 0 by the template 'total and deterministic' (their statements: YtildiiggamckaaaGreatDoorTotals.lean).
  GIVEN WITH THE SEED: the statements are not yours to turn. If you find one false, say at which input.
  Laid BY PROGRAM, IN A SANDBOX (cutbox-rows.mjs): the forced cells as the released guide's own fill.sh prints them over the translation 5b2c9c12c7e8d931… (all of the seat's roots in one cut). By AI agents, Wed Nov 11 2026. No macro, syntax, notation, axiom, sorry.
-/
import Derived.Test.YtildiiggamckaaaGreatDoorChecked
import GoSem.Claim
import GoSem.ClaimJoined
import GoSem.ClaimMapViews
import Derived.JoinedTies
import Derived.KernelRfl
namespace Go.Proofs.YtildiiggamckaaaGreatDoor
/- THE CELL 'sum', in the pinned program and in every row, IS THE sha256 OF THE DUMP (.gsa) THAT YtildiiggamckaaaGreatDoorProg.lean LOADS. Nothing in Lean hashes anything: it is a label: what it is worth is what the hold of that sum in a sandbox is worth. -/
noncomputable def Tryz.pinned : Pinned := { name := "ytildiiggamckaaagreatdoor", sum := "5b2c9c12c7e8d931290a291a3f83036db1c2db459cc7216d06689815a067d566", checked := Tryz.checked }
namespace Rows
def none {H : Type} : Left H := { results := [], args := [] }

/- WHAT THE LISTED PACKAGE-LEVEL VARIABLES READ AS WHEN THE CALL BEGINS. Each datum BY PROGRAM (the guide's laid-datum.mjs) off the statement by which the dump's own 'gosem.cut.vars' lays the variable. In a bare row this is a premise. The card (YtildiiggamckaaaGreatDoorCards.lean) ties it to the program's text. -/
def laid_tidegate_pattern_shapes {H : Type} : DataW H := .agg [.agg [.lit (.int .i64 0), .lit (.int .i64 0), .lit (.bool true), .lit (.bool true), .lit (.bool false), .lit (.bool false)], .agg [.lit (.int .i64 2), .lit (.int .i64 64), .lit (.bool false), .lit (.bool false), .lit (.bool false), .lit (.bool false)], .agg [.lit (.int .i64 2), .lit (.int .i64 64), .lit (.bool false), .lit (.bool false), .lit (.bool false), .lit (.bool false)], .agg [.lit (.int .i64 2), .lit (.int .i64 64), .lit (.bool false), .lit (.bool false), .lit (.bool false), .lit (.bool false)], .agg [.lit (.int .i64 1), .lit (.int .i64 1), .lit (.bool false), .lit (.bool false), .lit (.bool false), .lit (.bool false)], .agg [.lit (.int .i64 1), .lit (.int .i64 1), .lit (.bool true), .lit (.bool true), .lit (.bool true), .lit (.bool false)], .agg [.lit (.int .i64 1), .lit (.int .i64 1), .lit (.bool false), .lit (.bool false), .lit (.bool true), .lit (.bool true)], .agg [.lit (.int .i64 1), .lit (.int .i64 1), .lit (.bool false), .lit (.bool true), .lit (.bool false), .lit (.bool false)], .agg [.lit (.int .i64 2), .lit (.int .i64 2), .lit (.bool false), .lit (.bool false), .lit (.bool false), .lit (.bool false)], .agg [.lit (.int .i64 1), .lit (.int .i64 1), .lit (.bool true), .lit (.bool true), .lit (.bool true), .lit (.bool false)], .agg [.lit (.int .i64 1), .lit (.int .i64 1), .lit (.bool false), .lit (.bool false), .lit (.bool true), .lit (.bool true)]]

/-- 'tidegatelaw28.SymbolicChecks': WHATEVER THE INPUT: true; the input reads as it did. -/
def symbolicChecksSpec : ChangeSpec := { name := "symbolicChecks", fn := fun _ => fun
  | [d1, d2] => { results := [.lit (.bool true)], args := [d1, d2] }
  | _ => none }
def symbolicChecksRow : OpenClaim := { program := "ytildiiggamckaaagreatdoor", sum := "5b2c9c12c7e8d931290a291a3f83036db1c2db459cc7216d06689815a067d566", func := "tidegate/tidegatelaw28.SymbolicChecks", spec := "symbolicChecks", inPlace := ["slices.overlaps[tidegate/api.Pattern]"], unfollowed := true, recurses := true, named := ["tidegate/pattern.shapes"], plainKeys := false, apart := false, laid := [("tidegate/pattern.shapes", laid_tidegate_pattern_shapes)] }
def SymbolicChecksSaid : Prop := symbolicChecksRow.holds Tryz.pinned (OpenSpec.ofChange symbolicChecksSpec)

/-- ITS FALSE NEIGHBOUR: 'it returns false'. Refute it at one input. -/
def symbolicChecksWrong : ChangeSpec := { name := "symbolicChecks", fn := fun _ => fun
  | [d1, d2] => { results := [.lit (.bool false)], args := [d1, d2] }
  | _ => none }
def SymbolicChecksWrongFalsely : Prop := symbolicChecksRow.holds Tryz.pinned (OpenSpec.ofChange symbolicChecksWrong)

/-- 'tidegatelaw28.SymbolicTranslates': WHATEVER THE INPUT: true; the input reads as it did. -/
def symbolicTranslatesSpec : ChangeSpec := { name := "symbolicTranslates", fn := fun _ => fun
  | [d1, d2] => { results := [.lit (.bool true)], args := [d1, d2] }
  | _ => none }
def symbolicTranslatesRow : OpenClaim := { program := "ytildiiggamckaaagreatdoor", sum := "5b2c9c12c7e8d931290a291a3f83036db1c2db459cc7216d06689815a067d566", func := "tidegate/tidegatelaw28.SymbolicTranslates", spec := "symbolicTranslates", inPlace := ["slices.overlaps[tidegate/api.Pattern]"], unfollowed := true, recurses := true, named := ["tidegate/pattern.shapes"], loops := true, plainKeys := false, apart := false, laid := [("tidegate/pattern.shapes", laid_tidegate_pattern_shapes)] }
def SymbolicTranslatesSaid : Prop := symbolicTranslatesRow.holds Tryz.pinned (OpenSpec.ofChange symbolicTranslatesSpec)

/-- ITS FALSE NEIGHBOUR: 'it returns false'. Refute it at one input. -/
def symbolicTranslatesWrong : ChangeSpec := { name := "symbolicTranslates", fn := fun _ => fun
  | [d1, d2] => { results := [.lit (.bool false)], args := [d1, d2] }
  | _ => none }
def SymbolicTranslatesWrongFalsely : Prop := symbolicTranslatesRow.holds Tryz.pinned (OpenSpec.ofChange symbolicTranslatesWrong)

/-- 'tidegatelaw28.SymbolicEmpties': WHATEVER THE INPUT: true; the input reads as it did. -/
def symbolicEmptiesSpec : ChangeSpec := { name := "symbolicEmpties", fn := fun _ => fun
  | [d] => { results := [.lit (.bool true)], args := [d] }
  | _ => none }
def symbolicEmptiesRow : OpenClaim := { program := "ytildiiggamckaaagreatdoor", sum := "5b2c9c12c7e8d931290a291a3f83036db1c2db459cc7216d06689815a067d566", func := "tidegate/tidegatelaw28.SymbolicEmpties", spec := "symbolicEmpties", inPlace := ["slices.overlaps[tidegate/api.Pattern]"], unfollowed := true, recurses := true, named := ["tidegate/pattern.shapes"], plainKeys := false, apart := false, laid := [("tidegate/pattern.shapes", laid_tidegate_pattern_shapes)] }
def SymbolicEmptiesSaid : Prop := symbolicEmptiesRow.holds Tryz.pinned (OpenSpec.ofChange symbolicEmptiesSpec)

/-- ITS FALSE NEIGHBOUR: 'it returns false'. Refute it at one input. -/
def symbolicEmptiesWrong : ChangeSpec := { name := "symbolicEmpties", fn := fun _ => fun
  | [d] => { results := [.lit (.bool false)], args := [d] }
  | _ => none }
def SymbolicEmptiesWrongFalsely : Prop := symbolicEmptiesRow.holds Tryz.pinned (OpenSpec.ofChange symbolicEmptiesWrong)

/-- 'tidegatelaw28.SymbolicWitnesses': WHATEVER THE INPUT: true; the input reads as it did. -/
def symbolicWitnessesSpec : ChangeSpec := { name := "symbolicWitnesses", fn := fun _ => fun
  | [d1, d2] => { results := [.lit (.bool true)], args := [d1, d2] }
  | _ => none }
def symbolicWitnessesRow : OpenClaim := { program := "ytildiiggamckaaagreatdoor", sum := "5b2c9c12c7e8d931290a291a3f83036db1c2db459cc7216d06689815a067d566", func := "tidegate/tidegatelaw28.SymbolicWitnesses", spec := "symbolicWitnesses", inPlace := ["slices.overlaps[tidegate/api.Pattern]"], unfollowed := true, recurses := true, named := ["tidegate/pattern.shapes"], plainKeys := false, apart := false, laid := [("tidegate/pattern.shapes", laid_tidegate_pattern_shapes)] }
def SymbolicWitnessesSaid : Prop := symbolicWitnessesRow.holds Tryz.pinned (OpenSpec.ofChange symbolicWitnessesSpec)

/-- ITS FALSE NEIGHBOUR: 'it returns false'. Refute it at one input. -/
def symbolicWitnessesWrong : ChangeSpec := { name := "symbolicWitnesses", fn := fun _ => fun
  | [d1, d2] => { results := [.lit (.bool false)], args := [d1, d2] }
  | _ => none }
def SymbolicWitnessesWrongFalsely : Prop := symbolicWitnessesRow.holds Tryz.pinned (OpenSpec.ofChange symbolicWitnessesWrong)

/-- 'tidegatelaw28.SymbolicCombines': WHATEVER THE INPUT: true; the input reads as it did. -/
def symbolicCombinesSpec : ChangeSpec := { name := "symbolicCombines", fn := fun _ => fun
  | [d1, d2] => { results := [.lit (.bool true)], args := [d1, d2] }
  | _ => none }
def symbolicCombinesRow : OpenClaim := { program := "ytildiiggamckaaagreatdoor", sum := "5b2c9c12c7e8d931290a291a3f83036db1c2db459cc7216d06689815a067d566", func := "tidegate/tidegatelaw28.SymbolicCombines", spec := "symbolicCombines", inPlace := ["slices.overlaps[tidegate/api.Pattern]"], unfollowed := true, recurses := true, named := ["tidegate/pattern.shapes"], plainKeys := false, apart := false, laid := [("tidegate/pattern.shapes", laid_tidegate_pattern_shapes)] }
def SymbolicCombinesSaid : Prop := symbolicCombinesRow.holds Tryz.pinned (OpenSpec.ofChange symbolicCombinesSpec)

/-- ITS FALSE NEIGHBOUR: 'it returns false'. Refute it at one input. -/
def symbolicCombinesWrong : ChangeSpec := { name := "symbolicCombines", fn := fun _ => fun
  | [d1, d2] => { results := [.lit (.bool false)], args := [d1, d2] }
  | _ => none }
def SymbolicCombinesWrongFalsely : Prop := symbolicCombinesRow.holds Tryz.pinned (OpenSpec.ofChange symbolicCombinesWrong)

/-- 'tidegatelaw28.SymbolicLanguages': WHATEVER THE INPUT: true; the input reads as it did. -/
def symbolicLanguagesSpec : ChangeSpec := { name := "symbolicLanguages", fn := fun _ => fun
  | [d1, d2, d3] => { results := [.lit (.bool true)], args := [d1, d2, d3] }
  | _ => none }
def symbolicLanguagesRow : OpenClaim := { program := "ytildiiggamckaaagreatdoor", sum := "5b2c9c12c7e8d931290a291a3f83036db1c2db459cc7216d06689815a067d566", func := "tidegate/tidegatelaw28.SymbolicLanguages", spec := "symbolicLanguages", inPlace := ["slices.overlaps[tidegate/api.Pattern]"], unfollowed := true, recurses := true, named := ["tidegate/pattern.shapes"], plainKeys := false, apart := false, laid := [("tidegate/pattern.shapes", laid_tidegate_pattern_shapes)] }
def SymbolicLanguagesSaid : Prop := symbolicLanguagesRow.holds Tryz.pinned (OpenSpec.ofChange symbolicLanguagesSpec)

/-- ITS FALSE NEIGHBOUR: 'it returns false'. Refute it at one input. -/
def symbolicLanguagesWrong : ChangeSpec := { name := "symbolicLanguages", fn := fun _ => fun
  | [d1, d2, d3] => { results := [.lit (.bool false)], args := [d1, d2, d3] }
  | _ => none }
def SymbolicLanguagesWrongFalsely : Prop := symbolicLanguagesRow.holds Tryz.pinned (OpenSpec.ofChange symbolicLanguagesWrong)

/- THE SECOND FORM. 'bulk': how many values and letters a reading holds, each counted each time it is reached (what is shared counts as often as it is met; a slice's spare places count too). A statement '..UptoSaid' is the law's where the arguments, and the package variables that the reading takes, are together of bulk at most 1048576: NARROWER than '..Said'. Prove '..Said' where nothing that the law and all that it calls make is longer than what came in: it says more and counts as full. Else prove '..UptoSaid'. A law counts once. -/
mutual
def uptoBulk {H : Type} : DataW H → Nat
  | .lit (.string bytes) => bytes.length + 1
  | .lit _ => 1
  | .nil => 1
  | .ptr d => uptoBulk d + 1
  | .slice elems spare => uptoBulkAll elems + uptoBulkAll spare + 1
  | .agg parts => uptoBulkAll parts + 1
  | .iface _ d => uptoBulk d + 1
  | .map entries => uptoBulkEntries entries + 1
  | .held _ => 1
def uptoBulkAll {H : Type} : List (DataW H) → Nat
  | [] => 0
  | d :: r => uptoBulk d + uptoBulkAll r
def uptoBulkEntries {H : Type} : List (Lit × DataW H) → Nat
  | [] => 0
  | x :: r => uptoBulkEntry x + uptoBulkEntries r
def uptoBulkEntry {H : Type} : Lit × DataW H → Nat
  | (.string bytes, d) => bytes.length + uptoBulk d + 1
  | (_, d) => uptoBulk d + 1
 end
def uptoSmall : (H : Type) → List (DataW H) → Bool := fun _ ds => decide (uptoBulkAll ds ≤ 1048576)
def OpenSpec.upto (s : _root_.Go.ChangeSpec) : _root_.Go.OpenSpec := { _root_.Go.OpenSpec.ofChange s with cond := some uptoSmall }

/-- 'tidegatelaw28.SymbolicChecks', WHERE WHAT IT READS IS OF BULK AT MOST 1048576: true; the input reads as it did. -/
def symbolicChecksUptoRow : OpenClaim := { program := "ytildiiggamckaaagreatdoor", sum := "5b2c9c12c7e8d931290a291a3f83036db1c2db459cc7216d06689815a067d566", func := "tidegate/tidegatelaw28.SymbolicChecks", spec := "symbolicChecks", inPlace := ["slices.overlaps[tidegate/api.Pattern]"], unfollowed := true, recurses := true, named := ["tidegate/pattern.shapes"], plainKeys := false, apart := false, laid := [("tidegate/pattern.shapes", laid_tidegate_pattern_shapes)], narrowed := true }
def SymbolicChecksUptoSaid : Prop := symbolicChecksUptoRow.holds Tryz.pinned (OpenSpec.upto symbolicChecksSpec)

/-- 'tidegatelaw28.SymbolicTranslates', WHERE WHAT IT READS IS OF BULK AT MOST 1048576: true; the input reads as it did. -/
def symbolicTranslatesUptoRow : OpenClaim := { program := "ytildiiggamckaaagreatdoor", sum := "5b2c9c12c7e8d931290a291a3f83036db1c2db459cc7216d06689815a067d566", func := "tidegate/tidegatelaw28.SymbolicTranslates", spec := "symbolicTranslates", inPlace := ["slices.overlaps[tidegate/api.Pattern]"], unfollowed := true, recurses := true, named := ["tidegate/pattern.shapes"], loops := true, plainKeys := false, apart := false, laid := [("tidegate/pattern.shapes", laid_tidegate_pattern_shapes)], narrowed := true }
def SymbolicTranslatesUptoSaid : Prop := symbolicTranslatesUptoRow.holds Tryz.pinned (OpenSpec.upto symbolicTranslatesSpec)

/-- 'tidegatelaw28.SymbolicEmpties', WHERE WHAT IT READS IS OF BULK AT MOST 1048576: true; the input reads as it did. -/
def symbolicEmptiesUptoRow : OpenClaim := { program := "ytildiiggamckaaagreatdoor", sum := "5b2c9c12c7e8d931290a291a3f83036db1c2db459cc7216d06689815a067d566", func := "tidegate/tidegatelaw28.SymbolicEmpties", spec := "symbolicEmpties", inPlace := ["slices.overlaps[tidegate/api.Pattern]"], unfollowed := true, recurses := true, named := ["tidegate/pattern.shapes"], plainKeys := false, apart := false, laid := [("tidegate/pattern.shapes", laid_tidegate_pattern_shapes)], narrowed := true }
def SymbolicEmptiesUptoSaid : Prop := symbolicEmptiesUptoRow.holds Tryz.pinned (OpenSpec.upto symbolicEmptiesSpec)

/-- 'tidegatelaw28.SymbolicWitnesses', WHERE WHAT IT READS IS OF BULK AT MOST 1048576: true; the input reads as it did. -/
def symbolicWitnessesUptoRow : OpenClaim := { program := "ytildiiggamckaaagreatdoor", sum := "5b2c9c12c7e8d931290a291a3f83036db1c2db459cc7216d06689815a067d566", func := "tidegate/tidegatelaw28.SymbolicWitnesses", spec := "symbolicWitnesses", inPlace := ["slices.overlaps[tidegate/api.Pattern]"], unfollowed := true, recurses := true, named := ["tidegate/pattern.shapes"], plainKeys := false, apart := false, laid := [("tidegate/pattern.shapes", laid_tidegate_pattern_shapes)], narrowed := true }
def SymbolicWitnessesUptoSaid : Prop := symbolicWitnessesUptoRow.holds Tryz.pinned (OpenSpec.upto symbolicWitnessesSpec)

/-- 'tidegatelaw28.SymbolicCombines', WHERE WHAT IT READS IS OF BULK AT MOST 1048576: true; the input reads as it did. -/
def symbolicCombinesUptoRow : OpenClaim := { program := "ytildiiggamckaaagreatdoor", sum := "5b2c9c12c7e8d931290a291a3f83036db1c2db459cc7216d06689815a067d566", func := "tidegate/tidegatelaw28.SymbolicCombines", spec := "symbolicCombines", inPlace := ["slices.overlaps[tidegate/api.Pattern]"], unfollowed := true, recurses := true, named := ["tidegate/pattern.shapes"], plainKeys := false, apart := false, laid := [("tidegate/pattern.shapes", laid_tidegate_pattern_shapes)], narrowed := true }
def SymbolicCombinesUptoSaid : Prop := symbolicCombinesUptoRow.holds Tryz.pinned (OpenSpec.upto symbolicCombinesSpec)

/-- 'tidegatelaw28.SymbolicLanguages', WHERE WHAT IT READS IS OF BULK AT MOST 1048576: true; the input reads as it did. -/
def symbolicLanguagesUptoRow : OpenClaim := { program := "ytildiiggamckaaagreatdoor", sum := "5b2c9c12c7e8d931290a291a3f83036db1c2db459cc7216d06689815a067d566", func := "tidegate/tidegatelaw28.SymbolicLanguages", spec := "symbolicLanguages", inPlace := ["slices.overlaps[tidegate/api.Pattern]"], unfollowed := true, recurses := true, named := ["tidegate/pattern.shapes"], plainKeys := false, apart := false, laid := [("tidegate/pattern.shapes", laid_tidegate_pattern_shapes)], narrowed := true }
def SymbolicLanguagesUptoSaid : Prop := symbolicLanguagesUptoRow.holds Tryz.pinned (OpenSpec.upto symbolicLanguagesSpec)

end Rows
end Go.Proofs.YtildiiggamckaaaGreatDoor
