/-
  NARROWER THAN 'FOR EVERY INPUT', by the rows' own cells (each row's printed sentence says how): RegistersReads: loops · RegistersNeeds: loops.
  DERIVED. THE GIVEN ROWS OF THIS SEAT. 5 by the template 'for every input the law returns true; each argument reads behind the call as it read before'; 0 by the template 'total and deterministic' (their statements: YtbjdkpckplopdaaTotals.lean).
  GIVEN WITH THE SEED: the statements are not yours to turn. If you find one false, say at which input.
  Laid BY PROGRAM, IN A SANDBOX (cutbox-rows.mjs): the forced cells as the released guide's own fill.sh prints them over the translation 77b30e2a543142bd… (all of the seat's roots in one cut). By AI agents, Wed Nov 11 2026. No macro, syntax, notation, axiom, sorry.
-/
import Derived.Test.YtbjdkpckplopdaaChecked
import GoSem.Claim
import GoSem.ClaimJoined
import GoSem.ClaimMapViews
import Derived.JoinedTies
import Derived.KernelRfl
namespace Go.Proofs.Ytbjdkpckplopdaa
/- THE CELL 'sum', in the pinned program and in every row, IS THE sha256 OF THE DUMP (.gsa) THAT YtbjdkpckplopdaaProg.lean LOADS. Nothing in Lean hashes anything: it is a label: what it is worth is what the hold of that sum in a sandbox is worth. -/
noncomputable def Try.pinned : Pinned := { name := "ytbjdkpckplopdaa", sum := "77b30e2a543142bd4a9d7d89b912b5859637aded8a6873fbda28fab943cb433c", checked := Try.checked }
namespace Rows
def none {H : Type} : Left H := { results := [], args := [] }

/-- 'tidegatelaw26.RegistersReads': WHATEVER THE INPUT: true; the input reads as it did. -/
def registersReadsSpec : ChangeSpec := { name := "registersReads", fn := fun _ => fun
  | [d1, d2] => { results := [.lit (.bool true)], args := [d1, d2] }
  | _ => none }
def registersReadsRow : OpenClaim := { program := "ytbjdkpckplopdaa", sum := "77b30e2a543142bd4a9d7d89b912b5859637aded8a6873fbda28fab943cb433c", func := "tidegate/tidegatelaw26.RegistersReads", spec := "registersReads", unfollowed := true, recurses := true, loops := true, apart := false }
def RegistersReadsSaid : Prop := registersReadsRow.holds Try.pinned (OpenSpec.ofChange registersReadsSpec)

/-- ITS FALSE NEIGHBOUR: 'it returns false'. Refute it at one input. -/
def registersReadsWrong : ChangeSpec := { name := "registersReads", fn := fun _ => fun
  | [d1, d2] => { results := [.lit (.bool false)], args := [d1, d2] }
  | _ => none }
def RegistersReadsWrongFalsely : Prop := registersReadsRow.holds Try.pinned (OpenSpec.ofChange registersReadsWrong)

/-- 'tidegatelaw26.RegistersNeeds': WHATEVER THE INPUT: true; the input reads as it did. -/
def registersNeedsSpec : ChangeSpec := { name := "registersNeeds", fn := fun _ => fun
  | [d] => { results := [.lit (.bool true)], args := [d] }
  | _ => none }
def registersNeedsRow : OpenClaim := { program := "ytbjdkpckplopdaa", sum := "77b30e2a543142bd4a9d7d89b912b5859637aded8a6873fbda28fab943cb433c", func := "tidegate/tidegatelaw26.RegistersNeeds", spec := "registersNeeds", unfollowed := true, recurses := true, loops := true, apart := false }
def RegistersNeedsSaid : Prop := registersNeedsRow.holds Try.pinned (OpenSpec.ofChange registersNeedsSpec)

/-- ITS FALSE NEIGHBOUR: 'it returns false'. Refute it at one input. -/
def registersNeedsWrong : ChangeSpec := { name := "registersNeeds", fn := fun _ => fun
  | [d] => { results := [.lit (.bool false)], args := [d] }
  | _ => none }
def RegistersNeedsWrongFalsely : Prop := registersNeedsRow.holds Try.pinned (OpenSpec.ofChange registersNeedsWrong)

/-- 'tidegatelaw26.RegistersReduces': WHATEVER THE INPUT: true; the input reads as it did. -/
def registersReducesSpec : ChangeSpec := { name := "registersReduces", fn := fun _ => fun
  | [d1, d2, d3] => { results := [.lit (.bool true)], args := [d1, d2, d3] }
  | _ => none }
def registersReducesRow : OpenClaim := { program := "ytbjdkpckplopdaa", sum := "77b30e2a543142bd4a9d7d89b912b5859637aded8a6873fbda28fab943cb433c", func := "tidegate/tidegatelaw26.RegistersReduces", spec := "registersReduces", unfollowed := true, recurses := true, apart := false }
def RegistersReducesSaid : Prop := registersReducesRow.holds Try.pinned (OpenSpec.ofChange registersReducesSpec)

/-- ITS FALSE NEIGHBOUR: 'it returns false'. Refute it at one input. -/
def registersReducesWrong : ChangeSpec := { name := "registersReduces", fn := fun _ => fun
  | [d1, d2, d3] => { results := [.lit (.bool false)], args := [d1, d2, d3] }
  | _ => none }
def RegistersReducesWrongFalsely : Prop := registersReducesRow.holds Try.pinned (OpenSpec.ofChange registersReducesWrong)

/-- 'tidegatelaw26.RegistersSettles': WHATEVER THE INPUT: true; the input reads as it did. -/
def registersSettlesSpec : ChangeSpec := { name := "registersSettles", fn := fun _ => fun
  | [d1, d2, d3] => { results := [.lit (.bool true)], args := [d1, d2, d3] }
  | _ => none }
def registersSettlesRow : OpenClaim := { program := "ytbjdkpckplopdaa", sum := "77b30e2a543142bd4a9d7d89b912b5859637aded8a6873fbda28fab943cb433c", func := "tidegate/tidegatelaw26.RegistersSettles", spec := "registersSettles", unfollowed := true, recurses := true, apart := false }
def RegistersSettlesSaid : Prop := registersSettlesRow.holds Try.pinned (OpenSpec.ofChange registersSettlesSpec)

/-- ITS FALSE NEIGHBOUR: 'it returns false'. Refute it at one input. -/
def registersSettlesWrong : ChangeSpec := { name := "registersSettles", fn := fun _ => fun
  | [d1, d2, d3] => { results := [.lit (.bool false)], args := [d1, d2, d3] }
  | _ => none }
def RegistersSettlesWrongFalsely : Prop := registersSettlesRow.holds Try.pinned (OpenSpec.ofChange registersSettlesWrong)

/-- 'tidegatelaw26.RegistersJoins': WHATEVER THE INPUT: true; the input reads as it did. -/
def registersJoinsSpec : ChangeSpec := { name := "registersJoins", fn := fun _ => fun
  | [d1, d2] => { results := [.lit (.bool true)], args := [d1, d2] }
  | _ => none }
def registersJoinsRow : OpenClaim := { program := "ytbjdkpckplopdaa", sum := "77b30e2a543142bd4a9d7d89b912b5859637aded8a6873fbda28fab943cb433c", func := "tidegate/tidegatelaw26.RegistersJoins", spec := "registersJoins", unfollowed := true, recurses := true, apart := false }
def RegistersJoinsSaid : Prop := registersJoinsRow.holds Try.pinned (OpenSpec.ofChange registersJoinsSpec)

/-- ITS FALSE NEIGHBOUR: 'it returns false'. Refute it at one input. -/
def registersJoinsWrong : ChangeSpec := { name := "registersJoins", fn := fun _ => fun
  | [d1, d2] => { results := [.lit (.bool false)], args := [d1, d2] }
  | _ => none }
def RegistersJoinsWrongFalsely : Prop := registersJoinsRow.holds Try.pinned (OpenSpec.ofChange registersJoinsWrong)

/- THE SECOND FORM. 'bulk': how many values and letters a reading holds, each counted each time it is reached (what is shared counts as often as it is met; a slice's spare places count too). A statement '..UptoSaid' is the law's where the arguments, and the package variables that the reading takes, are together of bulk at most 1048576: NARROWER than '..Said'. Prove '..Said' where nothing that the law and all that it calls make is longer than what came in: it says more and counts as full. Else prove '..UptoSaid'. A law counts once. -/
mutual
def uptoBulk {H : Type} : DataW H → Nat
  | .lit (.string bytes) => bytes.length + 1
  | .lit _ => 1
  | .nil => 1
  | .ptr d => uptoBulk d + 1
  | .slice elems spare => uptoBulkAll elems + uptoBulkAll spare + 1
  | .agg parts => uptoBulkAll parts + 1
  | .iface _ d => uptoBulk d + 1
  | .map entries => uptoBulkEntries entries + 1
  | .held _ => 1
def uptoBulkAll {H : Type} : List (DataW H) → Nat
  | [] => 0
  | d :: r => uptoBulk d + uptoBulkAll r
def uptoBulkEntries {H : Type} : List (Lit × DataW H) → Nat
  | [] => 0
  | x :: r => uptoBulkEntry x + uptoBulkEntries r
def uptoBulkEntry {H : Type} : Lit × DataW H → Nat
  | (.string bytes, d) => bytes.length + uptoBulk d + 1
  | (_, d) => uptoBulk d + 1
 end
def uptoSmall : (H : Type) → List (DataW H) → Bool := fun _ ds => decide (uptoBulkAll ds ≤ 1048576)
def OpenSpec.upto (s : _root_.Go.ChangeSpec) : _root_.Go.OpenSpec := { _root_.Go.OpenSpec.ofChange s with cond := some uptoSmall }

/-- 'tidegatelaw26.RegistersReads', WHERE WHAT IT READS IS OF BULK AT MOST 1048576: true; the input reads as it did. -/
def registersReadsUptoRow : OpenClaim := { program := "ytbjdkpckplopdaa", sum := "77b30e2a543142bd4a9d7d89b912b5859637aded8a6873fbda28fab943cb433c", func := "tidegate/tidegatelaw26.RegistersReads", spec := "registersReads", unfollowed := true, recurses := true, loops := true, apart := false, narrowed := true }
def RegistersReadsUptoSaid : Prop := registersReadsUptoRow.holds Try.pinned (OpenSpec.upto registersReadsSpec)

/-- 'tidegatelaw26.RegistersNeeds', WHERE WHAT IT READS IS OF BULK AT MOST 1048576: true; the input reads as it did. -/
def registersNeedsUptoRow : OpenClaim := { program := "ytbjdkpckplopdaa", sum := "77b30e2a543142bd4a9d7d89b912b5859637aded8a6873fbda28fab943cb433c", func := "tidegate/tidegatelaw26.RegistersNeeds", spec := "registersNeeds", unfollowed := true, recurses := true, loops := true, apart := false, narrowed := true }
def RegistersNeedsUptoSaid : Prop := registersNeedsUptoRow.holds Try.pinned (OpenSpec.upto registersNeedsSpec)

/-- 'tidegatelaw26.RegistersReduces', WHERE WHAT IT READS IS OF BULK AT MOST 1048576: true; the input reads as it did. -/
def registersReducesUptoRow : OpenClaim := { program := "ytbjdkpckplopdaa", sum := "77b30e2a543142bd4a9d7d89b912b5859637aded8a6873fbda28fab943cb433c", func := "tidegate/tidegatelaw26.RegistersReduces", spec := "registersReduces", unfollowed := true, recurses := true, apart := false, narrowed := true }
def RegistersReducesUptoSaid : Prop := registersReducesUptoRow.holds Try.pinned (OpenSpec.upto registersReducesSpec)

/-- 'tidegatelaw26.RegistersSettles', WHERE WHAT IT READS IS OF BULK AT MOST 1048576: true; the input reads as it did. -/
def registersSettlesUptoRow : OpenClaim := { program := "ytbjdkpckplopdaa", sum := "77b30e2a543142bd4a9d7d89b912b5859637aded8a6873fbda28fab943cb433c", func := "tidegate/tidegatelaw26.RegistersSettles", spec := "registersSettles", unfollowed := true, recurses := true, apart := false, narrowed := true }
def RegistersSettlesUptoSaid : Prop := registersSettlesUptoRow.holds Try.pinned (OpenSpec.upto registersSettlesSpec)

/-- 'tidegatelaw26.RegistersJoins', WHERE WHAT IT READS IS OF BULK AT MOST 1048576: true; the input reads as it did. -/
def registersJoinsUptoRow : OpenClaim := { program := "ytbjdkpckplopdaa", sum := "77b30e2a543142bd4a9d7d89b912b5859637aded8a6873fbda28fab943cb433c", func := "tidegate/tidegatelaw26.RegistersJoins", spec := "registersJoins", unfollowed := true, recurses := true, apart := false, narrowed := true }
def RegistersJoinsUptoSaid : Prop := registersJoinsUptoRow.holds Try.pinned (OpenSpec.upto registersJoinsSpec)

end Rows
end Go.Proofs.Ytbjdkpckplopdaa
