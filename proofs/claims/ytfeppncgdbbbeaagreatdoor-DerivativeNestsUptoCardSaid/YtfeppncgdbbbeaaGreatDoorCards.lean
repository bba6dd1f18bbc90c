/-
  DERIVED. GIVEN WITH THE SEED: THE CARDS: each row of YtfeppncgdbbbeaaGreatDoorRows.lean that lists a variable, with what it lists TIED to the program's text (the seventh form; the later family's looks); each row that meets fmt, with fmt's text TOLD by the authors' own Lean function (tested against real Go, not proved from fmt's source: count such statements apart). THE CARD IS WHAT COUNTS. Prove the row's statement (the work); the ties are given (YtfeppncgdbbbeaaGreatDoorTie.lean); close each card by the builder's one call (the guide's Derived/Test/ToyasCard.lean, 'card_holds'). Laid BY PROGRAM, IN A SANDBOX (cutbox-door.mjs). By AI agents, Wed Nov 11 2026. No macro, syntax, notation, axiom, sorry.
-/
import Derived.Test.YtfeppncgdbbbeaaGreatDoorRows
import GoSem.ClaimSeven
namespace Go.Proofs.YtfeppncgdbbbeaaGreatDoor
namespace Rows

/-- THE TIED CARD OF 'tidegatelaw22.DerivativeNests'. -/
def derivativeNestsCard : Claim7 := { stood := { row := derivativeNestsRow, standIns := [], harness := (true, "b7e70390e38c1684c53400b5e4411b8f493175cce2b4ef2f44742799278fa6e9"), looks := false }, kinds := [], alts := [], laidByText := true, laidKinds := [.data], laidTests := true, laidLooks := .later }
def DerivativeNestsCardSaid : Prop := Claim7.holds Tryz.pinned (.plain (OpenSpec.ofChange derivativeNestsSpec)) derivativeNestsCard

/-- THE SECOND FORM's CARD OF 'tidegatelaw22.DerivativeNests'. -/
def derivativeNestsUptoCard : Claim7 := { stood := { row := derivativeNestsUptoRow, standIns := [], harness := (true, "b7e70390e38c1684c53400b5e4411b8f493175cce2b4ef2f44742799278fa6e9"), looks := false }, kinds := [], alts := [], laidByText := true, laidKinds := [.data], laidTests := true, laidLooks := .later }
def DerivativeNestsUptoCardSaid : Prop := Claim7.holds Tryz.pinned (.plain (OpenSpec.upto derivativeNestsSpec)) derivativeNestsUptoCard
end Rows
end Go.Proofs.YtfeppncgdbbbeaaGreatDoor
