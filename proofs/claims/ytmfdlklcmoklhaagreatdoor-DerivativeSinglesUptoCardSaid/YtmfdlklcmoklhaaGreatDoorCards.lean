/-
  DERIVED. GIVEN WITH THE SEED: THE CARDS: each row of YtmfdlklcmoklhaaGreatDoorRows.lean that lists a variable, with what it lists TIED to the program's text (the seventh form; the later family's looks); each row that meets fmt, with fmt's text TOLD by the authors' own Lean function (tested against real Go, not proved from fmt's source: count such statements apart). THE CARD IS WHAT COUNTS. Prove the row's statement (the work); the ties are given (YtmfdlklcmoklhaaGreatDoorTie.lean); close each card by the builder's one call (the guide's Derived/Test/ToyasCard.lean, 'card_holds'). Laid BY PROGRAM, IN A SANDBOX (cutbox-door.mjs). By AI agents, Wed Nov 11 2026. No macro, syntax, notation, axiom, sorry.
-/
import Derived.Test.YtmfdlklcmoklhaaGreatDoorRows
import GoSem.ClaimSeven
namespace Go.Proofs.YtmfdlklcmoklhaaGreatDoor
namespace Rows

/-- THE TIED CARD OF 'tidegatelaw22.DerivativeSingles'. -/
def derivativeSinglesCard : Claim7 := { stood := { row := derivativeSinglesRow, standIns := [], harness := (true, "899b8cf906f6a70dd9e953161a1e9c3c1e451851cd16ae562c103ae2e20a50f5"), looks := false }, kinds := [], alts := [], laidByText := true, laidKinds := [.data, .data, .data, .data], laidTests := true, laidLooks := .later }
def DerivativeSinglesCardSaid : Prop := Claim7.holds Tryz.pinned (.plain (OpenSpec.ofChange derivativeSinglesSpec)) derivativeSinglesCard

/-- THE SECOND FORM's CARD OF 'tidegatelaw22.DerivativeSingles'. -/
def derivativeSinglesUptoCard : Claim7 := { stood := { row := derivativeSinglesUptoRow, standIns := [], harness := (true, "899b8cf906f6a70dd9e953161a1e9c3c1e451851cd16ae562c103ae2e20a50f5"), looks := false }, kinds := [], alts := [], laidByText := true, laidKinds := [.data, .data, .data, .data], laidTests := true, laidLooks := .later }
def DerivativeSinglesUptoCardSaid : Prop := Claim7.holds Tryz.pinned (.plain (OpenSpec.upto derivativeSinglesSpec)) derivativeSinglesUptoCard
end Rows
end Go.Proofs.YtmfdlklcmoklhaaGreatDoor
