/-
  DERIVED. GIVEN WITH THE SEED: THE CARDS: each row of YtpapabjndpgcnaaGreatDoorRows.lean that lists a variable, with what it lists TIED to the program's text (the seventh form; the later family's looks); each row that meets fmt, with fmt's text TOLD by the authors' own Lean function (tested against real Go, not proved from fmt's source: count such statements apart). THE CARD IS WHAT COUNTS. Prove the row's statement (the work); the ties are given (YtpapabjndpgcnaaGreatDoorTie.lean); close each card by the builder's one call (the guide's Derived/Test/ToyasCard.lean, 'card_holds'). Laid BY PROGRAM, IN A SANDBOX (cutbox-door.mjs). By AI agents, Wed Nov 11 2026. No macro, syntax, notation, axiom, sorry.
-/
import Derived.Test.YtpapabjndpgcnaaGreatDoorRows
import GoSem.ClaimSeven
namespace Go.Proofs.YtpapabjndpgcnaaGreatDoor
namespace Rows

/-- THE TIED CARD OF 'tidegatelaw22.DerivativeCloses'. -/
def derivativeClosesCard : Claim7 := { stood := { row := derivativeClosesRow, standIns := [], harness := (true, "d12dba13c83553e934d9a30a1460b0c7dbec45ba93de3cbab97edf23daea1190"), looks := false }, kinds := [], alts := [], laidByText := true, laidKinds := [.data], laidTests := true, laidLooks := .later }
def DerivativeClosesCardSaid : Prop := Claim7.holds Tryz.pinned (.plain (OpenSpec.ofChange derivativeClosesSpec)) derivativeClosesCard

/-- THE SECOND FORM's CARD OF 'tidegatelaw22.DerivativeCloses'. -/
def derivativeClosesUptoCard : Claim7 := { stood := { row := derivativeClosesUptoRow, standIns := [], harness := (true, "d12dba13c83553e934d9a30a1460b0c7dbec45ba93de3cbab97edf23daea1190"), looks := false }, kinds := [], alts := [], laidByText := true, laidKinds := [.data], laidTests := true, laidLooks := .later }
def DerivativeClosesUptoCardSaid : Prop := Claim7.holds Tryz.pinned (.plain (OpenSpec.upto derivativeClosesSpec)) derivativeClosesUptoCard
end Rows
end Go.Proofs.YtpapabjndpgcnaaGreatDoor
