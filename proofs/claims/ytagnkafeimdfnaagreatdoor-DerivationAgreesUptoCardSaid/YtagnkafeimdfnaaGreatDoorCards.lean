/-
  DERIVED. GIVEN WITH THE SEED: THE CARDS: each row of YtagnkafeimdfnaaGreatDoorRows.lean that lists a variable, with what it lists TIED to the program's text (the seventh form; the later family's looks); each row that meets fmt, with fmt's text TOLD by the authors' own Lean function (tested against real Go, not proved from fmt's source: count such statements apart). THE CARD IS WHAT COUNTS. Prove the row's statement (the work); the ties are given (YtagnkafeimdfnaaGreatDoorTie.lean); close each card by the builder's one call (the guide's Derived/Test/ToyasCard.lean, 'card_holds'). Laid BY PROGRAM, IN A SANDBOX (cutbox-door.mjs). By AI agents, Wed Nov 11 2026. No macro, syntax, notation, axiom, sorry.
-/
import Derived.Test.YtagnkafeimdfnaaGreatDoorRows
import GoSem.ClaimSeven
namespace Go.Proofs.YtagnkafeimdfnaaGreatDoor
namespace Rows

/-- THE TIED CARD OF 'tidegatelaw21.DerivationAgrees'. -/
def derivationAgreesCard : Claim7 := { stood := { row := derivationAgreesRow, standIns := [], harness := (true, "1e432866f3c3588db8001c12a5f1c65896292935fc9b8a275b5d91a62abffe72"), looks := false }, kinds := [], alts := [], laidByText := true, laidKinds := [.data, .data, .data, .data], laidTests := true, laidLooks := .later }
def DerivationAgreesCardSaid : Prop := Claim7.holds Tryz.pinned (.plain (OpenSpec.ofChange derivationAgreesSpec)) derivationAgreesCard

/-- THE SECOND FORM's CARD OF 'tidegatelaw21.DerivationAgrees'. -/
def derivationAgreesUptoCard : Claim7 := { stood := { row := derivationAgreesUptoRow, standIns := [], harness := (true, "1e432866f3c3588db8001c12a5f1c65896292935fc9b8a275b5d91a62abffe72"), looks := false }, kinds := [], alts := [], laidByText := true, laidKinds := [.data, .data, .data, .data], laidTests := true, laidLooks := .later }
def DerivationAgreesUptoCardSaid : Prop := Claim7.holds Tryz.pinned (.plain (OpenSpec.upto derivationAgreesSpec)) derivationAgreesUptoCard
end Rows
end Go.Proofs.YtagnkafeimdfnaaGreatDoor
