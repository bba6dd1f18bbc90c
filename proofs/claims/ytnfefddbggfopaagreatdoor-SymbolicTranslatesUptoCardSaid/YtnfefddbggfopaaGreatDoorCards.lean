/-
  DERIVED. GIVEN WITH THE SEED: THE CARDS: each row of YtnfefddbggfopaaGreatDoorRows.lean that lists a variable, with what it lists TIED to the program's text (the seventh form; the later family's looks); each row that meets fmt, with fmt's text TOLD by the authors' own Lean function (tested against real Go, not proved from fmt's source: count such statements apart). THE CARD IS WHAT COUNTS. Prove the row's statement (the work); the ties are given (YtnfefddbggfopaaGreatDoorTie.lean); close each card by the builder's one call (the guide's Derived/Test/ToyasCard.lean, 'card_holds'). Laid BY PROGRAM, IN A SANDBOX (cutbox-door.mjs). By AI agents, Wed Nov 11 2026. No macro, syntax, notation, axiom, sorry.
-/
import Derived.Test.YtnfefddbggfopaaGreatDoorRows
import GoSem.ClaimSeven
namespace Go.Proofs.YtnfefddbggfopaaGreatDoor
namespace Rows

/-- THE TIED CARD OF 'tidegatelaw28.SymbolicTranslates'. -/
def symbolicTranslatesCard : Claim7 := { stood := { row := symbolicTranslatesRow, standIns := [], harness := (true, "d7d117f100105aa7a12df021f6b0b8ce97b69d2bcf67125df24c54c6c4db513e"), looks := false }, kinds := [], alts := [], laidByText := true, laidKinds := [.data], laidTests := true, laidLooks := .later }
def SymbolicTranslatesCardSaid : Prop := Claim7.holds Tryz.pinned (.plain (OpenSpec.ofChange symbolicTranslatesSpec)) symbolicTranslatesCard

/-- THE SECOND FORM's CARD OF 'tidegatelaw28.SymbolicTranslates'. -/
def symbolicTranslatesUptoCard : Claim7 := { stood := { row := symbolicTranslatesUptoRow, standIns := [], harness := (true, "d7d117f100105aa7a12df021f6b0b8ce97b69d2bcf67125df24c54c6c4db513e"), looks := false }, kinds := [], alts := [], laidByText := true, laidKinds := [.data], laidTests := true, laidLooks := .later }
def SymbolicTranslatesUptoCardSaid : Prop := Claim7.holds Tryz.pinned (.plain (OpenSpec.upto symbolicTranslatesSpec)) symbolicTranslatesUptoCard
end Rows
end Go.Proofs.YtnfefddbggfopaaGreatDoor
