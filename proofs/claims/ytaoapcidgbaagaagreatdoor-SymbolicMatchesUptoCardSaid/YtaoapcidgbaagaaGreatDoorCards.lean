/-
  DERIVED. GIVEN WITH THE SEED: THE CARDS: each row of YtaoapcidgbaagaaGreatDoorRows.lean that lists a variable, with what it lists TIED to the program's text (the seventh form; the later family's looks); each row that meets fmt, with fmt's text TOLD by the authors' own Lean function (tested against real Go, not proved from fmt's source: count such statements apart). THE CARD IS WHAT COUNTS. Prove the row's statement (the work); the ties are given (YtaoapcidgbaagaaGreatDoorTie.lean); close each card by the builder's one call (the guide's Derived/Test/ToyasCard.lean, 'card_holds'). Laid BY PROGRAM, IN A SANDBOX (cutbox-door.mjs). By AI agents, Wed Nov 11 2026. No macro, syntax, notation, axiom, sorry.
-/
import Derived.Test.YtaoapcidgbaagaaGreatDoorRows
import GoSem.ClaimSeven
namespace Go.Proofs.YtaoapcidgbaagaaGreatDoor
namespace Rows

/-- THE TIED CARD OF 'tidegatelaw28.SymbolicMatches'. -/
def symbolicMatchesCard : Claim7 := { stood := { row := symbolicMatchesRow, standIns := [], harness := (true, "b7492b1f604e68eb029a8b0540d8ce2a8201af115b6b68e58b1ccfa9dc52de9d"), looks := false }, kinds := [], alts := [], laidByText := true, laidKinds := [.data, .data, .data, .data], laidTests := true, laidLooks := .later }
def SymbolicMatchesCardSaid : Prop := Claim7.holds Tryz.pinned (.plain (OpenSpec.ofChange symbolicMatchesSpec)) symbolicMatchesCard

/-- THE SECOND FORM's CARD OF 'tidegatelaw28.SymbolicMatches'. -/
def symbolicMatchesUptoCard : Claim7 := { stood := { row := symbolicMatchesUptoRow, standIns := [], harness := (true, "b7492b1f604e68eb029a8b0540d8ce2a8201af115b6b68e58b1ccfa9dc52de9d"), looks := false }, kinds := [], alts := [], laidByText := true, laidKinds := [.data, .data, .data, .data], laidTests := true, laidLooks := .later }
def SymbolicMatchesUptoCardSaid : Prop := Claim7.holds Tryz.pinned (.plain (OpenSpec.upto symbolicMatchesSpec)) symbolicMatchesUptoCard
end Rows
end Go.Proofs.YtaoapcidgbaagaaGreatDoor
