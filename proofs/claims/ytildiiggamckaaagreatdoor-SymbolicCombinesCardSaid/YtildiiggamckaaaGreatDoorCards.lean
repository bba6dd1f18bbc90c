/-
  DERIVED. GIVEN WITH THE SEED: THE CARDS: each row of YtildiiggamckaaaGreatDoorRows.lean that lists a variable, with what it lists TIED to the program's text (the seventh form; the later family's looks); each row that meets fmt, with fmt's text TOLD by the authors' own Lean function (tested against real Go, not proved from fmt's source: count such statements apart). THE CARD IS WHAT COUNTS. Prove the row's statement (the work); the ties are given (YtildiiggamckaaaGreatDoorTie.lean); close each card by the builder's one call (the guide's Derived/Test/ToyasCard.lean, 'card_holds'). Laid BY PROGRAM, IN A SANDBOX (cutbox-door.mjs). By AI agents, Wed Nov 11 2026. No macro, syntax, notation, axiom, sorry.
-/
import Derived.Test.YtildiiggamckaaaGreatDoorRows
import GoSem.ClaimSeven
namespace Go.Proofs.YtildiiggamckaaaGreatDoor
namespace Rows

/-- THE TIED CARD OF 'tidegatelaw28.SymbolicChecks'. -/
def symbolicChecksCard : Claim7 := { stood := { row := symbolicChecksRow, standIns := [], harness := (true, "68c136e8639a017e0e3ce7370c697ef2ab33944597f7f7e68364ae2ff6cb31fb"), looks := false }, kinds := [], alts := [], laidByText := true, laidKinds := [.data], laidTests := true, laidLooks := .later }
def SymbolicChecksCardSaid : Prop := Claim7.holds Tryz.pinned (.plain (OpenSpec.ofChange symbolicChecksSpec)) symbolicChecksCard

/-- THE TIED CARD OF 'tidegatelaw28.SymbolicTranslates'. -/
def symbolicTranslatesCard : Claim7 := { stood := { row := symbolicTranslatesRow, standIns := [], harness := (true, "68c136e8639a017e0e3ce7370c697ef2ab33944597f7f7e68364ae2ff6cb31fb"), looks := false }, kinds := [], alts := [], laidByText := true, laidKinds := [.data], laidTests := true, laidLooks := .later }
def SymbolicTranslatesCardSaid : Prop := Claim7.holds Tryz.pinned (.plain (OpenSpec.ofChange symbolicTranslatesSpec)) symbolicTranslatesCard

/-- THE TIED CARD OF 'tidegatelaw28.SymbolicEmpties'. -/
def symbolicEmptiesCard : Claim7 := { stood := { row := symbolicEmptiesRow, standIns := [], harness := (true, "68c136e8639a017e0e3ce7370c697ef2ab33944597f7f7e68364ae2ff6cb31fb"), looks := false }, kinds := [], alts := [], laidByText := true, laidKinds := [.data], laidTests := true, laidLooks := .later }
def SymbolicEmptiesCardSaid : Prop := Claim7.holds Tryz.pinned (.plain (OpenSpec.ofChange symbolicEmptiesSpec)) symbolicEmptiesCard

/-- THE TIED CARD OF 'tidegatelaw28.SymbolicWitnesses'. -/
def symbolicWitnessesCard : Claim7 := { stood := { row := symbolicWitnessesRow, standIns := [], harness := (true, "68c136e8639a017e0e3ce7370c697ef2ab33944597f7f7e68364ae2ff6cb31fb"), looks := false }, kinds := [], alts := [], laidByText := true, laidKinds := [.data], laidTests := true, laidLooks := .later }
def SymbolicWitnessesCardSaid : Prop := Claim7.holds Tryz.pinned (.plain (OpenSpec.ofChange symbolicWitnessesSpec)) symbolicWitnessesCard

/-- THE TIED CARD OF 'tidegatelaw28.SymbolicCombines'. -/
def symbolicCombinesCard : Claim7 := { stood := { row := symbolicCombinesRow, standIns := [], harness := (true, "68c136e8639a017e0e3ce7370c697ef2ab33944597f7f7e68364ae2ff6cb31fb"), looks := false }, kinds := [], alts := [], laidByText := true, laidKinds := [.data], laidTests := true, laidLooks := .later }
def SymbolicCombinesCardSaid : Prop := Claim7.holds Tryz.pinned (.plain (OpenSpec.ofChange symbolicCombinesSpec)) symbolicCombinesCard

/-- THE TIED CARD OF 'tidegatelaw28.SymbolicLanguages'. -/
def symbolicLanguagesCard : Claim7 := { stood := { row := symbolicLanguagesRow, standIns := [], harness := (true, "68c136e8639a017e0e3ce7370c697ef2ab33944597f7f7e68364ae2ff6cb31fb"), looks := false }, kinds := [], alts := [], laidByText := true, laidKinds := [.data], laidTests := true, laidLooks := .later }
def SymbolicLanguagesCardSaid : Prop := Claim7.holds Tryz.pinned (.plain (OpenSpec.ofChange symbolicLanguagesSpec)) symbolicLanguagesCard

/-- THE SECOND FORM's CARD OF 'tidegatelaw28.SymbolicChecks'. -/
def symbolicChecksUptoCard : Claim7 := { stood := { row := symbolicChecksUptoRow, standIns := [], harness := (true, "68c136e8639a017e0e3ce7370c697ef2ab33944597f7f7e68364ae2ff6cb31fb"), looks := false }, kinds := [], alts := [], laidByText := true, laidKinds := [.data], laidTests := true, laidLooks := .later }
def SymbolicChecksUptoCardSaid : Prop := Claim7.holds Tryz.pinned (.plain (OpenSpec.upto symbolicChecksSpec)) symbolicChecksUptoCard

/-- THE SECOND FORM's CARD OF 'tidegatelaw28.SymbolicTranslates'. -/
def symbolicTranslatesUptoCard : Claim7 := { stood := { row := symbolicTranslatesUptoRow, standIns := [], harness := (true, "68c136e8639a017e0e3ce7370c697ef2ab33944597f7f7e68364ae2ff6cb31fb"), looks := false }, kinds := [], alts := [], laidByText := true, laidKinds := [.data], laidTests := true, laidLooks := .later }
def SymbolicTranslatesUptoCardSaid : Prop := Claim7.holds Tryz.pinned (.plain (OpenSpec.upto symbolicTranslatesSpec)) symbolicTranslatesUptoCard

/-- THE SECOND FORM's CARD OF 'tidegatelaw28.SymbolicEmpties'. -/
def symbolicEmptiesUptoCard : Claim7 := { stood := { row := symbolicEmptiesUptoRow, standIns := [], harness := (true, "68c136e8639a017e0e3ce7370c697ef2ab33944597f7f7e68364ae2ff6cb31fb"), looks := false }, kinds := [], alts := [], laidByText := true, laidKinds := [.data], laidTests := true, laidLooks := .later }
def SymbolicEmptiesUptoCardSaid : Prop := Claim7.holds Tryz.pinned (.plain (OpenSpec.upto symbolicEmptiesSpec)) symbolicEmptiesUptoCard

/-- THE SECOND FORM's CARD OF 'tidegatelaw28.SymbolicWitnesses'. -/
def symbolicWitnessesUptoCard : Claim7 := { stood := { row := symbolicWitnessesUptoRow, standIns := [], harness := (true, "68c136e8639a017e0e3ce7370c697ef2ab33944597f7f7e68364ae2ff6cb31fb"), looks := false }, kinds := [], alts := [], laidByText := true, laidKinds := [.data], laidTests := true, laidLooks := .later }
def SymbolicWitnessesUptoCardSaid : Prop := Claim7.holds Tryz.pinned (.plain (OpenSpec.upto symbolicWitnessesSpec)) symbolicWitnessesUptoCard

/-- THE SECOND FORM's CARD OF 'tidegatelaw28.SymbolicCombines'. -/
def symbolicCombinesUptoCard : Claim7 := { stood := { row := symbolicCombinesUptoRow, standIns := [], harness := (true, "68c136e8639a017e0e3ce7370c697ef2ab33944597f7f7e68364ae2ff6cb31fb"), looks := false }, kinds := [], alts := [], laidByText := true, laidKinds := [.data], laidTests := true, laidLooks := .later }
def SymbolicCombinesUptoCardSaid : Prop := Claim7.holds Tryz.pinned (.plain (OpenSpec.upto symbolicCombinesSpec)) symbolicCombinesUptoCard

/-- THE SECOND FORM's CARD OF 'tidegatelaw28.SymbolicLanguages'. -/
def symbolicLanguagesUptoCard : Claim7 := { stood := { row := symbolicLanguagesUptoRow, standIns := [], harness := (true, "68c136e8639a017e0e3ce7370c697ef2ab33944597f7f7e68364ae2ff6cb31fb"), looks := false }, kinds := [], alts := [], laidByText := true, laidKinds := [.data], laidTests := true, laidLooks := .later }
def SymbolicLanguagesUptoCardSaid : Prop := Claim7.holds Tryz.pinned (.plain (OpenSpec.upto symbolicLanguagesSpec)) symbolicLanguagesUptoCard
end Rows
end Go.Proofs.YtildiiggamckaaaGreatDoor
