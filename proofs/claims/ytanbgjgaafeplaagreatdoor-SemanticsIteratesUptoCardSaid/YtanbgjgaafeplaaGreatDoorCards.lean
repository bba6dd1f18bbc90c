/-
  DERIVED. GIVEN WITH THE SEED: THE CARDS: each row of YtanbgjgaafeplaaGreatDoorRows.lean that lists a variable, with what it lists TIED to the program's text (the seventh form; the later family's looks); each row that meets fmt, with fmt's text TOLD by the authors' own Lean function (tested against real Go, not proved from fmt's source: count such statements apart). THE CARD IS WHAT COUNTS. Prove the row's statement (the work); the ties are given (YtanbgjgaafeplaaGreatDoorTie.lean); close each card by the builder's one call (the guide's Derived/Test/ToyasCard.lean, 'card_holds'). Laid BY PROGRAM, IN A SANDBOX (cutbox-door.mjs). By AI agents, Wed Nov 11 2026. No macro, syntax, notation, axiom, sorry.
-/
import Derived.Test.YtanbgjgaafeplaaGreatDoorRows
import GoSem.ClaimSeven
namespace Go.Proofs.YtanbgjgaafeplaaGreatDoor
namespace Rows

/-- THE TIED CARD OF 'tidegatelaw18.SemanticsMatches'. -/
def semanticsMatchesCard : Claim7 := { stood := { row := semanticsMatchesRow, standIns := [], harness := (true, "fb6b8d6c1c38f42df8db5a1fc01719996ee7bd168b2a0208520a4038ba32b143"), looks := false }, kinds := [], alts := [], laidByText := true, laidKinds := [.data, .data, .data, .data], laidTests := true, laidLooks := .later }
def SemanticsMatchesCardSaid : Prop := Claim7.holds Tryz.pinned (.plain (OpenSpec.ofChange semanticsMatchesSpec)) semanticsMatchesCard

/-- THE TIED CARD OF 'tidegatelaw18.SemanticsChooses'. -/
def semanticsChoosesCard : Claim7 := { stood := { row := semanticsChoosesRow, standIns := [], harness := (true, "fb6b8d6c1c38f42df8db5a1fc01719996ee7bd168b2a0208520a4038ba32b143"), looks := false }, kinds := [], alts := [], laidByText := true, laidKinds := [.data, .data, .data, .data], laidTests := true, laidLooks := .later }
def SemanticsChoosesCardSaid : Prop := Claim7.holds Tryz.pinned (.plain (OpenSpec.ofChange semanticsChoosesSpec)) semanticsChoosesCard

/-- THE TIED CARD OF 'tidegatelaw18.SemanticsGrows'. -/
def semanticsGrowsCard : Claim7 := { stood := { row := semanticsGrowsRow, standIns := [], harness := (true, "fb6b8d6c1c38f42df8db5a1fc01719996ee7bd168b2a0208520a4038ba32b143"), looks := false }, kinds := [], alts := [], laidByText := true, laidKinds := [.data, .data, .data, .data], laidTests := true, laidLooks := .later }
def SemanticsGrowsCardSaid : Prop := Claim7.holds Tryz.pinned (.plain (OpenSpec.ofChange semanticsGrowsSpec)) semanticsGrowsCard

/-- THE TIED CARD OF 'tidegatelaw18.SemanticsShifts'. -/
def semanticsShiftsCard : Claim7 := { stood := { row := semanticsShiftsRow, standIns := [], harness := (true, "fb6b8d6c1c38f42df8db5a1fc01719996ee7bd168b2a0208520a4038ba32b143"), looks := false }, kinds := [], alts := [], laidByText := true, laidKinds := [.data, .data, .data, .data], laidTests := true, laidLooks := .later }
def SemanticsShiftsCardSaid : Prop := Claim7.holds Tryz.pinned (.plain (OpenSpec.ofChange semanticsShiftsSpec)) semanticsShiftsCard

/-- THE TIED CARD OF 'tidegatelaw18.SemanticsIterates'. -/
def semanticsIteratesCard : Claim7 := { stood := { row := semanticsIteratesRow, standIns := [], harness := (true, "fb6b8d6c1c38f42df8db5a1fc01719996ee7bd168b2a0208520a4038ba32b143"), looks := false }, kinds := [], alts := [], laidByText := true, laidKinds := [.data, .data, .data, .data], laidTests := true, laidLooks := .later }
def SemanticsIteratesCardSaid : Prop := Claim7.holds Tryz.pinned (.plain (OpenSpec.ofChange semanticsIteratesSpec)) semanticsIteratesCard

/-- THE TIED CARD OF 'tidegatelaw18.SemanticsCounts'. -/
def semanticsCountsCard : Claim7 := { stood := { row := semanticsCountsRow, standIns := [], harness := (true, "fb6b8d6c1c38f42df8db5a1fc01719996ee7bd168b2a0208520a4038ba32b143"), looks := false }, kinds := [], alts := [], laidByText := true, laidKinds := [.data, .data, .data, .data], laidTests := true, laidLooks := .later }
def SemanticsCountsCardSaid : Prop := Claim7.holds Tryz.pinned (.plain (OpenSpec.ofChange semanticsCountsSpec)) semanticsCountsCard

/-- THE TIED CARD OF 'tidegatelaw18.SemanticsBegins'. -/
def semanticsBeginsCard : Claim7 := { stood := { row := semanticsBeginsRow, standIns := [], harness := (true, "fb6b8d6c1c38f42df8db5a1fc01719996ee7bd168b2a0208520a4038ba32b143"), looks := false }, kinds := [], alts := [], laidByText := true, laidKinds := [.data, .data, .data, .data], laidTests := true, laidLooks := .later }
def SemanticsBeginsCardSaid : Prop := Claim7.holds Tryz.pinned (.plain (OpenSpec.ofChange semanticsBeginsSpec)) semanticsBeginsCard

/-- THE TIED CARD OF 'tidegatelaw18.SemanticsHolds'. -/
def semanticsHoldsCard : Claim7 := { stood := { row := semanticsHoldsRow, standIns := [], harness := (true, "fb6b8d6c1c38f42df8db5a1fc01719996ee7bd168b2a0208520a4038ba32b143"), looks := false }, kinds := [], alts := [], laidByText := true, laidKinds := [.data, .data, .data, .data], laidTests := true, laidLooks := .later }
def SemanticsHoldsCardSaid : Prop := Claim7.holds Tryz.pinned (.plain (OpenSpec.ofChange semanticsHoldsSpec)) semanticsHoldsCard

/-- THE TIED CARD OF 'tidegatelaw22.DerivativeSingles'. -/
def derivativeSinglesCard : Claim7 := { stood := { row := derivativeSinglesRow, standIns := [], harness := (true, "fb6b8d6c1c38f42df8db5a1fc01719996ee7bd168b2a0208520a4038ba32b143"), looks := false }, kinds := [], alts := [], laidByText := true, laidKinds := [.data, .data, .data, .data], laidTests := true, laidLooks := .later }
def DerivativeSinglesCardSaid : Prop := Claim7.holds Tryz.pinned (.plain (OpenSpec.ofChange derivativeSinglesSpec)) derivativeSinglesCard

/-- THE SECOND FORM's CARD OF 'tidegatelaw18.SemanticsMatches'. -/
def semanticsMatchesUptoCard : Claim7 := { stood := { row := semanticsMatchesUptoRow, standIns := [], harness := (true, "fb6b8d6c1c38f42df8db5a1fc01719996ee7bd168b2a0208520a4038ba32b143"), looks := false }, kinds := [], alts := [], laidByText := true, laidKinds := [.data, .data, .data, .data], laidTests := true, laidLooks := .later }
def SemanticsMatchesUptoCardSaid : Prop := Claim7.holds Tryz.pinned (.plain (OpenSpec.upto semanticsMatchesSpec)) semanticsMatchesUptoCard

/-- THE SECOND FORM's CARD OF 'tidegatelaw18.SemanticsChooses'. -/
def semanticsChoosesUptoCard : Claim7 := { stood := { row := semanticsChoosesUptoRow, standIns := [], harness := (true, "fb6b8d6c1c38f42df8db5a1fc01719996ee7bd168b2a0208520a4038ba32b143"), looks := false }, kinds := [], alts := [], laidByText := true, laidKinds := [.data, .data, .data, .data], laidTests := true, laidLooks := .later }
def SemanticsChoosesUptoCardSaid : Prop := Claim7.holds Tryz.pinned (.plain (OpenSpec.upto semanticsChoosesSpec)) semanticsChoosesUptoCard

/-- THE SECOND FORM's CARD OF 'tidegatelaw18.SemanticsGrows'. -/
def semanticsGrowsUptoCard : Claim7 := { stood := { row := semanticsGrowsUptoRow, standIns := [], harness := (true, "fb6b8d6c1c38f42df8db5a1fc01719996ee7bd168b2a0208520a4038ba32b143"), looks := false }, kinds := [], alts := [], laidByText := true, laidKinds := [.data, .data, .data, .data], laidTests := true, laidLooks := .later }
def SemanticsGrowsUptoCardSaid : Prop := Claim7.holds Tryz.pinned (.plain (OpenSpec.upto semanticsGrowsSpec)) semanticsGrowsUptoCard

/-- THE SECOND FORM's CARD OF 'tidegatelaw18.SemanticsShifts'. -/
def semanticsShiftsUptoCard : Claim7 := { stood := { row := semanticsShiftsUptoRow, standIns := [], harness := (true, "fb6b8d6c1c38f42df8db5a1fc01719996ee7bd168b2a0208520a4038ba32b143"), looks := false }, kinds := [], alts := [], laidByText := true, laidKinds := [.data, .data, .data, .data], laidTests := true, laidLooks := .later }
def SemanticsShiftsUptoCardSaid : Prop := Claim7.holds Tryz.pinned (.plain (OpenSpec.upto semanticsShiftsSpec)) semanticsShiftsUptoCard

/-- THE SECOND FORM's CARD OF 'tidegatelaw18.SemanticsIterates'. -/
def semanticsIteratesUptoCard : Claim7 := { stood := { row := semanticsIteratesUptoRow, standIns := [], harness := (true, "fb6b8d6c1c38f42df8db5a1fc01719996ee7bd168b2a0208520a4038ba32b143"), looks := false }, kinds := [], alts := [], laidByText := true, laidKinds := [.data, .data, .data, .data], laidTests := true, laidLooks := .later }
def SemanticsIteratesUptoCardSaid : Prop := Claim7.holds Tryz.pinned (.plain (OpenSpec.upto semanticsIteratesSpec)) semanticsIteratesUptoCard

/-- THE SECOND FORM's CARD OF 'tidegatelaw18.SemanticsCounts'. -/
def semanticsCountsUptoCard : Claim7 := { stood := { row := semanticsCountsUptoRow, standIns := [], harness := (true, "fb6b8d6c1c38f42df8db5a1fc01719996ee7bd168b2a0208520a4038ba32b143"), looks := false }, kinds := [], alts := [], laidByText := true, laidKinds := [.data, .data, .data, .data], laidTests := true, laidLooks := .later }
def SemanticsCountsUptoCardSaid : Prop := Claim7.holds Tryz.pinned (.plain (OpenSpec.upto semanticsCountsSpec)) semanticsCountsUptoCard

/-- THE SECOND FORM's CARD OF 'tidegatelaw18.SemanticsBegins'. -/
def semanticsBeginsUptoCard : Claim7 := { stood := { row := semanticsBeginsUptoRow, standIns := [], harness := (true, "fb6b8d6c1c38f42df8db5a1fc01719996ee7bd168b2a0208520a4038ba32b143"), looks := false }, kinds := [], alts := [], laidByText := true, laidKinds := [.data, .data, .data, .data], laidTests := true, laidLooks := .later }
def SemanticsBeginsUptoCardSaid : Prop := Claim7.holds Tryz.pinned (.plain (OpenSpec.upto semanticsBeginsSpec)) semanticsBeginsUptoCard

/-- THE SECOND FORM's CARD OF 'tidegatelaw18.SemanticsHolds'. -/
def semanticsHoldsUptoCard : Claim7 := { stood := { row := semanticsHoldsUptoRow, standIns := [], harness := (true, "fb6b8d6c1c38f42df8db5a1fc01719996ee7bd168b2a0208520a4038ba32b143"), looks := false }, kinds := [], alts := [], laidByText := true, laidKinds := [.data, .data, .data, .data], laidTests := true, laidLooks := .later }
def SemanticsHoldsUptoCardSaid : Prop := Claim7.holds Tryz.pinned (.plain (OpenSpec.upto semanticsHoldsSpec)) semanticsHoldsUptoCard

/-- THE SECOND FORM's CARD OF 'tidegatelaw22.DerivativeSingles'. -/
def derivativeSinglesUptoCard : Claim7 := { stood := { row := derivativeSinglesUptoRow, standIns := [], harness := (true, "fb6b8d6c1c38f42df8db5a1fc01719996ee7bd168b2a0208520a4038ba32b143"), looks := false }, kinds := [], alts := [], laidByText := true, laidKinds := [.data, .data, .data, .data], laidTests := true, laidLooks := .later }
def DerivativeSinglesUptoCardSaid : Prop := Claim7.holds Tryz.pinned (.plain (OpenSpec.upto derivativeSinglesSpec)) derivativeSinglesUptoCard
end Rows
end Go.Proofs.YtanbgjgaafeplaaGreatDoor
