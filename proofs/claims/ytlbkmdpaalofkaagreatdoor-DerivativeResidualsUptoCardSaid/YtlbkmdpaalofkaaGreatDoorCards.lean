/-
  DERIVED. GIVEN WITH THE SEED: THE CARDS: each row of YtlbkmdpaalofkaaGreatDoorRows.lean that lists a variable, with what it lists TIED to the program's text (the seventh form; the later family's looks); each row that meets fmt, with fmt's text TOLD by the authors' own Lean function (tested against real Go, not proved from fmt's source: count such statements apart). THE CARD IS WHAT COUNTS. Prove the row's statement (the work); the ties are given (YtlbkmdpaalofkaaGreatDoorTie.lean); close each card by the builder's one call (the guide's Derived/Test/ToyasCard.lean, 'card_holds'). Laid BY PROGRAM, IN A SANDBOX (cutbox-door.mjs). By AI agents, Wed Nov 11 2026. No macro, syntax, notation, axiom, sorry.
-/
import Derived.Test.YtlbkmdpaalofkaaGreatDoorRows
import GoSem.ClaimSeven
namespace Go.Proofs.YtlbkmdpaalofkaaGreatDoor
namespace Rows

/-- THE TIED CARD OF 'tidegatelaw22.DerivativeDerives'. -/
def derivativeDerivesCard : Claim7 := { stood := { row := derivativeDerivesRow, standIns := [], harness := (true, "10446b8c8c5e3ca7e7689292baf4b85e47f768e7a599ebaed040d2bf7dfd671d"), looks := false }, kinds := [], alts := [], laidByText := true, laidKinds := [.data], laidTests := true, laidLooks := .later }
def DerivativeDerivesCardSaid : Prop := Claim7.holds Tryz.pinned (.plain (OpenSpec.ofChange derivativeDerivesSpec)) derivativeDerivesCard

/-- THE TIED CARD OF 'tidegatelaw22.DerivativeResiduals'. -/
def derivativeResidualsCard : Claim7 := { stood := { row := derivativeResidualsRow, standIns := [], harness := (true, "10446b8c8c5e3ca7e7689292baf4b85e47f768e7a599ebaed040d2bf7dfd671d"), looks := false }, kinds := [], alts := [], laidByText := true, laidKinds := [.data], laidTests := true, laidLooks := .later }
def DerivativeResidualsCardSaid : Prop := Claim7.holds Tryz.pinned (.plain (OpenSpec.ofChange derivativeResidualsSpec)) derivativeResidualsCard

/-- THE TIED CARD OF 'tidegatelaw22.DerivativeNests'. -/
def derivativeNestsCard : Claim7 := { stood := { row := derivativeNestsRow, standIns := [], harness := (true, "10446b8c8c5e3ca7e7689292baf4b85e47f768e7a599ebaed040d2bf7dfd671d"), looks := false }, kinds := [], alts := [], laidByText := true, laidKinds := [.data], laidTests := true, laidLooks := .later }
def DerivativeNestsCardSaid : Prop := Claim7.holds Tryz.pinned (.plain (OpenSpec.ofChange derivativeNestsSpec)) derivativeNestsCard

/-- THE SECOND FORM's CARD OF 'tidegatelaw22.DerivativeDerives'. -/
def derivativeDerivesUptoCard : Claim7 := { stood := { row := derivativeDerivesUptoRow, standIns := [], harness := (true, "10446b8c8c5e3ca7e7689292baf4b85e47f768e7a599ebaed040d2bf7dfd671d"), looks := false }, kinds := [], alts := [], laidByText := true, laidKinds := [.data], laidTests := true, laidLooks := .later }
def DerivativeDerivesUptoCardSaid : Prop := Claim7.holds Tryz.pinned (.plain (OpenSpec.upto derivativeDerivesSpec)) derivativeDerivesUptoCard

/-- THE SECOND FORM's CARD OF 'tidegatelaw22.DerivativeResiduals'. -/
def derivativeResidualsUptoCard : Claim7 := { stood := { row := derivativeResidualsUptoRow, standIns := [], harness := (true, "10446b8c8c5e3ca7e7689292baf4b85e47f768e7a599ebaed040d2bf7dfd671d"), looks := false }, kinds := [], alts := [], laidByText := true, laidKinds := [.data], laidTests := true, laidLooks := .later }
def DerivativeResidualsUptoCardSaid : Prop := Claim7.holds Tryz.pinned (.plain (OpenSpec.upto derivativeResidualsSpec)) derivativeResidualsUptoCard

/-- THE SECOND FORM's CARD OF 'tidegatelaw22.DerivativeNests'. -/
def derivativeNestsUptoCard : Claim7 := { stood := { row := derivativeNestsUptoRow, standIns := [], harness := (true, "10446b8c8c5e3ca7e7689292baf4b85e47f768e7a599ebaed040d2bf7dfd671d"), looks := false }, kinds := [], alts := [], laidByText := true, laidKinds := [.data], laidTests := true, laidLooks := .later }
def DerivativeNestsUptoCardSaid : Prop := Claim7.holds Tryz.pinned (.plain (OpenSpec.upto derivativeNestsSpec)) derivativeNestsUptoCard
end Rows
end Go.Proofs.YtlbkmdpaalofkaaGreatDoor
