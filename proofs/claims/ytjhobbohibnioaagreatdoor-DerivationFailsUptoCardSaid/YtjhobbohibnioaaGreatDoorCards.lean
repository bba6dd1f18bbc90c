/-
  DERIVED. GIVEN WITH THE SEED: THE CARDS: each row of YtjhobbohibnioaaGreatDoorRows.lean that lists a variable, with what it lists TIED to the program's text (the seventh form; the later family's looks); each row that meets fmt, with fmt's text TOLD by the authors' own Lean function (tested against real Go, not proved from fmt's source: count such statements apart). THE CARD IS WHAT COUNTS. Prove the row's statement (the work); the ties are given (YtjhobbohibnioaaGreatDoorTie.lean); close each card by the builder's one call (the guide's Derived/Test/ToyasCard.lean, 'card_holds'). Laid BY PROGRAM, IN A SANDBOX (cutbox-door.mjs). By AI agents, Wed Nov 11 2026. No macro, syntax, notation, axiom, sorry.
-/
import Derived.Test.YtjhobbohibnioaaGreatDoorRows
import GoSem.ClaimSeven
namespace Go.Proofs.YtjhobbohibnioaaGreatDoor
namespace Rows

/-- THE TIED CARD OF 'tidegatetop.TopDerivationsCover'. -/
def topDerivationsCoverCard : Claim7 := { stood := { row := topDerivationsCoverRow, standIns := [], harness := (true, "b2981500a2c2edde20daebfb5e694a25f0353ecea704b96a67af1e1c64681147"), looks := false }, kinds := [], alts := [], laidByText := true, laidKinds := [.data, .data, .data, .data], laidTests := true, laidLooks := .later }
def TopDerivationsCoverCardSaid : Prop := Claim7.holds Tryz.pinned (.plain (OpenSpec.ofChange topDerivationsCoverSpec)) topDerivationsCoverCard

/-- THE TIED CARD OF 'tidegatelaw21.DerivationChecks'. -/
def derivationChecksCard : Claim7 := { stood := { row := derivationChecksRow, standIns := [], harness := (true, "b2981500a2c2edde20daebfb5e694a25f0353ecea704b96a67af1e1c64681147"), looks := false }, kinds := [], alts := [], laidByText := true, laidKinds := [.data], laidTests := true, laidLooks := .later }
def DerivationChecksCardSaid : Prop := Claim7.holds Tryz.pinned (.plain (OpenSpec.ofChange derivationChecksSpec)) derivationChecksCard

/-- THE TIED CARD OF 'tidegatelaw21.DerivationVerifies'. -/
def derivationVerifiesCard : Claim7 := { stood := { row := derivationVerifiesRow, standIns := [], harness := (true, "b2981500a2c2edde20daebfb5e694a25f0353ecea704b96a67af1e1c64681147"), looks := false }, kinds := [], alts := [], laidByText := true, laidKinds := [.data], laidTests := true, laidLooks := .later }
def DerivationVerifiesCardSaid : Prop := Claim7.holds Tryz.pinned (.plain (OpenSpec.ofChange derivationVerifiesSpec)) derivationVerifiesCard

/-- THE TIED CARD OF 'tidegatelaw21.DerivationCompares'. -/
def derivationComparesCard : Claim7 := { stood := { row := derivationComparesRow, standIns := [], harness := (true, "b2981500a2c2edde20daebfb5e694a25f0353ecea704b96a67af1e1c64681147"), looks := false }, kinds := [], alts := [], laidByText := true, laidKinds := [.data], laidTests := true, laidLooks := .later }
def DerivationComparesCardSaid : Prop := Claim7.holds Tryz.pinned (.plain (OpenSpec.ofChange derivationComparesSpec)) derivationComparesCard

/-- THE TIED CARD OF 'tidegatelaw21.DerivationBuilds'. -/
def derivationBuildsCard : Claim7 := { stood := { row := derivationBuildsRow, standIns := [], harness := (true, "b2981500a2c2edde20daebfb5e694a25f0353ecea704b96a67af1e1c64681147"), looks := false }, kinds := [], alts := [], laidByText := true, laidKinds := [.data], laidTests := true, laidLooks := .later }
def DerivationBuildsCardSaid : Prop := Claim7.holds Tryz.pinned (.plain (OpenSpec.ofChange derivationBuildsSpec)) derivationBuildsCard

/-- THE TIED CARD OF 'tidegatelaw21.DerivationLists'. -/
def derivationListsCard : Claim7 := { stood := { row := derivationListsRow, standIns := [], harness := (true, "b2981500a2c2edde20daebfb5e694a25f0353ecea704b96a67af1e1c64681147"), looks := false }, kinds := [], alts := [], laidByText := true, laidKinds := [.data], laidTests := true, laidLooks := .later }
def DerivationListsCardSaid : Prop := Claim7.holds Tryz.pinned (.plain (OpenSpec.ofChange derivationListsSpec)) derivationListsCard

/-- THE TIED CARD OF 'tidegatelaw21.DerivationFails'. -/
def derivationFailsCard : Claim7 := { stood := { row := derivationFailsRow, standIns := [], harness := (true, "b2981500a2c2edde20daebfb5e694a25f0353ecea704b96a67af1e1c64681147"), looks := false }, kinds := [], alts := [], laidByText := true, laidKinds := [.data], laidTests := true, laidLooks := .later }
def DerivationFailsCardSaid : Prop := Claim7.holds Tryz.pinned (.plain (OpenSpec.ofChange derivationFailsSpec)) derivationFailsCard

/-- THE TIED CARD OF 'tidegatelaw21.DerivationProves'. -/
def derivationProvesCard : Claim7 := { stood := { row := derivationProvesRow, standIns := [], harness := (true, "b2981500a2c2edde20daebfb5e694a25f0353ecea704b96a67af1e1c64681147"), looks := false }, kinds := [], alts := [], laidByText := true, laidKinds := [.data, .data, .data, .data], laidTests := true, laidLooks := .later }
def DerivationProvesCardSaid : Prop := Claim7.holds Tryz.pinned (.plain (OpenSpec.ofChange derivationProvesSpec)) derivationProvesCard

/-- THE TIED CARD OF 'tidegatelaw21.DerivationAgrees'. -/
def derivationAgreesCard : Claim7 := { stood := { row := derivationAgreesRow, standIns := [], harness := (true, "b2981500a2c2edde20daebfb5e694a25f0353ecea704b96a67af1e1c64681147"), looks := false }, kinds := [], alts := [], laidByText := true, laidKinds := [.data, .data, .data, .data], laidTests := true, laidLooks := .later }
def DerivationAgreesCardSaid : Prop := Claim7.holds Tryz.pinned (.plain (OpenSpec.ofChange derivationAgreesSpec)) derivationAgreesCard

/-- THE SECOND FORM's CARD OF 'tidegatetop.TopDerivationsCover'. -/
def topDerivationsCoverUptoCard : Claim7 := { stood := { row := topDerivationsCoverUptoRow, standIns := [], harness := (true, "b2981500a2c2edde20daebfb5e694a25f0353ecea704b96a67af1e1c64681147"), looks := false }, kinds := [], alts := [], laidByText := true, laidKinds := [.data, .data, .data, .data], laidTests := true, laidLooks := .later }
def TopDerivationsCoverUptoCardSaid : Prop := Claim7.holds Tryz.pinned (.plain (OpenSpec.upto topDerivationsCoverSpec)) topDerivationsCoverUptoCard

/-- THE SECOND FORM's CARD OF 'tidegatelaw21.DerivationChecks'. -/
def derivationChecksUptoCard : Claim7 := { stood := { row := derivationChecksUptoRow, standIns := [], harness := (true, "b2981500a2c2edde20daebfb5e694a25f0353ecea704b96a67af1e1c64681147"), looks := false }, kinds := [], alts := [], laidByText := true, laidKinds := [.data], laidTests := true, laidLooks := .later }
def DerivationChecksUptoCardSaid : Prop := Claim7.holds Tryz.pinned (.plain (OpenSpec.upto derivationChecksSpec)) derivationChecksUptoCard

/-- THE SECOND FORM's CARD OF 'tidegatelaw21.DerivationVerifies'. -/
def derivationVerifiesUptoCard : Claim7 := { stood := { row := derivationVerifiesUptoRow, standIns := [], harness := (true, "b2981500a2c2edde20daebfb5e694a25f0353ecea704b96a67af1e1c64681147"), looks := false }, kinds := [], alts := [], laidByText := true, laidKinds := [.data], laidTests := true, laidLooks := .later }
def DerivationVerifiesUptoCardSaid : Prop := Claim7.holds Tryz.pinned (.plain (OpenSpec.upto derivationVerifiesSpec)) derivationVerifiesUptoCard

/-- THE SECOND FORM's CARD OF 'tidegatelaw21.DerivationCompares'. -/
def derivationComparesUptoCard : Claim7 := { stood := { row := derivationComparesUptoRow, standIns := [], harness := (true, "b2981500a2c2edde20daebfb5e694a25f0353ecea704b96a67af1e1c64681147"), looks := false }, kinds := [], alts := [], laidByText := true, laidKinds := [.data], laidTests := true, laidLooks := .later }
def DerivationComparesUptoCardSaid : Prop := Claim7.holds Tryz.pinned (.plain (OpenSpec.upto derivationComparesSpec)) derivationComparesUptoCard

/-- THE SECOND FORM's CARD OF 'tidegatelaw21.DerivationBuilds'. -/
def derivationBuildsUptoCard : Claim7 := { stood := { row := derivationBuildsUptoRow, standIns := [], harness := (true, "b2981500a2c2edde20daebfb5e694a25f0353ecea704b96a67af1e1c64681147"), looks := false }, kinds := [], alts := [], laidByText := true, laidKinds := [.data], laidTests := true, laidLooks := .later }
def DerivationBuildsUptoCardSaid : Prop := Claim7.holds Tryz.pinned (.plain (OpenSpec.upto derivationBuildsSpec)) derivationBuildsUptoCard

/-- THE SECOND FORM's CARD OF 'tidegatelaw21.DerivationLists'. -/
def derivationListsUptoCard : Claim7 := { stood := { row := derivationListsUptoRow, standIns := [], harness := (true, "b2981500a2c2edde20daebfb5e694a25f0353ecea704b96a67af1e1c64681147"), looks := false }, kinds := [], alts := [], laidByText := true, laidKinds := [.data], laidTests := true, laidLooks := .later }
def DerivationListsUptoCardSaid : Prop := Claim7.holds Tryz.pinned (.plain (OpenSpec.upto derivationListsSpec)) derivationListsUptoCard

/-- THE SECOND FORM's CARD OF 'tidegatelaw21.DerivationFails'. -/
def derivationFailsUptoCard : Claim7 := { stood := { row := derivationFailsUptoRow, standIns := [], harness := (true, "b2981500a2c2edde20daebfb5e694a25f0353ecea704b96a67af1e1c64681147"), looks := false }, kinds := [], alts := [], laidByText := true, laidKinds := [.data], laidTests := true, laidLooks := .later }
def DerivationFailsUptoCardSaid : Prop := Claim7.holds Tryz.pinned (.plain (OpenSpec.upto derivationFailsSpec)) derivationFailsUptoCard

/-- THE SECOND FORM's CARD OF 'tidegatelaw21.DerivationProves'. -/
def derivationProvesUptoCard : Claim7 := { stood := { row := derivationProvesUptoRow, standIns := [], harness := (true, "b2981500a2c2edde20daebfb5e694a25f0353ecea704b96a67af1e1c64681147"), looks := false }, kinds := [], alts := [], laidByText := true, laidKinds := [.data, .data, .data, .data], laidTests := true, laidLooks := .later }
def DerivationProvesUptoCardSaid : Prop := Claim7.holds Tryz.pinned (.plain (OpenSpec.upto derivationProvesSpec)) derivationProvesUptoCard

/-- THE SECOND FORM's CARD OF 'tidegatelaw21.DerivationAgrees'. -/
def derivationAgreesUptoCard : Claim7 := { stood := { row := derivationAgreesUptoRow, standIns := [], harness := (true, "b2981500a2c2edde20daebfb5e694a25f0353ecea704b96a67af1e1c64681147"), looks := false }, kinds := [], alts := [], laidByText := true, laidKinds := [.data, .data, .data, .data], laidTests := true, laidLooks := .later }
def DerivationAgreesUptoCardSaid : Prop := Claim7.holds Tryz.pinned (.plain (OpenSpec.upto derivationAgreesSpec)) derivationAgreesUptoCard
end Rows
end Go.Proofs.YtjhobbohibnioaaGreatDoor
