/-
  DERIVED. GIVEN WITH THE SEED: THE CARDS: each row of YtlbkmdpaalofkaaDoorRows.lean that lists a variable, with what it lists TIED to the program's text (the seventh form; the later family's looks); each row that meets fmt, with fmt's text TOLD by the authors' own Lean function (tested against real Go, not proved from fmt's source: count such statements apart). THE CARD IS WHAT COUNTS. Prove the row's statement (the work); the ties are given (YtlbkmdpaalofkaaDoorTie.lean); close each card by the builder's one call (the guide's Derived/Test/ToyasCard.lean, 'card_holds'). Laid BY PROGRAM, IN A SANDBOX (cutbox-door.mjs). By AI agents, Wed Nov 11 2026. No macro, syntax, notation, axiom, sorry.
-/
import Derived.Test.YtlbkmdpaalofkaaDoorRows
import GoSem.ClaimSeven
namespace Go.Proofs.YtlbkmdpaalofkaaDoor
namespace Rows

/-- THE TIED CARD OF 'tidegatelaw22.DerivativeGuards'. -/
def derivativeGuardsCard : Claim7 := { stood := { row := derivativeGuardsRow, standIns := [], harness := (true, "433660c3e28642f62b65943b5a36d2751e5f0f085e8dc5b9b8d955c7105a55fb"), looks := false }, kinds := [], alts := [], laidByText := true, laidKinds := [.data], laidTests := true, laidLooks := .later }
def DerivativeGuardsCardSaid : Prop := Claim7.holds Tryd.pinned (.plain (OpenSpec.ofChange derivativeGuardsSpec)) derivativeGuardsCard

/-- THE TIED CARD OF 'tidegatelaw22.DerivativeShrinks'. -/
def derivativeShrinksCard : Claim7 := { stood := { row := derivativeShrinksRow, standIns := [], harness := (true, "433660c3e28642f62b65943b5a36d2751e5f0f085e8dc5b9b8d955c7105a55fb"), looks := false }, kinds := [], alts := [], laidByText := true, laidKinds := [.data], laidTests := true, laidLooks := .later }
def DerivativeShrinksCardSaid : Prop := Claim7.holds Tryd.pinned (.plain (OpenSpec.ofChange derivativeShrinksSpec)) derivativeShrinksCard

/-- THE SECOND FORM's CARD OF 'tidegatelaw22.DerivativeGuards'. -/
def derivativeGuardsUptoCard : Claim7 := { stood := { row := derivativeGuardsUptoRow, standIns := [], harness := (true, "433660c3e28642f62b65943b5a36d2751e5f0f085e8dc5b9b8d955c7105a55fb"), looks := false }, kinds := [], alts := [], laidByText := true, laidKinds := [.data], laidTests := true, laidLooks := .later }
def DerivativeGuardsUptoCardSaid : Prop := Claim7.holds Tryd.pinned (.plain (OpenSpec.upto derivativeGuardsSpec)) derivativeGuardsUptoCard

/-- THE SECOND FORM's CARD OF 'tidegatelaw22.DerivativeShrinks'. -/
def derivativeShrinksUptoCard : Claim7 := { stood := { row := derivativeShrinksUptoRow, standIns := [], harness := (true, "433660c3e28642f62b65943b5a36d2751e5f0f085e8dc5b9b8d955c7105a55fb"), looks := false }, kinds := [], alts := [], laidByText := true, laidKinds := [.data], laidTests := true, laidLooks := .later }
def DerivativeShrinksUptoCardSaid : Prop := Claim7.holds Tryd.pinned (.plain (OpenSpec.upto derivativeShrinksSpec)) derivativeShrinksUptoCard
end Rows
end Go.Proofs.YtlbkmdpaalofkaaDoor
