/-
  DERIVED. GIVEN WITH THE SEED: THE CARDS: each row of YtkdolgokaefhfaaDoorRows.lean that lists a variable, with what it lists TIED to the program's text (the seventh form; the later family's looks); each row that meets fmt, with fmt's text TOLD by the authors' own Lean function (tested against real Go, not proved from fmt's source: count such statements apart). THE CARD IS WHAT COUNTS. Prove the row's statement (the work); the ties are given (YtkdolgokaefhfaaDoorTie.lean); close each card by the builder's one call (the guide's Derived/Test/ToyasCard.lean, 'card_holds'). Laid BY PROGRAM, IN A SANDBOX (cutbox-door.mjs). By AI agents, Wed Nov 11 2026. No macro, syntax, notation, axiom, sorry.
-/
import Derived.Test.YtkdolgokaefhfaaDoorRows
import GoSem.ClaimSeven
namespace Go.Proofs.YtkdolgokaefhfaaDoor
namespace Rows

/-- THE TIED CARD OF 'skipgraphlaw33.MoveKeeps'. -/
def moveKeepsCard : Claim7 := { stood := { row := moveKeepsRow, standIns := [], harness := (true, "9bc654060fb57a158de03cd323ea86ed756621a44ae973d037d704991297de42"), looks := false }, kinds := [], alts := [], laidByText := true, laidKinds := [.data], laidTests := true, laidLooks := .later }
def MoveKeepsCardSaid : Prop := Claim7.holds Tryd.pinned (.plain (OpenSpec.ofChange moveKeepsSpec)) moveKeepsCard

/-- THE TIED CARD OF 'skipgraphlaw33.MoveBalanced'. -/
def moveBalancedCard : Claim7 := { stood := { row := moveBalancedRow, standIns := [], harness := (true, "9bc654060fb57a158de03cd323ea86ed756621a44ae973d037d704991297de42"), looks := false }, kinds := [], alts := [], laidByText := true, laidKinds := [.data], laidTests := true, laidLooks := .later }
def MoveBalancedCardSaid : Prop := Claim7.holds Tryd.pinned (.plain (OpenSpec.ofChange moveBalancedSpec)) moveBalancedCard

/-- THE SECOND FORM's CARD OF 'skipgraphlaw33.MoveKeeps'. -/
def moveKeepsUptoCard : Claim7 := { stood := { row := moveKeepsUptoRow, standIns := [], harness := (true, "9bc654060fb57a158de03cd323ea86ed756621a44ae973d037d704991297de42"), looks := false }, kinds := [], alts := [], laidByText := true, laidKinds := [.data], laidTests := true, laidLooks := .later }
def MoveKeepsUptoCardSaid : Prop := Claim7.holds Tryd.pinned (.plain (OpenSpec.upto moveKeepsSpec)) moveKeepsUptoCard

/-- THE SECOND FORM's CARD OF 'skipgraphlaw33.MoveBalanced'. -/
def moveBalancedUptoCard : Claim7 := { stood := { row := moveBalancedUptoRow, standIns := [], harness := (true, "9bc654060fb57a158de03cd323ea86ed756621a44ae973d037d704991297de42"), looks := false }, kinds := [], alts := [], laidByText := true, laidKinds := [.data], laidTests := true, laidLooks := .later }
def MoveBalancedUptoCardSaid : Prop := Claim7.holds Tryd.pinned (.plain (OpenSpec.upto moveBalancedSpec)) moveBalancedUptoCard
end Rows
end Go.Proofs.YtkdolgokaefhfaaDoor
