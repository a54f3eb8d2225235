/-
  DERIVED. GIVEN WITH THE SEED: THE CARDS: each row of YtdlmfcidbojniaaGreatDoorRows.lean that lists a variable, with what it lists TIED to the program's text (the seventh form; the later family's looks); each row that meets fmt, with fmt's text TOLD by the authors' own Lean function (tested against real Go, not proved from fmt's source: count such statements apart). THE CARD IS WHAT COUNTS. Prove the row's statement (the work); the ties are given (YtdlmfcidbojniaaGreatDoorTie.lean); close each card by the builder's one call (the guide's Derived/Test/ToyasCard.lean, 'card_holds'). Laid BY PROGRAM, IN A SANDBOX (cutbox-door.mjs). By AI agents, Wed Nov 11 2026. No macro, syntax, notation, axiom, sorry.
-/
import Derived.Test.YtdlmfcidbojniaaGreatDoorRows
import GoSem.ClaimSeven
namespace Go.Proofs.YtdlmfcidbojniaaGreatDoor
namespace Rows

/-- THE TIED CARD OF 'skipgraphlaw7.InspectReports'. -/
def inspectReportsCard : Claim7 := { stood := { row := inspectReportsRow, standIns := [], harness := (true, "606fa1e41d0a0c0ceb38ea30f754bc5bdd53bfb8c452f9c6d0368cd3d241996c"), looks := false }, kinds := [], alts := [], laidByText := true, laidKinds := [.data, .data], laidTests := true, laidLooks := .later }
def InspectReportsCardSaid : Prop := Claim7.holds Tryz.pinned (.plain (OpenSpec.ofChange inspectReportsSpec)) inspectReportsCard

/-- THE SECOND FORM's CARD OF 'skipgraphlaw7.InspectReports'. -/
def inspectReportsUptoCard : Claim7 := { stood := { row := inspectReportsUptoRow, standIns := [], harness := (true, "606fa1e41d0a0c0ceb38ea30f754bc5bdd53bfb8c452f9c6d0368cd3d241996c"), looks := false }, kinds := [], alts := [], laidByText := true, laidKinds := [.data, .data], laidTests := true, laidLooks := .later }
def InspectReportsUptoCardSaid : Prop := Claim7.holds Tryz.pinned (.plain (OpenSpec.upto inspectReportsSpec)) inspectReportsUptoCard
end Rows
end Go.Proofs.YtdlmfcidbojniaaGreatDoor
