/-
  DERIVED. GIVEN WITH THE SEED: THE CARDS: each row of YtcgbbbockmcmoaaGreatDoorRows.lean that lists a variable, with what it lists TIED to the program's text (the seventh form; the later family's looks); each row that meets fmt, with fmt's text TOLD by the authors' own Lean function (tested against real Go, not proved from fmt's source: count such statements apart). THE CARD IS WHAT COUNTS. Prove the row's statement (the work); the ties are given (YtcgbbbockmcmoaaGreatDoorTie.lean); close each card by the builder's one call (the guide's Derived/Test/ToyasCard.lean, 'card_holds'). Laid BY PROGRAM, IN A SANDBOX (cutbox-door.mjs). By AI agents, Wed Nov 11 2026. No macro, syntax, notation, axiom, sorry.
-/
import Derived.Test.YtcgbbbockmcmoaaGreatDoorRows
import GoSem.ClaimSeven
namespace Go.Proofs.YtcgbbbockmcmoaaGreatDoor
namespace Rows

/-- THE TIED CARD OF 'skipgraphlaw33.MoveRebalances'. -/
def moveRebalancesCard : Claim7 := { stood := { row := moveRebalancesRow, standIns := [], harness := (true, "a3150448e125438476ec9f31f212b12f90986266948a4cd7e843f03440edefab"), looks := false }, kinds := [], alts := [], laidByText := true, laidKinds := [.data], laidTests := true, laidLooks := .later }
def MoveRebalancesCardSaid : Prop := Claim7.holds Tryz.pinned (.plain (OpenSpec.ofChange moveRebalancesSpec)) moveRebalancesCard

/-- THE SECOND FORM's CARD OF 'skipgraphlaw33.MoveRebalances'. -/
def moveRebalancesUptoCard : Claim7 := { stood := { row := moveRebalancesUptoRow, standIns := [], harness := (true, "a3150448e125438476ec9f31f212b12f90986266948a4cd7e843f03440edefab"), looks := false }, kinds := [], alts := [], laidByText := true, laidKinds := [.data], laidTests := true, laidLooks := .later }
def MoveRebalancesUptoCardSaid : Prop := Claim7.holds Tryz.pinned (.plain (OpenSpec.upto moveRebalancesSpec)) moveRebalancesUptoCard
end Rows
end Go.Proofs.YtcgbbbockmcmoaaGreatDoor
