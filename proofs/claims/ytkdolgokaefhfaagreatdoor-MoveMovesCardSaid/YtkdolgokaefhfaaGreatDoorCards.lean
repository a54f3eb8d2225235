/-
  DERIVED. GIVEN WITH THE SEED: THE CARDS: each row of YtkdolgokaefhfaaGreatDoorRows.lean that lists a variable, with what it lists TIED to the program's text (the seventh form; the later family's looks); each row that meets fmt, with fmt's text TOLD by the authors' own Lean function (tested against real Go, not proved from fmt's source: count such statements apart). THE CARD IS WHAT COUNTS. Prove the row's statement (the work); the ties are given (YtkdolgokaefhfaaGreatDoorTie.lean); close each card by the builder's one call (the guide's Derived/Test/ToyasCard.lean, 'card_holds'). Laid BY PROGRAM, IN A SANDBOX (cutbox-door.mjs). By AI agents, Wed Nov 11 2026. No macro, syntax, notation, axiom, sorry.
-/
import Derived.Test.YtkdolgokaefhfaaGreatDoorRows
import GoSem.ClaimSeven
namespace Go.Proofs.YtkdolgokaefhfaaGreatDoor
namespace Rows

/-- THE TIED CARD OF 'skipgraphlaw33.MoveShifts'. -/
def moveShiftsCard : Claim7 := { stood := { row := moveShiftsRow, standIns := [], harness := (true, "8997c0789d988fa3c0d515ca6965e82d176f8db1b8e867c4d340c99f4a96230e"), looks := false }, kinds := [], alts := [], laidByText := true, laidKinds := [.data], laidTests := true, laidLooks := .later }
def MoveShiftsCardSaid : Prop := Claim7.holds Tryz.pinned (.plain (OpenSpec.ofChange moveShiftsSpec)) moveShiftsCard

/-- THE TIED CARD OF 'skipgraphlaw33.MoveValid'. -/
def moveValidCard : Claim7 := { stood := { row := moveValidRow, standIns := [], harness := (true, "8997c0789d988fa3c0d515ca6965e82d176f8db1b8e867c4d340c99f4a96230e"), looks := false }, kinds := [], alts := [], laidByText := true, laidKinds := [.data], laidTests := true, laidLooks := .later }
def MoveValidCardSaid : Prop := Claim7.holds Tryz.pinned (.plain (OpenSpec.ofChange moveValidSpec)) moveValidCard

/-- THE TIED CARD OF 'skipgraphlaw33.MoveMoves'. -/
def moveMovesCard : Claim7 := { stood := { row := moveMovesRow, standIns := [], harness := (true, "8997c0789d988fa3c0d515ca6965e82d176f8db1b8e867c4d340c99f4a96230e"), looks := false }, kinds := [], alts := [], laidByText := true, laidKinds := [.data], laidTests := true, laidLooks := .later }
def MoveMovesCardSaid : Prop := Claim7.holds Tryz.pinned (.plain (OpenSpec.ofChange moveMovesSpec)) moveMovesCard

/-- THE TIED CARD OF 'skipgraphlaw33.MoveRebalances'. -/
def moveRebalancesCard : Claim7 := { stood := { row := moveRebalancesRow, standIns := [], harness := (true, "8997c0789d988fa3c0d515ca6965e82d176f8db1b8e867c4d340c99f4a96230e"), looks := false }, kinds := [], alts := [], laidByText := true, laidKinds := [.data], laidTests := true, laidLooks := .later }
def MoveRebalancesCardSaid : Prop := Claim7.holds Tryz.pinned (.plain (OpenSpec.ofChange moveRebalancesSpec)) moveRebalancesCard

/-- THE SECOND FORM's CARD OF 'skipgraphlaw33.MoveShifts'. -/
def moveShiftsUptoCard : Claim7 := { stood := { row := moveShiftsUptoRow, standIns := [], harness := (true, "8997c0789d988fa3c0d515ca6965e82d176f8db1b8e867c4d340c99f4a96230e"), looks := false }, kinds := [], alts := [], laidByText := true, laidKinds := [.data], laidTests := true, laidLooks := .later }
def MoveShiftsUptoCardSaid : Prop := Claim7.holds Tryz.pinned (.plain (OpenSpec.upto moveShiftsSpec)) moveShiftsUptoCard

/-- THE SECOND FORM's CARD OF 'skipgraphlaw33.MoveValid'. -/
def moveValidUptoCard : Claim7 := { stood := { row := moveValidUptoRow, standIns := [], harness := (true, "8997c0789d988fa3c0d515ca6965e82d176f8db1b8e867c4d340c99f4a96230e"), looks := false }, kinds := [], alts := [], laidByText := true, laidKinds := [.data], laidTests := true, laidLooks := .later }
def MoveValidUptoCardSaid : Prop := Claim7.holds Tryz.pinned (.plain (OpenSpec.upto moveValidSpec)) moveValidUptoCard

/-- THE SECOND FORM's CARD OF 'skipgraphlaw33.MoveMoves'. -/
def moveMovesUptoCard : Claim7 := { stood := { row := moveMovesUptoRow, standIns := [], harness := (true, "8997c0789d988fa3c0d515ca6965e82d176f8db1b8e867c4d340c99f4a96230e"), looks := false }, kinds := [], alts := [], laidByText := true, laidKinds := [.data], laidTests := true, laidLooks := .later }
def MoveMovesUptoCardSaid : Prop := Claim7.holds Tryz.pinned (.plain (OpenSpec.upto moveMovesSpec)) moveMovesUptoCard

/-- THE SECOND FORM's CARD OF 'skipgraphlaw33.MoveRebalances'. -/
def moveRebalancesUptoCard : Claim7 := { stood := { row := moveRebalancesUptoRow, standIns := [], harness := (true, "8997c0789d988fa3c0d515ca6965e82d176f8db1b8e867c4d340c99f4a96230e"), looks := false }, kinds := [], alts := [], laidByText := true, laidKinds := [.data], laidTests := true, laidLooks := .later }
def MoveRebalancesUptoCardSaid : Prop := Claim7.holds Tryz.pinned (.plain (OpenSpec.upto moveRebalancesSpec)) moveRebalancesUptoCard
end Rows
end Go.Proofs.YtkdolgokaefhfaaGreatDoor
