/-
  NARROWER THAN 'FOR EVERY INPUT', by the rows' own cells (each row's printed sentence says how): MoveShifts: laid · MoveValid: laid · MoveMoves: laid · MoveRebalances: laid.
  DERIVED. THE GIVEN ROWS OF THIS SEAT. 4 by the template 'for every input the law returns true; each argument reads behind the call as it read before'; 0 by the template 'total and deterministic' (their statements: YtkdolgokaefhfaaGreatDoorTotals.lean).
  GIVEN WITH THE SEED: the statements are not yours to turn. If you find one false, say at which input.
  Laid BY PROGRAM, IN A SANDBOX (cutbox-rows.mjs): the forced cells as the released guide's own fill.sh prints them over the translation 5814ee02e83e480b… (all of the seat's roots in one cut). By AI agents, Wed Nov 11 2026. No macro, syntax, notation, axiom, sorry.
-/
import Derived.Test.YtkdolgokaefhfaaGreatDoorChecked
import GoSem.Claim
import GoSem.ClaimJoined
import GoSem.ClaimMapViews
import Derived.JoinedTies
import Derived.KernelRfl
namespace Go.Proofs.YtkdolgokaefhfaaGreatDoor
/- THE CELL 'sum', in the pinned program and in every row, IS THE sha256 OF THE DUMP (.gsa) THAT YtkdolgokaefhfaaGreatDoorProg.lean LOADS. Nothing in Lean hashes anything: it is a label: what it is worth is what the hold of that sum in a sandbox is worth. -/
noncomputable def Tryz.pinned : Pinned := { name := "ytkdolgokaefhfaagreatdoor", sum := "5814ee02e83e480b31bd5e14685e2aae17cbbd29b4ab571c540b69358c8167f3", checked := Tryz.checked }
namespace Rows
def none {H : Type} : Left H := { results := [], args := [] }

/- WHAT THE LISTED PACKAGE-LEVEL VARIABLES READ AS WHEN THE CALL BEGINS. Each datum BY PROGRAM (the guide's laid-datum.mjs) off the statement by which the dump's own 'gosem.cut.vars' lays the variable. In a bare row this is a premise. The card (YtkdolgokaefhfaaGreatDoorCards.lean) ties it to the program's text. -/
def laid_skipgraph_skipgraphworld_letters {H : Type} : DataW H := .agg [.lit (.string [97]), .lit (.string [98]), .lit (.string [99]), .lit (.string [0]), .lit (.string [255]), .lit (.string [109])]

/-- 'skipgraphlaw33.MoveShifts': WHATEVER THE INPUT: true; the input reads as it did. -/
def moveShiftsSpec : ChangeSpec := { name := "moveShifts", fn := fun _ => fun
  | [d1, d2, d3, d4, d5] => { results := [.lit (.bool true)], args := [d1, d2, d3, d4, d5] }
  | _ => none }
def moveShiftsRow : OpenClaim := { program := "ytkdolgokaefhfaagreatdoor", sum := "5814ee02e83e480b31bd5e14685e2aae17cbbd29b4ab571c540b69358c8167f3", func := "skipgraph/skipgraphlaw33.MoveShifts", spec := "moveShifts", inPlace := ["internal/reflectlite.ValueOf", "(internal/reflectlite.Value).Len", "internal/reflectlite.Swapper"], unfollowed := true, recurses := true, named := ["skipgraph/skipgraphworld.letters"], apart := false, laid := [("skipgraph/skipgraphworld.letters", laid_skipgraph_skipgraphworld_letters)] }
def MoveShiftsSaid : Prop := moveShiftsRow.holds Tryz.pinned (OpenSpec.ofChange moveShiftsSpec)

/-- ITS FALSE NEIGHBOUR: 'it returns false'. Refute it at one input. -/
def moveShiftsWrong : ChangeSpec := { name := "moveShifts", fn := fun _ => fun
  | [d1, d2, d3, d4, d5] => { results := [.lit (.bool false)], args := [d1, d2, d3, d4, d5] }
  | _ => none }
def MoveShiftsWrongFalsely : Prop := moveShiftsRow.holds Tryz.pinned (OpenSpec.ofChange moveShiftsWrong)

/-- 'skipgraphlaw33.MoveValid': WHATEVER THE INPUT: true; the input reads as it did. -/
def moveValidSpec : ChangeSpec := { name := "moveValid", fn := fun _ => fun
  | [d1, d2] => { results := [.lit (.bool true)], args := [d1, d2] }
  | _ => none }
def moveValidRow : OpenClaim := { program := "ytkdolgokaefhfaagreatdoor", sum := "5814ee02e83e480b31bd5e14685e2aae17cbbd29b4ab571c540b69358c8167f3", func := "skipgraph/skipgraphlaw33.MoveValid", spec := "moveValid", inPlace := ["internal/reflectlite.ValueOf", "(internal/reflectlite.Value).Len", "internal/reflectlite.Swapper"], unfollowed := true, recurses := true, named := ["skipgraph/skipgraphworld.letters"], apart := false, laid := [("skipgraph/skipgraphworld.letters", laid_skipgraph_skipgraphworld_letters)] }
def MoveValidSaid : Prop := moveValidRow.holds Tryz.pinned (OpenSpec.ofChange moveValidSpec)

/-- ITS FALSE NEIGHBOUR: 'it returns false'. Refute it at one input. -/
def moveValidWrong : ChangeSpec := { name := "moveValid", fn := fun _ => fun
  | [d1, d2] => { results := [.lit (.bool false)], args := [d1, d2] }
  | _ => none }
def MoveValidWrongFalsely : Prop := moveValidRow.holds Tryz.pinned (OpenSpec.ofChange moveValidWrong)

/-- 'skipgraphlaw33.MoveMoves': WHATEVER THE INPUT: true; the input reads as it did. -/
def moveMovesSpec : ChangeSpec := { name := "moveMoves", fn := fun _ => fun
  | [d1, d2, d3, d4, d5, d6] => { results := [.lit (.bool true)], args := [d1, d2, d3, d4, d5, d6] }
  | _ => none }
def moveMovesRow : OpenClaim := { program := "ytkdolgokaefhfaagreatdoor", sum := "5814ee02e83e480b31bd5e14685e2aae17cbbd29b4ab571c540b69358c8167f3", func := "skipgraph/skipgraphlaw33.MoveMoves", spec := "moveMoves", inPlace := ["internal/reflectlite.ValueOf", "(internal/reflectlite.Value).Len", "internal/reflectlite.Swapper"], unfollowed := true, recurses := true, named := ["skipgraph/skipgraphworld.letters"], apart := false, laid := [("skipgraph/skipgraphworld.letters", laid_skipgraph_skipgraphworld_letters)] }
def MoveMovesSaid : Prop := moveMovesRow.holds Tryz.pinned (OpenSpec.ofChange moveMovesSpec)

/-- ITS FALSE NEIGHBOUR: 'it returns false'. Refute it at one input. -/
def moveMovesWrong : ChangeSpec := { name := "moveMoves", fn := fun _ => fun
  | [d1, d2, d3, d4, d5, d6] => { results := [.lit (.bool false)], args := [d1, d2, d3, d4, d5, d6] }
  | _ => none }
def MoveMovesWrongFalsely : Prop := moveMovesRow.holds Tryz.pinned (OpenSpec.ofChange moveMovesWrong)

/-- 'skipgraphlaw33.MoveRebalances': WHATEVER THE INPUT: true; the input reads as it did. -/
def moveRebalancesSpec : ChangeSpec := { name := "moveRebalances", fn := fun _ => fun
  | [d1, d2] => { results := [.lit (.bool true)], args := [d1, d2] }
  | _ => none }
def moveRebalancesRow : OpenClaim := { program := "ytkdolgokaefhfaagreatdoor", sum := "5814ee02e83e480b31bd5e14685e2aae17cbbd29b4ab571c540b69358c8167f3", func := "skipgraph/skipgraphlaw33.MoveRebalances", spec := "moveRebalances", inPlace := ["internal/reflectlite.ValueOf", "(internal/reflectlite.Value).Len", "internal/reflectlite.Swapper"], unfollowed := true, recurses := true, named := ["skipgraph/skipgraphworld.letters"], apart := false, laid := [("skipgraph/skipgraphworld.letters", laid_skipgraph_skipgraphworld_letters)] }
def MoveRebalancesSaid : Prop := moveRebalancesRow.holds Tryz.pinned (OpenSpec.ofChange moveRebalancesSpec)

/-- ITS FALSE NEIGHBOUR: 'it returns false'. Refute it at one input. -/
def moveRebalancesWrong : ChangeSpec := { name := "moveRebalances", fn := fun _ => fun
  | [d1, d2] => { results := [.lit (.bool false)], args := [d1, d2] }
  | _ => none }
def MoveRebalancesWrongFalsely : Prop := moveRebalancesRow.holds Tryz.pinned (OpenSpec.ofChange moveRebalancesWrong)

/- THE SECOND FORM. 'bulk': how many values and letters a reading holds, each counted each time it is reached (what is shared counts as often as it is met; a slice's spare places count too). A statement '..UptoSaid' is the law's where the arguments, and the package variables that the reading takes, are together of bulk at most 1048576: NARROWER than '..Said'. Prove '..Said' where nothing that the law and all that it calls make is longer than what came in: it says more and counts as full. Else prove '..UptoSaid'. A law counts once. -/
mutual
def uptoBulk {H : Type} : DataW H → Nat
  | .lit (.string bytes) => bytes.length + 1
  | .lit _ => 1
  | .nil => 1
  | .ptr d => uptoBulk d + 1
  | .slice elems spare => uptoBulkAll elems + uptoBulkAll spare + 1
  | .agg parts => uptoBulkAll parts + 1
  | .iface _ d => uptoBulk d + 1
  | .map entries => uptoBulkEntries entries + 1
  | .held _ => 1
def uptoBulkAll {H : Type} : List (DataW H) → Nat
  | [] => 0
  | d :: r => uptoBulk d + uptoBulkAll r
def uptoBulkEntries {H : Type} : List (Lit × DataW H) → Nat
  | [] => 0
  | x :: r => uptoBulkEntry x + uptoBulkEntries r
def uptoBulkEntry {H : Type} : Lit × DataW H → Nat
  | (.string bytes, d) => bytes.length + uptoBulk d + 1
  | (_, d) => uptoBulk d + 1
 end
def uptoSmall : (H : Type) → List (DataW H) → Bool := fun _ ds => decide (uptoBulkAll ds ≤ 1048576)
def OpenSpec.upto (s : _root_.Go.ChangeSpec) : _root_.Go.OpenSpec := { _root_.Go.OpenSpec.ofChange s with cond := some uptoSmall }

/-- 'skipgraphlaw33.MoveShifts', WHERE WHAT IT READS IS OF BULK AT MOST 1048576: true; the input reads as it did. -/
def moveShiftsUptoRow : OpenClaim := { program := "ytkdolgokaefhfaagreatdoor", sum := "5814ee02e83e480b31bd5e14685e2aae17cbbd29b4ab571c540b69358c8167f3", func := "skipgraph/skipgraphlaw33.MoveShifts", spec := "moveShifts", inPlace := ["internal/reflectlite.ValueOf", "(internal/reflectlite.Value).Len", "internal/reflectlite.Swapper"], unfollowed := true, recurses := true, named := ["skipgraph/skipgraphworld.letters"], apart := false, laid := [("skipgraph/skipgraphworld.letters", laid_skipgraph_skipgraphworld_letters)], narrowed := true }
def MoveShiftsUptoSaid : Prop := moveShiftsUptoRow.holds Tryz.pinned (OpenSpec.upto moveShiftsSpec)

/-- 'skipgraphlaw33.MoveValid', WHERE WHAT IT READS IS OF BULK AT MOST 1048576: true; the input reads as it did. -/
def moveValidUptoRow : OpenClaim := { program := "ytkdolgokaefhfaagreatdoor", sum := "5814ee02e83e480b31bd5e14685e2aae17cbbd29b4ab571c540b69358c8167f3", func := "skipgraph/skipgraphlaw33.MoveValid", spec := "moveValid", inPlace := ["internal/reflectlite.ValueOf", "(internal/reflectlite.Value).Len", "internal/reflectlite.Swapper"], unfollowed := true, recurses := true, named := ["skipgraph/skipgraphworld.letters"], apart := false, laid := [("skipgraph/skipgraphworld.letters", laid_skipgraph_skipgraphworld_letters)], narrowed := true }
def MoveValidUptoSaid : Prop := moveValidUptoRow.holds Tryz.pinned (OpenSpec.upto moveValidSpec)

/-- 'skipgraphlaw33.MoveMoves', WHERE WHAT IT READS IS OF BULK AT MOST 1048576: true; the input reads as it did. -/
def moveMovesUptoRow : OpenClaim := { program := "ytkdolgokaefhfaagreatdoor", sum := "5814ee02e83e480b31bd5e14685e2aae17cbbd29b4ab571c540b69358c8167f3", func := "skipgraph/skipgraphlaw33.MoveMoves", spec := "moveMoves", inPlace := ["internal/reflectlite.ValueOf", "(internal/reflectlite.Value).Len", "internal/reflectlite.Swapper"], unfollowed := true, recurses := true, named := ["skipgraph/skipgraphworld.letters"], apart := false, laid := [("skipgraph/skipgraphworld.letters", laid_skipgraph_skipgraphworld_letters)], narrowed := true }
def MoveMovesUptoSaid : Prop := moveMovesUptoRow.holds Tryz.pinned (OpenSpec.upto moveMovesSpec)

/-- 'skipgraphlaw33.MoveRebalances', WHERE WHAT IT READS IS OF BULK AT MOST 1048576: true; the input reads as it did. -/
def moveRebalancesUptoRow : OpenClaim := { program := "ytkdolgokaefhfaagreatdoor", sum := "5814ee02e83e480b31bd5e14685e2aae17cbbd29b4ab571c540b69358c8167f3", func := "skipgraph/skipgraphlaw33.MoveRebalances", spec := "moveRebalances", inPlace := ["internal/reflectlite.ValueOf", "(internal/reflectlite.Value).Len", "internal/reflectlite.Swapper"], unfollowed := true, recurses := true, named := ["skipgraph/skipgraphworld.letters"], apart := false, laid := [("skipgraph/skipgraphworld.letters", laid_skipgraph_skipgraphworld_letters)], narrowed := true }
def MoveRebalancesUptoSaid : Prop := moveRebalancesUptoRow.holds Tryz.pinned (OpenSpec.upto moveRebalancesSpec)

end Rows
end Go.Proofs.YtkdolgokaefhfaaGreatDoor
