/-
  NARROWER THAN 'FOR EVERY INPUT', by the rows' own cells (each row's printed sentence says how): RosterOwners: laid · RosterOrderless: laid · RosterChecks: laid · RosterLeaves: laid · RosterTiles: laid · RosterJoins: laid.
  DERIVED. THE GIVEN ROWS OF THIS SEAT. 6 by the template 'for every input the law returns true; each argument reads behind the call as it read before'; 0 by the template 'total and deterministic' (their statements: YtoadecbimejiiaaDoorTotals.lean).
  GIVEN WITH THE SEED: the statements are not yours to turn. If you find one false, say at which input.
  Laid BY PROGRAM, IN A SANDBOX (cutbox-rows.mjs): the forced cells as the released guide's own fill.sh prints them over the translation acfe82ef280f719d… (all of the seat's roots in one cut). By AI agents, Wed Nov 11 2026. No macro, syntax, notation, axiom, sorry.
-/
import Derived.Test.YtoadecbimejiiaaDoorChecked
import GoSem.Claim
import GoSem.ClaimJoined
import GoSem.ClaimMapViews
import Derived.JoinedTies
import Derived.KernelRfl
namespace Go.Proofs.YtoadecbimejiiaaDoor
/- THE CELL 'sum', in the pinned program and in every row, IS THE sha256 OF THE DUMP (.gsa) THAT YtoadecbimejiiaaDoorProg.lean LOADS. Nothing in Lean hashes anything: it is a label: what it is worth is what the hold of that sum in a sandbox is worth. -/
noncomputable def Tryd.pinned : Pinned := { name := "ytoadecbimejiiaadoor", sum := "acfe82ef280f719db2ed90760a1e5b923838b1eae99701f692398ec588f0fa14", checked := Tryd.checked }
namespace Rows
def none {H : Type} : Left H := { results := [], args := [] }

/- WHAT THE LISTED PACKAGE-LEVEL VARIABLES READ AS WHEN THE CALL BEGINS. Each datum BY PROGRAM (the guide's laid-datum.mjs) off the statement by which the dump's own 'gosem.cut.vars' lays the variable. In a bare row this is a premise. The card (YtoadecbimejiiaaDoorCards.lean) ties it to the program's text. -/
def laid_skipgraph_skipgraphworld_letters {H : Type} : DataW H := .agg [.lit (.string [97]), .lit (.string [98]), .lit (.string [99]), .lit (.string [0]), .lit (.string [255]), .lit (.string [109])]

/-- 'skipgraphlaw5.RosterOwners': WHATEVER THE INPUT: true; the input reads as it did. -/
def rosterOwnersSpec : ChangeSpec := { name := "rosterOwners", fn := fun _ => fun
  | [d1, d2, d3, d4] => { results := [.lit (.bool true)], args := [d1, d2, d3, d4] }
  | _ => none }
def rosterOwnersRow : OpenClaim := { program := "ytoadecbimejiiaadoor", sum := "acfe82ef280f719db2ed90760a1e5b923838b1eae99701f692398ec588f0fa14", func := "skipgraph/skipgraphlaw5.RosterOwners", spec := "rosterOwners", inPlace := ["internal/reflectlite.ValueOf", "(internal/reflectlite.Value).Len", "internal/reflectlite.Swapper"], unfollowed := true, recurses := true, named := ["skipgraph/skipgraphworld.letters"], apart := false, laid := [("skipgraph/skipgraphworld.letters", laid_skipgraph_skipgraphworld_letters)] }
def RosterOwnersSaid : Prop := rosterOwnersRow.holds Tryd.pinned (OpenSpec.ofChange rosterOwnersSpec)

/-- ITS FALSE NEIGHBOUR: 'it returns false'. Refute it at one input. -/
def rosterOwnersWrong : ChangeSpec := { name := "rosterOwners", fn := fun _ => fun
  | [d1, d2, d3, d4] => { results := [.lit (.bool false)], args := [d1, d2, d3, d4] }
  | _ => none }
def RosterOwnersWrongFalsely : Prop := rosterOwnersRow.holds Tryd.pinned (OpenSpec.ofChange rosterOwnersWrong)

/-- 'skipgraphlaw5.RosterOrderless': WHATEVER THE INPUT: true; the input reads as it did. -/
def rosterOrderlessSpec : ChangeSpec := { name := "rosterOrderless", fn := fun _ => fun
  | [d1, d2] => { results := [.lit (.bool true)], args := [d1, d2] }
  | _ => none }
def rosterOrderlessRow : OpenClaim := { program := "ytoadecbimejiiaadoor", sum := "acfe82ef280f719db2ed90760a1e5b923838b1eae99701f692398ec588f0fa14", func := "skipgraph/skipgraphlaw5.RosterOrderless", spec := "rosterOrderless", inPlace := ["internal/reflectlite.ValueOf", "(internal/reflectlite.Value).Len", "internal/reflectlite.Swapper"], unfollowed := true, recurses := true, named := ["skipgraph/skipgraphworld.letters"], apart := false, laid := [("skipgraph/skipgraphworld.letters", laid_skipgraph_skipgraphworld_letters)] }
def RosterOrderlessSaid : Prop := rosterOrderlessRow.holds Tryd.pinned (OpenSpec.ofChange rosterOrderlessSpec)

/-- ITS FALSE NEIGHBOUR: 'it returns false'. Refute it at one input. -/
def rosterOrderlessWrong : ChangeSpec := { name := "rosterOrderless", fn := fun _ => fun
  | [d1, d2] => { results := [.lit (.bool false)], args := [d1, d2] }
  | _ => none }
def RosterOrderlessWrongFalsely : Prop := rosterOrderlessRow.holds Tryd.pinned (OpenSpec.ofChange rosterOrderlessWrong)

/-- 'skipgraphlaw5.RosterChecks': WHATEVER THE INPUT: true; the input reads as it did. -/
def rosterChecksSpec : ChangeSpec := { name := "rosterChecks", fn := fun _ => fun
  | [d1, d2, d3, d4] => { results := [.lit (.bool true)], args := [d1, d2, d3, d4] }
  | _ => none }
def rosterChecksRow : OpenClaim := { program := "ytoadecbimejiiaadoor", sum := "acfe82ef280f719db2ed90760a1e5b923838b1eae99701f692398ec588f0fa14", func := "skipgraph/skipgraphlaw5.RosterChecks", spec := "rosterChecks", inPlace := ["internal/reflectlite.ValueOf", "(internal/reflectlite.Value).Len", "internal/reflectlite.Swapper"], unfollowed := true, recurses := true, named := ["skipgraph/skipgraphworld.letters"], apart := false, laid := [("skipgraph/skipgraphworld.letters", laid_skipgraph_skipgraphworld_letters)] }
def RosterChecksSaid : Prop := rosterChecksRow.holds Tryd.pinned (OpenSpec.ofChange rosterChecksSpec)

/-- ITS FALSE NEIGHBOUR: 'it returns false'. Refute it at one input. -/
def rosterChecksWrong : ChangeSpec := { name := "rosterChecks", fn := fun _ => fun
  | [d1, d2, d3, d4] => { results := [.lit (.bool false)], args := [d1, d2, d3, d4] }
  | _ => none }
def RosterChecksWrongFalsely : Prop := rosterChecksRow.holds Tryd.pinned (OpenSpec.ofChange rosterChecksWrong)

/-- 'skipgraphlaw5.RosterLeaves': WHATEVER THE INPUT: true; the input reads as it did. -/
def rosterLeavesSpec : ChangeSpec := { name := "rosterLeaves", fn := fun _ => fun
  | [d] => { results := [.lit (.bool true)], args := [d] }
  | _ => none }
def rosterLeavesRow : OpenClaim := { program := "ytoadecbimejiiaadoor", sum := "acfe82ef280f719db2ed90760a1e5b923838b1eae99701f692398ec588f0fa14", func := "skipgraph/skipgraphlaw5.RosterLeaves", spec := "rosterLeaves", inPlace := ["internal/reflectlite.ValueOf", "(internal/reflectlite.Value).Len", "internal/reflectlite.Swapper"], unfollowed := true, recurses := true, named := ["skipgraph/skipgraphworld.letters"], apart := false, laid := [("skipgraph/skipgraphworld.letters", laid_skipgraph_skipgraphworld_letters)] }
def RosterLeavesSaid : Prop := rosterLeavesRow.holds Tryd.pinned (OpenSpec.ofChange rosterLeavesSpec)

/-- ITS FALSE NEIGHBOUR: 'it returns false'. Refute it at one input. -/
def rosterLeavesWrong : ChangeSpec := { name := "rosterLeaves", fn := fun _ => fun
  | [d] => { results := [.lit (.bool false)], args := [d] }
  | _ => none }
def RosterLeavesWrongFalsely : Prop := rosterLeavesRow.holds Tryd.pinned (OpenSpec.ofChange rosterLeavesWrong)

/-- 'skipgraphlaw5.RosterTiles': WHATEVER THE INPUT: true; the input reads as it did. -/
def rosterTilesSpec : ChangeSpec := { name := "rosterTiles", fn := fun _ => fun
  | [d1, d2] => { results := [.lit (.bool true)], args := [d1, d2] }
  | _ => none }
def rosterTilesRow : OpenClaim := { program := "ytoadecbimejiiaadoor", sum := "acfe82ef280f719db2ed90760a1e5b923838b1eae99701f692398ec588f0fa14", func := "skipgraph/skipgraphlaw5.RosterTiles", spec := "rosterTiles", inPlace := ["internal/reflectlite.ValueOf", "(internal/reflectlite.Value).Len", "internal/reflectlite.Swapper"], unfollowed := true, recurses := true, named := ["skipgraph/skipgraphworld.letters"], apart := false, laid := [("skipgraph/skipgraphworld.letters", laid_skipgraph_skipgraphworld_letters)] }
def RosterTilesSaid : Prop := rosterTilesRow.holds Tryd.pinned (OpenSpec.ofChange rosterTilesSpec)

/-- ITS FALSE NEIGHBOUR: 'it returns false'. Refute it at one input. -/
def rosterTilesWrong : ChangeSpec := { name := "rosterTiles", fn := fun _ => fun
  | [d1, d2] => { results := [.lit (.bool false)], args := [d1, d2] }
  | _ => none }
def RosterTilesWrongFalsely : Prop := rosterTilesRow.holds Tryd.pinned (OpenSpec.ofChange rosterTilesWrong)

/-- 'skipgraphlaw5.RosterJoins': WHATEVER THE INPUT: true; the input reads as it did. -/
def rosterJoinsSpec : ChangeSpec := { name := "rosterJoins", fn := fun _ => fun
  | [d] => { results := [.lit (.bool true)], args := [d] }
  | _ => none }
def rosterJoinsRow : OpenClaim := { program := "ytoadecbimejiiaadoor", sum := "acfe82ef280f719db2ed90760a1e5b923838b1eae99701f692398ec588f0fa14", func := "skipgraph/skipgraphlaw5.RosterJoins", spec := "rosterJoins", inPlace := ["internal/reflectlite.ValueOf", "(internal/reflectlite.Value).Len", "internal/reflectlite.Swapper"], unfollowed := true, recurses := true, named := ["skipgraph/skipgraphworld.letters"], apart := false, laid := [("skipgraph/skipgraphworld.letters", laid_skipgraph_skipgraphworld_letters)] }
def RosterJoinsSaid : Prop := rosterJoinsRow.holds Tryd.pinned (OpenSpec.ofChange rosterJoinsSpec)

/-- ITS FALSE NEIGHBOUR: 'it returns false'. Refute it at one input. -/
def rosterJoinsWrong : ChangeSpec := { name := "rosterJoins", fn := fun _ => fun
  | [d] => { results := [.lit (.bool false)], args := [d] }
  | _ => none }
def RosterJoinsWrongFalsely : Prop := rosterJoinsRow.holds Tryd.pinned (OpenSpec.ofChange rosterJoinsWrong)

/- THE SECOND FORM. 'bulk': how many values and letters a reading holds, each counted each time it is reached (what is shared counts as often as it is met; a slice's spare places count too). A statement '..UptoSaid' is the law's where the arguments, and the package variables that the reading takes, are together of bulk at most 1048576: NARROWER than '..Said'. Prove '..Said' where nothing that the law and all that it calls make is longer than what came in: it says more and counts as full. Else prove '..UptoSaid'. A law counts once. -/
mutual
def uptoBulk {H : Type} : DataW H → Nat
  | .lit (.string bytes) => bytes.length + 1
  | .lit _ => 1
  | .nil => 1
  | .ptr d => uptoBulk d + 1
  | .slice elems spare => uptoBulkAll elems + uptoBulkAll spare + 1
  | .agg parts => uptoBulkAll parts + 1
  | .iface _ d => uptoBulk d + 1
  | .map entries => uptoBulkEntries entries + 1
  | .held _ => 1
def uptoBulkAll {H : Type} : List (DataW H) → Nat
  | [] => 0
  | d :: r => uptoBulk d + uptoBulkAll r
def uptoBulkEntries {H : Type} : List (Lit × DataW H) → Nat
  | [] => 0
  | x :: r => uptoBulkEntry x + uptoBulkEntries r
def uptoBulkEntry {H : Type} : Lit × DataW H → Nat
  | (.string bytes, d) => bytes.length + uptoBulk d + 1
  | (_, d) => uptoBulk d + 1
 end
def uptoSmall : (H : Type) → List (DataW H) → Bool := fun _ ds => decide (uptoBulkAll ds ≤ 1048576)
def OpenSpec.upto (s : _root_.Go.ChangeSpec) : _root_.Go.OpenSpec := { _root_.Go.OpenSpec.ofChange s with cond := some uptoSmall }

/-- 'skipgraphlaw5.RosterOwners', WHERE WHAT IT READS IS OF BULK AT MOST 1048576: true; the input reads as it did. -/
def rosterOwnersUptoRow : OpenClaim := { program := "ytoadecbimejiiaadoor", sum := "acfe82ef280f719db2ed90760a1e5b923838b1eae99701f692398ec588f0fa14", func := "skipgraph/skipgraphlaw5.RosterOwners", spec := "rosterOwners", inPlace := ["internal/reflectlite.ValueOf", "(internal/reflectlite.Value).Len", "internal/reflectlite.Swapper"], unfollowed := true, recurses := true, named := ["skipgraph/skipgraphworld.letters"], apart := false, laid := [("skipgraph/skipgraphworld.letters", laid_skipgraph_skipgraphworld_letters)], narrowed := true }
def RosterOwnersUptoSaid : Prop := rosterOwnersUptoRow.holds Tryd.pinned (OpenSpec.upto rosterOwnersSpec)

/-- 'skipgraphlaw5.RosterOrderless', WHERE WHAT IT READS IS OF BULK AT MOST 1048576: true; the input reads as it did. -/
def rosterOrderlessUptoRow : OpenClaim := { program := "ytoadecbimejiiaadoor", sum := "acfe82ef280f719db2ed90760a1e5b923838b1eae99701f692398ec588f0fa14", func := "skipgraph/skipgraphlaw5.RosterOrderless", spec := "rosterOrderless", inPlace := ["internal/reflectlite.ValueOf", "(internal/reflectlite.Value).Len", "internal/reflectlite.Swapper"], unfollowed := true, recurses := true, named := ["skipgraph/skipgraphworld.letters"], apart := false, laid := [("skipgraph/skipgraphworld.letters", laid_skipgraph_skipgraphworld_letters)], narrowed := true }
def RosterOrderlessUptoSaid : Prop := rosterOrderlessUptoRow.holds Tryd.pinned (OpenSpec.upto rosterOrderlessSpec)

/-- 'skipgraphlaw5.RosterChecks', WHERE WHAT IT READS IS OF BULK AT MOST 1048576: true; the input reads as it did. -/
def rosterChecksUptoRow : OpenClaim := { program := "ytoadecbimejiiaadoor", sum := "acfe82ef280f719db2ed90760a1e5b923838b1eae99701f692398ec588f0fa14", func := "skipgraph/skipgraphlaw5.RosterChecks", spec := "rosterChecks", inPlace := ["internal/reflectlite.ValueOf", "(internal/reflectlite.Value).Len", "internal/reflectlite.Swapper"], unfollowed := true, recurses := true, named := ["skipgraph/skipgraphworld.letters"], apart := false, laid := [("skipgraph/skipgraphworld.letters", laid_skipgraph_skipgraphworld_letters)], narrowed := true }
def RosterChecksUptoSaid : Prop := rosterChecksUptoRow.holds Tryd.pinned (OpenSpec.upto rosterChecksSpec)

/-- 'skipgraphlaw5.RosterLeaves', WHERE WHAT IT READS IS OF BULK AT MOST 1048576: true; the input reads as it did. -/
def rosterLeavesUptoRow : OpenClaim := { program := "ytoadecbimejiiaadoor", sum := "acfe82ef280f719db2ed90760a1e5b923838b1eae99701f692398ec588f0fa14", func := "skipgraph/skipgraphlaw5.RosterLeaves", spec := "rosterLeaves", inPlace := ["internal/reflectlite.ValueOf", "(internal/reflectlite.Value).Len", "internal/reflectlite.Swapper"], unfollowed := true, recurses := true, named := ["skipgraph/skipgraphworld.letters"], apart := false, laid := [("skipgraph/skipgraphworld.letters", laid_skipgraph_skipgraphworld_letters)], narrowed := true }
def RosterLeavesUptoSaid : Prop := rosterLeavesUptoRow.holds Tryd.pinned (OpenSpec.upto rosterLeavesSpec)

/-- 'skipgraphlaw5.RosterTiles', WHERE WHAT IT READS IS OF BULK AT MOST 1048576: true; the input reads as it did. -/
def rosterTilesUptoRow : OpenClaim := { program := "ytoadecbimejiiaadoor", sum := "acfe82ef280f719db2ed90760a1e5b923838b1eae99701f692398ec588f0fa14", func := "skipgraph/skipgraphlaw5.RosterTiles", spec := "rosterTiles", inPlace := ["internal/reflectlite.ValueOf", "(internal/reflectlite.Value).Len", "internal/reflectlite.Swapper"], unfollowed := true, recurses := true, named := ["skipgraph/skipgraphworld.letters"], apart := false, laid := [("skipgraph/skipgraphworld.letters", laid_skipgraph_skipgraphworld_letters)], narrowed := true }
def RosterTilesUptoSaid : Prop := rosterTilesUptoRow.holds Tryd.pinned (OpenSpec.upto rosterTilesSpec)

/-- 'skipgraphlaw5.RosterJoins', WHERE WHAT IT READS IS OF BULK AT MOST 1048576: true; the input reads as it did. -/
def rosterJoinsUptoRow : OpenClaim := { program := "ytoadecbimejiiaadoor", sum := "acfe82ef280f719db2ed90760a1e5b923838b1eae99701f692398ec588f0fa14", func := "skipgraph/skipgraphlaw5.RosterJoins", spec := "rosterJoins", inPlace := ["internal/reflectlite.ValueOf", "(internal/reflectlite.Value).Len", "internal/reflectlite.Swapper"], unfollowed := true, recurses := true, named := ["skipgraph/skipgraphworld.letters"], apart := false, laid := [("skipgraph/skipgraphworld.letters", laid_skipgraph_skipgraphworld_letters)], narrowed := true }
def RosterJoinsUptoSaid : Prop := rosterJoinsUptoRow.holds Tryd.pinned (OpenSpec.upto rosterJoinsSpec)

end Rows
end Go.Proofs.YtoadecbimejiiaaDoor
