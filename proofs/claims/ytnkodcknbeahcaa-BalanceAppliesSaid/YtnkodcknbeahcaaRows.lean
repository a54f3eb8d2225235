/-
  No cell of these rows narrows 'for every input' (looked for: loops, veiled, ifaces, maps, wideKeys, modest, calm, conditions, laid).
  DERIVED. THE GIVEN ROWS OF THIS SEAT. 5 by the template 'for every input the law returns true; each argument reads behind the call as it read before'; 0 by the template 'total and deterministic' (their statements: YtnkodcknbeahcaaTotals.lean).
  GIVEN WITH THE SEED: the statements are not yours to turn. If you find one false, say at which input.
  Laid BY PROGRAM, IN A SANDBOX (cutbox-rows.mjs): the forced cells as the released guide's own fill.sh prints them over the translation c3d6d496ea17802a… (all of the seat's roots in one cut). By AI agents, Wed Nov 11 2026. No macro, syntax, notation, axiom, sorry.
-/
import Derived.Test.YtnkodcknbeahcaaChecked
import GoSem.Claim
import GoSem.ClaimJoined
import GoSem.ClaimMapViews
import Derived.JoinedTies
import Derived.KernelRfl
namespace Go.Proofs.Ytnkodcknbeahcaa
/- THE CELL 'sum', in the pinned program and in every row, IS THE sha256 OF THE DUMP (.gsa) THAT YtnkodcknbeahcaaProg.lean LOADS. Nothing in Lean hashes anything: it is a label: what it is worth is what the hold of that sum in a sandbox is worth. -/
noncomputable def Try.pinned : Pinned := { name := "ytnkodcknbeahcaa", sum := "c3d6d496ea17802a863ce97c9daea393a497be6ee96322ff96072ccb6d2abb2c", checked := Try.checked }
namespace Rows
def none {H : Type} : Left H := { results := [], args := [] }

/-- 'skipgraphlaw32.BalanceApplies': WHATEVER THE INPUT: true; the input reads as it did. -/
def balanceAppliesSpec : ChangeSpec := { name := "balanceApplies", fn := fun _ => fun
  | [d1, d2, d3] => { results := [.lit (.bool true)], args := [d1, d2, d3] }
  | _ => none }
def balanceAppliesRow : OpenClaim := { program := "ytnkodcknbeahcaa", sum := "c3d6d496ea17802a863ce97c9daea393a497be6ee96322ff96072ccb6d2abb2c", func := "skipgraph/skipgraphlaw32.BalanceApplies", spec := "balanceApplies", apart := false }
def BalanceAppliesSaid : Prop := balanceAppliesRow.holds Try.pinned (OpenSpec.ofChange balanceAppliesSpec)

/-- ITS FALSE NEIGHBOUR: 'it returns false'. Refute it at one input. -/
def balanceAppliesWrong : ChangeSpec := { name := "balanceApplies", fn := fun _ => fun
  | [d1, d2, d3] => { results := [.lit (.bool false)], args := [d1, d2, d3] }
  | _ => none }
def BalanceAppliesWrongFalsely : Prop := balanceAppliesRow.holds Try.pinned (OpenSpec.ofChange balanceAppliesWrong)

/-- 'skipgraphlaw32.BalanceFalls': WHATEVER THE INPUT: true; the input reads as it did. -/
def balanceFallsSpec : ChangeSpec := { name := "balanceFalls", fn := fun _ => fun
  | [d] => { results := [.lit (.bool true)], args := [d] }
  | _ => none }
def balanceFallsRow : OpenClaim := { program := "ytnkodcknbeahcaa", sum := "c3d6d496ea17802a863ce97c9daea393a497be6ee96322ff96072ccb6d2abb2c", func := "skipgraph/skipgraphlaw32.BalanceFalls", spec := "balanceFalls", apart := false }
def BalanceFallsSaid : Prop := balanceFallsRow.holds Try.pinned (OpenSpec.ofChange balanceFallsSpec)

/-- ITS FALSE NEIGHBOUR: 'it returns false'. Refute it at one input. -/
def balanceFallsWrong : ChangeSpec := { name := "balanceFalls", fn := fun _ => fun
  | [d] => { results := [.lit (.bool false)], args := [d] }
  | _ => none }
def BalanceFallsWrongFalsely : Prop := balanceFallsRow.holds Try.pinned (OpenSpec.ofChange balanceFallsWrong)

/-- 'skipgraphlaw32.BalanceSteps': WHATEVER THE INPUT: true; the input reads as it did. -/
def balanceStepsSpec : ChangeSpec := { name := "balanceSteps", fn := fun _ => fun
  | [d1, d2] => { results := [.lit (.bool true)], args := [d1, d2] }
  | _ => none }
def balanceStepsRow : OpenClaim := { program := "ytnkodcknbeahcaa", sum := "c3d6d496ea17802a863ce97c9daea393a497be6ee96322ff96072ccb6d2abb2c", func := "skipgraph/skipgraphlaw32.BalanceSteps", spec := "balanceSteps", apart := false }
def BalanceStepsSaid : Prop := balanceStepsRow.holds Try.pinned (OpenSpec.ofChange balanceStepsSpec)

/-- ITS FALSE NEIGHBOUR: 'it returns false'. Refute it at one input. -/
def balanceStepsWrong : ChangeSpec := { name := "balanceSteps", fn := fun _ => fun
  | [d1, d2] => { results := [.lit (.bool false)], args := [d1, d2] }
  | _ => none }
def BalanceStepsWrongFalsely : Prop := balanceStepsRow.holds Try.pinned (OpenSpec.ofChange balanceStepsWrong)

/-- 'skipgraphlaw32.BalanceSettles': WHATEVER THE INPUT: true; the input reads as it did. -/
def balanceSettlesSpec : ChangeSpec := { name := "balanceSettles", fn := fun _ => fun
  | [d1, d2] => { results := [.lit (.bool true)], args := [d1, d2] }
  | _ => none }
def balanceSettlesRow : OpenClaim := { program := "ytnkodcknbeahcaa", sum := "c3d6d496ea17802a863ce97c9daea393a497be6ee96322ff96072ccb6d2abb2c", func := "skipgraph/skipgraphlaw32.BalanceSettles", spec := "balanceSettles", apart := false }
def BalanceSettlesSaid : Prop := balanceSettlesRow.holds Try.pinned (OpenSpec.ofChange balanceSettlesSpec)

/-- ITS FALSE NEIGHBOUR: 'it returns false'. Refute it at one input. -/
def balanceSettlesWrong : ChangeSpec := { name := "balanceSettles", fn := fun _ => fun
  | [d1, d2] => { results := [.lit (.bool false)], args := [d1, d2] }
  | _ => none }
def BalanceSettlesWrongFalsely : Prop := balanceSettlesRow.holds Try.pinned (OpenSpec.ofChange balanceSettlesWrong)

/-- 'skipgraphlaw32.BalanceRatio': WHATEVER THE INPUT: true; the input reads as it did. -/
def balanceRatioSpec : ChangeSpec := { name := "balanceRatio", fn := fun _ => fun
  | [d] => { results := [.lit (.bool true)], args := [d] }
  | _ => none }
def balanceRatioRow : OpenClaim := { program := "ytnkodcknbeahcaa", sum := "c3d6d496ea17802a863ce97c9daea393a497be6ee96322ff96072ccb6d2abb2c", func := "skipgraph/skipgraphlaw32.BalanceRatio", spec := "balanceRatio", apart := false }
def BalanceRatioSaid : Prop := balanceRatioRow.holds Try.pinned (OpenSpec.ofChange balanceRatioSpec)

/-- ITS FALSE NEIGHBOUR: 'it returns false'. Refute it at one input. -/
def balanceRatioWrong : ChangeSpec := { name := "balanceRatio", fn := fun _ => fun
  | [d] => { results := [.lit (.bool false)], args := [d] }
  | _ => none }
def BalanceRatioWrongFalsely : Prop := balanceRatioRow.holds Try.pinned (OpenSpec.ofChange balanceRatioWrong)

/- THE SECOND FORM. 'bulk': how many values and letters a reading holds, each counted each time it is reached (what is shared counts as often as it is met; a slice's spare places count too). A statement '..UptoSaid' is the law's where the arguments, and the package variables that the reading takes, are together of bulk at most 1048576: NARROWER than '..Said'. Prove '..Said' where nothing that the law and all that it calls make is longer than what came in: it says more and counts as full. Else prove '..UptoSaid'. A law counts once. -/
mutual
def uptoBulk {H : Type} : DataW H → Nat
  | .lit (.string bytes) => bytes.length + 1
  | .lit _ => 1
  | .nil => 1
  | .ptr d => uptoBulk d + 1
  | .slice elems spare => uptoBulkAll elems + uptoBulkAll spare + 1
  | .agg parts => uptoBulkAll parts + 1
  | .iface _ d => uptoBulk d + 1
  | .map entries => uptoBulkEntries entries + 1
  | .held _ => 1
def uptoBulkAll {H : Type} : List (DataW H) → Nat
  | [] => 0
  | d :: r => uptoBulk d + uptoBulkAll r
def uptoBulkEntries {H : Type} : List (Lit × DataW H) → Nat
  | [] => 0
  | x :: r => uptoBulkEntry x + uptoBulkEntries r
def uptoBulkEntry {H : Type} : Lit × DataW H → Nat
  | (.string bytes, d) => bytes.length + uptoBulk d + 1
  | (_, d) => uptoBulk d + 1
 end
def uptoSmall : (H : Type) → List (DataW H) → Bool := fun _ ds => decide (uptoBulkAll ds ≤ 1048576)
def OpenSpec.upto (s : _root_.Go.ChangeSpec) : _root_.Go.OpenSpec := { _root_.Go.OpenSpec.ofChange s with cond := some uptoSmall }

/-- 'skipgraphlaw32.BalanceApplies', WHERE WHAT IT READS IS OF BULK AT MOST 1048576: true; the input reads as it did. -/
def balanceAppliesUptoRow : OpenClaim := { program := "ytnkodcknbeahcaa", sum := "c3d6d496ea17802a863ce97c9daea393a497be6ee96322ff96072ccb6d2abb2c", func := "skipgraph/skipgraphlaw32.BalanceApplies", spec := "balanceApplies", apart := false, narrowed := true }
def BalanceAppliesUptoSaid : Prop := balanceAppliesUptoRow.holds Try.pinned (OpenSpec.upto balanceAppliesSpec)

/-- 'skipgraphlaw32.BalanceFalls', WHERE WHAT IT READS IS OF BULK AT MOST 1048576: true; the input reads as it did. -/
def balanceFallsUptoRow : OpenClaim := { program := "ytnkodcknbeahcaa", sum := "c3d6d496ea17802a863ce97c9daea393a497be6ee96322ff96072ccb6d2abb2c", func := "skipgraph/skipgraphlaw32.BalanceFalls", spec := "balanceFalls", apart := false, narrowed := true }
def BalanceFallsUptoSaid : Prop := balanceFallsUptoRow.holds Try.pinned (OpenSpec.upto balanceFallsSpec)

/-- 'skipgraphlaw32.BalanceSteps', WHERE WHAT IT READS IS OF BULK AT MOST 1048576: true; the input reads as it did. -/
def balanceStepsUptoRow : OpenClaim := { program := "ytnkodcknbeahcaa", sum := "c3d6d496ea17802a863ce97c9daea393a497be6ee96322ff96072ccb6d2abb2c", func := "skipgraph/skipgraphlaw32.BalanceSteps", spec := "balanceSteps", apart := false, narrowed := true }
def BalanceStepsUptoSaid : Prop := balanceStepsUptoRow.holds Try.pinned (OpenSpec.upto balanceStepsSpec)

/-- 'skipgraphlaw32.BalanceSettles', WHERE WHAT IT READS IS OF BULK AT MOST 1048576: true; the input reads as it did. -/
def balanceSettlesUptoRow : OpenClaim := { program := "ytnkodcknbeahcaa", sum := "c3d6d496ea17802a863ce97c9daea393a497be6ee96322ff96072ccb6d2abb2c", func := "skipgraph/skipgraphlaw32.BalanceSettles", spec := "balanceSettles", apart := false, narrowed := true }
def BalanceSettlesUptoSaid : Prop := balanceSettlesUptoRow.holds Try.pinned (OpenSpec.upto balanceSettlesSpec)

/-- 'skipgraphlaw32.BalanceRatio', WHERE WHAT IT READS IS OF BULK AT MOST 1048576: true; the input reads as it did. -/
def balanceRatioUptoRow : OpenClaim := { program := "ytnkodcknbeahcaa", sum := "c3d6d496ea17802a863ce97c9daea393a497be6ee96322ff96072ccb6d2abb2c", func := "skipgraph/skipgraphlaw32.BalanceRatio", spec := "balanceRatio", apart := false, narrowed := true }
def BalanceRatioUptoSaid : Prop := balanceRatioUptoRow.holds Try.pinned (OpenSpec.upto balanceRatioSpec)

end Rows
end Go.Proofs.Ytnkodcknbeahcaa
