/-
  NARROWER THAN 'FOR EVERY INPUT', by the rows' own cells (each row's printed sentence says how): InspectClean: laid · InspectFinds: laid · InspectParts: laid · InspectJoins: laid · BulkLoads: laid · BulkMerges: laid · BulkRejoins: laid · BulkAssociates: laid · BulkCounts: laid.
  DERIVED. THE GIVEN ROWS OF THIS SEAT. 9 by the template 'for every input the law returns true; each argument reads behind the call as it read before'; 0 by the template 'total and deterministic' (their statements: YtdlmfcidbojniaaDoorTotals.lean).
  GIVEN WITH THE SEED: the statements are not yours to turn. If you find one false, say at which input.
  Laid BY PROGRAM, IN A SANDBOX (cutbox-rows.mjs): the forced cells as the released guide's own fill.sh prints them over the translation 700c26daba8f3408… (all of the seat's roots in one cut). By AI agents, Wed Nov 11 2026. No macro, syntax, notation, axiom, sorry.
-/
import Derived.Test.YtdlmfcidbojniaaDoorChecked
import GoSem.Claim
import GoSem.ClaimJoined
import GoSem.ClaimMapViews
import Derived.JoinedTies
import Derived.KernelRfl
namespace Go.Proofs.YtdlmfcidbojniaaDoor
/- THE CELL 'sum', in the pinned program and in every row, IS THE sha256 OF THE DUMP (.gsa) THAT YtdlmfcidbojniaaDoorProg.lean LOADS. Nothing in Lean hashes anything: it is a label: what it is worth is what the hold of that sum in a sandbox is worth. -/
noncomputable def Tryd.pinned : Pinned := { name := "ytdlmfcidbojniaadoor", sum := "700c26daba8f3408308a0095bc5d9c3550ef818aa7a5e885751a1c6440cab2b2", checked := Tryd.checked }
namespace Rows
def none {H : Type} : Left H := { results := [], args := [] }

/- WHAT THE LISTED PACKAGE-LEVEL VARIABLES READ AS WHEN THE CALL BEGINS. Each datum BY PROGRAM (the guide's laid-datum.mjs) off the statement by which the dump's own 'gosem.cut.vars' lays the variable. In a bare row this is a premise. The card (YtdlmfcidbojniaaDoorCards.lean) ties it to the program's text. -/
def laid_math_bits_deBruijn32tab {H : Type} : DataW H := .agg [.lit (.int .u8 0), .lit (.int .u8 1), .lit (.int .u8 28), .lit (.int .u8 2), .lit (.int .u8 29), .lit (.int .u8 14), .lit (.int .u8 24), .lit (.int .u8 3), .lit (.int .u8 30), .lit (.int .u8 22), .lit (.int .u8 20), .lit (.int .u8 15), .lit (.int .u8 25), .lit (.int .u8 17), .lit (.int .u8 4), .lit (.int .u8 8), .lit (.int .u8 31), .lit (.int .u8 27), .lit (.int .u8 13), .lit (.int .u8 23), .lit (.int .u8 21), .lit (.int .u8 19), .lit (.int .u8 16), .lit (.int .u8 7), .lit (.int .u8 26), .lit (.int .u8 12), .lit (.int .u8 18), .lit (.int .u8 6), .lit (.int .u8 11), .lit (.int .u8 5), .lit (.int .u8 10), .lit (.int .u8 9)]
def laid_skipgraph_skipgraphworld_letters {H : Type} : DataW H := .agg [.lit (.string [97]), .lit (.string [98]), .lit (.string [99]), .lit (.string [0]), .lit (.string [255]), .lit (.string [109])]

/-- 'skipgraphlaw7.InspectClean': WHATEVER THE INPUT: true; the input reads as it did. -/
def inspectCleanSpec : ChangeSpec := { name := "inspectClean", fn := fun _ => fun
  | [d] => { results := [.lit (.bool true)], args := [d] }
  | _ => none }
def inspectCleanRow : OpenClaim := { program := "ytdlmfcidbojniaadoor", sum := "700c26daba8f3408308a0095bc5d9c3550ef818aa7a5e885751a1c6440cab2b2", func := "skipgraph/skipgraphlaw7.InspectClean", spec := "inspectClean", inPlace := ["internal/reflectlite.ValueOf", "(internal/reflectlite.Value).Len", "internal/reflectlite.Swapper"], unfollowed := true, recurses := true, named := ["skipgraph/skipgraphworld.letters", "math/bits.deBruijn32tab"], plainKeys := false, apart := false, laid := [("math/bits.deBruijn32tab", laid_math_bits_deBruijn32tab), ("skipgraph/skipgraphworld.letters", laid_skipgraph_skipgraphworld_letters)] }
def InspectCleanSaid : Prop := inspectCleanRow.holds Tryd.pinned (OpenSpec.ofChange inspectCleanSpec)

/-- ITS FALSE NEIGHBOUR: 'it returns false'. Refute it at one input. -/
def inspectCleanWrong : ChangeSpec := { name := "inspectClean", fn := fun _ => fun
  | [d] => { results := [.lit (.bool false)], args := [d] }
  | _ => none }
def InspectCleanWrongFalsely : Prop := inspectCleanRow.holds Tryd.pinned (OpenSpec.ofChange inspectCleanWrong)

/-- 'skipgraphlaw7.InspectFinds': WHATEVER THE INPUT: true; the input reads as it did. -/
def inspectFindsSpec : ChangeSpec := { name := "inspectFinds", fn := fun _ => fun
  | [d1, d2] => { results := [.lit (.bool true)], args := [d1, d2] }
  | _ => none }
def inspectFindsRow : OpenClaim := { program := "ytdlmfcidbojniaadoor", sum := "700c26daba8f3408308a0095bc5d9c3550ef818aa7a5e885751a1c6440cab2b2", func := "skipgraph/skipgraphlaw7.InspectFinds", spec := "inspectFinds", inPlace := ["internal/reflectlite.ValueOf", "(internal/reflectlite.Value).Len", "internal/reflectlite.Swapper"], unfollowed := true, recurses := true, named := ["skipgraph/skipgraphworld.letters", "math/bits.deBruijn32tab"], plainKeys := false, apart := false, laid := [("math/bits.deBruijn32tab", laid_math_bits_deBruijn32tab), ("skipgraph/skipgraphworld.letters", laid_skipgraph_skipgraphworld_letters)] }
def InspectFindsSaid : Prop := inspectFindsRow.holds Tryd.pinned (OpenSpec.ofChange inspectFindsSpec)

/-- ITS FALSE NEIGHBOUR: 'it returns false'. Refute it at one input. -/
def inspectFindsWrong : ChangeSpec := { name := "inspectFinds", fn := fun _ => fun
  | [d1, d2] => { results := [.lit (.bool false)], args := [d1, d2] }
  | _ => none }
def InspectFindsWrongFalsely : Prop := inspectFindsRow.holds Tryd.pinned (OpenSpec.ofChange inspectFindsWrong)

/-- 'skipgraphlaw7.InspectParts': WHATEVER THE INPUT: true; the input reads as it did. -/
def inspectPartsSpec : ChangeSpec := { name := "inspectParts", fn := fun _ => fun
  | [d] => { results := [.lit (.bool true)], args := [d] }
  | _ => none }
def inspectPartsRow : OpenClaim := { program := "ytdlmfcidbojniaadoor", sum := "700c26daba8f3408308a0095bc5d9c3550ef818aa7a5e885751a1c6440cab2b2", func := "skipgraph/skipgraphlaw7.InspectParts", spec := "inspectParts", inPlace := ["internal/reflectlite.ValueOf", "(internal/reflectlite.Value).Len", "internal/reflectlite.Swapper"], unfollowed := true, recurses := true, named := ["skipgraph/skipgraphworld.letters", "math/bits.deBruijn32tab"], plainKeys := false, apart := false, laid := [("math/bits.deBruijn32tab", laid_math_bits_deBruijn32tab), ("skipgraph/skipgraphworld.letters", laid_skipgraph_skipgraphworld_letters)] }
def InspectPartsSaid : Prop := inspectPartsRow.holds Tryd.pinned (OpenSpec.ofChange inspectPartsSpec)

/-- ITS FALSE NEIGHBOUR: 'it returns false'. Refute it at one input. -/
def inspectPartsWrong : ChangeSpec := { name := "inspectParts", fn := fun _ => fun
  | [d] => { results := [.lit (.bool false)], args := [d] }
  | _ => none }
def InspectPartsWrongFalsely : Prop := inspectPartsRow.holds Tryd.pinned (OpenSpec.ofChange inspectPartsWrong)

/-- 'skipgraphlaw7.InspectJoins': WHATEVER THE INPUT: true; the input reads as it did. -/
def inspectJoinsSpec : ChangeSpec := { name := "inspectJoins", fn := fun _ => fun
  | [d] => { results := [.lit (.bool true)], args := [d] }
  | _ => none }
def inspectJoinsRow : OpenClaim := { program := "ytdlmfcidbojniaadoor", sum := "700c26daba8f3408308a0095bc5d9c3550ef818aa7a5e885751a1c6440cab2b2", func := "skipgraph/skipgraphlaw7.InspectJoins", spec := "inspectJoins", inPlace := ["internal/reflectlite.ValueOf", "(internal/reflectlite.Value).Len", "internal/reflectlite.Swapper"], unfollowed := true, recurses := true, named := ["skipgraph/skipgraphworld.letters", "math/bits.deBruijn32tab"], plainKeys := false, apart := false, laid := [("math/bits.deBruijn32tab", laid_math_bits_deBruijn32tab), ("skipgraph/skipgraphworld.letters", laid_skipgraph_skipgraphworld_letters)] }
def InspectJoinsSaid : Prop := inspectJoinsRow.holds Tryd.pinned (OpenSpec.ofChange inspectJoinsSpec)

/-- ITS FALSE NEIGHBOUR: 'it returns false'. Refute it at one input. -/
def inspectJoinsWrong : ChangeSpec := { name := "inspectJoins", fn := fun _ => fun
  | [d] => { results := [.lit (.bool false)], args := [d] }
  | _ => none }
def InspectJoinsWrongFalsely : Prop := inspectJoinsRow.holds Tryd.pinned (OpenSpec.ofChange inspectJoinsWrong)

/-- 'skipgraphlaw9.BulkLoads': WHATEVER THE INPUT: true; the input reads as it did. -/
def bulkLoadsSpec : ChangeSpec := { name := "bulkLoads", fn := fun _ => fun
  | [d1, d2, d3] => { results := [.lit (.bool true)], args := [d1, d2, d3] }
  | _ => none }
def bulkLoadsRow : OpenClaim := { program := "ytdlmfcidbojniaadoor", sum := "700c26daba8f3408308a0095bc5d9c3550ef818aa7a5e885751a1c6440cab2b2", func := "skipgraph/skipgraphlaw9.BulkLoads", spec := "bulkLoads", inPlace := ["internal/reflectlite.ValueOf", "(internal/reflectlite.Value).Len", "internal/reflectlite.Swapper"], unfollowed := true, recurses := true, named := ["skipgraph/skipgraphworld.letters", "math/bits.deBruijn32tab"], plainKeys := false, apart := false, laid := [("math/bits.deBruijn32tab", laid_math_bits_deBruijn32tab), ("skipgraph/skipgraphworld.letters", laid_skipgraph_skipgraphworld_letters)] }
def BulkLoadsSaid : Prop := bulkLoadsRow.holds Tryd.pinned (OpenSpec.ofChange bulkLoadsSpec)

/-- ITS FALSE NEIGHBOUR: 'it returns false'. Refute it at one input. -/
def bulkLoadsWrong : ChangeSpec := { name := "bulkLoads", fn := fun _ => fun
  | [d1, d2, d3] => { results := [.lit (.bool false)], args := [d1, d2, d3] }
  | _ => none }
def BulkLoadsWrongFalsely : Prop := bulkLoadsRow.holds Tryd.pinned (OpenSpec.ofChange bulkLoadsWrong)

/-- 'skipgraphlaw9.BulkMerges': WHATEVER THE INPUT: true; the input reads as it did. -/
def bulkMergesSpec : ChangeSpec := { name := "bulkMerges", fn := fun _ => fun
  | [d1, d2] => { results := [.lit (.bool true)], args := [d1, d2] }
  | _ => none }
def bulkMergesRow : OpenClaim := { program := "ytdlmfcidbojniaadoor", sum := "700c26daba8f3408308a0095bc5d9c3550ef818aa7a5e885751a1c6440cab2b2", func := "skipgraph/skipgraphlaw9.BulkMerges", spec := "bulkMerges", inPlace := ["internal/reflectlite.ValueOf", "(internal/reflectlite.Value).Len", "internal/reflectlite.Swapper"], unfollowed := true, recurses := true, named := ["skipgraph/skipgraphworld.letters", "math/bits.deBruijn32tab"], plainKeys := false, apart := false, laid := [("math/bits.deBruijn32tab", laid_math_bits_deBruijn32tab), ("skipgraph/skipgraphworld.letters", laid_skipgraph_skipgraphworld_letters)] }
def BulkMergesSaid : Prop := bulkMergesRow.holds Tryd.pinned (OpenSpec.ofChange bulkMergesSpec)

/-- ITS FALSE NEIGHBOUR: 'it returns false'. Refute it at one input. -/
def bulkMergesWrong : ChangeSpec := { name := "bulkMerges", fn := fun _ => fun
  | [d1, d2] => { results := [.lit (.bool false)], args := [d1, d2] }
  | _ => none }
def BulkMergesWrongFalsely : Prop := bulkMergesRow.holds Tryd.pinned (OpenSpec.ofChange bulkMergesWrong)

/-- 'skipgraphlaw9.BulkRejoins': WHATEVER THE INPUT: true; the input reads as it did. -/
def bulkRejoinsSpec : ChangeSpec := { name := "bulkRejoins", fn := fun _ => fun
  | [d] => { results := [.lit (.bool true)], args := [d] }
  | _ => none }
def bulkRejoinsRow : OpenClaim := { program := "ytdlmfcidbojniaadoor", sum := "700c26daba8f3408308a0095bc5d9c3550ef818aa7a5e885751a1c6440cab2b2", func := "skipgraph/skipgraphlaw9.BulkRejoins", spec := "bulkRejoins", inPlace := ["internal/reflectlite.ValueOf", "(internal/reflectlite.Value).Len", "internal/reflectlite.Swapper"], unfollowed := true, recurses := true, named := ["skipgraph/skipgraphworld.letters", "math/bits.deBruijn32tab"], plainKeys := false, apart := false, laid := [("math/bits.deBruijn32tab", laid_math_bits_deBruijn32tab), ("skipgraph/skipgraphworld.letters", laid_skipgraph_skipgraphworld_letters)] }
def BulkRejoinsSaid : Prop := bulkRejoinsRow.holds Tryd.pinned (OpenSpec.ofChange bulkRejoinsSpec)

/-- ITS FALSE NEIGHBOUR: 'it returns false'. Refute it at one input. -/
def bulkRejoinsWrong : ChangeSpec := { name := "bulkRejoins", fn := fun _ => fun
  | [d] => { results := [.lit (.bool false)], args := [d] }
  | _ => none }
def BulkRejoinsWrongFalsely : Prop := bulkRejoinsRow.holds Tryd.pinned (OpenSpec.ofChange bulkRejoinsWrong)

/-- 'skipgraphlaw9.BulkAssociates': WHATEVER THE INPUT: true; the input reads as it did. -/
def bulkAssociatesSpec : ChangeSpec := { name := "bulkAssociates", fn := fun _ => fun
  | [d] => { results := [.lit (.bool true)], args := [d] }
  | _ => none }
def bulkAssociatesRow : OpenClaim := { program := "ytdlmfcidbojniaadoor", sum := "700c26daba8f3408308a0095bc5d9c3550ef818aa7a5e885751a1c6440cab2b2", func := "skipgraph/skipgraphlaw9.BulkAssociates", spec := "bulkAssociates", inPlace := ["internal/reflectlite.ValueOf", "(internal/reflectlite.Value).Len", "internal/reflectlite.Swapper"], unfollowed := true, recurses := true, named := ["skipgraph/skipgraphworld.letters", "math/bits.deBruijn32tab"], plainKeys := false, apart := false, laid := [("math/bits.deBruijn32tab", laid_math_bits_deBruijn32tab), ("skipgraph/skipgraphworld.letters", laid_skipgraph_skipgraphworld_letters)] }
def BulkAssociatesSaid : Prop := bulkAssociatesRow.holds Tryd.pinned (OpenSpec.ofChange bulkAssociatesSpec)

/-- ITS FALSE NEIGHBOUR: 'it returns false'. Refute it at one input. -/
def bulkAssociatesWrong : ChangeSpec := { name := "bulkAssociates", fn := fun _ => fun
  | [d] => { results := [.lit (.bool false)], args := [d] }
  | _ => none }
def BulkAssociatesWrongFalsely : Prop := bulkAssociatesRow.holds Tryd.pinned (OpenSpec.ofChange bulkAssociatesWrong)

/-- 'skipgraphlaw9.BulkCounts': WHATEVER THE INPUT: true; the input reads as it did. -/
def bulkCountsSpec : ChangeSpec := { name := "bulkCounts", fn := fun _ => fun
  | [d] => { results := [.lit (.bool true)], args := [d] }
  | _ => none }
def bulkCountsRow : OpenClaim := { program := "ytdlmfcidbojniaadoor", sum := "700c26daba8f3408308a0095bc5d9c3550ef818aa7a5e885751a1c6440cab2b2", func := "skipgraph/skipgraphlaw9.BulkCounts", spec := "bulkCounts", inPlace := ["internal/reflectlite.ValueOf", "(internal/reflectlite.Value).Len", "internal/reflectlite.Swapper"], unfollowed := true, recurses := true, named := ["skipgraph/skipgraphworld.letters", "math/bits.deBruijn32tab"], plainKeys := false, apart := false, laid := [("math/bits.deBruijn32tab", laid_math_bits_deBruijn32tab), ("skipgraph/skipgraphworld.letters", laid_skipgraph_skipgraphworld_letters)] }
def BulkCountsSaid : Prop := bulkCountsRow.holds Tryd.pinned (OpenSpec.ofChange bulkCountsSpec)

/-- ITS FALSE NEIGHBOUR: 'it returns false'. Refute it at one input. -/
def bulkCountsWrong : ChangeSpec := { name := "bulkCounts", fn := fun _ => fun
  | [d] => { results := [.lit (.bool false)], args := [d] }
  | _ => none }
def BulkCountsWrongFalsely : Prop := bulkCountsRow.holds Tryd.pinned (OpenSpec.ofChange bulkCountsWrong)

/- THE SECOND FORM. 'bulk': how many values and letters a reading holds, each counted each time it is reached (what is shared counts as often as it is met; a slice's spare places count too). A statement '..UptoSaid' is the law's where the arguments, and the package variables that the reading takes, are together of bulk at most 1048576: NARROWER than '..Said'. Prove '..Said' where nothing that the law and all that it calls make is longer than what came in: it says more and counts as full. Else prove '..UptoSaid'. A law counts once. -/
mutual
def uptoBulk {H : Type} : DataW H → Nat
  | .lit (.string bytes) => bytes.length + 1
  | .lit _ => 1
  | .nil => 1
  | .ptr d => uptoBulk d + 1
  | .slice elems spare => uptoBulkAll elems + uptoBulkAll spare + 1
  | .agg parts => uptoBulkAll parts + 1
  | .iface _ d => uptoBulk d + 1
  | .map entries => uptoBulkEntries entries + 1
  | .held _ => 1
def uptoBulkAll {H : Type} : List (DataW H) → Nat
  | [] => 0
  | d :: r => uptoBulk d + uptoBulkAll r
def uptoBulkEntries {H : Type} : List (Lit × DataW H) → Nat
  | [] => 0
  | x :: r => uptoBulkEntry x + uptoBulkEntries r
def uptoBulkEntry {H : Type} : Lit × DataW H → Nat
  | (.string bytes, d) => bytes.length + uptoBulk d + 1
  | (_, d) => uptoBulk d + 1
 end
def uptoSmall : (H : Type) → List (DataW H) → Bool := fun _ ds => decide (uptoBulkAll ds ≤ 1048576)
def OpenSpec.upto (s : _root_.Go.ChangeSpec) : _root_.Go.OpenSpec := { _root_.Go.OpenSpec.ofChange s with cond := some uptoSmall }

/-- 'skipgraphlaw7.InspectClean', WHERE WHAT IT READS IS OF BULK AT MOST 1048576: true; the input reads as it did. -/
def inspectCleanUptoRow : OpenClaim := { program := "ytdlmfcidbojniaadoor", sum := "700c26daba8f3408308a0095bc5d9c3550ef818aa7a5e885751a1c6440cab2b2", func := "skipgraph/skipgraphlaw7.InspectClean", spec := "inspectClean", inPlace := ["internal/reflectlite.ValueOf", "(internal/reflectlite.Value).Len", "internal/reflectlite.Swapper"], unfollowed := true, recurses := true, named := ["skipgraph/skipgraphworld.letters", "math/bits.deBruijn32tab"], plainKeys := false, apart := false, laid := [("math/bits.deBruijn32tab", laid_math_bits_deBruijn32tab), ("skipgraph/skipgraphworld.letters", laid_skipgraph_skipgraphworld_letters)], narrowed := true }
def InspectCleanUptoSaid : Prop := inspectCleanUptoRow.holds Tryd.pinned (OpenSpec.upto inspectCleanSpec)

/-- 'skipgraphlaw7.InspectFinds', WHERE WHAT IT READS IS OF BULK AT MOST 1048576: true; the input reads as it did. -/
def inspectFindsUptoRow : OpenClaim := { program := "ytdlmfcidbojniaadoor", sum := "700c26daba8f3408308a0095bc5d9c3550ef818aa7a5e885751a1c6440cab2b2", func := "skipgraph/skipgraphlaw7.InspectFinds", spec := "inspectFinds", inPlace := ["internal/reflectlite.ValueOf", "(internal/reflectlite.Value).Len", "internal/reflectlite.Swapper"], unfollowed := true, recurses := true, named := ["skipgraph/skipgraphworld.letters", "math/bits.deBruijn32tab"], plainKeys := false, apart := false, laid := [("math/bits.deBruijn32tab", laid_math_bits_deBruijn32tab), ("skipgraph/skipgraphworld.letters", laid_skipgraph_skipgraphworld_letters)], narrowed := true }
def InspectFindsUptoSaid : Prop := inspectFindsUptoRow.holds Tryd.pinned (OpenSpec.upto inspectFindsSpec)

/-- 'skipgraphlaw7.InspectParts', WHERE WHAT IT READS IS OF BULK AT MOST 1048576: true; the input reads as it did. -/
def inspectPartsUptoRow : OpenClaim := { program := "ytdlmfcidbojniaadoor", sum := "700c26daba8f3408308a0095bc5d9c3550ef818aa7a5e885751a1c6440cab2b2", func := "skipgraph/skipgraphlaw7.InspectParts", spec := "inspectParts", inPlace := ["internal/reflectlite.ValueOf", "(internal/reflectlite.Value).Len", "internal/reflectlite.Swapper"], unfollowed := true, recurses := true, named := ["skipgraph/skipgraphworld.letters", "math/bits.deBruijn32tab"], plainKeys := false, apart := false, laid := [("math/bits.deBruijn32tab", laid_math_bits_deBruijn32tab), ("skipgraph/skipgraphworld.letters", laid_skipgraph_skipgraphworld_letters)], narrowed := true }
def InspectPartsUptoSaid : Prop := inspectPartsUptoRow.holds Tryd.pinned (OpenSpec.upto inspectPartsSpec)

/-- 'skipgraphlaw7.InspectJoins', WHERE WHAT IT READS IS OF BULK AT MOST 1048576: true; the input reads as it did. -/
def inspectJoinsUptoRow : OpenClaim := { program := "ytdlmfcidbojniaadoor", sum := "700c26daba8f3408308a0095bc5d9c3550ef818aa7a5e885751a1c6440cab2b2", func := "skipgraph/skipgraphlaw7.InspectJoins", spec := "inspectJoins", inPlace := ["internal/reflectlite.ValueOf", "(internal/reflectlite.Value).Len", "internal/reflectlite.Swapper"], unfollowed := true, recurses := true, named := ["skipgraph/skipgraphworld.letters", "math/bits.deBruijn32tab"], plainKeys := false, apart := false, laid := [("math/bits.deBruijn32tab", laid_math_bits_deBruijn32tab), ("skipgraph/skipgraphworld.letters", laid_skipgraph_skipgraphworld_letters)], narrowed := true }
def InspectJoinsUptoSaid : Prop := inspectJoinsUptoRow.holds Tryd.pinned (OpenSpec.upto inspectJoinsSpec)

/-- 'skipgraphlaw9.BulkLoads', WHERE WHAT IT READS IS OF BULK AT MOST 1048576: true; the input reads as it did. -/
def bulkLoadsUptoRow : OpenClaim := { program := "ytdlmfcidbojniaadoor", sum := "700c26daba8f3408308a0095bc5d9c3550ef818aa7a5e885751a1c6440cab2b2", func := "skipgraph/skipgraphlaw9.BulkLoads", spec := "bulkLoads", inPlace := ["internal/reflectlite.ValueOf", "(internal/reflectlite.Value).Len", "internal/reflectlite.Swapper"], unfollowed := true, recurses := true, named := ["skipgraph/skipgraphworld.letters", "math/bits.deBruijn32tab"], plainKeys := false, apart := false, laid := [("math/bits.deBruijn32tab", laid_math_bits_deBruijn32tab), ("skipgraph/skipgraphworld.letters", laid_skipgraph_skipgraphworld_letters)], narrowed := true }
def BulkLoadsUptoSaid : Prop := bulkLoadsUptoRow.holds Tryd.pinned (OpenSpec.upto bulkLoadsSpec)

/-- 'skipgraphlaw9.BulkMerges', WHERE WHAT IT READS IS OF BULK AT MOST 1048576: true; the input reads as it did. -/
def bulkMergesUptoRow : OpenClaim := { program := "ytdlmfcidbojniaadoor", sum := "700c26daba8f3408308a0095bc5d9c3550ef818aa7a5e885751a1c6440cab2b2", func := "skipgraph/skipgraphlaw9.BulkMerges", spec := "bulkMerges", inPlace := ["internal/reflectlite.ValueOf", "(internal/reflectlite.Value).Len", "internal/reflectlite.Swapper"], unfollowed := true, recurses := true, named := ["skipgraph/skipgraphworld.letters", "math/bits.deBruijn32tab"], plainKeys := false, apart := false, laid := [("math/bits.deBruijn32tab", laid_math_bits_deBruijn32tab), ("skipgraph/skipgraphworld.letters", laid_skipgraph_skipgraphworld_letters)], narrowed := true }
def BulkMergesUptoSaid : Prop := bulkMergesUptoRow.holds Tryd.pinned (OpenSpec.upto bulkMergesSpec)

/-- 'skipgraphlaw9.BulkRejoins', WHERE WHAT IT READS IS OF BULK AT MOST 1048576: true; the input reads as it did. -/
def bulkRejoinsUptoRow : OpenClaim := { program := "ytdlmfcidbojniaadoor", sum := "700c26daba8f3408308a0095bc5d9c3550ef818aa7a5e885751a1c6440cab2b2", func := "skipgraph/skipgraphlaw9.BulkRejoins", spec := "bulkRejoins", inPlace := ["internal/reflectlite.ValueOf", "(internal/reflectlite.Value).Len", "internal/reflectlite.Swapper"], unfollowed := true, recurses := true, named := ["skipgraph/skipgraphworld.letters", "math/bits.deBruijn32tab"], plainKeys := false, apart := false, laid := [("math/bits.deBruijn32tab", laid_math_bits_deBruijn32tab), ("skipgraph/skipgraphworld.letters", laid_skipgraph_skipgraphworld_letters)], narrowed := true }
def BulkRejoinsUptoSaid : Prop := bulkRejoinsUptoRow.holds Tryd.pinned (OpenSpec.upto bulkRejoinsSpec)

/-- 'skipgraphlaw9.BulkAssociates', WHERE WHAT IT READS IS OF BULK AT MOST 1048576: true; the input reads as it did. -/
def bulkAssociatesUptoRow : OpenClaim := { program := "ytdlmfcidbojniaadoor", sum := "700c26daba8f3408308a0095bc5d9c3550ef818aa7a5e885751a1c6440cab2b2", func := "skipgraph/skipgraphlaw9.BulkAssociates", spec := "bulkAssociates", inPlace := ["internal/reflectlite.ValueOf", "(internal/reflectlite.Value).Len", "internal/reflectlite.Swapper"], unfollowed := true, recurses := true, named := ["skipgraph/skipgraphworld.letters", "math/bits.deBruijn32tab"], plainKeys := false, apart := false, laid := [("math/bits.deBruijn32tab", laid_math_bits_deBruijn32tab), ("skipgraph/skipgraphworld.letters", laid_skipgraph_skipgraphworld_letters)], narrowed := true }
def BulkAssociatesUptoSaid : Prop := bulkAssociatesUptoRow.holds Tryd.pinned (OpenSpec.upto bulkAssociatesSpec)

/-- 'skipgraphlaw9.BulkCounts', WHERE WHAT IT READS IS OF BULK AT MOST 1048576: true; the input reads as it did. -/
def bulkCountsUptoRow : OpenClaim := { program := "ytdlmfcidbojniaadoor", sum := "700c26daba8f3408308a0095bc5d9c3550ef818aa7a5e885751a1c6440cab2b2", func := "skipgraph/skipgraphlaw9.BulkCounts", spec := "bulkCounts", inPlace := ["internal/reflectlite.ValueOf", "(internal/reflectlite.Value).Len", "internal/reflectlite.Swapper"], unfollowed := true, recurses := true, named := ["skipgraph/skipgraphworld.letters", "math/bits.deBruijn32tab"], plainKeys := false, apart := false, laid := [("math/bits.deBruijn32tab", laid_math_bits_deBruijn32tab), ("skipgraph/skipgraphworld.letters", laid_skipgraph_skipgraphworld_letters)], narrowed := true }
def BulkCountsUptoSaid : Prop := bulkCountsUptoRow.holds Tryd.pinned (OpenSpec.upto bulkCountsSpec)

end Rows
end Go.Proofs.YtdlmfcidbojniaaDoor
