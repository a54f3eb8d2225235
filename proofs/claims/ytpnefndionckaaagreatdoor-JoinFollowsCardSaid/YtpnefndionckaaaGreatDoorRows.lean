/-
  NARROWER THAN 'FOR EVERY INPUT', by the rows' own cells (each row's printed sentence says how): JoinMakes: laid · JoinFollows: laid · JoinRaw: laid · JoinKeeps: laid · JoinPresent: laid · JoinEnds: laid · JoinAlone: laid.
  DERIVED. THE GIVEN ROWS OF THIS SEAT. 7 by the template 'for every input the law returns true; each argument reads behind the call as it read before'; 0 by the template 'total and deterministic' (their statements: YtpnefndionckaaaGreatDoorTotals.lean).
  GIVEN WITH THE SEED: the statements are not yours to turn. If you find one false, say at which input.
  Laid BY PROGRAM, IN A SANDBOX (cutbox-rows.mjs): the forced cells as the released guide's own fill.sh prints them over the translation b0bf49d8a748ffb8… (all of the seat's roots in one cut). By AI agents, Wed Nov 11 2026. No macro, syntax, notation, axiom, sorry.
-/
import Derived.Test.YtpnefndionckaaaGreatDoorChecked
import GoSem.Claim
import GoSem.ClaimJoined
import GoSem.ClaimMapViews
import Derived.JoinedTies
import Derived.KernelRfl
namespace Go.Proofs.YtpnefndionckaaaGreatDoor
/- THE CELL 'sum', in the pinned program and in every row, IS THE sha256 OF THE DUMP (.gsa) THAT YtpnefndionckaaaGreatDoorProg.lean LOADS. Nothing in Lean hashes anything: it is a label: what it is worth is what the hold of that sum in a sandbox is worth. -/
noncomputable def Tryz.pinned : Pinned := { name := "ytpnefndionckaaagreatdoor", sum := "b0bf49d8a748ffb87c68b11cc183436c45590222ee9ddf6fca380d262489d474", checked := Tryz.checked }
namespace Rows
def none {H : Type} : Left H := { results := [], args := [] }

/- WHAT THE LISTED PACKAGE-LEVEL VARIABLES READ AS WHEN THE CALL BEGINS. Each datum BY PROGRAM (the guide's laid-datum.mjs) off the statement by which the dump's own 'gosem.cut.vars' lays the variable. In a bare row this is a premise. The card (YtpnefndionckaaaGreatDoorCards.lean) ties it to the program's text. -/
def laid_math_bits_deBruijn32tab {H : Type} : DataW H := .agg [.lit (.int .u8 0), .lit (.int .u8 1), .lit (.int .u8 28), .lit (.int .u8 2), .lit (.int .u8 29), .lit (.int .u8 14), .lit (.int .u8 24), .lit (.int .u8 3), .lit (.int .u8 30), .lit (.int .u8 22), .lit (.int .u8 20), .lit (.int .u8 15), .lit (.int .u8 25), .lit (.int .u8 17), .lit (.int .u8 4), .lit (.int .u8 8), .lit (.int .u8 31), .lit (.int .u8 27), .lit (.int .u8 13), .lit (.int .u8 23), .lit (.int .u8 21), .lit (.int .u8 19), .lit (.int .u8 16), .lit (.int .u8 7), .lit (.int .u8 26), .lit (.int .u8 12), .lit (.int .u8 18), .lit (.int .u8 6), .lit (.int .u8 11), .lit (.int .u8 5), .lit (.int .u8 10), .lit (.int .u8 9)]
def laid_skipgraph_skipgraphworld_letters {H : Type} : DataW H := .agg [.lit (.string [97]), .lit (.string [98]), .lit (.string [99]), .lit (.string [0]), .lit (.string [255]), .lit (.string [109])]

/-- 'skipgraphlaw13.JoinMakes': WHATEVER THE INPUT: true; the input reads as it did. -/
def joinMakesSpec : ChangeSpec := { name := "joinMakes", fn := fun _ => fun
  | [d1, d2, d3, d4, d5] => { results := [.lit (.bool true)], args := [d1, d2, d3, d4, d5] }
  | _ => none }
def joinMakesRow : OpenClaim := { program := "ytpnefndionckaaagreatdoor", sum := "b0bf49d8a748ffb87c68b11cc183436c45590222ee9ddf6fca380d262489d474", func := "skipgraph/skipgraphlaw13.JoinMakes", spec := "joinMakes", inPlace := ["internal/reflectlite.ValueOf", "(internal/reflectlite.Value).Len", "internal/reflectlite.Swapper"], unfollowed := true, recurses := true, named := ["skipgraph/skipgraphworld.letters", "math/bits.deBruijn32tab"], apart := false, laid := [("math/bits.deBruijn32tab", laid_math_bits_deBruijn32tab), ("skipgraph/skipgraphworld.letters", laid_skipgraph_skipgraphworld_letters)] }
def JoinMakesSaid : Prop := joinMakesRow.holds Tryz.pinned (OpenSpec.ofChange joinMakesSpec)

/-- ITS FALSE NEIGHBOUR: 'it returns false'. Refute it at one input. -/
def joinMakesWrong : ChangeSpec := { name := "joinMakes", fn := fun _ => fun
  | [d1, d2, d3, d4, d5] => { results := [.lit (.bool false)], args := [d1, d2, d3, d4, d5] }
  | _ => none }
def JoinMakesWrongFalsely : Prop := joinMakesRow.holds Tryz.pinned (OpenSpec.ofChange joinMakesWrong)

/-- 'skipgraphlaw13.JoinFollows': WHATEVER THE INPUT: true; the input reads as it did. -/
def joinFollowsSpec : ChangeSpec := { name := "joinFollows", fn := fun _ => fun
  | [d1, d2, d3, d4] => { results := [.lit (.bool true)], args := [d1, d2, d3, d4] }
  | _ => none }
def joinFollowsRow : OpenClaim := { program := "ytpnefndionckaaagreatdoor", sum := "b0bf49d8a748ffb87c68b11cc183436c45590222ee9ddf6fca380d262489d474", func := "skipgraph/skipgraphlaw13.JoinFollows", spec := "joinFollows", inPlace := ["internal/reflectlite.ValueOf", "(internal/reflectlite.Value).Len", "internal/reflectlite.Swapper"], unfollowed := true, recurses := true, named := ["skipgraph/skipgraphworld.letters", "math/bits.deBruijn32tab"], apart := false, laid := [("math/bits.deBruijn32tab", laid_math_bits_deBruijn32tab), ("skipgraph/skipgraphworld.letters", laid_skipgraph_skipgraphworld_letters)] }
def JoinFollowsSaid : Prop := joinFollowsRow.holds Tryz.pinned (OpenSpec.ofChange joinFollowsSpec)

/-- ITS FALSE NEIGHBOUR: 'it returns false'. Refute it at one input. -/
def joinFollowsWrong : ChangeSpec := { name := "joinFollows", fn := fun _ => fun
  | [d1, d2, d3, d4] => { results := [.lit (.bool false)], args := [d1, d2, d3, d4] }
  | _ => none }
def JoinFollowsWrongFalsely : Prop := joinFollowsRow.holds Tryz.pinned (OpenSpec.ofChange joinFollowsWrong)

/-- 'skipgraphlaw13.JoinRaw': WHATEVER THE INPUT: true; the input reads as it did. -/
def joinRawSpec : ChangeSpec := { name := "joinRaw", fn := fun _ => fun
  | [d1, d2, d3, d4, d5] => { results := [.lit (.bool true)], args := [d1, d2, d3, d4, d5] }
  | _ => none }
def joinRawRow : OpenClaim := { program := "ytpnefndionckaaagreatdoor", sum := "b0bf49d8a748ffb87c68b11cc183436c45590222ee9ddf6fca380d262489d474", func := "skipgraph/skipgraphlaw13.JoinRaw", spec := "joinRaw", inPlace := ["internal/reflectlite.ValueOf", "(internal/reflectlite.Value).Len", "internal/reflectlite.Swapper"], unfollowed := true, recurses := true, named := ["skipgraph/skipgraphworld.letters", "math/bits.deBruijn32tab"], apart := false, laid := [("math/bits.deBruijn32tab", laid_math_bits_deBruijn32tab), ("skipgraph/skipgraphworld.letters", laid_skipgraph_skipgraphworld_letters)] }
def JoinRawSaid : Prop := joinRawRow.holds Tryz.pinned (OpenSpec.ofChange joinRawSpec)

/-- ITS FALSE NEIGHBOUR: 'it returns false'. Refute it at one input. -/
def joinRawWrong : ChangeSpec := { name := "joinRaw", fn := fun _ => fun
  | [d1, d2, d3, d4, d5] => { results := [.lit (.bool false)], args := [d1, d2, d3, d4, d5] }
  | _ => none }
def JoinRawWrongFalsely : Prop := joinRawRow.holds Tryz.pinned (OpenSpec.ofChange joinRawWrong)

/-- 'skipgraphlaw13.JoinKeeps': WHATEVER THE INPUT: true; the input reads as it did. -/
def joinKeepsSpec : ChangeSpec := { name := "joinKeeps", fn := fun _ => fun
  | [d] => { results := [.lit (.bool true)], args := [d] }
  | _ => none }
def joinKeepsRow : OpenClaim := { program := "ytpnefndionckaaagreatdoor", sum := "b0bf49d8a748ffb87c68b11cc183436c45590222ee9ddf6fca380d262489d474", func := "skipgraph/skipgraphlaw13.JoinKeeps", spec := "joinKeeps", inPlace := ["internal/reflectlite.ValueOf", "(internal/reflectlite.Value).Len", "internal/reflectlite.Swapper"], unfollowed := true, recurses := true, named := ["skipgraph/skipgraphworld.letters", "math/bits.deBruijn32tab"], apart := false, laid := [("math/bits.deBruijn32tab", laid_math_bits_deBruijn32tab), ("skipgraph/skipgraphworld.letters", laid_skipgraph_skipgraphworld_letters)] }
def JoinKeepsSaid : Prop := joinKeepsRow.holds Tryz.pinned (OpenSpec.ofChange joinKeepsSpec)

/-- ITS FALSE NEIGHBOUR: 'it returns false'. Refute it at one input. -/
def joinKeepsWrong : ChangeSpec := { name := "joinKeeps", fn := fun _ => fun
  | [d] => { results := [.lit (.bool false)], args := [d] }
  | _ => none }
def JoinKeepsWrongFalsely : Prop := joinKeepsRow.holds Tryz.pinned (OpenSpec.ofChange joinKeepsWrong)

/-- 'skipgraphlaw13.JoinPresent': WHATEVER THE INPUT: true; the input reads as it did. -/
def joinPresentSpec : ChangeSpec := { name := "joinPresent", fn := fun _ => fun
  | [d] => { results := [.lit (.bool true)], args := [d] }
  | _ => none }
def joinPresentRow : OpenClaim := { program := "ytpnefndionckaaagreatdoor", sum := "b0bf49d8a748ffb87c68b11cc183436c45590222ee9ddf6fca380d262489d474", func := "skipgraph/skipgraphlaw13.JoinPresent", spec := "joinPresent", inPlace := ["internal/reflectlite.ValueOf", "(internal/reflectlite.Value).Len", "internal/reflectlite.Swapper"], unfollowed := true, recurses := true, named := ["skipgraph/skipgraphworld.letters", "math/bits.deBruijn32tab"], apart := false, laid := [("math/bits.deBruijn32tab", laid_math_bits_deBruijn32tab), ("skipgraph/skipgraphworld.letters", laid_skipgraph_skipgraphworld_letters)] }
def JoinPresentSaid : Prop := joinPresentRow.holds Tryz.pinned (OpenSpec.ofChange joinPresentSpec)

/-- ITS FALSE NEIGHBOUR: 'it returns false'. Refute it at one input. -/
def joinPresentWrong : ChangeSpec := { name := "joinPresent", fn := fun _ => fun
  | [d] => { results := [.lit (.bool false)], args := [d] }
  | _ => none }
def JoinPresentWrongFalsely : Prop := joinPresentRow.holds Tryz.pinned (OpenSpec.ofChange joinPresentWrong)

/-- 'skipgraphlaw13.JoinEnds': WHATEVER THE INPUT: true; the input reads as it did. -/
def joinEndsSpec : ChangeSpec := { name := "joinEnds", fn := fun _ => fun
  | [d] => { results := [.lit (.bool true)], args := [d] }
  | _ => none }
def joinEndsRow : OpenClaim := { program := "ytpnefndionckaaagreatdoor", sum := "b0bf49d8a748ffb87c68b11cc183436c45590222ee9ddf6fca380d262489d474", func := "skipgraph/skipgraphlaw13.JoinEnds", spec := "joinEnds", inPlace := ["internal/reflectlite.ValueOf", "(internal/reflectlite.Value).Len", "internal/reflectlite.Swapper"], unfollowed := true, recurses := true, named := ["skipgraph/skipgraphworld.letters", "math/bits.deBruijn32tab"], apart := false, laid := [("math/bits.deBruijn32tab", laid_math_bits_deBruijn32tab), ("skipgraph/skipgraphworld.letters", laid_skipgraph_skipgraphworld_letters)] }
def JoinEndsSaid : Prop := joinEndsRow.holds Tryz.pinned (OpenSpec.ofChange joinEndsSpec)

/-- ITS FALSE NEIGHBOUR: 'it returns false'. Refute it at one input. -/
def joinEndsWrong : ChangeSpec := { name := "joinEnds", fn := fun _ => fun
  | [d] => { results := [.lit (.bool false)], args := [d] }
  | _ => none }
def JoinEndsWrongFalsely : Prop := joinEndsRow.holds Tryz.pinned (OpenSpec.ofChange joinEndsWrong)

/-- 'skipgraphlaw13.JoinAlone': WHATEVER THE INPUT: true; the input reads as it did. -/
def joinAloneSpec : ChangeSpec := { name := "joinAlone", fn := fun _ => fun
  | [d] => { results := [.lit (.bool true)], args := [d] }
  | _ => none }
def joinAloneRow : OpenClaim := { program := "ytpnefndionckaaagreatdoor", sum := "b0bf49d8a748ffb87c68b11cc183436c45590222ee9ddf6fca380d262489d474", func := "skipgraph/skipgraphlaw13.JoinAlone", spec := "joinAlone", inPlace := ["internal/reflectlite.ValueOf", "(internal/reflectlite.Value).Len", "internal/reflectlite.Swapper"], unfollowed := true, recurses := true, named := ["skipgraph/skipgraphworld.letters", "math/bits.deBruijn32tab"], apart := false, laid := [("math/bits.deBruijn32tab", laid_math_bits_deBruijn32tab), ("skipgraph/skipgraphworld.letters", laid_skipgraph_skipgraphworld_letters)] }
def JoinAloneSaid : Prop := joinAloneRow.holds Tryz.pinned (OpenSpec.ofChange joinAloneSpec)

/-- ITS FALSE NEIGHBOUR: 'it returns false'. Refute it at one input. -/
def joinAloneWrong : ChangeSpec := { name := "joinAlone", fn := fun _ => fun
  | [d] => { results := [.lit (.bool false)], args := [d] }
  | _ => none }
def JoinAloneWrongFalsely : Prop := joinAloneRow.holds Tryz.pinned (OpenSpec.ofChange joinAloneWrong)

/- THE SECOND FORM. 'bulk': how many values and letters a reading holds, each counted each time it is reached (what is shared counts as often as it is met; a slice's spare places count too). A statement '..UptoSaid' is the law's where the arguments, and the package variables that the reading takes, are together of bulk at most 1048576: NARROWER than '..Said'. Prove '..Said' where nothing that the law and all that it calls make is longer than what came in: it says more and counts as full. Else prove '..UptoSaid'. A law counts once. -/
mutual
def uptoBulk {H : Type} : DataW H → Nat
  | .lit (.string bytes) => bytes.length + 1
  | .lit _ => 1
  | .nil => 1
  | .ptr d => uptoBulk d + 1
  | .slice elems spare => uptoBulkAll elems + uptoBulkAll spare + 1
  | .agg parts => uptoBulkAll parts + 1
  | .iface _ d => uptoBulk d + 1
  | .map entries => uptoBulkEntries entries + 1
  | .held _ => 1
def uptoBulkAll {H : Type} : List (DataW H) → Nat
  | [] => 0
  | d :: r => uptoBulk d + uptoBulkAll r
def uptoBulkEntries {H : Type} : List (Lit × DataW H) → Nat
  | [] => 0
  | x :: r => uptoBulkEntry x + uptoBulkEntries r
def uptoBulkEntry {H : Type} : Lit × DataW H → Nat
  | (.string bytes, d) => bytes.length + uptoBulk d + 1
  | (_, d) => uptoBulk d + 1
 end
def uptoSmall : (H : Type) → List (DataW H) → Bool := fun _ ds => decide (uptoBulkAll ds ≤ 1048576)
def OpenSpec.upto (s : _root_.Go.ChangeSpec) : _root_.Go.OpenSpec := { _root_.Go.OpenSpec.ofChange s with cond := some uptoSmall }

/-- 'skipgraphlaw13.JoinMakes', WHERE WHAT IT READS IS OF BULK AT MOST 1048576: true; the input reads as it did. -/
def joinMakesUptoRow : OpenClaim := { program := "ytpnefndionckaaagreatdoor", sum := "b0bf49d8a748ffb87c68b11cc183436c45590222ee9ddf6fca380d262489d474", func := "skipgraph/skipgraphlaw13.JoinMakes", spec := "joinMakes", inPlace := ["internal/reflectlite.ValueOf", "(internal/reflectlite.Value).Len", "internal/reflectlite.Swapper"], unfollowed := true, recurses := true, named := ["skipgraph/skipgraphworld.letters", "math/bits.deBruijn32tab"], apart := false, laid := [("math/bits.deBruijn32tab", laid_math_bits_deBruijn32tab), ("skipgraph/skipgraphworld.letters", laid_skipgraph_skipgraphworld_letters)], narrowed := true }
def JoinMakesUptoSaid : Prop := joinMakesUptoRow.holds Tryz.pinned (OpenSpec.upto joinMakesSpec)

/-- 'skipgraphlaw13.JoinFollows', WHERE WHAT IT READS IS OF BULK AT MOST 1048576: true; the input reads as it did. -/
def joinFollowsUptoRow : OpenClaim := { program := "ytpnefndionckaaagreatdoor", sum := "b0bf49d8a748ffb87c68b11cc183436c45590222ee9ddf6fca380d262489d474", func := "skipgraph/skipgraphlaw13.JoinFollows", spec := "joinFollows", inPlace := ["internal/reflectlite.ValueOf", "(internal/reflectlite.Value).Len", "internal/reflectlite.Swapper"], unfollowed := true, recurses := true, named := ["skipgraph/skipgraphworld.letters", "math/bits.deBruijn32tab"], apart := false, laid := [("math/bits.deBruijn32tab", laid_math_bits_deBruijn32tab), ("skipgraph/skipgraphworld.letters", laid_skipgraph_skipgraphworld_letters)], narrowed := true }
def JoinFollowsUptoSaid : Prop := joinFollowsUptoRow.holds Tryz.pinned (OpenSpec.upto joinFollowsSpec)

/-- 'skipgraphlaw13.JoinRaw', WHERE WHAT IT READS IS OF BULK AT MOST 1048576: true; the input reads as it did. -/
def joinRawUptoRow : OpenClaim := { program := "ytpnefndionckaaagreatdoor", sum := "b0bf49d8a748ffb87c68b11cc183436c45590222ee9ddf6fca380d262489d474", func := "skipgraph/skipgraphlaw13.JoinRaw", spec := "joinRaw", inPlace := ["internal/reflectlite.ValueOf", "(internal/reflectlite.Value).Len", "internal/reflectlite.Swapper"], unfollowed := true, recurses := true, named := ["skipgraph/skipgraphworld.letters", "math/bits.deBruijn32tab"], apart := false, laid := [("math/bits.deBruijn32tab", laid_math_bits_deBruijn32tab), ("skipgraph/skipgraphworld.letters", laid_skipgraph_skipgraphworld_letters)], narrowed := true }
def JoinRawUptoSaid : Prop := joinRawUptoRow.holds Tryz.pinned (OpenSpec.upto joinRawSpec)

/-- 'skipgraphlaw13.JoinKeeps', WHERE WHAT IT READS IS OF BULK AT MOST 1048576: true; the input reads as it did. -/
def joinKeepsUptoRow : OpenClaim := { program := "ytpnefndionckaaagreatdoor", sum := "b0bf49d8a748ffb87c68b11cc183436c45590222ee9ddf6fca380d262489d474", func := "skipgraph/skipgraphlaw13.JoinKeeps", spec := "joinKeeps", inPlace := ["internal/reflectlite.ValueOf", "(internal/reflectlite.Value).Len", "internal/reflectlite.Swapper"], unfollowed := true, recurses := true, named := ["skipgraph/skipgraphworld.letters", "math/bits.deBruijn32tab"], apart := false, laid := [("math/bits.deBruijn32tab", laid_math_bits_deBruijn32tab), ("skipgraph/skipgraphworld.letters", laid_skipgraph_skipgraphworld_letters)], narrowed := true }
def JoinKeepsUptoSaid : Prop := joinKeepsUptoRow.holds Tryz.pinned (OpenSpec.upto joinKeepsSpec)

/-- 'skipgraphlaw13.JoinPresent', WHERE WHAT IT READS IS OF BULK AT MOST 1048576: true; the input reads as it did. -/
def joinPresentUptoRow : OpenClaim := { program := "ytpnefndionckaaagreatdoor", sum := "b0bf49d8a748ffb87c68b11cc183436c45590222ee9ddf6fca380d262489d474", func := "skipgraph/skipgraphlaw13.JoinPresent", spec := "joinPresent", inPlace := ["internal/reflectlite.ValueOf", "(internal/reflectlite.Value).Len", "internal/reflectlite.Swapper"], unfollowed := true, recurses := true, named := ["skipgraph/skipgraphworld.letters", "math/bits.deBruijn32tab"], apart := false, laid := [("math/bits.deBruijn32tab", laid_math_bits_deBruijn32tab), ("skipgraph/skipgraphworld.letters", laid_skipgraph_skipgraphworld_letters)], narrowed := true }
def JoinPresentUptoSaid : Prop := joinPresentUptoRow.holds Tryz.pinned (OpenSpec.upto joinPresentSpec)

/-- 'skipgraphlaw13.JoinEnds', WHERE WHAT IT READS IS OF BULK AT MOST 1048576: true; the input reads as it did. -/
def joinEndsUptoRow : OpenClaim := { program := "ytpnefndionckaaagreatdoor", sum := "b0bf49d8a748ffb87c68b11cc183436c45590222ee9ddf6fca380d262489d474", func := "skipgraph/skipgraphlaw13.JoinEnds", spec := "joinEnds", inPlace := ["internal/reflectlite.ValueOf", "(internal/reflectlite.Value).Len", "internal/reflectlite.Swapper"], unfollowed := true, recurses := true, named := ["skipgraph/skipgraphworld.letters", "math/bits.deBruijn32tab"], apart := false, laid := [("math/bits.deBruijn32tab", laid_math_bits_deBruijn32tab), ("skipgraph/skipgraphworld.letters", laid_skipgraph_skipgraphworld_letters)], narrowed := true }
def JoinEndsUptoSaid : Prop := joinEndsUptoRow.holds Tryz.pinned (OpenSpec.upto joinEndsSpec)

/-- 'skipgraphlaw13.JoinAlone', WHERE WHAT IT READS IS OF BULK AT MOST 1048576: true; the input reads as it did. -/
def joinAloneUptoRow : OpenClaim := { program := "ytpnefndionckaaagreatdoor", sum := "b0bf49d8a748ffb87c68b11cc183436c45590222ee9ddf6fca380d262489d474", func := "skipgraph/skipgraphlaw13.JoinAlone", spec := "joinAlone", inPlace := ["internal/reflectlite.ValueOf", "(internal/reflectlite.Value).Len", "internal/reflectlite.Swapper"], unfollowed := true, recurses := true, named := ["skipgraph/skipgraphworld.letters", "math/bits.deBruijn32tab"], apart := false, laid := [("math/bits.deBruijn32tab", laid_math_bits_deBruijn32tab), ("skipgraph/skipgraphworld.letters", laid_skipgraph_skipgraphworld_letters)], narrowed := true }
def JoinAloneUptoSaid : Prop := joinAloneUptoRow.holds Tryz.pinned (OpenSpec.upto joinAloneSpec)

end Rows
end Go.Proofs.YtpnefndionckaaaGreatDoor
