/-
  DERIVED. GIVEN WITH THE SEED: THE CARDS: each row of YtdlmfcidbojniaaDoorRows.lean that lists a variable, with what it lists TIED to the program's text (the seventh form; the later family's looks); each row that meets fmt, with fmt's text TOLD by the authors' own Lean function (tested against real Go, not proved from fmt's source: count such statements apart). THE CARD IS WHAT COUNTS. Prove the row's statement (the work); the ties are given (YtdlmfcidbojniaaDoorTie.lean); close each card by the builder's one call (the guide's Derived/Test/ToyasCard.lean, 'card_holds'). Laid BY PROGRAM, IN A SANDBOX (cutbox-door.mjs). By AI agents, Wed Nov 11 2026. No macro, syntax, notation, axiom, sorry.
-/
import Derived.Test.YtdlmfcidbojniaaDoorRows
import GoSem.ClaimSeven
namespace Go.Proofs.YtdlmfcidbojniaaDoor
namespace Rows

/-- THE TIED CARD OF 'skipgraphlaw7.InspectClean'. -/
def inspectCleanCard : Claim7 := { stood := { row := inspectCleanRow, standIns := [], harness := (true, "15940dd22137b97369e29aa9fa58d4ad36908ce772868160b77f6579654df9f9"), looks := false }, kinds := [], alts := [], laidByText := true, laidKinds := [.data, .data], laidTests := true, laidLooks := .later }
def InspectCleanCardSaid : Prop := Claim7.holds Tryd.pinned (.plain (OpenSpec.ofChange inspectCleanSpec)) inspectCleanCard

/-- THE TIED CARD OF 'skipgraphlaw7.InspectFinds'. -/
def inspectFindsCard : Claim7 := { stood := { row := inspectFindsRow, standIns := [], harness := (true, "15940dd22137b97369e29aa9fa58d4ad36908ce772868160b77f6579654df9f9"), looks := false }, kinds := [], alts := [], laidByText := true, laidKinds := [.data, .data], laidTests := true, laidLooks := .later }
def InspectFindsCardSaid : Prop := Claim7.holds Tryd.pinned (.plain (OpenSpec.ofChange inspectFindsSpec)) inspectFindsCard

/-- THE TIED CARD OF 'skipgraphlaw7.InspectParts'. -/
def inspectPartsCard : Claim7 := { stood := { row := inspectPartsRow, standIns := [], harness := (true, "15940dd22137b97369e29aa9fa58d4ad36908ce772868160b77f6579654df9f9"), looks := false }, kinds := [], alts := [], laidByText := true, laidKinds := [.data, .data], laidTests := true, laidLooks := .later }
def InspectPartsCardSaid : Prop := Claim7.holds Tryd.pinned (.plain (OpenSpec.ofChange inspectPartsSpec)) inspectPartsCard

/-- THE TIED CARD OF 'skipgraphlaw7.InspectJoins'. -/
def inspectJoinsCard : Claim7 := { stood := { row := inspectJoinsRow, standIns := [], harness := (true, "15940dd22137b97369e29aa9fa58d4ad36908ce772868160b77f6579654df9f9"), looks := false }, kinds := [], alts := [], laidByText := true, laidKinds := [.data, .data], laidTests := true, laidLooks := .later }
def InspectJoinsCardSaid : Prop := Claim7.holds Tryd.pinned (.plain (OpenSpec.ofChange inspectJoinsSpec)) inspectJoinsCard

/-- THE TIED CARD OF 'skipgraphlaw9.BulkLoads'. -/
def bulkLoadsCard : Claim7 := { stood := { row := bulkLoadsRow, standIns := [], harness := (true, "15940dd22137b97369e29aa9fa58d4ad36908ce772868160b77f6579654df9f9"), looks := false }, kinds := [], alts := [], laidByText := true, laidKinds := [.data, .data], laidTests := true, laidLooks := .later }
def BulkLoadsCardSaid : Prop := Claim7.holds Tryd.pinned (.plain (OpenSpec.ofChange bulkLoadsSpec)) bulkLoadsCard

/-- THE TIED CARD OF 'skipgraphlaw9.BulkMerges'. -/
def bulkMergesCard : Claim7 := { stood := { row := bulkMergesRow, standIns := [], harness := (true, "15940dd22137b97369e29aa9fa58d4ad36908ce772868160b77f6579654df9f9"), looks := false }, kinds := [], alts := [], laidByText := true, laidKinds := [.data, .data], laidTests := true, laidLooks := .later }
def BulkMergesCardSaid : Prop := Claim7.holds Tryd.pinned (.plain (OpenSpec.ofChange bulkMergesSpec)) bulkMergesCard

/-- THE TIED CARD OF 'skipgraphlaw9.BulkRejoins'. -/
def bulkRejoinsCard : Claim7 := { stood := { row := bulkRejoinsRow, standIns := [], harness := (true, "15940dd22137b97369e29aa9fa58d4ad36908ce772868160b77f6579654df9f9"), looks := false }, kinds := [], alts := [], laidByText := true, laidKinds := [.data, .data], laidTests := true, laidLooks := .later }
def BulkRejoinsCardSaid : Prop := Claim7.holds Tryd.pinned (.plain (OpenSpec.ofChange bulkRejoinsSpec)) bulkRejoinsCard

/-- THE TIED CARD OF 'skipgraphlaw9.BulkAssociates'. -/
def bulkAssociatesCard : Claim7 := { stood := { row := bulkAssociatesRow, standIns := [], harness := (true, "15940dd22137b97369e29aa9fa58d4ad36908ce772868160b77f6579654df9f9"), looks := false }, kinds := [], alts := [], laidByText := true, laidKinds := [.data, .data], laidTests := true, laidLooks := .later }
def BulkAssociatesCardSaid : Prop := Claim7.holds Tryd.pinned (.plain (OpenSpec.ofChange bulkAssociatesSpec)) bulkAssociatesCard

/-- THE TIED CARD OF 'skipgraphlaw9.BulkCounts'. -/
def bulkCountsCard : Claim7 := { stood := { row := bulkCountsRow, standIns := [], harness := (true, "15940dd22137b97369e29aa9fa58d4ad36908ce772868160b77f6579654df9f9"), looks := false }, kinds := [], alts := [], laidByText := true, laidKinds := [.data, .data], laidTests := true, laidLooks := .later }
def BulkCountsCardSaid : Prop := Claim7.holds Tryd.pinned (.plain (OpenSpec.ofChange bulkCountsSpec)) bulkCountsCard

/-- THE SECOND FORM's CARD OF 'skipgraphlaw7.InspectClean'. -/
def inspectCleanUptoCard : Claim7 := { stood := { row := inspectCleanUptoRow, standIns := [], harness := (true, "15940dd22137b97369e29aa9fa58d4ad36908ce772868160b77f6579654df9f9"), looks := false }, kinds := [], alts := [], laidByText := true, laidKinds := [.data, .data], laidTests := true, laidLooks := .later }
def InspectCleanUptoCardSaid : Prop := Claim7.holds Tryd.pinned (.plain (OpenSpec.upto inspectCleanSpec)) inspectCleanUptoCard

/-- THE SECOND FORM's CARD OF 'skipgraphlaw7.InspectFinds'. -/
def inspectFindsUptoCard : Claim7 := { stood := { row := inspectFindsUptoRow, standIns := [], harness := (true, "15940dd22137b97369e29aa9fa58d4ad36908ce772868160b77f6579654df9f9"), looks := false }, kinds := [], alts := [], laidByText := true, laidKinds := [.data, .data], laidTests := true, laidLooks := .later }
def InspectFindsUptoCardSaid : Prop := Claim7.holds Tryd.pinned (.plain (OpenSpec.upto inspectFindsSpec)) inspectFindsUptoCard

/-- THE SECOND FORM's CARD OF 'skipgraphlaw7.InspectParts'. -/
def inspectPartsUptoCard : Claim7 := { stood := { row := inspectPartsUptoRow, standIns := [], harness := (true, "15940dd22137b97369e29aa9fa58d4ad36908ce772868160b77f6579654df9f9"), looks := false }, kinds := [], alts := [], laidByText := true, laidKinds := [.data, .data], laidTests := true, laidLooks := .later }
def InspectPartsUptoCardSaid : Prop := Claim7.holds Tryd.pinned (.plain (OpenSpec.upto inspectPartsSpec)) inspectPartsUptoCard

/-- THE SECOND FORM's CARD OF 'skipgraphlaw7.InspectJoins'. -/
def inspectJoinsUptoCard : Claim7 := { stood := { row := inspectJoinsUptoRow, standIns := [], harness := (true, "15940dd22137b97369e29aa9fa58d4ad36908ce772868160b77f6579654df9f9"), looks := false }, kinds := [], alts := [], laidByText := true, laidKinds := [.data, .data], laidTests := true, laidLooks := .later }
def InspectJoinsUptoCardSaid : Prop := Claim7.holds Tryd.pinned (.plain (OpenSpec.upto inspectJoinsSpec)) inspectJoinsUptoCard

/-- THE SECOND FORM's CARD OF 'skipgraphlaw9.BulkLoads'. -/
def bulkLoadsUptoCard : Claim7 := { stood := { row := bulkLoadsUptoRow, standIns := [], harness := (true, "15940dd22137b97369e29aa9fa58d4ad36908ce772868160b77f6579654df9f9"), looks := false }, kinds := [], alts := [], laidByText := true, laidKinds := [.data, .data], laidTests := true, laidLooks := .later }
def BulkLoadsUptoCardSaid : Prop := Claim7.holds Tryd.pinned (.plain (OpenSpec.upto bulkLoadsSpec)) bulkLoadsUptoCard

/-- THE SECOND FORM's CARD OF 'skipgraphlaw9.BulkMerges'. -/
def bulkMergesUptoCard : Claim7 := { stood := { row := bulkMergesUptoRow, standIns := [], harness := (true, "15940dd22137b97369e29aa9fa58d4ad36908ce772868160b77f6579654df9f9"), looks := false }, kinds := [], alts := [], laidByText := true, laidKinds := [.data, .data], laidTests := true, laidLooks := .later }
def BulkMergesUptoCardSaid : Prop := Claim7.holds Tryd.pinned (.plain (OpenSpec.upto bulkMergesSpec)) bulkMergesUptoCard

/-- THE SECOND FORM's CARD OF 'skipgraphlaw9.BulkRejoins'. -/
def bulkRejoinsUptoCard : Claim7 := { stood := { row := bulkRejoinsUptoRow, standIns := [], harness := (true, "15940dd22137b97369e29aa9fa58d4ad36908ce772868160b77f6579654df9f9"), looks := false }, kinds := [], alts := [], laidByText := true, laidKinds := [.data, .data], laidTests := true, laidLooks := .later }
def BulkRejoinsUptoCardSaid : Prop := Claim7.holds Tryd.pinned (.plain (OpenSpec.upto bulkRejoinsSpec)) bulkRejoinsUptoCard

/-- THE SECOND FORM's CARD OF 'skipgraphlaw9.BulkAssociates'. -/
def bulkAssociatesUptoCard : Claim7 := { stood := { row := bulkAssociatesUptoRow, standIns := [], harness := (true, "15940dd22137b97369e29aa9fa58d4ad36908ce772868160b77f6579654df9f9"), looks := false }, kinds := [], alts := [], laidByText := true, laidKinds := [.data, .data], laidTests := true, laidLooks := .later }
def BulkAssociatesUptoCardSaid : Prop := Claim7.holds Tryd.pinned (.plain (OpenSpec.upto bulkAssociatesSpec)) bulkAssociatesUptoCard

/-- THE SECOND FORM's CARD OF 'skipgraphlaw9.BulkCounts'. -/
def bulkCountsUptoCard : Claim7 := { stood := { row := bulkCountsUptoRow, standIns := [], harness := (true, "15940dd22137b97369e29aa9fa58d4ad36908ce772868160b77f6579654df9f9"), looks := false }, kinds := [], alts := [], laidByText := true, laidKinds := [.data, .data], laidTests := true, laidLooks := .later }
def BulkCountsUptoCardSaid : Prop := Claim7.holds Tryd.pinned (.plain (OpenSpec.upto bulkCountsSpec)) bulkCountsUptoCard
end Rows
end Go.Proofs.YtdlmfcidbojniaaDoor
