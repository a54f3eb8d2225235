/-
  DERIVED. GIVEN WITH THE SEED: THE CARDS: each row of YtoadecbimejiiaaDoorRows.lean that lists a variable, with what it lists TIED to the program's text (the seventh form; the later family's looks); each row that meets fmt, with fmt's text TOLD by the authors' own Lean function (tested against real Go, not proved from fmt's source: count such statements apart). THE CARD IS WHAT COUNTS. Prove the row's statement (the work); the ties are given (YtoadecbimejiiaaDoorTie.lean); close each card by the builder's one call (the guide's Derived/Test/ToyasCard.lean, 'card_holds'). Laid BY PROGRAM, IN A SANDBOX (cutbox-door.mjs). By AI agents, Wed Nov 11 2026. No macro, syntax, notation, axiom, sorry.
-/
import Derived.Test.YtoadecbimejiiaaDoorRows
import GoSem.ClaimSeven
namespace Go.Proofs.YtoadecbimejiiaaDoor
namespace Rows

/-- THE TIED CARD OF 'skipgraphlaw5.RosterOwners'. -/
def rosterOwnersCard : Claim7 := { stood := { row := rosterOwnersRow, standIns := [], harness := (true, "cb6b6393d55188c44bfae09f3234c164548899214359a9785d41ac4caeae1c46"), looks := false }, kinds := [], alts := [], laidByText := true, laidKinds := [.data], laidTests := true, laidLooks := .later }
def RosterOwnersCardSaid : Prop := Claim7.holds Tryd.pinned (.plain (OpenSpec.ofChange rosterOwnersSpec)) rosterOwnersCard

/-- THE TIED CARD OF 'skipgraphlaw5.RosterOrderless'. -/
def rosterOrderlessCard : Claim7 := { stood := { row := rosterOrderlessRow, standIns := [], harness := (true, "cb6b6393d55188c44bfae09f3234c164548899214359a9785d41ac4caeae1c46"), looks := false }, kinds := [], alts := [], laidByText := true, laidKinds := [.data], laidTests := true, laidLooks := .later }
def RosterOrderlessCardSaid : Prop := Claim7.holds Tryd.pinned (.plain (OpenSpec.ofChange rosterOrderlessSpec)) rosterOrderlessCard

/-- THE TIED CARD OF 'skipgraphlaw5.RosterChecks'. -/
def rosterChecksCard : Claim7 := { stood := { row := rosterChecksRow, standIns := [], harness := (true, "cb6b6393d55188c44bfae09f3234c164548899214359a9785d41ac4caeae1c46"), looks := false }, kinds := [], alts := [], laidByText := true, laidKinds := [.data], laidTests := true, laidLooks := .later }
def RosterChecksCardSaid : Prop := Claim7.holds Tryd.pinned (.plain (OpenSpec.ofChange rosterChecksSpec)) rosterChecksCard

/-- THE TIED CARD OF 'skipgraphlaw5.RosterLeaves'. -/
def rosterLeavesCard : Claim7 := { stood := { row := rosterLeavesRow, standIns := [], harness := (true, "cb6b6393d55188c44bfae09f3234c164548899214359a9785d41ac4caeae1c46"), looks := false }, kinds := [], alts := [], laidByText := true, laidKinds := [.data], laidTests := true, laidLooks := .later }
def RosterLeavesCardSaid : Prop := Claim7.holds Tryd.pinned (.plain (OpenSpec.ofChange rosterLeavesSpec)) rosterLeavesCard

/-- THE TIED CARD OF 'skipgraphlaw5.RosterTiles'. -/
def rosterTilesCard : Claim7 := { stood := { row := rosterTilesRow, standIns := [], harness := (true, "cb6b6393d55188c44bfae09f3234c164548899214359a9785d41ac4caeae1c46"), looks := false }, kinds := [], alts := [], laidByText := true, laidKinds := [.data], laidTests := true, laidLooks := .later }
def RosterTilesCardSaid : Prop := Claim7.holds Tryd.pinned (.plain (OpenSpec.ofChange rosterTilesSpec)) rosterTilesCard

/-- THE TIED CARD OF 'skipgraphlaw5.RosterJoins'. -/
def rosterJoinsCard : Claim7 := { stood := { row := rosterJoinsRow, standIns := [], harness := (true, "cb6b6393d55188c44bfae09f3234c164548899214359a9785d41ac4caeae1c46"), looks := false }, kinds := [], alts := [], laidByText := true, laidKinds := [.data], laidTests := true, laidLooks := .later }
def RosterJoinsCardSaid : Prop := Claim7.holds Tryd.pinned (.plain (OpenSpec.ofChange rosterJoinsSpec)) rosterJoinsCard

/-- THE SECOND FORM's CARD OF 'skipgraphlaw5.RosterOwners'. -/
def rosterOwnersUptoCard : Claim7 := { stood := { row := rosterOwnersUptoRow, standIns := [], harness := (true, "cb6b6393d55188c44bfae09f3234c164548899214359a9785d41ac4caeae1c46"), looks := false }, kinds := [], alts := [], laidByText := true, laidKinds := [.data], laidTests := true, laidLooks := .later }
def RosterOwnersUptoCardSaid : Prop := Claim7.holds Tryd.pinned (.plain (OpenSpec.upto rosterOwnersSpec)) rosterOwnersUptoCard

/-- THE SECOND FORM's CARD OF 'skipgraphlaw5.RosterOrderless'. -/
def rosterOrderlessUptoCard : Claim7 := { stood := { row := rosterOrderlessUptoRow, standIns := [], harness := (true, "cb6b6393d55188c44bfae09f3234c164548899214359a9785d41ac4caeae1c46"), looks := false }, kinds := [], alts := [], laidByText := true, laidKinds := [.data], laidTests := true, laidLooks := .later }
def RosterOrderlessUptoCardSaid : Prop := Claim7.holds Tryd.pinned (.plain (OpenSpec.upto rosterOrderlessSpec)) rosterOrderlessUptoCard

/-- THE SECOND FORM's CARD OF 'skipgraphlaw5.RosterChecks'. -/
def rosterChecksUptoCard : Claim7 := { stood := { row := rosterChecksUptoRow, standIns := [], harness := (true, "cb6b6393d55188c44bfae09f3234c164548899214359a9785d41ac4caeae1c46"), looks := false }, kinds := [], alts := [], laidByText := true, laidKinds := [.data], laidTests := true, laidLooks := .later }
def RosterChecksUptoCardSaid : Prop := Claim7.holds Tryd.pinned (.plain (OpenSpec.upto rosterChecksSpec)) rosterChecksUptoCard

/-- THE SECOND FORM's CARD OF 'skipgraphlaw5.RosterLeaves'. -/
def rosterLeavesUptoCard : Claim7 := { stood := { row := rosterLeavesUptoRow, standIns := [], harness := (true, "cb6b6393d55188c44bfae09f3234c164548899214359a9785d41ac4caeae1c46"), looks := false }, kinds := [], alts := [], laidByText := true, laidKinds := [.data], laidTests := true, laidLooks := .later }
def RosterLeavesUptoCardSaid : Prop := Claim7.holds Tryd.pinned (.plain (OpenSpec.upto rosterLeavesSpec)) rosterLeavesUptoCard

/-- THE SECOND FORM's CARD OF 'skipgraphlaw5.RosterTiles'. -/
def rosterTilesUptoCard : Claim7 := { stood := { row := rosterTilesUptoRow, standIns := [], harness := (true, "cb6b6393d55188c44bfae09f3234c164548899214359a9785d41ac4caeae1c46"), looks := false }, kinds := [], alts := [], laidByText := true, laidKinds := [.data], laidTests := true, laidLooks := .later }
def RosterTilesUptoCardSaid : Prop := Claim7.holds Tryd.pinned (.plain (OpenSpec.upto rosterTilesSpec)) rosterTilesUptoCard

/-- THE SECOND FORM's CARD OF 'skipgraphlaw5.RosterJoins'. -/
def rosterJoinsUptoCard : Claim7 := { stood := { row := rosterJoinsUptoRow, standIns := [], harness := (true, "cb6b6393d55188c44bfae09f3234c164548899214359a9785d41ac4caeae1c46"), looks := false }, kinds := [], alts := [], laidByText := true, laidKinds := [.data], laidTests := true, laidLooks := .later }
def RosterJoinsUptoCardSaid : Prop := Claim7.holds Tryd.pinned (.plain (OpenSpec.upto rosterJoinsSpec)) rosterJoinsUptoCard
end Rows
end Go.Proofs.YtoadecbimejiiaaDoor
