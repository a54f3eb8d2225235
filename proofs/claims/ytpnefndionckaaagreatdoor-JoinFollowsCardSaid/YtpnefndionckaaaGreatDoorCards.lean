/-
  DERIVED. GIVEN WITH THE SEED: THE CARDS: each row of YtpnefndionckaaaGreatDoorRows.lean that lists a variable, with what it lists TIED to the program's text (the seventh form; the later family's looks); each row that meets fmt, with fmt's text TOLD by the authors' own Lean function (tested against real Go, not proved from fmt's source: count such statements apart). THE CARD IS WHAT COUNTS. Prove the row's statement (the work); the ties are given (YtpnefndionckaaaGreatDoorTie.lean); close each card by the builder's one call (the guide's Derived/Test/ToyasCard.lean, 'card_holds'). Laid BY PROGRAM, IN A SANDBOX (cutbox-door.mjs). By AI agents, Wed Nov 11 2026. No macro, syntax, notation, axiom, sorry.
-/
import Derived.Test.YtpnefndionckaaaGreatDoorRows
import GoSem.ClaimSeven
namespace Go.Proofs.YtpnefndionckaaaGreatDoor
namespace Rows

/-- THE TIED CARD OF 'skipgraphlaw13.JoinMakes'. -/
def joinMakesCard : Claim7 := { stood := { row := joinMakesRow, standIns := [], harness := (true, "9221a93774302e9dbc25fffad06a5a4e01404500c2776f27cab615cdc649ba47"), looks := false }, kinds := [], alts := [], laidByText := true, laidKinds := [.data, .data], laidTests := true, laidLooks := .later }
def JoinMakesCardSaid : Prop := Claim7.holds Tryz.pinned (.plain (OpenSpec.ofChange joinMakesSpec)) joinMakesCard

/-- THE TIED CARD OF 'skipgraphlaw13.JoinFollows'. -/
def joinFollowsCard : Claim7 := { stood := { row := joinFollowsRow, standIns := [], harness := (true, "9221a93774302e9dbc25fffad06a5a4e01404500c2776f27cab615cdc649ba47"), looks := false }, kinds := [], alts := [], laidByText := true, laidKinds := [.data, .data], laidTests := true, laidLooks := .later }
def JoinFollowsCardSaid : Prop := Claim7.holds Tryz.pinned (.plain (OpenSpec.ofChange joinFollowsSpec)) joinFollowsCard

/-- THE TIED CARD OF 'skipgraphlaw13.JoinRaw'. -/
def joinRawCard : Claim7 := { stood := { row := joinRawRow, standIns := [], harness := (true, "9221a93774302e9dbc25fffad06a5a4e01404500c2776f27cab615cdc649ba47"), looks := false }, kinds := [], alts := [], laidByText := true, laidKinds := [.data, .data], laidTests := true, laidLooks := .later }
def JoinRawCardSaid : Prop := Claim7.holds Tryz.pinned (.plain (OpenSpec.ofChange joinRawSpec)) joinRawCard

/-- THE TIED CARD OF 'skipgraphlaw13.JoinKeeps'. -/
def joinKeepsCard : Claim7 := { stood := { row := joinKeepsRow, standIns := [], harness := (true, "9221a93774302e9dbc25fffad06a5a4e01404500c2776f27cab615cdc649ba47"), looks := false }, kinds := [], alts := [], laidByText := true, laidKinds := [.data, .data], laidTests := true, laidLooks := .later }
def JoinKeepsCardSaid : Prop := Claim7.holds Tryz.pinned (.plain (OpenSpec.ofChange joinKeepsSpec)) joinKeepsCard

/-- THE TIED CARD OF 'skipgraphlaw13.JoinPresent'. -/
def joinPresentCard : Claim7 := { stood := { row := joinPresentRow, standIns := [], harness := (true, "9221a93774302e9dbc25fffad06a5a4e01404500c2776f27cab615cdc649ba47"), looks := false }, kinds := [], alts := [], laidByText := true, laidKinds := [.data, .data], laidTests := true, laidLooks := .later }
def JoinPresentCardSaid : Prop := Claim7.holds Tryz.pinned (.plain (OpenSpec.ofChange joinPresentSpec)) joinPresentCard

/-- THE TIED CARD OF 'skipgraphlaw13.JoinEnds'. -/
def joinEndsCard : Claim7 := { stood := { row := joinEndsRow, standIns := [], harness := (true, "9221a93774302e9dbc25fffad06a5a4e01404500c2776f27cab615cdc649ba47"), looks := false }, kinds := [], alts := [], laidByText := true, laidKinds := [.data, .data], laidTests := true, laidLooks := .later }
def JoinEndsCardSaid : Prop := Claim7.holds Tryz.pinned (.plain (OpenSpec.ofChange joinEndsSpec)) joinEndsCard

/-- THE TIED CARD OF 'skipgraphlaw13.JoinAlone'. -/
def joinAloneCard : Claim7 := { stood := { row := joinAloneRow, standIns := [], harness := (true, "9221a93774302e9dbc25fffad06a5a4e01404500c2776f27cab615cdc649ba47"), looks := false }, kinds := [], alts := [], laidByText := true, laidKinds := [.data, .data], laidTests := true, laidLooks := .later }
def JoinAloneCardSaid : Prop := Claim7.holds Tryz.pinned (.plain (OpenSpec.ofChange joinAloneSpec)) joinAloneCard

/-- THE SECOND FORM's CARD OF 'skipgraphlaw13.JoinMakes'. -/
def joinMakesUptoCard : Claim7 := { stood := { row := joinMakesUptoRow, standIns := [], harness := (true, "9221a93774302e9dbc25fffad06a5a4e01404500c2776f27cab615cdc649ba47"), looks := false }, kinds := [], alts := [], laidByText := true, laidKinds := [.data, .data], laidTests := true, laidLooks := .later }
def JoinMakesUptoCardSaid : Prop := Claim7.holds Tryz.pinned (.plain (OpenSpec.upto joinMakesSpec)) joinMakesUptoCard

/-- THE SECOND FORM's CARD OF 'skipgraphlaw13.JoinFollows'. -/
def joinFollowsUptoCard : Claim7 := { stood := { row := joinFollowsUptoRow, standIns := [], harness := (true, "9221a93774302e9dbc25fffad06a5a4e01404500c2776f27cab615cdc649ba47"), looks := false }, kinds := [], alts := [], laidByText := true, laidKinds := [.data, .data], laidTests := true, laidLooks := .later }
def JoinFollowsUptoCardSaid : Prop := Claim7.holds Tryz.pinned (.plain (OpenSpec.upto joinFollowsSpec)) joinFollowsUptoCard

/-- THE SECOND FORM's CARD OF 'skipgraphlaw13.JoinRaw'. -/
def joinRawUptoCard : Claim7 := { stood := { row := joinRawUptoRow, standIns := [], harness := (true, "9221a93774302e9dbc25fffad06a5a4e01404500c2776f27cab615cdc649ba47"), looks := false }, kinds := [], alts := [], laidByText := true, laidKinds := [.data, .data], laidTests := true, laidLooks := .later }
def JoinRawUptoCardSaid : Prop := Claim7.holds Tryz.pinned (.plain (OpenSpec.upto joinRawSpec)) joinRawUptoCard

/-- THE SECOND FORM's CARD OF 'skipgraphlaw13.JoinKeeps'. -/
def joinKeepsUptoCard : Claim7 := { stood := { row := joinKeepsUptoRow, standIns := [], harness := (true, "9221a93774302e9dbc25fffad06a5a4e01404500c2776f27cab615cdc649ba47"), looks := false }, kinds := [], alts := [], laidByText := true, laidKinds := [.data, .data], laidTests := true, laidLooks := .later }
def JoinKeepsUptoCardSaid : Prop := Claim7.holds Tryz.pinned (.plain (OpenSpec.upto joinKeepsSpec)) joinKeepsUptoCard

/-- THE SECOND FORM's CARD OF 'skipgraphlaw13.JoinPresent'. -/
def joinPresentUptoCard : Claim7 := { stood := { row := joinPresentUptoRow, standIns := [], harness := (true, "9221a93774302e9dbc25fffad06a5a4e01404500c2776f27cab615cdc649ba47"), looks := false }, kinds := [], alts := [], laidByText := true, laidKinds := [.data, .data], laidTests := true, laidLooks := .later }
def JoinPresentUptoCardSaid : Prop := Claim7.holds Tryz.pinned (.plain (OpenSpec.upto joinPresentSpec)) joinPresentUptoCard

/-- THE SECOND FORM's CARD OF 'skipgraphlaw13.JoinEnds'. -/
def joinEndsUptoCard : Claim7 := { stood := { row := joinEndsUptoRow, standIns := [], harness := (true, "9221a93774302e9dbc25fffad06a5a4e01404500c2776f27cab615cdc649ba47"), looks := false }, kinds := [], alts := [], laidByText := true, laidKinds := [.data, .data], laidTests := true, laidLooks := .later }
def JoinEndsUptoCardSaid : Prop := Claim7.holds Tryz.pinned (.plain (OpenSpec.upto joinEndsSpec)) joinEndsUptoCard

/-- THE SECOND FORM's CARD OF 'skipgraphlaw13.JoinAlone'. -/
def joinAloneUptoCard : Claim7 := { stood := { row := joinAloneUptoRow, standIns := [], harness := (true, "9221a93774302e9dbc25fffad06a5a4e01404500c2776f27cab615cdc649ba47"), looks := false }, kinds := [], alts := [], laidByText := true, laidKinds := [.data, .data], laidTests := true, laidLooks := .later }
def JoinAloneUptoCardSaid : Prop := Claim7.holds Tryz.pinned (.plain (OpenSpec.upto joinAloneSpec)) joinAloneUptoCard
end Rows
end Go.Proofs.YtpnefndionckaaaGreatDoor
