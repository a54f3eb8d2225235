/-
  DERIVED. GIVEN WITH THE SEED: THE CARDS: each row of YtdfdidinfaefmaaDoorRows.lean that lists a variable, with what it lists TIED to the program's text (the seventh form; the later family's looks); each row that meets fmt, with fmt's text TOLD by the authors' own Lean function (tested against real Go, not proved from fmt's source: count such statements apart). THE CARD IS WHAT COUNTS. Prove the row's statement (the work); the ties are given (YtdfdidinfaefmaaDoorTie.lean); close each card by the builder's one call (the guide's Derived/Test/ToyasCard.lean, 'card_holds'). Laid BY PROGRAM, IN A SANDBOX (cutbox-door.mjs). By AI agents, Wed Nov 11 2026. No macro, syntax, notation, axiom, sorry.
-/
import Derived.Test.YtdfdidinfaefmaaDoorRows
import GoSem.ClaimSeven
namespace Go.Proofs.YtdfdidinfaefmaaDoor
namespace Rows

/-- THE TIED CARD OF 'skipgraphlaw11.LockedMakes'. -/
def lockedMakesCard : Claim7 := { stood := { row := lockedMakesRow, standIns := [], harness := (true, "a4259771778adc5afbbbf57b6b6103adb23a1d3e665aabc50db39e8a6f43f587"), looks := false }, kinds := [], alts := [], laidByText := true, laidKinds := [.data], laidTests := true, laidLooks := .later }
def LockedMakesCardSaid : Prop := Claim7.holds Tryd.pinned (.plain (OpenSpec.ofChange lockedMakesSpec)) lockedMakesCard

/-- THE TIED CARD OF 'skipgraphlaw11.LockedKeeps'. -/
def lockedKeepsCard : Claim7 := { stood := { row := lockedKeepsRow, standIns := [], harness := (true, "a4259771778adc5afbbbf57b6b6103adb23a1d3e665aabc50db39e8a6f43f587"), looks := false }, kinds := [], alts := [], laidByText := true, laidKinds := [.data], laidTests := true, laidLooks := .later }
def LockedKeepsCardSaid : Prop := Claim7.holds Tryd.pinned (.plain (OpenSpec.ofChange lockedKeepsSpec)) lockedKeepsCard

/-- THE TIED CARD OF 'skipgraphlaw11.LockedChanges'. -/
def lockedChangesCard : Claim7 := { stood := { row := lockedChangesRow, standIns := [], harness := (true, "a4259771778adc5afbbbf57b6b6103adb23a1d3e665aabc50db39e8a6f43f587"), looks := false }, kinds := [], alts := [], laidByText := true, laidKinds := [.data], laidTests := true, laidLooks := .later }
def LockedChangesCardSaid : Prop := Claim7.holds Tryd.pinned (.plain (OpenSpec.ofChange lockedChangesSpec)) lockedChangesCard

/-- THE TIED CARD OF 'skipgraphlaw11.LockedMoments'. -/
def lockedMomentsCard : Claim7 := { stood := { row := lockedMomentsRow, standIns := [], harness := (true, "a4259771778adc5afbbbf57b6b6103adb23a1d3e665aabc50db39e8a6f43f587"), looks := false }, kinds := [], alts := [], laidByText := true, laidKinds := [.data], laidTests := true, laidLooks := .later }
def LockedMomentsCardSaid : Prop := Claim7.holds Tryd.pinned (.plain (OpenSpec.ofChange lockedMomentsSpec)) lockedMomentsCard

/-- THE TIED CARD OF 'skipgraphlaw11.LockedSerial'. -/
def lockedSerialCard : Claim7 := { stood := { row := lockedSerialRow, standIns := [], harness := (true, "a4259771778adc5afbbbf57b6b6103adb23a1d3e665aabc50db39e8a6f43f587"), looks := false }, kinds := [], alts := [], laidByText := true, laidKinds := [.data], laidTests := true, laidLooks := .later }
def LockedSerialCardSaid : Prop := Claim7.holds Tryd.pinned (.plain (OpenSpec.ofChange lockedSerialSpec)) lockedSerialCard

/-- THE TIED CARD OF 'skipgraphlaw11.LockedFollows'. -/
def lockedFollowsCard : Claim7 := { stood := { row := lockedFollowsRow, standIns := [], harness := (true, "a4259771778adc5afbbbf57b6b6103adb23a1d3e665aabc50db39e8a6f43f587"), looks := false }, kinds := [], alts := [], laidByText := true, laidKinds := [.data], laidTests := true, laidLooks := .later }
def LockedFollowsCardSaid : Prop := Claim7.holds Tryd.pinned (.plain (OpenSpec.ofChange lockedFollowsSpec)) lockedFollowsCard

/-- THE TIED CARD OF 'skipgraphlaw11.LockedRaw'. -/
def lockedRawCard : Claim7 := { stood := { row := lockedRawRow, standIns := [], harness := (true, "a4259771778adc5afbbbf57b6b6103adb23a1d3e665aabc50db39e8a6f43f587"), looks := false }, kinds := [], alts := [], laidByText := true, laidKinds := [.data], laidTests := true, laidLooks := .later }
def LockedRawCardSaid : Prop := Claim7.holds Tryd.pinned (.plain (OpenSpec.ofChange lockedRawSpec)) lockedRawCard

/-- THE TIED CARD OF 'skipgraphlaw11.LockedEnds'. -/
def lockedEndsCard : Claim7 := { stood := { row := lockedEndsRow, standIns := [], harness := (true, "a4259771778adc5afbbbf57b6b6103adb23a1d3e665aabc50db39e8a6f43f587"), looks := false }, kinds := [], alts := [], laidByText := true, laidKinds := [.data], laidTests := true, laidLooks := .later }
def LockedEndsCardSaid : Prop := Claim7.holds Tryd.pinned (.plain (OpenSpec.ofChange lockedEndsSpec)) lockedEndsCard

/-- THE SECOND FORM's CARD OF 'skipgraphlaw11.LockedMakes'. -/
def lockedMakesUptoCard : Claim7 := { stood := { row := lockedMakesUptoRow, standIns := [], harness := (true, "a4259771778adc5afbbbf57b6b6103adb23a1d3e665aabc50db39e8a6f43f587"), looks := false }, kinds := [], alts := [], laidByText := true, laidKinds := [.data], laidTests := true, laidLooks := .later }
def LockedMakesUptoCardSaid : Prop := Claim7.holds Tryd.pinned (.plain (OpenSpec.upto lockedMakesSpec)) lockedMakesUptoCard

/-- THE SECOND FORM's CARD OF 'skipgraphlaw11.LockedKeeps'. -/
def lockedKeepsUptoCard : Claim7 := { stood := { row := lockedKeepsUptoRow, standIns := [], harness := (true, "a4259771778adc5afbbbf57b6b6103adb23a1d3e665aabc50db39e8a6f43f587"), looks := false }, kinds := [], alts := [], laidByText := true, laidKinds := [.data], laidTests := true, laidLooks := .later }
def LockedKeepsUptoCardSaid : Prop := Claim7.holds Tryd.pinned (.plain (OpenSpec.upto lockedKeepsSpec)) lockedKeepsUptoCard

/-- THE SECOND FORM's CARD OF 'skipgraphlaw11.LockedChanges'. -/
def lockedChangesUptoCard : Claim7 := { stood := { row := lockedChangesUptoRow, standIns := [], harness := (true, "a4259771778adc5afbbbf57b6b6103adb23a1d3e665aabc50db39e8a6f43f587"), looks := false }, kinds := [], alts := [], laidByText := true, laidKinds := [.data], laidTests := true, laidLooks := .later }
def LockedChangesUptoCardSaid : Prop := Claim7.holds Tryd.pinned (.plain (OpenSpec.upto lockedChangesSpec)) lockedChangesUptoCard

/-- THE SECOND FORM's CARD OF 'skipgraphlaw11.LockedMoments'. -/
def lockedMomentsUptoCard : Claim7 := { stood := { row := lockedMomentsUptoRow, standIns := [], harness := (true, "a4259771778adc5afbbbf57b6b6103adb23a1d3e665aabc50db39e8a6f43f587"), looks := false }, kinds := [], alts := [], laidByText := true, laidKinds := [.data], laidTests := true, laidLooks := .later }
def LockedMomentsUptoCardSaid : Prop := Claim7.holds Tryd.pinned (.plain (OpenSpec.upto lockedMomentsSpec)) lockedMomentsUptoCard

/-- THE SECOND FORM's CARD OF 'skipgraphlaw11.LockedSerial'. -/
def lockedSerialUptoCard : Claim7 := { stood := { row := lockedSerialUptoRow, standIns := [], harness := (true, "a4259771778adc5afbbbf57b6b6103adb23a1d3e665aabc50db39e8a6f43f587"), looks := false }, kinds := [], alts := [], laidByText := true, laidKinds := [.data], laidTests := true, laidLooks := .later }
def LockedSerialUptoCardSaid : Prop := Claim7.holds Tryd.pinned (.plain (OpenSpec.upto lockedSerialSpec)) lockedSerialUptoCard

/-- THE SECOND FORM's CARD OF 'skipgraphlaw11.LockedFollows'. -/
def lockedFollowsUptoCard : Claim7 := { stood := { row := lockedFollowsUptoRow, standIns := [], harness := (true, "a4259771778adc5afbbbf57b6b6103adb23a1d3e665aabc50db39e8a6f43f587"), looks := false }, kinds := [], alts := [], laidByText := true, laidKinds := [.data], laidTests := true, laidLooks := .later }
def LockedFollowsUptoCardSaid : Prop := Claim7.holds Tryd.pinned (.plain (OpenSpec.upto lockedFollowsSpec)) lockedFollowsUptoCard

/-- THE SECOND FORM's CARD OF 'skipgraphlaw11.LockedRaw'. -/
def lockedRawUptoCard : Claim7 := { stood := { row := lockedRawUptoRow, standIns := [], harness := (true, "a4259771778adc5afbbbf57b6b6103adb23a1d3e665aabc50db39e8a6f43f587"), looks := false }, kinds := [], alts := [], laidByText := true, laidKinds := [.data], laidTests := true, laidLooks := .later }
def LockedRawUptoCardSaid : Prop := Claim7.holds Tryd.pinned (.plain (OpenSpec.upto lockedRawSpec)) lockedRawUptoCard

/-- THE SECOND FORM's CARD OF 'skipgraphlaw11.LockedEnds'. -/
def lockedEndsUptoCard : Claim7 := { stood := { row := lockedEndsUptoRow, standIns := [], harness := (true, "a4259771778adc5afbbbf57b6b6103adb23a1d3e665aabc50db39e8a6f43f587"), looks := false }, kinds := [], alts := [], laidByText := true, laidKinds := [.data], laidTests := true, laidLooks := .later }
def LockedEndsUptoCardSaid : Prop := Claim7.holds Tryd.pinned (.plain (OpenSpec.upto lockedEndsSpec)) lockedEndsUptoCard
end Rows
end Go.Proofs.YtdfdidinfaefmaaDoor
