/-
  DERIVED. GIVEN WITH THE SEED: THE CARDS: each row of YtkoagijliokhlaaDoorRows.lean that lists a variable, with what it lists TIED to the program's text (the seventh form; the later family's looks); each row that meets fmt, with fmt's text TOLD by the authors' own Lean function (tested against real Go, not proved from fmt's source: count such statements apart). THE CARD IS WHAT COUNTS. Prove the row's statement (the work); the ties are given (YtkoagijliokhlaaDoorTie.lean); close each card by the builder's one call (the guide's Derived/Test/ToyasCard.lean, 'card_holds'). Laid BY PROGRAM, IN A SANDBOX (cutbox-door.mjs). By AI agents, Wed Nov 11 2026. No macro, syntax, notation, axiom, sorry.
-/
import Derived.Test.YtkoagijliokhlaaDoorRows
import GoSem.ClaimSeven
namespace Go.Proofs.YtkoagijliokhlaaDoor
namespace Rows

/-- THE TIED CARD OF 'laws.FnExactParseValue'. -/
def fnExactParseValueCard : Claim7 := { stood := { row := fnExactParseValueRow, standIns := [], harness := (true, "bb99a138607b3a7ed6d0ad0ef08f84eda3c61474202181aed288f246d0ba4e8d"), looks := true }, kinds := [], alts := [], laidByText := true, laidKinds := [.data, .data, .data, .sentinel, .sentinel], laidTests := true, laidLooks := .later }
def FnExactParseValueCardSaid : Prop := Claim7.holds Tryd.pinned (.plain (OpenSpec.ofChange fnExactParseValueSpec)) fnExactParseValueCard

/-- THE TIED CARD OF 'laws.FnExactDecodeHex'. -/
def fnExactDecodeHexCard : Claim7 := { stood := { row := fnExactDecodeHexRow, standIns := [], harness := (true, "bb99a138607b3a7ed6d0ad0ef08f84eda3c61474202181aed288f246d0ba4e8d"), looks := true }, kinds := [], alts := [], laidByText := true, laidKinds := [.sentinel], laidTests := true, laidLooks := .later }
def FnExactDecodeHexCardSaid : Prop := Claim7.holds Tryd.pinned (.plain (OpenSpec.ofChange fnExactDecodeHexSpec)) fnExactDecodeHexCard

/-- THE TIED CARD OF 'laws.FnValueRoundTrip'. -/
def fnValueRoundTripCard : Claim7 := { stood := { row := fnValueRoundTripRow, standIns := [], harness := (true, "bb99a138607b3a7ed6d0ad0ef08f84eda3c61474202181aed288f246d0ba4e8d"), looks := true }, kinds := [], alts := [], laidByText := true, laidKinds := [.data, .data, .data, .sentinel, .sentinel], laidTests := true, laidLooks := .later }
def FnValueRoundTripCardSaid : Prop := Claim7.holds Tryd.pinned (.plain (OpenSpec.ofChange fnValueRoundTripSpec)) fnValueRoundTripCard

/-- THE TIED CARD OF 'laws.FnExactFormatInt'. -/
def fnExactFormatIntCard : Claim7 := { stood := { row := fnExactFormatIntRow, standIns := [], harness := (true, "bb99a138607b3a7ed6d0ad0ef08f84eda3c61474202181aed288f246d0ba4e8d"), looks := true }, kinds := [], alts := [], laidByText := true, laidKinds := [.data, .data, .data], laidTests := true, laidLooks := .later }
def FnExactFormatIntCardSaid : Prop := Claim7.holds Tryd.pinned (.plain (OpenSpec.ofChange fnExactFormatIntSpec)) fnExactFormatIntCard

/-- THE TIED CARD OF 'laws.FnExactSplitFields'. -/
def fnExactSplitFieldsCard : Claim7 := { stood := { row := fnExactSplitFieldsRow, standIns := [], harness := (true, "bb99a138607b3a7ed6d0ad0ef08f84eda3c61474202181aed288f246d0ba4e8d"), looks := true }, kinds := [], alts := [], laidByText := true, laidKinds := [.listed, .data], laidTests := true, laidLooks := .later }
def FnExactSplitFieldsCardSaid : Prop := Claim7.holds Tryd.pinned (.plain (OpenSpec.ofChange fnExactSplitFieldsSpec)) fnExactSplitFieldsCard

/-- THE TIED CARD OF 'laws.FnFieldsJoin'. -/
def fnFieldsJoinCard : Claim7 := { stood := { row := fnFieldsJoinRow, standIns := [], harness := (true, "bb99a138607b3a7ed6d0ad0ef08f84eda3c61474202181aed288f246d0ba4e8d"), looks := true }, kinds := [], alts := [], laidByText := true, laidKinds := [.listed, .data], laidTests := true, laidLooks := .later }
def FnFieldsJoinCardSaid : Prop := Claim7.holds Tryd.pinned (.plain (OpenSpec.ofChange fnFieldsJoinSpec)) fnFieldsJoinCard

/-- THE TIED CARD OF 'laws.FnExactFormatValue'. -/
def fnExactFormatValueCard : Claim7 := { stood := { row := fnExactFormatValueRow, standIns := [], harness := (true, "bb99a138607b3a7ed6d0ad0ef08f84eda3c61474202181aed288f246d0ba4e8d"), looks := true }, kinds := [], alts := [], laidByText := true, laidKinds := [.data, .data, .data], laidTests := true, laidLooks := .later }
def FnExactFormatValueCardSaid : Prop := Claim7.holds Tryd.pinned (.plain (OpenSpec.ofChange fnExactFormatValueSpec)) fnExactFormatValueCard

/-- THE TIED CARD OF 'laws.FnExactParseUint'. -/
def fnExactParseUintCard : Claim7 := { stood := { row := fnExactParseUintRow, standIns := [], harness := (true, "bb99a138607b3a7ed6d0ad0ef08f84eda3c61474202181aed288f246d0ba4e8d"), looks := true }, kinds := [], alts := [], laidByText := true, laidKinds := [.data, .data, .data, .sentinel, .sentinel], laidTests := true, laidLooks := .later }
def FnExactParseUintCardSaid : Prop := Claim7.holds Tryd.pinned (.plain (OpenSpec.ofChange fnExactParseUintSpec)) fnExactParseUintCard

/-- THE TIED CARD OF 'laws.FnTextRoundTrip'. -/
def fnTextRoundTripCard : Claim7 := { stood := { row := fnTextRoundTripRow, standIns := [], harness := (true, "bb99a138607b3a7ed6d0ad0ef08f84eda3c61474202181aed288f246d0ba4e8d"), looks := true }, kinds := [], alts := [], laidByText := true, laidKinds := [.data, .data, .data, .sentinel, .sentinel, .sentinel], laidTests := true, laidLooks := .later }
def FnTextRoundTripCardSaid : Prop := Claim7.holds Tryd.pinned (.plain (OpenSpec.ofChange fnTextRoundTripSpec)) fnTextRoundTripCard

/-- THE SECOND FORM's CARD OF 'laws.FnExactParseValue'. -/
def fnExactParseValueUptoCard : Claim7 := { stood := { row := fnExactParseValueUptoRow, standIns := [], harness := (true, "bb99a138607b3a7ed6d0ad0ef08f84eda3c61474202181aed288f246d0ba4e8d"), looks := true }, kinds := [], alts := [], laidByText := true, laidKinds := [.data, .data, .data, .sentinel, .sentinel], laidTests := true, laidLooks := .later }
def FnExactParseValueUptoCardSaid : Prop := Claim7.holds Tryd.pinned (.plain (OpenSpec.upto fnExactParseValueSpec)) fnExactParseValueUptoCard

/-- THE SECOND FORM's CARD OF 'laws.FnExactDecodeHex'. -/
def fnExactDecodeHexUptoCard : Claim7 := { stood := { row := fnExactDecodeHexUptoRow, standIns := [], harness := (true, "bb99a138607b3a7ed6d0ad0ef08f84eda3c61474202181aed288f246d0ba4e8d"), looks := true }, kinds := [], alts := [], laidByText := true, laidKinds := [.sentinel], laidTests := true, laidLooks := .later }
def FnExactDecodeHexUptoCardSaid : Prop := Claim7.holds Tryd.pinned (.plain (OpenSpec.upto fnExactDecodeHexSpec)) fnExactDecodeHexUptoCard

/-- THE SECOND FORM's CARD OF 'laws.FnValueRoundTrip'. -/
def fnValueRoundTripUptoCard : Claim7 := { stood := { row := fnValueRoundTripUptoRow, standIns := [], harness := (true, "bb99a138607b3a7ed6d0ad0ef08f84eda3c61474202181aed288f246d0ba4e8d"), looks := true }, kinds := [], alts := [], laidByText := true, laidKinds := [.data, .data, .data, .sentinel, .sentinel], laidTests := true, laidLooks := .later }
def FnValueRoundTripUptoCardSaid : Prop := Claim7.holds Tryd.pinned (.plain (OpenSpec.upto fnValueRoundTripSpec)) fnValueRoundTripUptoCard

/-- THE SECOND FORM's CARD OF 'laws.FnExactFormatInt'. -/
def fnExactFormatIntUptoCard : Claim7 := { stood := { row := fnExactFormatIntUptoRow, standIns := [], harness := (true, "bb99a138607b3a7ed6d0ad0ef08f84eda3c61474202181aed288f246d0ba4e8d"), looks := true }, kinds := [], alts := [], laidByText := true, laidKinds := [.data, .data, .data], laidTests := true, laidLooks := .later }
def FnExactFormatIntUptoCardSaid : Prop := Claim7.holds Tryd.pinned (.plain (OpenSpec.upto fnExactFormatIntSpec)) fnExactFormatIntUptoCard

/-- THE SECOND FORM's CARD OF 'laws.FnExactSplitFields'. -/
def fnExactSplitFieldsUptoCard : Claim7 := { stood := { row := fnExactSplitFieldsUptoRow, standIns := [], harness := (true, "bb99a138607b3a7ed6d0ad0ef08f84eda3c61474202181aed288f246d0ba4e8d"), looks := true }, kinds := [], alts := [], laidByText := true, laidKinds := [.listed, .data], laidTests := true, laidLooks := .later }
def FnExactSplitFieldsUptoCardSaid : Prop := Claim7.holds Tryd.pinned (.plain (OpenSpec.upto fnExactSplitFieldsSpec)) fnExactSplitFieldsUptoCard

/-- THE SECOND FORM's CARD OF 'laws.FnFieldsJoin'. -/
def fnFieldsJoinUptoCard : Claim7 := { stood := { row := fnFieldsJoinUptoRow, standIns := [], harness := (true, "bb99a138607b3a7ed6d0ad0ef08f84eda3c61474202181aed288f246d0ba4e8d"), looks := true }, kinds := [], alts := [], laidByText := true, laidKinds := [.listed, .data], laidTests := true, laidLooks := .later }
def FnFieldsJoinUptoCardSaid : Prop := Claim7.holds Tryd.pinned (.plain (OpenSpec.upto fnFieldsJoinSpec)) fnFieldsJoinUptoCard

/-- THE SECOND FORM's CARD OF 'laws.FnExactFormatValue'. -/
def fnExactFormatValueUptoCard : Claim7 := { stood := { row := fnExactFormatValueUptoRow, standIns := [], harness := (true, "bb99a138607b3a7ed6d0ad0ef08f84eda3c61474202181aed288f246d0ba4e8d"), looks := true }, kinds := [], alts := [], laidByText := true, laidKinds := [.data, .data, .data], laidTests := true, laidLooks := .later }
def FnExactFormatValueUptoCardSaid : Prop := Claim7.holds Tryd.pinned (.plain (OpenSpec.upto fnExactFormatValueSpec)) fnExactFormatValueUptoCard

/-- THE SECOND FORM's CARD OF 'laws.FnExactParseUint'. -/
def fnExactParseUintUptoCard : Claim7 := { stood := { row := fnExactParseUintUptoRow, standIns := [], harness := (true, "bb99a138607b3a7ed6d0ad0ef08f84eda3c61474202181aed288f246d0ba4e8d"), looks := true }, kinds := [], alts := [], laidByText := true, laidKinds := [.data, .data, .data, .sentinel, .sentinel], laidTests := true, laidLooks := .later }
def FnExactParseUintUptoCardSaid : Prop := Claim7.holds Tryd.pinned (.plain (OpenSpec.upto fnExactParseUintSpec)) fnExactParseUintUptoCard

/-- THE SECOND FORM's CARD OF 'laws.FnTextRoundTrip'. -/
def fnTextRoundTripUptoCard : Claim7 := { stood := { row := fnTextRoundTripUptoRow, standIns := [], harness := (true, "bb99a138607b3a7ed6d0ad0ef08f84eda3c61474202181aed288f246d0ba4e8d"), looks := true }, kinds := [], alts := [], laidByText := true, laidKinds := [.data, .data, .data, .sentinel, .sentinel, .sentinel], laidTests := true, laidLooks := .later }
def FnTextRoundTripUptoCardSaid : Prop := Claim7.holds Tryd.pinned (.plain (OpenSpec.upto fnTextRoundTripSpec)) fnTextRoundTripUptoCard
end Rows
end Go.Proofs.YtkoagijliokhlaaDoor
