/-
  DERIVED. GIVEN WITH THE SEED: THE CARDS: each row of YtjbcifgclobjdaaDoorRows.lean that lists a variable, with what it lists TIED to the program's text (the seventh form; the later family's looks); each row that meets fmt, with fmt's text TOLD by the authors' own Lean function (tested against real Go, not proved from fmt's source: count such statements apart). THE CARD IS WHAT COUNTS. Prove the row's statement (the work); the ties are given (YtjbcifgclobjdaaDoorTie.lean); close each card by the builder's one call (the guide's Derived/Test/ToyasCard.lean, 'card_holds'). Laid BY PROGRAM, IN A SANDBOX (cutbox-door.mjs). By AI agents, Wed Nov 11 2026. No macro, syntax, notation, axiom, sorry.
-/
import Derived.Test.YtjbcifgclobjdaaDoorRows
import GoSem.ClaimSeven
namespace Go.Proofs.YtjbcifgclobjdaaDoor
namespace Rows

/-- THE TIED CARD OF 'arlinklaw02.HeaderRoundTrip'. -/
def headerRoundTripCard : Claim7 := { stood := { row := headerRoundTripRow, standIns := [], harness := (true, "6a99fde09e6576b0882ab56408c48530dac4161aa3365a8caaa895cd63543556"), looks := false }, kinds := [], alts := [], laidByText := true, laidKinds := [.data, .pinned], laidTests := true, laidLooks := .later }
def HeaderRoundTripCardSaid : Prop := Claim7.holds Tryd.pinned (.plain (OpenSpec.ofChange headerRoundTripSpec)) headerRoundTripCard

/-- THE TIED CARD OF 'arlinklaw02.HeaderUnique'. -/
def headerUniqueCard : Claim7 := { stood := { row := headerUniqueRow, standIns := [], harness := (true, "6a99fde09e6576b0882ab56408c48530dac4161aa3365a8caaa895cd63543556"), looks := false }, kinds := [], alts := [], laidByText := true, laidKinds := [.data, .pinned], laidTests := true, laidLooks := .later }
def HeaderUniqueCardSaid : Prop := Claim7.holds Tryd.pinned (.plain (OpenSpec.ofChange headerUniqueSpec)) headerUniqueCard

/-- THE TIED CARD OF 'arlinklaw02.HeaderKeeps'. -/
def headerKeepsCard : Claim7 := { stood := { row := headerKeepsRow, standIns := [], harness := (true, "6a99fde09e6576b0882ab56408c48530dac4161aa3365a8caaa895cd63543556"), looks := false }, kinds := [], alts := [], laidByText := true, laidKinds := [.data, .pinned], laidTests := true, laidLooks := .later }
def HeaderKeepsCardSaid : Prop := Claim7.holds Tryd.pinned (.plain (OpenSpec.ofChange headerKeepsSpec)) headerKeepsCard

/-- THE TIED CARD OF 'arlinklaw02.HeaderMatchesReference'. -/
def headerMatchesReferenceCard : Claim7 := { stood := { row := headerMatchesReferenceRow, standIns := [], harness := (true, "6a99fde09e6576b0882ab56408c48530dac4161aa3365a8caaa895cd63543556"), looks := false }, kinds := [], alts := [], laidByText := true, laidKinds := [.data, .pinned], laidTests := true, laidLooks := .later }
def HeaderMatchesReferenceCardSaid : Prop := Claim7.holds Tryd.pinned (.plain (OpenSpec.ofChange headerMatchesReferenceSpec)) headerMatchesReferenceCard

/-- THE TIED CARD OF 'arlinklaw02.HeaderBounds'. -/
def headerBoundsCard : Claim7 := { stood := { row := headerBoundsRow, standIns := [], harness := (true, "6a99fde09e6576b0882ab56408c48530dac4161aa3365a8caaa895cd63543556"), looks := false }, kinds := [], alts := [], laidByText := true, laidKinds := [.data, .pinned], laidTests := true, laidLooks := .later }
def HeaderBoundsCardSaid : Prop := Claim7.holds Tryd.pinned (.plain (OpenSpec.ofChange headerBoundsSpec)) headerBoundsCard

/-- THE TIED CARD OF 'arlinklaw03.LongnameMatchesReference'. -/
def longnameMatchesReferenceCard : Claim7 := { stood := { row := longnameMatchesReferenceRow, standIns := [], harness := (true, "6a99fde09e6576b0882ab56408c48530dac4161aa3365a8caaa895cd63543556"), looks := false }, kinds := [], alts := [], laidByText := true, laidKinds := [.data, .data, .data], laidTests := true, laidLooks := .later }
def LongnameMatchesReferenceCardSaid : Prop := Claim7.holds Tryd.pinned (.plain (OpenSpec.ofChange longnameMatchesReferenceSpec)) longnameMatchesReferenceCard

/-- THE TIED CARD OF 'arlinklaw03.LongnameRoundTrip'. -/
def longnameRoundTripCard : Claim7 := { stood := { row := longnameRoundTripRow, standIns := [], harness := (true, "6a99fde09e6576b0882ab56408c48530dac4161aa3365a8caaa895cd63543556"), looks := false }, kinds := [], alts := [], laidByText := true, laidKinds := [.data, .data, .data], laidTests := true, laidLooks := .later }
def LongnameRoundTripCardSaid : Prop := Claim7.holds Tryd.pinned (.plain (OpenSpec.ofChange longnameRoundTripSpec)) longnameRoundTripCard

/-- THE TIED CARD OF 'arlinklaw03.LongnameTables'. -/
def longnameTablesCard : Claim7 := { stood := { row := longnameTablesRow, standIns := [], harness := (true, "6a99fde09e6576b0882ab56408c48530dac4161aa3365a8caaa895cd63543556"), looks := false }, kinds := [], alts := [], laidByText := true, laidKinds := [.data, .data, .data], laidTests := true, laidLooks := .later }
def LongnameTablesCardSaid : Prop := Claim7.holds Tryd.pinned (.plain (OpenSpec.ofChange longnameTablesSpec)) longnameTablesCard

/-- THE TIED CARD OF 'arlinklaw03.LongnameOffsets'. -/
def longnameOffsetsCard : Claim7 := { stood := { row := longnameOffsetsRow, standIns := [], harness := (true, "6a99fde09e6576b0882ab56408c48530dac4161aa3365a8caaa895cd63543556"), looks := false }, kinds := [], alts := [], laidByText := true, laidKinds := [.data, .data, .data], laidTests := true, laidLooks := .later }
def LongnameOffsetsCardSaid : Prop := Claim7.holds Tryd.pinned (.plain (OpenSpec.ofChange longnameOffsetsSpec)) longnameOffsetsCard

/-- THE TIED CARD OF 'arlinklaw03.LongnameKeeps'. -/
def longnameKeepsCard : Claim7 := { stood := { row := longnameKeepsRow, standIns := [], harness := (true, "6a99fde09e6576b0882ab56408c48530dac4161aa3365a8caaa895cd63543556"), looks := false }, kinds := [], alts := [], laidByText := true, laidKinds := [.data, .data, .data], laidTests := true, laidLooks := .later }
def LongnameKeepsCardSaid : Prop := Claim7.holds Tryd.pinned (.plain (OpenSpec.ofChange longnameKeepsSpec)) longnameKeepsCard

/-- THE TIED CARD OF 'arlinklaw03.LongnameConcat'. -/
def longnameConcatCard : Claim7 := { stood := { row := longnameConcatRow, standIns := [], harness := (true, "6a99fde09e6576b0882ab56408c48530dac4161aa3365a8caaa895cd63543556"), looks := false }, kinds := [], alts := [], laidByText := true, laidKinds := [.data, .data, .data], laidTests := true, laidLooks := .later }
def LongnameConcatCardSaid : Prop := Claim7.holds Tryd.pinned (.plain (OpenSpec.ofChange longnameConcatSpec)) longnameConcatCard

/-- THE SECOND FORM's CARD OF 'arlinklaw02.HeaderRoundTrip'. -/
def headerRoundTripUptoCard : Claim7 := { stood := { row := headerRoundTripUptoRow, standIns := [], harness := (true, "6a99fde09e6576b0882ab56408c48530dac4161aa3365a8caaa895cd63543556"), looks := false }, kinds := [], alts := [], laidByText := true, laidKinds := [.data, .pinned], laidTests := true, laidLooks := .later }
def HeaderRoundTripUptoCardSaid : Prop := Claim7.holds Tryd.pinned (.plain (OpenSpec.upto headerRoundTripSpec)) headerRoundTripUptoCard

/-- THE SECOND FORM's CARD OF 'arlinklaw02.HeaderUnique'. -/
def headerUniqueUptoCard : Claim7 := { stood := { row := headerUniqueUptoRow, standIns := [], harness := (true, "6a99fde09e6576b0882ab56408c48530dac4161aa3365a8caaa895cd63543556"), looks := false }, kinds := [], alts := [], laidByText := true, laidKinds := [.data, .pinned], laidTests := true, laidLooks := .later }
def HeaderUniqueUptoCardSaid : Prop := Claim7.holds Tryd.pinned (.plain (OpenSpec.upto headerUniqueSpec)) headerUniqueUptoCard

/-- THE SECOND FORM's CARD OF 'arlinklaw02.HeaderKeeps'. -/
def headerKeepsUptoCard : Claim7 := { stood := { row := headerKeepsUptoRow, standIns := [], harness := (true, "6a99fde09e6576b0882ab56408c48530dac4161aa3365a8caaa895cd63543556"), looks := false }, kinds := [], alts := [], laidByText := true, laidKinds := [.data, .pinned], laidTests := true, laidLooks := .later }
def HeaderKeepsUptoCardSaid : Prop := Claim7.holds Tryd.pinned (.plain (OpenSpec.upto headerKeepsSpec)) headerKeepsUptoCard

/-- THE SECOND FORM's CARD OF 'arlinklaw02.HeaderMatchesReference'. -/
def headerMatchesReferenceUptoCard : Claim7 := { stood := { row := headerMatchesReferenceUptoRow, standIns := [], harness := (true, "6a99fde09e6576b0882ab56408c48530dac4161aa3365a8caaa895cd63543556"), looks := false }, kinds := [], alts := [], laidByText := true, laidKinds := [.data, .pinned], laidTests := true, laidLooks := .later }
def HeaderMatchesReferenceUptoCardSaid : Prop := Claim7.holds Tryd.pinned (.plain (OpenSpec.upto headerMatchesReferenceSpec)) headerMatchesReferenceUptoCard

/-- THE SECOND FORM's CARD OF 'arlinklaw02.HeaderBounds'. -/
def headerBoundsUptoCard : Claim7 := { stood := { row := headerBoundsUptoRow, standIns := [], harness := (true, "6a99fde09e6576b0882ab56408c48530dac4161aa3365a8caaa895cd63543556"), looks := false }, kinds := [], alts := [], laidByText := true, laidKinds := [.data, .pinned], laidTests := true, laidLooks := .later }
def HeaderBoundsUptoCardSaid : Prop := Claim7.holds Tryd.pinned (.plain (OpenSpec.upto headerBoundsSpec)) headerBoundsUptoCard

/-- THE SECOND FORM's CARD OF 'arlinklaw03.LongnameMatchesReference'. -/
def longnameMatchesReferenceUptoCard : Claim7 := { stood := { row := longnameMatchesReferenceUptoRow, standIns := [], harness := (true, "6a99fde09e6576b0882ab56408c48530dac4161aa3365a8caaa895cd63543556"), looks := false }, kinds := [], alts := [], laidByText := true, laidKinds := [.data, .data, .data], laidTests := true, laidLooks := .later }
def LongnameMatchesReferenceUptoCardSaid : Prop := Claim7.holds Tryd.pinned (.plain (OpenSpec.upto longnameMatchesReferenceSpec)) longnameMatchesReferenceUptoCard

/-- THE SECOND FORM's CARD OF 'arlinklaw03.LongnameRoundTrip'. -/
def longnameRoundTripUptoCard : Claim7 := { stood := { row := longnameRoundTripUptoRow, standIns := [], harness := (true, "6a99fde09e6576b0882ab56408c48530dac4161aa3365a8caaa895cd63543556"), looks := false }, kinds := [], alts := [], laidByText := true, laidKinds := [.data, .data, .data], laidTests := true, laidLooks := .later }
def LongnameRoundTripUptoCardSaid : Prop := Claim7.holds Tryd.pinned (.plain (OpenSpec.upto longnameRoundTripSpec)) longnameRoundTripUptoCard

/-- THE SECOND FORM's CARD OF 'arlinklaw03.LongnameTables'. -/
def longnameTablesUptoCard : Claim7 := { stood := { row := longnameTablesUptoRow, standIns := [], harness := (true, "6a99fde09e6576b0882ab56408c48530dac4161aa3365a8caaa895cd63543556"), looks := false }, kinds := [], alts := [], laidByText := true, laidKinds := [.data, .data, .data], laidTests := true, laidLooks := .later }
def LongnameTablesUptoCardSaid : Prop := Claim7.holds Tryd.pinned (.plain (OpenSpec.upto longnameTablesSpec)) longnameTablesUptoCard

/-- THE SECOND FORM's CARD OF 'arlinklaw03.LongnameOffsets'. -/
def longnameOffsetsUptoCard : Claim7 := { stood := { row := longnameOffsetsUptoRow, standIns := [], harness := (true, "6a99fde09e6576b0882ab56408c48530dac4161aa3365a8caaa895cd63543556"), looks := false }, kinds := [], alts := [], laidByText := true, laidKinds := [.data, .data, .data], laidTests := true, laidLooks := .later }
def LongnameOffsetsUptoCardSaid : Prop := Claim7.holds Tryd.pinned (.plain (OpenSpec.upto longnameOffsetsSpec)) longnameOffsetsUptoCard

/-- THE SECOND FORM's CARD OF 'arlinklaw03.LongnameKeeps'. -/
def longnameKeepsUptoCard : Claim7 := { stood := { row := longnameKeepsUptoRow, standIns := [], harness := (true, "6a99fde09e6576b0882ab56408c48530dac4161aa3365a8caaa895cd63543556"), looks := false }, kinds := [], alts := [], laidByText := true, laidKinds := [.data, .data, .data], laidTests := true, laidLooks := .later }
def LongnameKeepsUptoCardSaid : Prop := Claim7.holds Tryd.pinned (.plain (OpenSpec.upto longnameKeepsSpec)) longnameKeepsUptoCard

/-- THE SECOND FORM's CARD OF 'arlinklaw03.LongnameConcat'. -/
def longnameConcatUptoCard : Claim7 := { stood := { row := longnameConcatUptoRow, standIns := [], harness := (true, "6a99fde09e6576b0882ab56408c48530dac4161aa3365a8caaa895cd63543556"), looks := false }, kinds := [], alts := [], laidByText := true, laidKinds := [.data, .data, .data], laidTests := true, laidLooks := .later }
def LongnameConcatUptoCardSaid : Prop := Claim7.holds Tryd.pinned (.plain (OpenSpec.upto longnameConcatSpec)) longnameConcatUptoCard
end Rows
end Go.Proofs.YtjbcifgclobjdaaDoor
