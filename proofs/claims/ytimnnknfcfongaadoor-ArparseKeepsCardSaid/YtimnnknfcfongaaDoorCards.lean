/-
  DERIVED. GIVEN WITH THE SEED: THE CARDS: each row of YtimnnknfcfongaaDoorRows.lean that lists a variable, with what it lists TIED to the program's text (the seventh form; the later family's looks); each row that meets fmt, with fmt's text TOLD by the authors' own Lean function (tested against real Go, not proved from fmt's source: count such statements apart). THE CARD IS WHAT COUNTS. Prove the row's statement (the work); the ties are given (YtimnnknfcfongaaDoorTie.lean); close each card by the builder's one call (the guide's Derived/Test/ToyasCard.lean, 'card_holds'). Laid BY PROGRAM, IN A SANDBOX (cutbox-door.mjs). By AI agents, Wed Nov 11 2026. No macro, syntax, notation, axiom, sorry.
-/
import Derived.Test.YtimnnknfcfongaaDoorRows
import GoSem.ClaimSeven
namespace Go.Proofs.YtimnnknfcfongaaDoor
namespace Rows

/-- THE TIED CARD OF 'arlinklaw03.LongnameMatchesReference'. -/
def longnameMatchesReferenceCard : Claim7 := { stood := { row := longnameMatchesReferenceRow, standIns := [], harness := (true, "75a559ac8c896a5fce21958df4e554611bdaad13f6ec760cabd9199ab57048d7"), looks := false }, kinds := [], alts := [], laidByText := true, laidKinds := [.data, .data, .data], laidTests := true, laidLooks := .later }
def LongnameMatchesReferenceCardSaid : Prop := Claim7.holds Tryd.pinned (.plain (OpenSpec.ofChange longnameMatchesReferenceSpec)) longnameMatchesReferenceCard

/-- THE TIED CARD OF 'arlinklaw03.LongnameRoundTrip'. -/
def longnameRoundTripCard : Claim7 := { stood := { row := longnameRoundTripRow, standIns := [], harness := (true, "75a559ac8c896a5fce21958df4e554611bdaad13f6ec760cabd9199ab57048d7"), looks := false }, kinds := [], alts := [], laidByText := true, laidKinds := [.data, .data, .data], laidTests := true, laidLooks := .later }
def LongnameRoundTripCardSaid : Prop := Claim7.holds Tryd.pinned (.plain (OpenSpec.ofChange longnameRoundTripSpec)) longnameRoundTripCard

/-- THE TIED CARD OF 'arlinklaw03.LongnameTables'. -/
def longnameTablesCard : Claim7 := { stood := { row := longnameTablesRow, standIns := [], harness := (true, "75a559ac8c896a5fce21958df4e554611bdaad13f6ec760cabd9199ab57048d7"), looks := false }, kinds := [], alts := [], laidByText := true, laidKinds := [.data, .data, .data], laidTests := true, laidLooks := .later }
def LongnameTablesCardSaid : Prop := Claim7.holds Tryd.pinned (.plain (OpenSpec.ofChange longnameTablesSpec)) longnameTablesCard

/-- THE TIED CARD OF 'arlinklaw03.LongnameOffsets'. -/
def longnameOffsetsCard : Claim7 := { stood := { row := longnameOffsetsRow, standIns := [], harness := (true, "75a559ac8c896a5fce21958df4e554611bdaad13f6ec760cabd9199ab57048d7"), looks := false }, kinds := [], alts := [], laidByText := true, laidKinds := [.data, .data, .data], laidTests := true, laidLooks := .later }
def LongnameOffsetsCardSaid : Prop := Claim7.holds Tryd.pinned (.plain (OpenSpec.ofChange longnameOffsetsSpec)) longnameOffsetsCard

/-- THE TIED CARD OF 'arlinklaw03.LongnameKeeps'. -/
def longnameKeepsCard : Claim7 := { stood := { row := longnameKeepsRow, standIns := [], harness := (true, "75a559ac8c896a5fce21958df4e554611bdaad13f6ec760cabd9199ab57048d7"), looks := false }, kinds := [], alts := [], laidByText := true, laidKinds := [.data, .data, .data], laidTests := true, laidLooks := .later }
def LongnameKeepsCardSaid : Prop := Claim7.holds Tryd.pinned (.plain (OpenSpec.ofChange longnameKeepsSpec)) longnameKeepsCard

/-- THE TIED CARD OF 'arlinklaw03.LongnameConcat'. -/
def longnameConcatCard : Claim7 := { stood := { row := longnameConcatRow, standIns := [], harness := (true, "75a559ac8c896a5fce21958df4e554611bdaad13f6ec760cabd9199ab57048d7"), looks := false }, kinds := [], alts := [], laidByText := true, laidKinds := [.data, .data, .data], laidTests := true, laidLooks := .later }
def LongnameConcatCardSaid : Prop := Claim7.holds Tryd.pinned (.plain (OpenSpec.ofChange longnameConcatSpec)) longnameConcatCard

/-- THE TIED CARD OF 'arlinklaw04.ArparseMatchesReference'. -/
def arparseMatchesReferenceCard : Claim7 := { stood := { row := arparseMatchesReferenceRow, standIns := [], harness := (true, "75a559ac8c896a5fce21958df4e554611bdaad13f6ec760cabd9199ab57048d7"), looks := false }, kinds := [], alts := [], laidByText := true, laidKinds := [.data, .pinned], laidTests := true, laidLooks := .later }
def ArparseMatchesReferenceCardSaid : Prop := Claim7.holds Tryd.pinned (.plain (OpenSpec.ofChange arparseMatchesReferenceSpec)) arparseMatchesReferenceCard

/-- THE TIED CARD OF 'arlinklaw04.ArparseTotal'. -/
def arparseTotalCard : Claim7 := { stood := { row := arparseTotalRow, standIns := [], harness := (true, "75a559ac8c896a5fce21958df4e554611bdaad13f6ec760cabd9199ab57048d7"), looks := false }, kinds := [], alts := [], laidByText := true, laidKinds := [.data, .pinned], laidTests := true, laidLooks := .later }
def ArparseTotalCardSaid : Prop := Claim7.holds Tryd.pinned (.plain (OpenSpec.ofChange arparseTotalSpec)) arparseTotalCard

/-- THE TIED CARD OF 'arlinklaw04.ArparseAppends'. -/
def arparseAppendsCard : Claim7 := { stood := { row := arparseAppendsRow, standIns := [], harness := (true, "75a559ac8c896a5fce21958df4e554611bdaad13f6ec760cabd9199ab57048d7"), looks := false }, kinds := [], alts := [], laidByText := true, laidKinds := [.data, .pinned], laidTests := true, laidLooks := .later }
def ArparseAppendsCardSaid : Prop := Claim7.holds Tryd.pinned (.plain (OpenSpec.ofChange arparseAppendsSpec)) arparseAppendsCard

/-- THE TIED CARD OF 'arlinklaw04.ArparseSpecial'. -/
def arparseSpecialCard : Claim7 := { stood := { row := arparseSpecialRow, standIns := [], harness := (true, "75a559ac8c896a5fce21958df4e554611bdaad13f6ec760cabd9199ab57048d7"), looks := false }, kinds := [], alts := [], laidByText := true, laidKinds := [.data, .pinned], laidTests := true, laidLooks := .later }
def ArparseSpecialCardSaid : Prop := Claim7.holds Tryd.pinned (.plain (OpenSpec.ofChange arparseSpecialSpec)) arparseSpecialCard

/-- THE TIED CARD OF 'arlinklaw04.ArparseKeeps'. -/
def arparseKeepsCard : Claim7 := { stood := { row := arparseKeepsRow, standIns := [], harness := (true, "75a559ac8c896a5fce21958df4e554611bdaad13f6ec760cabd9199ab57048d7"), looks := false }, kinds := [], alts := [], laidByText := true, laidKinds := [.data, .pinned], laidTests := true, laidLooks := .later }
def ArparseKeepsCardSaid : Prop := Claim7.holds Tryd.pinned (.plain (OpenSpec.ofChange arparseKeepsSpec)) arparseKeepsCard

/-- THE SECOND FORM's CARD OF 'arlinklaw03.LongnameMatchesReference'. -/
def longnameMatchesReferenceUptoCard : Claim7 := { stood := { row := longnameMatchesReferenceUptoRow, standIns := [], harness := (true, "75a559ac8c896a5fce21958df4e554611bdaad13f6ec760cabd9199ab57048d7"), looks := false }, kinds := [], alts := [], laidByText := true, laidKinds := [.data, .data, .data], laidTests := true, laidLooks := .later }
def LongnameMatchesReferenceUptoCardSaid : Prop := Claim7.holds Tryd.pinned (.plain (OpenSpec.upto longnameMatchesReferenceSpec)) longnameMatchesReferenceUptoCard

/-- THE SECOND FORM's CARD OF 'arlinklaw03.LongnameRoundTrip'. -/
def longnameRoundTripUptoCard : Claim7 := { stood := { row := longnameRoundTripUptoRow, standIns := [], harness := (true, "75a559ac8c896a5fce21958df4e554611bdaad13f6ec760cabd9199ab57048d7"), looks := false }, kinds := [], alts := [], laidByText := true, laidKinds := [.data, .data, .data], laidTests := true, laidLooks := .later }
def LongnameRoundTripUptoCardSaid : Prop := Claim7.holds Tryd.pinned (.plain (OpenSpec.upto longnameRoundTripSpec)) longnameRoundTripUptoCard

/-- THE SECOND FORM's CARD OF 'arlinklaw03.LongnameTables'. -/
def longnameTablesUptoCard : Claim7 := { stood := { row := longnameTablesUptoRow, standIns := [], harness := (true, "75a559ac8c896a5fce21958df4e554611bdaad13f6ec760cabd9199ab57048d7"), looks := false }, kinds := [], alts := [], laidByText := true, laidKinds := [.data, .data, .data], laidTests := true, laidLooks := .later }
def LongnameTablesUptoCardSaid : Prop := Claim7.holds Tryd.pinned (.plain (OpenSpec.upto longnameTablesSpec)) longnameTablesUptoCard

/-- THE SECOND FORM's CARD OF 'arlinklaw03.LongnameOffsets'. -/
def longnameOffsetsUptoCard : Claim7 := { stood := { row := longnameOffsetsUptoRow, standIns := [], harness := (true, "75a559ac8c896a5fce21958df4e554611bdaad13f6ec760cabd9199ab57048d7"), looks := false }, kinds := [], alts := [], laidByText := true, laidKinds := [.data, .data, .data], laidTests := true, laidLooks := .later }
def LongnameOffsetsUptoCardSaid : Prop := Claim7.holds Tryd.pinned (.plain (OpenSpec.upto longnameOffsetsSpec)) longnameOffsetsUptoCard

/-- THE SECOND FORM's CARD OF 'arlinklaw03.LongnameKeeps'. -/
def longnameKeepsUptoCard : Claim7 := { stood := { row := longnameKeepsUptoRow, standIns := [], harness := (true, "75a559ac8c896a5fce21958df4e554611bdaad13f6ec760cabd9199ab57048d7"), looks := false }, kinds := [], alts := [], laidByText := true, laidKinds := [.data, .data, .data], laidTests := true, laidLooks := .later }
def LongnameKeepsUptoCardSaid : Prop := Claim7.holds Tryd.pinned (.plain (OpenSpec.upto longnameKeepsSpec)) longnameKeepsUptoCard

/-- THE SECOND FORM's CARD OF 'arlinklaw03.LongnameConcat'. -/
def longnameConcatUptoCard : Claim7 := { stood := { row := longnameConcatUptoRow, standIns := [], harness := (true, "75a559ac8c896a5fce21958df4e554611bdaad13f6ec760cabd9199ab57048d7"), looks := false }, kinds := [], alts := [], laidByText := true, laidKinds := [.data, .data, .data], laidTests := true, laidLooks := .later }
def LongnameConcatUptoCardSaid : Prop := Claim7.holds Tryd.pinned (.plain (OpenSpec.upto longnameConcatSpec)) longnameConcatUptoCard

/-- THE SECOND FORM's CARD OF 'arlinklaw04.ArparseMatchesReference'. -/
def arparseMatchesReferenceUptoCard : Claim7 := { stood := { row := arparseMatchesReferenceUptoRow, standIns := [], harness := (true, "75a559ac8c896a5fce21958df4e554611bdaad13f6ec760cabd9199ab57048d7"), looks := false }, kinds := [], alts := [], laidByText := true, laidKinds := [.data, .pinned], laidTests := true, laidLooks := .later }
def ArparseMatchesReferenceUptoCardSaid : Prop := Claim7.holds Tryd.pinned (.plain (OpenSpec.upto arparseMatchesReferenceSpec)) arparseMatchesReferenceUptoCard

/-- THE SECOND FORM's CARD OF 'arlinklaw04.ArparseTotal'. -/
def arparseTotalUptoCard : Claim7 := { stood := { row := arparseTotalUptoRow, standIns := [], harness := (true, "75a559ac8c896a5fce21958df4e554611bdaad13f6ec760cabd9199ab57048d7"), looks := false }, kinds := [], alts := [], laidByText := true, laidKinds := [.data, .pinned], laidTests := true, laidLooks := .later }
def ArparseTotalUptoCardSaid : Prop := Claim7.holds Tryd.pinned (.plain (OpenSpec.upto arparseTotalSpec)) arparseTotalUptoCard

/-- THE SECOND FORM's CARD OF 'arlinklaw04.ArparseAppends'. -/
def arparseAppendsUptoCard : Claim7 := { stood := { row := arparseAppendsUptoRow, standIns := [], harness := (true, "75a559ac8c896a5fce21958df4e554611bdaad13f6ec760cabd9199ab57048d7"), looks := false }, kinds := [], alts := [], laidByText := true, laidKinds := [.data, .pinned], laidTests := true, laidLooks := .later }
def ArparseAppendsUptoCardSaid : Prop := Claim7.holds Tryd.pinned (.plain (OpenSpec.upto arparseAppendsSpec)) arparseAppendsUptoCard

/-- THE SECOND FORM's CARD OF 'arlinklaw04.ArparseSpecial'. -/
def arparseSpecialUptoCard : Claim7 := { stood := { row := arparseSpecialUptoRow, standIns := [], harness := (true, "75a559ac8c896a5fce21958df4e554611bdaad13f6ec760cabd9199ab57048d7"), looks := false }, kinds := [], alts := [], laidByText := true, laidKinds := [.data, .pinned], laidTests := true, laidLooks := .later }
def ArparseSpecialUptoCardSaid : Prop := Claim7.holds Tryd.pinned (.plain (OpenSpec.upto arparseSpecialSpec)) arparseSpecialUptoCard

/-- THE SECOND FORM's CARD OF 'arlinklaw04.ArparseKeeps'. -/
def arparseKeepsUptoCard : Claim7 := { stood := { row := arparseKeepsUptoRow, standIns := [], harness := (true, "75a559ac8c896a5fce21958df4e554611bdaad13f6ec760cabd9199ab57048d7"), looks := false }, kinds := [], alts := [], laidByText := true, laidKinds := [.data, .pinned], laidTests := true, laidLooks := .later }
def ArparseKeepsUptoCardSaid : Prop := Claim7.holds Tryd.pinned (.plain (OpenSpec.upto arparseKeepsSpec)) arparseKeepsUptoCard
end Rows
end Go.Proofs.YtimnnknfcfongaaDoor
