/-
  DERIVED. GIVEN WITH THE SEED: THE CARDS: each row of YtfbmknghfhancaaDoorRows.lean that lists a variable, with what it lists TIED to the program's text (the seventh form; the later family's looks); each row that meets fmt, with fmt's text TOLD by the authors' own Lean function (tested against real Go, not proved from fmt's source: count such statements apart). THE CARD IS WHAT COUNTS. Prove the row's statement (the work); the ties are given (YtfbmknghfhancaaDoorTie.lean); close each card by the builder's one call (the guide's Derived/Test/ToyasCard.lean, 'card_holds'). Laid BY PROGRAM, IN A SANDBOX (cutbox-door.mjs). By AI agents, Wed Nov 11 2026. No macro, syntax, notation, axiom, sorry.
-/
import Derived.Test.YtfbmknghfhancaaDoorRows
import GoSem.ClaimSeven
namespace Go.Proofs.YtfbmknghfhancaaDoor
namespace Rows

/-- THE TIED CARD OF 'arlinklaw20.GroupMaximal'. -/
def groupMaximalCard : Claim7 := { stood := { row := groupMaximalRow, standIns := [], harness := (true, "825c3d8eca17a324f5866211d49ac5618facf8aec6a2d1ba52cb06858ce5bfc4"), looks := true }, kinds := [], alts := [], laidByText := true, laidKinds := [.data], laidTests := true, laidLooks := .later }
def GroupMaximalCardSaid : Prop := Claim7.holds Tryd.pinned (.plain (OpenSpec.ofChange groupMaximalSpec)) groupMaximalCard

/-- THE TIED CARD OF 'arlinklaw20.GroupKeeps'. -/
def groupKeepsCard : Claim7 := { stood := { row := groupKeepsRow, standIns := [], harness := (true, "825c3d8eca17a324f5866211d49ac5618facf8aec6a2d1ba52cb06858ce5bfc4"), looks := true }, kinds := [], alts := [], laidByText := true, laidKinds := [.data], laidTests := true, laidLooks := .later }
def GroupKeepsCardSaid : Prop := Claim7.holds Tryd.pinned (.plain (OpenSpec.ofChange groupKeepsSpec)) groupKeepsCard

/-- THE TIED CARD OF 'arlinklaw20.GroupSingle'. -/
def groupSingleCard : Claim7 := { stood := { row := groupSingleRow, standIns := [], harness := (true, "825c3d8eca17a324f5866211d49ac5618facf8aec6a2d1ba52cb06858ce5bfc4"), looks := true }, kinds := [], alts := [], laidByText := true, laidKinds := [.data], laidTests := true, laidLooks := .later }
def GroupSingleCardSaid : Prop := Claim7.holds Tryd.pinned (.plain (OpenSpec.ofChange groupSingleSpec)) groupSingleCard

/-- THE TIED CARD OF 'arlinklaw20.GroupMore'. -/
def groupMoreCard : Claim7 := { stood := { row := groupMoreRow, standIns := [], harness := (true, "825c3d8eca17a324f5866211d49ac5618facf8aec6a2d1ba52cb06858ce5bfc4"), looks := true }, kinds := [], alts := [], laidByText := true, laidKinds := [.data], laidTests := true, laidLooks := .later }
def GroupMoreCardSaid : Prop := Claim7.holds Tryd.pinned (.plain (OpenSpec.ofChange groupMoreSpec)) groupMoreCard

/-- THE TIED CARD OF 'arlinklaw20.GroupMatchesReference'. -/
def groupMatchesReferenceCard : Claim7 := { stood := { row := groupMatchesReferenceRow, standIns := [], harness := (true, "825c3d8eca17a324f5866211d49ac5618facf8aec6a2d1ba52cb06858ce5bfc4"), looks := true }, kinds := [], alts := [], laidByText := true, laidKinds := [.data], laidTests := true, laidLooks := .later }
def GroupMatchesReferenceCardSaid : Prop := Claim7.holds Tryd.pinned (.plain (OpenSpec.ofChange groupMatchesReferenceSpec)) groupMatchesReferenceCard

/-- THE TIED CARD OF 'arlinklaw19.ScanOnce'. -/
def scanOnceCard : Claim7 := { stood := { row := scanOnceRow, standIns := [], harness := (true, "825c3d8eca17a324f5866211d49ac5618facf8aec6a2d1ba52cb06858ce5bfc4"), looks := true }, kinds := [], alts := [], laidByText := true, laidKinds := [.data], laidTests := true, laidLooks := .later }
def ScanOnceCardSaid : Prop := Claim7.holds Tryd.pinned (.plain (OpenSpec.ofChange scanOnceSpec)) scanOnceCard

/-- THE TIED CARD OF 'arlinklaw19.ScanNothing'. -/
def scanNothingCard : Claim7 := { stood := { row := scanNothingRow, standIns := [], harness := (true, "825c3d8eca17a324f5866211d49ac5618facf8aec6a2d1ba52cb06858ce5bfc4"), looks := true }, kinds := [], alts := [], laidByText := true, laidKinds := [.data], laidTests := true, laidLooks := .later }
def ScanNothingCardSaid : Prop := Claim7.holds Tryd.pinned (.plain (OpenSpec.ofChange scanNothingSpec)) scanNothingCard

/-- THE SECOND FORM's CARD OF 'arlinklaw20.GroupMaximal'. -/
def groupMaximalUptoCard : Claim7 := { stood := { row := groupMaximalUptoRow, standIns := [], harness := (true, "825c3d8eca17a324f5866211d49ac5618facf8aec6a2d1ba52cb06858ce5bfc4"), looks := true }, kinds := [], alts := [], laidByText := true, laidKinds := [.data], laidTests := true, laidLooks := .later }
def GroupMaximalUptoCardSaid : Prop := Claim7.holds Tryd.pinned (.plain (OpenSpec.upto groupMaximalSpec)) groupMaximalUptoCard

/-- THE SECOND FORM's CARD OF 'arlinklaw20.GroupKeeps'. -/
def groupKeepsUptoCard : Claim7 := { stood := { row := groupKeepsUptoRow, standIns := [], harness := (true, "825c3d8eca17a324f5866211d49ac5618facf8aec6a2d1ba52cb06858ce5bfc4"), looks := true }, kinds := [], alts := [], laidByText := true, laidKinds := [.data], laidTests := true, laidLooks := .later }
def GroupKeepsUptoCardSaid : Prop := Claim7.holds Tryd.pinned (.plain (OpenSpec.upto groupKeepsSpec)) groupKeepsUptoCard

/-- THE SECOND FORM's CARD OF 'arlinklaw20.GroupSingle'. -/
def groupSingleUptoCard : Claim7 := { stood := { row := groupSingleUptoRow, standIns := [], harness := (true, "825c3d8eca17a324f5866211d49ac5618facf8aec6a2d1ba52cb06858ce5bfc4"), looks := true }, kinds := [], alts := [], laidByText := true, laidKinds := [.data], laidTests := true, laidLooks := .later }
def GroupSingleUptoCardSaid : Prop := Claim7.holds Tryd.pinned (.plain (OpenSpec.upto groupSingleSpec)) groupSingleUptoCard

/-- THE SECOND FORM's CARD OF 'arlinklaw20.GroupMore'. -/
def groupMoreUptoCard : Claim7 := { stood := { row := groupMoreUptoRow, standIns := [], harness := (true, "825c3d8eca17a324f5866211d49ac5618facf8aec6a2d1ba52cb06858ce5bfc4"), looks := true }, kinds := [], alts := [], laidByText := true, laidKinds := [.data], laidTests := true, laidLooks := .later }
def GroupMoreUptoCardSaid : Prop := Claim7.holds Tryd.pinned (.plain (OpenSpec.upto groupMoreSpec)) groupMoreUptoCard

/-- THE SECOND FORM's CARD OF 'arlinklaw20.GroupMatchesReference'. -/
def groupMatchesReferenceUptoCard : Claim7 := { stood := { row := groupMatchesReferenceUptoRow, standIns := [], harness := (true, "825c3d8eca17a324f5866211d49ac5618facf8aec6a2d1ba52cb06858ce5bfc4"), looks := true }, kinds := [], alts := [], laidByText := true, laidKinds := [.data], laidTests := true, laidLooks := .later }
def GroupMatchesReferenceUptoCardSaid : Prop := Claim7.holds Tryd.pinned (.plain (OpenSpec.upto groupMatchesReferenceSpec)) groupMatchesReferenceUptoCard

/-- THE SECOND FORM's CARD OF 'arlinklaw19.ScanOnce'. -/
def scanOnceUptoCard : Claim7 := { stood := { row := scanOnceUptoRow, standIns := [], harness := (true, "825c3d8eca17a324f5866211d49ac5618facf8aec6a2d1ba52cb06858ce5bfc4"), looks := true }, kinds := [], alts := [], laidByText := true, laidKinds := [.data], laidTests := true, laidLooks := .later }
def ScanOnceUptoCardSaid : Prop := Claim7.holds Tryd.pinned (.plain (OpenSpec.upto scanOnceSpec)) scanOnceUptoCard

/-- THE SECOND FORM's CARD OF 'arlinklaw19.ScanNothing'. -/
def scanNothingUptoCard : Claim7 := { stood := { row := scanNothingUptoRow, standIns := [], harness := (true, "825c3d8eca17a324f5866211d49ac5618facf8aec6a2d1ba52cb06858ce5bfc4"), looks := true }, kinds := [], alts := [], laidByText := true, laidKinds := [.data], laidTests := true, laidLooks := .later }
def ScanNothingUptoCardSaid : Prop := Claim7.holds Tryd.pinned (.plain (OpenSpec.upto scanNothingSpec)) scanNothingUptoCard
end Rows
end Go.Proofs.YtfbmknghfhancaaDoor
