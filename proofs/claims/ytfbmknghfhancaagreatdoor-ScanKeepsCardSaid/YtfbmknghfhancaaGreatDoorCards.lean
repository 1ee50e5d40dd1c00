/-
  DERIVED. GIVEN WITH THE SEED: THE CARDS: each row of YtfbmknghfhancaaGreatDoorRows.lean that lists a variable, with what it lists TIED to the program's text (the seventh form; the later family's looks); each row that meets fmt, with fmt's text TOLD by the authors' own Lean function (tested against real Go, not proved from fmt's source: count such statements apart). THE CARD IS WHAT COUNTS. Prove the row's statement (the work); the ties are given (YtfbmknghfhancaaGreatDoorTie.lean); close each card by the builder's one call (the guide's Derived/Test/ToyasCard.lean, 'card_holds'). Laid BY PROGRAM, IN A SANDBOX (cutbox-door.mjs). By AI agents, Wed Nov 11 2026. No macro, syntax, notation, axiom, sorry.
-/
import Derived.Test.YtfbmknghfhancaaGreatDoorRows
import GoSem.ClaimSeven
namespace Go.Proofs.YtfbmknghfhancaaGreatDoor
namespace Rows

/-- THE TIED CARD OF 'arlinklaw19.ScanMaximal'. -/
def scanMaximalCard : Claim7 := { stood := { row := scanMaximalRow, standIns := [], harness := (true, "bb67a05096ca9a2dd300703ca06eec0c81c5c16a05d209d94a7b115a69b0297e"), looks := true }, kinds := [], alts := [], laidByText := true, laidKinds := [.data], laidTests := true, laidLooks := .later }
def ScanMaximalCardSaid : Prop := Claim7.holds Tryz.pinned (.plain (OpenSpec.ofChange scanMaximalSpec)) scanMaximalCard

/-- THE TIED CARD OF 'arlinklaw19.ScanKeeps'. -/
def scanKeepsCard : Claim7 := { stood := { row := scanKeepsRow, standIns := [], harness := (true, "bb67a05096ca9a2dd300703ca06eec0c81c5c16a05d209d94a7b115a69b0297e"), looks := true }, kinds := [], alts := [], laidByText := true, laidKinds := [.data], laidTests := true, laidLooks := .later }
def ScanKeepsCardSaid : Prop := Claim7.holds Tryz.pinned (.plain (OpenSpec.ofChange scanKeepsSpec)) scanKeepsCard

/-- THE TIED CARD OF 'arlinklaw19.ScanMatchesReference'. -/
def scanMatchesReferenceCard : Claim7 := { stood := { row := scanMatchesReferenceRow, standIns := [], harness := (true, "bb67a05096ca9a2dd300703ca06eec0c81c5c16a05d209d94a7b115a69b0297e"), looks := true }, kinds := [], alts := [], laidByText := true, laidKinds := [.data], laidTests := true, laidLooks := .later }
def ScanMatchesReferenceCardSaid : Prop := Claim7.holds Tryz.pinned (.plain (OpenSpec.ofChange scanMatchesReferenceSpec)) scanMatchesReferenceCard

/-- THE SECOND FORM's CARD OF 'arlinklaw19.ScanMaximal'. -/
def scanMaximalUptoCard : Claim7 := { stood := { row := scanMaximalUptoRow, standIns := [], harness := (true, "bb67a05096ca9a2dd300703ca06eec0c81c5c16a05d209d94a7b115a69b0297e"), looks := true }, kinds := [], alts := [], laidByText := true, laidKinds := [.data], laidTests := true, laidLooks := .later }
def ScanMaximalUptoCardSaid : Prop := Claim7.holds Tryz.pinned (.plain (OpenSpec.upto scanMaximalSpec)) scanMaximalUptoCard

/-- THE SECOND FORM's CARD OF 'arlinklaw19.ScanKeeps'. -/
def scanKeepsUptoCard : Claim7 := { stood := { row := scanKeepsUptoRow, standIns := [], harness := (true, "bb67a05096ca9a2dd300703ca06eec0c81c5c16a05d209d94a7b115a69b0297e"), looks := true }, kinds := [], alts := [], laidByText := true, laidKinds := [.data], laidTests := true, laidLooks := .later }
def ScanKeepsUptoCardSaid : Prop := Claim7.holds Tryz.pinned (.plain (OpenSpec.upto scanKeepsSpec)) scanKeepsUptoCard

/-- THE SECOND FORM's CARD OF 'arlinklaw19.ScanMatchesReference'. -/
def scanMatchesReferenceUptoCard : Claim7 := { stood := { row := scanMatchesReferenceUptoRow, standIns := [], harness := (true, "bb67a05096ca9a2dd300703ca06eec0c81c5c16a05d209d94a7b115a69b0297e"), looks := true }, kinds := [], alts := [], laidByText := true, laidKinds := [.data], laidTests := true, laidLooks := .later }
def ScanMatchesReferenceUptoCardSaid : Prop := Claim7.holds Tryz.pinned (.plain (OpenSpec.upto scanMatchesReferenceSpec)) scanMatchesReferenceUptoCard
end Rows
end Go.Proofs.YtfbmknghfhancaaGreatDoor
