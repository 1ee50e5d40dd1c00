/-
  DERIVED. GIVEN WITH THE SEED: THE CARDS: each row of YtenbpnlmpjndgaaGreatDoorRows.lean that lists a variable, with what it lists TIED to the program's text (the seventh form; the later family's looks); each row that meets fmt, with fmt's text TOLD by the authors' own Lean function (tested against real Go, not proved from fmt's source: count such statements apart). THE CARD IS WHAT COUNTS. Prove the row's statement (the work); the ties are given (YtenbpnlmpjndgaaGreatDoorTie.lean); close each card by the builder's one call (the guide's Derived/Test/ToyasCard.lean, 'card_holds'). Laid BY PROGRAM, IN A SANDBOX (cutbox-door.mjs). By AI agents, Wed Nov 11 2026. No macro, syntax, notation, axiom, sorry.
-/
import Derived.Test.YtenbpnlmpjndgaaGreatDoorRows
import GoSem.ClaimSeven
namespace Go.Proofs.YtenbpnlmpjndgaaGreatDoor
namespace Rows

/-- THE TIED CARD OF 'arlinklaw09.ConsistMatchesReference'. -/
def consistMatchesReferenceCard : Claim7 := { stood := { row := consistMatchesReferenceRow, standIns := [], harness := (true, "f16d8a9397c25f091d1d306b3a10e6c7be59c043ed7602f0b32dbdd1f28386d7"), looks := true }, kinds := [], alts := [], laidByText := true, laidKinds := [.data, .pinned], laidTests := true, laidLooks := .later }
def ConsistMatchesReferenceCardSaid : Prop := Claim7.holds Tryz.pinned (.plain (OpenSpec.ofChange consistMatchesReferenceSpec)) consistMatchesReferenceCard

/-- THE TIED CARD OF 'arlinklaw09.ConsistComplete'. -/
def consistCompleteCard : Claim7 := { stood := { row := consistCompleteRow, standIns := [], harness := (true, "f16d8a9397c25f091d1d306b3a10e6c7be59c043ed7602f0b32dbdd1f28386d7"), looks := true }, kinds := [], alts := [], laidByText := true, laidKinds := [.data, .pinned], laidTests := true, laidLooks := .later }
def ConsistCompleteCardSaid : Prop := Claim7.holds Tryz.pinned (.plain (OpenSpec.ofChange consistCompleteSpec)) consistCompleteCard

/-- THE TIED CARD OF 'arlinklaw09.ConsistDamaged'. -/
def consistDamagedCard : Claim7 := { stood := { row := consistDamagedRow, standIns := [], harness := (true, "f16d8a9397c25f091d1d306b3a10e6c7be59c043ed7602f0b32dbdd1f28386d7"), looks := true }, kinds := [], alts := [], laidByText := true, laidKinds := [.data, .pinned], laidTests := true, laidLooks := .later }
def ConsistDamagedCardSaid : Prop := Claim7.holds Tryz.pinned (.plain (OpenSpec.ofChange consistDamagedSpec)) consistDamagedCard

/-- THE TIED CARD OF 'arlinklaw09.ConsistKeeps'. -/
def consistKeepsCard : Claim7 := { stood := { row := consistKeepsRow, standIns := [], harness := (true, "f16d8a9397c25f091d1d306b3a10e6c7be59c043ed7602f0b32dbdd1f28386d7"), looks := true }, kinds := [], alts := [], laidByText := true, laidKinds := [.data, .pinned], laidTests := true, laidLooks := .later }
def ConsistKeepsCardSaid : Prop := Claim7.holds Tryz.pinned (.plain (OpenSpec.ofChange consistKeepsSpec)) consistKeepsCard

/-- THE TIED CARD OF 'arlinklaw09.ConsistRestored'. -/
def consistRestoredCard : Claim7 := { stood := { row := consistRestoredRow, standIns := [], harness := (true, "f16d8a9397c25f091d1d306b3a10e6c7be59c043ed7602f0b32dbdd1f28386d7"), looks := true }, kinds := [], alts := [], laidByText := true, laidKinds := [.data, .pinned], laidTests := true, laidLooks := .later }
def ConsistRestoredCardSaid : Prop := Claim7.holds Tryz.pinned (.plain (OpenSpec.ofChange consistRestoredSpec)) consistRestoredCard

/-- THE SECOND FORM's CARD OF 'arlinklaw09.ConsistMatchesReference'. -/
def consistMatchesReferenceUptoCard : Claim7 := { stood := { row := consistMatchesReferenceUptoRow, standIns := [], harness := (true, "f16d8a9397c25f091d1d306b3a10e6c7be59c043ed7602f0b32dbdd1f28386d7"), looks := true }, kinds := [], alts := [], laidByText := true, laidKinds := [.data, .pinned], laidTests := true, laidLooks := .later }
def ConsistMatchesReferenceUptoCardSaid : Prop := Claim7.holds Tryz.pinned (.plain (OpenSpec.upto consistMatchesReferenceSpec)) consistMatchesReferenceUptoCard

/-- THE SECOND FORM's CARD OF 'arlinklaw09.ConsistComplete'. -/
def consistCompleteUptoCard : Claim7 := { stood := { row := consistCompleteUptoRow, standIns := [], harness := (true, "f16d8a9397c25f091d1d306b3a10e6c7be59c043ed7602f0b32dbdd1f28386d7"), looks := true }, kinds := [], alts := [], laidByText := true, laidKinds := [.data, .pinned], laidTests := true, laidLooks := .later }
def ConsistCompleteUptoCardSaid : Prop := Claim7.holds Tryz.pinned (.plain (OpenSpec.upto consistCompleteSpec)) consistCompleteUptoCard

/-- THE SECOND FORM's CARD OF 'arlinklaw09.ConsistDamaged'. -/
def consistDamagedUptoCard : Claim7 := { stood := { row := consistDamagedUptoRow, standIns := [], harness := (true, "f16d8a9397c25f091d1d306b3a10e6c7be59c043ed7602f0b32dbdd1f28386d7"), looks := true }, kinds := [], alts := [], laidByText := true, laidKinds := [.data, .pinned], laidTests := true, laidLooks := .later }
def ConsistDamagedUptoCardSaid : Prop := Claim7.holds Tryz.pinned (.plain (OpenSpec.upto consistDamagedSpec)) consistDamagedUptoCard

/-- THE SECOND FORM's CARD OF 'arlinklaw09.ConsistKeeps'. -/
def consistKeepsUptoCard : Claim7 := { stood := { row := consistKeepsUptoRow, standIns := [], harness := (true, "f16d8a9397c25f091d1d306b3a10e6c7be59c043ed7602f0b32dbdd1f28386d7"), looks := true }, kinds := [], alts := [], laidByText := true, laidKinds := [.data, .pinned], laidTests := true, laidLooks := .later }
def ConsistKeepsUptoCardSaid : Prop := Claim7.holds Tryz.pinned (.plain (OpenSpec.upto consistKeepsSpec)) consistKeepsUptoCard

/-- THE SECOND FORM's CARD OF 'arlinklaw09.ConsistRestored'. -/
def consistRestoredUptoCard : Claim7 := { stood := { row := consistRestoredUptoRow, standIns := [], harness := (true, "f16d8a9397c25f091d1d306b3a10e6c7be59c043ed7602f0b32dbdd1f28386d7"), looks := true }, kinds := [], alts := [], laidByText := true, laidKinds := [.data, .pinned], laidTests := true, laidLooks := .later }
def ConsistRestoredUptoCardSaid : Prop := Claim7.holds Tryz.pinned (.plain (OpenSpec.upto consistRestoredSpec)) consistRestoredUptoCard
end Rows
end Go.Proofs.YtenbpnlmpjndgaaGreatDoor
