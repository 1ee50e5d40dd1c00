/-
  DERIVED. GIVEN WITH THE SEED: THE CARDS: each row of YtdlcaoobaejlpaaDoorRows.lean that lists a variable, with what it lists TIED to the program's text (the seventh form; the later family's looks); each row that meets fmt, with fmt's text TOLD by the authors' own Lean function (tested against real Go, not proved from fmt's source: count such statements apart). THE CARD IS WHAT COUNTS. Prove the row's statement (the work); the ties are given (YtdlcaoobaejlpaaDoorTie.lean); close each card by the builder's one call (the guide's Derived/Test/ToyasCard.lean, 'card_holds'). Laid BY PROGRAM, IN A SANDBOX (cutbox-door.mjs). By AI agents, Wed Nov 11 2026. No macro, syntax, notation, axiom, sorry.
-/
import Derived.Test.YtdlcaoobaejlpaaDoorRows
import GoSem.ClaimSeven
namespace Go.Proofs.YtdlcaoobaejlpaaDoor
namespace Rows

/-- THE TIED CARD OF 'arlinklaw14.SymtabMatchesReference'. -/
def symtabMatchesReferenceCard : Claim7 := { stood := { row := symtabMatchesReferenceRow, standIns := [], harness := (true, "034a03f84f236c40f9ea70330cfa542203856bf18f59b8879aaf8906f2ac695d"), looks := true }, kinds := [], alts := [], laidByText := true, laidKinds := [.data], laidTests := true, laidLooks := .later }
def SymtabMatchesReferenceCardSaid : Prop := Claim7.holds Tryd.pinned (.plain (OpenSpec.ofChange symtabMatchesReferenceSpec)) symtabMatchesReferenceCard

/-- THE TIED CARD OF 'arlinklaw14.SymtabResolves'. -/
def symtabResolvesCard : Claim7 := { stood := { row := symtabResolvesRow, standIns := [], harness := (true, "034a03f84f236c40f9ea70330cfa542203856bf18f59b8879aaf8906f2ac695d"), looks := true }, kinds := [], alts := [], laidByText := true, laidKinds := [.data], laidTests := true, laidLooks := .later }
def SymtabResolvesCardSaid : Prop := Claim7.holds Tryd.pinned (.plain (OpenSpec.ofChange symtabResolvesSpec)) symtabResolvesCard

/-- THE TIED CARD OF 'arlinklaw14.SymtabSorted'. -/
def symtabSortedCard : Claim7 := { stood := { row := symtabSortedRow, standIns := [], harness := (true, "034a03f84f236c40f9ea70330cfa542203856bf18f59b8879aaf8906f2ac695d"), looks := true }, kinds := [], alts := [], laidByText := true, laidKinds := [.data], laidTests := true, laidLooks := .later }
def SymtabSortedCardSaid : Prop := Claim7.holds Tryd.pinned (.plain (OpenSpec.ofChange symtabSortedSpec)) symtabSortedCard

/-- THE TIED CARD OF 'arlinklaw14.SymtabKeeps'. -/
def symtabKeepsCard : Claim7 := { stood := { row := symtabKeepsRow, standIns := [], harness := (true, "034a03f84f236c40f9ea70330cfa542203856bf18f59b8879aaf8906f2ac695d"), looks := true }, kinds := [], alts := [], laidByText := true, laidKinds := [.data], laidTests := true, laidLooks := .later }
def SymtabKeepsCardSaid : Prop := Claim7.holds Tryd.pinned (.plain (OpenSpec.ofChange symtabKeepsSpec)) symtabKeepsCard

/-- THE TIED CARD OF 'arlinklaw14.SymtabPrefix'. -/
def symtabPrefixCard : Claim7 := { stood := { row := symtabPrefixRow, standIns := [], harness := (true, "034a03f84f236c40f9ea70330cfa542203856bf18f59b8879aaf8906f2ac695d"), looks := true }, kinds := [], alts := [], laidByText := true, laidKinds := [.data], laidTests := true, laidLooks := .later }
def SymtabPrefixCardSaid : Prop := Claim7.holds Tryd.pinned (.plain (OpenSpec.ofChange symtabPrefixSpec)) symtabPrefixCard

/-- THE TIED CARD OF 'arlinklaw15.WantedLoadable'. -/
def wantedLoadableCard : Claim7 := { stood := { row := wantedLoadableRow, standIns := [], harness := (true, "034a03f84f236c40f9ea70330cfa542203856bf18f59b8879aaf8906f2ac695d"), looks := true }, kinds := [], alts := [], laidByText := true, laidKinds := [.data], laidTests := true, laidLooks := .later }
def WantedLoadableCardSaid : Prop := Claim7.holds Tryd.pinned (.plain (OpenSpec.ofChange wantedLoadableSpec)) wantedLoadableCard

/-- THE SECOND FORM's CARD OF 'arlinklaw14.SymtabMatchesReference'. -/
def symtabMatchesReferenceUptoCard : Claim7 := { stood := { row := symtabMatchesReferenceUptoRow, standIns := [], harness := (true, "034a03f84f236c40f9ea70330cfa542203856bf18f59b8879aaf8906f2ac695d"), looks := true }, kinds := [], alts := [], laidByText := true, laidKinds := [.data], laidTests := true, laidLooks := .later }
def SymtabMatchesReferenceUptoCardSaid : Prop := Claim7.holds Tryd.pinned (.plain (OpenSpec.upto symtabMatchesReferenceSpec)) symtabMatchesReferenceUptoCard

/-- THE SECOND FORM's CARD OF 'arlinklaw14.SymtabResolves'. -/
def symtabResolvesUptoCard : Claim7 := { stood := { row := symtabResolvesUptoRow, standIns := [], harness := (true, "034a03f84f236c40f9ea70330cfa542203856bf18f59b8879aaf8906f2ac695d"), looks := true }, kinds := [], alts := [], laidByText := true, laidKinds := [.data], laidTests := true, laidLooks := .later }
def SymtabResolvesUptoCardSaid : Prop := Claim7.holds Tryd.pinned (.plain (OpenSpec.upto symtabResolvesSpec)) symtabResolvesUptoCard

/-- THE SECOND FORM's CARD OF 'arlinklaw14.SymtabSorted'. -/
def symtabSortedUptoCard : Claim7 := { stood := { row := symtabSortedUptoRow, standIns := [], harness := (true, "034a03f84f236c40f9ea70330cfa542203856bf18f59b8879aaf8906f2ac695d"), looks := true }, kinds := [], alts := [], laidByText := true, laidKinds := [.data], laidTests := true, laidLooks := .later }
def SymtabSortedUptoCardSaid : Prop := Claim7.holds Tryd.pinned (.plain (OpenSpec.upto symtabSortedSpec)) symtabSortedUptoCard

/-- THE SECOND FORM's CARD OF 'arlinklaw14.SymtabKeeps'. -/
def symtabKeepsUptoCard : Claim7 := { stood := { row := symtabKeepsUptoRow, standIns := [], harness := (true, "034a03f84f236c40f9ea70330cfa542203856bf18f59b8879aaf8906f2ac695d"), looks := true }, kinds := [], alts := [], laidByText := true, laidKinds := [.data], laidTests := true, laidLooks := .later }
def SymtabKeepsUptoCardSaid : Prop := Claim7.holds Tryd.pinned (.plain (OpenSpec.upto symtabKeepsSpec)) symtabKeepsUptoCard

/-- THE SECOND FORM's CARD OF 'arlinklaw14.SymtabPrefix'. -/
def symtabPrefixUptoCard : Claim7 := { stood := { row := symtabPrefixUptoRow, standIns := [], harness := (true, "034a03f84f236c40f9ea70330cfa542203856bf18f59b8879aaf8906f2ac695d"), looks := true }, kinds := [], alts := [], laidByText := true, laidKinds := [.data], laidTests := true, laidLooks := .later }
def SymtabPrefixUptoCardSaid : Prop := Claim7.holds Tryd.pinned (.plain (OpenSpec.upto symtabPrefixSpec)) symtabPrefixUptoCard

/-- THE SECOND FORM's CARD OF 'arlinklaw15.WantedLoadable'. -/
def wantedLoadableUptoCard : Claim7 := { stood := { row := wantedLoadableUptoRow, standIns := [], harness := (true, "034a03f84f236c40f9ea70330cfa542203856bf18f59b8879aaf8906f2ac695d"), looks := true }, kinds := [], alts := [], laidByText := true, laidKinds := [.data], laidTests := true, laidLooks := .later }
def WantedLoadableUptoCardSaid : Prop := Claim7.holds Tryd.pinned (.plain (OpenSpec.upto wantedLoadableSpec)) wantedLoadableUptoCard
end Rows
end Go.Proofs.YtdlcaoobaejlpaaDoor
