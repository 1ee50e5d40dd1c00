/-
  DERIVED. GIVEN WITH THE SEED: THE CARDS: each row of YtimjnmbpbobfiaaGreatDoorRows.lean that lists a variable, with what it lists TIED to the program's text (the seventh form; the later family's looks); each row that meets fmt, with fmt's text TOLD by the authors' own Lean function (tested against real Go, not proved from fmt's source: count such statements apart). THE CARD IS WHAT COUNTS. Prove the row's statement (the work); the ties are given (YtimjnmbpbobfiaaGreatDoorTie.lean); close each card by the builder's one call (the guide's Derived/Test/ToyasCard.lean, 'card_holds'). Laid BY PROGRAM, IN A SANDBOX (cutbox-door.mjs). By AI agents, Wed Nov 11 2026. No macro, syntax, notation, axiom, sorry.
-/
import Derived.Test.YtimjnmbpbobfiaaGreatDoorRows
import GoSem.ClaimSeven
namespace Go.Proofs.YtimjnmbpbobfiaaGreatDoor
namespace Rows

/-- THE TIED CARD OF 'arlinklaw18.InputMatchesReference'. -/
def inputMatchesReferenceCard : Claim7 := { stood := { row := inputMatchesReferenceRow, standIns := [], harness := (true, "8b39dea730c2d981127233d171474d1868b5c69494294fa8a5cdafc29566e3af"), looks := true }, kinds := [], alts := [], laidByText := true, laidKinds := [.data, .widerDeep, .widerDeep, .pinned], laidTests := true, laidLooks := .later }
def InputMatchesReferenceCardSaid : Prop := Claim7.holds Tryz.pinned (.plain (OpenSpec.ofChange inputMatchesReferenceSpec)) inputMatchesReferenceCard

/-- THE TIED CARD OF 'arlinklaw18.InputFirst'. -/
def inputFirstCard : Claim7 := { stood := { row := inputFirstRow, standIns := [], harness := (true, "8b39dea730c2d981127233d171474d1868b5c69494294fa8a5cdafc29566e3af"), looks := true }, kinds := [], alts := [], laidByText := true, laidKinds := [.data, .widerDeep, .widerDeep, .pinned], laidTests := true, laidLooks := .later }
def InputFirstCardSaid : Prop := Claim7.holds Tryz.pinned (.plain (OpenSpec.ofChange inputFirstSpec)) inputFirstCard

/-- THE TIED CARD OF 'arlinklaw18.InputLoadable'. -/
def inputLoadableCard : Claim7 := { stood := { row := inputLoadableRow, standIns := [], harness := (true, "8b39dea730c2d981127233d171474d1868b5c69494294fa8a5cdafc29566e3af"), looks := true }, kinds := [], alts := [], laidByText := true, laidKinds := [.data, .widerDeep, .widerDeep, .pinned], laidTests := true, laidLooks := .later }
def InputLoadableCardSaid : Prop := Claim7.holds Tryz.pinned (.plain (OpenSpec.ofChange inputLoadableSpec)) inputLoadableCard

/-- THE TIED CARD OF 'arlinklaw18.InputKeeps'. -/
def inputKeepsCard : Claim7 := { stood := { row := inputKeepsRow, standIns := [], harness := (true, "8b39dea730c2d981127233d171474d1868b5c69494294fa8a5cdafc29566e3af"), looks := true }, kinds := [], alts := [], laidByText := true, laidKinds := [.data, .widerDeep, .widerDeep, .pinned], laidTests := true, laidLooks := .later }
def InputKeepsCardSaid : Prop := Claim7.holds Tryz.pinned (.plain (OpenSpec.ofChange inputKeepsSpec)) inputKeepsCard

/-- THE TIED CARD OF 'arlinklaw18.InputConcat'. -/
def inputConcatCard : Claim7 := { stood := { row := inputConcatRow, standIns := [], harness := (true, "8b39dea730c2d981127233d171474d1868b5c69494294fa8a5cdafc29566e3af"), looks := true }, kinds := [], alts := [], laidByText := true, laidKinds := [.data, .widerDeep, .widerDeep, .pinned], laidTests := true, laidLooks := .later }
def InputConcatCardSaid : Prop := Claim7.holds Tryz.pinned (.plain (OpenSpec.ofChange inputConcatSpec)) inputConcatCard

/-- THE SECOND FORM's CARD OF 'arlinklaw18.InputMatchesReference'. -/
def inputMatchesReferenceUptoCard : Claim7 := { stood := { row := inputMatchesReferenceUptoRow, standIns := [], harness := (true, "8b39dea730c2d981127233d171474d1868b5c69494294fa8a5cdafc29566e3af"), looks := true }, kinds := [], alts := [], laidByText := true, laidKinds := [.data, .widerDeep, .widerDeep, .pinned], laidTests := true, laidLooks := .later }
def InputMatchesReferenceUptoCardSaid : Prop := Claim7.holds Tryz.pinned (.plain (OpenSpec.upto inputMatchesReferenceSpec)) inputMatchesReferenceUptoCard

/-- THE SECOND FORM's CARD OF 'arlinklaw18.InputFirst'. -/
def inputFirstUptoCard : Claim7 := { stood := { row := inputFirstUptoRow, standIns := [], harness := (true, "8b39dea730c2d981127233d171474d1868b5c69494294fa8a5cdafc29566e3af"), looks := true }, kinds := [], alts := [], laidByText := true, laidKinds := [.data, .widerDeep, .widerDeep, .pinned], laidTests := true, laidLooks := .later }
def InputFirstUptoCardSaid : Prop := Claim7.holds Tryz.pinned (.plain (OpenSpec.upto inputFirstSpec)) inputFirstUptoCard

/-- THE SECOND FORM's CARD OF 'arlinklaw18.InputLoadable'. -/
def inputLoadableUptoCard : Claim7 := { stood := { row := inputLoadableUptoRow, standIns := [], harness := (true, "8b39dea730c2d981127233d171474d1868b5c69494294fa8a5cdafc29566e3af"), looks := true }, kinds := [], alts := [], laidByText := true, laidKinds := [.data, .widerDeep, .widerDeep, .pinned], laidTests := true, laidLooks := .later }
def InputLoadableUptoCardSaid : Prop := Claim7.holds Tryz.pinned (.plain (OpenSpec.upto inputLoadableSpec)) inputLoadableUptoCard

/-- THE SECOND FORM's CARD OF 'arlinklaw18.InputKeeps'. -/
def inputKeepsUptoCard : Claim7 := { stood := { row := inputKeepsUptoRow, standIns := [], harness := (true, "8b39dea730c2d981127233d171474d1868b5c69494294fa8a5cdafc29566e3af"), looks := true }, kinds := [], alts := [], laidByText := true, laidKinds := [.data, .widerDeep, .widerDeep, .pinned], laidTests := true, laidLooks := .later }
def InputKeepsUptoCardSaid : Prop := Claim7.holds Tryz.pinned (.plain (OpenSpec.upto inputKeepsSpec)) inputKeepsUptoCard

/-- THE SECOND FORM's CARD OF 'arlinklaw18.InputConcat'. -/
def inputConcatUptoCard : Claim7 := { stood := { row := inputConcatUptoRow, standIns := [], harness := (true, "8b39dea730c2d981127233d171474d1868b5c69494294fa8a5cdafc29566e3af"), looks := true }, kinds := [], alts := [], laidByText := true, laidKinds := [.data, .widerDeep, .widerDeep, .pinned], laidTests := true, laidLooks := .later }
def InputConcatUptoCardSaid : Prop := Claim7.holds Tryz.pinned (.plain (OpenSpec.upto inputConcatSpec)) inputConcatUptoCard
end Rows
end Go.Proofs.YtimjnmbpbobfiaaGreatDoor
