/-
  DERIVED. GIVEN WITH THE SEED: THE CARDS: each row of YtideppacnkilbaaDoorRows.lean that lists a variable, with what it lists TIED to the program's text (the seventh form; the later family's looks); each row that meets fmt, with fmt's text TOLD by the authors' own Lean function (tested against real Go, not proved from fmt's source: count such statements apart). THE CARD IS WHAT COUNTS. Prove the row's statement (the work); the ties are given (YtideppacnkilbaaDoorTie.lean); close each card by the builder's one call (the guide's Derived/Test/ToyasCard.lean, 'card_holds'). Laid BY PROGRAM, IN A SANDBOX (cutbox-door.mjs). By AI agents, Wed Nov 11 2026. No macro, syntax, notation, axiom, sorry.
-/
import Derived.Test.YtideppacnkilbaaDoorRows
import GoSem.ClaimSeven
namespace Go.Proofs.YtideppacnkilbaaDoor
namespace Rows

/-- THE TIED CARD OF 'arlinklaw13.BindJoins'. -/
def bindJoinsCard : Claim7 := { stood := { row := bindJoinsRow, standIns := [], harness := (true, "aca3bd19101ff2e3cd7bd264ece00945e5c9847a34e5b0d1c6cd363903548474"), looks := false }, kinds := [], alts := [], laidByText := true, laidKinds := [.data], laidTests := true, laidLooks := .later }
def BindJoinsCardSaid : Prop := Claim7.holds Tryd.pinned (.plain (OpenSpec.ofChange bindJoinsSpec)) bindJoinsCard

/-- THE TIED CARD OF 'arlinklaw13.BindGrows'. -/
def bindGrowsCard : Claim7 := { stood := { row := bindGrowsRow, standIns := [], harness := (true, "aca3bd19101ff2e3cd7bd264ece00945e5c9847a34e5b0d1c6cd363903548474"), looks := false }, kinds := [], alts := [], laidByText := true, laidKinds := [.data], laidTests := true, laidLooks := .later }
def BindGrowsCardSaid : Prop := Claim7.holds Tryd.pinned (.plain (OpenSpec.ofChange bindGrowsSpec)) bindGrowsCard

/-- THE TIED CARD OF 'arlinklaw13.BindOrder'. -/
def bindOrderCard : Claim7 := { stood := { row := bindOrderRow, standIns := [], harness := (true, "aca3bd19101ff2e3cd7bd264ece00945e5c9847a34e5b0d1c6cd363903548474"), looks := false }, kinds := [], alts := [], laidByText := true, laidKinds := [.data], laidTests := true, laidLooks := .later }
def BindOrderCardSaid : Prop := Claim7.holds Tryd.pinned (.plain (OpenSpec.ofChange bindOrderSpec)) bindOrderCard

/-- THE TIED CARD OF 'arlinklaw13.BindKeeps'. -/
def bindKeepsCard : Claim7 := { stood := { row := bindKeepsRow, standIns := [], harness := (true, "aca3bd19101ff2e3cd7bd264ece00945e5c9847a34e5b0d1c6cd363903548474"), looks := false }, kinds := [], alts := [], laidByText := true, laidKinds := [.data], laidTests := true, laidLooks := .later }
def BindKeepsCardSaid : Prop := Claim7.holds Tryd.pinned (.plain (OpenSpec.ofChange bindKeepsSpec)) bindKeepsCard

/-- THE SECOND FORM's CARD OF 'arlinklaw13.BindJoins'. -/
def bindJoinsUptoCard : Claim7 := { stood := { row := bindJoinsUptoRow, standIns := [], harness := (true, "aca3bd19101ff2e3cd7bd264ece00945e5c9847a34e5b0d1c6cd363903548474"), looks := false }, kinds := [], alts := [], laidByText := true, laidKinds := [.data], laidTests := true, laidLooks := .later }
def BindJoinsUptoCardSaid : Prop := Claim7.holds Tryd.pinned (.plain (OpenSpec.upto bindJoinsSpec)) bindJoinsUptoCard

/-- THE SECOND FORM's CARD OF 'arlinklaw13.BindGrows'. -/
def bindGrowsUptoCard : Claim7 := { stood := { row := bindGrowsUptoRow, standIns := [], harness := (true, "aca3bd19101ff2e3cd7bd264ece00945e5c9847a34e5b0d1c6cd363903548474"), looks := false }, kinds := [], alts := [], laidByText := true, laidKinds := [.data], laidTests := true, laidLooks := .later }
def BindGrowsUptoCardSaid : Prop := Claim7.holds Tryd.pinned (.plain (OpenSpec.upto bindGrowsSpec)) bindGrowsUptoCard

/-- THE SECOND FORM's CARD OF 'arlinklaw13.BindOrder'. -/
def bindOrderUptoCard : Claim7 := { stood := { row := bindOrderUptoRow, standIns := [], harness := (true, "aca3bd19101ff2e3cd7bd264ece00945e5c9847a34e5b0d1c6cd363903548474"), looks := false }, kinds := [], alts := [], laidByText := true, laidKinds := [.data], laidTests := true, laidLooks := .later }
def BindOrderUptoCardSaid : Prop := Claim7.holds Tryd.pinned (.plain (OpenSpec.upto bindOrderSpec)) bindOrderUptoCard

/-- THE SECOND FORM's CARD OF 'arlinklaw13.BindKeeps'. -/
def bindKeepsUptoCard : Claim7 := { stood := { row := bindKeepsUptoRow, standIns := [], harness := (true, "aca3bd19101ff2e3cd7bd264ece00945e5c9847a34e5b0d1c6cd363903548474"), looks := false }, kinds := [], alts := [], laidByText := true, laidKinds := [.data], laidTests := true, laidLooks := .later }
def BindKeepsUptoCardSaid : Prop := Claim7.holds Tryd.pinned (.plain (OpenSpec.upto bindKeepsSpec)) bindKeepsUptoCard
end Rows
end Go.Proofs.YtideppacnkilbaaDoor
