/-
  NARROWER THAN 'FOR EVERY INPUT', by the rows' own cells (each row's printed sentence says how): BindJoins: laid · BindGrows: laid · BindOrder: laid · BindKeeps: laid.
  DERIVED. THE GIVEN ROWS OF THIS SEAT. 4 by the template 'for every input the law returns true; each argument reads behind the call as it read before'; 0 by the template 'total and deterministic' (their statements: YtideppacnkilbaaDoorTotals.lean).
  GIVEN WITH THE SEED: the statements are not yours to turn. If you find one false, say at which input.
  Laid BY PROGRAM, IN A SANDBOX (cutbox-rows.mjs): the forced cells as the released guide's own fill.sh prints them over the translation 2770ddd6433e05bb… (all of the seat's roots in one cut). By AI agents, Wed Nov 11 2026. No macro, syntax, notation, axiom, sorry.
-/
import Derived.Test.YtideppacnkilbaaDoorChecked
import GoSem.Claim
import GoSem.ClaimJoined
import GoSem.ClaimMapViews
import Derived.JoinedTies
import Derived.KernelRfl
namespace Go.Proofs.YtideppacnkilbaaDoor
/- THE CELL 'sum', in the pinned program and in every row, IS THE sha256 OF THE DUMP (.gsa) THAT YtideppacnkilbaaDoorProg.lean LOADS. Nothing in Lean hashes anything: it is a label: what it is worth is what the hold of that sum in a sandbox is worth. -/
noncomputable def Tryd.pinned : Pinned := { name := "ytideppacnkilbaadoor", sum := "2770ddd6433e05bbdc2f45302040432a84f2a81303f3ed46b70fda552e4d9365", checked := Tryd.checked }
namespace Rows
def none {H : Type} : Left H := { results := [], args := [] }

/- WHAT THE LISTED PACKAGE-LEVEL VARIABLES READ AS WHEN THE CALL BEGINS. Each datum BY PROGRAM (the guide's laid-datum.mjs) off the statement by which the dump's own 'gosem.cut.vars' lays the variable. In a bare row this is a premise. The card (YtideppacnkilbaaDoorCards.lean) ties it to the program's text. -/
def laid_arlink_bind_strength {H : Type} : DataW H := .agg [.lit (.int .i64 0), .lit (.int .i64 3), .lit (.int .i64 1), .lit (.int .i64 2), .lit (.int .i64 0), .lit (.int .i64 0)]

/-- 'arlinklaw13.BindJoins': WHATEVER THE INPUT: true; the input reads as it did. -/
def bindJoinsSpec : ChangeSpec := { name := "bindJoins", fn := fun _ => fun
  | [d1, d2, d3] => { results := [.lit (.bool true)], args := [d1, d2, d3] }
  | _ => none }
def bindJoinsRow : OpenClaim := { program := "ytideppacnkilbaadoor", sum := "2770ddd6433e05bbdc2f45302040432a84f2a81303f3ed46b70fda552e4d9365", func := "arlink/arlinklaw13.BindJoins", spec := "bindJoins", named := ["arlink/bind.strength"], apart := false, laid := [("arlink/bind.strength", laid_arlink_bind_strength)] }
def BindJoinsSaid : Prop := bindJoinsRow.holds Tryd.pinned (OpenSpec.ofChange bindJoinsSpec)

/-- ITS FALSE NEIGHBOUR: 'it returns false'. Refute it at one input. -/
def bindJoinsWrong : ChangeSpec := { name := "bindJoins", fn := fun _ => fun
  | [d1, d2, d3] => { results := [.lit (.bool false)], args := [d1, d2, d3] }
  | _ => none }
def BindJoinsWrongFalsely : Prop := bindJoinsRow.holds Tryd.pinned (OpenSpec.ofChange bindJoinsWrong)

/-- 'arlinklaw13.BindGrows': WHATEVER THE INPUT: true; the input reads as it did. -/
def bindGrowsSpec : ChangeSpec := { name := "bindGrows", fn := fun _ => fun
  | [d1, d2] => { results := [.lit (.bool true)], args := [d1, d2] }
  | _ => none }
def bindGrowsRow : OpenClaim := { program := "ytideppacnkilbaadoor", sum := "2770ddd6433e05bbdc2f45302040432a84f2a81303f3ed46b70fda552e4d9365", func := "arlink/arlinklaw13.BindGrows", spec := "bindGrows", named := ["arlink/bind.strength"], apart := false, laid := [("arlink/bind.strength", laid_arlink_bind_strength)] }
def BindGrowsSaid : Prop := bindGrowsRow.holds Tryd.pinned (OpenSpec.ofChange bindGrowsSpec)

/-- ITS FALSE NEIGHBOUR: 'it returns false'. Refute it at one input. -/
def bindGrowsWrong : ChangeSpec := { name := "bindGrows", fn := fun _ => fun
  | [d1, d2] => { results := [.lit (.bool false)], args := [d1, d2] }
  | _ => none }
def BindGrowsWrongFalsely : Prop := bindGrowsRow.holds Tryd.pinned (OpenSpec.ofChange bindGrowsWrong)

/-- 'arlinklaw13.BindOrder': WHATEVER THE INPUT: true; the input reads as it did. -/
def bindOrderSpec : ChangeSpec := { name := "bindOrder", fn := fun _ => fun
  | [d1, d2] => { results := [.lit (.bool true)], args := [d1, d2] }
  | _ => none }
def bindOrderRow : OpenClaim := { program := "ytideppacnkilbaadoor", sum := "2770ddd6433e05bbdc2f45302040432a84f2a81303f3ed46b70fda552e4d9365", func := "arlink/arlinklaw13.BindOrder", spec := "bindOrder", named := ["arlink/bind.strength"], apart := false, laid := [("arlink/bind.strength", laid_arlink_bind_strength)] }
def BindOrderSaid : Prop := bindOrderRow.holds Tryd.pinned (OpenSpec.ofChange bindOrderSpec)

/-- ITS FALSE NEIGHBOUR: 'it returns false'. Refute it at one input. -/
def bindOrderWrong : ChangeSpec := { name := "bindOrder", fn := fun _ => fun
  | [d1, d2] => { results := [.lit (.bool false)], args := [d1, d2] }
  | _ => none }
def BindOrderWrongFalsely : Prop := bindOrderRow.holds Tryd.pinned (OpenSpec.ofChange bindOrderWrong)

/-- 'arlinklaw13.BindKeeps': WHATEVER THE INPUT: true; the input reads as it did. -/
def bindKeepsSpec : ChangeSpec := { name := "bindKeeps", fn := fun _ => fun
  | [d1, d2] => { results := [.lit (.bool true)], args := [d1, d2] }
  | _ => none }
def bindKeepsRow : OpenClaim := { program := "ytideppacnkilbaadoor", sum := "2770ddd6433e05bbdc2f45302040432a84f2a81303f3ed46b70fda552e4d9365", func := "arlink/arlinklaw13.BindKeeps", spec := "bindKeeps", named := ["arlink/bind.strength"], apart := false, laid := [("arlink/bind.strength", laid_arlink_bind_strength)] }
def BindKeepsSaid : Prop := bindKeepsRow.holds Tryd.pinned (OpenSpec.ofChange bindKeepsSpec)

/-- ITS FALSE NEIGHBOUR: 'it returns false'. Refute it at one input. -/
def bindKeepsWrong : ChangeSpec := { name := "bindKeeps", fn := fun _ => fun
  | [d1, d2] => { results := [.lit (.bool false)], args := [d1, d2] }
  | _ => none }
def BindKeepsWrongFalsely : Prop := bindKeepsRow.holds Tryd.pinned (OpenSpec.ofChange bindKeepsWrong)

/- THE SECOND FORM. 'bulk': how many values and letters a reading holds, each counted each time it is reached (what is shared counts as often as it is met; a slice's spare places count too). A statement '..UptoSaid' is the law's where the arguments, and the package variables that the reading takes, are together of bulk at most 1048576: NARROWER than '..Said'. Prove '..Said' where nothing that the law and all that it calls make is longer than what came in: it says more and counts as full. Else prove '..UptoSaid'. A law counts once. -/
mutual
def uptoBulk {H : Type} : DataW H → Nat
  | .lit (.string bytes) => bytes.length + 1
  | .lit _ => 1
  | .nil => 1
  | .ptr d => uptoBulk d + 1
  | .slice elems spare => uptoBulkAll elems + uptoBulkAll spare + 1
  | .agg parts => uptoBulkAll parts + 1
  | .iface _ d => uptoBulk d + 1
  | .map entries => uptoBulkEntries entries + 1
  | .held _ => 1
def uptoBulkAll {H : Type} : List (DataW H) → Nat
  | [] => 0
  | d :: r => uptoBulk d + uptoBulkAll r
def uptoBulkEntries {H : Type} : List (Lit × DataW H) → Nat
  | [] => 0
  | x :: r => uptoBulkEntry x + uptoBulkEntries r
def uptoBulkEntry {H : Type} : Lit × DataW H → Nat
  | (.string bytes, d) => bytes.length + uptoBulk d + 1
  | (_, d) => uptoBulk d + 1
 end
def uptoSmall : (H : Type) → List (DataW H) → Bool := fun _ ds => decide (uptoBulkAll ds ≤ 1048576)
def OpenSpec.upto (s : _root_.Go.ChangeSpec) : _root_.Go.OpenSpec := { _root_.Go.OpenSpec.ofChange s with cond := some uptoSmall }

/-- 'arlinklaw13.BindJoins', WHERE WHAT IT READS IS OF BULK AT MOST 1048576: true; the input reads as it did. -/
def bindJoinsUptoRow : OpenClaim := { program := "ytideppacnkilbaadoor", sum := "2770ddd6433e05bbdc2f45302040432a84f2a81303f3ed46b70fda552e4d9365", func := "arlink/arlinklaw13.BindJoins", spec := "bindJoins", named := ["arlink/bind.strength"], apart := false, laid := [("arlink/bind.strength", laid_arlink_bind_strength)], narrowed := true }
def BindJoinsUptoSaid : Prop := bindJoinsUptoRow.holds Tryd.pinned (OpenSpec.upto bindJoinsSpec)

/-- 'arlinklaw13.BindGrows', WHERE WHAT IT READS IS OF BULK AT MOST 1048576: true; the input reads as it did. -/
def bindGrowsUptoRow : OpenClaim := { program := "ytideppacnkilbaadoor", sum := "2770ddd6433e05bbdc2f45302040432a84f2a81303f3ed46b70fda552e4d9365", func := "arlink/arlinklaw13.BindGrows", spec := "bindGrows", named := ["arlink/bind.strength"], apart := false, laid := [("arlink/bind.strength", laid_arlink_bind_strength)], narrowed := true }
def BindGrowsUptoSaid : Prop := bindGrowsUptoRow.holds Tryd.pinned (OpenSpec.upto bindGrowsSpec)

/-- 'arlinklaw13.BindOrder', WHERE WHAT IT READS IS OF BULK AT MOST 1048576: true; the input reads as it did. -/
def bindOrderUptoRow : OpenClaim := { program := "ytideppacnkilbaadoor", sum := "2770ddd6433e05bbdc2f45302040432a84f2a81303f3ed46b70fda552e4d9365", func := "arlink/arlinklaw13.BindOrder", spec := "bindOrder", named := ["arlink/bind.strength"], apart := false, laid := [("arlink/bind.strength", laid_arlink_bind_strength)], narrowed := true }
def BindOrderUptoSaid : Prop := bindOrderUptoRow.holds Tryd.pinned (OpenSpec.upto bindOrderSpec)

/-- 'arlinklaw13.BindKeeps', WHERE WHAT IT READS IS OF BULK AT MOST 1048576: true; the input reads as it did. -/
def bindKeepsUptoRow : OpenClaim := { program := "ytideppacnkilbaadoor", sum := "2770ddd6433e05bbdc2f45302040432a84f2a81303f3ed46b70fda552e4d9365", func := "arlink/arlinklaw13.BindKeeps", spec := "bindKeeps", named := ["arlink/bind.strength"], apart := false, laid := [("arlink/bind.strength", laid_arlink_bind_strength)], narrowed := true }
def BindKeepsUptoSaid : Prop := bindKeepsUptoRow.holds Tryd.pinned (OpenSpec.upto bindKeepsSpec)

end Rows
end Go.Proofs.YtideppacnkilbaaDoor
