/-
  NARROWER THAN 'FOR EVERY INPUT', by the rows' own cells (each row's printed sentence says how): ScanMaximal: laid · ScanKeeps: laid · ScanMatchesReference: laid.
  DERIVED. THE GIVEN ROWS OF THIS SEAT. 3 by the template 'for every input the law returns true; each argument reads behind the call as it read before'; 0 by the template 'total and deterministic' (their statements: YtfbmknghfhancaaGreatDoorTotals.lean).
  GIVEN WITH THE SEED: the statements are not yours to turn. If you find one false, say at which input.
  Laid BY PROGRAM, IN A SANDBOX (cutbox-rows.mjs): the forced cells as the released guide's own fill.sh prints them over the translation 3b409ce280712181… (all of the seat's roots in one cut). By AI agents, Wed Nov 11 2026. No macro, syntax, notation, axiom, sorry.
-/
import Derived.Test.YtfbmknghfhancaaGreatDoorChecked
import GoSem.Claim
import GoSem.ClaimJoined
import GoSem.ClaimMapViews
import Derived.JoinedTies
import Derived.KernelRfl
namespace Go.Proofs.YtfbmknghfhancaaGreatDoor
/- THE CELL 'sum', in the pinned program and in every row, IS THE sha256 OF THE DUMP (.gsa) THAT YtfbmknghfhancaaGreatDoorProg.lean LOADS. Nothing in Lean hashes anything: it is a label: what it is worth is what the hold of that sum in a sandbox is worth. -/
noncomputable def Tryz.pinned : Pinned := { name := "ytfbmknghfhancaagreatdoor", sum := "3b409ce280712181b30678e11d20afea403002922a2bb450b115ab0eab1644d9", checked := Tryz.checked }
namespace Rows
def none {H : Type} : Left H := { results := [], args := [] }

/- WHAT THE LISTED PACKAGE-LEVEL VARIABLES READ AS WHEN THE CALL BEGINS. Each datum BY PROGRAM (the guide's laid-datum.mjs) off the statement by which the dump's own 'gosem.cut.vars' lays the variable. In a bare row this is a premise. The card (YtfbmknghfhancaaGreatDoorCards.lean) ties it to the program's text. -/
def laid_arlink_bind_strength {H : Type} : DataW H := .agg [.lit (.int .i64 0), .lit (.int .i64 3), .lit (.int .i64 1), .lit (.int .i64 2), .lit (.int .i64 0), .lit (.int .i64 0)]

/-- 'arlinklaw19.ScanMaximal': WHATEVER THE INPUT: true; the input reads as it did. -/
def scanMaximalSpec : ChangeSpec := { name := "scanMaximal", fn := fun _ => fun
  | [d1, d2] => { results := [.lit (.bool true)], args := [d1, d2] }
  | _ => none }
def scanMaximalRow : OpenClaim := { program := "ytfbmknghfhancaagreatdoor", sum := "3b409ce280712181b30678e11d20afea403002922a2bb450b115ab0eab1644d9", func := "arlink/arlinklaw19.ScanMaximal", spec := "scanMaximal", inPlace := ["internal/bytealg.IndexByteString", "internal/bytealg.IndexString"], unfollowed := true, recurses := true, named := ["arlink/bind.strength", "internal/bytealg.MaxLen"], plainKeys := false, apart := false, laid := [("arlink/bind.strength", laid_arlink_bind_strength)] }
def ScanMaximalSaid : Prop := scanMaximalRow.holds Tryz.pinned (OpenSpec.ofChange scanMaximalSpec)

/-- ITS FALSE NEIGHBOUR: 'it returns false'. Refute it at one input. -/
def scanMaximalWrong : ChangeSpec := { name := "scanMaximal", fn := fun _ => fun
  | [d1, d2] => { results := [.lit (.bool false)], args := [d1, d2] }
  | _ => none }
def ScanMaximalWrongFalsely : Prop := scanMaximalRow.holds Tryz.pinned (OpenSpec.ofChange scanMaximalWrong)

/-- 'arlinklaw19.ScanKeeps': WHATEVER THE INPUT: true; the input reads as it did. -/
def scanKeepsSpec : ChangeSpec := { name := "scanKeeps", fn := fun _ => fun
  | [d1, d2] => { results := [.lit (.bool true)], args := [d1, d2] }
  | _ => none }
def scanKeepsRow : OpenClaim := { program := "ytfbmknghfhancaagreatdoor", sum := "3b409ce280712181b30678e11d20afea403002922a2bb450b115ab0eab1644d9", func := "arlink/arlinklaw19.ScanKeeps", spec := "scanKeeps", inPlace := ["internal/bytealg.IndexByteString", "internal/bytealg.IndexString"], unfollowed := true, recurses := true, named := ["arlink/bind.strength", "internal/bytealg.MaxLen"], plainKeys := false, apart := false, laid := [("arlink/bind.strength", laid_arlink_bind_strength)] }
def ScanKeepsSaid : Prop := scanKeepsRow.holds Tryz.pinned (OpenSpec.ofChange scanKeepsSpec)

/-- ITS FALSE NEIGHBOUR: 'it returns false'. Refute it at one input. -/
def scanKeepsWrong : ChangeSpec := { name := "scanKeeps", fn := fun _ => fun
  | [d1, d2] => { results := [.lit (.bool false)], args := [d1, d2] }
  | _ => none }
def ScanKeepsWrongFalsely : Prop := scanKeepsRow.holds Tryz.pinned (OpenSpec.ofChange scanKeepsWrong)

/-- 'arlinklaw19.ScanMatchesReference': WHATEVER THE INPUT: true; the input reads as it did. -/
def scanMatchesReferenceSpec : ChangeSpec := { name := "scanMatchesReference", fn := fun _ => fun
  | [d1, d2, d3] => { results := [.lit (.bool true)], args := [d1, d2, d3] }
  | _ => none }
def scanMatchesReferenceRow : OpenClaim := { program := "ytfbmknghfhancaagreatdoor", sum := "3b409ce280712181b30678e11d20afea403002922a2bb450b115ab0eab1644d9", func := "arlink/arlinklaw19.ScanMatchesReference", spec := "scanMatchesReference", inPlace := ["internal/bytealg.IndexByteString", "internal/bytealg.IndexString"], unfollowed := true, recurses := true, named := ["arlink/bind.strength", "internal/bytealg.MaxLen"], plainKeys := false, apart := false, laid := [("arlink/bind.strength", laid_arlink_bind_strength)] }
def ScanMatchesReferenceSaid : Prop := scanMatchesReferenceRow.holds Tryz.pinned (OpenSpec.ofChange scanMatchesReferenceSpec)

/-- ITS FALSE NEIGHBOUR: 'it returns false'. Refute it at one input. -/
def scanMatchesReferenceWrong : ChangeSpec := { name := "scanMatchesReference", fn := fun _ => fun
  | [d1, d2, d3] => { results := [.lit (.bool false)], args := [d1, d2, d3] }
  | _ => none }
def ScanMatchesReferenceWrongFalsely : Prop := scanMatchesReferenceRow.holds Tryz.pinned (OpenSpec.ofChange scanMatchesReferenceWrong)

/- THE SECOND FORM. 'bulk': how many values and letters a reading holds, each counted each time it is reached (what is shared counts as often as it is met; a slice's spare places count too). A statement '..UptoSaid' is the law's where the arguments, and the package variables that the reading takes, are together of bulk at most 1048576: NARROWER than '..Said'. Prove '..Said' where nothing that the law and all that it calls make is longer than what came in: it says more and counts as full. Else prove '..UptoSaid'. A law counts once. -/
mutual
def uptoBulk {H : Type} : DataW H → Nat
  | .lit (.string bytes) => bytes.length + 1
  | .lit _ => 1
  | .nil => 1
  | .ptr d => uptoBulk d + 1
  | .slice elems spare => uptoBulkAll elems + uptoBulkAll spare + 1
  | .agg parts => uptoBulkAll parts + 1
  | .iface _ d => uptoBulk d + 1
  | .map entries => uptoBulkEntries entries + 1
  | .held _ => 1
def uptoBulkAll {H : Type} : List (DataW H) → Nat
  | [] => 0
  | d :: r => uptoBulk d + uptoBulkAll r
def uptoBulkEntries {H : Type} : List (Lit × DataW H) → Nat
  | [] => 0
  | x :: r => uptoBulkEntry x + uptoBulkEntries r
def uptoBulkEntry {H : Type} : Lit × DataW H → Nat
  | (.string bytes, d) => bytes.length + uptoBulk d + 1
  | (_, d) => uptoBulk d + 1
 end
def uptoSmall : (H : Type) → List (DataW H) → Bool := fun _ ds => decide (uptoBulkAll ds ≤ 1048576)
def OpenSpec.upto (s : _root_.Go.ChangeSpec) : _root_.Go.OpenSpec := { _root_.Go.OpenSpec.ofChange s with cond := some uptoSmall }

/-- 'arlinklaw19.ScanMaximal', WHERE WHAT IT READS IS OF BULK AT MOST 1048576: true; the input reads as it did. -/
def scanMaximalUptoRow : OpenClaim := { program := "ytfbmknghfhancaagreatdoor", sum := "3b409ce280712181b30678e11d20afea403002922a2bb450b115ab0eab1644d9", func := "arlink/arlinklaw19.ScanMaximal", spec := "scanMaximal", inPlace := ["internal/bytealg.IndexByteString", "internal/bytealg.IndexString"], unfollowed := true, recurses := true, named := ["arlink/bind.strength", "internal/bytealg.MaxLen"], plainKeys := false, apart := false, laid := [("arlink/bind.strength", laid_arlink_bind_strength)], narrowed := true }
def ScanMaximalUptoSaid : Prop := scanMaximalUptoRow.holds Tryz.pinned (OpenSpec.upto scanMaximalSpec)

/-- 'arlinklaw19.ScanKeeps', WHERE WHAT IT READS IS OF BULK AT MOST 1048576: true; the input reads as it did. -/
def scanKeepsUptoRow : OpenClaim := { program := "ytfbmknghfhancaagreatdoor", sum := "3b409ce280712181b30678e11d20afea403002922a2bb450b115ab0eab1644d9", func := "arlink/arlinklaw19.ScanKeeps", spec := "scanKeeps", inPlace := ["internal/bytealg.IndexByteString", "internal/bytealg.IndexString"], unfollowed := true, recurses := true, named := ["arlink/bind.strength", "internal/bytealg.MaxLen"], plainKeys := false, apart := false, laid := [("arlink/bind.strength", laid_arlink_bind_strength)], narrowed := true }
def ScanKeepsUptoSaid : Prop := scanKeepsUptoRow.holds Tryz.pinned (OpenSpec.upto scanKeepsSpec)

/-- 'arlinklaw19.ScanMatchesReference', WHERE WHAT IT READS IS OF BULK AT MOST 1048576: true; the input reads as it did. -/
def scanMatchesReferenceUptoRow : OpenClaim := { program := "ytfbmknghfhancaagreatdoor", sum := "3b409ce280712181b30678e11d20afea403002922a2bb450b115ab0eab1644d9", func := "arlink/arlinklaw19.ScanMatchesReference", spec := "scanMatchesReference", inPlace := ["internal/bytealg.IndexByteString", "internal/bytealg.IndexString"], unfollowed := true, recurses := true, named := ["arlink/bind.strength", "internal/bytealg.MaxLen"], plainKeys := false, apart := false, laid := [("arlink/bind.strength", laid_arlink_bind_strength)], narrowed := true }
def ScanMatchesReferenceUptoSaid : Prop := scanMatchesReferenceUptoRow.holds Tryz.pinned (OpenSpec.upto scanMatchesReferenceSpec)

end Rows
end Go.Proofs.YtfbmknghfhancaaGreatDoor
