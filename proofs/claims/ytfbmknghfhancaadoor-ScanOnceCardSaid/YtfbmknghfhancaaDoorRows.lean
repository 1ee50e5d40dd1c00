/-
  NARROWER THAN 'FOR EVERY INPUT', by the rows' own cells (each row's printed sentence says how): GroupMaximal: laid · GroupKeeps: laid · GroupSingle: laid · GroupMore: laid · GroupMatchesReference: laid · ScanOnce: laid · ScanNothing: laid.
  DERIVED. THE GIVEN ROWS OF THIS SEAT. 7 by the template 'for every input the law returns true; each argument reads behind the call as it read before'; 0 by the template 'total and deterministic' (their statements: YtfbmknghfhancaaDoorTotals.lean).
  GIVEN WITH THE SEED: the statements are not yours to turn. If you find one false, say at which input.
  Laid BY PROGRAM, IN A SANDBOX (cutbox-rows.mjs): the forced cells as the released guide's own fill.sh prints them over the translation 3ebe2b8f62b8cc84… (all of the seat's roots in one cut). By AI agents, Wed Nov 11 2026. No macro, syntax, notation, axiom, sorry.
-/
import Derived.Test.YtfbmknghfhancaaDoorChecked
import GoSem.Claim
import GoSem.ClaimJoined
import GoSem.ClaimMapViews
import Derived.JoinedTies
import Derived.KernelRfl
namespace Go.Proofs.YtfbmknghfhancaaDoor
/- THE CELL 'sum', in the pinned program and in every row, IS THE sha256 OF THE DUMP (.gsa) THAT YtfbmknghfhancaaDoorProg.lean LOADS. Nothing in Lean hashes anything: it is a label: what it is worth is what the hold of that sum in a sandbox is worth. -/
noncomputable def Tryd.pinned : Pinned := { name := "ytfbmknghfhancaadoor", sum := "3ebe2b8f62b8cc8408c244f3ac2ac5a4df22b95ca2dc03886612b7e9ab52d08f", checked := Tryd.checked }
namespace Rows
def none {H : Type} : Left H := { results := [], args := [] }

/- WHAT THE LISTED PACKAGE-LEVEL VARIABLES READ AS WHEN THE CALL BEGINS. Each datum BY PROGRAM (the guide's laid-datum.mjs) off the statement by which the dump's own 'gosem.cut.vars' lays the variable. In a bare row this is a premise. The card (YtfbmknghfhancaaDoorCards.lean) ties it to the program's text. -/
def laid_arlink_bind_strength {H : Type} : DataW H := .agg [.lit (.int .i64 0), .lit (.int .i64 3), .lit (.int .i64 1), .lit (.int .i64 2), .lit (.int .i64 0), .lit (.int .i64 0)]

/-- 'arlinklaw20.GroupMaximal': WHATEVER THE INPUT: true; the input reads as it did. -/
def groupMaximalSpec : ChangeSpec := { name := "groupMaximal", fn := fun _ => fun
  | [d1, d2] => { results := [.lit (.bool true)], args := [d1, d2] }
  | _ => none }
def groupMaximalRow : OpenClaim := { program := "ytfbmknghfhancaadoor", sum := "3ebe2b8f62b8cc8408c244f3ac2ac5a4df22b95ca2dc03886612b7e9ab52d08f", func := "arlink/arlinklaw20.GroupMaximal", spec := "groupMaximal", inPlace := ["internal/bytealg.IndexByteString", "internal/bytealg.IndexString"], unfollowed := true, recurses := true, named := ["arlink/bind.strength", "internal/bytealg.MaxLen"], plainKeys := false, apart := false, laid := [("arlink/bind.strength", laid_arlink_bind_strength)] }
def GroupMaximalSaid : Prop := groupMaximalRow.holds Tryd.pinned (OpenSpec.ofChange groupMaximalSpec)

/-- ITS FALSE NEIGHBOUR: 'it returns false'. Refute it at one input. -/
def groupMaximalWrong : ChangeSpec := { name := "groupMaximal", fn := fun _ => fun
  | [d1, d2] => { results := [.lit (.bool false)], args := [d1, d2] }
  | _ => none }
def GroupMaximalWrongFalsely : Prop := groupMaximalRow.holds Tryd.pinned (OpenSpec.ofChange groupMaximalWrong)

/-- 'arlinklaw20.GroupKeeps': WHATEVER THE INPUT: true; the input reads as it did. -/
def groupKeepsSpec : ChangeSpec := { name := "groupKeeps", fn := fun _ => fun
  | [d1, d2] => { results := [.lit (.bool true)], args := [d1, d2] }
  | _ => none }
def groupKeepsRow : OpenClaim := { program := "ytfbmknghfhancaadoor", sum := "3ebe2b8f62b8cc8408c244f3ac2ac5a4df22b95ca2dc03886612b7e9ab52d08f", func := "arlink/arlinklaw20.GroupKeeps", spec := "groupKeeps", inPlace := ["internal/bytealg.IndexByteString", "internal/bytealg.IndexString"], unfollowed := true, recurses := true, named := ["arlink/bind.strength", "internal/bytealg.MaxLen"], plainKeys := false, apart := false, laid := [("arlink/bind.strength", laid_arlink_bind_strength)] }
def GroupKeepsSaid : Prop := groupKeepsRow.holds Tryd.pinned (OpenSpec.ofChange groupKeepsSpec)

/-- ITS FALSE NEIGHBOUR: 'it returns false'. Refute it at one input. -/
def groupKeepsWrong : ChangeSpec := { name := "groupKeeps", fn := fun _ => fun
  | [d1, d2] => { results := [.lit (.bool false)], args := [d1, d2] }
  | _ => none }
def GroupKeepsWrongFalsely : Prop := groupKeepsRow.holds Tryd.pinned (OpenSpec.ofChange groupKeepsWrong)

/-- 'arlinklaw20.GroupSingle': WHATEVER THE INPUT: true; the input reads as it did. -/
def groupSingleSpec : ChangeSpec := { name := "groupSingle", fn := fun _ => fun
  | [d1, d2] => { results := [.lit (.bool true)], args := [d1, d2] }
  | _ => none }
def groupSingleRow : OpenClaim := { program := "ytfbmknghfhancaadoor", sum := "3ebe2b8f62b8cc8408c244f3ac2ac5a4df22b95ca2dc03886612b7e9ab52d08f", func := "arlink/arlinklaw20.GroupSingle", spec := "groupSingle", inPlace := ["internal/bytealg.IndexByteString", "internal/bytealg.IndexString"], unfollowed := true, recurses := true, named := ["arlink/bind.strength", "internal/bytealg.MaxLen"], plainKeys := false, apart := false, laid := [("arlink/bind.strength", laid_arlink_bind_strength)] }
def GroupSingleSaid : Prop := groupSingleRow.holds Tryd.pinned (OpenSpec.ofChange groupSingleSpec)

/-- ITS FALSE NEIGHBOUR: 'it returns false'. Refute it at one input. -/
def groupSingleWrong : ChangeSpec := { name := "groupSingle", fn := fun _ => fun
  | [d1, d2] => { results := [.lit (.bool false)], args := [d1, d2] }
  | _ => none }
def GroupSingleWrongFalsely : Prop := groupSingleRow.holds Tryd.pinned (OpenSpec.ofChange groupSingleWrong)

/-- 'arlinklaw20.GroupMore': WHATEVER THE INPUT: true; the input reads as it did. -/
def groupMoreSpec : ChangeSpec := { name := "groupMore", fn := fun _ => fun
  | [d1, d2] => { results := [.lit (.bool true)], args := [d1, d2] }
  | _ => none }
def groupMoreRow : OpenClaim := { program := "ytfbmknghfhancaadoor", sum := "3ebe2b8f62b8cc8408c244f3ac2ac5a4df22b95ca2dc03886612b7e9ab52d08f", func := "arlink/arlinklaw20.GroupMore", spec := "groupMore", inPlace := ["internal/bytealg.IndexByteString", "internal/bytealg.IndexString"], unfollowed := true, recurses := true, named := ["arlink/bind.strength", "internal/bytealg.MaxLen"], plainKeys := false, apart := false, laid := [("arlink/bind.strength", laid_arlink_bind_strength)] }
def GroupMoreSaid : Prop := groupMoreRow.holds Tryd.pinned (OpenSpec.ofChange groupMoreSpec)

/-- ITS FALSE NEIGHBOUR: 'it returns false'. Refute it at one input. -/
def groupMoreWrong : ChangeSpec := { name := "groupMore", fn := fun _ => fun
  | [d1, d2] => { results := [.lit (.bool false)], args := [d1, d2] }
  | _ => none }
def GroupMoreWrongFalsely : Prop := groupMoreRow.holds Tryd.pinned (OpenSpec.ofChange groupMoreWrong)

/-- 'arlinklaw20.GroupMatchesReference': WHATEVER THE INPUT: true; the input reads as it did. -/
def groupMatchesReferenceSpec : ChangeSpec := { name := "groupMatchesReference", fn := fun _ => fun
  | [d1, d2] => { results := [.lit (.bool true)], args := [d1, d2] }
  | _ => none }
def groupMatchesReferenceRow : OpenClaim := { program := "ytfbmknghfhancaadoor", sum := "3ebe2b8f62b8cc8408c244f3ac2ac5a4df22b95ca2dc03886612b7e9ab52d08f", func := "arlink/arlinklaw20.GroupMatchesReference", spec := "groupMatchesReference", inPlace := ["internal/bytealg.IndexByteString", "internal/bytealg.IndexString"], unfollowed := true, recurses := true, named := ["arlink/bind.strength", "internal/bytealg.MaxLen"], plainKeys := false, apart := false, laid := [("arlink/bind.strength", laid_arlink_bind_strength)] }
def GroupMatchesReferenceSaid : Prop := groupMatchesReferenceRow.holds Tryd.pinned (OpenSpec.ofChange groupMatchesReferenceSpec)

/-- ITS FALSE NEIGHBOUR: 'it returns false'. Refute it at one input. -/
def groupMatchesReferenceWrong : ChangeSpec := { name := "groupMatchesReference", fn := fun _ => fun
  | [d1, d2] => { results := [.lit (.bool false)], args := [d1, d2] }
  | _ => none }
def GroupMatchesReferenceWrongFalsely : Prop := groupMatchesReferenceRow.holds Tryd.pinned (OpenSpec.ofChange groupMatchesReferenceWrong)

/-- 'arlinklaw19.ScanOnce': WHATEVER THE INPUT: true; the input reads as it did. -/
def scanOnceSpec : ChangeSpec := { name := "scanOnce", fn := fun _ => fun
  | [d1, d2] => { results := [.lit (.bool true)], args := [d1, d2] }
  | _ => none }
def scanOnceRow : OpenClaim := { program := "ytfbmknghfhancaadoor", sum := "3ebe2b8f62b8cc8408c244f3ac2ac5a4df22b95ca2dc03886612b7e9ab52d08f", func := "arlink/arlinklaw19.ScanOnce", spec := "scanOnce", inPlace := ["internal/bytealg.IndexByteString", "internal/bytealg.IndexString"], unfollowed := true, recurses := true, named := ["arlink/bind.strength", "internal/bytealg.MaxLen"], plainKeys := false, apart := false, laid := [("arlink/bind.strength", laid_arlink_bind_strength)] }
def ScanOnceSaid : Prop := scanOnceRow.holds Tryd.pinned (OpenSpec.ofChange scanOnceSpec)

/-- ITS FALSE NEIGHBOUR: 'it returns false'. Refute it at one input. -/
def scanOnceWrong : ChangeSpec := { name := "scanOnce", fn := fun _ => fun
  | [d1, d2] => { results := [.lit (.bool false)], args := [d1, d2] }
  | _ => none }
def ScanOnceWrongFalsely : Prop := scanOnceRow.holds Tryd.pinned (OpenSpec.ofChange scanOnceWrong)

/-- 'arlinklaw19.ScanNothing': WHATEVER THE INPUT: true; the input reads as it did. -/
def scanNothingSpec : ChangeSpec := { name := "scanNothing", fn := fun _ => fun
  | [d1, d2] => { results := [.lit (.bool true)], args := [d1, d2] }
  | _ => none }
def scanNothingRow : OpenClaim := { program := "ytfbmknghfhancaadoor", sum := "3ebe2b8f62b8cc8408c244f3ac2ac5a4df22b95ca2dc03886612b7e9ab52d08f", func := "arlink/arlinklaw19.ScanNothing", spec := "scanNothing", inPlace := ["internal/bytealg.IndexByteString", "internal/bytealg.IndexString"], unfollowed := true, recurses := true, named := ["arlink/bind.strength", "internal/bytealg.MaxLen"], plainKeys := false, apart := false, laid := [("arlink/bind.strength", laid_arlink_bind_strength)] }
def ScanNothingSaid : Prop := scanNothingRow.holds Tryd.pinned (OpenSpec.ofChange scanNothingSpec)

/-- ITS FALSE NEIGHBOUR: 'it returns false'. Refute it at one input. -/
def scanNothingWrong : ChangeSpec := { name := "scanNothing", fn := fun _ => fun
  | [d1, d2] => { results := [.lit (.bool false)], args := [d1, d2] }
  | _ => none }
def ScanNothingWrongFalsely : Prop := scanNothingRow.holds Tryd.pinned (OpenSpec.ofChange scanNothingWrong)

/- THE SECOND FORM. 'bulk': how many values and letters a reading holds, each counted each time it is reached (what is shared counts as often as it is met; a slice's spare places count too). A statement '..UptoSaid' is the law's where the arguments, and the package variables that the reading takes, are together of bulk at most 1048576: NARROWER than '..Said'. Prove '..Said' where nothing that the law and all that it calls make is longer than what came in: it says more and counts as full. Else prove '..UptoSaid'. A law counts once. -/
mutual
def uptoBulk {H : Type} : DataW H → Nat
  | .lit (.string bytes) => bytes.length + 1
  | .lit _ => 1
  | .nil => 1
  | .ptr d => uptoBulk d + 1
  | .slice elems spare => uptoBulkAll elems + uptoBulkAll spare + 1
  | .agg parts => uptoBulkAll parts + 1
  | .iface _ d => uptoBulk d + 1
  | .map entries => uptoBulkEntries entries + 1
  | .held _ => 1
def uptoBulkAll {H : Type} : List (DataW H) → Nat
  | [] => 0
  | d :: r => uptoBulk d + uptoBulkAll r
def uptoBulkEntries {H : Type} : List (Lit × DataW H) → Nat
  | [] => 0
  | x :: r => uptoBulkEntry x + uptoBulkEntries r
def uptoBulkEntry {H : Type} : Lit × DataW H → Nat
  | (.string bytes, d) => bytes.length + uptoBulk d + 1
  | (_, d) => uptoBulk d + 1
 end
def uptoSmall : (H : Type) → List (DataW H) → Bool := fun _ ds => decide (uptoBulkAll ds ≤ 1048576)
def OpenSpec.upto (s : _root_.Go.ChangeSpec) : _root_.Go.OpenSpec := { _root_.Go.OpenSpec.ofChange s with cond := some uptoSmall }

/-- 'arlinklaw20.GroupMaximal', WHERE WHAT IT READS IS OF BULK AT MOST 1048576: true; the input reads as it did. -/
def groupMaximalUptoRow : OpenClaim := { program := "ytfbmknghfhancaadoor", sum := "3ebe2b8f62b8cc8408c244f3ac2ac5a4df22b95ca2dc03886612b7e9ab52d08f", func := "arlink/arlinklaw20.GroupMaximal", spec := "groupMaximal", inPlace := ["internal/bytealg.IndexByteString", "internal/bytealg.IndexString"], unfollowed := true, recurses := true, named := ["arlink/bind.strength", "internal/bytealg.MaxLen"], plainKeys := false, apart := false, laid := [("arlink/bind.strength", laid_arlink_bind_strength)], narrowed := true }
def GroupMaximalUptoSaid : Prop := groupMaximalUptoRow.holds Tryd.pinned (OpenSpec.upto groupMaximalSpec)

/-- 'arlinklaw20.GroupKeeps', WHERE WHAT IT READS IS OF BULK AT MOST 1048576: true; the input reads as it did. -/
def groupKeepsUptoRow : OpenClaim := { program := "ytfbmknghfhancaadoor", sum := "3ebe2b8f62b8cc8408c244f3ac2ac5a4df22b95ca2dc03886612b7e9ab52d08f", func := "arlink/arlinklaw20.GroupKeeps", spec := "groupKeeps", inPlace := ["internal/bytealg.IndexByteString", "internal/bytealg.IndexString"], unfollowed := true, recurses := true, named := ["arlink/bind.strength", "internal/bytealg.MaxLen"], plainKeys := false, apart := false, laid := [("arlink/bind.strength", laid_arlink_bind_strength)], narrowed := true }
def GroupKeepsUptoSaid : Prop := groupKeepsUptoRow.holds Tryd.pinned (OpenSpec.upto groupKeepsSpec)

/-- 'arlinklaw20.GroupSingle', WHERE WHAT IT READS IS OF BULK AT MOST 1048576: true; the input reads as it did. -/
def groupSingleUptoRow : OpenClaim := { program := "ytfbmknghfhancaadoor", sum := "3ebe2b8f62b8cc8408c244f3ac2ac5a4df22b95ca2dc03886612b7e9ab52d08f", func := "arlink/arlinklaw20.GroupSingle", spec := "groupSingle", inPlace := ["internal/bytealg.IndexByteString", "internal/bytealg.IndexString"], unfollowed := true, recurses := true, named := ["arlink/bind.strength", "internal/bytealg.MaxLen"], plainKeys := false, apart := false, laid := [("arlink/bind.strength", laid_arlink_bind_strength)], narrowed := true }
def GroupSingleUptoSaid : Prop := groupSingleUptoRow.holds Tryd.pinned (OpenSpec.upto groupSingleSpec)

/-- 'arlinklaw20.GroupMore', WHERE WHAT IT READS IS OF BULK AT MOST 1048576: true; the input reads as it did. -/
def groupMoreUptoRow : OpenClaim := { program := "ytfbmknghfhancaadoor", sum := "3ebe2b8f62b8cc8408c244f3ac2ac5a4df22b95ca2dc03886612b7e9ab52d08f", func := "arlink/arlinklaw20.GroupMore", spec := "groupMore", inPlace := ["internal/bytealg.IndexByteString", "internal/bytealg.IndexString"], unfollowed := true, recurses := true, named := ["arlink/bind.strength", "internal/bytealg.MaxLen"], plainKeys := false, apart := false, laid := [("arlink/bind.strength", laid_arlink_bind_strength)], narrowed := true }
def GroupMoreUptoSaid : Prop := groupMoreUptoRow.holds Tryd.pinned (OpenSpec.upto groupMoreSpec)

/-- 'arlinklaw20.GroupMatchesReference', WHERE WHAT IT READS IS OF BULK AT MOST 1048576: true; the input reads as it did. -/
def groupMatchesReferenceUptoRow : OpenClaim := { program := "ytfbmknghfhancaadoor", sum := "3ebe2b8f62b8cc8408c244f3ac2ac5a4df22b95ca2dc03886612b7e9ab52d08f", func := "arlink/arlinklaw20.GroupMatchesReference", spec := "groupMatchesReference", inPlace := ["internal/bytealg.IndexByteString", "internal/bytealg.IndexString"], unfollowed := true, recurses := true, named := ["arlink/bind.strength", "internal/bytealg.MaxLen"], plainKeys := false, apart := false, laid := [("arlink/bind.strength", laid_arlink_bind_strength)], narrowed := true }
def GroupMatchesReferenceUptoSaid : Prop := groupMatchesReferenceUptoRow.holds Tryd.pinned (OpenSpec.upto groupMatchesReferenceSpec)

/-- 'arlinklaw19.ScanOnce', WHERE WHAT IT READS IS OF BULK AT MOST 1048576: true; the input reads as it did. -/
def scanOnceUptoRow : OpenClaim := { program := "ytfbmknghfhancaadoor", sum := "3ebe2b8f62b8cc8408c244f3ac2ac5a4df22b95ca2dc03886612b7e9ab52d08f", func := "arlink/arlinklaw19.ScanOnce", spec := "scanOnce", inPlace := ["internal/bytealg.IndexByteString", "internal/bytealg.IndexString"], unfollowed := true, recurses := true, named := ["arlink/bind.strength", "internal/bytealg.MaxLen"], plainKeys := false, apart := false, laid := [("arlink/bind.strength", laid_arlink_bind_strength)], narrowed := true }
def ScanOnceUptoSaid : Prop := scanOnceUptoRow.holds Tryd.pinned (OpenSpec.upto scanOnceSpec)

/-- 'arlinklaw19.ScanNothing', WHERE WHAT IT READS IS OF BULK AT MOST 1048576: true; the input reads as it did. -/
def scanNothingUptoRow : OpenClaim := { program := "ytfbmknghfhancaadoor", sum := "3ebe2b8f62b8cc8408c244f3ac2ac5a4df22b95ca2dc03886612b7e9ab52d08f", func := "arlink/arlinklaw19.ScanNothing", spec := "scanNothing", inPlace := ["internal/bytealg.IndexByteString", "internal/bytealg.IndexString"], unfollowed := true, recurses := true, named := ["arlink/bind.strength", "internal/bytealg.MaxLen"], plainKeys := false, apart := false, laid := [("arlink/bind.strength", laid_arlink_bind_strength)], narrowed := true }
def ScanNothingUptoSaid : Prop := scanNothingUptoRow.holds Tryd.pinned (OpenSpec.upto scanNothingSpec)

end Rows
end Go.Proofs.YtfbmknghfhancaaDoor
