/-
  NARROWER THAN 'FOR EVERY INPUT', by the rows' own cells (each row's printed sentence says how): ConsistMatchesReference: laid · ConsistComplete: laid · ConsistDamaged: laid · ConsistKeeps: laid · ConsistRestored: laid.
  DERIVED. THE GIVEN ROWS OF THIS SEAT. 5 by the template 'for every input the law returns true; each argument reads behind the call as it read before'; 0 by the template 'total and deterministic' (their statements: YtenbpnlmpjndgaaGreatDoorTotals.lean).
  GIVEN WITH THE SEED: the statements are not yours to turn. If you find one false, say at which input.
  Laid BY PROGRAM, IN A SANDBOX (cutbox-rows.mjs): the forced cells as the released guide's own fill.sh prints them over the translation 84655da1300496c9… (all of the seat's roots in one cut). By AI agents, Wed Nov 11 2026. No macro, syntax, notation, axiom, sorry.
-/
import Derived.Test.YtenbpnlmpjndgaaGreatDoorChecked
import GoSem.PinnedTables
import GoSem.Claim
import GoSem.ClaimJoined
import GoSem.ClaimMapViews
import Derived.JoinedTies
import Derived.KernelRfl
namespace Go.Proofs.YtenbpnlmpjndgaaGreatDoor
/- THE CELL 'sum', in the pinned program and in every row, IS THE sha256 OF THE DUMP (.gsa) THAT YtenbpnlmpjndgaaGreatDoorProg.lean LOADS. Nothing in Lean hashes anything: it is a label: what it is worth is what the hold of that sum in a sandbox is worth. -/
noncomputable def Tryz.pinned : Pinned := { name := "ytenbpnlmpjndgaagreatdoor", sum := "84655da1300496c9ce76b0e153c3b10525540c0af91dcc67432a3c1602edf127", checked := Tryz.checked }
namespace Rows
def none {H : Type} : Left H := { results := [], args := [] }

/- WHAT THE LISTED PACKAGE-LEVEL VARIABLES READ AS WHEN THE CALL BEGINS. Each datum BY PROGRAM (the guide's laid-datum.mjs) off the statement by which the dump's own 'gosem.cut.vars' lays the variable. In a bare row this is a premise. The card (YtenbpnlmpjndgaaGreatDoorCards.lean) ties it to the program's text. -/
def laid_unicode_utf8_acceptRanges {H : Type} : DataW H := .agg [.agg [.lit (.int .u8 128), .lit (.int .u8 191)], .agg [.lit (.int .u8 160), .lit (.int .u8 191)], .agg [.lit (.int .u8 128), .lit (.int .u8 159)], .agg [.lit (.int .u8 144), .lit (.int .u8 191)], .agg [.lit (.int .u8 128), .lit (.int .u8 143)], .agg [.lit (.int .u8 0), .lit (.int .u8 0)], .agg [.lit (.int .u8 0), .lit (.int .u8 0)], .agg [.lit (.int .u8 0), .lit (.int .u8 0)], .agg [.lit (.int .u8 0), .lit (.int .u8 0)], .agg [.lit (.int .u8 0), .lit (.int .u8 0)], .agg [.lit (.int .u8 0), .lit (.int .u8 0)], .agg [.lit (.int .u8 0), .lit (.int .u8 0)], .agg [.lit (.int .u8 0), .lit (.int .u8 0)], .agg [.lit (.int .u8 0), .lit (.int .u8 0)], .agg [.lit (.int .u8 0), .lit (.int .u8 0)], .agg [.lit (.int .u8 0), .lit (.int .u8 0)]]
/-- One of Go's own tables, pinned by name: the form's constant. -/
def laid_unicode_utf8_first : DataW Unit := Go.Pinned.utf8First

/-- 'arlinklaw09.ConsistMatchesReference': WHATEVER THE INPUT: true; the input reads as it did. -/
def consistMatchesReferenceSpec : ChangeSpec := { name := "consistMatchesReference", fn := fun _ => fun
  | [d] => { results := [.lit (.bool true)], args := [d] }
  | _ => none }
def consistMatchesReferenceRow : OpenClaim := { program := "ytenbpnlmpjndgaagreatdoor", sum := "84655da1300496c9ce76b0e153c3b10525540c0af91dcc67432a3c1602edf127", func := "arlink/arlinklaw09.ConsistMatchesReference", spec := "consistMatchesReference", inPlace := ["internal/bytealg.IndexByteString", "internal/bytealg.IndexString", "internal/bytealg.IndexByte", "internal/bytealg.Index"], unfollowed := true, recurses := true, named := ["unicode/utf8.first", "unicode/utf8.acceptRanges", "internal/bytealg.MaxLen"], apart := false, laid := [("unicode/utf8.acceptRanges", laid_unicode_utf8_acceptRanges), ("unicode/utf8.first", laid_unicode_utf8_first)] }
def ConsistMatchesReferenceSaid : Prop := consistMatchesReferenceRow.holds Tryz.pinned (OpenSpec.ofChange consistMatchesReferenceSpec)

/-- ITS FALSE NEIGHBOUR: 'it returns false'. Refute it at one input. -/
def consistMatchesReferenceWrong : ChangeSpec := { name := "consistMatchesReference", fn := fun _ => fun
  | [d] => { results := [.lit (.bool false)], args := [d] }
  | _ => none }
def ConsistMatchesReferenceWrongFalsely : Prop := consistMatchesReferenceRow.holds Tryz.pinned (OpenSpec.ofChange consistMatchesReferenceWrong)

/-- 'arlinklaw09.ConsistComplete': WHATEVER THE INPUT: true; the input reads as it did. -/
def consistCompleteSpec : ChangeSpec := { name := "consistComplete", fn := fun _ => fun
  | [d1, d2] => { results := [.lit (.bool true)], args := [d1, d2] }
  | _ => none }
def consistCompleteRow : OpenClaim := { program := "ytenbpnlmpjndgaagreatdoor", sum := "84655da1300496c9ce76b0e153c3b10525540c0af91dcc67432a3c1602edf127", func := "arlink/arlinklaw09.ConsistComplete", spec := "consistComplete", inPlace := ["internal/bytealg.IndexByteString", "internal/bytealg.IndexString", "internal/bytealg.IndexByte", "internal/bytealg.Index"], unfollowed := true, recurses := true, named := ["unicode/utf8.first", "unicode/utf8.acceptRanges", "internal/bytealg.MaxLen"], apart := false, laid := [("unicode/utf8.acceptRanges", laid_unicode_utf8_acceptRanges), ("unicode/utf8.first", laid_unicode_utf8_first)] }
def ConsistCompleteSaid : Prop := consistCompleteRow.holds Tryz.pinned (OpenSpec.ofChange consistCompleteSpec)

/-- ITS FALSE NEIGHBOUR: 'it returns false'. Refute it at one input. -/
def consistCompleteWrong : ChangeSpec := { name := "consistComplete", fn := fun _ => fun
  | [d1, d2] => { results := [.lit (.bool false)], args := [d1, d2] }
  | _ => none }
def ConsistCompleteWrongFalsely : Prop := consistCompleteRow.holds Tryz.pinned (OpenSpec.ofChange consistCompleteWrong)

/-- 'arlinklaw09.ConsistDamaged': WHATEVER THE INPUT: true; the input reads as it did. -/
def consistDamagedSpec : ChangeSpec := { name := "consistDamaged", fn := fun _ => fun
  | [d1, d2] => { results := [.lit (.bool true)], args := [d1, d2] }
  | _ => none }
def consistDamagedRow : OpenClaim := { program := "ytenbpnlmpjndgaagreatdoor", sum := "84655da1300496c9ce76b0e153c3b10525540c0af91dcc67432a3c1602edf127", func := "arlink/arlinklaw09.ConsistDamaged", spec := "consistDamaged", inPlace := ["internal/bytealg.IndexByteString", "internal/bytealg.IndexString", "internal/bytealg.IndexByte", "internal/bytealg.Index"], unfollowed := true, recurses := true, named := ["unicode/utf8.first", "unicode/utf8.acceptRanges", "internal/bytealg.MaxLen"], apart := false, laid := [("unicode/utf8.acceptRanges", laid_unicode_utf8_acceptRanges), ("unicode/utf8.first", laid_unicode_utf8_first)] }
def ConsistDamagedSaid : Prop := consistDamagedRow.holds Tryz.pinned (OpenSpec.ofChange consistDamagedSpec)

/-- ITS FALSE NEIGHBOUR: 'it returns false'. Refute it at one input. -/
def consistDamagedWrong : ChangeSpec := { name := "consistDamaged", fn := fun _ => fun
  | [d1, d2] => { results := [.lit (.bool false)], args := [d1, d2] }
  | _ => none }
def ConsistDamagedWrongFalsely : Prop := consistDamagedRow.holds Tryz.pinned (OpenSpec.ofChange consistDamagedWrong)

/-- 'arlinklaw09.ConsistKeeps': WHATEVER THE INPUT: true; the input reads as it did. -/
def consistKeepsSpec : ChangeSpec := { name := "consistKeeps", fn := fun _ => fun
  | [d] => { results := [.lit (.bool true)], args := [d] }
  | _ => none }
def consistKeepsRow : OpenClaim := { program := "ytenbpnlmpjndgaagreatdoor", sum := "84655da1300496c9ce76b0e153c3b10525540c0af91dcc67432a3c1602edf127", func := "arlink/arlinklaw09.ConsistKeeps", spec := "consistKeeps", inPlace := ["internal/bytealg.IndexByteString", "internal/bytealg.IndexString", "internal/bytealg.IndexByte", "internal/bytealg.Index"], unfollowed := true, recurses := true, named := ["unicode/utf8.first", "unicode/utf8.acceptRanges", "internal/bytealg.MaxLen"], apart := false, laid := [("unicode/utf8.acceptRanges", laid_unicode_utf8_acceptRanges), ("unicode/utf8.first", laid_unicode_utf8_first)] }
def ConsistKeepsSaid : Prop := consistKeepsRow.holds Tryz.pinned (OpenSpec.ofChange consistKeepsSpec)

/-- ITS FALSE NEIGHBOUR: 'it returns false'. Refute it at one input. -/
def consistKeepsWrong : ChangeSpec := { name := "consistKeeps", fn := fun _ => fun
  | [d] => { results := [.lit (.bool false)], args := [d] }
  | _ => none }
def ConsistKeepsWrongFalsely : Prop := consistKeepsRow.holds Tryz.pinned (OpenSpec.ofChange consistKeepsWrong)

/-- 'arlinklaw09.ConsistRestored': WHATEVER THE INPUT: true; the input reads as it did. -/
def consistRestoredSpec : ChangeSpec := { name := "consistRestored", fn := fun _ => fun
  | [d] => { results := [.lit (.bool true)], args := [d] }
  | _ => none }
def consistRestoredRow : OpenClaim := { program := "ytenbpnlmpjndgaagreatdoor", sum := "84655da1300496c9ce76b0e153c3b10525540c0af91dcc67432a3c1602edf127", func := "arlink/arlinklaw09.ConsistRestored", spec := "consistRestored", inPlace := ["internal/bytealg.IndexByteString", "internal/bytealg.IndexString", "internal/bytealg.IndexByte", "internal/bytealg.Index"], unfollowed := true, recurses := true, named := ["unicode/utf8.first", "unicode/utf8.acceptRanges", "internal/bytealg.MaxLen"], apart := false, laid := [("unicode/utf8.acceptRanges", laid_unicode_utf8_acceptRanges), ("unicode/utf8.first", laid_unicode_utf8_first)] }
def ConsistRestoredSaid : Prop := consistRestoredRow.holds Tryz.pinned (OpenSpec.ofChange consistRestoredSpec)

/-- ITS FALSE NEIGHBOUR: 'it returns false'. Refute it at one input. -/
def consistRestoredWrong : ChangeSpec := { name := "consistRestored", fn := fun _ => fun
  | [d] => { results := [.lit (.bool false)], args := [d] }
  | _ => none }
def ConsistRestoredWrongFalsely : Prop := consistRestoredRow.holds Tryz.pinned (OpenSpec.ofChange consistRestoredWrong)

/- THE SECOND FORM. 'bulk': how many values and letters a reading holds, each counted each time it is reached (what is shared counts as often as it is met; a slice's spare places count too). A statement '..UptoSaid' is the law's where the arguments, and the package variables that the reading takes, are together of bulk at most 1048576: NARROWER than '..Said'. Prove '..Said' where nothing that the law and all that it calls make is longer than what came in: it says more and counts as full. Else prove '..UptoSaid'. A law counts once. -/
mutual
def uptoBulk {H : Type} : DataW H → Nat
  | .lit (.string bytes) => bytes.length + 1
  | .lit _ => 1
  | .nil => 1
  | .ptr d => uptoBulk d + 1
  | .slice elems spare => uptoBulkAll elems + uptoBulkAll spare + 1
  | .agg parts => uptoBulkAll parts + 1
  | .iface _ d => uptoBulk d + 1
  | .map entries => uptoBulkEntries entries + 1
  | .held _ => 1
def uptoBulkAll {H : Type} : List (DataW H) → Nat
  | [] => 0
  | d :: r => uptoBulk d + uptoBulkAll r
def uptoBulkEntries {H : Type} : List (Lit × DataW H) → Nat
  | [] => 0
  | x :: r => uptoBulkEntry x + uptoBulkEntries r
def uptoBulkEntry {H : Type} : Lit × DataW H → Nat
  | (.string bytes, d) => bytes.length + uptoBulk d + 1
  | (_, d) => uptoBulk d + 1
 end
def uptoSmall : (H : Type) → List (DataW H) → Bool := fun _ ds => decide (uptoBulkAll ds ≤ 1048576)
def OpenSpec.upto (s : _root_.Go.ChangeSpec) : _root_.Go.OpenSpec := { _root_.Go.OpenSpec.ofChange s with cond := some uptoSmall }

/-- 'arlinklaw09.ConsistMatchesReference', WHERE WHAT IT READS IS OF BULK AT MOST 1048576: true; the input reads as it did. -/
def consistMatchesReferenceUptoRow : OpenClaim := { program := "ytenbpnlmpjndgaagreatdoor", sum := "84655da1300496c9ce76b0e153c3b10525540c0af91dcc67432a3c1602edf127", func := "arlink/arlinklaw09.ConsistMatchesReference", spec := "consistMatchesReference", inPlace := ["internal/bytealg.IndexByteString", "internal/bytealg.IndexString", "internal/bytealg.IndexByte", "internal/bytealg.Index"], unfollowed := true, recurses := true, named := ["unicode/utf8.first", "unicode/utf8.acceptRanges", "internal/bytealg.MaxLen"], apart := false, laid := [("unicode/utf8.acceptRanges", laid_unicode_utf8_acceptRanges), ("unicode/utf8.first", laid_unicode_utf8_first)], narrowed := true }
def ConsistMatchesReferenceUptoSaid : Prop := consistMatchesReferenceUptoRow.holds Tryz.pinned (OpenSpec.upto consistMatchesReferenceSpec)

/-- 'arlinklaw09.ConsistComplete', WHERE WHAT IT READS IS OF BULK AT MOST 1048576: true; the input reads as it did. -/
def consistCompleteUptoRow : OpenClaim := { program := "ytenbpnlmpjndgaagreatdoor", sum := "84655da1300496c9ce76b0e153c3b10525540c0af91dcc67432a3c1602edf127", func := "arlink/arlinklaw09.ConsistComplete", spec := "consistComplete", inPlace := ["internal/bytealg.IndexByteString", "internal/bytealg.IndexString", "internal/bytealg.IndexByte", "internal/bytealg.Index"], unfollowed := true, recurses := true, named := ["unicode/utf8.first", "unicode/utf8.acceptRanges", "internal/bytealg.MaxLen"], apart := false, laid := [("unicode/utf8.acceptRanges", laid_unicode_utf8_acceptRanges), ("unicode/utf8.first", laid_unicode_utf8_first)], narrowed := true }
def ConsistCompleteUptoSaid : Prop := consistCompleteUptoRow.holds Tryz.pinned (OpenSpec.upto consistCompleteSpec)

/-- 'arlinklaw09.ConsistDamaged', WHERE WHAT IT READS IS OF BULK AT MOST 1048576: true; the input reads as it did. -/
def consistDamagedUptoRow : OpenClaim := { program := "ytenbpnlmpjndgaagreatdoor", sum := "84655da1300496c9ce76b0e153c3b10525540c0af91dcc67432a3c1602edf127", func := "arlink/arlinklaw09.ConsistDamaged", spec := "consistDamaged", inPlace := ["internal/bytealg.IndexByteString", "internal/bytealg.IndexString", "internal/bytealg.IndexByte", "internal/bytealg.Index"], unfollowed := true, recurses := true, named := ["unicode/utf8.first", "unicode/utf8.acceptRanges", "internal/bytealg.MaxLen"], apart := false, laid := [("unicode/utf8.acceptRanges", laid_unicode_utf8_acceptRanges), ("unicode/utf8.first", laid_unicode_utf8_first)], narrowed := true }
def ConsistDamagedUptoSaid : Prop := consistDamagedUptoRow.holds Tryz.pinned (OpenSpec.upto consistDamagedSpec)

/-- 'arlinklaw09.ConsistKeeps', WHERE WHAT IT READS IS OF BULK AT MOST 1048576: true; the input reads as it did. -/
def consistKeepsUptoRow : OpenClaim := { program := "ytenbpnlmpjndgaagreatdoor", sum := "84655da1300496c9ce76b0e153c3b10525540c0af91dcc67432a3c1602edf127", func := "arlink/arlinklaw09.ConsistKeeps", spec := "consistKeeps", inPlace := ["internal/bytealg.IndexByteString", "internal/bytealg.IndexString", "internal/bytealg.IndexByte", "internal/bytealg.Index"], unfollowed := true, recurses := true, named := ["unicode/utf8.first", "unicode/utf8.acceptRanges", "internal/bytealg.MaxLen"], apart := false, laid := [("unicode/utf8.acceptRanges", laid_unicode_utf8_acceptRanges), ("unicode/utf8.first", laid_unicode_utf8_first)], narrowed := true }
def ConsistKeepsUptoSaid : Prop := consistKeepsUptoRow.holds Tryz.pinned (OpenSpec.upto consistKeepsSpec)

/-- 'arlinklaw09.ConsistRestored', WHERE WHAT IT READS IS OF BULK AT MOST 1048576: true; the input reads as it did. -/
def consistRestoredUptoRow : OpenClaim := { program := "ytenbpnlmpjndgaagreatdoor", sum := "84655da1300496c9ce76b0e153c3b10525540c0af91dcc67432a3c1602edf127", func := "arlink/arlinklaw09.ConsistRestored", spec := "consistRestored", inPlace := ["internal/bytealg.IndexByteString", "internal/bytealg.IndexString", "internal/bytealg.IndexByte", "internal/bytealg.Index"], unfollowed := true, recurses := true, named := ["unicode/utf8.first", "unicode/utf8.acceptRanges", "internal/bytealg.MaxLen"], apart := false, laid := [("unicode/utf8.acceptRanges", laid_unicode_utf8_acceptRanges), ("unicode/utf8.first", laid_unicode_utf8_first)], narrowed := true }
def ConsistRestoredUptoSaid : Prop := consistRestoredUptoRow.holds Tryz.pinned (OpenSpec.upto consistRestoredSpec)

end Rows
end Go.Proofs.YtenbpnlmpjndgaaGreatDoor
