/-
  NARROWER THAN 'FOR EVERY INPUT', by the rows' own cells (each row's printed sentence says how): InputMatchesReference: laid · InputFirst: laid · InputLoadable: laid · InputKeeps: laid · InputConcat: laid.
  DERIVED. THE GIVEN ROWS OF THIS SEAT. 5 by the template 'for every input the law returns true; each argument reads behind the call as it read before'; 0 by the template 'total and deterministic' (their statements: YtimjnmbpbobfiaaGreatDoorTotals.lean).
  GIVEN WITH THE SEED: the statements are not yours to turn. If you find one false, say at which input.
  Laid BY PROGRAM, IN A SANDBOX (cutbox-rows.mjs): the forced cells as the released guide's own fill.sh prints them over the translation 35a3a7e23a4c6d79… (all of the seat's roots in one cut). By AI agents, Wed Nov 11 2026. No macro, syntax, notation, axiom, sorry.
-/
import Derived.Test.YtimjnmbpbobfiaaGreatDoorChecked
import GoSem.PinnedTables
import GoSem.Claim
import GoSem.ClaimJoined
import GoSem.ClaimMapViews
import Derived.JoinedTies
import Derived.KernelRfl
namespace Go.Proofs.YtimjnmbpbobfiaaGreatDoor
/- THE CELL 'sum', in the pinned program and in every row, IS THE sha256 OF THE DUMP (.gsa) THAT YtimjnmbpbobfiaaGreatDoorProg.lean LOADS. Nothing in Lean hashes anything: it is a label: what it is worth is what the hold of that sum in a sandbox is worth. -/
noncomputable def Tryz.pinned : Pinned := { name := "ytimjnmbpbobfiaagreatdoor", sum := "35a3a7e23a4c6d795aeda9f559bb15d4bb7fd00c8c7804f70391c4e7b51ad435", checked := Tryz.checked }
namespace Rows
def none {H : Type} : Left H := { results := [], args := [] }

/- WHAT THE LISTED PACKAGE-LEVEL VARIABLES READ AS WHEN THE CALL BEGINS. Each datum BY PROGRAM (the guide's laid-datum.mjs) off the statement by which the dump's own 'gosem.cut.vars' lays the variable. In a bare row this is a premise. The card (YtimjnmbpbobfiaaGreatDoorCards.lean) ties it to the program's text. -/
def laid_unicode_utf8_acceptRanges {H : Type} : DataW H := .agg [.agg [.lit (.int .u8 128), .lit (.int .u8 191)], .agg [.lit (.int .u8 160), .lit (.int .u8 191)], .agg [.lit (.int .u8 128), .lit (.int .u8 159)], .agg [.lit (.int .u8 144), .lit (.int .u8 191)], .agg [.lit (.int .u8 128), .lit (.int .u8 143)], .agg [.lit (.int .u8 0), .lit (.int .u8 0)], .agg [.lit (.int .u8 0), .lit (.int .u8 0)], .agg [.lit (.int .u8 0), .lit (.int .u8 0)], .agg [.lit (.int .u8 0), .lit (.int .u8 0)], .agg [.lit (.int .u8 0), .lit (.int .u8 0)], .agg [.lit (.int .u8 0), .lit (.int .u8 0)], .agg [.lit (.int .u8 0), .lit (.int .u8 0)], .agg [.lit (.int .u8 0), .lit (.int .u8 0)], .agg [.lit (.int .u8 0), .lit (.int .u8 0)], .agg [.lit (.int .u8 0), .lit (.int .u8 0)], .agg [.lit (.int .u8 0), .lit (.int .u8 0)]]
def laid_arlink_cmdline_begins {H : Type} : DataW H := .slice [.lit (.string [45, 40]), .lit (.string [45, 45, 115, 116, 97, 114, 116, 45, 103, 114, 111, 117, 112])] []
def laid_arlink_cmdline_ends {H : Type} : DataW H := .slice [.lit (.string [45, 41]), .lit (.string [45, 45, 101, 110, 100, 45, 103, 114, 111, 117, 112])] []
/-- One of Go's own tables, pinned by name: the form's constant. -/
def laid_unicode_utf8_first : DataW Unit := Go.Pinned.utf8First

/-- 'arlinklaw18.InputMatchesReference': WHATEVER THE INPUT: true; the input reads as it did. -/
def inputMatchesReferenceSpec : ChangeSpec := { name := "inputMatchesReference", fn := fun _ => fun
  | [d1, d2, d3] => { results := [.lit (.bool true)], args := [d1, d2, d3] }
  | _ => none }
def inputMatchesReferenceRow : OpenClaim := { program := "ytimjnmbpbobfiaagreatdoor", sum := "35a3a7e23a4c6d795aeda9f559bb15d4bb7fd00c8c7804f70391c4e7b51ad435", func := "arlink/arlinklaw18.InputMatchesReference", spec := "inputMatchesReference", inPlace := ["internal/bytealg.IndexByteString", "internal/bytealg.IndexString", "internal/bytealg.IndexByte", "internal/bytealg.Index"], unfollowed := true, recurses := true, named := ["unicode/utf8.first", "unicode/utf8.acceptRanges", "internal/bytealg.MaxLen", "arlink/cmdline.begins", "arlink/cmdline.ends"], apart := false, laid := [("unicode/utf8.acceptRanges", laid_unicode_utf8_acceptRanges), ("arlink/cmdline.begins", laid_arlink_cmdline_begins), ("arlink/cmdline.ends", laid_arlink_cmdline_ends), ("unicode/utf8.first", laid_unicode_utf8_first)] }
def InputMatchesReferenceSaid : Prop := inputMatchesReferenceRow.holds Tryz.pinned (OpenSpec.ofChange inputMatchesReferenceSpec)

/-- ITS FALSE NEIGHBOUR: 'it returns false'. Refute it at one input. -/
def inputMatchesReferenceWrong : ChangeSpec := { name := "inputMatchesReference", fn := fun _ => fun
  | [d1, d2, d3] => { results := [.lit (.bool false)], args := [d1, d2, d3] }
  | _ => none }
def InputMatchesReferenceWrongFalsely : Prop := inputMatchesReferenceRow.holds Tryz.pinned (OpenSpec.ofChange inputMatchesReferenceWrong)

/-- 'arlinklaw18.InputFirst': WHATEVER THE INPUT: true; the input reads as it did. -/
def inputFirstSpec : ChangeSpec := { name := "inputFirst", fn := fun _ => fun
  | [d1, d2] => { results := [.lit (.bool true)], args := [d1, d2] }
  | _ => none }
def inputFirstRow : OpenClaim := { program := "ytimjnmbpbobfiaagreatdoor", sum := "35a3a7e23a4c6d795aeda9f559bb15d4bb7fd00c8c7804f70391c4e7b51ad435", func := "arlink/arlinklaw18.InputFirst", spec := "inputFirst", inPlace := ["internal/bytealg.IndexByteString", "internal/bytealg.IndexString", "internal/bytealg.IndexByte", "internal/bytealg.Index"], unfollowed := true, recurses := true, named := ["unicode/utf8.first", "unicode/utf8.acceptRanges", "internal/bytealg.MaxLen", "arlink/cmdline.begins", "arlink/cmdline.ends"], apart := false, laid := [("unicode/utf8.acceptRanges", laid_unicode_utf8_acceptRanges), ("arlink/cmdline.begins", laid_arlink_cmdline_begins), ("arlink/cmdline.ends", laid_arlink_cmdline_ends), ("unicode/utf8.first", laid_unicode_utf8_first)] }
def InputFirstSaid : Prop := inputFirstRow.holds Tryz.pinned (OpenSpec.ofChange inputFirstSpec)

/-- ITS FALSE NEIGHBOUR: 'it returns false'. Refute it at one input. -/
def inputFirstWrong : ChangeSpec := { name := "inputFirst", fn := fun _ => fun
  | [d1, d2] => { results := [.lit (.bool false)], args := [d1, d2] }
  | _ => none }
def InputFirstWrongFalsely : Prop := inputFirstRow.holds Tryz.pinned (OpenSpec.ofChange inputFirstWrong)

/-- 'arlinklaw18.InputLoadable': WHATEVER THE INPUT: true; the input reads as it did. -/
def inputLoadableSpec : ChangeSpec := { name := "inputLoadable", fn := fun _ => fun
  | [d1, d2] => { results := [.lit (.bool true)], args := [d1, d2] }
  | _ => none }
def inputLoadableRow : OpenClaim := { program := "ytimjnmbpbobfiaagreatdoor", sum := "35a3a7e23a4c6d795aeda9f559bb15d4bb7fd00c8c7804f70391c4e7b51ad435", func := "arlink/arlinklaw18.InputLoadable", spec := "inputLoadable", inPlace := ["internal/bytealg.IndexByteString", "internal/bytealg.IndexString", "internal/bytealg.IndexByte", "internal/bytealg.Index"], unfollowed := true, recurses := true, named := ["unicode/utf8.first", "unicode/utf8.acceptRanges", "internal/bytealg.MaxLen", "arlink/cmdline.begins", "arlink/cmdline.ends"], apart := false, laid := [("unicode/utf8.acceptRanges", laid_unicode_utf8_acceptRanges), ("arlink/cmdline.begins", laid_arlink_cmdline_begins), ("arlink/cmdline.ends", laid_arlink_cmdline_ends), ("unicode/utf8.first", laid_unicode_utf8_first)] }
def InputLoadableSaid : Prop := inputLoadableRow.holds Tryz.pinned (OpenSpec.ofChange inputLoadableSpec)

/-- ITS FALSE NEIGHBOUR: 'it returns false'. Refute it at one input. -/
def inputLoadableWrong : ChangeSpec := { name := "inputLoadable", fn := fun _ => fun
  | [d1, d2] => { results := [.lit (.bool false)], args := [d1, d2] }
  | _ => none }
def InputLoadableWrongFalsely : Prop := inputLoadableRow.holds Tryz.pinned (OpenSpec.ofChange inputLoadableWrong)

/-- 'arlinklaw18.InputKeeps': WHATEVER THE INPUT: true; the input reads as it did. -/
def inputKeepsSpec : ChangeSpec := { name := "inputKeeps", fn := fun _ => fun
  | [d1, d2] => { results := [.lit (.bool true)], args := [d1, d2] }
  | _ => none }
def inputKeepsRow : OpenClaim := { program := "ytimjnmbpbobfiaagreatdoor", sum := "35a3a7e23a4c6d795aeda9f559bb15d4bb7fd00c8c7804f70391c4e7b51ad435", func := "arlink/arlinklaw18.InputKeeps", spec := "inputKeeps", inPlace := ["internal/bytealg.IndexByteString", "internal/bytealg.IndexString", "internal/bytealg.IndexByte", "internal/bytealg.Index"], unfollowed := true, recurses := true, named := ["unicode/utf8.first", "unicode/utf8.acceptRanges", "internal/bytealg.MaxLen", "arlink/cmdline.begins", "arlink/cmdline.ends"], apart := false, laid := [("unicode/utf8.acceptRanges", laid_unicode_utf8_acceptRanges), ("arlink/cmdline.begins", laid_arlink_cmdline_begins), ("arlink/cmdline.ends", laid_arlink_cmdline_ends), ("unicode/utf8.first", laid_unicode_utf8_first)] }
def InputKeepsSaid : Prop := inputKeepsRow.holds Tryz.pinned (OpenSpec.ofChange inputKeepsSpec)

/-- ITS FALSE NEIGHBOUR: 'it returns false'. Refute it at one input. -/
def inputKeepsWrong : ChangeSpec := { name := "inputKeeps", fn := fun _ => fun
  | [d1, d2] => { results := [.lit (.bool false)], args := [d1, d2] }
  | _ => none }
def InputKeepsWrongFalsely : Prop := inputKeepsRow.holds Tryz.pinned (OpenSpec.ofChange inputKeepsWrong)

/-- 'arlinklaw18.InputConcat': WHATEVER THE INPUT: true; the input reads as it did. -/
def inputConcatSpec : ChangeSpec := { name := "inputConcat", fn := fun _ => fun
  | [d1, d2, d3] => { results := [.lit (.bool true)], args := [d1, d2, d3] }
  | _ => none }
def inputConcatRow : OpenClaim := { program := "ytimjnmbpbobfiaagreatdoor", sum := "35a3a7e23a4c6d795aeda9f559bb15d4bb7fd00c8c7804f70391c4e7b51ad435", func := "arlink/arlinklaw18.InputConcat", spec := "inputConcat", inPlace := ["internal/bytealg.IndexByteString", "internal/bytealg.IndexString", "internal/bytealg.IndexByte", "internal/bytealg.Index"], unfollowed := true, recurses := true, named := ["unicode/utf8.first", "unicode/utf8.acceptRanges", "internal/bytealg.MaxLen", "arlink/cmdline.begins", "arlink/cmdline.ends"], apart := false, laid := [("unicode/utf8.acceptRanges", laid_unicode_utf8_acceptRanges), ("arlink/cmdline.begins", laid_arlink_cmdline_begins), ("arlink/cmdline.ends", laid_arlink_cmdline_ends), ("unicode/utf8.first", laid_unicode_utf8_first)] }
def InputConcatSaid : Prop := inputConcatRow.holds Tryz.pinned (OpenSpec.ofChange inputConcatSpec)

/-- ITS FALSE NEIGHBOUR: 'it returns false'. Refute it at one input. -/
def inputConcatWrong : ChangeSpec := { name := "inputConcat", fn := fun _ => fun
  | [d1, d2, d3] => { results := [.lit (.bool false)], args := [d1, d2, d3] }
  | _ => none }
def InputConcatWrongFalsely : Prop := inputConcatRow.holds Tryz.pinned (OpenSpec.ofChange inputConcatWrong)

/- THE SECOND FORM. 'bulk': how many values and letters a reading holds, each counted each time it is reached (what is shared counts as often as it is met; a slice's spare places count too). A statement '..UptoSaid' is the law's where the arguments, and the package variables that the reading takes, are together of bulk at most 1048576: NARROWER than '..Said'. Prove '..Said' where nothing that the law and all that it calls make is longer than what came in: it says more and counts as full. Else prove '..UptoSaid'. A law counts once. -/
mutual
def uptoBulk {H : Type} : DataW H → Nat
  | .lit (.string bytes) => bytes.length + 1
  | .lit _ => 1
  | .nil => 1
  | .ptr d => uptoBulk d + 1
  | .slice elems spare => uptoBulkAll elems + uptoBulkAll spare + 1
  | .agg parts => uptoBulkAll parts + 1
  | .iface _ d => uptoBulk d + 1
  | .map entries => uptoBulkEntries entries + 1
  | .held _ => 1
def uptoBulkAll {H : Type} : List (DataW H) → Nat
  | [] => 0
  | d :: r => uptoBulk d + uptoBulkAll r
def uptoBulkEntries {H : Type} : List (Lit × DataW H) → Nat
  | [] => 0
  | x :: r => uptoBulkEntry x + uptoBulkEntries r
def uptoBulkEntry {H : Type} : Lit × DataW H → Nat
  | (.string bytes, d) => bytes.length + uptoBulk d + 1
  | (_, d) => uptoBulk d + 1
 end
def uptoSmall : (H : Type) → List (DataW H) → Bool := fun _ ds => decide (uptoBulkAll ds ≤ 1048576)
def OpenSpec.upto (s : _root_.Go.ChangeSpec) : _root_.Go.OpenSpec := { _root_.Go.OpenSpec.ofChange s with cond := some uptoSmall }

/-- 'arlinklaw18.InputMatchesReference', WHERE WHAT IT READS IS OF BULK AT MOST 1048576: true; the input reads as it did. -/
def inputMatchesReferenceUptoRow : OpenClaim := { program := "ytimjnmbpbobfiaagreatdoor", sum := "35a3a7e23a4c6d795aeda9f559bb15d4bb7fd00c8c7804f70391c4e7b51ad435", func := "arlink/arlinklaw18.InputMatchesReference", spec := "inputMatchesReference", inPlace := ["internal/bytealg.IndexByteString", "internal/bytealg.IndexString", "internal/bytealg.IndexByte", "internal/bytealg.Index"], unfollowed := true, recurses := true, named := ["unicode/utf8.first", "unicode/utf8.acceptRanges", "internal/bytealg.MaxLen", "arlink/cmdline.begins", "arlink/cmdline.ends"], apart := false, laid := [("unicode/utf8.acceptRanges", laid_unicode_utf8_acceptRanges), ("arlink/cmdline.begins", laid_arlink_cmdline_begins), ("arlink/cmdline.ends", laid_arlink_cmdline_ends), ("unicode/utf8.first", laid_unicode_utf8_first)], narrowed := true }
def InputMatchesReferenceUptoSaid : Prop := inputMatchesReferenceUptoRow.holds Tryz.pinned (OpenSpec.upto inputMatchesReferenceSpec)

/-- 'arlinklaw18.InputFirst', WHERE WHAT IT READS IS OF BULK AT MOST 1048576: true; the input reads as it did. -/
def inputFirstUptoRow : OpenClaim := { program := "ytimjnmbpbobfiaagreatdoor", sum := "35a3a7e23a4c6d795aeda9f559bb15d4bb7fd00c8c7804f70391c4e7b51ad435", func := "arlink/arlinklaw18.InputFirst", spec := "inputFirst", inPlace := ["internal/bytealg.IndexByteString", "internal/bytealg.IndexString", "internal/bytealg.IndexByte", "internal/bytealg.Index"], unfollowed := true, recurses := true, named := ["unicode/utf8.first", "unicode/utf8.acceptRanges", "internal/bytealg.MaxLen", "arlink/cmdline.begins", "arlink/cmdline.ends"], apart := false, laid := [("unicode/utf8.acceptRanges", laid_unicode_utf8_acceptRanges), ("arlink/cmdline.begins", laid_arlink_cmdline_begins), ("arlink/cmdline.ends", laid_arlink_cmdline_ends), ("unicode/utf8.first", laid_unicode_utf8_first)], narrowed := true }
def InputFirstUptoSaid : Prop := inputFirstUptoRow.holds Tryz.pinned (OpenSpec.upto inputFirstSpec)

/-- 'arlinklaw18.InputLoadable', WHERE WHAT IT READS IS OF BULK AT MOST 1048576: true; the input reads as it did. -/
def inputLoadableUptoRow : OpenClaim := { program := "ytimjnmbpbobfiaagreatdoor", sum := "35a3a7e23a4c6d795aeda9f559bb15d4bb7fd00c8c7804f70391c4e7b51ad435", func := "arlink/arlinklaw18.InputLoadable", spec := "inputLoadable", inPlace := ["internal/bytealg.IndexByteString", "internal/bytealg.IndexString", "internal/bytealg.IndexByte", "internal/bytealg.Index"], unfollowed := true, recurses := true, named := ["unicode/utf8.first", "unicode/utf8.acceptRanges", "internal/bytealg.MaxLen", "arlink/cmdline.begins", "arlink/cmdline.ends"], apart := false, laid := [("unicode/utf8.acceptRanges", laid_unicode_utf8_acceptRanges), ("arlink/cmdline.begins", laid_arlink_cmdline_begins), ("arlink/cmdline.ends", laid_arlink_cmdline_ends), ("unicode/utf8.first", laid_unicode_utf8_first)], narrowed := true }
def InputLoadableUptoSaid : Prop := inputLoadableUptoRow.holds Tryz.pinned (OpenSpec.upto inputLoadableSpec)

/-- 'arlinklaw18.InputKeeps', WHERE WHAT IT READS IS OF BULK AT MOST 1048576: true; the input reads as it did. -/
def inputKeepsUptoRow : OpenClaim := { program := "ytimjnmbpbobfiaagreatdoor", sum := "35a3a7e23a4c6d795aeda9f559bb15d4bb7fd00c8c7804f70391c4e7b51ad435", func := "arlink/arlinklaw18.InputKeeps", spec := "inputKeeps", inPlace := ["internal/bytealg.IndexByteString", "internal/bytealg.IndexString", "internal/bytealg.IndexByte", "internal/bytealg.Index"], unfollowed := true, recurses := true, named := ["unicode/utf8.first", "unicode/utf8.acceptRanges", "internal/bytealg.MaxLen", "arlink/cmdline.begins", "arlink/cmdline.ends"], apart := false, laid := [("unicode/utf8.acceptRanges", laid_unicode_utf8_acceptRanges), ("arlink/cmdline.begins", laid_arlink_cmdline_begins), ("arlink/cmdline.ends", laid_arlink_cmdline_ends), ("unicode/utf8.first", laid_unicode_utf8_first)], narrowed := true }
def InputKeepsUptoSaid : Prop := inputKeepsUptoRow.holds Tryz.pinned (OpenSpec.upto inputKeepsSpec)

/-- 'arlinklaw18.InputConcat', WHERE WHAT IT READS IS OF BULK AT MOST 1048576: true; the input reads as it did. -/
def inputConcatUptoRow : OpenClaim := { program := "ytimjnmbpbobfiaagreatdoor", sum := "35a3a7e23a4c6d795aeda9f559bb15d4bb7fd00c8c7804f70391c4e7b51ad435", func := "arlink/arlinklaw18.InputConcat", spec := "inputConcat", inPlace := ["internal/bytealg.IndexByteString", "internal/bytealg.IndexString", "internal/bytealg.IndexByte", "internal/bytealg.Index"], unfollowed := true, recurses := true, named := ["unicode/utf8.first", "unicode/utf8.acceptRanges", "internal/bytealg.MaxLen", "arlink/cmdline.begins", "arlink/cmdline.ends"], apart := false, laid := [("unicode/utf8.acceptRanges", laid_unicode_utf8_acceptRanges), ("arlink/cmdline.begins", laid_arlink_cmdline_begins), ("arlink/cmdline.ends", laid_arlink_cmdline_ends), ("unicode/utf8.first", laid_unicode_utf8_first)], narrowed := true }
def InputConcatUptoSaid : Prop := inputConcatUptoRow.holds Tryz.pinned (OpenSpec.upto inputConcatSpec)

end Rows
end Go.Proofs.YtimjnmbpbobfiaaGreatDoor
