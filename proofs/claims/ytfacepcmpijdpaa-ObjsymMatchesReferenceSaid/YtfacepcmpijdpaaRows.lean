/-
  No cell of these rows narrows 'for every input' (looked for: loops, veiled, ifaces, maps, wideKeys, modest, calm, conditions, laid).
  DERIVED. THE GIVEN ROWS OF THIS SEAT. 10 by the template 'for every input the law returns true; each argument reads behind the call as it read before'; 0 by the template 'total and deterministic' (their statements: YtfacepcmpijdpaaTotals.lean).
  GIVEN WITH THE SEED: the statements are not yours to turn. If you find one false, say at which input.
  Laid BY PROGRAM, IN A SANDBOX (cutbox-rows.mjs): the forced cells as the released guide's own fill.sh prints them over the translation db1c8258e7c40efd… (all of the seat's roots in one cut). By AI agents, Wed Nov 11 2026. No macro, syntax, notation, axiom, sorry.
-/
import Derived.Test.YtfacepcmpijdpaaChecked
import GoSem.Claim
import GoSem.ClaimJoined
import GoSem.ClaimMapViews
import Derived.JoinedTies
import Derived.KernelRfl
namespace Go.Proofs.Ytfacepcmpijdpaa
/- THE CELL 'sum', in the pinned program and in every row, IS THE sha256 OF THE DUMP (.gsa) THAT YtfacepcmpijdpaaProg.lean LOADS. Nothing in Lean hashes anything: it is a label: what it is worth is what the hold of that sum in a sandbox is worth. -/
noncomputable def Try.pinned : Pinned := { name := "ytfacepcmpijdpaa", sum := "db1c8258e7c40efdedc5d0541a075c4cf4c68bcf5187414b6c3b658671ad9631", checked := Try.checked }
namespace Rows
def none {H : Type} : Left H := { results := [], args := [] }

/-- 'arlinklaw07.ArmapMatchesReference': WHATEVER THE INPUT: true; the input reads as it did. -/
def armapMatchesReferenceSpec : ChangeSpec := { name := "armapMatchesReference", fn := fun _ => fun
  | [d1, d2] => { results := [.lit (.bool true)], args := [d1, d2] }
  | _ => none }
def armapMatchesReferenceRow : OpenClaim := { program := "ytfacepcmpijdpaa", sum := "db1c8258e7c40efdedc5d0541a075c4cf4c68bcf5187414b6c3b658671ad9631", func := "arlink/arlinklaw07.ArmapMatchesReference", spec := "armapMatchesReference", inPlace := ["internal/bytealg.IndexByteString", "internal/bytealg.IndexString", "internal/bytealg.IndexByte"], unfollowed := true, recurses := true, named := ["internal/bytealg.MaxLen"], apart := false }
def ArmapMatchesReferenceSaid : Prop := armapMatchesReferenceRow.holds Try.pinned (OpenSpec.ofChange armapMatchesReferenceSpec)

/-- ITS FALSE NEIGHBOUR: 'it returns false'. Refute it at one input. -/
def armapMatchesReferenceWrong : ChangeSpec := { name := "armapMatchesReference", fn := fun _ => fun
  | [d1, d2] => { results := [.lit (.bool false)], args := [d1, d2] }
  | _ => none }
def ArmapMatchesReferenceWrongFalsely : Prop := armapMatchesReferenceRow.holds Try.pinned (OpenSpec.ofChange armapMatchesReferenceWrong)

/-- 'arlinklaw07.ArmapUnique': WHATEVER THE INPUT: true; the input reads as it did. -/
def armapUniqueSpec : ChangeSpec := { name := "armapUnique", fn := fun _ => fun
  | [d1, d2] => { results := [.lit (.bool true)], args := [d1, d2] }
  | _ => none }
def armapUniqueRow : OpenClaim := { program := "ytfacepcmpijdpaa", sum := "db1c8258e7c40efdedc5d0541a075c4cf4c68bcf5187414b6c3b658671ad9631", func := "arlink/arlinklaw07.ArmapUnique", spec := "armapUnique", inPlace := ["internal/bytealg.IndexByteString", "internal/bytealg.IndexString", "internal/bytealg.IndexByte"], unfollowed := true, recurses := true, named := ["internal/bytealg.MaxLen"], apart := false }
def ArmapUniqueSaid : Prop := armapUniqueRow.holds Try.pinned (OpenSpec.ofChange armapUniqueSpec)

/-- ITS FALSE NEIGHBOUR: 'it returns false'. Refute it at one input. -/
def armapUniqueWrong : ChangeSpec := { name := "armapUnique", fn := fun _ => fun
  | [d1, d2] => { results := [.lit (.bool false)], args := [d1, d2] }
  | _ => none }
def ArmapUniqueWrongFalsely : Prop := armapUniqueRow.holds Try.pinned (OpenSpec.ofChange armapUniqueWrong)

/-- 'arlinklaw07.ArmapSize': WHATEVER THE INPUT: true; the input reads as it did. -/
def armapSizeSpec : ChangeSpec := { name := "armapSize", fn := fun _ => fun
  | [d] => { results := [.lit (.bool true)], args := [d] }
  | _ => none }
def armapSizeRow : OpenClaim := { program := "ytfacepcmpijdpaa", sum := "db1c8258e7c40efdedc5d0541a075c4cf4c68bcf5187414b6c3b658671ad9631", func := "arlink/arlinklaw07.ArmapSize", spec := "armapSize", inPlace := ["internal/bytealg.IndexByteString", "internal/bytealg.IndexString", "internal/bytealg.IndexByte"], unfollowed := true, recurses := true, named := ["internal/bytealg.MaxLen"], apart := false }
def ArmapSizeSaid : Prop := armapSizeRow.holds Try.pinned (OpenSpec.ofChange armapSizeSpec)

/-- ITS FALSE NEIGHBOUR: 'it returns false'. Refute it at one input. -/
def armapSizeWrong : ChangeSpec := { name := "armapSize", fn := fun _ => fun
  | [d] => { results := [.lit (.bool false)], args := [d] }
  | _ => none }
def ArmapSizeWrongFalsely : Prop := armapSizeRow.holds Try.pinned (OpenSpec.ofChange armapSizeWrong)

/-- 'arlinklaw07.ArmapKeeps': WHATEVER THE INPUT: true; the input reads as it did. -/
def armapKeepsSpec : ChangeSpec := { name := "armapKeeps", fn := fun _ => fun
  | [d1, d2] => { results := [.lit (.bool true)], args := [d1, d2] }
  | _ => none }
def armapKeepsRow : OpenClaim := { program := "ytfacepcmpijdpaa", sum := "db1c8258e7c40efdedc5d0541a075c4cf4c68bcf5187414b6c3b658671ad9631", func := "arlink/arlinklaw07.ArmapKeeps", spec := "armapKeeps", inPlace := ["internal/bytealg.IndexByteString", "internal/bytealg.IndexString", "internal/bytealg.IndexByte"], unfollowed := true, recurses := true, named := ["internal/bytealg.MaxLen"], apart := false }
def ArmapKeepsSaid : Prop := armapKeepsRow.holds Try.pinned (OpenSpec.ofChange armapKeepsSpec)

/-- ITS FALSE NEIGHBOUR: 'it returns false'. Refute it at one input. -/
def armapKeepsWrong : ChangeSpec := { name := "armapKeeps", fn := fun _ => fun
  | [d1, d2] => { results := [.lit (.bool false)], args := [d1, d2] }
  | _ => none }
def ArmapKeepsWrongFalsely : Prop := armapKeepsRow.holds Try.pinned (OpenSpec.ofChange armapKeepsWrong)

/-- 'arlinklaw07.ArmapConcat': WHATEVER THE INPUT: true; the input reads as it did. -/
def armapConcatSpec : ChangeSpec := { name := "armapConcat", fn := fun _ => fun
  | [d1, d2] => { results := [.lit (.bool true)], args := [d1, d2] }
  | _ => none }
def armapConcatRow : OpenClaim := { program := "ytfacepcmpijdpaa", sum := "db1c8258e7c40efdedc5d0541a075c4cf4c68bcf5187414b6c3b658671ad9631", func := "arlink/arlinklaw07.ArmapConcat", spec := "armapConcat", inPlace := ["internal/bytealg.IndexByteString", "internal/bytealg.IndexString", "internal/bytealg.IndexByte"], unfollowed := true, recurses := true, named := ["internal/bytealg.MaxLen"], apart := false }
def ArmapConcatSaid : Prop := armapConcatRow.holds Try.pinned (OpenSpec.ofChange armapConcatSpec)

/-- ITS FALSE NEIGHBOUR: 'it returns false'. Refute it at one input. -/
def armapConcatWrong : ChangeSpec := { name := "armapConcat", fn := fun _ => fun
  | [d1, d2] => { results := [.lit (.bool false)], args := [d1, d2] }
  | _ => none }
def ArmapConcatWrongFalsely : Prop := armapConcatRow.holds Try.pinned (OpenSpec.ofChange armapConcatWrong)

/-- 'arlinklaw06.ObjsymMatchesReference': WHATEVER THE INPUT: true; the input reads as it did. -/
def objsymMatchesReferenceSpec : ChangeSpec := { name := "objsymMatchesReference", fn := fun _ => fun
  | [d1, d2, d3] => { results := [.lit (.bool true)], args := [d1, d2, d3] }
  | _ => none }
def objsymMatchesReferenceRow : OpenClaim := { program := "ytfacepcmpijdpaa", sum := "db1c8258e7c40efdedc5d0541a075c4cf4c68bcf5187414b6c3b658671ad9631", func := "arlink/arlinklaw06.ObjsymMatchesReference", spec := "objsymMatchesReference", inPlace := ["internal/bytealg.IndexByteString", "internal/bytealg.IndexString"], unfollowed := true, recurses := true, named := ["internal/bytealg.MaxLen"], apart := false }
def ObjsymMatchesReferenceSaid : Prop := objsymMatchesReferenceRow.holds Try.pinned (OpenSpec.ofChange objsymMatchesReferenceSpec)

/-- ITS FALSE NEIGHBOUR: 'it returns false'. Refute it at one input. -/
def objsymMatchesReferenceWrong : ChangeSpec := { name := "objsymMatchesReference", fn := fun _ => fun
  | [d1, d2, d3] => { results := [.lit (.bool false)], args := [d1, d2, d3] }
  | _ => none }
def ObjsymMatchesReferenceWrongFalsely : Prop := objsymMatchesReferenceRow.holds Try.pinned (OpenSpec.ofChange objsymMatchesReferenceWrong)

/-- 'arlinklaw06.ObjsymUnique': WHATEVER THE INPUT: true; the input reads as it did. -/
def objsymUniqueSpec : ChangeSpec := { name := "objsymUnique", fn := fun _ => fun
  | [d1, d2] => { results := [.lit (.bool true)], args := [d1, d2] }
  | _ => none }
def objsymUniqueRow : OpenClaim := { program := "ytfacepcmpijdpaa", sum := "db1c8258e7c40efdedc5d0541a075c4cf4c68bcf5187414b6c3b658671ad9631", func := "arlink/arlinklaw06.ObjsymUnique", spec := "objsymUnique", inPlace := ["internal/bytealg.IndexByteString", "internal/bytealg.IndexString"], unfollowed := true, recurses := true, named := ["internal/bytealg.MaxLen"], apart := false }
def ObjsymUniqueSaid : Prop := objsymUniqueRow.holds Try.pinned (OpenSpec.ofChange objsymUniqueSpec)

/-- ITS FALSE NEIGHBOUR: 'it returns false'. Refute it at one input. -/
def objsymUniqueWrong : ChangeSpec := { name := "objsymUnique", fn := fun _ => fun
  | [d1, d2] => { results := [.lit (.bool false)], args := [d1, d2] }
  | _ => none }
def ObjsymUniqueWrongFalsely : Prop := objsymUniqueRow.holds Try.pinned (OpenSpec.ofChange objsymUniqueWrong)

/-- 'arlinklaw06.ObjsymTruncated': WHATEVER THE INPUT: true; the input reads as it did. -/
def objsymTruncatedSpec : ChangeSpec := { name := "objsymTruncated", fn := fun _ => fun
  | [d1, d2] => { results := [.lit (.bool true)], args := [d1, d2] }
  | _ => none }
def objsymTruncatedRow : OpenClaim := { program := "ytfacepcmpijdpaa", sum := "db1c8258e7c40efdedc5d0541a075c4cf4c68bcf5187414b6c3b658671ad9631", func := "arlink/arlinklaw06.ObjsymTruncated", spec := "objsymTruncated", inPlace := ["internal/bytealg.IndexByteString", "internal/bytealg.IndexString"], unfollowed := true, recurses := true, named := ["internal/bytealg.MaxLen"], apart := false }
def ObjsymTruncatedSaid : Prop := objsymTruncatedRow.holds Try.pinned (OpenSpec.ofChange objsymTruncatedSpec)

/-- ITS FALSE NEIGHBOUR: 'it returns false'. Refute it at one input. -/
def objsymTruncatedWrong : ChangeSpec := { name := "objsymTruncated", fn := fun _ => fun
  | [d1, d2] => { results := [.lit (.bool false)], args := [d1, d2] }
  | _ => none }
def ObjsymTruncatedWrongFalsely : Prop := objsymTruncatedRow.holds Try.pinned (OpenSpec.ofChange objsymTruncatedWrong)

/-- 'arlinklaw06.ObjsymPrefix': WHATEVER THE INPUT: true; the input reads as it did. -/
def objsymPrefixSpec : ChangeSpec := { name := "objsymPrefix", fn := fun _ => fun
  | [d1, d2] => { results := [.lit (.bool true)], args := [d1, d2] }
  | _ => none }
def objsymPrefixRow : OpenClaim := { program := "ytfacepcmpijdpaa", sum := "db1c8258e7c40efdedc5d0541a075c4cf4c68bcf5187414b6c3b658671ad9631", func := "arlink/arlinklaw06.ObjsymPrefix", spec := "objsymPrefix", inPlace := ["internal/bytealg.IndexByteString", "internal/bytealg.IndexString"], unfollowed := true, recurses := true, named := ["internal/bytealg.MaxLen"], apart := false }
def ObjsymPrefixSaid : Prop := objsymPrefixRow.holds Try.pinned (OpenSpec.ofChange objsymPrefixSpec)

/-- ITS FALSE NEIGHBOUR: 'it returns false'. Refute it at one input. -/
def objsymPrefixWrong : ChangeSpec := { name := "objsymPrefix", fn := fun _ => fun
  | [d1, d2] => { results := [.lit (.bool false)], args := [d1, d2] }
  | _ => none }
def ObjsymPrefixWrongFalsely : Prop := objsymPrefixRow.holds Try.pinned (OpenSpec.ofChange objsymPrefixWrong)

/-- 'arlinklaw06.ObjsymKeeps': WHATEVER THE INPUT: true; the input reads as it did. -/
def objsymKeepsSpec : ChangeSpec := { name := "objsymKeeps", fn := fun _ => fun
  | [d1, d2] => { results := [.lit (.bool true)], args := [d1, d2] }
  | _ => none }
def objsymKeepsRow : OpenClaim := { program := "ytfacepcmpijdpaa", sum := "db1c8258e7c40efdedc5d0541a075c4cf4c68bcf5187414b6c3b658671ad9631", func := "arlink/arlinklaw06.ObjsymKeeps", spec := "objsymKeeps", inPlace := ["internal/bytealg.IndexByteString", "internal/bytealg.IndexString"], unfollowed := true, recurses := true, named := ["internal/bytealg.MaxLen"], apart := false }
def ObjsymKeepsSaid : Prop := objsymKeepsRow.holds Try.pinned (OpenSpec.ofChange objsymKeepsSpec)

/-- ITS FALSE NEIGHBOUR: 'it returns false'. Refute it at one input. -/
def objsymKeepsWrong : ChangeSpec := { name := "objsymKeeps", fn := fun _ => fun
  | [d1, d2] => { results := [.lit (.bool false)], args := [d1, d2] }
  | _ => none }
def ObjsymKeepsWrongFalsely : Prop := objsymKeepsRow.holds Try.pinned (OpenSpec.ofChange objsymKeepsWrong)

/- THE SECOND FORM. 'bulk': how many values and letters a reading holds, each counted each time it is reached (what is shared counts as often as it is met; a slice's spare places count too). A statement '..UptoSaid' is the law's where the arguments, and the package variables that the reading takes, are together of bulk at most 1048576: NARROWER than '..Said'. Prove '..Said' where nothing that the law and all that it calls make is longer than what came in: it says more and counts as full. Else prove '..UptoSaid'. A law counts once. -/
mutual
def uptoBulk {H : Type} : DataW H → Nat
  | .lit (.string bytes) => bytes.length + 1
  | .lit _ => 1
  | .nil => 1
  | .ptr d => uptoBulk d + 1
  | .slice elems spare => uptoBulkAll elems + uptoBulkAll spare + 1
  | .agg parts => uptoBulkAll parts + 1
  | .iface _ d => uptoBulk d + 1
  | .map entries => uptoBulkEntries entries + 1
  | .held _ => 1
def uptoBulkAll {H : Type} : List (DataW H) → Nat
  | [] => 0
  | d :: r => uptoBulk d + uptoBulkAll r
def uptoBulkEntries {H : Type} : List (Lit × DataW H) → Nat
  | [] => 0
  | x :: r => uptoBulkEntry x + uptoBulkEntries r
def uptoBulkEntry {H : Type} : Lit × DataW H → Nat
  | (.string bytes, d) => bytes.length + uptoBulk d + 1
  | (_, d) => uptoBulk d + 1
 end
def uptoSmall : (H : Type) → List (DataW H) → Bool := fun _ ds => decide (uptoBulkAll ds ≤ 1048576)
def OpenSpec.upto (s : _root_.Go.ChangeSpec) : _root_.Go.OpenSpec := { _root_.Go.OpenSpec.ofChange s with cond := some uptoSmall }

/-- 'arlinklaw07.ArmapMatchesReference', WHERE WHAT IT READS IS OF BULK AT MOST 1048576: true; the input reads as it did. -/
def armapMatchesReferenceUptoRow : OpenClaim := { program := "ytfacepcmpijdpaa", sum := "db1c8258e7c40efdedc5d0541a075c4cf4c68bcf5187414b6c3b658671ad9631", func := "arlink/arlinklaw07.ArmapMatchesReference", spec := "armapMatchesReference", inPlace := ["internal/bytealg.IndexByteString", "internal/bytealg.IndexString", "internal/bytealg.IndexByte"], unfollowed := true, recurses := true, named := ["internal/bytealg.MaxLen"], apart := false, narrowed := true }
def ArmapMatchesReferenceUptoSaid : Prop := armapMatchesReferenceUptoRow.holds Try.pinned (OpenSpec.upto armapMatchesReferenceSpec)

/-- 'arlinklaw07.ArmapUnique', WHERE WHAT IT READS IS OF BULK AT MOST 1048576: true; the input reads as it did. -/
def armapUniqueUptoRow : OpenClaim := { program := "ytfacepcmpijdpaa", sum := "db1c8258e7c40efdedc5d0541a075c4cf4c68bcf5187414b6c3b658671ad9631", func := "arlink/arlinklaw07.ArmapUnique", spec := "armapUnique", inPlace := ["internal/bytealg.IndexByteString", "internal/bytealg.IndexString", "internal/bytealg.IndexByte"], unfollowed := true, recurses := true, named := ["internal/bytealg.MaxLen"], apart := false, narrowed := true }
def ArmapUniqueUptoSaid : Prop := armapUniqueUptoRow.holds Try.pinned (OpenSpec.upto armapUniqueSpec)

/-- 'arlinklaw07.ArmapSize', WHERE WHAT IT READS IS OF BULK AT MOST 1048576: true; the input reads as it did. -/
def armapSizeUptoRow : OpenClaim := { program := "ytfacepcmpijdpaa", sum := "db1c8258e7c40efdedc5d0541a075c4cf4c68bcf5187414b6c3b658671ad9631", func := "arlink/arlinklaw07.ArmapSize", spec := "armapSize", inPlace := ["internal/bytealg.IndexByteString", "internal/bytealg.IndexString", "internal/bytealg.IndexByte"], unfollowed := true, recurses := true, named := ["internal/bytealg.MaxLen"], apart := false, narrowed := true }
def ArmapSizeUptoSaid : Prop := armapSizeUptoRow.holds Try.pinned (OpenSpec.upto armapSizeSpec)

/-- 'arlinklaw07.ArmapKeeps', WHERE WHAT IT READS IS OF BULK AT MOST 1048576: true; the input reads as it did. -/
def armapKeepsUptoRow : OpenClaim := { program := "ytfacepcmpijdpaa", sum := "db1c8258e7c40efdedc5d0541a075c4cf4c68bcf5187414b6c3b658671ad9631", func := "arlink/arlinklaw07.ArmapKeeps", spec := "armapKeeps", inPlace := ["internal/bytealg.IndexByteString", "internal/bytealg.IndexString", "internal/bytealg.IndexByte"], unfollowed := true, recurses := true, named := ["internal/bytealg.MaxLen"], apart := false, narrowed := true }
def ArmapKeepsUptoSaid : Prop := armapKeepsUptoRow.holds Try.pinned (OpenSpec.upto armapKeepsSpec)

/-- 'arlinklaw07.ArmapConcat', WHERE WHAT IT READS IS OF BULK AT MOST 1048576: true; the input reads as it did. -/
def armapConcatUptoRow : OpenClaim := { program := "ytfacepcmpijdpaa", sum := "db1c8258e7c40efdedc5d0541a075c4cf4c68bcf5187414b6c3b658671ad9631", func := "arlink/arlinklaw07.ArmapConcat", spec := "armapConcat", inPlace := ["internal/bytealg.IndexByteString", "internal/bytealg.IndexString", "internal/bytealg.IndexByte"], unfollowed := true, recurses := true, named := ["internal/bytealg.MaxLen"], apart := false, narrowed := true }
def ArmapConcatUptoSaid : Prop := armapConcatUptoRow.holds Try.pinned (OpenSpec.upto armapConcatSpec)

/-- 'arlinklaw06.ObjsymMatchesReference', WHERE WHAT IT READS IS OF BULK AT MOST 1048576: true; the input reads as it did. -/
def objsymMatchesReferenceUptoRow : OpenClaim := { program := "ytfacepcmpijdpaa", sum := "db1c8258e7c40efdedc5d0541a075c4cf4c68bcf5187414b6c3b658671ad9631", func := "arlink/arlinklaw06.ObjsymMatchesReference", spec := "objsymMatchesReference", inPlace := ["internal/bytealg.IndexByteString", "internal/bytealg.IndexString"], unfollowed := true, recurses := true, named := ["internal/bytealg.MaxLen"], apart := false, narrowed := true }
def ObjsymMatchesReferenceUptoSaid : Prop := objsymMatchesReferenceUptoRow.holds Try.pinned (OpenSpec.upto objsymMatchesReferenceSpec)

/-- 'arlinklaw06.ObjsymUnique', WHERE WHAT IT READS IS OF BULK AT MOST 1048576: true; the input reads as it did. -/
def objsymUniqueUptoRow : OpenClaim := { program := "ytfacepcmpijdpaa", sum := "db1c8258e7c40efdedc5d0541a075c4cf4c68bcf5187414b6c3b658671ad9631", func := "arlink/arlinklaw06.ObjsymUnique", spec := "objsymUnique", inPlace := ["internal/bytealg.IndexByteString", "internal/bytealg.IndexString"], unfollowed := true, recurses := true, named := ["internal/bytealg.MaxLen"], apart := false, narrowed := true }
def ObjsymUniqueUptoSaid : Prop := objsymUniqueUptoRow.holds Try.pinned (OpenSpec.upto objsymUniqueSpec)

/-- 'arlinklaw06.ObjsymTruncated', WHERE WHAT IT READS IS OF BULK AT MOST 1048576: true; the input reads as it did. -/
def objsymTruncatedUptoRow : OpenClaim := { program := "ytfacepcmpijdpaa", sum := "db1c8258e7c40efdedc5d0541a075c4cf4c68bcf5187414b6c3b658671ad9631", func := "arlink/arlinklaw06.ObjsymTruncated", spec := "objsymTruncated", inPlace := ["internal/bytealg.IndexByteString", "internal/bytealg.IndexString"], unfollowed := true, recurses := true, named := ["internal/bytealg.MaxLen"], apart := false, narrowed := true }
def ObjsymTruncatedUptoSaid : Prop := objsymTruncatedUptoRow.holds Try.pinned (OpenSpec.upto objsymTruncatedSpec)

/-- 'arlinklaw06.ObjsymPrefix', WHERE WHAT IT READS IS OF BULK AT MOST 1048576: true; the input reads as it did. -/
def objsymPrefixUptoRow : OpenClaim := { program := "ytfacepcmpijdpaa", sum := "db1c8258e7c40efdedc5d0541a075c4cf4c68bcf5187414b6c3b658671ad9631", func := "arlink/arlinklaw06.ObjsymPrefix", spec := "objsymPrefix", inPlace := ["internal/bytealg.IndexByteString", "internal/bytealg.IndexString"], unfollowed := true, recurses := true, named := ["internal/bytealg.MaxLen"], apart := false, narrowed := true }
def ObjsymPrefixUptoSaid : Prop := objsymPrefixUptoRow.holds Try.pinned (OpenSpec.upto objsymPrefixSpec)

/-- 'arlinklaw06.ObjsymKeeps', WHERE WHAT IT READS IS OF BULK AT MOST 1048576: true; the input reads as it did. -/
def objsymKeepsUptoRow : OpenClaim := { program := "ytfacepcmpijdpaa", sum := "db1c8258e7c40efdedc5d0541a075c4cf4c68bcf5187414b6c3b658671ad9631", func := "arlink/arlinklaw06.ObjsymKeeps", spec := "objsymKeeps", inPlace := ["internal/bytealg.IndexByteString", "internal/bytealg.IndexString"], unfollowed := true, recurses := true, named := ["internal/bytealg.MaxLen"], apart := false, narrowed := true }
def ObjsymKeepsUptoSaid : Prop := objsymKeepsUptoRow.holds Try.pinned (OpenSpec.upto objsymKeepsSpec)

end Rows
end Go.Proofs.Ytfacepcmpijdpaa
