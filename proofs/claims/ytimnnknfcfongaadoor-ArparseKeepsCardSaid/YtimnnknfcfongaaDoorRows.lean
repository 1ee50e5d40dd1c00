/-
  NARROWER THAN 'FOR EVERY INPUT', by the rows' own cells (each row's printed sentence says how): LongnameMatchesReference: laid · LongnameRoundTrip: laid · LongnameTables: laid · LongnameOffsets: laid · LongnameKeeps: laid · LongnameConcat: laid · ArparseMatchesReference: laid · ArparseTotal: laid · ArparseAppends: laid · ArparseSpecial: laid · ArparseKeeps: laid.
  DERIVED. THE GIVEN ROWS OF THIS SEAT. 11 by the template 'for every input the law returns true; each argument reads behind the call as it read before'; 0 by the template 'total and deterministic' (their statements: YtimnnknfcfongaaDoorTotals.lean).
  GIVEN WITH THE SEED: the statements are not yours to turn. If you find one false, say at which input.
  Laid BY PROGRAM, IN A SANDBOX (cutbox-rows.mjs): the forced cells as the released guide's own fill.sh prints them over the translation 281c6ef23f24c350… (all of the seat's roots in one cut). By AI agents, Wed Nov 11 2026. No macro, syntax, notation, axiom, sorry.
-/
import Derived.Test.YtimnnknfcfongaaDoorChecked
import GoSem.PinnedTables
import GoSem.Claim
import GoSem.ClaimJoined
import GoSem.ClaimMapViews
import Derived.JoinedTies
import Derived.KernelRfl
namespace Go.Proofs.YtimnnknfcfongaaDoor
/- THE CELL 'sum', in the pinned program and in every row, IS THE sha256 OF THE DUMP (.gsa) THAT YtimnnknfcfongaaDoorProg.lean LOADS. Nothing in Lean hashes anything: it is a label: what it is worth is what the hold of that sum in a sandbox is worth. -/
noncomputable def Tryd.pinned : Pinned := { name := "ytimnnknfcfongaadoor", sum := "281c6ef23f24c35008c8b9849c9f2b10695c2c6b89464fc0590e95a2e58f17bc", checked := Tryd.checked }
namespace Rows
def none {H : Type} : Left H := { results := [], args := [] }

/- WHAT THE LISTED PACKAGE-LEVEL VARIABLES READ AS WHEN THE CALL BEGINS. Each datum BY PROGRAM (the guide's laid-datum.mjs) off the statement by which the dump's own 'gosem.cut.vars' lays the variable. In a bare row this is a premise. The card (YtimnnknfcfongaaDoorCards.lean) ties it to the program's text. -/
def laid_math_bits_deBruijn32tab {H : Type} : DataW H := .agg [.lit (.int .u8 0), .lit (.int .u8 1), .lit (.int .u8 28), .lit (.int .u8 2), .lit (.int .u8 29), .lit (.int .u8 14), .lit (.int .u8 24), .lit (.int .u8 3), .lit (.int .u8 30), .lit (.int .u8 22), .lit (.int .u8 20), .lit (.int .u8 15), .lit (.int .u8 25), .lit (.int .u8 17), .lit (.int .u8 4), .lit (.int .u8 8), .lit (.int .u8 31), .lit (.int .u8 27), .lit (.int .u8 13), .lit (.int .u8 23), .lit (.int .u8 21), .lit (.int .u8 19), .lit (.int .u8 16), .lit (.int .u8 7), .lit (.int .u8 26), .lit (.int .u8 12), .lit (.int .u8 18), .lit (.int .u8 6), .lit (.int .u8 11), .lit (.int .u8 5), .lit (.int .u8 10), .lit (.int .u8 9)]
def laid_math_bits_deBruijn64tab {H : Type} : DataW H := .agg [.lit (.int .u8 0), .lit (.int .u8 1), .lit (.int .u8 56), .lit (.int .u8 2), .lit (.int .u8 57), .lit (.int .u8 49), .lit (.int .u8 28), .lit (.int .u8 3), .lit (.int .u8 61), .lit (.int .u8 58), .lit (.int .u8 42), .lit (.int .u8 50), .lit (.int .u8 38), .lit (.int .u8 29), .lit (.int .u8 17), .lit (.int .u8 4), .lit (.int .u8 62), .lit (.int .u8 47), .lit (.int .u8 59), .lit (.int .u8 36), .lit (.int .u8 45), .lit (.int .u8 43), .lit (.int .u8 51), .lit (.int .u8 22), .lit (.int .u8 53), .lit (.int .u8 39), .lit (.int .u8 33), .lit (.int .u8 30), .lit (.int .u8 24), .lit (.int .u8 18), .lit (.int .u8 12), .lit (.int .u8 5), .lit (.int .u8 63), .lit (.int .u8 55), .lit (.int .u8 48), .lit (.int .u8 27), .lit (.int .u8 60), .lit (.int .u8 41), .lit (.int .u8 37), .lit (.int .u8 16), .lit (.int .u8 46), .lit (.int .u8 35), .lit (.int .u8 44), .lit (.int .u8 21), .lit (.int .u8 52), .lit (.int .u8 32), .lit (.int .u8 23), .lit (.int .u8 11), .lit (.int .u8 54), .lit (.int .u8 26), .lit (.int .u8 40), .lit (.int .u8 15), .lit (.int .u8 34), .lit (.int .u8 20), .lit (.int .u8 31), .lit (.int .u8 10), .lit (.int .u8 25), .lit (.int .u8 14), .lit (.int .u8 19), .lit (.int .u8 9), .lit (.int .u8 13), .lit (.int .u8 8), .lit (.int .u8 7), .lit (.int .u8 6)]
def laid_internal_strconv_uint64pow10 {H : Type} : DataW H := .agg [.lit (.int .u64 1), .lit (.int .u64 10), .lit (.int .u64 100), .lit (.int .u64 1000), .lit (.int .u64 10000), .lit (.int .u64 100000), .lit (.int .u64 1000000), .lit (.int .u64 10000000), .lit (.int .u64 100000000), .lit (.int .u64 1000000000), .lit (.int .u64 10000000000), .lit (.int .u64 100000000000), .lit (.int .u64 1000000000000), .lit (.int .u64 10000000000000), .lit (.int .u64 100000000000000), .lit (.int .u64 1000000000000000), .lit (.int .u64 10000000000000000), .lit (.int .u64 100000000000000000), .lit (.int .u64 1000000000000000000), .lit (.int .u64 10000000000000000000)]
def laid_unicode_utf8_acceptRanges {H : Type} : DataW H := .agg [.agg [.lit (.int .u8 128), .lit (.int .u8 191)], .agg [.lit (.int .u8 160), .lit (.int .u8 191)], .agg [.lit (.int .u8 128), .lit (.int .u8 159)], .agg [.lit (.int .u8 144), .lit (.int .u8 191)], .agg [.lit (.int .u8 128), .lit (.int .u8 143)], .agg [.lit (.int .u8 0), .lit (.int .u8 0)], .agg [.lit (.int .u8 0), .lit (.int .u8 0)], .agg [.lit (.int .u8 0), .lit (.int .u8 0)], .agg [.lit (.int .u8 0), .lit (.int .u8 0)], .agg [.lit (.int .u8 0), .lit (.int .u8 0)], .agg [.lit (.int .u8 0), .lit (.int .u8 0)], .agg [.lit (.int .u8 0), .lit (.int .u8 0)], .agg [.lit (.int .u8 0), .lit (.int .u8 0)], .agg [.lit (.int .u8 0), .lit (.int .u8 0)], .agg [.lit (.int .u8 0), .lit (.int .u8 0)], .agg [.lit (.int .u8 0), .lit (.int .u8 0)]]
/-- One of Go's own tables, pinned by name: the form's constant. -/
def laid_unicode_utf8_first : DataW Unit := Go.Pinned.utf8First

/-- 'arlinklaw03.LongnameMatchesReference': WHATEVER THE INPUT: true; the input reads as it did. -/
def longnameMatchesReferenceSpec : ChangeSpec := { name := "longnameMatchesReference", fn := fun _ => fun
  | [d1, d2, d3, d4] => { results := [.lit (.bool true)], args := [d1, d2, d3, d4] }
  | _ => none }
def longnameMatchesReferenceRow : OpenClaim := { program := "ytimnnknfcfongaadoor", sum := "281c6ef23f24c35008c8b9849c9f2b10695c2c6b89464fc0590e95a2e58f17bc", func := "arlink/arlinklaw03.LongnameMatchesReference", spec := "longnameMatchesReference", inPlace := ["internal/bytealg.IndexByteString", "internal/bytealg.IndexString", "internal/bytealg.IndexByte", "internal/bytealg.Index"], unfollowed := true, recurses := true, named := ["internal/strconv.uint64pow10", "math/bits.deBruijn32tab", "math/bits.deBruijn64tab", "internal/bytealg.MaxLen"], apart := false, laid := [("math/bits.deBruijn32tab", laid_math_bits_deBruijn32tab), ("math/bits.deBruijn64tab", laid_math_bits_deBruijn64tab), ("internal/strconv.uint64pow10", laid_internal_strconv_uint64pow10)] }
def LongnameMatchesReferenceSaid : Prop := longnameMatchesReferenceRow.holds Tryd.pinned (OpenSpec.ofChange longnameMatchesReferenceSpec)

/-- ITS FALSE NEIGHBOUR: 'it returns false'. Refute it at one input. -/
def longnameMatchesReferenceWrong : ChangeSpec := { name := "longnameMatchesReference", fn := fun _ => fun
  | [d1, d2, d3, d4] => { results := [.lit (.bool false)], args := [d1, d2, d3, d4] }
  | _ => none }
def LongnameMatchesReferenceWrongFalsely : Prop := longnameMatchesReferenceRow.holds Tryd.pinned (OpenSpec.ofChange longnameMatchesReferenceWrong)

/-- 'arlinklaw03.LongnameRoundTrip': WHATEVER THE INPUT: true; the input reads as it did. -/
def longnameRoundTripSpec : ChangeSpec := { name := "longnameRoundTrip", fn := fun _ => fun
  | [d] => { results := [.lit (.bool true)], args := [d] }
  | _ => none }
def longnameRoundTripRow : OpenClaim := { program := "ytimnnknfcfongaadoor", sum := "281c6ef23f24c35008c8b9849c9f2b10695c2c6b89464fc0590e95a2e58f17bc", func := "arlink/arlinklaw03.LongnameRoundTrip", spec := "longnameRoundTrip", inPlace := ["internal/bytealg.IndexByteString", "internal/bytealg.IndexString", "internal/bytealg.IndexByte", "internal/bytealg.Index"], unfollowed := true, recurses := true, named := ["internal/strconv.uint64pow10", "math/bits.deBruijn32tab", "math/bits.deBruijn64tab", "internal/bytealg.MaxLen"], apart := false, laid := [("math/bits.deBruijn32tab", laid_math_bits_deBruijn32tab), ("math/bits.deBruijn64tab", laid_math_bits_deBruijn64tab), ("internal/strconv.uint64pow10", laid_internal_strconv_uint64pow10)] }
def LongnameRoundTripSaid : Prop := longnameRoundTripRow.holds Tryd.pinned (OpenSpec.ofChange longnameRoundTripSpec)

/-- ITS FALSE NEIGHBOUR: 'it returns false'. Refute it at one input. -/
def longnameRoundTripWrong : ChangeSpec := { name := "longnameRoundTrip", fn := fun _ => fun
  | [d] => { results := [.lit (.bool false)], args := [d] }
  | _ => none }
def LongnameRoundTripWrongFalsely : Prop := longnameRoundTripRow.holds Tryd.pinned (OpenSpec.ofChange longnameRoundTripWrong)

/-- 'arlinklaw03.LongnameTables': WHATEVER THE INPUT: true; the input reads as it did. -/
def longnameTablesSpec : ChangeSpec := { name := "longnameTables", fn := fun _ => fun
  | [d] => { results := [.lit (.bool true)], args := [d] }
  | _ => none }
def longnameTablesRow : OpenClaim := { program := "ytimnnknfcfongaadoor", sum := "281c6ef23f24c35008c8b9849c9f2b10695c2c6b89464fc0590e95a2e58f17bc", func := "arlink/arlinklaw03.LongnameTables", spec := "longnameTables", inPlace := ["internal/bytealg.IndexByteString", "internal/bytealg.IndexString", "internal/bytealg.IndexByte", "internal/bytealg.Index"], unfollowed := true, recurses := true, named := ["internal/strconv.uint64pow10", "math/bits.deBruijn32tab", "math/bits.deBruijn64tab", "internal/bytealg.MaxLen"], apart := false, laid := [("math/bits.deBruijn32tab", laid_math_bits_deBruijn32tab), ("math/bits.deBruijn64tab", laid_math_bits_deBruijn64tab), ("internal/strconv.uint64pow10", laid_internal_strconv_uint64pow10)] }
def LongnameTablesSaid : Prop := longnameTablesRow.holds Tryd.pinned (OpenSpec.ofChange longnameTablesSpec)

/-- ITS FALSE NEIGHBOUR: 'it returns false'. Refute it at one input. -/
def longnameTablesWrong : ChangeSpec := { name := "longnameTables", fn := fun _ => fun
  | [d] => { results := [.lit (.bool false)], args := [d] }
  | _ => none }
def LongnameTablesWrongFalsely : Prop := longnameTablesRow.holds Tryd.pinned (OpenSpec.ofChange longnameTablesWrong)

/-- 'arlinklaw03.LongnameOffsets': WHATEVER THE INPUT: true; the input reads as it did. -/
def longnameOffsetsSpec : ChangeSpec := { name := "longnameOffsets", fn := fun _ => fun
  | [d1, d2] => { results := [.lit (.bool true)], args := [d1, d2] }
  | _ => none }
def longnameOffsetsRow : OpenClaim := { program := "ytimnnknfcfongaadoor", sum := "281c6ef23f24c35008c8b9849c9f2b10695c2c6b89464fc0590e95a2e58f17bc", func := "arlink/arlinklaw03.LongnameOffsets", spec := "longnameOffsets", inPlace := ["internal/bytealg.IndexByteString", "internal/bytealg.IndexString", "internal/bytealg.IndexByte", "internal/bytealg.Index"], unfollowed := true, recurses := true, named := ["internal/strconv.uint64pow10", "math/bits.deBruijn32tab", "math/bits.deBruijn64tab", "internal/bytealg.MaxLen"], apart := false, laid := [("math/bits.deBruijn32tab", laid_math_bits_deBruijn32tab), ("math/bits.deBruijn64tab", laid_math_bits_deBruijn64tab), ("internal/strconv.uint64pow10", laid_internal_strconv_uint64pow10)] }
def LongnameOffsetsSaid : Prop := longnameOffsetsRow.holds Tryd.pinned (OpenSpec.ofChange longnameOffsetsSpec)

/-- ITS FALSE NEIGHBOUR: 'it returns false'. Refute it at one input. -/
def longnameOffsetsWrong : ChangeSpec := { name := "longnameOffsets", fn := fun _ => fun
  | [d1, d2] => { results := [.lit (.bool false)], args := [d1, d2] }
  | _ => none }
def LongnameOffsetsWrongFalsely : Prop := longnameOffsetsRow.holds Tryd.pinned (OpenSpec.ofChange longnameOffsetsWrong)

/-- 'arlinklaw03.LongnameKeeps': WHATEVER THE INPUT: true; the input reads as it did. -/
def longnameKeepsSpec : ChangeSpec := { name := "longnameKeeps", fn := fun _ => fun
  | [d1, d2] => { results := [.lit (.bool true)], args := [d1, d2] }
  | _ => none }
def longnameKeepsRow : OpenClaim := { program := "ytimnnknfcfongaadoor", sum := "281c6ef23f24c35008c8b9849c9f2b10695c2c6b89464fc0590e95a2e58f17bc", func := "arlink/arlinklaw03.LongnameKeeps", spec := "longnameKeeps", inPlace := ["internal/bytealg.IndexByteString", "internal/bytealg.IndexString", "internal/bytealg.IndexByte", "internal/bytealg.Index"], unfollowed := true, recurses := true, named := ["internal/strconv.uint64pow10", "math/bits.deBruijn32tab", "math/bits.deBruijn64tab", "internal/bytealg.MaxLen"], apart := false, laid := [("math/bits.deBruijn32tab", laid_math_bits_deBruijn32tab), ("math/bits.deBruijn64tab", laid_math_bits_deBruijn64tab), ("internal/strconv.uint64pow10", laid_internal_strconv_uint64pow10)] }
def LongnameKeepsSaid : Prop := longnameKeepsRow.holds Tryd.pinned (OpenSpec.ofChange longnameKeepsSpec)

/-- ITS FALSE NEIGHBOUR: 'it returns false'. Refute it at one input. -/
def longnameKeepsWrong : ChangeSpec := { name := "longnameKeeps", fn := fun _ => fun
  | [d1, d2] => { results := [.lit (.bool false)], args := [d1, d2] }
  | _ => none }
def LongnameKeepsWrongFalsely : Prop := longnameKeepsRow.holds Tryd.pinned (OpenSpec.ofChange longnameKeepsWrong)

/-- 'arlinklaw03.LongnameConcat': WHATEVER THE INPUT: true; the input reads as it did. -/
def longnameConcatSpec : ChangeSpec := { name := "longnameConcat", fn := fun _ => fun
  | [d1, d2] => { results := [.lit (.bool true)], args := [d1, d2] }
  | _ => none }
def longnameConcatRow : OpenClaim := { program := "ytimnnknfcfongaadoor", sum := "281c6ef23f24c35008c8b9849c9f2b10695c2c6b89464fc0590e95a2e58f17bc", func := "arlink/arlinklaw03.LongnameConcat", spec := "longnameConcat", inPlace := ["internal/bytealg.IndexByteString", "internal/bytealg.IndexString", "internal/bytealg.IndexByte", "internal/bytealg.Index"], unfollowed := true, recurses := true, named := ["internal/strconv.uint64pow10", "math/bits.deBruijn32tab", "math/bits.deBruijn64tab", "internal/bytealg.MaxLen"], apart := false, laid := [("math/bits.deBruijn32tab", laid_math_bits_deBruijn32tab), ("math/bits.deBruijn64tab", laid_math_bits_deBruijn64tab), ("internal/strconv.uint64pow10", laid_internal_strconv_uint64pow10)] }
def LongnameConcatSaid : Prop := longnameConcatRow.holds Tryd.pinned (OpenSpec.ofChange longnameConcatSpec)

/-- ITS FALSE NEIGHBOUR: 'it returns false'. Refute it at one input. -/
def longnameConcatWrong : ChangeSpec := { name := "longnameConcat", fn := fun _ => fun
  | [d1, d2] => { results := [.lit (.bool false)], args := [d1, d2] }
  | _ => none }
def LongnameConcatWrongFalsely : Prop := longnameConcatRow.holds Tryd.pinned (OpenSpec.ofChange longnameConcatWrong)

/-- 'arlinklaw04.ArparseMatchesReference': WHATEVER THE INPUT: true; the input reads as it did. -/
def arparseMatchesReferenceSpec : ChangeSpec := { name := "arparseMatchesReference", fn := fun _ => fun
  | [d] => { results := [.lit (.bool true)], args := [d] }
  | _ => none }
def arparseMatchesReferenceRow : OpenClaim := { program := "ytimnnknfcfongaadoor", sum := "281c6ef23f24c35008c8b9849c9f2b10695c2c6b89464fc0590e95a2e58f17bc", func := "arlink/arlinklaw04.ArparseMatchesReference", spec := "arparseMatchesReference", inPlace := ["internal/bytealg.IndexByteString", "internal/bytealg.IndexString", "internal/bytealg.IndexByte", "internal/bytealg.Index"], unfollowed := true, recurses := true, named := ["unicode/utf8.first", "unicode/utf8.acceptRanges", "internal/bytealg.MaxLen"], apart := false, laid := [("unicode/utf8.acceptRanges", laid_unicode_utf8_acceptRanges), ("unicode/utf8.first", laid_unicode_utf8_first)] }
def ArparseMatchesReferenceSaid : Prop := arparseMatchesReferenceRow.holds Tryd.pinned (OpenSpec.ofChange arparseMatchesReferenceSpec)

/-- ITS FALSE NEIGHBOUR: 'it returns false'. Refute it at one input. -/
def arparseMatchesReferenceWrong : ChangeSpec := { name := "arparseMatchesReference", fn := fun _ => fun
  | [d] => { results := [.lit (.bool false)], args := [d] }
  | _ => none }
def ArparseMatchesReferenceWrongFalsely : Prop := arparseMatchesReferenceRow.holds Tryd.pinned (OpenSpec.ofChange arparseMatchesReferenceWrong)

/-- 'arlinklaw04.ArparseTotal': WHATEVER THE INPUT: true; the input reads as it did. -/
def arparseTotalSpec : ChangeSpec := { name := "arparseTotal", fn := fun _ => fun
  | [d] => { results := [.lit (.bool true)], args := [d] }
  | _ => none }
def arparseTotalRow : OpenClaim := { program := "ytimnnknfcfongaadoor", sum := "281c6ef23f24c35008c8b9849c9f2b10695c2c6b89464fc0590e95a2e58f17bc", func := "arlink/arlinklaw04.ArparseTotal", spec := "arparseTotal", inPlace := ["internal/bytealg.IndexByteString", "internal/bytealg.IndexString", "internal/bytealg.IndexByte", "internal/bytealg.Index"], unfollowed := true, recurses := true, named := ["unicode/utf8.first", "unicode/utf8.acceptRanges", "internal/bytealg.MaxLen"], apart := false, laid := [("unicode/utf8.acceptRanges", laid_unicode_utf8_acceptRanges), ("unicode/utf8.first", laid_unicode_utf8_first)] }
def ArparseTotalSaid : Prop := arparseTotalRow.holds Tryd.pinned (OpenSpec.ofChange arparseTotalSpec)

/-- ITS FALSE NEIGHBOUR: 'it returns false'. Refute it at one input. -/
def arparseTotalWrong : ChangeSpec := { name := "arparseTotal", fn := fun _ => fun
  | [d] => { results := [.lit (.bool false)], args := [d] }
  | _ => none }
def ArparseTotalWrongFalsely : Prop := arparseTotalRow.holds Tryd.pinned (OpenSpec.ofChange arparseTotalWrong)

/-- 'arlinklaw04.ArparseAppends': WHATEVER THE INPUT: true; the input reads as it did. -/
def arparseAppendsSpec : ChangeSpec := { name := "arparseAppends", fn := fun _ => fun
  | [d1, d2, d3] => { results := [.lit (.bool true)], args := [d1, d2, d3] }
  | _ => none }
def arparseAppendsRow : OpenClaim := { program := "ytimnnknfcfongaadoor", sum := "281c6ef23f24c35008c8b9849c9f2b10695c2c6b89464fc0590e95a2e58f17bc", func := "arlink/arlinklaw04.ArparseAppends", spec := "arparseAppends", inPlace := ["internal/bytealg.IndexByteString", "internal/bytealg.IndexString", "internal/bytealg.IndexByte", "internal/bytealg.Index"], unfollowed := true, recurses := true, named := ["unicode/utf8.first", "unicode/utf8.acceptRanges", "internal/bytealg.MaxLen"], apart := false, laid := [("unicode/utf8.acceptRanges", laid_unicode_utf8_acceptRanges), ("unicode/utf8.first", laid_unicode_utf8_first)] }
def ArparseAppendsSaid : Prop := arparseAppendsRow.holds Tryd.pinned (OpenSpec.ofChange arparseAppendsSpec)

/-- ITS FALSE NEIGHBOUR: 'it returns false'. Refute it at one input. -/
def arparseAppendsWrong : ChangeSpec := { name := "arparseAppends", fn := fun _ => fun
  | [d1, d2, d3] => { results := [.lit (.bool false)], args := [d1, d2, d3] }
  | _ => none }
def ArparseAppendsWrongFalsely : Prop := arparseAppendsRow.holds Tryd.pinned (OpenSpec.ofChange arparseAppendsWrong)

/-- 'arlinklaw04.ArparseSpecial': WHATEVER THE INPUT: true; the input reads as it did. -/
def arparseSpecialSpec : ChangeSpec := { name := "arparseSpecial", fn := fun _ => fun
  | [d1, d2] => { results := [.lit (.bool true)], args := [d1, d2] }
  | _ => none }
def arparseSpecialRow : OpenClaim := { program := "ytimnnknfcfongaadoor", sum := "281c6ef23f24c35008c8b9849c9f2b10695c2c6b89464fc0590e95a2e58f17bc", func := "arlink/arlinklaw04.ArparseSpecial", spec := "arparseSpecial", inPlace := ["internal/bytealg.IndexByteString", "internal/bytealg.IndexString", "internal/bytealg.IndexByte", "internal/bytealg.Index"], unfollowed := true, recurses := true, named := ["unicode/utf8.first", "unicode/utf8.acceptRanges", "internal/bytealg.MaxLen"], apart := false, laid := [("unicode/utf8.acceptRanges", laid_unicode_utf8_acceptRanges), ("unicode/utf8.first", laid_unicode_utf8_first)] }
def ArparseSpecialSaid : Prop := arparseSpecialRow.holds Tryd.pinned (OpenSpec.ofChange arparseSpecialSpec)

/-- ITS FALSE NEIGHBOUR: 'it returns false'. Refute it at one input. -/
def arparseSpecialWrong : ChangeSpec := { name := "arparseSpecial", fn := fun _ => fun
  | [d1, d2] => { results := [.lit (.bool false)], args := [d1, d2] }
  | _ => none }
def ArparseSpecialWrongFalsely : Prop := arparseSpecialRow.holds Tryd.pinned (OpenSpec.ofChange arparseSpecialWrong)

/-- 'arlinklaw04.ArparseKeeps': WHATEVER THE INPUT: true; the input reads as it did. -/
def arparseKeepsSpec : ChangeSpec := { name := "arparseKeeps", fn := fun _ => fun
  | [d] => { results := [.lit (.bool true)], args := [d] }
  | _ => none }
def arparseKeepsRow : OpenClaim := { program := "ytimnnknfcfongaadoor", sum := "281c6ef23f24c35008c8b9849c9f2b10695c2c6b89464fc0590e95a2e58f17bc", func := "arlink/arlinklaw04.ArparseKeeps", spec := "arparseKeeps", inPlace := ["internal/bytealg.IndexByteString", "internal/bytealg.IndexString", "internal/bytealg.IndexByte", "internal/bytealg.Index"], unfollowed := true, recurses := true, named := ["unicode/utf8.first", "unicode/utf8.acceptRanges", "internal/bytealg.MaxLen"], apart := false, laid := [("unicode/utf8.acceptRanges", laid_unicode_utf8_acceptRanges), ("unicode/utf8.first", laid_unicode_utf8_first)] }
def ArparseKeepsSaid : Prop := arparseKeepsRow.holds Tryd.pinned (OpenSpec.ofChange arparseKeepsSpec)

/-- ITS FALSE NEIGHBOUR: 'it returns false'. Refute it at one input. -/
def arparseKeepsWrong : ChangeSpec := { name := "arparseKeeps", fn := fun _ => fun
  | [d] => { results := [.lit (.bool false)], args := [d] }
  | _ => none }
def ArparseKeepsWrongFalsely : Prop := arparseKeepsRow.holds Tryd.pinned (OpenSpec.ofChange arparseKeepsWrong)

/- THE SECOND FORM. 'bulk': how many values and letters a reading holds, each counted each time it is reached (what is shared counts as often as it is met; a slice's spare places count too). A statement '..UptoSaid' is the law's where the arguments, and the package variables that the reading takes, are together of bulk at most 1048576: NARROWER than '..Said'. Prove '..Said' where nothing that the law and all that it calls make is longer than what came in: it says more and counts as full. Else prove '..UptoSaid'. A law counts once. -/
mutual
def uptoBulk {H : Type} : DataW H → Nat
  | .lit (.string bytes) => bytes.length + 1
  | .lit _ => 1
  | .nil => 1
  | .ptr d => uptoBulk d + 1
  | .slice elems spare => uptoBulkAll elems + uptoBulkAll spare + 1
  | .agg parts => uptoBulkAll parts + 1
  | .iface _ d => uptoBulk d + 1
  | .map entries => uptoBulkEntries entries + 1
  | .held _ => 1
def uptoBulkAll {H : Type} : List (DataW H) → Nat
  | [] => 0
  | d :: r => uptoBulk d + uptoBulkAll r
def uptoBulkEntries {H : Type} : List (Lit × DataW H) → Nat
  | [] => 0
  | x :: r => uptoBulkEntry x + uptoBulkEntries r
def uptoBulkEntry {H : Type} : Lit × DataW H → Nat
  | (.string bytes, d) => bytes.length + uptoBulk d + 1
  | (_, d) => uptoBulk d + 1
 end
def uptoSmall : (H : Type) → List (DataW H) → Bool := fun _ ds => decide (uptoBulkAll ds ≤ 1048576)
def OpenSpec.upto (s : _root_.Go.ChangeSpec) : _root_.Go.OpenSpec := { _root_.Go.OpenSpec.ofChange s with cond := some uptoSmall }

/-- 'arlinklaw03.LongnameMatchesReference', WHERE WHAT IT READS IS OF BULK AT MOST 1048576: true; the input reads as it did. -/
def longnameMatchesReferenceUptoRow : OpenClaim := { program := "ytimnnknfcfongaadoor", sum := "281c6ef23f24c35008c8b9849c9f2b10695c2c6b89464fc0590e95a2e58f17bc", func := "arlink/arlinklaw03.LongnameMatchesReference", spec := "longnameMatchesReference", inPlace := ["internal/bytealg.IndexByteString", "internal/bytealg.IndexString", "internal/bytealg.IndexByte", "internal/bytealg.Index"], unfollowed := true, recurses := true, named := ["internal/strconv.uint64pow10", "math/bits.deBruijn32tab", "math/bits.deBruijn64tab", "internal/bytealg.MaxLen"], apart := false, laid := [("math/bits.deBruijn32tab", laid_math_bits_deBruijn32tab), ("math/bits.deBruijn64tab", laid_math_bits_deBruijn64tab), ("internal/strconv.uint64pow10", laid_internal_strconv_uint64pow10)], narrowed := true }
def LongnameMatchesReferenceUptoSaid : Prop := longnameMatchesReferenceUptoRow.holds Tryd.pinned (OpenSpec.upto longnameMatchesReferenceSpec)

/-- 'arlinklaw03.LongnameRoundTrip', WHERE WHAT IT READS IS OF BULK AT MOST 1048576: true; the input reads as it did. -/
def longnameRoundTripUptoRow : OpenClaim := { program := "ytimnnknfcfongaadoor", sum := "281c6ef23f24c35008c8b9849c9f2b10695c2c6b89464fc0590e95a2e58f17bc", func := "arlink/arlinklaw03.LongnameRoundTrip", spec := "longnameRoundTrip", inPlace := ["internal/bytealg.IndexByteString", "internal/bytealg.IndexString", "internal/bytealg.IndexByte", "internal/bytealg.Index"], unfollowed := true, recurses := true, named := ["internal/strconv.uint64pow10", "math/bits.deBruijn32tab", "math/bits.deBruijn64tab", "internal/bytealg.MaxLen"], apart := false, laid := [("math/bits.deBruijn32tab", laid_math_bits_deBruijn32tab), ("math/bits.deBruijn64tab", laid_math_bits_deBruijn64tab), ("internal/strconv.uint64pow10", laid_internal_strconv_uint64pow10)], narrowed := true }
def LongnameRoundTripUptoSaid : Prop := longnameRoundTripUptoRow.holds Tryd.pinned (OpenSpec.upto longnameRoundTripSpec)

/-- 'arlinklaw03.LongnameTables', WHERE WHAT IT READS IS OF BULK AT MOST 1048576: true; the input reads as it did. -/
def longnameTablesUptoRow : OpenClaim := { program := "ytimnnknfcfongaadoor", sum := "281c6ef23f24c35008c8b9849c9f2b10695c2c6b89464fc0590e95a2e58f17bc", func := "arlink/arlinklaw03.LongnameTables", spec := "longnameTables", inPlace := ["internal/bytealg.IndexByteString", "internal/bytealg.IndexString", "internal/bytealg.IndexByte", "internal/bytealg.Index"], unfollowed := true, recurses := true, named := ["internal/strconv.uint64pow10", "math/bits.deBruijn32tab", "math/bits.deBruijn64tab", "internal/bytealg.MaxLen"], apart := false, laid := [("math/bits.deBruijn32tab", laid_math_bits_deBruijn32tab), ("math/bits.deBruijn64tab", laid_math_bits_deBruijn64tab), ("internal/strconv.uint64pow10", laid_internal_strconv_uint64pow10)], narrowed := true }
def LongnameTablesUptoSaid : Prop := longnameTablesUptoRow.holds Tryd.pinned (OpenSpec.upto longnameTablesSpec)

/-- 'arlinklaw03.LongnameOffsets', WHERE WHAT IT READS IS OF BULK AT MOST 1048576: true; the input reads as it did. -/
def longnameOffsetsUptoRow : OpenClaim := { program := "ytimnnknfcfongaadoor", sum := "281c6ef23f24c35008c8b9849c9f2b10695c2c6b89464fc0590e95a2e58f17bc", func := "arlink/arlinklaw03.LongnameOffsets", spec := "longnameOffsets", inPlace := ["internal/bytealg.IndexByteString", "internal/bytealg.IndexString", "internal/bytealg.IndexByte", "internal/bytealg.Index"], unfollowed := true, recurses := true, named := ["internal/strconv.uint64pow10", "math/bits.deBruijn32tab", "math/bits.deBruijn64tab", "internal/bytealg.MaxLen"], apart := false, laid := [("math/bits.deBruijn32tab", laid_math_bits_deBruijn32tab), ("math/bits.deBruijn64tab", laid_math_bits_deBruijn64tab), ("internal/strconv.uint64pow10", laid_internal_strconv_uint64pow10)], narrowed := true }
def LongnameOffsetsUptoSaid : Prop := longnameOffsetsUptoRow.holds Tryd.pinned (OpenSpec.upto longnameOffsetsSpec)

/-- 'arlinklaw03.LongnameKeeps', WHERE WHAT IT READS IS OF BULK AT MOST 1048576: true; the input reads as it did. -/
def longnameKeepsUptoRow : OpenClaim := { program := "ytimnnknfcfongaadoor", sum := "281c6ef23f24c35008c8b9849c9f2b10695c2c6b89464fc0590e95a2e58f17bc", func := "arlink/arlinklaw03.LongnameKeeps", spec := "longnameKeeps", inPlace := ["internal/bytealg.IndexByteString", "internal/bytealg.IndexString", "internal/bytealg.IndexByte", "internal/bytealg.Index"], unfollowed := true, recurses := true, named := ["internal/strconv.uint64pow10", "math/bits.deBruijn32tab", "math/bits.deBruijn64tab", "internal/bytealg.MaxLen"], apart := false, laid := [("math/bits.deBruijn32tab", laid_math_bits_deBruijn32tab), ("math/bits.deBruijn64tab", laid_math_bits_deBruijn64tab), ("internal/strconv.uint64pow10", laid_internal_strconv_uint64pow10)], narrowed := true }
def LongnameKeepsUptoSaid : Prop := longnameKeepsUptoRow.holds Tryd.pinned (OpenSpec.upto longnameKeepsSpec)

/-- 'arlinklaw03.LongnameConcat', WHERE WHAT IT READS IS OF BULK AT MOST 1048576: true; the input reads as it did. -/
def longnameConcatUptoRow : OpenClaim := { program := "ytimnnknfcfongaadoor", sum := "281c6ef23f24c35008c8b9849c9f2b10695c2c6b89464fc0590e95a2e58f17bc", func := "arlink/arlinklaw03.LongnameConcat", spec := "longnameConcat", inPlace := ["internal/bytealg.IndexByteString", "internal/bytealg.IndexString", "internal/bytealg.IndexByte", "internal/bytealg.Index"], unfollowed := true, recurses := true, named := ["internal/strconv.uint64pow10", "math/bits.deBruijn32tab", "math/bits.deBruijn64tab", "internal/bytealg.MaxLen"], apart := false, laid := [("math/bits.deBruijn32tab", laid_math_bits_deBruijn32tab), ("math/bits.deBruijn64tab", laid_math_bits_deBruijn64tab), ("internal/strconv.uint64pow10", laid_internal_strconv_uint64pow10)], narrowed := true }
def LongnameConcatUptoSaid : Prop := longnameConcatUptoRow.holds Tryd.pinned (OpenSpec.upto longnameConcatSpec)

/-- 'arlinklaw04.ArparseMatchesReference', WHERE WHAT IT READS IS OF BULK AT MOST 1048576: true; the input reads as it did. -/
def arparseMatchesReferenceUptoRow : OpenClaim := { program := "ytimnnknfcfongaadoor", sum := "281c6ef23f24c35008c8b9849c9f2b10695c2c6b89464fc0590e95a2e58f17bc", func := "arlink/arlinklaw04.ArparseMatchesReference", spec := "arparseMatchesReference", inPlace := ["internal/bytealg.IndexByteString", "internal/bytealg.IndexString", "internal/bytealg.IndexByte", "internal/bytealg.Index"], unfollowed := true, recurses := true, named := ["unicode/utf8.first", "unicode/utf8.acceptRanges", "internal/bytealg.MaxLen"], apart := false, laid := [("unicode/utf8.acceptRanges", laid_unicode_utf8_acceptRanges), ("unicode/utf8.first", laid_unicode_utf8_first)], narrowed := true }
def ArparseMatchesReferenceUptoSaid : Prop := arparseMatchesReferenceUptoRow.holds Tryd.pinned (OpenSpec.upto arparseMatchesReferenceSpec)

/-- 'arlinklaw04.ArparseTotal', WHERE WHAT IT READS IS OF BULK AT MOST 1048576: true; the input reads as it did. -/
def arparseTotalUptoRow : OpenClaim := { program := "ytimnnknfcfongaadoor", sum := "281c6ef23f24c35008c8b9849c9f2b10695c2c6b89464fc0590e95a2e58f17bc", func := "arlink/arlinklaw04.ArparseTotal", spec := "arparseTotal", inPlace := ["internal/bytealg.IndexByteString", "internal/bytealg.IndexString", "internal/bytealg.IndexByte", "internal/bytealg.Index"], unfollowed := true, recurses := true, named := ["unicode/utf8.first", "unicode/utf8.acceptRanges", "internal/bytealg.MaxLen"], apart := false, laid := [("unicode/utf8.acceptRanges", laid_unicode_utf8_acceptRanges), ("unicode/utf8.first", laid_unicode_utf8_first)], narrowed := true }
def ArparseTotalUptoSaid : Prop := arparseTotalUptoRow.holds Tryd.pinned (OpenSpec.upto arparseTotalSpec)

/-- 'arlinklaw04.ArparseAppends', WHERE WHAT IT READS IS OF BULK AT MOST 1048576: true; the input reads as it did. -/
def arparseAppendsUptoRow : OpenClaim := { program := "ytimnnknfcfongaadoor", sum := "281c6ef23f24c35008c8b9849c9f2b10695c2c6b89464fc0590e95a2e58f17bc", func := "arlink/arlinklaw04.ArparseAppends", spec := "arparseAppends", inPlace := ["internal/bytealg.IndexByteString", "internal/bytealg.IndexString", "internal/bytealg.IndexByte", "internal/bytealg.Index"], unfollowed := true, recurses := true, named := ["unicode/utf8.first", "unicode/utf8.acceptRanges", "internal/bytealg.MaxLen"], apart := false, laid := [("unicode/utf8.acceptRanges", laid_unicode_utf8_acceptRanges), ("unicode/utf8.first", laid_unicode_utf8_first)], narrowed := true }
def ArparseAppendsUptoSaid : Prop := arparseAppendsUptoRow.holds Tryd.pinned (OpenSpec.upto arparseAppendsSpec)

/-- 'arlinklaw04.ArparseSpecial', WHERE WHAT IT READS IS OF BULK AT MOST 1048576: true; the input reads as it did. -/
def arparseSpecialUptoRow : OpenClaim := { program := "ytimnnknfcfongaadoor", sum := "281c6ef23f24c35008c8b9849c9f2b10695c2c6b89464fc0590e95a2e58f17bc", func := "arlink/arlinklaw04.ArparseSpecial", spec := "arparseSpecial", inPlace := ["internal/bytealg.IndexByteString", "internal/bytealg.IndexString", "internal/bytealg.IndexByte", "internal/bytealg.Index"], unfollowed := true, recurses := true, named := ["unicode/utf8.first", "unicode/utf8.acceptRanges", "internal/bytealg.MaxLen"], apart := false, laid := [("unicode/utf8.acceptRanges", laid_unicode_utf8_acceptRanges), ("unicode/utf8.first", laid_unicode_utf8_first)], narrowed := true }
def ArparseSpecialUptoSaid : Prop := arparseSpecialUptoRow.holds Tryd.pinned (OpenSpec.upto arparseSpecialSpec)

/-- 'arlinklaw04.ArparseKeeps', WHERE WHAT IT READS IS OF BULK AT MOST 1048576: true; the input reads as it did. -/
def arparseKeepsUptoRow : OpenClaim := { program := "ytimnnknfcfongaadoor", sum := "281c6ef23f24c35008c8b9849c9f2b10695c2c6b89464fc0590e95a2e58f17bc", func := "arlink/arlinklaw04.ArparseKeeps", spec := "arparseKeeps", inPlace := ["internal/bytealg.IndexByteString", "internal/bytealg.IndexString", "internal/bytealg.IndexByte", "internal/bytealg.Index"], unfollowed := true, recurses := true, named := ["unicode/utf8.first", "unicode/utf8.acceptRanges", "internal/bytealg.MaxLen"], apart := false, laid := [("unicode/utf8.acceptRanges", laid_unicode_utf8_acceptRanges), ("unicode/utf8.first", laid_unicode_utf8_first)], narrowed := true }
def ArparseKeepsUptoSaid : Prop := arparseKeepsUptoRow.holds Tryd.pinned (OpenSpec.upto arparseKeepsSpec)

end Rows
end Go.Proofs.YtimnnknfcfongaaDoor
