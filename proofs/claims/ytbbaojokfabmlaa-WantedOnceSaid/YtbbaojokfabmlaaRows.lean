/-
  No cell of these rows narrows 'for every input' (looked for: loops, veiled, ifaces, maps, wideKeys, modest, calm, conditions, laid).
  DERIVED. THE GIVEN ROWS OF THIS SEAT. 3 by the template 'for every input the law returns true; each argument reads behind the call as it read before'; 0 by the template 'total and deterministic' (their statements: YtbbaojokfabmlaaTotals.lean).
  GIVEN WITH THE SEED: the statements are not yours to turn. If you find one false, say at which input.
  Laid BY PROGRAM, IN A SANDBOX (cutbox-rows.mjs): the forced cells as the released guide's own fill.sh prints them over the translation 4da249a4de580ff4… (all of the seat's roots in one cut). By AI agents, Wed Nov 11 2026. No macro, syntax, notation, axiom, sorry.
-/
import Derived.Test.YtbbaojokfabmlaaChecked
import GoSem.Claim
import GoSem.ClaimJoined
import GoSem.ClaimMapViews
import Derived.JoinedTies
import Derived.KernelRfl
namespace Go.Proofs.Ytbbaojokfabmlaa
/- THE CELL 'sum', in the pinned program and in every row, IS THE sha256 OF THE DUMP (.gsa) THAT YtbbaojokfabmlaaProg.lean LOADS. Nothing in Lean hashes anything: it is a label: what it is worth is what the hold of that sum in a sandbox is worth. -/
noncomputable def Try.pinned : Pinned := { name := "ytbbaojokfabmlaa", sum := "4da249a4de580ff46615337e680d9cde8d675f44eedd5b3a27b71a00d6b9c3c2", checked := Try.checked }
namespace Rows
def none {H : Type} : Left H := { results := [], args := [] }

/-- 'arlinklaw15.WantedMatchesReference': WHATEVER THE INPUT: true; the input reads as it did. -/
def wantedMatchesReferenceSpec : ChangeSpec := { name := "wantedMatchesReference", fn := fun _ => fun
  | [d1, d2] => { results := [.lit (.bool true)], args := [d1, d2] }
  | _ => none }
def wantedMatchesReferenceRow : OpenClaim := { program := "ytbbaojokfabmlaa", sum := "4da249a4de580ff46615337e680d9cde8d675f44eedd5b3a27b71a00d6b9c3c2", func := "arlink/arlinklaw15.WantedMatchesReference", spec := "wantedMatchesReference", unfollowed := true, recurses := true, apart := false }
def WantedMatchesReferenceSaid : Prop := wantedMatchesReferenceRow.holds Try.pinned (OpenSpec.ofChange wantedMatchesReferenceSpec)

/-- ITS FALSE NEIGHBOUR: 'it returns false'. Refute it at one input. -/
def wantedMatchesReferenceWrong : ChangeSpec := { name := "wantedMatchesReference", fn := fun _ => fun
  | [d1, d2] => { results := [.lit (.bool false)], args := [d1, d2] }
  | _ => none }
def WantedMatchesReferenceWrongFalsely : Prop := wantedMatchesReferenceRow.holds Try.pinned (OpenSpec.ofChange wantedMatchesReferenceWrong)

/-- 'arlinklaw15.WantedOnce': WHATEVER THE INPUT: true; the input reads as it did. -/
def wantedOnceSpec : ChangeSpec := { name := "wantedOnce", fn := fun _ => fun
  | [d] => { results := [.lit (.bool true)], args := [d] }
  | _ => none }
def wantedOnceRow : OpenClaim := { program := "ytbbaojokfabmlaa", sum := "4da249a4de580ff46615337e680d9cde8d675f44eedd5b3a27b71a00d6b9c3c2", func := "arlink/arlinklaw15.WantedOnce", spec := "wantedOnce", unfollowed := true, recurses := true, apart := false }
def WantedOnceSaid : Prop := wantedOnceRow.holds Try.pinned (OpenSpec.ofChange wantedOnceSpec)

/-- ITS FALSE NEIGHBOUR: 'it returns false'. Refute it at one input. -/
def wantedOnceWrong : ChangeSpec := { name := "wantedOnce", fn := fun _ => fun
  | [d] => { results := [.lit (.bool false)], args := [d] }
  | _ => none }
def WantedOnceWrongFalsely : Prop := wantedOnceRow.holds Try.pinned (OpenSpec.ofChange wantedOnceWrong)

/-- 'arlinklaw15.WantedSplit': WHATEVER THE INPUT: true; the input reads as it did. -/
def wantedSplitSpec : ChangeSpec := { name := "wantedSplit", fn := fun _ => fun
  | [d1, d2] => { results := [.lit (.bool true)], args := [d1, d2] }
  | _ => none }
def wantedSplitRow : OpenClaim := { program := "ytbbaojokfabmlaa", sum := "4da249a4de580ff46615337e680d9cde8d675f44eedd5b3a27b71a00d6b9c3c2", func := "arlink/arlinklaw15.WantedSplit", spec := "wantedSplit", unfollowed := true, recurses := true, apart := false }
def WantedSplitSaid : Prop := wantedSplitRow.holds Try.pinned (OpenSpec.ofChange wantedSplitSpec)

/-- ITS FALSE NEIGHBOUR: 'it returns false'. Refute it at one input. -/
def wantedSplitWrong : ChangeSpec := { name := "wantedSplit", fn := fun _ => fun
  | [d1, d2] => { results := [.lit (.bool false)], args := [d1, d2] }
  | _ => none }
def WantedSplitWrongFalsely : Prop := wantedSplitRow.holds Try.pinned (OpenSpec.ofChange wantedSplitWrong)

/- THE SECOND FORM. 'bulk': how many values and letters a reading holds, each counted each time it is reached (what is shared counts as often as it is met; a slice's spare places count too). A statement '..UptoSaid' is the law's where the arguments, and the package variables that the reading takes, are together of bulk at most 1048576: NARROWER than '..Said'. Prove '..Said' where nothing that the law and all that it calls make is longer than what came in: it says more and counts as full. Else prove '..UptoSaid'. A law counts once. -/
mutual
def uptoBulk {H : Type} : DataW H → Nat
  | .lit (.string bytes) => bytes.length + 1
  | .lit _ => 1
  | .nil => 1
  | .ptr d => uptoBulk d + 1
  | .slice elems spare => uptoBulkAll elems + uptoBulkAll spare + 1
  | .agg parts => uptoBulkAll parts + 1
  | .iface _ d => uptoBulk d + 1
  | .map entries => uptoBulkEntries entries + 1
  | .held _ => 1
def uptoBulkAll {H : Type} : List (DataW H) → Nat
  | [] => 0
  | d :: r => uptoBulk d + uptoBulkAll r
def uptoBulkEntries {H : Type} : List (Lit × DataW H) → Nat
  | [] => 0
  | x :: r => uptoBulkEntry x + uptoBulkEntries r
def uptoBulkEntry {H : Type} : Lit × DataW H → Nat
  | (.string bytes, d) => bytes.length + uptoBulk d + 1
  | (_, d) => uptoBulk d + 1
 end
def uptoSmall : (H : Type) → List (DataW H) → Bool := fun _ ds => decide (uptoBulkAll ds ≤ 1048576)
def OpenSpec.upto (s : _root_.Go.ChangeSpec) : _root_.Go.OpenSpec := { _root_.Go.OpenSpec.ofChange s with cond := some uptoSmall }

/-- 'arlinklaw15.WantedMatchesReference', WHERE WHAT IT READS IS OF BULK AT MOST 1048576: true; the input reads as it did. -/
def wantedMatchesReferenceUptoRow : OpenClaim := { program := "ytbbaojokfabmlaa", sum := "4da249a4de580ff46615337e680d9cde8d675f44eedd5b3a27b71a00d6b9c3c2", func := "arlink/arlinklaw15.WantedMatchesReference", spec := "wantedMatchesReference", unfollowed := true, recurses := true, apart := false, narrowed := true }
def WantedMatchesReferenceUptoSaid : Prop := wantedMatchesReferenceUptoRow.holds Try.pinned (OpenSpec.upto wantedMatchesReferenceSpec)

/-- 'arlinklaw15.WantedOnce', WHERE WHAT IT READS IS OF BULK AT MOST 1048576: true; the input reads as it did. -/
def wantedOnceUptoRow : OpenClaim := { program := "ytbbaojokfabmlaa", sum := "4da249a4de580ff46615337e680d9cde8d675f44eedd5b3a27b71a00d6b9c3c2", func := "arlink/arlinklaw15.WantedOnce", spec := "wantedOnce", unfollowed := true, recurses := true, apart := false, narrowed := true }
def WantedOnceUptoSaid : Prop := wantedOnceUptoRow.holds Try.pinned (OpenSpec.upto wantedOnceSpec)

/-- 'arlinklaw15.WantedSplit', WHERE WHAT IT READS IS OF BULK AT MOST 1048576: true; the input reads as it did. -/
def wantedSplitUptoRow : OpenClaim := { program := "ytbbaojokfabmlaa", sum := "4da249a4de580ff46615337e680d9cde8d675f44eedd5b3a27b71a00d6b9c3c2", func := "arlink/arlinklaw15.WantedSplit", spec := "wantedSplit", unfollowed := true, recurses := true, apart := false, narrowed := true }
def WantedSplitUptoSaid : Prop := wantedSplitUptoRow.holds Try.pinned (OpenSpec.upto wantedSplitSpec)

end Rows
end Go.Proofs.Ytbbaojokfabmlaa
