/-
  NARROWER THAN 'FOR EVERY INPUT', by the rows' own cells (each row's printed sentence says how): SymtabMatchesReference: laid · SymtabResolves: laid · SymtabSorted: laid · SymtabKeeps: laid · SymtabPrefix: laid · WantedLoadable: laid.
  DERIVED. THE GIVEN ROWS OF THIS SEAT. 6 by the template 'for every input the law returns true; each argument reads behind the call as it read before'; 0 by the template 'total and deterministic' (their statements: YtdlcaoobaejlpaaDoorTotals.lean).
  GIVEN WITH THE SEED: the statements are not yours to turn. If you find one false, say at which input.
  Laid BY PROGRAM, IN A SANDBOX (cutbox-rows.mjs): the forced cells as the released guide's own fill.sh prints them over the translation f4babe322b95f3a1… (all of the seat's roots in one cut). By AI agents, Wed Nov 11 2026. No macro, syntax, notation, axiom, sorry.
-/
import Derived.Test.YtdlcaoobaejlpaaDoorChecked
import GoSem.Claim
import GoSem.ClaimJoined
import GoSem.ClaimMapViews
import Derived.JoinedTies
import Derived.KernelRfl
namespace Go.Proofs.YtdlcaoobaejlpaaDoor
/- THE CELL 'sum', in the pinned program and in every row, IS THE sha256 OF THE DUMP (.gsa) THAT YtdlcaoobaejlpaaDoorProg.lean LOADS. Nothing in Lean hashes anything: it is a label: what it is worth is what the hold of that sum in a sandbox is worth. -/
noncomputable def Tryd.pinned : Pinned := { name := "ytdlcaoobaejlpaadoor", sum := "f4babe322b95f3a1852a6007f94963dc316fade10f68b11c72a8242243d29874", checked := Tryd.checked }
namespace Rows
def none {H : Type} : Left H := { results := [], args := [] }

/- WHAT THE LISTED PACKAGE-LEVEL VARIABLES READ AS WHEN THE CALL BEGINS. Each datum BY PROGRAM (the guide's laid-datum.mjs) off the statement by which the dump's own 'gosem.cut.vars' lays the variable. In a bare row this is a premise. The card (YtdlcaoobaejlpaaDoorCards.lean) ties it to the program's text. -/
def laid_arlink_bind_strength {H : Type} : DataW H := .agg [.lit (.int .i64 0), .lit (.int .i64 3), .lit (.int .i64 1), .lit (.int .i64 2), .lit (.int .i64 0), .lit (.int .i64 0)]

/-- 'arlinklaw14.SymtabMatchesReference': WHATEVER THE INPUT: true; the input reads as it did. -/
def symtabMatchesReferenceSpec : ChangeSpec := { name := "symtabMatchesReference", fn := fun _ => fun
  | [d1, d2] => { results := [.lit (.bool true)], args := [d1, d2] }
  | _ => none }
def symtabMatchesReferenceRow : OpenClaim := { program := "ytdlcaoobaejlpaadoor", sum := "f4babe322b95f3a1852a6007f94963dc316fade10f68b11c72a8242243d29874", func := "arlink/arlinklaw14.SymtabMatchesReference", spec := "symtabMatchesReference", unfollowed := true, recurses := true, named := ["arlink/bind.strength"], apart := false, laid := [("arlink/bind.strength", laid_arlink_bind_strength)] }
def SymtabMatchesReferenceSaid : Prop := symtabMatchesReferenceRow.holds Tryd.pinned (OpenSpec.ofChange symtabMatchesReferenceSpec)

/-- ITS FALSE NEIGHBOUR: 'it returns false'. Refute it at one input. -/
def symtabMatchesReferenceWrong : ChangeSpec := { name := "symtabMatchesReference", fn := fun _ => fun
  | [d1, d2] => { results := [.lit (.bool false)], args := [d1, d2] }
  | _ => none }
def SymtabMatchesReferenceWrongFalsely : Prop := symtabMatchesReferenceRow.holds Tryd.pinned (OpenSpec.ofChange symtabMatchesReferenceWrong)

/-- 'arlinklaw14.SymtabResolves': WHATEVER THE INPUT: true; the input reads as it did. -/
def symtabResolvesSpec : ChangeSpec := { name := "symtabResolves", fn := fun _ => fun
  | [d1, d2] => { results := [.lit (.bool true)], args := [d1, d2] }
  | _ => none }
def symtabResolvesRow : OpenClaim := { program := "ytdlcaoobaejlpaadoor", sum := "f4babe322b95f3a1852a6007f94963dc316fade10f68b11c72a8242243d29874", func := "arlink/arlinklaw14.SymtabResolves", spec := "symtabResolves", unfollowed := true, recurses := true, named := ["arlink/bind.strength"], apart := false, laid := [("arlink/bind.strength", laid_arlink_bind_strength)] }
def SymtabResolvesSaid : Prop := symtabResolvesRow.holds Tryd.pinned (OpenSpec.ofChange symtabResolvesSpec)

/-- ITS FALSE NEIGHBOUR: 'it returns false'. Refute it at one input. -/
def symtabResolvesWrong : ChangeSpec := { name := "symtabResolves", fn := fun _ => fun
  | [d1, d2] => { results := [.lit (.bool false)], args := [d1, d2] }
  | _ => none }
def SymtabResolvesWrongFalsely : Prop := symtabResolvesRow.holds Tryd.pinned (OpenSpec.ofChange symtabResolvesWrong)

/-- 'arlinklaw14.SymtabSorted': WHATEVER THE INPUT: true; the input reads as it did. -/
def symtabSortedSpec : ChangeSpec := { name := "symtabSorted", fn := fun _ => fun
  | [d] => { results := [.lit (.bool true)], args := [d] }
  | _ => none }
def symtabSortedRow : OpenClaim := { program := "ytdlcaoobaejlpaadoor", sum := "f4babe322b95f3a1852a6007f94963dc316fade10f68b11c72a8242243d29874", func := "arlink/arlinklaw14.SymtabSorted", spec := "symtabSorted", unfollowed := true, recurses := true, named := ["arlink/bind.strength"], apart := false, laid := [("arlink/bind.strength", laid_arlink_bind_strength)] }
def SymtabSortedSaid : Prop := symtabSortedRow.holds Tryd.pinned (OpenSpec.ofChange symtabSortedSpec)

/-- ITS FALSE NEIGHBOUR: 'it returns false'. Refute it at one input. -/
def symtabSortedWrong : ChangeSpec := { name := "symtabSorted", fn := fun _ => fun
  | [d] => { results := [.lit (.bool false)], args := [d] }
  | _ => none }
def SymtabSortedWrongFalsely : Prop := symtabSortedRow.holds Tryd.pinned (OpenSpec.ofChange symtabSortedWrong)

/-- 'arlinklaw14.SymtabKeeps': WHATEVER THE INPUT: true; the input reads as it did. -/
def symtabKeepsSpec : ChangeSpec := { name := "symtabKeeps", fn := fun _ => fun
  | [d1, d2] => { results := [.lit (.bool true)], args := [d1, d2] }
  | _ => none }
def symtabKeepsRow : OpenClaim := { program := "ytdlcaoobaejlpaadoor", sum := "f4babe322b95f3a1852a6007f94963dc316fade10f68b11c72a8242243d29874", func := "arlink/arlinklaw14.SymtabKeeps", spec := "symtabKeeps", unfollowed := true, recurses := true, named := ["arlink/bind.strength"], apart := false, laid := [("arlink/bind.strength", laid_arlink_bind_strength)] }
def SymtabKeepsSaid : Prop := symtabKeepsRow.holds Tryd.pinned (OpenSpec.ofChange symtabKeepsSpec)

/-- ITS FALSE NEIGHBOUR: 'it returns false'. Refute it at one input. -/
def symtabKeepsWrong : ChangeSpec := { name := "symtabKeeps", fn := fun _ => fun
  | [d1, d2] => { results := [.lit (.bool false)], args := [d1, d2] }
  | _ => none }
def SymtabKeepsWrongFalsely : Prop := symtabKeepsRow.holds Tryd.pinned (OpenSpec.ofChange symtabKeepsWrong)

/-- 'arlinklaw14.SymtabPrefix': WHATEVER THE INPUT: true; the input reads as it did. -/
def symtabPrefixSpec : ChangeSpec := { name := "symtabPrefix", fn := fun _ => fun
  | [d1, d2, d3] => { results := [.lit (.bool true)], args := [d1, d2, d3] }
  | _ => none }
def symtabPrefixRow : OpenClaim := { program := "ytdlcaoobaejlpaadoor", sum := "f4babe322b95f3a1852a6007f94963dc316fade10f68b11c72a8242243d29874", func := "arlink/arlinklaw14.SymtabPrefix", spec := "symtabPrefix", unfollowed := true, recurses := true, named := ["arlink/bind.strength"], apart := false, laid := [("arlink/bind.strength", laid_arlink_bind_strength)] }
def SymtabPrefixSaid : Prop := symtabPrefixRow.holds Tryd.pinned (OpenSpec.ofChange symtabPrefixSpec)

/-- ITS FALSE NEIGHBOUR: 'it returns false'. Refute it at one input. -/
def symtabPrefixWrong : ChangeSpec := { name := "symtabPrefix", fn := fun _ => fun
  | [d1, d2, d3] => { results := [.lit (.bool false)], args := [d1, d2, d3] }
  | _ => none }
def SymtabPrefixWrongFalsely : Prop := symtabPrefixRow.holds Tryd.pinned (OpenSpec.ofChange symtabPrefixWrong)

/-- 'arlinklaw15.WantedLoadable': WHATEVER THE INPUT: true; the input reads as it did. -/
def wantedLoadableSpec : ChangeSpec := { name := "wantedLoadable", fn := fun _ => fun
  | [d1, d2] => { results := [.lit (.bool true)], args := [d1, d2] }
  | _ => none }
def wantedLoadableRow : OpenClaim := { program := "ytdlcaoobaejlpaadoor", sum := "f4babe322b95f3a1852a6007f94963dc316fade10f68b11c72a8242243d29874", func := "arlink/arlinklaw15.WantedLoadable", spec := "wantedLoadable", unfollowed := true, recurses := true, named := ["arlink/bind.strength"], apart := false, laid := [("arlink/bind.strength", laid_arlink_bind_strength)] }
def WantedLoadableSaid : Prop := wantedLoadableRow.holds Tryd.pinned (OpenSpec.ofChange wantedLoadableSpec)

/-- ITS FALSE NEIGHBOUR: 'it returns false'. Refute it at one input. -/
def wantedLoadableWrong : ChangeSpec := { name := "wantedLoadable", fn := fun _ => fun
  | [d1, d2] => { results := [.lit (.bool false)], args := [d1, d2] }
  | _ => none }
def WantedLoadableWrongFalsely : Prop := wantedLoadableRow.holds Tryd.pinned (OpenSpec.ofChange wantedLoadableWrong)

/- THE SECOND FORM. 'bulk': how many values and letters a reading holds, each counted each time it is reached (what is shared counts as often as it is met; a slice's spare places count too). A statement '..UptoSaid' is the law's where the arguments, and the package variables that the reading takes, are together of bulk at most 1048576: NARROWER than '..Said'. Prove '..Said' where nothing that the law and all that it calls make is longer than what came in: it says more and counts as full. Else prove '..UptoSaid'. A law counts once. -/
mutual
def uptoBulk {H : Type} : DataW H → Nat
  | .lit (.string bytes) => bytes.length + 1
  | .lit _ => 1
  | .nil => 1
  | .ptr d => uptoBulk d + 1
  | .slice elems spare => uptoBulkAll elems + uptoBulkAll spare + 1
  | .agg parts => uptoBulkAll parts + 1
  | .iface _ d => uptoBulk d + 1
  | .map entries => uptoBulkEntries entries + 1
  | .held _ => 1
def uptoBulkAll {H : Type} : List (DataW H) → Nat
  | [] => 0
  | d :: r => uptoBulk d + uptoBulkAll r
def uptoBulkEntries {H : Type} : List (Lit × DataW H) → Nat
  | [] => 0
  | x :: r => uptoBulkEntry x + uptoBulkEntries r
def uptoBulkEntry {H : Type} : Lit × DataW H → Nat
  | (.string bytes, d) => bytes.length + uptoBulk d + 1
  | (_, d) => uptoBulk d + 1
 end
def uptoSmall : (H : Type) → List (DataW H) → Bool := fun _ ds => decide (uptoBulkAll ds ≤ 1048576)
def OpenSpec.upto (s : _root_.Go.ChangeSpec) : _root_.Go.OpenSpec := { _root_.Go.OpenSpec.ofChange s with cond := some uptoSmall }

/-- 'arlinklaw14.SymtabMatchesReference', WHERE WHAT IT READS IS OF BULK AT MOST 1048576: true; the input reads as it did. -/
def symtabMatchesReferenceUptoRow : OpenClaim := { program := "ytdlcaoobaejlpaadoor", sum := "f4babe322b95f3a1852a6007f94963dc316fade10f68b11c72a8242243d29874", func := "arlink/arlinklaw14.SymtabMatchesReference", spec := "symtabMatchesReference", unfollowed := true, recurses := true, named := ["arlink/bind.strength"], apart := false, laid := [("arlink/bind.strength", laid_arlink_bind_strength)], narrowed := true }
def SymtabMatchesReferenceUptoSaid : Prop := symtabMatchesReferenceUptoRow.holds Tryd.pinned (OpenSpec.upto symtabMatchesReferenceSpec)

/-- 'arlinklaw14.SymtabResolves', WHERE WHAT IT READS IS OF BULK AT MOST 1048576: true; the input reads as it did. -/
def symtabResolvesUptoRow : OpenClaim := { program := "ytdlcaoobaejlpaadoor", sum := "f4babe322b95f3a1852a6007f94963dc316fade10f68b11c72a8242243d29874", func := "arlink/arlinklaw14.SymtabResolves", spec := "symtabResolves", unfollowed := true, recurses := true, named := ["arlink/bind.strength"], apart := false, laid := [("arlink/bind.strength", laid_arlink_bind_strength)], narrowed := true }
def SymtabResolvesUptoSaid : Prop := symtabResolvesUptoRow.holds Tryd.pinned (OpenSpec.upto symtabResolvesSpec)

/-- 'arlinklaw14.SymtabSorted', WHERE WHAT IT READS IS OF BULK AT MOST 1048576: true; the input reads as it did. -/
def symtabSortedUptoRow : OpenClaim := { program := "ytdlcaoobaejlpaadoor", sum := "f4babe322b95f3a1852a6007f94963dc316fade10f68b11c72a8242243d29874", func := "arlink/arlinklaw14.SymtabSorted", spec := "symtabSorted", unfollowed := true, recurses := true, named := ["arlink/bind.strength"], apart := false, laid := [("arlink/bind.strength", laid_arlink_bind_strength)], narrowed := true }
def SymtabSortedUptoSaid : Prop := symtabSortedUptoRow.holds Tryd.pinned (OpenSpec.upto symtabSortedSpec)

/-- 'arlinklaw14.SymtabKeeps', WHERE WHAT IT READS IS OF BULK AT MOST 1048576: true; the input reads as it did. -/
def symtabKeepsUptoRow : OpenClaim := { program := "ytdlcaoobaejlpaadoor", sum := "f4babe322b95f3a1852a6007f94963dc316fade10f68b11c72a8242243d29874", func := "arlink/arlinklaw14.SymtabKeeps", spec := "symtabKeeps", unfollowed := true, recurses := true, named := ["arlink/bind.strength"], apart := false, laid := [("arlink/bind.strength", laid_arlink_bind_strength)], narrowed := true }
def SymtabKeepsUptoSaid : Prop := symtabKeepsUptoRow.holds Tryd.pinned (OpenSpec.upto symtabKeepsSpec)

/-- 'arlinklaw14.SymtabPrefix', WHERE WHAT IT READS IS OF BULK AT MOST 1048576: true; the input reads as it did. -/
def symtabPrefixUptoRow : OpenClaim := { program := "ytdlcaoobaejlpaadoor", sum := "f4babe322b95f3a1852a6007f94963dc316fade10f68b11c72a8242243d29874", func := "arlink/arlinklaw14.SymtabPrefix", spec := "symtabPrefix", unfollowed := true, recurses := true, named := ["arlink/bind.strength"], apart := false, laid := [("arlink/bind.strength", laid_arlink_bind_strength)], narrowed := true }
def SymtabPrefixUptoSaid : Prop := symtabPrefixUptoRow.holds Tryd.pinned (OpenSpec.upto symtabPrefixSpec)

/-- 'arlinklaw15.WantedLoadable', WHERE WHAT IT READS IS OF BULK AT MOST 1048576: true; the input reads as it did. -/
def wantedLoadableUptoRow : OpenClaim := { program := "ytdlcaoobaejlpaadoor", sum := "f4babe322b95f3a1852a6007f94963dc316fade10f68b11c72a8242243d29874", func := "arlink/arlinklaw15.WantedLoadable", spec := "wantedLoadable", unfollowed := true, recurses := true, named := ["arlink/bind.strength"], apart := false, laid := [("arlink/bind.strength", laid_arlink_bind_strength)], narrowed := true }
def WantedLoadableUptoSaid : Prop := wantedLoadableUptoRow.holds Tryd.pinned (OpenSpec.upto wantedLoadableSpec)

end Rows
end Go.Proofs.YtdlcaoobaejlpaaDoor
