/- ArparseKeeps: for every input the law returns true and leaves its arguments as they were. No condition but the given statement's own. -/
import Derived.Test.YtimnnknfcfongaaDoorAWd
import Derived.Test.YtimnnknfcfongaaDoorAWe
import Derived.Test.YtimnnknfcfongaaDoorRows
import Derived.Test.YtimnnknfcfongaaDoorCards
import Derived.Test.YtimnnknfcfongaaDoorTie
import Derived.SevenTiedAt
set_option linter.unusedVariables false
set_option linter.unusedSimpArgs false
namespace Go.Proofs.YtimnnknfcfongaaDoor
open Go Go.AL
open Go.ChangeShapes Go.WideShapes Go.ChangeAt Go.RowKit
set_option maxRecDepth 100000 in
theorem arparseKeeps_lifted (os : Os) (started : os.Started) (H : Type) (enc : TypeId × Value → H) :
  ReturnsInHanded {} Tryd.checked os 13 .any (fun w args => (Rows.arparseKeepsSpec.pre enc Tryd.prog Tryd.f13 [] false w args ∧ laidMetH Tryd.prog laidL w) ∧ sizedMet enc Tryd.prog Tryd.f13 (OpenSpec.ofChange Rows.arparseKeepsSpec) false w args)
   (Rows.arparseKeepsSpec.post enc Tryd.prog Tryd.f13 false true false false) := by
 refine rih (C := Tryd.checked) (X := fun w _ => laidMetH Tryd.prog laidL w) (fun _ _ _ hh h => h.of_heap hh) own started (by kernel_rfl) Tryd.func13
  (ChangeSpec.witness_shaped (enc := enc) (C := Tryd.checked) (os := os) (X := fun w _ => laidMetH Tryd.prog laidL w) false (World.laidAll Tryd.prog os laidL) #[.slice none 0 0] 8 (World.laidAll_os _ _ _) (World.shaped_of_ZipB (by kernel_rfl) (by kernel_rfl)) (by kernel_rfl) (by kernel_rfl) (by kernel_rfl) (by rw [MakeChecks.laidMetH_plain _ _ _ (by kernel_rfl)]; exact laidMet_laidAll _ (by kernel_rfl) (by kernel_rfl))) ?_
 intro W base args ds gs before hsh hval hW hsz hL
 obtain ⟨mx, hmx⟩ := maxLen hsh
 letI : MX := ⟨mx⟩
 exact law_contract (P := Tryd.prog) (G := Gl) (n := 8) laidOut (ts := [23]) (by rw [Tryd.params13]) (by kernel_rfl)
  (fun t ht => by
   have : [23].all (fun t => Tryd.prog.readableRec t && decide (t < Tryd.prog.types.size)) = true := by kernel_rfl
   have := List.all_eq_true.1 this t ht
   simpa using this) rfl rfl Tryd.underlying4
  (fun ds hd => by
   match ds, hd with
   | [d0], _ => rfl)
  (fun xs ha => by
   cases ha with
   | cons h0 ha =>
    cases ha
    obtain ⟨v0, c0, e0⟩ := arg_LB h0
    rw [e0]
    exact _root_.Go.Proofs.YtimnnknfcfongaaDoor.H.akeeps_ v0) hval hW hsz (globOk hL hsh hmx)

theorem arparseKeeps_row : Rows.ArparseKeepsSaid :=
 OpenClaim.holds_of_wide 13 Tryd.f13 rfl rfl rfl rfl rfl rfl rfl ⟨rfl, rfl, rfl, rfl, rfl⟩ rfl rfl rfl rfl rfl (by kernel_rfl) Tryd.func13 (by kernel_rfl)
  (of_decide_eq_true (by kernel_rfl)) (by unfold Func.isWrapper; first | (rw [if_pos (by decide +kernel)]; kernel_rfl) | (rw [if_neg (by decide +kernel)]; exact ⟨rfl, rfl⟩))
  (fun os started H enc _ => arparseKeeps_lifted os started H enc)

theorem arparseKeeps_holds : Rows.ArparseKeepsCardSaid :=
 Claim7.holds_tied_plain_at .later [] [.data, .pinned] true (true, "75a559ac8c896a5fce21958df4e554611bdaad13f6ec760cabd9199ab57048d7") false
  arparseKeeps_row (fun _ h => by cases h) (by kernel_rfl) (fun _ h => by cases h) arparseKeeps_row_tie rfl ⟨rfl, rfl⟩ (by kernel_rfl) rfl
  (fun f fn hf hfn => by
   obtain rfl : f = 13 := Option.some.inj ((show Tryd.prog.funcNamed "arlink/arlinklaw04.ArparseKeeps" = some 13 by kernel_rfl).symm.trans hf) |>.symm
   obtain rfl : fn = Tryd.f13 := (Option.some.inj (Tryd.func13.symm.trans hfn)).symm
   exact ⟨by kernel_rfl, fun j t ht => by
    have hm : t ∈ [23] := by
     have := Array.mem_of_getElem? ht
     rw [Tryd.params13] at this
     simpa using this
    have : [23].all (fun t => !Tryd.prog.wantsStandIn t) = true := by kernel_rfl
    have := List.all_eq_true.1 this t hm
    exact (show Tryd.prog.wantsStandIn t = false by simpa using this)⟩)
  (by kernel_rfl)
#print axioms arparseKeeps_holds
end Go.Proofs.YtimnnknfcfongaaDoor
