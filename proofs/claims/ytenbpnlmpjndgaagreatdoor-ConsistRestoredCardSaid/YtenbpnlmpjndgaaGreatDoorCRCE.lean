/- ConsistRestored: for every input the law returns true and leaves its arguments as they were. No condition but the given statement's own. -/
import Derived.Test.YtenbpnlmpjndgaaGreatDoorCWe
import Derived.Test.YtenbpnlmpjndgaaGreatDoorCWh
import Derived.Test.YtenbpnlmpjndgaaGreatDoorRows
import Derived.Test.YtenbpnlmpjndgaaGreatDoorCards
import Derived.Test.YtenbpnlmpjndgaaGreatDoorTie
import Derived.SevenTiedAt
set_option linter.unusedVariables false
set_option linter.unusedSimpArgs false
namespace Go.Proofs.YtenbpnlmpjndgaaGreatDoor
open Go Go.AL
open Go.ChangeShapes Go.WideShapes Go.ChangeAt Go.RowKit
set_option maxRecDepth 100000 in
theorem consistRestored_lifted (os : Os) (started : os.Started) (H : Type) (enc : TypeId × Value → H) :
  ReturnsInHanded {} Tryz.checked os 7 .any (fun w args => (Rows.consistRestoredSpec.pre enc Tryz.prog Tryz.f7 [] false w args ∧ laidMetH Tryz.prog laidL w) ∧ sizedMet enc Tryz.prog Tryz.f7 (OpenSpec.ofChange Rows.consistRestoredSpec) false w args)
   (Rows.consistRestoredSpec.post enc Tryz.prog Tryz.f7 false true false false) := by
 refine rih (C := Tryz.checked) (X := fun w _ => laidMetH Tryz.prog laidL w) (fun _ _ _ hh h => h.of_heap hh) own started (by kernel_rfl) Tryz.func7
  (ChangeSpec.witness_shaped (enc := enc) (C := Tryz.checked) (os := os) (X := fun w _ => laidMetH Tryz.prog laidL w) false (World.laidAll Tryz.prog os laidL) #[.slice none 0 0] 8 (World.laidAll_os _ _ _) (World.shaped_of_ZipB (by kernel_rfl) (by kernel_rfl)) (by kernel_rfl) (by kernel_rfl) (by kernel_rfl) (by rw [MakeChecks.laidMetH_plain _ _ _ (by kernel_rfl)]; exact laidMet_laidAll _ (by kernel_rfl) (by kernel_rfl))) ?_
 intro W base args ds gs before hsh hval hW hsz hL
 obtain ⟨mx, hmx⟩ := maxLen hsh
 letI : MX := ⟨mx⟩
 exact law_contract (P := Tryz.prog) (G := Gl) (n := 8) laidOut (ts := [22]) (by rw [Tryz.params7]) (by kernel_rfl)
  (fun t ht => by
   have : [22].all (fun t => Tryz.prog.readableRec t && decide (t < Tryz.prog.types.size)) = true := by kernel_rfl
   have := List.all_eq_true.1 this t ht
   simpa using this) rfl rfl Tryz.underlying4
  (fun ds hd => by
   match ds, hd with
   | [d0], _ => rfl)
  (fun xs ha => by
   cases ha with
   | cons h0 ha =>
    cases ha
    obtain ⟨v0, c0, e0⟩ := arg_LB h0
    rw [e0]
    exact _root_.Go.Proofs.YtenbpnlmpjndgaaGreatDoor.H.crestored_ v0) hval hW hsz (globOk hL hsh hmx)

theorem consistRestored_row : Rows.ConsistRestoredSaid :=
 OpenClaim.holds_of_wide 7 Tryz.f7 rfl rfl rfl rfl rfl rfl rfl ⟨rfl, rfl, rfl, rfl, rfl⟩ rfl rfl rfl rfl rfl (by kernel_rfl) Tryz.func7 (by kernel_rfl)
  (of_decide_eq_true (by kernel_rfl)) (by unfold Func.isWrapper; first | (rw [if_pos (by decide +kernel)]; kernel_rfl) | (rw [if_neg (by decide +kernel)]; exact ⟨rfl, rfl⟩))
  (fun os started H enc _ => consistRestored_lifted os started H enc)

theorem consistRestored_holds : Rows.ConsistRestoredCardSaid :=
 Claim7.holds_tied_plain_at .later [] [.data, .pinned] true (true, "f16d8a9397c25f091d1d306b3a10e6c7be59c043ed7602f0b32dbdd1f28386d7") true
  consistRestored_row (fun _ h => by cases h) (by kernel_rfl) (fun _ h => by cases h) consistRestored_row_tie rfl ⟨rfl, rfl⟩ (by kernel_rfl) rfl
  (fun f fn hf hfn => by
   obtain rfl : f = 7 := Option.some.inj ((show Tryz.prog.funcNamed "arlink/arlinklaw09.ConsistRestored" = some 7 by kernel_rfl).symm.trans hf) |>.symm
   obtain rfl : fn = Tryz.f7 := (Option.some.inj (Tryz.func7.symm.trans hfn)).symm
   exact ⟨by kernel_rfl, fun j t ht => by
    have hm : t ∈ [22] := by
     have := Array.mem_of_getElem? ht
     rw [Tryz.params7] at this
     simpa using this
    have : [22].all (fun t => !Tryz.prog.wantsStandIn t) = true := by kernel_rfl
    have := List.all_eq_true.1 this t hm
    exact (show Tryz.prog.wantsStandIn t = false by simpa using this)⟩)
  (by kernel_rfl)
#print axioms consistRestored_holds
end Go.Proofs.YtenbpnlmpjndgaaGreatDoor
