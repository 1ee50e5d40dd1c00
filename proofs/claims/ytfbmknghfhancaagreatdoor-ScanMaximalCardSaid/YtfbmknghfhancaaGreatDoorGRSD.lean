/- ScanMaximal: for every input the law returns true and leaves its arguments as they were. No condition but the given statement's own. -/
import Derived.Test.YtfbmknghfhancaaGreatDoorGWg
import Derived.Test.YtfbmknghfhancaaGreatDoorRows
import Derived.Test.YtfbmknghfhancaaGreatDoorCards
import Derived.Test.YtfbmknghfhancaaGreatDoorTie
import Derived.SevenTiedAt
set_option linter.unusedVariables false
set_option linter.unusedSimpArgs false
namespace Go.Proofs.YtfbmknghfhancaaGreatDoor
open Go Go.AL
open Go.ChangeShapes Go.WideShapes Go.ChangeAt Go.RowKit
set_option maxRecDepth 100000 in
theorem scanMaximal_lifted (os : Os) (started : os.Started) (H : Type) (enc : TypeId × Value → H) :
  ReturnsInHanded {} Tryz.checked os 3 .any (fun w args => (Rows.scanMaximalSpec.pre enc Tryz.prog Tryz.f3 [] false w args ∧ laidMetH Tryz.prog laidL w) ∧ sizedMet enc Tryz.prog Tryz.f3 (OpenSpec.ofChange Rows.scanMaximalSpec) false w args)
   (Rows.scanMaximalSpec.post enc Tryz.prog Tryz.f3 false true false false) := by
 refine returnsInHanded_of_change_and (C := Tryz.checked) (X := fun w _ => laidMetH Tryz.prog laidL w) (fun _ _ _ hh h => h.of_heap hh) own started (by kernel_rfl) Tryz.func3
  (ChangeSpec.witness_shaped (enc := enc) (C := Tryz.checked) (os := os) (X := fun w _ => laidMetH Tryz.prog laidL w) false (World.doorLaid Tryz.prog doorSteps os) #[.slice none 0 0, .slice none 0 0] 8 rfl (World.shaped_of_RefB (by kernel_rfl) (by kernel_rfl)) (by kernel_rfl) (by kernel_rfl) (by kernel_rfl) (door_met os _)) ?_
 intro W base args ds gs before hval hW _ hsz hL _
 exact law_contract (P := Tryz.prog) (G := Gl) (n := 8) laidOut (ts := [22, 23]) (by rw [Tryz.params3]) (by kernel_rfl)
  (fun t ht => by
   have : [22, 23].all (fun t => Tryz.prog.readableRec t && decide (t < Tryz.prog.types.size)) = true := by kernel_rfl
   have := List.all_eq_true.1 this t ht
   simpa using this) rfl rfl Tryz.underlying4
  (fun ds hd => by
   match ds, hd with
   | [d0, d1], _ => rfl)
  (fun xs ha => by
   cases ha with
   | cons h0 ha =>
    cases ha with
    | cons h1 ha =>
     cases ha
     obtain ⟨v0, c0, e0⟩ := arg_LO h0
     obtain ⟨v1, c1, e1⟩ := arg_LM h1
     rw [e0, e1]
     exact scanMaximal_ v0 v1 c1) hval hW hsz (globOk hL)

theorem scanMaximal_row : Rows.ScanMaximalSaid :=
 OpenClaim.holds_of_wide 3 Tryz.f3 rfl rfl rfl rfl rfl rfl rfl ⟨rfl, rfl, rfl, rfl, rfl⟩ rfl rfl rfl rfl rfl (by kernel_rfl) Tryz.func3 (by kernel_rfl)
  (of_decide_eq_true (by kernel_rfl)) (by unfold Func.isWrapper; first | (rw [if_pos (by decide +kernel)]; kernel_rfl) | (rw [if_neg (by decide +kernel)]; exact ⟨rfl, rfl⟩))
  (fun os started H enc _ => scanMaximal_lifted os started H enc)

theorem scanMaximal_holds : Rows.ScanMaximalCardSaid :=
 Claim7.holds_tied_plain_at .later [] [.data] true (true, "bb67a05096ca9a2dd300703ca06eec0c81c5c16a05d209d94a7b115a69b0297e") true
  scanMaximal_row (fun _ h => by cases h) (by kernel_rfl) (fun _ h => by cases h) scanMaximal_row_tie rfl ⟨rfl, rfl⟩ (by kernel_rfl) rfl
  (fun f fn hf hfn => by
   obtain rfl : f = 3 := Option.some.inj ((show Tryz.prog.funcNamed "arlink/arlinklaw19.ScanMaximal" = some 3 by kernel_rfl).symm.trans hf) |>.symm
   obtain rfl : fn = Tryz.f3 := (Option.some.inj (Tryz.func3.symm.trans hfn)).symm
   exact ⟨by kernel_rfl, fun j t ht => by
    have hm : t ∈ [22, 23] := by
     have := Array.mem_of_getElem? ht
     rw [Tryz.params3] at this
     simpa using this
    have : [22, 23].all (fun t => !Tryz.prog.wantsStandIn t) = true := by kernel_rfl
    have := List.all_eq_true.1 this t hm
    exact (show Tryz.prog.wantsStandIn t = false by simpa using this)⟩)
  (by kernel_rfl)
#print axioms scanMaximal_holds
end Go.Proofs.YtfbmknghfhancaaGreatDoor
