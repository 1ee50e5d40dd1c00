/- ScanNothing: for every input the law returns true and leaves its arguments as they were. No condition but the given statement's own. -/
import Derived.Test.YtfbmknghfhancaaDoorGWh
import Derived.Test.YtfbmknghfhancaaDoorGWg
import Derived.Test.YtfbmknghfhancaaDoorRows
import Derived.Test.YtfbmknghfhancaaDoorCards
import Derived.Test.YtfbmknghfhancaaDoorTie
import Derived.SevenTiedAt
set_option linter.unusedVariables false
set_option linter.unusedSimpArgs false
namespace Go.Proofs.YtfbmknghfhancaaDoor
open Go Go.AL
open Go.ChangeShapes Go.WideShapes Go.ChangeAt Go.RowKit
set_option maxRecDepth 100000 in
theorem scanNothing_lifted (os : Os) (started : os.Started) (H : Type) (enc : TypeId × Value → H) :
  ReturnsInHanded {} Tryd.checked os 9 .any (fun w args => (Rows.scanNothingSpec.pre enc Tryd.prog Tryd.f9 [] false w args ∧ laidMetH Tryd.prog laidL w) ∧ sizedMet enc Tryd.prog Tryd.f9 (OpenSpec.ofChange Rows.scanNothingSpec) false w args)
   (Rows.scanNothingSpec.post enc Tryd.prog Tryd.f9 false true false false) := by
 refine returnsInHanded_of_change_and (C := Tryd.checked) (X := fun w _ => laidMetH Tryd.prog laidL w) (fun _ _ _ hh h => h.of_heap hh) own started (by kernel_rfl) Tryd.func9
  (ChangeSpec.witness_shaped (enc := enc) (C := Tryd.checked) (os := os) (X := fun w _ => laidMetH Tryd.prog laidL w) false (World.doorLaid Tryd.prog doorSteps os) #[.slice none 0 0, .slice none 0 0] 8 rfl (World.shaped_of_RefB (by kernel_rfl) (by kernel_rfl)) (by kernel_rfl) (by kernel_rfl) (by kernel_rfl) (door_met os _)) ?_
 intro W base args ds gs before hval hW _ hsz hL _
 exact law_contract (P := Tryd.prog) (G := Gl) (n := 8) laidOut (ts := [22, 50]) (by rw [Tryd.params9]) (by kernel_rfl)
  (fun t ht => by
   have : [22, 50].all (fun t => Tryd.prog.readableRec t && decide (t < Tryd.prog.types.size)) = true := by kernel_rfl
   have := List.all_eq_true.1 this t ht
   simpa using this) rfl rfl Tryd.underlying4
  (fun ds hd => by
   match ds, hd with
   | [d0, d1], _ => rfl)
  (fun xs ha => by
   cases ha with
   | cons h0 ha =>
    cases ha with
    | cons h1 ha =>
     cases ha
     obtain ⟨v0, c0, e0⟩ := arg_LO h0
     obtain ⟨v1, c1, e1⟩ := arg_LM h1
     rw [e0, e1]
     exact scanNothing_ v0 v1 c1) hval hW hsz (globOk hL)

theorem scanNothing_row : Rows.ScanNothingSaid :=
 OpenClaim.holds_of_wide 9 Tryd.f9 rfl rfl rfl rfl rfl rfl rfl ⟨rfl, rfl, rfl, rfl, rfl⟩ rfl rfl rfl rfl rfl (by kernel_rfl) Tryd.func9 (by kernel_rfl)
  (of_decide_eq_true (by kernel_rfl)) (by unfold Func.isWrapper; first | (rw [if_pos (by decide +kernel)]; kernel_rfl) | (rw [if_neg (by decide +kernel)]; exact ⟨rfl, rfl⟩))
  (fun os started H enc _ => scanNothing_lifted os started H enc)

theorem scanNothing_holds : Rows.ScanNothingCardSaid :=
 Claim7.holds_tied_plain_at .later [] [.data] true (true, "825c3d8eca17a324f5866211d49ac5618facf8aec6a2d1ba52cb06858ce5bfc4") true
  scanNothing_row (fun _ h => by cases h) (by kernel_rfl) (fun _ h => by cases h) scanNothing_row_tie rfl ⟨rfl, rfl⟩ (by kernel_rfl) rfl
  (fun f fn hf hfn => by
   obtain rfl : f = 9 := Option.some.inj ((show Tryd.prog.funcNamed "arlink/arlinklaw19.ScanNothing" = some 9 by kernel_rfl).symm.trans hf) |>.symm
   obtain rfl : fn = Tryd.f9 := (Option.some.inj (Tryd.func9.symm.trans hfn)).symm
   exact ⟨by kernel_rfl, fun j t ht => by
    have hm : t ∈ [22, 50] := by
     have := Array.mem_of_getElem? ht
     rw [Tryd.params9] at this
     simpa using this
    have : [22, 50].all (fun t => !Tryd.prog.wantsStandIn t) = true := by kernel_rfl
    have := List.all_eq_true.1 this t hm
    exact (show Tryd.prog.wantsStandIn t = false by simpa using this)⟩)
  (by kernel_rfl)
#print axioms scanNothing_holds
end Go.Proofs.YtfbmknghfhancaaDoor
