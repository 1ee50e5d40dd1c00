/- InputKeeps: for every input the law returns true and leaves its arguments as they were. No condition but the given statement's own. -/
import Derived.Test.YtimjnmbpbobfiaaGreatDoorIWg
import Derived.Test.YtimjnmbpbobfiaaGreatDoorIWh
import Derived.Test.YtimjnmbpbobfiaaGreatDoorRows
import Derived.Test.YtimjnmbpbobfiaaGreatDoorCards
import Derived.Test.YtimjnmbpbobfiaaGreatDoorTie
import Derived.SevenTiedAt
set_option linter.unusedVariables false
set_option linter.unusedSimpArgs false
namespace Go.Proofs.YtimjnmbpbobfiaaGreatDoor
open Go Go.AL
open Go.ChangeShapes Go.WideShapes Go.ChangeAt Go.RowKit
set_option maxRecDepth 100000 in
theorem inputKeeps_lifted (os : Os) (started : os.Started) (H : Type) (enc : TypeId × Value → H) :
  ReturnsInHanded {} Tryz.checked os 6 .any (fun w args => (Rows.inputKeepsSpec.pre enc Tryz.prog Tryz.f6 [] false w args ∧ laidMetH Tryz.prog laidL w) ∧ sizedMet enc Tryz.prog Tryz.f6 (OpenSpec.ofChange Rows.inputKeepsSpec) false w args)
   (Rows.inputKeepsSpec.post enc Tryz.prog Tryz.f6 false true false false):=by
 refine rih (C := Tryz.checked) (X := fun w _ => laidMetH Tryz.prog laidL w) (fun _ _ _ hh h => h.of_heap hh) own started (by kernel_rfl) Tryz.func6
  (ChangeSpec.witness_shaped (enc:=enc) (C:=Tryz.checked) (os:=os) (X:=fun w _=>laidMetH Tryz.prog laidL w) false (World.laidAll Tryz.prog os laidL) #[.slice none 0 0,.slice none 0 0] 8 (World.laidAll_os _ _ _) (World.shaped_of_ZipB (by kernel_rfl) (by kernel_rfl)) (by kernel_rfl) (by kernel_rfl) (by kernel_rfl) (by rw [MakeChecks.laidMetH_plain _ _ _ (by kernel_rfl)]; exact laidMet_laidAll _ (by kernel_rfl) (by kernel_rfl))) ?_
 intro W base args ds gs before hsh hval hW hsz hL
 obtain ⟨mx,hmx⟩:=maxLen hsh
 letI : MX:=⟨mx⟩
 exact law_contract (P := Tryz.prog) (G := Gl) (n := 8) laidOut (ts := [22, 23]) (by rw [Tryz.params6]) (by kernel_rfl)
  (fun t ht => by
   have : [22,23].all (fun t=>Tryz.prog.readableRec t && decide (t < Tryz.prog.types.size)) = true:=by kernel_rfl
   have:=List.all_eq_true.1 this t ht
   simpa using this) rfl rfl Tryz.underlying4
  (fun ds hd => by
   match ds,hd with
   | [d0,d1],_=>rfl)
  (fun xs ha => by
   cases ha with
   | cons h0 ha =>
    cases ha with
    | cons h1 ha =>
     cases ha
     obtain ⟨v0,c0,e0⟩:=arg_LFe h0
     obtain ⟨v1,c1,e1⟩:=arg_LS h1
     rw [e0,e1]
     exact _root_.Go.Proofs.YtimjnmbpbobfiaaGreatDoor.H.ikeeps_ v0 v1) hval hW hsz (globOk hL hsh hmx)

theorem inputKeeps_row : Rows.InputKeepsSaid :=
 OpenClaim.holds_of_wide 6 Tryz.f6 rfl rfl rfl rfl rfl rfl rfl ⟨rfl, rfl, rfl, rfl, rfl⟩ rfl rfl rfl rfl rfl (by kernel_rfl) Tryz.func6 (by kernel_rfl)
  (of_decide_eq_true (by kernel_rfl)) (by unfold Func.isWrapper; first|(rw [if_pos (by decide +kernel)]; kernel_rfl)|(rw [if_neg (by decide +kernel)]; exact ⟨rfl,rfl⟩))
  (fun os started H enc _=>inputKeeps_lifted os started H enc)

theorem inputKeeps_holds : Rows.InputKeepsCardSaid :=
 Claim7.holds_tied_plain_at .later [] [.data, .widerDeep, .widerDeep, .pinned] true (true, "8b39dea730c2d981127233d171474d1868b5c69494294fa8a5cdafc29566e3af") true
  inputKeeps_row (fun _ h=>by cases h) (by kernel_rfl) (fun _ h=>by cases h) inputKeeps_row_tie rfl ⟨rfl,rfl⟩ (by kernel_rfl) rfl
  (fun f fn hf hfn => by
   obtain rfl : f = 6:=Option.some.inj ((show Tryz.prog.funcNamed "arlink/arlinklaw18.InputKeeps" = some 6 by kernel_rfl).symm.trans hf) |>.symm
   obtain rfl : fn = Tryz.f6:=(Option.some.inj (Tryz.func6.symm.trans hfn)).symm
   exact ⟨by kernel_rfl, fun j t ht => by
    have hm : t ∈ [22, 23] := by
     have:=Array.mem_of_getElem? ht
     rw [Tryz.params6] at this
     simpa using this
    have : [22,23].all (fun t=>!Tryz.prog.wantsStandIn t) = true:=by kernel_rfl
    have:=List.all_eq_true.1 this t hm
    exact (show Tryz.prog.wantsStandIn t = false by simpa using this)⟩)
  (by kernel_rfl)
#print axioms inputKeeps_holds
end Go.Proofs.YtimjnmbpbobfiaaGreatDoor
