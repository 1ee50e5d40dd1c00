/- Part of a proof. No condition. -/
import Derived.Test.YtideppacnkilbaaDoorWalks
import Derived.Test.YtideppacnkilbaaDoorBd
import Derived.Test.YtideppacnkilbaaDoorRows
import Derived.Test.YtideppacnkilbaaDoorCards
import Derived.Test.YtideppacnkilbaaDoorTie
import Derived.SevenTiedAt
set_option linter.unusedVariables false
set_option linter.unusedSimpArgs false
namespace Go.Proofs.YtideppacnkilbaaDoor
open Go Go.AL Go.AL.Bd
set_option maxRecDepth 100000
set_option maxHeartbeats 4000000

theorem bindOrder_ (l : List Use) (t : Int) (ht : 0 ≤ t ∧ t ≤ 255) : FCall Tryd.prog Gl 5 [LU l, .v (.int .u8 t)] [] (vB true) [] := by
  refine FCall.enterL hT hmix [] Tryd.func5 rfl rfl rfl fun hbd => ?_
  (conv => whnf)
  (refine CallLeaf.w (by (repeat' (first | exact ArgsTo.nil | refine ArgsTo.cons ?_ ?_ | exact ArgTo.mk' rfl (Wk.refl _) | exact ArgTo.mk' rfl Wk.nilm | exact ArgTo.mk' rfl (Wk.list _ _) | exact ArgTo.mk' rfl (Wk.agg (by (repeat' (first | exact Wks.nil | refine Wks.cons ?_ ?_ | exact Wk.refl _ | exact Wk.nilm | exact Wk.list _ _ | refine Wk.agg ?_))))))) (awake_) rfl ?_; (conv => whnf))
  refine CallLeaf.w (by (repeat' (first | exact ArgsTo.nil | refine ArgsTo.cons ?_ ?_ | exact ArgTo.mk' rfl (Wk.refl _) | exact ArgTo.mk' rfl Wk.nilm | exact ArgTo.mk' rfl (Wk.list _ _) | exact ArgTo.mk' rfl (Wk.agg (by (repeat' (first | exact Wks.nil | refine Wks.cons ?_ ?_ | exact Wk.refl _ | exact Wk.nilm | exact Wk.list _ _ | refine Wk.agg ?_))))))) (right_ l) rfl ?_
  (conv => whnf)
  refine split_intro (fun ha => ?_) (fun ha => ?_)
  · (conv => whnf)
    (refine CallLeaf.w (by (repeat' (first | exact ArgsTo.nil | refine ArgsTo.cons ?_ ?_ | exact ArgTo.mk' rfl (Wk.refl _) | exact ArgTo.mk' rfl Wk.nilm | exact ArgTo.mk' rfl (Wk.list _ _) | exact ArgTo.mk' rfl (Wk.agg (by (repeat' (first | exact Wks.nil | refine Wks.cons ?_ ?_ | exact Wk.refl _ | exact Wk.nilm | exact Wk.list _ _ | refine Wk.agg ?_))))))) (awake_) rfl ?_; (conv => whnf); exact Wk.refl _)
  · (conv => whnf)
    refine split_intro (fun hz => ?_) (fun hz => ?_)
    · (conv => whnf)
      (refine CallLeaf.w (by (repeat' (first | exact ArgsTo.nil | refine ArgsTo.cons ?_ ?_ | exact ArgTo.mk' rfl (Wk.refl _) | exact ArgTo.mk' rfl Wk.nilm | exact ArgTo.mk' rfl (Wk.list _ _) | exact ArgTo.mk' rfl (Wk.agg (by (repeat' (first | exact Wks.nil | refine Wks.cons ?_ ?_ | exact Wk.refl _ | exact Wk.nilm | exact Wk.list _ _ | refine Wk.agg ?_))))))) (awake_) rfl ?_; (conv => whnf); exact Wk.refl _)
    · replace ha : right l = true := by simpa using ha
      have hz' : l.length ≠ 0 := by intro e; have := List.eq_nil_of_length_eq_zero e; subst this; simp at hz
      have la := (right_iff.1 ha).1
      have ba := right_bind ha
      obtain ⟨k, hk⟩ : ∃ k : Nat, t.tmod (l.length : Int) = k := ⟨(t.tmod (l.length : Int)).toNat, by
        rw [Int.tmod_eq_emod_of_nonneg ht.1]
        exact (Int.toNat_of_nonneg (Int.emod_nonneg t (show (l.length : Int) ≠ 0 by omega))).symm⟩
      have hkl : k < l.length := by
        rw [Int.tmod_eq_emod_of_nonneg ht.1] at hk
        have := Int.emod_lt_of_pos t (show 0 < (l.length : Int) by omega)
        rw [hk] at this
        omega
      have Al := turn_alike k ha
      have bt : ∀ x ∈ l.drop k ++ l.take k, 1 ≤ x.sym.bind ∧ x.sym.bind ≤ 5 := fun x hx => (List.mem_append.1 hx).elim (fun h => ba x (List.mem_of_mem_drop h)) (fun h => ba x (List.mem_of_mem_take h))
      have lt' : (l.drop k ++ l.take k).length ≤ 50 := by simp; omega
      have ld : (l.drop k).length ≤ 50 := by simp; omega
      (conv => whnf)
      refine ⟨t, wrap64 (by omega), ?_⟩
      (conv => whnf)
      refine ⟨k, rem64 (by rw [List.length_map]; exact hk) (by rw [List.length_map]; omega), ?_⟩
      (conv => whnf)
      refine ⟨_, slL (r := l.drop k) (by omega) (by rw [List.length_map]; omega) (Int.le_refl _) (fun _ => rfl) (by rw [List.length_map]; simp), ?_⟩
      (conv => whnf)
      refine ⟨_, appL (f := Use.enc) (xs := []) (ys := l.drop k) (zs := l.drop k) rfl rfl (fun _ => rfl) rfl (by show _ * 48 ≤ _; omega), ?_⟩
      (conv => whnf)
      refine ⟨_, slL (r := l.take k) (by omega) (by omega) (by rw [List.length_map]; omega) (fun _ => rfl) (by simp), ?_⟩
      (conv => whnf)
      refine ⟨_, appL (f := Use.enc) (xs := l.drop k) (ys := l.take k) (zs := l.drop k ++ l.take k) rfl rfl (fun _ => rfl) rfl (by show _ * 48 ≤ _; omega), ?_⟩
      (conv => whnf)
      refine CallLeaf.w (by (repeat' (first | exact ArgsTo.nil | refine ArgsTo.cons ?_ ?_ | exact ArgTo.mk' rfl (Wk.refl _) | exact ArgTo.mk' rfl Wk.nilm | exact ArgTo.mk' rfl (Wk.list _ _) | exact ArgTo.mk' rfl (Wk.agg (by (repeat' (first | exact Wks.nil | refine Wks.cons ?_ ?_ | exact Wk.refl _ | exact Wk.nilm | exact Wk.list _ _ | refine Wk.agg ?_))))))) (all_ l (by omega) ba) rfl ?_
      (conv => whnf)
      refine CallLeaf.w (by (repeat' (first | exact ArgsTo.nil | refine ArgsTo.cons ?_ ?_ | exact ArgTo.mk' rfl (Wk.refl _) | exact ArgTo.mk' rfl Wk.nilm | exact ArgTo.mk' rfl (Wk.list _ _) | exact ArgTo.mk' rfl (Wk.agg (by (repeat' (first | exact Wks.nil | refine Wks.cons ?_ ?_ | exact Wk.refl _ | exact Wk.nilm | exact Wk.list _ _ | refine Wk.agg ?_))))))) (all_ (l.drop k ++ l.take k) (by omega) bt) rfl ?_
      (conv => whnf)
      refine CallLeaf.w (by (repeat' (first | exact ArgsTo.nil | refine ArgsTo.cons ?_ ?_ | exact ArgTo.mk' rfl (Wk.refl _) | exact ArgTo.mk' rfl Wk.nilm | exact ArgTo.mk' rfl (Wk.list _ _) | exact ArgTo.mk' rfl (Wk.agg (by (repeat' (first | exact Wks.nil | refine Wks.cons ?_ ?_ | exact Wk.refl _ | exact Wk.nilm | exact Wk.list _ _ | refine Wk.agg ?_))))))) (wanted_ (all l)) rfl ?_
      (conv => whnf)
      refine CallLeaf.w (by (repeat' (first | exact ArgsTo.nil | refine ArgsTo.cons ?_ ?_ | exact ArgTo.mk' rfl (Wk.refl _) | exact ArgTo.mk' rfl Wk.nilm | exact ArgTo.mk' rfl (Wk.list _ _) | exact ArgTo.mk' rfl (Wk.agg (by (repeat' (first | exact Wks.nil | refine Wks.cons ?_ ?_ | exact Wk.refl _ | exact Wk.nilm | exact Wk.list _ _ | refine Wk.agg ?_))))))) (wanted_ (all (l.drop k ++ l.take k))) rfl ?_
      (conv => whnf)
      refine split_intro (fun h => absurd h (by rw [Al.wan]; simp)) (fun _ => ?_)
      (conv => whnf)
      refine CallLeaf.w (by (repeat' (first | exact ArgsTo.nil | refine ArgsTo.cons ?_ ?_ | exact ArgTo.mk' rfl (Wk.refl _) | exact ArgTo.mk' rfl Wk.nilm | exact ArgTo.mk' rfl (Wk.list _ _) | exact ArgTo.mk' rfl (Wk.agg (by (repeat' (first | exact Wks.nil | refine Wks.cons ?_ ?_ | exact Wk.refl _ | exact Wk.nilm | exact Wk.list _ _ | refine Wk.agg ?_))))))) (undefined_ (all l)) rfl ?_
      (conv => whnf)
      refine CallLeaf.w (by (repeat' (first | exact ArgsTo.nil | refine ArgsTo.cons ?_ ?_ | exact ArgTo.mk' rfl (Wk.refl _) | exact ArgTo.mk' rfl Wk.nilm | exact ArgTo.mk' rfl (Wk.list _ _) | exact ArgTo.mk' rfl (Wk.agg (by (repeat' (first | exact Wks.nil | refine Wks.cons ?_ ?_ | exact Wk.refl _ | exact Wk.nilm | exact Wk.list _ _ | refine Wk.agg ?_))))))) (undefined_ (all (l.drop k ++ l.take k))) rfl ?_
      (conv => whnf)
      refine split_intro (fun h => absurd h (by rw [Al.und]; simp)) (fun _ => ?_)
      (conv => whnf)
      refine CallLeaf.w (by (repeat' (first | exact ArgsTo.nil | refine ArgsTo.cons ?_ ?_ | exact ArgTo.mk' rfl (Wk.refl _) | exact ArgTo.mk' rfl Wk.nilm | exact ArgTo.mk' rfl (Wk.list _ _) | exact ArgTo.mk' rfl (Wk.agg (by (repeat' (first | exact Wks.nil | refine Wks.cons ?_ ?_ | exact Wk.refl _ | exact Wk.nilm | exact Wk.list _ _ | refine Wk.agg ?_))))))) (duplicate_ (all l)) rfl ?_
      (conv => whnf)
      refine CallLeaf.w (by (repeat' (first | exact ArgsTo.nil | refine ArgsTo.cons ?_ ?_ | exact ArgTo.mk' rfl (Wk.refl _) | exact ArgTo.mk' rfl Wk.nilm | exact ArgTo.mk' rfl (Wk.list _ _) | exact ArgTo.mk' rfl (Wk.agg (by (repeat' (first | exact Wks.nil | refine Wks.cons ?_ ?_ | exact Wk.refl _ | exact Wk.nilm | exact Wk.list _ _ | refine Wk.agg ?_))))))) (duplicate_ (all (l.drop k ++ l.take k))) rfl ?_
      (conv => whnf)
      refine split_intro (fun h => absurd h (by rw [Al.dup]; simp)) (fun _ => ?_)
      (conv => whnf)
      refine split_intro (fun h => absurd h (by rw [Al.bnd]; simp)) (fun _ => ?_)
      (conv => whnf)
      refine split_intro (fun h => absurd h (by rw [Al.dfd]; simp)) (fun _ => ?_)
      (conv => whnf)
      refine split_intro (fun h => absurd h (by rw [List.length_map, List.length_map, Al.len]; simp)) (fun _ => ?_)
      (conv => whnf)
      refine split_intro (fun h3 => ?_) (fun h3 => ?_)
      · (conv => whnf)
        exact Wk.refl _
      · have hc := Al.com (by simpa using h3)
        (conv => whnf)
        refine split_intro (fun _ => ?_) (fun h => absurd h (by rw [hc.1]; simp))
        (conv => whnf)
        exact Wk.bool (by rw [hc.2]; simp)
end Go.Proofs.YtideppacnkilbaaDoor

/- BindOrder: for every input the law returns true and leaves its arguments as they were. No condition but the given statement's own. -/
set_option linter.unusedVariables false
set_option linter.unusedSimpArgs false
namespace Go.Proofs.YtideppacnkilbaaDoor
open Go Go.AL
open Go.ChangeShapes Go.WideShapes Go.ChangeAt Go.RowKit
set_option maxRecDepth 100000 in
theorem bindOrder_lifted (os : Os) (started : os.Started) (H : Type) (enc : TypeId × Value → H) :
    ReturnsInHanded {} Tryd.checked os 5 .any (fun w args => (Rows.bindOrderSpec.pre enc Tryd.prog Tryd.f5 [] false w args ∧ laidMetH Tryd.prog laidL w) ∧ sizedMet enc Tryd.prog Tryd.f5 (OpenSpec.ofChange Rows.bindOrderSpec) false w args)
      (Rows.bindOrderSpec.post enc Tryd.prog Tryd.f5 false true false false) := by
  refine returnsInHanded_of_change_and (C := Tryd.checked) (X := fun w _ => laidMetH Tryd.prog laidL w) (fun _ _ _ hh h => h.of_heap hh) own started (by kernel_rfl) Tryd.func5
    (ChangeSpec.witness_shaped (enc := enc) (C := Tryd.checked) (os := os) (X := fun w _ => laidMetH Tryd.prog laidL w) false (World.doorLaid Tryd.prog doorSteps os) #[.slice none 0 0, .int .u8 0] 8 rfl (World.shaped_of_RefB (by kernel_rfl) (by kernel_rfl)) (by kernel_rfl) (by kernel_rfl) (by kernel_rfl) (door_met os _)) ?_
  intro W base args ds gs before hval hW _ hsz hL _
  exact law_contract (P := Tryd.prog) (G := Gl) (n := 8) laidOut (ts := [22, 5]) (by rw [Tryd.params5]) (by kernel_rfl)
    (fun t ht => by
      have : [22, 5].all (fun t => Tryd.prog.readableRec t && decide (t < Tryd.prog.types.size)) = true := by kernel_rfl
      have := List.all_eq_true.1 this t ht
      simpa using this) rfl rfl Tryd.underlying4
    (fun ds hd => by
      match ds, hd with
      | [d0, d1], _ => rfl)
    (fun xs ha => by
      cases ha with
      | cons h0 ha =>
        cases ha with
        | cons h1 ha =>
          cases ha
          obtain ⟨v0, c0, e0⟩ := arg_LU h0
          obtain ⟨v1, c1, e1⟩ := arg_u8 h1
          rw [e0, e1]
          exact bindOrder_ v0 v1 c1) hval hW hsz (globOk hL)

theorem bindOrder_row : Rows.BindOrderSaid :=
  OpenClaim.holds_of_wide 5 Tryd.f5 rfl rfl rfl rfl rfl rfl rfl ⟨rfl, rfl, rfl, rfl, rfl⟩ rfl rfl rfl rfl rfl (by kernel_rfl) Tryd.func5 (by kernel_rfl)
    (of_decide_eq_true (by kernel_rfl)) (by unfold Func.isWrapper; first | (rw [if_pos (by decide +kernel)]; kernel_rfl) | (rw [if_neg (by decide +kernel)]; exact ⟨rfl, rfl⟩))
    (fun os started H enc _ => bindOrder_lifted os started H enc)

theorem bindOrder_holds : Rows.BindOrderCardSaid :=
  Claim7.holds_tied_plain_at .later [] [.data] true (true, "aca3bd19101ff2e3cd7bd264ece00945e5c9847a34e5b0d1c6cd363903548474") false
    bindOrder_row (fun _ h => by cases h) (by kernel_rfl) (fun _ h => by cases h) bindOrder_row_tie rfl ⟨rfl, rfl⟩ (by kernel_rfl) rfl
    (fun f fn hf hfn => by
      obtain rfl : f = 5 := Option.some.inj ((show Tryd.prog.funcNamed "arlink/arlinklaw13.BindOrder" = some 5 by kernel_rfl).symm.trans hf) |>.symm
      obtain rfl : fn = Tryd.f5 := (Option.some.inj (Tryd.func5.symm.trans hfn)).symm
      exact ⟨by kernel_rfl, fun j t ht => by
        have hm : t ∈ [22, 5] := by
          have := Array.mem_of_getElem? ht
          rw [Tryd.params5] at this
          simpa using this
        have : [22, 5].all (fun t => !Tryd.prog.wantsStandIn t) = true := by kernel_rfl
        have := List.all_eq_true.1 this t hm
        exact (show Tryd.prog.wantsStandIn t = false by simpa using this)⟩)
    (by kernel_rfl)
#print axioms bindOrder_holds
end Go.Proofs.YtideppacnkilbaaDoor
