/- Part of a proof. No condition. -/
import Derived.Test.YtideppacnkilbaaDoorWalks
import Derived.Test.YtideppacnkilbaaDoorBd
import Derived.Test.YtideppacnkilbaaDoorAlB
import Derived.Test.YtideppacnkilbaaDoorRows
import Derived.Test.YtideppacnkilbaaDoorCards
import Derived.Test.YtideppacnkilbaaDoorTie
import Derived.LaidMore
import Derived.Stop.Joined
import Derived.SevenTiedAt
import Derived.Lib.LaidTab
set_option linter.unusedVariables false
set_option linter.unusedSimpArgs false
namespace Go.Proofs.YtideppacnkilbaaDoor
open Go Go.AL Go.AL.Bd
set_option maxRecDepth 100000
set_option maxHeartbeats 4000000

theorem bindJoins_ (a b c : List Use) : FCall Tryd.prog Gl 3 [LU a, LU b, LU c] [] (vB true) [] := by
  refine FCall.enterL hT hmix [] Tryd.func3 rfl rfl rfl fun hbd => ?_
  (conv => whnf)
  (refine CallLeaf.w (by (repeat' (first | exact ArgsTo.nil | refine ArgsTo.cons ?_ ?_ | exact ArgTo.mk' rfl (Wk.refl _) | exact ArgTo.mk' rfl Wk.nilm | exact ArgTo.mk' rfl (Wk.list _ _) | exact ArgTo.mk' rfl (Wk.agg (by (repeat' (first | exact Wks.nil | refine Wks.cons ?_ ?_ | exact Wk.refl _ | exact Wk.nilm | exact Wk.list _ _ | refine Wk.agg ?_))))))) (awake_) rfl ?_; (conv => whnf))
  refine CallLeaf.w (by (repeat' (first | exact ArgsTo.nil | refine ArgsTo.cons ?_ ?_ | exact ArgTo.mk' rfl (Wk.refl _) | exact ArgTo.mk' rfl Wk.nilm | exact ArgTo.mk' rfl (Wk.list _ _) | exact ArgTo.mk' rfl (Wk.agg (by (repeat' (first | exact Wks.nil | refine Wks.cons ?_ ?_ | exact Wk.refl _ | exact Wk.nilm | exact Wk.list _ _ | refine Wk.agg ?_))))))) (right_ a) rfl ?_
  (conv => whnf)
  refine split_intro (fun ha => ?_) (fun ha => ?_)
  · (conv => whnf)
    (refine CallLeaf.w (by (repeat' (first | exact ArgsTo.nil | refine ArgsTo.cons ?_ ?_ | exact ArgTo.mk' rfl (Wk.refl _) | exact ArgTo.mk' rfl Wk.nilm | exact ArgTo.mk' rfl (Wk.list _ _) | exact ArgTo.mk' rfl (Wk.agg (by (repeat' (first | exact Wks.nil | refine Wks.cons ?_ ?_ | exact Wk.refl _ | exact Wk.nilm | exact Wk.list _ _ | refine Wk.agg ?_))))))) (awake_) rfl ?_; (conv => whnf); exact Wk.refl _)
  · (conv => whnf)
    refine CallLeaf.w (by (repeat' (first | exact ArgsTo.nil | refine ArgsTo.cons ?_ ?_ | exact ArgTo.mk' rfl (Wk.refl _) | exact ArgTo.mk' rfl Wk.nilm | exact ArgTo.mk' rfl (Wk.list _ _) | exact ArgTo.mk' rfl (Wk.agg (by (repeat' (first | exact Wks.nil | refine Wks.cons ?_ ?_ | exact Wk.refl _ | exact Wk.nilm | exact Wk.list _ _ | refine Wk.agg ?_))))))) (right_ b) rfl ?_
    (conv => whnf)
    refine split_intro (fun hb => ?_) (fun hb => ?_)
    · (conv => whnf)
      (refine CallLeaf.w (by (repeat' (first | exact ArgsTo.nil | refine ArgsTo.cons ?_ ?_ | exact ArgTo.mk' rfl (Wk.refl _) | exact ArgTo.mk' rfl Wk.nilm | exact ArgTo.mk' rfl (Wk.list _ _) | exact ArgTo.mk' rfl (Wk.agg (by (repeat' (first | exact Wks.nil | refine Wks.cons ?_ ?_ | exact Wk.refl _ | exact Wk.nilm | exact Wk.list _ _ | refine Wk.agg ?_))))))) (awake_) rfl ?_; (conv => whnf); exact Wk.refl _)
    · (conv => whnf)
      refine CallLeaf.w (by (repeat' (first | exact ArgsTo.nil | refine ArgsTo.cons ?_ ?_ | exact ArgTo.mk' rfl (Wk.refl _) | exact ArgTo.mk' rfl Wk.nilm | exact ArgTo.mk' rfl (Wk.list _ _) | exact ArgTo.mk' rfl (Wk.agg (by (repeat' (first | exact Wks.nil | refine Wks.cons ?_ ?_ | exact Wk.refl _ | exact Wk.nilm | exact Wk.list _ _ | refine Wk.agg ?_))))))) (right_ c) rfl ?_
      (conv => whnf)
      refine split_intro (fun hc => ?_) (fun hc => ?_)
      · (conv => whnf)
        (refine CallLeaf.w (by (repeat' (first | exact ArgsTo.nil | refine ArgsTo.cons ?_ ?_ | exact ArgTo.mk' rfl (Wk.refl _) | exact ArgTo.mk' rfl Wk.nilm | exact ArgTo.mk' rfl (Wk.list _ _) | exact ArgTo.mk' rfl (Wk.agg (by (repeat' (first | exact Wks.nil | refine Wks.cons ?_ ?_ | exact Wk.refl _ | exact Wk.nilm | exact Wk.list _ _ | refine Wk.agg ?_))))))) (awake_) rfl ?_; (conv => whnf); exact Wk.refl _)
      · replace ha : right a = true := by simpa using ha
        replace hb : right b = true := by simpa using hb
        replace hc : right c = true := by simpa using hc
        have la := (right_iff.1 ha).1
        have lb := (right_iff.1 hb).1
        have lc := (right_iff.1 hc).1
        have ba := right_bind ha
        have bb := right_bind hb
        have bc := right_bind hc
        have wa := wf_all ba
        have wb := wf_all bb
        have wc := wf_all bc
        have A := all_bind ba
        have B := all_bind bb
        have C := all_bind bc
        have AB := join_bind A.1 B.1
        have BC := join_bind B.1 C.1
        have Lab : (join (all a) (all b)).strongs.length ≤ 100 := by simp [join]; omega
        have Lbc : (join (all b) (all c)).strongs.length ≤ 100 := by simp [join]; omega
        have ok : ∀ x ∈ a ++ b, okUse x = true := fun x hx => (List.mem_append.1 hx).elim (fun h => (right_iff.1 ha).2 x h) (fun h => (right_iff.1 hb).2 x h)
        have e1 : join (all a) (all b) = refOf (a ++ b) := by rw [ref_all ok, all_append ba bb]
        have e2 := join_assoc wa wb wc
        have e3 := join_empty wa
        have e4 := empty_join wa
        (conv => whnf)
        refine CallLeaf.w (by (repeat' (first | exact ArgsTo.nil | refine ArgsTo.cons ?_ ?_ | exact ArgTo.mk' rfl (Wk.refl _) | exact ArgTo.mk' rfl Wk.nilm | exact ArgTo.mk' rfl (Wk.list _ _) | exact ArgTo.mk' rfl (Wk.agg (by (repeat' (first | exact Wks.nil | refine Wks.cons ?_ ?_ | exact Wk.refl _ | exact Wk.nilm | exact Wk.list _ _ | refine Wk.agg ?_))))))) (all_ a (by omega) ba) rfl ?_
        (conv => whnf)
        refine CallLeaf.w (by (repeat' (first | exact ArgsTo.nil | refine ArgsTo.cons ?_ ?_ | exact ArgTo.mk' rfl (Wk.refl _) | exact ArgTo.mk' rfl Wk.nilm | exact ArgTo.mk' rfl (Wk.list _ _) | exact ArgTo.mk' rfl (Wk.agg (by (repeat' (first | exact Wks.nil | refine Wks.cons ?_ ?_ | exact Wk.refl _ | exact Wk.nilm | exact Wk.list _ _ | refine Wk.agg ?_))))))) (all_ b (by omega) bb) rfl ?_
        (conv => whnf)
        refine CallLeaf.w (by (repeat' (first | exact ArgsTo.nil | refine ArgsTo.cons ?_ ?_ | exact ArgTo.mk' rfl (Wk.refl _) | exact ArgTo.mk' rfl Wk.nilm | exact ArgTo.mk' rfl (Wk.list _ _) | exact ArgTo.mk' rfl (Wk.agg (by (repeat' (first | exact Wks.nil | refine Wks.cons ?_ ?_ | exact Wk.refl _ | exact Wk.nilm | exact Wk.list _ _ | refine Wk.agg ?_))))))) (all_ c (by omega) bc) rfl ?_
        (conv => whnf)
        refine ⟨_, appL (f := Use.enc) (xs := []) (ys := a) (zs := a) rfl rfl (fun _ => rfl) rfl (by show _ * 48 ≤ _; omega), ?_⟩
        (conv => whnf)
        refine ⟨_, appL (f := Use.enc) (xs := a) (ys := b) (zs := a ++ b) rfl rfl (fun _ => rfl) rfl (by rw [List.length_append]; show _ * 48 ≤ _; omega), ?_⟩
        (conv => whnf)
        refine CallLeaf.w (by (repeat' (first | exact ArgsTo.nil | refine ArgsTo.cons ?_ ?_ | exact ArgTo.mk' rfl (Wk.refl _) | exact ArgTo.mk' rfl Wk.nilm | exact ArgTo.mk' rfl (Wk.list _ _) | exact ArgTo.mk' rfl (Wk.agg (by (repeat' (first | exact Wks.nil | refine Wks.cons ?_ ?_ | exact Wk.refl _ | exact Wk.nilm | exact Wk.list _ _ | refine Wk.agg ?_))))))) (join_ (all a) (all b) A.1 B.1 (by rw [List.length_append]; omega)) rfl ?_
        (conv => whnf)
        refine CallLeaf.w (by (repeat' (first | exact ArgsTo.nil | refine ArgsTo.cons ?_ ?_ | exact ArgTo.mk' rfl (Wk.refl _) | exact ArgTo.mk' rfl Wk.nilm | exact ArgTo.mk' rfl (Wk.list _ _) | exact ArgTo.mk' rfl (Wk.agg (by (repeat' (first | exact Wks.nil | refine Wks.cons ?_ ?_ | exact Wk.refl _ | exact Wk.nilm | exact Wk.list _ _ | refine Wk.agg ?_))))))) (state_ (join (all a) (all b))) rfl ?_
        (conv => whnf)
        refine CallLeaf.w (by (repeat' (first | exact ArgsTo.nil | refine ArgsTo.cons ?_ ?_ | exact ArgTo.mk' rfl (Wk.refl _) | exact ArgTo.mk' rfl Wk.nilm | exact ArgTo.mk' rfl (Wk.list _ _) | exact ArgTo.mk' rfl (Wk.agg (by (repeat' (first | exact Wks.nil | refine Wks.cons ?_ ?_ | exact Wk.refl _ | exact Wk.nilm | exact Wk.list _ _ | refine Wk.agg ?_))))))) (refOf_ (a ++ b) (by rw [List.length_append]; omega)) rfl ?_
        (conv => whnf)
        refine CallLeaf.w (by (repeat' (first | exact ArgsTo.nil | refine ArgsTo.cons ?_ ?_ | exact ArgTo.mk' rfl (Wk.refl _) | exact ArgTo.mk' rfl Wk.nilm | exact ArgTo.mk' rfl (Wk.list _ _) | exact ArgTo.mk' rfl (Wk.agg (by (repeat' (first | exact Wks.nil | refine Wks.cons ?_ ?_ | exact Wk.refl _ | exact Wk.nilm | exact Wk.list _ _ | refine Wk.agg ?_))))))) (same_ (join (all a) (all b)) (refOf (a ++ b))) rfl ?_
        (conv => whnf)
        refine split_intro (fun h => absurd h (by rw [e1]; simp)) (fun _ => ?_)
        (conv => whnf)
        refine CallLeaf.w (by (repeat' (first | exact ArgsTo.nil | refine ArgsTo.cons ?_ ?_ | exact ArgTo.mk' rfl (Wk.refl _) | exact ArgTo.mk' rfl Wk.nilm | exact ArgTo.mk' rfl (Wk.list _ _) | exact ArgTo.mk' rfl (Wk.agg (by (repeat' (first | exact Wks.nil | refine Wks.cons ?_ ?_ | exact Wk.refl _ | exact Wk.nilm | exact Wk.list _ _ | refine Wk.agg ?_))))))) (join_ (all a) (all b) A.1 B.1 (by rw [List.length_append]; omega)) rfl ?_
        (conv => whnf)
        refine CallLeaf.w (by (repeat' (first | exact ArgsTo.nil | refine ArgsTo.cons ?_ ?_ | exact ArgTo.mk' rfl (Wk.refl _) | exact ArgTo.mk' rfl Wk.nilm | exact ArgTo.mk' rfl (Wk.list _ _) | exact ArgTo.mk' rfl (Wk.agg (by (repeat' (first | exact Wks.nil | refine Wks.cons ?_ ?_ | exact Wk.refl _ | exact Wk.nilm | exact Wk.list _ _ | refine Wk.agg ?_))))))) (join_ (join (all a) (all b)) (all c) AB C.1 (by rw [List.length_append]; omega)) rfl ?_
        (conv => whnf)
        refine CallLeaf.w (by (repeat' (first | exact ArgsTo.nil | refine ArgsTo.cons ?_ ?_ | exact ArgTo.mk' rfl (Wk.refl _) | exact ArgTo.mk' rfl Wk.nilm | exact ArgTo.mk' rfl (Wk.list _ _) | exact ArgTo.mk' rfl (Wk.agg (by (repeat' (first | exact Wks.nil | refine Wks.cons ?_ ?_ | exact Wk.refl _ | exact Wk.nilm | exact Wk.list _ _ | refine Wk.agg ?_))))))) (join_ (all b) (all c) B.1 C.1 (by rw [List.length_append]; omega)) rfl ?_
        (conv => whnf)
        refine CallLeaf.w (by (repeat' (first | exact ArgsTo.nil | refine ArgsTo.cons ?_ ?_ | exact ArgTo.mk' rfl (Wk.refl _) | exact ArgTo.mk' rfl Wk.nilm | exact ArgTo.mk' rfl (Wk.list _ _) | exact ArgTo.mk' rfl (Wk.agg (by (repeat' (first | exact Wks.nil | refine Wks.cons ?_ ?_ | exact Wk.refl _ | exact Wk.nilm | exact Wk.list _ _ | refine Wk.agg ?_))))))) (join_ (all a) (join (all b) (all c)) A.1 BC (by rw [List.length_append]; omega)) rfl ?_
        (conv => whnf)
        refine CallLeaf.w (by (repeat' (first | exact ArgsTo.nil | refine ArgsTo.cons ?_ ?_ | exact ArgTo.mk' rfl (Wk.refl _) | exact ArgTo.mk' rfl Wk.nilm | exact ArgTo.mk' rfl (Wk.list _ _) | exact ArgTo.mk' rfl (Wk.agg (by (repeat' (first | exact Wks.nil | refine Wks.cons ?_ ?_ | exact Wk.refl _ | exact Wk.nilm | exact Wk.list _ _ | refine Wk.agg ?_))))))) (state_ (join (join (all a) (all b)) (all c))) rfl ?_
        (conv => whnf)
        refine CallLeaf.w (by (repeat' (first | exact ArgsTo.nil | refine ArgsTo.cons ?_ ?_ | exact ArgTo.mk' rfl (Wk.refl _) | exact ArgTo.mk' rfl Wk.nilm | exact ArgTo.mk' rfl (Wk.list _ _) | exact ArgTo.mk' rfl (Wk.agg (by (repeat' (first | exact Wks.nil | refine Wks.cons ?_ ?_ | exact Wk.refl _ | exact Wk.nilm | exact Wk.list _ _ | refine Wk.agg ?_))))))) (state_ (join (all a) (join (all b) (all c)))) rfl ?_
        (conv => whnf)
        refine CallLeaf.w (by (repeat' (first | exact ArgsTo.nil | refine ArgsTo.cons ?_ ?_ | exact ArgTo.mk' rfl (Wk.refl _) | exact ArgTo.mk' rfl Wk.nilm | exact ArgTo.mk' rfl (Wk.list _ _) | exact ArgTo.mk' rfl (Wk.agg (by (repeat' (first | exact Wks.nil | refine Wks.cons ?_ ?_ | exact Wk.refl _ | exact Wk.nilm | exact Wk.list _ _ | refine Wk.agg ?_))))))) (same_ (join (join (all a) (all b)) (all c)) (join (all a) (join (all b) (all c)))) rfl ?_
        (conv => whnf)
        refine split_intro (fun _ => ?_) (fun h => absurd h (by rw [e2]; simp))
        (conv => whnf)
        refine CallLeaf.w (by (repeat' (first | exact ArgsTo.nil | refine ArgsTo.cons ?_ ?_ | exact ArgTo.mk' rfl (Wk.refl _) | exact ArgTo.mk' rfl Wk.nilm | exact ArgTo.mk' rfl (Wk.list _ _) | exact ArgTo.mk' rfl (Wk.agg (by (repeat' (first | exact Wks.nil | refine Wks.cons ?_ ?_ | exact Wk.refl _ | exact Wk.nilm | exact Wk.list _ _ | refine Wk.agg ?_))))))) (empty_) rfl ?_
        (conv => whnf)
        refine CallLeaf.w (by (repeat' (first | exact ArgsTo.nil | refine ArgsTo.cons ?_ ?_ | exact ArgTo.mk' rfl (Wk.refl _) | exact ArgTo.mk' rfl Wk.nilm | exact ArgTo.mk' rfl (Wk.list _ _) | exact ArgTo.mk' rfl (Wk.agg (by (repeat' (first | exact Wks.nil | refine Wks.cons ?_ ?_ | exact Wk.refl _ | exact Wk.nilm | exact Wk.list _ _ | refine Wk.agg ?_))))))) (join_ (all a) empty A.1 (by decide) (by rw [List.length_append]; show (_ + 0) * 8 ≤ _; omega)) rfl ?_
        (conv => whnf)
        refine CallLeaf.w (by (repeat' (first | exact ArgsTo.nil | refine ArgsTo.cons ?_ ?_ | exact ArgTo.mk' rfl (Wk.refl _) | exact ArgTo.mk' rfl Wk.nilm | exact ArgTo.mk' rfl (Wk.list _ _) | exact ArgTo.mk' rfl (Wk.agg (by (repeat' (first | exact Wks.nil | refine Wks.cons ?_ ?_ | exact Wk.refl _ | exact Wk.nilm | exact Wk.list _ _ | refine Wk.agg ?_))))))) (state_ (join (all a) empty)) rfl ?_
        (conv => whnf)
        refine CallLeaf.w (by (repeat' (first | exact ArgsTo.nil | refine ArgsTo.cons ?_ ?_ | exact ArgTo.mk' rfl (Wk.refl _) | exact ArgTo.mk' rfl Wk.nilm | exact ArgTo.mk' rfl (Wk.list _ _) | exact ArgTo.mk' rfl (Wk.agg (by (repeat' (first | exact Wks.nil | refine Wks.cons ?_ ?_ | exact Wk.refl _ | exact Wk.nilm | exact Wk.list _ _ | refine Wk.agg ?_))))))) (state_ (all a)) rfl ?_
        (conv => whnf)
        refine CallLeaf.w (by (repeat' (first | exact ArgsTo.nil | refine ArgsTo.cons ?_ ?_ | exact ArgTo.mk' rfl (Wk.refl _) | exact ArgTo.mk' rfl Wk.nilm | exact ArgTo.mk' rfl (Wk.list _ _) | exact ArgTo.mk' rfl (Wk.agg (by (repeat' (first | exact Wks.nil | refine Wks.cons ?_ ?_ | exact Wk.refl _ | exact Wk.nilm | exact Wk.list _ _ | refine Wk.agg ?_))))))) (same_ (join (all a) empty) (all a)) rfl ?_
        (conv => whnf)
        refine split_intro (fun _ => ?_) (fun h => absurd h (by rw [e3]; simp))
        (conv => whnf)
        refine CallLeaf.w (by (repeat' (first | exact ArgsTo.nil | refine ArgsTo.cons ?_ ?_ | exact ArgTo.mk' rfl (Wk.refl _) | exact ArgTo.mk' rfl Wk.nilm | exact ArgTo.mk' rfl (Wk.list _ _) | exact ArgTo.mk' rfl (Wk.agg (by (repeat' (first | exact Wks.nil | refine Wks.cons ?_ ?_ | exact Wk.refl _ | exact Wk.nilm | exact Wk.list _ _ | refine Wk.agg ?_))))))) (empty_) rfl ?_
        (conv => whnf)
        refine CallLeaf.w (by (repeat' (first | exact ArgsTo.nil | refine ArgsTo.cons ?_ ?_ | exact ArgTo.mk' rfl (Wk.refl _) | exact ArgTo.mk' rfl Wk.nilm | exact ArgTo.mk' rfl (Wk.list _ _) | exact ArgTo.mk' rfl (Wk.agg (by (repeat' (first | exact Wks.nil | refine Wks.cons ?_ ?_ | exact Wk.refl _ | exact Wk.nilm | exact Wk.list _ _ | refine Wk.agg ?_))))))) (join_ empty (all a) (by decide) A.1 (by rw [List.length_append]; show (0 + _) * 8 ≤ _; omega)) rfl ?_
        (conv => whnf)
        refine CallLeaf.w (by (repeat' (first | exact ArgsTo.nil | refine ArgsTo.cons ?_ ?_ | exact ArgTo.mk' rfl (Wk.refl _) | exact ArgTo.mk' rfl Wk.nilm | exact ArgTo.mk' rfl (Wk.list _ _) | exact ArgTo.mk' rfl (Wk.agg (by (repeat' (first | exact Wks.nil | refine Wks.cons ?_ ?_ | exact Wk.refl _ | exact Wk.nilm | exact Wk.list _ _ | refine Wk.agg ?_))))))) (state_ (join empty (all a))) rfl ?_
        (conv => whnf)
        refine CallLeaf.w (by (repeat' (first | exact ArgsTo.nil | refine ArgsTo.cons ?_ ?_ | exact ArgTo.mk' rfl (Wk.refl _) | exact ArgTo.mk' rfl Wk.nilm | exact ArgTo.mk' rfl (Wk.list _ _) | exact ArgTo.mk' rfl (Wk.agg (by (repeat' (first | exact Wks.nil | refine Wks.cons ?_ ?_ | exact Wk.refl _ | exact Wk.nilm | exact Wk.list _ _ | refine Wk.agg ?_))))))) (state_ (all a)) rfl ?_
        (conv => whnf)
        refine CallLeaf.w (by (repeat' (first | exact ArgsTo.nil | refine ArgsTo.cons ?_ ?_ | exact ArgTo.mk' rfl (Wk.refl _) | exact ArgTo.mk' rfl Wk.nilm | exact ArgTo.mk' rfl (Wk.list _ _) | exact ArgTo.mk' rfl (Wk.agg (by (repeat' (first | exact Wks.nil | refine Wks.cons ?_ ?_ | exact Wk.refl _ | exact Wk.nilm | exact Wk.list _ _ | refine Wk.agg ?_))))))) (same_ (join empty (all a)) (all a)) rfl ?_
        (conv => whnf)
        exact Wk.bool (by rw [e4]; simp)
end Go.Proofs.YtideppacnkilbaaDoor

/- BindJoins: for every input the law returns true and leaves its arguments. No condition but the given card's own. -/
set_option linter.unusedVariables false
set_option linter.unusedSimpArgs false
namespace Go.Proofs.YtideppacnkilbaaDoor
open Go Go.AL Go.AL.Bd
open Go.ChangeShapes Go.WideShapes Go.ChangeAt Go.RowKit
theorem own : ownKnob Tryd.prog.godebug = none := by kernel_rfl
theorem laidOut : laidOutB Tryd.prog = true := by kernel_rfl
abbrev laidL {H : Type} : List (String × DataW H) := [("arlink/bind.strength", Rows.laid_arlink_bind_strength)]
theorem door_met (os : Os) (args : Array Value) : laidMetH Tryd.prog laidL ((World.doorLaid Tryd.prog 400 os).forCall (fun _ _ => 0) ⟨#[], args, []⟩).memory :=
  laidMetH_of_parts3 (fuel := 8) (laidMet_of_run' 8 (by kernel_rfl) (by kernel_rfl)) (by kernel_rfl) (by kernel_rfl)
theorem gStrength : Tryd.prog.globalNamed "arlink/bind.strength" = some 0 := by kernel_rfl
theorem tStrength : (Tryd.prog.globals[0]?).map (·.type) = some 45 := by kernel_rfl
theorem globOk {W : World} (h : laidMetH Tryd.prog laidL W) : GlobOk Gl W := by
  rw [MakeChecks.laidMetH_plain _ _ _ (by kernel_rfl)] at h
  have hT := Lib.tabIs_of_head (P := Tryd.prog) (W := W) (name := "arlink/bind.strength") (k := .i64) (zs := [0, 3, 1, 2, 0, 0]) (rest := []) gStrength tStrength Tryd.underlying45 Tryd.underlying3 (by kernel_rfl) (by kernel_rfl) h
  intro g j hj
  by_cases hg : g = 0
  · subst hg
    have hj' : j < 6 := hj
    have hc := hT.cell gStrength j hj'
    rw [cell?_eq] at hc
    refine ⟨_, hc, ?_, ?_⟩
    · have : j = 0 ∨ j = 1 ∨ j = 2 ∨ j = 3 ∨ j = 4 ∨ j = 5 := by omega
      rcases this with rfl | rfl | rfl | rfl | rfl | rfl <;> exact .v _
    · have : j = 0 ∨ j = 1 ∨ j = 2 ∨ j = 3 ∨ j = 4 ∨ j = 5 := by omega
      rcases this with rfl | rfl | rfl | rfl | rfl | rfl <;> rfl
  · exfalso
    have : Gl g = [] := by unfold Gl; split <;> simp_all
    rw [this] at hj; simp at hj

theorem use_of {n : Nat} {ds : List D} (h : Rd Tryd.prog (n + 3) 39 ds) : ∃ x : Use, ds = x.enc := by
  simp only [Rd, Tryd.underlying39, Tryd.underlying37, Tryd.underlying3, Tryd.underlying9, RdFs] at h
  obtain ⟨a, b, rfl, ⟨a1, b1, rfl, ⟨s, _, rfl⟩, a2, b2, rfl, ⟨x1, _, rfl⟩, a3, b3, rfl, ⟨x2, _, rfl⟩, a4, b4, rfl, ⟨x3, _, rfl⟩, rfl⟩, a5, b5, rfl, ⟨x4, _, rfl⟩, rfl⟩ := h
  exact ⟨⟨⟨s, x1, x2, x3⟩, x4⟩, rfl⟩
theorem list_of {n : Nat} {α : Type} {f : α → List D} {e t : TypeId} {P : Program} {ds : List D} (hu : P.underlying t = some (.slice e)) (he : ∀ x, Rd P n e x → ∃ y, x = f y) (h : Rd P (n + 1) t ds) :
    ∃ l : List α, argD P t ds = .list none (l.map f) := by
  simp only [Rd, hu] at h
  obtain ⟨xs, rfl, _, hx⟩ := h
  refine ⟨?_, ?_⟩
  · exact xs.attach.map fun x => (he x.1 (hx x.1 x.2)).choose
  · simp only [argD, hu, List.map_map, D.list.injEq, true_and]
    have : ∀ x : { x // x ∈ xs }, f ((he x.1 (hx x.1 x.2)).choose) = x.1 := fun x => ((he x.1 (hx x.1 x.2)).choose_spec).symm
    have h2 : (xs.attach.map fun x => f ((he x.1 (hx x.1 x.2)).choose)) = xs.attach.map (fun x => x.1) := List.map_congr_left fun x _ => this x
    rw [List.attach_map_subtype_val] at h2
    exact h2.symm

theorem bindJoins_args {xs : List D} (h : ArgsR Tryd.prog 8 [22, 22, 22] xs) : ∃ a b c : List Use, xs = [LU a, LU b, LU c] := by
  cases h with
  | cons h1 h =>
    cases h with
    | cons h2 h =>
      cases h with
      | cons h3 h =>
        cases h
        obtain ⟨a, e1⟩ := list_of (f := Use.enc) Tryd.underlying22 (fun x => use_of (n := 4)) h1
        obtain ⟨b, e2⟩ := list_of (f := Use.enc) Tryd.underlying22 (fun x => use_of (n := 4)) h2
        obtain ⟨c, e3⟩ := list_of (f := Use.enc) Tryd.underlying22 (fun x => use_of (n := 4)) h3
        exact ⟨a, b, c, by rw [e1, e2, e3]⟩

set_option maxRecDepth 100000 in
theorem bindJoins_lifted (os : Os) (started : os.Started) (H : Type) (enc : TypeId × Value → H) :
    ReturnsInHanded {} Tryd.checked os 3 .any (fun w args => (Rows.bindJoinsSpec.pre enc Tryd.prog Tryd.f3 [] false w args ∧ laidMetH Tryd.prog laidL w) ∧ sizedMet enc Tryd.prog Tryd.f3 (OpenSpec.ofChange Rows.bindJoinsSpec) false w args)
      (Rows.bindJoinsSpec.post enc Tryd.prog Tryd.f3 false true false false) := by
  refine returnsInHanded_of_change_and (C := Tryd.checked) (X := fun w _ => laidMetH Tryd.prog laidL w) (fun _ _ _ hh h => h.of_heap hh) own started (by kernel_rfl) Tryd.func3
    (ChangeSpec.witness_shaped (enc := enc) (C := Tryd.checked) (os := os) (X := fun w _ => laidMetH Tryd.prog laidL w) false (World.doorLaid Tryd.prog 400 os) #[.slice none 0 0, .slice none 0 0, .slice none 0 0] 8 rfl (World.shaped_of_RefB (by kernel_rfl) (by kernel_rfl)) (by kernel_rfl) (by kernel_rfl) (by kernel_rfl) (door_met os _)) ?_
  intro W base args ds gs before hval hW _ hsz hL _
  exact law_contract (P := Tryd.prog) (G := Gl) (n := 8) laidOut (ts := [22, 22, 22]) (by rw [Tryd.params3]) (by kernel_rfl)
    (fun t ht => by simp at ht; subst ht; exact ⟨by kernel_rfl, of_decide_eq_true (by kernel_rfl)⟩) rfl rfl Tryd.underlying4
    (fun ds hd => by
      match ds, hd with
      | [d1, d2, d3], _ => rfl) (fun xs ha => by obtain ⟨a, b, c, rfl⟩ := bindJoins_args ha; exact bindJoins_ a b c) hval hW hsz (globOk hL)

theorem bindJoins_row : Rows.BindJoinsSaid :=
  OpenClaim.holds_of_wide 3 Tryd.f3 rfl rfl rfl rfl rfl rfl rfl ⟨rfl, rfl, rfl, rfl, rfl⟩ rfl rfl rfl rfl rfl (by kernel_rfl) Tryd.func3 (by kernel_rfl)
    (of_decide_eq_true (by kernel_rfl)) (by unfold Func.isWrapper; first | (rw [if_pos (by decide +kernel)]; kernel_rfl) | (rw [if_neg (by decide +kernel)]; exact ⟨rfl, rfl⟩))
    (fun os started H enc _ => bindJoins_lifted os started H enc)

theorem bindJoins_holds : Rows.BindJoinsCardSaid :=
  Claim7.holds_tied_plain_at .later [] [.data] true (true, "aca3bd19101ff2e3cd7bd264ece00945e5c9847a34e5b0d1c6cd363903548474") false
    bindJoins_row (fun _ h => by cases h) (by kernel_rfl) (fun _ h => by cases h) bindJoins_row_tie rfl ⟨rfl, rfl⟩ (by kernel_rfl) rfl
    (fun f fn hf hfn => by
      obtain rfl : f = 3 := Option.some.inj ((show Tryd.prog.funcNamed "arlink/arlinklaw13.BindJoins" = some 3 by kernel_rfl).symm.trans hf) |>.symm
      obtain rfl : fn = Tryd.f3 := (Option.some.inj (Tryd.func3.symm.trans hfn)).symm
      exact ⟨by kernel_rfl, fun j t ht => by
        have hm : t ∈ [22, 22, 22] := by
          have := Array.mem_of_getElem? ht
          rw [Tryd.params3] at this
          simpa using this
        simp at hm
        subst hm
        exact (show Tryd.prog.wantsStandIn 22 = false by kernel_rfl)⟩)
    (by kernel_rfl)
#print axioms bindJoins_holds
end Go.Proofs.YtideppacnkilbaaDoor
