/- Part of a proof. No condition. -/
import Derived.Test.YtideppacnkilbaaDoorWalks
import Derived.Test.YtideppacnkilbaaDoorBd
import Derived.Test.YtideppacnkilbaaDoorRows
import Derived.Test.YtideppacnkilbaaDoorCards
import Derived.Test.YtideppacnkilbaaDoorTie
import Derived.SevenTiedAt
set_option linter.unusedVariables false
set_option linter.unusedSimpArgs false
namespace Go.Proofs.YtideppacnkilbaaDoor
open Go Go.AL Go.AL.Bd
set_option maxRecDepth 100000
set_option maxHeartbeats 4000000

theorem bindJoins_ (a b c : List Use) : FCall Tryd.prog Gl 3 [LU a, LU b, LU c] [] (vB true) [] := by
  refine FCall.enterL hT hmix [] Tryd.func3 rfl rfl rfl fun hbd => ?_
  (conv => whnf)
  (refine CallLeaf.w (by (repeat' (first | exact ArgsTo.nil | refine ArgsTo.cons ?_ ?_ | exact ArgTo.mk' rfl (Wk.refl _) | exact ArgTo.mk' rfl Wk.nilm | exact ArgTo.mk' rfl (Wk.list _ _) | exact ArgTo.mk' rfl (Wk.agg (by (repeat' (first | exact Wks.nil | refine Wks.cons ?_ ?_ | exact Wk.refl _ | exact Wk.nilm | exact Wk.list _ _ | refine Wk.agg ?_))))))) (awake_) rfl ?_; (conv => whnf))
  refine CallLeaf.w (by (repeat' (first | exact ArgsTo.nil | refine ArgsTo.cons ?_ ?_ | exact ArgTo.mk' rfl (Wk.refl _) | exact ArgTo.mk' rfl Wk.nilm | exact ArgTo.mk' rfl (Wk.list _ _) | exact ArgTo.mk' rfl (Wk.agg (by (repeat' (first | exact Wks.nil | refine Wks.cons ?_ ?_ | exact Wk.refl _ | exact Wk.nilm | exact Wk.list _ _ | refine Wk.agg ?_))))))) (right_ a) rfl ?_
  (conv => whnf)
  refine split_intro (fun ha => ?_) (fun ha => ?_)
  · (conv => whnf)
    (refine CallLeaf.w (by (repeat' (first | exact ArgsTo.nil | refine ArgsTo.cons ?_ ?_ | exact ArgTo.mk' rfl (Wk.refl _) | exact ArgTo.mk' rfl Wk.nilm | exact ArgTo.mk' rfl (Wk.list _ _) | exact ArgTo.mk' rfl (Wk.agg (by (repeat' (first | exact Wks.nil | refine Wks.cons ?_ ?_ | exact Wk.refl _ | exact Wk.nilm | exact Wk.list _ _ | refine Wk.agg ?_))))))) (awake_) rfl ?_; (conv => whnf); exact Wk.refl _)
  · (conv => whnf)
    refine CallLeaf.w (by (repeat' (first | exact ArgsTo.nil | refine ArgsTo.cons ?_ ?_ | exact ArgTo.mk' rfl (Wk.refl _) | exact ArgTo.mk' rfl Wk.nilm | exact ArgTo.mk' rfl (Wk.list _ _) | exact ArgTo.mk' rfl (Wk.agg (by (repeat' (first | exact Wks.nil | refine Wks.cons ?_ ?_ | exact Wk.refl _ | exact Wk.nilm | exact Wk.list _ _ | refine Wk.agg ?_))))))) (right_ b) rfl ?_
    (conv => whnf)
    refine split_intro (fun hb => ?_) (fun hb => ?_)
    · (conv => whnf)
      (refine CallLeaf.w (by (repeat' (first | exact ArgsTo.nil | refine ArgsTo.cons ?_ ?_ | exact ArgTo.mk' rfl (Wk.refl _) | exact ArgTo.mk' rfl Wk.nilm | exact ArgTo.mk' rfl (Wk.list _ _) | exact ArgTo.mk' rfl (Wk.agg (by (repeat' (first | exact Wks.nil | refine Wks.cons ?_ ?_ | exact Wk.refl _ | exact Wk.nilm | exact Wk.list _ _ | refine Wk.agg ?_))))))) (awake_) rfl ?_; (conv => whnf); exact Wk.refl _)
    · (conv => whnf)
      refine CallLeaf.w (by (repeat' (first | exact ArgsTo.nil | refine ArgsTo.cons ?_ ?_ | exact ArgTo.mk' rfl (Wk.refl _) | exact ArgTo.mk' rfl Wk.nilm | exact ArgTo.mk' rfl (Wk.list _ _) | exact ArgTo.mk' rfl (Wk.agg (by (repeat' (first | exact Wks.nil | refine Wks.cons ?_ ?_ | exact Wk.refl _ | exact Wk.nilm | exact Wk.list _ _ | refine Wk.agg ?_))))))) (right_ c) rfl ?_
      (conv => whnf)
      refine split_intro (fun hc => ?_) (fun hc => ?_)
      · (conv => whnf)
        (refine CallLeaf.w (by (repeat' (first | exact ArgsTo.nil | refine ArgsTo.cons ?_ ?_ | exact ArgTo.mk' rfl (Wk.refl _) | exact ArgTo.mk' rfl Wk.nilm | exact ArgTo.mk' rfl (Wk.list _ _) | exact ArgTo.mk' rfl (Wk.agg (by (repeat' (first | exact Wks.nil | refine Wks.cons ?_ ?_ | exact Wk.refl _ | exact Wk.nilm | exact Wk.list _ _ | refine Wk.agg ?_))))))) (awake_) rfl ?_; (conv => whnf); exact Wk.refl _)
      · replace ha : right a = true := by simpa using ha
        replace hb : right b = true := by simpa using hb
        replace hc : right c = true := by simpa using hc
        have la := (right_iff.1 ha).1
        have lb := (right_iff.1 hb).1
        have lc := (right_iff.1 hc).1
        have ba := right_bind ha
        have bb := right_bind hb
        have bc := right_bind hc
        have wa := wf_all ba
        have wb := wf_all bb
        have wc := wf_all bc
        have A := all_bind ba
        have B := all_bind bb
        have C := all_bind bc
        have AB := join_bind A.1 B.1
        have BC := join_bind B.1 C.1
        have Lab : (join (all a) (all b)).strongs.length ≤ 100 := by simp [join]; omega
        have Lbc : (join (all b) (all c)).strongs.length ≤ 100 := by simp [join]; omega
        have ok : ∀ x ∈ a ++ b, okUse x = true := fun x hx => (List.mem_append.1 hx).elim (fun h => (right_iff.1 ha).2 x h) (fun h => (right_iff.1 hb).2 x h)
        have e1 : join (all a) (all b) = refOf (a ++ b) := by rw [ref_all ok, all_append ba bb]
        have e2 := join_assoc wa wb wc
        have e3 := join_empty wa
        have e4 := empty_join wa
        (conv => whnf)
        refine CallLeaf.w (by (repeat' (first | exact ArgsTo.nil | refine ArgsTo.cons ?_ ?_ | exact ArgTo.mk' rfl (Wk.refl _) | exact ArgTo.mk' rfl Wk.nilm | exact ArgTo.mk' rfl (Wk.list _ _) | exact ArgTo.mk' rfl (Wk.agg (by (repeat' (first | exact Wks.nil | refine Wks.cons ?_ ?_ | exact Wk.refl _ | exact Wk.nilm | exact Wk.list _ _ | refine Wk.agg ?_))))))) (all_ a (by omega) ba) rfl ?_
        (conv => whnf)
        refine CallLeaf.w (by (repeat' (first | exact ArgsTo.nil | refine ArgsTo.cons ?_ ?_ | exact ArgTo.mk' rfl (Wk.refl _) | exact ArgTo.mk' rfl Wk.nilm | exact ArgTo.mk' rfl (Wk.list _ _) | exact ArgTo.mk' rfl (Wk.agg (by (repeat' (first | exact Wks.nil | refine Wks.cons ?_ ?_ | exact Wk.refl _ | exact Wk.nilm | exact Wk.list _ _ | refine Wk.agg ?_))))))) (all_ b (by omega) bb) rfl ?_
        (conv => whnf)
        refine CallLeaf.w (by (repeat' (first | exact ArgsTo.nil | refine ArgsTo.cons ?_ ?_ | exact ArgTo.mk' rfl (Wk.refl _) | exact ArgTo.mk' rfl Wk.nilm | exact ArgTo.mk' rfl (Wk.list _ _) | exact ArgTo.mk' rfl (Wk.agg (by (repeat' (first | exact Wks.nil | refine Wks.cons ?_ ?_ | exact Wk.refl _ | exact Wk.nilm | exact Wk.list _ _ | refine Wk.agg ?_))))))) (all_ c (by omega) bc) rfl ?_
        (conv => whnf)
        refine ⟨_, appL (f := Use.enc) (xs := []) (ys := a) (zs := a) rfl rfl (fun _ => rfl) rfl (by show _ * 48 ≤ _; omega), ?_⟩
        (conv => whnf)
        refine ⟨_, appL (f := Use.enc) (xs := a) (ys := b) (zs := a ++ b) rfl rfl (fun _ => rfl) rfl (by rw [List.length_append]; show _ * 48 ≤ _; omega), ?_⟩
        (conv => whnf)
        refine CallLeaf.w (by (repeat' (first | exact ArgsTo.nil | refine ArgsTo.cons ?_ ?_ | exact ArgTo.mk' rfl (Wk.refl _) | exact ArgTo.mk' rfl Wk.nilm | exact ArgTo.mk' rfl (Wk.list _ _) | exact ArgTo.mk' rfl (Wk.agg (by (repeat' (first | exact Wks.nil | refine Wks.cons ?_ ?_ | exact Wk.refl _ | exact Wk.nilm | exact Wk.list _ _ | refine Wk.agg ?_))))))) (join_ (all a) (all b) A.1 B.1 (by rw [List.length_append]; omega)) rfl ?_
        (conv => whnf)
        refine CallLeaf.w (by (repeat' (first | exact ArgsTo.nil | refine ArgsTo.cons ?_ ?_ | exact ArgTo.mk' rfl (Wk.refl _) | exact ArgTo.mk' rfl Wk.nilm | exact ArgTo.mk' rfl (Wk.list _ _) | exact ArgTo.mk' rfl (Wk.agg (by (repeat' (first | exact Wks.nil | refine Wks.cons ?_ ?_ | exact Wk.refl _ | exact Wk.nilm | exact Wk.list _ _ | refine Wk.agg ?_))))))) (state_ (join (all a) (all b))) rfl ?_
        (conv => whnf)
        refine CallLeaf.w (by (repeat' (first | exact ArgsTo.nil | refine ArgsTo.cons ?_ ?_ | exact ArgTo.mk' rfl (Wk.refl _) | exact ArgTo.mk' rfl Wk.nilm | exact ArgTo.mk' rfl (Wk.list _ _) | exact ArgTo.mk' rfl (Wk.agg (by (repeat' (first | exact Wks.nil | refine Wks.cons ?_ ?_ | exact Wk.refl _ | exact Wk.nilm | exact Wk.list _ _ | refine Wk.agg ?_))))))) (refOf_ (a ++ b) (by rw [List.length_append]; omega)) rfl ?_
        (conv => whnf)
        refine CallLeaf.w (by (repeat' (first | exact ArgsTo.nil | refine ArgsTo.cons ?_ ?_ | exact ArgTo.mk' rfl (Wk.refl _) | exact ArgTo.mk' rfl Wk.nilm | exact ArgTo.mk' rfl (Wk.list _ _) | exact ArgTo.mk' rfl (Wk.agg (by (repeat' (first | exact Wks.nil | refine Wks.cons ?_ ?_ | exact Wk.refl _ | exact Wk.nilm | exact Wk.list _ _ | refine Wk.agg ?_))))))) (same_ (join (all a) (all b)) (refOf (a ++ b))) rfl ?_
        (conv => whnf)
        refine split_intro (fun h => absurd h (by rw [e1]; simp)) (fun _ => ?_)
        (conv => whnf)
        refine CallLeaf.w (by (repeat' (first | exact ArgsTo.nil | refine ArgsTo.cons ?_ ?_ | exact ArgTo.mk' rfl (Wk.refl _) | exact ArgTo.mk' rfl Wk.nilm | exact ArgTo.mk' rfl (Wk.list _ _) | exact ArgTo.mk' rfl (Wk.agg (by (repeat' (first | exact Wks.nil | refine Wks.cons ?_ ?_ | exact Wk.refl _ | exact Wk.nilm | exact Wk.list _ _ | refine Wk.agg ?_))))))) (join_ (all a) (all b) A.1 B.1 (by rw [List.length_append]; omega)) rfl ?_
        (conv => whnf)
        refine CallLeaf.w (by (repeat' (first | exact ArgsTo.nil | refine ArgsTo.cons ?_ ?_ | exact ArgTo.mk' rfl (Wk.refl _) | exact ArgTo.mk' rfl Wk.nilm | exact ArgTo.mk' rfl (Wk.list _ _) | exact ArgTo.mk' rfl (Wk.agg (by (repeat' (first | exact Wks.nil | refine Wks.cons ?_ ?_ | exact Wk.refl _ | exact Wk.nilm | exact Wk.list _ _ | refine Wk.agg ?_))))))) (join_ (join (all a) (all b)) (all c) AB C.1 (by rw [List.length_append]; omega)) rfl ?_
        (conv => whnf)
        refine CallLeaf.w (by (repeat' (first | exact ArgsTo.nil | refine ArgsTo.cons ?_ ?_ | exact ArgTo.mk' rfl (Wk.refl _) | exact ArgTo.mk' rfl Wk.nilm | exact ArgTo.mk' rfl (Wk.list _ _) | exact ArgTo.mk' rfl (Wk.agg (by (repeat' (first | exact Wks.nil | refine Wks.cons ?_ ?_ | exact Wk.refl _ | exact Wk.nilm | exact Wk.list _ _ | refine Wk.agg ?_))))))) (join_ (all b) (all c) B.1 C.1 (by rw [List.length_append]; omega)) rfl ?_
        (conv => whnf)
        refine CallLeaf.w (by (repeat' (first | exact ArgsTo.nil | refine ArgsTo.cons ?_ ?_ | exact ArgTo.mk' rfl (Wk.refl _) | exact ArgTo.mk' rfl Wk.nilm | exact ArgTo.mk' rfl (Wk.list _ _) | exact ArgTo.mk' rfl (Wk.agg (by (repeat' (first | exact Wks.nil | refine Wks.cons ?_ ?_ | exact Wk.refl _ | exact Wk.nilm | exact Wk.list _ _ | refine Wk.agg ?_))))))) (join_ (all a) (join (all b) (all c)) A.1 BC (by rw [List.length_append]; omega)) rfl ?_
        (conv => whnf)
        refine CallLeaf.w (by (repeat' (first | exact ArgsTo.nil | refine ArgsTo.cons ?_ ?_ | exact ArgTo.mk' rfl (Wk.refl _) | exact ArgTo.mk' rfl Wk.nilm | exact ArgTo.mk' rfl (Wk.list _ _) | exact ArgTo.mk' rfl (Wk.agg (by (repeat' (first | exact Wks.nil | refine Wks.cons ?_ ?_ | exact Wk.refl _ | exact Wk.nilm | exact Wk.list _ _ | refine Wk.agg ?_))))))) (state_ (join (join (all a) (all b)) (all c))) rfl ?_
        (conv => whnf)
        refine CallLeaf.w (by (repeat' (first | exact ArgsTo.nil | refine ArgsTo.cons ?_ ?_ | exact ArgTo.mk' rfl (Wk.refl _) | exact ArgTo.mk' rfl Wk.nilm | exact ArgTo.mk' rfl (Wk.list _ _) | exact ArgTo.mk' rfl (Wk.agg (by (repeat' (first | exact Wks.nil | refine Wks.cons ?_ ?_ | exact Wk.refl _ | exact Wk.nilm | exact Wk.list _ _ | refine Wk.agg ?_))))))) (state_ (join (all a) (join (all b) (all c)))) rfl ?_
        (conv => whnf)
        refine CallLeaf.w (by (repeat' (first | exact ArgsTo.nil | refine ArgsTo.cons ?_ ?_ | exact ArgTo.mk' rfl (Wk.refl _) | exact ArgTo.mk' rfl Wk.nilm | exact ArgTo.mk' rfl (Wk.list _ _) | exact ArgTo.mk' rfl (Wk.agg (by (repeat' (first | exact Wks.nil | refine Wks.cons ?_ ?_ | exact Wk.refl _ | exact Wk.nilm | exact Wk.list _ _ | refine Wk.agg ?_))))))) (same_ (join (join (all a) (all b)) (all c)) (join (all a) (join (all b) (all c)))) rfl ?_
        (conv => whnf)
        refine split_intro (fun _ => ?_) (fun h => absurd h (by rw [e2]; simp))
        (conv => whnf)
        refine CallLeaf.w (by (repeat' (first | exact ArgsTo.nil | refine ArgsTo.cons ?_ ?_ | exact ArgTo.mk' rfl (Wk.refl _) | exact ArgTo.mk' rfl Wk.nilm | exact ArgTo.mk' rfl (Wk.list _ _) | exact ArgTo.mk' rfl (Wk.agg (by (repeat' (first | exact Wks.nil | refine Wks.cons ?_ ?_ | exact Wk.refl _ | exact Wk.nilm | exact Wk.list _ _ | refine Wk.agg ?_))))))) (empty_) rfl ?_
        (conv => whnf)
        refine CallLeaf.w (by (repeat' (first | exact ArgsTo.nil | refine ArgsTo.cons ?_ ?_ | exact ArgTo.mk' rfl (Wk.refl _) | exact ArgTo.mk' rfl Wk.nilm | exact ArgTo.mk' rfl (Wk.list _ _) | exact ArgTo.mk' rfl (Wk.agg (by (repeat' (first | exact Wks.nil | refine Wks.cons ?_ ?_ | exact Wk.refl _ | exact Wk.nilm | exact Wk.list _ _ | refine Wk.agg ?_))))))) (join_ (all a) empty A.1 (by decide) (by rw [List.length_append]; show (_ + 0) * 8 ≤ _; omega)) rfl ?_
        (conv => whnf)
        refine CallLeaf.w (by (repeat' (first | exact ArgsTo.nil | refine ArgsTo.cons ?_ ?_ | exact ArgTo.mk' rfl (Wk.refl _) | exact ArgTo.mk' rfl Wk.nilm | exact ArgTo.mk' rfl (Wk.list _ _) | exact ArgTo.mk' rfl (Wk.agg (by (repeat' (first | exact Wks.nil | refine Wks.cons ?_ ?_ | exact Wk.refl _ | exact Wk.nilm | exact Wk.list _ _ | refine Wk.agg ?_))))))) (state_ (join (all a) empty)) rfl ?_
        (conv => whnf)
        refine CallLeaf.w (by (repeat' (first | exact ArgsTo.nil | refine ArgsTo.cons ?_ ?_ | exact ArgTo.mk' rfl (Wk.refl _) | exact ArgTo.mk' rfl Wk.nilm | exact ArgTo.mk' rfl (Wk.list _ _) | exact ArgTo.mk' rfl (Wk.agg (by (repeat' (first | exact Wks.nil | refine Wks.cons ?_ ?_ | exact Wk.refl _ | exact Wk.nilm | exact Wk.list _ _ | refine Wk.agg ?_))))))) (state_ (all a)) rfl ?_
        (conv => whnf)
        refine CallLeaf.w (by (repeat' (first | exact ArgsTo.nil | refine ArgsTo.cons ?_ ?_ | exact ArgTo.mk' rfl (Wk.refl _) | exact ArgTo.mk' rfl Wk.nilm | exact ArgTo.mk' rfl (Wk.list _ _) | exact ArgTo.mk' rfl (Wk.agg (by (repeat' (first | exact Wks.nil | refine Wks.cons ?_ ?_ | exact Wk.refl _ | exact Wk.nilm | exact Wk.list _ _ | refine Wk.agg ?_))))))) (same_ (join (all a) empty) (all a)) rfl ?_
        (conv => whnf)
        refine split_intro (fun _ => ?_) (fun h => absurd h (by rw [e3]; simp))
        (conv => whnf)
        refine CallLeaf.w (by (repeat' (first | exact ArgsTo.nil | refine ArgsTo.cons ?_ ?_ | exact ArgTo.mk' rfl (Wk.refl _) | exact ArgTo.mk' rfl Wk.nilm | exact ArgTo.mk' rfl (Wk.list _ _) | exact ArgTo.mk' rfl (Wk.agg (by (repeat' (first | exact Wks.nil | refine Wks.cons ?_ ?_ | exact Wk.refl _ | exact Wk.nilm | exact Wk.list _ _ | refine Wk.agg ?_))))))) (empty_) rfl ?_
        (conv => whnf)
        refine CallLeaf.w (by (repeat' (first | exact ArgsTo.nil | refine ArgsTo.cons ?_ ?_ | exact ArgTo.mk' rfl (Wk.refl _) | exact ArgTo.mk' rfl Wk.nilm | exact ArgTo.mk' rfl (Wk.list _ _) | exact ArgTo.mk' rfl (Wk.agg (by (repeat' (first | exact Wks.nil | refine Wks.cons ?_ ?_ | exact Wk.refl _ | exact Wk.nilm | exact Wk.list _ _ | refine Wk.agg ?_))))))) (join_ empty (all a) (by decide) A.1 (by rw [List.length_append]; show (0 + _) * 8 ≤ _; omega)) rfl ?_
        (conv => whnf)
        refine CallLeaf.w (by (repeat' (first | exact ArgsTo.nil | refine ArgsTo.cons ?_ ?_ | exact ArgTo.mk' rfl (Wk.refl _) | exact ArgTo.mk' rfl Wk.nilm | exact ArgTo.mk' rfl (Wk.list _ _) | exact ArgTo.mk' rfl (Wk.agg (by (repeat' (first | exact Wks.nil | refine Wks.cons ?_ ?_ | exact Wk.refl _ | exact Wk.nilm | exact Wk.list _ _ | refine Wk.agg ?_))))))) (state_ (join empty (all a))) rfl ?_
        (conv => whnf)
        refine CallLeaf.w (by (repeat' (first | exact ArgsTo.nil | refine ArgsTo.cons ?_ ?_ | exact ArgTo.mk' rfl (Wk.refl _) | exact ArgTo.mk' rfl Wk.nilm | exact ArgTo.mk' rfl (Wk.list _ _) | exact ArgTo.mk' rfl (Wk.agg (by (repeat' (first | exact Wks.nil | refine Wks.cons ?_ ?_ | exact Wk.refl _ | exact Wk.nilm | exact Wk.list _ _ | refine Wk.agg ?_))))))) (state_ (all a)) rfl ?_
        (conv => whnf)
        refine CallLeaf.w (by (repeat' (first | exact ArgsTo.nil | refine ArgsTo.cons ?_ ?_ | exact ArgTo.mk' rfl (Wk.refl _) | exact ArgTo.mk' rfl Wk.nilm | exact ArgTo.mk' rfl (Wk.list _ _) | exact ArgTo.mk' rfl (Wk.agg (by (repeat' (first | exact Wks.nil | refine Wks.cons ?_ ?_ | exact Wk.refl _ | exact Wk.nilm | exact Wk.list _ _ | refine Wk.agg ?_))))))) (same_ (join empty (all a)) (all a)) rfl ?_
        (conv => whnf)
        exact Wk.bool (by rw [e4]; simp)
end Go.Proofs.YtideppacnkilbaaDoor

/- BindJoins: for every input the law returns true and leaves its arguments as they were. No condition but the given statement's own. -/
set_option linter.unusedVariables false
set_option linter.unusedSimpArgs false
namespace Go.Proofs.YtideppacnkilbaaDoor
open Go Go.AL
open Go.ChangeShapes Go.WideShapes Go.ChangeAt Go.RowKit
set_option maxRecDepth 100000 in
theorem bindJoins_lifted (os : Os) (started : os.Started) (H : Type) (enc : TypeId × Value → H) :
    ReturnsInHanded {} Tryd.checked os 3 .any (fun w args => (Rows.bindJoinsSpec.pre enc Tryd.prog Tryd.f3 [] false w args ∧ laidMetH Tryd.prog laidL w) ∧ sizedMet enc Tryd.prog Tryd.f3 (OpenSpec.ofChange Rows.bindJoinsSpec) false w args)
      (Rows.bindJoinsSpec.post enc Tryd.prog Tryd.f3 false true false false) := by
  refine returnsInHanded_of_change_and (C := Tryd.checked) (X := fun w _ => laidMetH Tryd.prog laidL w) (fun _ _ _ hh h => h.of_heap hh) own started (by kernel_rfl) Tryd.func3
    (ChangeSpec.witness_shaped (enc := enc) (C := Tryd.checked) (os := os) (X := fun w _ => laidMetH Tryd.prog laidL w) false (World.doorLaid Tryd.prog doorSteps os) #[.slice none 0 0, .slice none 0 0, .slice none 0 0] 8 rfl (World.shaped_of_RefB (by kernel_rfl) (by kernel_rfl)) (by kernel_rfl) (by kernel_rfl) (by kernel_rfl) (door_met os _)) ?_
  intro W base args ds gs before hval hW _ hsz hL _
  exact law_contract (P := Tryd.prog) (G := Gl) (n := 8) laidOut (ts := [22, 22, 22]) (by rw [Tryd.params3]) (by kernel_rfl)
    (fun t ht => by
      have : [22, 22, 22].all (fun t => Tryd.prog.readableRec t && decide (t < Tryd.prog.types.size)) = true := by kernel_rfl
      have := List.all_eq_true.1 this t ht
      simpa using this) rfl rfl Tryd.underlying4
    (fun ds hd => by
      match ds, hd with
      | [d0, d1, d2], _ => rfl)
    (fun xs ha => by
      cases ha with
      | cons h0 ha =>
        cases ha with
        | cons h1 ha =>
          cases ha with
          | cons h2 ha =>
            cases ha
            obtain ⟨v0, c0, e0⟩ := arg_LU h0
            obtain ⟨v1, c1, e1⟩ := arg_LU h1
            obtain ⟨v2, c2, e2⟩ := arg_LU h2
            rw [e0, e1, e2]
            exact bindJoins_ v0 v1 v2) hval hW hsz (globOk hL)

theorem bindJoins_row : Rows.BindJoinsSaid :=
  OpenClaim.holds_of_wide 3 Tryd.f3 rfl rfl rfl rfl rfl rfl rfl ⟨rfl, rfl, rfl, rfl, rfl⟩ rfl rfl rfl rfl rfl (by kernel_rfl) Tryd.func3 (by kernel_rfl)
    (of_decide_eq_true (by kernel_rfl)) (by unfold Func.isWrapper; first | (rw [if_pos (by decide +kernel)]; kernel_rfl) | (rw [if_neg (by decide +kernel)]; exact ⟨rfl, rfl⟩))
    (fun os started H enc _ => bindJoins_lifted os started H enc)

theorem bindJoins_holds : Rows.BindJoinsCardSaid :=
  Claim7.holds_tied_plain_at .later [] [.data] true (true, "aca3bd19101ff2e3cd7bd264ece00945e5c9847a34e5b0d1c6cd363903548474") false
    bindJoins_row (fun _ h => by cases h) (by kernel_rfl) (fun _ h => by cases h) bindJoins_row_tie rfl ⟨rfl, rfl⟩ (by kernel_rfl) rfl
    (fun f fn hf hfn => by
      obtain rfl : f = 3 := Option.some.inj ((show Tryd.prog.funcNamed "arlink/arlinklaw13.BindJoins" = some 3 by kernel_rfl).symm.trans hf) |>.symm
      obtain rfl : fn = Tryd.f3 := (Option.some.inj (Tryd.func3.symm.trans hfn)).symm
      exact ⟨by kernel_rfl, fun j t ht => by
        have hm : t ∈ [22, 22, 22] := by
          have := Array.mem_of_getElem? ht
          rw [Tryd.params3] at this
          simpa using this
        have : [22, 22, 22].all (fun t => !Tryd.prog.wantsStandIn t) = true := by kernel_rfl
        have := List.all_eq_true.1 this t hm
        exact (show Tryd.prog.wantsStandIn t = false by simpa using this)⟩)
    (by kernel_rfl)
#print axioms bindJoins_holds
end Go.Proofs.YtideppacnkilbaaDoor
