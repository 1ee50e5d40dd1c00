/- Part of a proof. No condition. -/
import Derived.Test.YtideppacnkilbaaDoorWalks
import Derived.Test.YtideppacnkilbaaDoorBd
import Derived.Test.YtideppacnkilbaaDoorRows
import Derived.Test.YtideppacnkilbaaDoorCards
import Derived.Test.YtideppacnkilbaaDoorTie
import Derived.SevenTiedAt
set_option linter.unusedVariables false
set_option linter.unusedSimpArgs false
namespace Go.Proofs.YtideppacnkilbaaDoor
open Go Go.AL Go.AL.Bd
set_option maxRecDepth 100000
set_option maxHeartbeats 4000000

theorem bindGrows_ (l : List Use) (x : Use) : FCall Tryd.prog Gl 4 [LU l, .agg x.enc] [] (vB true) [] := by
  refine FCall.enterL hT hmix [5] Tryd.func4 rfl rfl rfl fun hbd => ?_
  (conv => whnf)
  (refine CallLeaf.w (by (repeat' (first | exact ArgsTo.nil | refine ArgsTo.cons ?_ ?_ | exact ArgTo.mk' rfl (Wk.refl _) | exact ArgTo.mk' rfl Wk.nilm | exact ArgTo.mk' rfl (Wk.list _ _) | exact ArgTo.mk' rfl (Wk.agg (by (repeat' (first | exact Wks.nil | refine Wks.cons ?_ ?_ | exact Wk.refl _ | exact Wk.nilm | exact Wk.list _ _ | refine Wk.agg ?_))))))) (awake_) rfl ?_; (conv => whnf))
  refine CallLeaf.w (by (repeat' (first | exact ArgsTo.nil | refine ArgsTo.cons ?_ ?_ | exact ArgTo.mk' rfl (Wk.refl _) | exact ArgTo.mk' rfl Wk.nilm | exact ArgTo.mk' rfl (Wk.list _ _) | exact ArgTo.mk' rfl (Wk.agg (by (repeat' (first | exact Wks.nil | refine Wks.cons ?_ ?_ | exact Wk.refl _ | exact Wk.nilm | exact Wk.list _ _ | refine Wk.agg ?_))))))) (right_ l) rfl ?_
  (conv => whnf)
  refine split_intro (fun ha => ?_) (fun ha => ?_)
  · (conv => whnf)
    (refine CallLeaf.w (by (repeat' (first | exact ArgsTo.nil | refine ArgsTo.cons ?_ ?_ | exact ArgTo.mk' rfl (Wk.refl _) | exact ArgTo.mk' rfl Wk.nilm | exact ArgTo.mk' rfl (Wk.list _ _) | exact ArgTo.mk' rfl (Wk.agg (by (repeat' (first | exact Wks.nil | refine Wks.cons ?_ ?_ | exact Wk.refl _ | exact Wk.nilm | exact Wk.list _ _ | refine Wk.agg ?_))))))) (awake_) rfl ?_; (conv => whnf); exact Wk.refl _)
  · (conv => whnf)
    refine CallLeaf.w (by (repeat' (first | exact ArgsTo.nil | refine ArgsTo.cons ?_ ?_ | exact ArgTo.mk' rfl (Wk.refl _) | exact ArgTo.mk' rfl Wk.nilm | exact ArgTo.mk' rfl (Wk.list _ _) | exact ArgTo.mk' rfl (Wk.agg (by (repeat' (first | exact Wks.nil | refine Wks.cons ?_ ?_ | exact Wk.refl _ | exact Wk.nilm | exact Wk.list _ _ | refine Wk.agg ?_))))))) (right_ [x]) rfl ?_
    (conv => whnf)
    refine split_intro (fun hb => ?_) (fun hb => ?_)
    · (conv => whnf)
      (refine CallLeaf.w (by (repeat' (first | exact ArgsTo.nil | refine ArgsTo.cons ?_ ?_ | exact ArgTo.mk' rfl (Wk.refl _) | exact ArgTo.mk' rfl Wk.nilm | exact ArgTo.mk' rfl (Wk.list _ _) | exact ArgTo.mk' rfl (Wk.agg (by (repeat' (first | exact Wks.nil | refine Wks.cons ?_ ?_ | exact Wk.refl _ | exact Wk.nilm | exact Wk.list _ _ | refine Wk.agg ?_))))))) (awake_) rfl ?_; (conv => whnf); exact Wk.refl _)
    · replace ha : right l = true := by simpa using ha
      replace hb : right [x] = true := by simpa using hb
      have la := (right_iff.1 ha).1
      have ba := right_bind ha
      have bx := right_bind hb x (by simp)
      have A := all_bind ba
      have Gr := grows x.unit (wf_all ba) bx
      (conv => whnf)
      refine CallLeaf.w (by (repeat' (first | exact ArgsTo.nil | refine ArgsTo.cons ?_ ?_ | exact ArgTo.mk' rfl (Wk.refl _) | exact ArgTo.mk' rfl Wk.nilm | exact ArgTo.mk' rfl (Wk.list _ _) | exact ArgTo.mk' rfl (Wk.agg (by (repeat' (first | exact Wks.nil | refine Wks.cons ?_ ?_ | exact Wk.refl _ | exact Wk.nilm | exact Wk.list _ _ | refine Wk.agg ?_))))))) (all_ l (by omega) ba) rfl ?_
      (conv => whnf)
      refine CallLeaf.w (by (repeat' (first | exact ArgsTo.nil | refine ArgsTo.cons ?_ ?_ | exact ArgTo.mk' rfl (Wk.refl _) | exact ArgTo.mk' rfl Wk.nilm | exact ArgTo.mk' rfl (Wk.list _ _) | exact ArgTo.mk' rfl (Wk.agg (by (repeat' (first | exact Wks.nil | refine Wks.cons ?_ ?_ | exact Wk.refl _ | exact Wk.nilm | exact Wk.list _ _ | refine Wk.agg ?_))))))) (merge_ (all l) x.sym x.unit A.1 bx (by omega)) rfl ?_
      (conv => whnf)
      refine LWp.cutN hT hmix 7 [] [] (fun _ : Unit => []) (fun _ => []) [] (fun _ => True) ?_
      (conv => whnf)
      refine ⟨?_, fun _ _ => ?_⟩
      · refine CallLeaf.w (by (repeat' (first | exact ArgsTo.nil | refine ArgsTo.cons ?_ ?_ | exact ArgTo.mk' rfl (Wk.refl _) | exact ArgTo.mk' rfl Wk.nilm | exact ArgTo.mk' rfl (Wk.list _ _) | exact ArgTo.mk' rfl (Wk.agg (by (repeat' (first | exact Wks.nil | refine Wks.cons ?_ ?_ | exact Wk.refl _ | exact Wk.nilm | exact Wk.list _ _ | refine Wk.agg ?_))))))) (duplicate_ (all l)) rfl ?_
        (conv => whnf)
        have e1 := fun h => Gr.dup h
        refine split_intro (fun d1 => ?_) (fun d1 => ?_)
        · (conv => whnf)
          refine CallLeaf.w (by (repeat' (first | exact ArgsTo.nil | refine ArgsTo.cons ?_ ?_ | exact ArgTo.mk' rfl (Wk.refl _) | exact ArgTo.mk' rfl Wk.nilm | exact ArgTo.mk' rfl (Wk.list _ _) | exact ArgTo.mk' rfl (Wk.agg (by (repeat' (first | exact Wks.nil | refine Wks.cons ?_ ?_ | exact Wk.refl _ | exact Wk.nilm | exact Wk.list _ _ | refine Wk.agg ?_))))))) (duplicate_ (merge (all l) x.sym x.unit)) rfl ?_
          (conv => whnf)
          refine split_intro (fun h => absurd h (by rw [Gr.dup d1]; simp)) (fun _ => ?_)
          (conv => whnf)
          refine split_intro (fun d2 => ?_) (fun d2 => ?_)
          · (conv => whnf)
            refine split_intro (fun h => absurd h (by rw [Gr.dfd d2]; simp)) (fun _ => ?_)
            (conv => whnf)
            refine split_intro (fun d3 => ?_) (fun d3 => ?_)
            · (conv => whnf)
              refine split_intro (fun h => absurd h (by have := Gr.bnd (by simpa using d3); simpa using this)) (fun _ => ?_)
              (conv => whnf)
              refine split_intro (fun d4 => ?_) (fun d4 => ?_)
              · (conv => whnf)
                refine split_intro (fun h => absurd h (by have := Gr.str (by simpa using d4); simp [this])) (fun _ => ?_)
                (conv => whnf)
                refine ⟨(), trivial, ?_⟩
                (repeat' (first | exact trivial | exact Wk.refl _ | exact ObWk.refl _ | exact rfl | exact ⟨_, rfl⟩ | exact Nat.zero_lt_one | refine And.intro ?_ ?_ | unfold okTo | (unfold okO; conv => whnf) | (unfold okS; conv => whnf) | (unfold SlotOk; conv => whnf) | (unfold ObjOk; conv => whnf) | (unfold okCells; conv => whnf) | (unfold liveTo; conv => whnf)))
              · (conv => whnf)
                refine ⟨(), trivial, ?_⟩
                (repeat' (first | exact trivial | exact Wk.refl _ | exact ObWk.refl _ | exact rfl | exact ⟨_, rfl⟩ | exact Nat.zero_lt_one | refine And.intro ?_ ?_ | unfold okTo | (unfold okO; conv => whnf) | (unfold okS; conv => whnf) | (unfold SlotOk; conv => whnf) | (unfold ObjOk; conv => whnf) | (unfold okCells; conv => whnf) | (unfold liveTo; conv => whnf)))
            · (conv => whnf)
              refine split_intro (fun d4 => ?_) (fun d4 => ?_)
              · (conv => whnf)
                refine split_intro (fun h => absurd h (by have := Gr.str (by simpa using d4); simp [this])) (fun _ => ?_)
                (conv => whnf)
                refine ⟨(), trivial, ?_⟩
                (repeat' (first | exact trivial | exact Wk.refl _ | exact ObWk.refl _ | exact rfl | exact ⟨_, rfl⟩ | exact Nat.zero_lt_one | refine And.intro ?_ ?_ | unfold okTo | (unfold okO; conv => whnf) | (unfold okS; conv => whnf) | (unfold SlotOk; conv => whnf) | (unfold ObjOk; conv => whnf) | (unfold okCells; conv => whnf) | (unfold liveTo; conv => whnf)))
              · (conv => whnf)
                refine ⟨(), trivial, ?_⟩
                (repeat' (first | exact trivial | exact Wk.refl _ | exact ObWk.refl _ | exact rfl | exact ⟨_, rfl⟩ | exact Nat.zero_lt_one | refine And.intro ?_ ?_ | unfold okTo | (unfold okO; conv => whnf) | (unfold okS; conv => whnf) | (unfold SlotOk; conv => whnf) | (unfold ObjOk; conv => whnf) | (unfold okCells; conv => whnf) | (unfold liveTo; conv => whnf)))
          · (conv => whnf)
            refine split_intro (fun d3 => ?_) (fun d3 => ?_)
            · (conv => whnf)
              refine split_intro (fun h => absurd h (by have := Gr.bnd (by simpa using d3); simpa using this)) (fun _ => ?_)
              (conv => whnf)
              refine split_intro (fun d4 => ?_) (fun d4 => ?_)
              · (conv => whnf)
                refine split_intro (fun h => absurd h (by have := Gr.str (by simpa using d4); simp [this])) (fun _ => ?_)
                (conv => whnf)
                refine ⟨(), trivial, ?_⟩
                (repeat' (first | exact trivial | exact Wk.refl _ | exact ObWk.refl _ | exact rfl | exact ⟨_, rfl⟩ | exact Nat.zero_lt_one | refine And.intro ?_ ?_ | unfold okTo | (unfold okO; conv => whnf) | (unfold okS; conv => whnf) | (unfold SlotOk; conv => whnf) | (unfold ObjOk; conv => whnf) | (unfold okCells; conv => whnf) | (unfold liveTo; conv => whnf)))
              · (conv => whnf)
                refine ⟨(), trivial, ?_⟩
                (repeat' (first | exact trivial | exact Wk.refl _ | exact ObWk.refl _ | exact rfl | exact ⟨_, rfl⟩ | exact Nat.zero_lt_one | refine And.intro ?_ ?_ | unfold okTo | (unfold okO; conv => whnf) | (unfold okS; conv => whnf) | (unfold SlotOk; conv => whnf) | (unfold ObjOk; conv => whnf) | (unfold okCells; conv => whnf) | (unfold liveTo; conv => whnf)))
            · (conv => whnf)
              refine split_intro (fun d4 => ?_) (fun d4 => ?_)
              · (conv => whnf)
                refine split_intro (fun h => absurd h (by have := Gr.str (by simpa using d4); simp [this])) (fun _ => ?_)
                (conv => whnf)
                refine ⟨(), trivial, ?_⟩
                (repeat' (first | exact trivial | exact Wk.refl _ | exact ObWk.refl _ | exact rfl | exact ⟨_, rfl⟩ | exact Nat.zero_lt_one | refine And.intro ?_ ?_ | unfold okTo | (unfold okO; conv => whnf) | (unfold okS; conv => whnf) | (unfold SlotOk; conv => whnf) | (unfold ObjOk; conv => whnf) | (unfold okCells; conv => whnf) | (unfold liveTo; conv => whnf)))
              · (conv => whnf)
                refine ⟨(), trivial, ?_⟩
                (repeat' (first | exact trivial | exact Wk.refl _ | exact ObWk.refl _ | exact rfl | exact ⟨_, rfl⟩ | exact Nat.zero_lt_one | refine And.intro ?_ ?_ | unfold okTo | (unfold okO; conv => whnf) | (unfold okS; conv => whnf) | (unfold SlotOk; conv => whnf) | (unfold ObjOk; conv => whnf) | (unfold okCells; conv => whnf) | (unfold liveTo; conv => whnf)))
        · (conv => whnf)
          refine split_intro (fun d2 => ?_) (fun d2 => ?_)
          · (conv => whnf)
            refine split_intro (fun h => absurd h (by rw [Gr.dfd d2]; simp)) (fun _ => ?_)
            (conv => whnf)
            refine split_intro (fun d3 => ?_) (fun d3 => ?_)
            · (conv => whnf)
              refine split_intro (fun h => absurd h (by have := Gr.bnd (by simpa using d3); simpa using this)) (fun _ => ?_)
              (conv => whnf)
              refine split_intro (fun d4 => ?_) (fun d4 => ?_)
              · (conv => whnf)
                refine split_intro (fun h => absurd h (by have := Gr.str (by simpa using d4); simp [this])) (fun _ => ?_)
                (conv => whnf)
                refine ⟨(), trivial, ?_⟩
                (repeat' (first | exact trivial | exact Wk.refl _ | exact ObWk.refl _ | exact rfl | exact ⟨_, rfl⟩ | exact Nat.zero_lt_one | refine And.intro ?_ ?_ | unfold okTo | (unfold okO; conv => whnf) | (unfold okS; conv => whnf) | (unfold SlotOk; conv => whnf) | (unfold ObjOk; conv => whnf) | (unfold okCells; conv => whnf) | (unfold liveTo; conv => whnf)))
              · (conv => whnf)
                refine ⟨(), trivial, ?_⟩
                (repeat' (first | exact trivial | exact Wk.refl _ | exact ObWk.refl _ | exact rfl | exact ⟨_, rfl⟩ | exact Nat.zero_lt_one | refine And.intro ?_ ?_ | unfold okTo | (unfold okO; conv => whnf) | (unfold okS; conv => whnf) | (unfold SlotOk; conv => whnf) | (unfold ObjOk; conv => whnf) | (unfold okCells; conv => whnf) | (unfold liveTo; conv => whnf)))
            · (conv => whnf)
              refine split_intro (fun d4 => ?_) (fun d4 => ?_)
              · (conv => whnf)
                refine split_intro (fun h => absurd h (by have := Gr.str (by simpa using d4); simp [this])) (fun _ => ?_)
                (conv => whnf)
                refine ⟨(), trivial, ?_⟩
                (repeat' (first | exact trivial | exact Wk.refl _ | exact ObWk.refl _ | exact rfl | exact ⟨_, rfl⟩ | exact Nat.zero_lt_one | refine And.intro ?_ ?_ | unfold okTo | (unfold okO; conv => whnf) | (unfold okS; conv => whnf) | (unfold SlotOk; conv => whnf) | (unfold ObjOk; conv => whnf) | (unfold okCells; conv => whnf) | (unfold liveTo; conv => whnf)))
              · (conv => whnf)
                refine ⟨(), trivial, ?_⟩
                (repeat' (first | exact trivial | exact Wk.refl _ | exact ObWk.refl _ | exact rfl | exact ⟨_, rfl⟩ | exact Nat.zero_lt_one | refine And.intro ?_ ?_ | unfold okTo | (unfold okO; conv => whnf) | (unfold okS; conv => whnf) | (unfold SlotOk; conv => whnf) | (unfold ObjOk; conv => whnf) | (unfold okCells; conv => whnf) | (unfold liveTo; conv => whnf)))
          · (conv => whnf)
            refine split_intro (fun d3 => ?_) (fun d3 => ?_)
            · (conv => whnf)
              refine split_intro (fun h => absurd h (by have := Gr.bnd (by simpa using d3); simpa using this)) (fun _ => ?_)
              (conv => whnf)
              refine split_intro (fun d4 => ?_) (fun d4 => ?_)
              · (conv => whnf)
                refine split_intro (fun h => absurd h (by have := Gr.str (by simpa using d4); simp [this])) (fun _ => ?_)
                (conv => whnf)
                refine ⟨(), trivial, ?_⟩
                (repeat' (first | exact trivial | exact Wk.refl _ | exact ObWk.refl _ | exact rfl | exact ⟨_, rfl⟩ | exact Nat.zero_lt_one | refine And.intro ?_ ?_ | unfold okTo | (unfold okO; conv => whnf) | (unfold okS; conv => whnf) | (unfold SlotOk; conv => whnf) | (unfold ObjOk; conv => whnf) | (unfold okCells; conv => whnf) | (unfold liveTo; conv => whnf)))
              · (conv => whnf)
                refine ⟨(), trivial, ?_⟩
                (repeat' (first | exact trivial | exact Wk.refl _ | exact ObWk.refl _ | exact rfl | exact ⟨_, rfl⟩ | exact Nat.zero_lt_one | refine And.intro ?_ ?_ | unfold okTo | (unfold okO; conv => whnf) | (unfold okS; conv => whnf) | (unfold SlotOk; conv => whnf) | (unfold ObjOk; conv => whnf) | (unfold okCells; conv => whnf) | (unfold liveTo; conv => whnf)))
            · (conv => whnf)
              refine split_intro (fun d4 => ?_) (fun d4 => ?_)
              · (conv => whnf)
                refine split_intro (fun h => absurd h (by have := Gr.str (by simpa using d4); simp [this])) (fun _ => ?_)
                (conv => whnf)
                refine ⟨(), trivial, ?_⟩
                (repeat' (first | exact trivial | exact Wk.refl _ | exact ObWk.refl _ | exact rfl | exact ⟨_, rfl⟩ | exact Nat.zero_lt_one | refine And.intro ?_ ?_ | unfold okTo | (unfold okO; conv => whnf) | (unfold okS; conv => whnf) | (unfold SlotOk; conv => whnf) | (unfold ObjOk; conv => whnf) | (unfold okCells; conv => whnf) | (unfold liveTo; conv => whnf)))
              · (conv => whnf)
                refine ⟨(), trivial, ?_⟩
                (repeat' (first | exact trivial | exact Wk.refl _ | exact ObWk.refl _ | exact rfl | exact ⟨_, rfl⟩ | exact Nat.zero_lt_one | refine And.intro ?_ ?_ | unfold okTo | (unfold okO; conv => whnf) | (unfold okS; conv => whnf) | (unfold SlotOk; conv => whnf) | (unfold ObjOk; conv => whnf) | (unfold okCells; conv => whnf) | (unfold liveTo; conv => whnf)))
      · (conv => whnf)
        refine split_intro (fun c1 => ?_) (fun c1 => ?_)
        · (conv => whnf)
          refine split_intro (fun h => absurd h (by have := Gr.com (by simpa using c1); simpa using this)) (fun _ => ?_)
          (conv => whnf)
          refine CallLeaf.w (by (repeat' (first | exact ArgsTo.nil | refine ArgsTo.cons ?_ ?_ | exact ArgTo.mk' rfl (Wk.refl _) | exact ArgTo.mk' rfl Wk.nilm | exact ArgTo.mk' rfl (Wk.list _ _) | exact ArgTo.mk' rfl (Wk.agg (by (repeat' (first | exact Wks.nil | refine Wks.cons ?_ ?_ | exact Wk.refl _ | exact Wk.nilm | exact Wk.list _ _ | refine Wk.agg ?_))))))) (wanted_ (merge (all l) x.sym x.unit)) rfl ?_
          (conv => whnf)
          refine split_intro (fun w1 => ?_) (fun w1 => ?_)
          · (conv => whnf)
            exact Wk.refl _
          · (conv => whnf)
            refine CallLeaf.w (by (repeat' (first | exact ArgsTo.nil | refine ArgsTo.cons ?_ ?_ | exact ArgTo.mk' rfl (Wk.refl _) | exact ArgTo.mk' rfl Wk.nilm | exact ArgTo.mk' rfl (Wk.list _ _) | exact ArgTo.mk' rfl (Wk.agg (by (repeat' (first | exact Wks.nil | refine Wks.cons ?_ ?_ | exact Wk.refl _ | exact Wk.nilm | exact Wk.list _ _ | refine Wk.agg ?_))))))) (wanted_ (all l)) rfl ?_
            (conv => whnf)
            refine split_intro (fun w2 => ?_) (fun w2 => ?_)
            · (conv => whnf)
              exact Wk.refl _
            · (conv => whnf)
              exact Wk.bool (by have := Gr.wan (by simpa using w1); rw [w2] at this; simp at this; simp [this])
        · (conv => whnf)
          refine CallLeaf.w (by (repeat' (first | exact ArgsTo.nil | refine ArgsTo.cons ?_ ?_ | exact ArgTo.mk' rfl (Wk.refl _) | exact ArgTo.mk' rfl Wk.nilm | exact ArgTo.mk' rfl (Wk.list _ _) | exact ArgTo.mk' rfl (Wk.agg (by (repeat' (first | exact Wks.nil | refine Wks.cons ?_ ?_ | exact Wk.refl _ | exact Wk.nilm | exact Wk.list _ _ | refine Wk.agg ?_))))))) (wanted_ (merge (all l) x.sym x.unit)) rfl ?_
          (conv => whnf)
          refine split_intro (fun w1 => ?_) (fun w1 => ?_)
          · (conv => whnf)
            exact Wk.refl _
          · (conv => whnf)
            refine CallLeaf.w (by (repeat' (first | exact ArgsTo.nil | refine ArgsTo.cons ?_ ?_ | exact ArgTo.mk' rfl (Wk.refl _) | exact ArgTo.mk' rfl Wk.nilm | exact ArgTo.mk' rfl (Wk.list _ _) | exact ArgTo.mk' rfl (Wk.agg (by (repeat' (first | exact Wks.nil | refine Wks.cons ?_ ?_ | exact Wk.refl _ | exact Wk.nilm | exact Wk.list _ _ | refine Wk.agg ?_))))))) (wanted_ (all l)) rfl ?_
            (conv => whnf)
            refine split_intro (fun w2 => ?_) (fun w2 => ?_)
            · (conv => whnf)
              exact Wk.refl _
            · (conv => whnf)
              exact Wk.bool (by have := Gr.wan (by simpa using w1); rw [w2] at this; simp at this; simp [this])
end Go.Proofs.YtideppacnkilbaaDoor

/- BindGrows: for every input the law returns true and leaves its arguments as they were. No condition but the given statement's own. -/
set_option linter.unusedVariables false
set_option linter.unusedSimpArgs false
namespace Go.Proofs.YtideppacnkilbaaDoor
open Go Go.AL
open Go.ChangeShapes Go.WideShapes Go.ChangeAt Go.RowKit
set_option maxRecDepth 100000 in
theorem bindGrows_lifted (os : Os) (started : os.Started) (H : Type) (enc : TypeId × Value → H) :
    ReturnsInHanded {} Tryd.checked os 4 .any (fun w args => (Rows.bindGrowsSpec.pre enc Tryd.prog Tryd.f4 [] false w args ∧ laidMetH Tryd.prog laidL w) ∧ sizedMet enc Tryd.prog Tryd.f4 (OpenSpec.ofChange Rows.bindGrowsSpec) false w args)
      (Rows.bindGrowsSpec.post enc Tryd.prog Tryd.f4 false true false false) := by
  refine returnsInHanded_of_change_and (C := Tryd.checked) (X := fun w _ => laidMetH Tryd.prog laidL w) (fun _ _ _ hh h => h.of_heap hh) own started (by kernel_rfl) Tryd.func4
    (ChangeSpec.witness_shaped (enc := enc) (C := Tryd.checked) (os := os) (X := fun w _ => laidMetH Tryd.prog laidL w) false (World.doorLaid Tryd.prog doorSteps os) #[.slice none 0 0, .agg #[.string ByteArray.empty, .int .i64 0, .int .i64 0, .int .i64 0, .int .i64 0]] 8 rfl (World.shaped_of_RefB (by kernel_rfl) (by kernel_rfl)) (by kernel_rfl) (by kernel_rfl) (by kernel_rfl) (door_met os _)) ?_
  intro W base args ds gs before hval hW _ hsz hL _
  exact law_contract (P := Tryd.prog) (G := Gl) (n := 8) laidOut (ts := [22, 39]) (by rw [Tryd.params4]) (by kernel_rfl)
    (fun t ht => by
      have : [22, 39].all (fun t => Tryd.prog.readableRec t && decide (t < Tryd.prog.types.size)) = true := by kernel_rfl
      have := List.all_eq_true.1 this t ht
      simpa using this) rfl rfl Tryd.underlying4
    (fun ds hd => by
      match ds, hd with
      | [d0, d1], _ => rfl)
    (fun xs ha => by
      cases ha with
      | cons h0 ha =>
        cases ha with
        | cons h1 ha =>
          cases ha
          obtain ⟨v0, c0, e0⟩ := arg_LU h0
          obtain ⟨v1, c1, e1⟩ := arg_Use h1
          rw [e0, e1]
          exact bindGrows_ v0 v1) hval hW hsz (globOk hL)

theorem bindGrows_row : Rows.BindGrowsSaid :=
  OpenClaim.holds_of_wide 4 Tryd.f4 rfl rfl rfl rfl rfl rfl rfl ⟨rfl, rfl, rfl, rfl, rfl⟩ rfl rfl rfl rfl rfl (by kernel_rfl) Tryd.func4 (by kernel_rfl)
    (of_decide_eq_true (by kernel_rfl)) (by unfold Func.isWrapper; first | (rw [if_pos (by decide +kernel)]; kernel_rfl) | (rw [if_neg (by decide +kernel)]; exact ⟨rfl, rfl⟩))
    (fun os started H enc _ => bindGrows_lifted os started H enc)

theorem bindGrows_holds : Rows.BindGrowsCardSaid :=
  Claim7.holds_tied_plain_at .later [] [.data] true (true, "aca3bd19101ff2e3cd7bd264ece00945e5c9847a34e5b0d1c6cd363903548474") false
    bindGrows_row (fun _ h => by cases h) (by kernel_rfl) (fun _ h => by cases h) bindGrows_row_tie rfl ⟨rfl, rfl⟩ (by kernel_rfl) rfl
    (fun f fn hf hfn => by
      obtain rfl : f = 4 := Option.some.inj ((show Tryd.prog.funcNamed "arlink/arlinklaw13.BindGrows" = some 4 by kernel_rfl).symm.trans hf) |>.symm
      obtain rfl : fn = Tryd.f4 := (Option.some.inj (Tryd.func4.symm.trans hfn)).symm
      exact ⟨by kernel_rfl, fun j t ht => by
        have hm : t ∈ [22, 39] := by
          have := Array.mem_of_getElem? ht
          rw [Tryd.params4] at this
          simpa using this
        have : [22, 39].all (fun t => !Tryd.prog.wantsStandIn t) = true := by kernel_rfl
        have := List.all_eq_true.1 this t hm
        exact (show Tryd.prog.wantsStandIn t = false by simpa using this)⟩)
    (by kernel_rfl)
#print axioms bindGrows_holds
end Go.Proofs.YtideppacnkilbaaDoor
