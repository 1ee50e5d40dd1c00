/- Part of a proof. No condition. -/
import Derived.Test.YtideppacnkilbaaDoorAmWalks
import Derived.Test.YtideppacnkilbaaDoorAmBd
import Derived.Test.YtideppacnkilbaaDoorAmB
import Derived.Test.YtideppacnkilbaaDoorRows
import Derived.Test.YtideppacnkilbaaDoorCards
import Derived.Test.YtideppacnkilbaaDoorTie
import Derived.SevenTiedAt
set_option linter.unusedVariables false
set_option linter.unusedSimpArgs false
namespace Go.Proofs.YtideppacnkilbaaDoor
open Go Go.AL Go.AL.Bd
set_option maxRecDepth 100000
set_option maxHeartbeats 4000000
abbrev eW (x : Int) : List D := [.sq (.int .i64)]
abbrev encS (s : State) : List D := [vI s.bind, vI s.size, vI s.align, vI s.unit, vB s.defd, vB s.sref, vB s.wref, .slist (s.strongs.map eW)]
theorem al_Gl (g : Nat) : Al (.ro (Gl g)) := by
  refine .ro _ ?_
  unfold Gl
  split
  · (repeat' (first | exact Al.v _ | exact Al.nil | exact Al.junk | refine Al.map _ (fun _ => ?_) | refine Al.agg _ ?_ | refine Al.tuple _ ?_ | refine Al.cons ?_ ?_ | exact Al.none'))
  · (repeat' (first | exact Al.v _ | exact Al.nil | exact Al.junk | refine Al.map _ (fun _ => ?_) | refine Al.agg _ ?_ | refine Al.tuple _ ?_ | refine Al.cons ?_ ?_ | exact Al.none'))
theorem al_any (s : State) : ∀ d ∈ s.enc, Al d := by (repeat' (first | exact Al.v _ | exact Al.nil | exact Al.junk | refine Al.map _ (fun _ => ?_) | refine Al.agg _ ?_ | refine Al.tuple _ ?_ | refine Al.cons ?_ ?_ | exact Al.none'))
theorem th_state (s : State) : Th false (.agg s.encN) (.agg (encS s)) := by (repeat' (first | exact ThL.nil | refine ThL.cons ?_ ?_ | exact Th.v _ | exact Th.int _ _ | exact Th.str _ | exact Th.bool _ _ | refine Th.map _ _ (fun _ => ?_) | refine Th.aggL ?_ | refine Th.tupleL ?_ | exact Th.nil _ | exact Th.junk _))
theorem mergeW_ (s : State) (x : Sym) (u : Int) (hs : 0 ≤ s.bind ∧ s.bind < 6) (hx : 1 ≤ x.bind ∧ x.bind ≤ 5) (hl : s.strongs.length ≤ 1000) :
    FCall Tryd.prog Gl 15 [.agg s.enc, .agg x.enc, vI u] [] (.agg (encS (merge s x u))) [] :=
  FCall.thaw (merge_ s x u hs hx hl) (by (repeat' (first | exact Al.v _ | exact Al.nil | exact Al.junk | refine Al.map _ (fun _ => ?_) | refine Al.agg _ ?_ | refine Al.tuple _ ?_ | refine Al.cons ?_ ?_ | exact Al.none'))) al_Gl (th_state _)
theorem joinW_ (a b : State) (ha : 0 ≤ a.bind ∧ a.bind < 6) (hb : 0 ≤ b.bind ∧ b.bind < 6) (hs : (a.strongs ++ b.strongs).length * 8 ≤ 140737488355328) :
    FCall Tryd.prog Gl 12 [.agg a.enc, .agg b.enc] [] (.agg (encS (join a b))) [] :=
  FCall.thaw (join_ a b ha hb hs) (by (repeat' (first | exact Al.v _ | exact Al.nil | exact Al.junk | refine Al.map _ (fun _ => ?_) | refine Al.agg _ ?_ | refine Al.tuple _ ?_ | refine Al.cons ?_ ?_ | exact Al.none'))) al_Gl (th_state _)

theorem bindKeeps_ (l : List Use) (x : Use) : FCall Tryd.prog Gl 6 [LU l, .agg x.enc] [] (vB true) [] := by
  refine FCall.enterL hT hmix [] Tryd.func6 rfl rfl rfl fun hbd => ?_
  (conv => whnf)
  (refine CallLeaf.w (by (repeat' (first | exact ArgsTo.nil | refine ArgsTo.cons ?_ ?_ | exact ArgTo.mk' rfl (Wk.refl _) | exact ArgTo.mk' rfl Wk.nilm | exact ArgTo.mk' rfl (Wk.list _ _) | exact ArgTo.mk' rfl (Wk.agg (by (repeat' (first | exact Wks.nil | refine Wks.cons ?_ ?_ | exact Wk.refl _ | exact Wk.nilm | exact Wk.list _ _  | exact Wk.natN rfl | refine Wk.agg ?_))))))) (awake_) rfl ?_; (conv => whnf))
  refine CallLeaf.w (by (repeat' (first | exact ArgsTo.nil | refine ArgsTo.cons ?_ ?_ | exact ArgTo.mk' rfl (Wk.refl _) | exact ArgTo.mk' rfl Wk.nilm | exact ArgTo.mk' rfl (Wk.list _ _) | exact ArgTo.mk' rfl (Wk.agg (by (repeat' (first | exact Wks.nil | refine Wks.cons ?_ ?_ | exact Wk.refl _ | exact Wk.nilm | exact Wk.list _ _  | exact Wk.natN rfl | refine Wk.agg ?_))))))) (right_ l) rfl ?_
  (conv => whnf)
  refine split_intro (fun ha => ?_) (fun ha => ?_)
  · (conv => whnf)
    (refine CallLeaf.w (by (repeat' (first | exact ArgsTo.nil | refine ArgsTo.cons ?_ ?_ | exact ArgTo.mk' rfl (Wk.refl _) | exact ArgTo.mk' rfl Wk.nilm | exact ArgTo.mk' rfl (Wk.list _ _) | exact ArgTo.mk' rfl (Wk.agg (by (repeat' (first | exact Wks.nil | refine Wks.cons ?_ ?_ | exact Wk.refl _ | exact Wk.nilm | exact Wk.list _ _  | exact Wk.natN rfl | refine Wk.agg ?_))))))) (awake_) rfl ?_; (conv => whnf); exact Wk.refl _)
  · (conv => whnf)
    refine CallLeaf.w (by (repeat' (first | exact ArgsTo.nil | refine ArgsTo.cons ?_ ?_ | exact ArgTo.mk' rfl (Wk.refl _) | exact ArgTo.mk' rfl Wk.nilm | exact ArgTo.mk' rfl (Wk.list _ _) | exact ArgTo.mk' rfl (Wk.agg (by (repeat' (first | exact Wks.nil | refine Wks.cons ?_ ?_ | exact Wk.refl _ | exact Wk.nilm | exact Wk.list _ _  | exact Wk.natN rfl | refine Wk.agg ?_))))))) (right_ [x]) rfl ?_
    (conv => whnf)
    refine split_intro (fun hb => ?_) (fun hb => ?_)
    · (conv => whnf)
      (refine CallLeaf.w (by (repeat' (first | exact ArgsTo.nil | refine ArgsTo.cons ?_ ?_ | exact ArgTo.mk' rfl (Wk.refl _) | exact ArgTo.mk' rfl Wk.nilm | exact ArgTo.mk' rfl (Wk.list _ _) | exact ArgTo.mk' rfl (Wk.agg (by (repeat' (first | exact Wks.nil | refine Wks.cons ?_ ?_ | exact Wk.refl _ | exact Wk.nilm | exact Wk.list _ _  | exact Wk.natN rfl | refine Wk.agg ?_))))))) (awake_) rfl ?_; (conv => whnf); exact Wk.refl _)
    · replace ha : right l = true := by simpa using ha
      replace hb : right [x] = true := by simpa using hb
      have la := (right_iff.1 ha).1
      have ba := right_bind ha
      have bx := right_bind hb x (by simp)
      have A := all_bind ba
      have ok : ∀ y ∈ l ++ [x], okUse y = true := fun y hy => (List.mem_append.1 hy).elim (fun h => (right_iff.1 ha).2 y h) (fun h => (right_iff.1 hb).2 y h)
      have e0 : all l = refOf l := (ref_all (right_iff.1 ha).2).symm
      have e1 : merge (all l) x.sym x.unit = refOf (l ++ [x]) := by rw [ref_all ok, all_snoc]
      have hm := merge_strongs (all l) x.sym x.unit
      (conv => whnf)
      refine CallLeaf.w (by (repeat' (first | exact ArgsTo.nil | refine ArgsTo.cons ?_ ?_ | exact ArgTo.mk' rfl (Wk.refl _) | exact ArgTo.mk' rfl Wk.nilm | exact ArgTo.mk' rfl (Wk.list _ _) | exact ArgTo.mk' rfl (Wk.agg (by (repeat' (first | exact Wks.nil | refine Wks.cons ?_ ?_ | exact Wk.refl _ | exact Wk.nilm | exact Wk.list _ _  | exact Wk.natN rfl | refine Wk.agg ?_))))))) (all_ l (by omega) ba) rfl ?_
      (conv => whnf)
      refine CallLeaf.w (by (repeat' (first | exact ArgsTo.nil | refine ArgsTo.cons ?_ ?_ | exact ArgTo.mk' rfl (Wk.refl _) | exact ArgTo.mk' rfl Wk.nilm | exact ArgTo.mk' rfl (Wk.list _ _) | exact ArgTo.mk' rfl (Wk.agg (by (repeat' (first | exact Wks.nil | refine Wks.cons ?_ ?_ | exact Wk.refl _ | exact Wk.nilm | exact Wk.list _ _  | exact Wk.natN rfl | refine Wk.agg ?_))))))) (mergeW_ (all l) x.sym x.unit A.1 bx (by omega)) rfl ?_
      (conv => whnf)
      refine LWp.loop hT hmix [] (fun k : Nat => [(7, vI k)]) (fun _ => []) (fun k => k ≤ (merge (all l) x.sym x.unit).strongs.length) (fun k => (merge (all l) x.sym x.unit).strongs.length - k) 0 (Nat.zero_le _) ?_
      (conv => whnf)
      refine ⟨?_, fun k hk => ?_⟩
      · (repeat' (first | exact trivial | exact Wk.refl _ | exact ObWk.refl _ | exact rfl | exact ⟨_, rfl⟩ | exact Nat.zero_lt_one | refine And.intro ?_ ?_ | unfold okTo | (unfold okO; conv => whnf) | (unfold okS; conv => whnf) | (unfold SlotOk; conv => whnf) | (unfold ObjOk; conv => whnf) | (unfold okCells; conv => whnf) | (unfold liveTo; conv => whnf)))
      · (conv => whnf)
        refine split_intro (fun h => ?_) (fun h => ?_)
        · have hlt : k < (merge (all l) x.sym x.unit).strongs.length := by simpa using h
          obtain ⟨y, hy⟩ := exI hlt
          (conv => whnf)
          refine ⟨_, ⟨by omega, getMap hy⟩, ?_⟩
          (conv => whnf)
          refine ⟨_, add64 (c := ((k + 1 : Nat) : Int)) (by omega) (by omega), ?_⟩
          (conv => whnf)
          refine ⟨k + 1, ⟨by omega, by simp only []; omega⟩, ?_⟩
          (repeat' (first | exact trivial | exact Wk.refl _ | exact ObWk.refl _ | exact rfl | exact ⟨_, rfl⟩ | exact Nat.zero_lt_one | refine And.intro ?_ ?_ | unfold okTo | (unfold okO; conv => whnf) | (unfold okS; conv => whnf) | (unfold SlotOk; conv => whnf) | (unfold ObjOk; conv => whnf) | (unfold okCells; conv => whnf) | (unfold liveTo; conv => whnf)))
        · (conv => whnf)
          refine CallLeaf.w (by (repeat' (first | exact ArgsTo.nil | refine ArgsTo.cons ?_ ?_ | exact ArgTo.mk' rfl (Wk.refl _) | exact ArgTo.mk' rfl Wk.nilm | exact ArgTo.mk' rfl (Wk.list _ _) | exact ArgTo.mk' rfl (Wk.agg (by (repeat' (first | exact Wks.nil | refine Wks.cons ?_ ?_ | exact Wk.refl _ | exact Wk.nilm | exact Wk.list _ _  | exact Wk.natN rfl | refine Wk.agg ?_))))))) (joinW_ (all l) (all l) A.1 A.1 (by rw [List.length_append]; omega)) rfl ?_
          (conv => whnf)
          have hj : (join (all l) (all l)).strongs.length ≤ 200 := by simp [join]; omega
          refine LWp.loop hT hmix [] (fun k : Nat => [(9, vI k)]) (fun _ => []) (fun k => k ≤ (join (all l) (all l)).strongs.length) (fun k => (join (all l) (all l)).strongs.length - k) 0 (Nat.zero_le _) ?_
          (conv => whnf)
          refine ⟨?_, fun k hk => ?_⟩
          · (repeat' (first | exact trivial | exact Wk.refl _ | exact ObWk.refl _ | exact rfl | exact ⟨_, rfl⟩ | exact Nat.zero_lt_one | refine And.intro ?_ ?_ | unfold okTo | (unfold okO; conv => whnf) | (unfold okS; conv => whnf) | (unfold SlotOk; conv => whnf) | (unfold ObjOk; conv => whnf) | (unfold okCells; conv => whnf) | (unfold liveTo; conv => whnf)))
          · (conv => whnf)
            refine split_intro (fun h => ?_) (fun h => ?_)
            · have hlt : k < (join (all l) (all l)).strongs.length := by simpa using h
              obtain ⟨y, hy⟩ := exI hlt
              (conv => whnf)
              refine ⟨_, ⟨by omega, getMap hy⟩, ?_⟩
              (conv => whnf)
              refine ⟨_, add64 (c := ((k + 1 : Nat) : Int)) (by omega) (by omega), ?_⟩
              (conv => whnf)
              refine ⟨k + 1, ⟨by omega, by simp only []; omega⟩, ?_⟩
              (repeat' (first | exact trivial | exact Wk.refl _ | exact ObWk.refl _ | exact rfl | exact ⟨_, rfl⟩ | exact Nat.zero_lt_one | refine And.intro ?_ ?_ | unfold okTo | (unfold okO; conv => whnf) | (unfold okS; conv => whnf) | (unfold SlotOk; conv => whnf) | (unfold ObjOk; conv => whnf) | (unfold okCells; conv => whnf) | (unfold liveTo; conv => whnf)))
            · (conv => whnf)
              refine CallLeaf.w (by (repeat' (first | exact ArgsTo.nil | refine ArgsTo.cons ?_ ?_ | exact ArgTo.mk' rfl (Wk.refl _) | exact ArgTo.mk' rfl Wk.nilm | exact ArgTo.mk' rfl (Wk.list _ _) | exact ArgTo.mk' rfl (Wk.agg (by (repeat' (first | exact Wks.nil | refine Wks.cons ?_ ?_ | exact Wk.refl _ | exact Wk.nilm | exact Wk.list _ _  | exact Wk.natN rfl | refine Wk.agg ?_))))))) (state_ (all l)) rfl ?_
              (conv => whnf)
              refine CallLeaf.w (by (repeat' (first | exact ArgsTo.nil | refine ArgsTo.cons ?_ ?_ | exact ArgTo.mk' rfl (Wk.refl _) | exact ArgTo.mk' rfl Wk.nilm | exact ArgTo.mk' rfl (Wk.list _ _) | exact ArgTo.mk' rfl (Wk.agg (by (repeat' (first | exact Wks.nil | refine Wks.cons ?_ ?_ | exact Wk.refl _ | exact Wk.nilm | exact Wk.list _ _  | exact Wk.natN rfl | refine Wk.agg ?_))))))) (refOf_ l (by omega)) rfl ?_
              (conv => whnf)
              refine CallLeaf.w (by (repeat' (first | exact ArgsTo.nil | refine ArgsTo.cons ?_ ?_ | exact ArgTo.mk' rfl (Wk.refl _) | exact ArgTo.mk' rfl Wk.nilm | exact ArgTo.mk' rfl (Wk.list _ _) | exact ArgTo.mk' rfl (Wk.agg (by (repeat' (first | exact Wks.nil | refine Wks.cons ?_ ?_ | exact Wk.refl _ | exact Wk.nilm | exact Wk.list _ _  | exact Wk.natN rfl | refine Wk.agg ?_))))))) (same_ (all l) (refOf l)) rfl ?_
              (conv => whnf)
              refine split_intro (fun _ => ?_) (fun h => absurd h (by rw [← e0]; simp))
              (conv => whnf)
              refine CallLeaf.w (by (repeat' (first | exact ArgsTo.nil | refine ArgsTo.cons ?_ ?_ | exact ArgTo.mk' rfl (Wk.refl _) | exact ArgTo.mk' rfl Wk.nilm | exact ArgTo.mk' rfl (Wk.list _ _) | exact ArgTo.mk' rfl (Wk.agg (by (repeat' (first | exact Wks.nil | refine Wks.cons ?_ ?_ | exact Wk.refl _ | exact Wk.nilm | exact Wk.list _ _  | exact Wk.natN rfl | refine Wk.agg ?_))))))) (merge_ (all l) x.sym x.unit A.1 bx (by omega)) rfl ?_
              (conv => whnf)
              refine CallLeaf.w (by (repeat' (first | exact ArgsTo.nil | refine ArgsTo.cons ?_ ?_ | exact ArgTo.mk' rfl (Wk.refl _) | exact ArgTo.mk' rfl Wk.nilm | exact ArgTo.mk' rfl (Wk.list _ _) | exact ArgTo.mk' rfl (Wk.agg (by (repeat' (first | exact Wks.nil | refine Wks.cons ?_ ?_ | exact Wk.refl _ | exact Wk.nilm | exact Wk.list _ _  | exact Wk.natN rfl | refine Wk.agg ?_))))))) (state_ (merge (all l) x.sym x.unit)) rfl ?_
              (conv => whnf)
              refine ⟨_, appL (f := Use.enc) (xs := []) (ys := l) (zs := l) rfl rfl (fun _ => rfl) rfl (by show _ * 48 ≤ _; omega), ?_⟩
              (conv => whnf)
              refine ⟨_, appL (f := Use.enc) (xs := l) (ys := [x]) (zs := l ++ [x]) rfl rfl (fun _ => rfl) rfl (by rw [List.length_append]; show _ * 48 ≤ _; simp only [List.length_singleton]; omega), ?_⟩
              (conv => whnf)
              refine CallLeaf.w (by (repeat' (first | exact ArgsTo.nil | refine ArgsTo.cons ?_ ?_ | exact ArgTo.mk' rfl (Wk.refl _) | exact ArgTo.mk' rfl Wk.nilm | exact ArgTo.mk' rfl (Wk.list _ _) | exact ArgTo.mk' rfl (Wk.agg (by (repeat' (first | exact Wks.nil | refine Wks.cons ?_ ?_ | exact Wk.refl _ | exact Wk.nilm | exact Wk.list _ _  | exact Wk.natN rfl | refine Wk.agg ?_))))))) (refOf_ (l ++ [x]) (by rw [List.length_append]; simp only [List.length_singleton]; omega)) rfl ?_
              (conv => whnf)
              refine CallLeaf.w (by (repeat' (first | exact ArgsTo.nil | refine ArgsTo.cons ?_ ?_ | exact ArgTo.mk' rfl (Wk.refl _) | exact ArgTo.mk' rfl Wk.nilm | exact ArgTo.mk' rfl (Wk.list _ _) | exact ArgTo.mk' rfl (Wk.agg (by (repeat' (first | exact Wks.nil | refine Wks.cons ?_ ?_ | exact Wk.refl _ | exact Wk.nilm | exact Wk.list _ _  | exact Wk.natN rfl | refine Wk.agg ?_))))))) (same_ (merge (all l) x.sym x.unit) (refOf (l ++ [x]))) rfl ?_
              (conv => whnf)
              exact Wk.bool (by rw [e1]; simp)
end Go.Proofs.YtideppacnkilbaaDoor

/- BindKeeps: for every input the law returns true and leaves its arguments as they were. No condition but the given statement's own. -/
set_option linter.unusedVariables false
set_option linter.unusedSimpArgs false
namespace Go.Proofs.YtideppacnkilbaaDoor
open Go Go.AL
open Go.ChangeShapes Go.WideShapes Go.ChangeAt Go.RowKit
set_option maxRecDepth 100000 in
theorem bindKeeps_lifted (os : Os) (started : os.Started) (H : Type) (enc : TypeId × Value → H) :
    ReturnsInHanded {} Tryd.checked os 6 .any (fun w args => (Rows.bindKeepsSpec.pre enc Tryd.prog Tryd.f6 [] false w args ∧ laidMetH Tryd.prog laidL w) ∧ sizedMet enc Tryd.prog Tryd.f6 (OpenSpec.ofChange Rows.bindKeepsSpec) false w args)
      (Rows.bindKeepsSpec.post enc Tryd.prog Tryd.f6 false true false false) := by
  refine returnsInHanded_of_change_and (C := Tryd.checked) (X := fun w _ => laidMetH Tryd.prog laidL w) (fun _ _ _ hh h => h.of_heap hh) own started (by kernel_rfl) Tryd.func6
    (ChangeSpec.witness_shaped (enc := enc) (C := Tryd.checked) (os := os) (X := fun w _ => laidMetH Tryd.prog laidL w) false (World.doorLaid Tryd.prog doorSteps os) #[.slice none 0 0, .agg #[.string ByteArray.empty, .int .i64 0, .int .i64 0, .int .i64 0, .int .i64 0]] 8 rfl (World.shaped_of_RefB (by kernel_rfl) (by kernel_rfl)) (by kernel_rfl) (by kernel_rfl) (by kernel_rfl) (door_met os _)) ?_
  intro W base args ds gs before hval hW _ hsz hL _
  exact law_contract (P := Tryd.prog) (G := Gl) (n := 8) laidOut (ts := [22, 39]) (by rw [Tryd.params6]) (by kernel_rfl)
    (fun t ht => by
      have : [22, 39].all (fun t => Tryd.prog.readableRec t && decide (t < Tryd.prog.types.size)) = true := by kernel_rfl
      have := List.all_eq_true.1 this t ht
      simpa using this) rfl rfl Tryd.underlying4
    (fun ds hd => by
      match ds, hd with
      | [d0, d1], _ => rfl)
    (fun xs ha => by
      cases ha with
      | cons h0 ha =>
        cases ha with
        | cons h1 ha =>
          cases ha
          obtain ⟨v0, c0, e0⟩ := arg_LU h0
          obtain ⟨v1, c1, e1⟩ := arg_Use h1
          rw [e0, e1]
          exact bindKeeps_ v0 v1) hval hW hsz (globOk hL)

theorem bindKeeps_row : Rows.BindKeepsSaid :=
  OpenClaim.holds_of_wide 6 Tryd.f6 rfl rfl rfl rfl rfl rfl rfl ⟨rfl, rfl, rfl, rfl, rfl⟩ rfl rfl rfl rfl rfl (by kernel_rfl) Tryd.func6 (by kernel_rfl)
    (of_decide_eq_true (by kernel_rfl)) (by unfold Func.isWrapper; first | (rw [if_pos (by decide +kernel)]; kernel_rfl) | (rw [if_neg (by decide +kernel)]; exact ⟨rfl, rfl⟩))
    (fun os started H enc _ => bindKeeps_lifted os started H enc)

theorem bindKeeps_holds : Rows.BindKeepsCardSaid :=
  Claim7.holds_tied_plain_at .later [] [.data] true (true, "aca3bd19101ff2e3cd7bd264ece00945e5c9847a34e5b0d1c6cd363903548474") false
    bindKeeps_row (fun _ h => by cases h) (by kernel_rfl) (fun _ h => by cases h) bindKeeps_row_tie rfl ⟨rfl, rfl⟩ (by kernel_rfl) rfl
    (fun f fn hf hfn => by
      obtain rfl : f = 6 := Option.some.inj ((show Tryd.prog.funcNamed "arlink/arlinklaw13.BindKeeps" = some 6 by kernel_rfl).symm.trans hf) |>.symm
      obtain rfl : fn = Tryd.f6 := (Option.some.inj (Tryd.func6.symm.trans hfn)).symm
      exact ⟨by kernel_rfl, fun j t ht => by
        have hm : t ∈ [22, 39] := by
          have := Array.mem_of_getElem? ht
          rw [Tryd.params6] at this
          simpa using this
        have : [22, 39].all (fun t => !Tryd.prog.wantsStandIn t) = true := by kernel_rfl
        have := List.all_eq_true.1 this t hm
        exact (show Tryd.prog.wantsStandIn t = false by simpa using this)⟩)
    (by kernel_rfl)
#print axioms bindKeeps_holds
end Go.Proofs.YtideppacnkilbaaDoor
