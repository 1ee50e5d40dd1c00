/- SymtabSorted, walked. No condition. -/
import Derived.Test.YtdlcaoobaejlpaaDoorSyb
import Derived.Test.YtdlcaoobaejlpaaDoorAop
set_option linter.unusedVariables false
set_option linter.unusedSimpArgs false
namespace Go.Proofs.YtdlcaoobaejlpaaDoor
open Go Go.AL Go.AL.Bd
set_option maxRecDepth 100000
set_option maxHeartbeats 4000000
theorem filter_at {l : List Str} {p : Str → Bool} {k : Nat} {s : Str} (h : l[k]? = some s) (hp : p s = true) : (l.filter p)[((l.take k).filter p).length]? = some s := by
  have hk := (List.getElem?_eq_some_iff.1 h).1
  have e : l = l.take k ++ s :: l.drop (k + 1) := by
    have := List.take_append_drop k l
    rw [List.drop_eq_getElem_cons hk] at this
    rw [List.getElem?_eq_getElem hk] at h
    injection h with h
    rw [h] at this; exact this.symm
  have e2 : l.filter p = (l.take k).filter p ++ s :: (l.drop (k + 1)).filter p := by
    rw [show l.filter p = (l.take k ++ s :: l.drop (k + 1)).filter p by rw [← e]]
    simp [hp]
  rw [e2]; simp
theorem geqs {a b : Str} (h : Wt.lt a b = true) : ¬ (!Op.bytesLess a b) = true := by
  have : Op.bytesLess a b = true := h
  simp [this]
theorem symSorted_ (l : List Ob.Obj) : FCall Tryd.prog Gl 5 [LO l] [] (vB true) [] := by
  refine FCall.enterL hT hmix [] Tryd.func5 rfl rfl rfl fun hbd => ?_
  (conv => whnf)
  refine CallLeaf.w (by (repeat' (first | exact ArgsTo.nil | refine ArgsTo.cons ?_ ?_ | exact ArgTo.mk' rfl (Wk.refl _) | exact ArgTo.mk' rfl Wk.nilm | exact ArgTo.mk' rfl (Wk.int (by simp)) | exact ArgTo.mk' rfl (Wk.list _ _) | exact ArgTo.mk' rfl (Wk.agg (by (repeat' (first | exact Wks.nil | refine Wks.cons ?_ ?_ | exact Wk.refl _ | exact Wk.nilm | exact Wk.list _ _  | exact Wk.natN rfl | refine Wk.agg ?_))))))) (awake_) rfl ?_
  (conv => whnf)
  refine CallLeaf.w (by (repeat' (first | exact ArgsTo.nil | refine ArgsTo.cons ?_ ?_ | exact ArgTo.mk' rfl (Wk.refl _) | exact ArgTo.mk' rfl Wk.nilm | exact ArgTo.mk' rfl (Wk.int (by simp)) | exact ArgTo.mk' rfl (Wk.list _ _) | exact ArgTo.mk' rfl (Wk.agg (by (repeat' (first | exact Wks.nil | refine Wks.cons ?_ ?_ | exact Wk.refl _ | exact Wk.nilm | exact Wk.list _ _  | exact Wk.natN rfl | refine Wk.agg ?_))))))) (right_ l) rfl ?_
  (conv => whnf)
  refine split_intro (fun hr => ?_) (fun hr => ?_)
  · (((conv => whnf)); (refine CallLeaf.w (by (repeat' (first | exact ArgsTo.nil | refine ArgsTo.cons ?_ ?_ | exact ArgTo.mk' rfl (Wk.refl _) | exact ArgTo.mk' rfl Wk.nilm | exact ArgTo.mk' rfl (Wk.int (by simp)) | exact ArgTo.mk' rfl (Wk.list _ _) | exact ArgTo.mk' rfl (Wk.agg (by (repeat' (first | exact Wks.nil | refine Wks.cons ?_ ?_ | exact Wk.refl _ | exact Wk.nilm | exact Wk.list _ _  | exact Wk.natN rfl | refine Wk.agg ?_))))))) (awake_) rfl ?_); ((conv => whnf)); exact Wk.refl _)
  · have ok := right_ok (not_f hr)
    have hl := ok.len
    (conv => whnf)
    refine LWp.loop hT hmix [] (fun k : Nat => [(4, vI k)]) (fun k => TK 1536 3616 l k) (fun k => k ≤ l.length) (fun k => l.length - k) 0 (Nat.zero_le _) ?_
    (conv => whnf)
    refine ⟨?_, fun k hk => ?_⟩
    · (repeat' (first | exact trivial | exact Wk.refl _ | exact ObWk.refl _ | exact rfl | exact ⟨_, rfl⟩ | exact Nat.zero_lt_one | refine And.intro ?_ ?_ | unfold okTo | (unfold okO; conv => whnf) | (unfold okS; conv => whnf) | (unfold SlotOk; conv => whnf) | (unfold ObjOk; conv => whnf) | (unfold okCells; conv => whnf) | (unfold liveTo; conv => whnf) | exact Nat.zero_lt_succ _))
    · cases k with
      | zero =>
        (conv => whnf)
        refine split_intro (fun h => ?_) (fun h => ?_)
        · ((have hlt : 0 < l.length := by (have := of_decide_eq_true h; simp at this; omega)); (obtain ⟨o, ho⟩ := exI hlt); ((conv => whnf)); (refine ⟨_, ⟨by omega, getMap ho⟩, ?_⟩); ((conv => whnf)); (refine CallLeaf.o [1536, 3616] (by (repeat' (first | exact ArgsTo.nil | refine ArgsTo.cons ?_ ?_ | exact ArgTo.mk' rfl (Wk.refl _) | exact ArgTo.mk' rfl Wk.nilm | exact ArgTo.mk' rfl (Wk.int (by simp)) | exact ArgTo.mk' rfl (Wk.list _ _) | exact ArgTo.mk' rfl (Wk.agg (by (repeat' (first | exact Wks.nil | refine Wks.cons ?_ ?_ | exact Wk.refl _ | exact Wk.nilm | exact Wk.list _ _  | exact Wk.natN rfl | refine Wk.agg ?_))))))) (load0 ok ho) rfl rfl (by (repeat' (first | exact trivial | exact rfl | refine And.intro ?_ ?_))) (by (repeat' (first | exact trivial | exact rfl | refine And.intro ?_ ?_))) (by (repeat' (first | exact trivial | exact rfl | refine And.intro ?_ ?_))) rfl rfl ?_); ((conv => whnf)); (refine ⟨_, add64 (c := ((0 + 1 : Nat) : Int)) (by (try simp only []); omega) (by omega), ?_⟩); ((conv => whnf)); (refine ⟨0 + 1, ⟨by omega, by simp only []; omega⟩, ?_⟩); ((repeat' (first | exact trivial | exact Wk.refl _ | exact ObWk.refl _ | exact rfl | exact ⟨_, rfl⟩ | exact Nat.zero_lt_one | refine And.intro ?_ ?_ | unfold okTo | (unfold okO; conv => whnf) | (unfold okS; conv => whnf) | (unfold SlotOk; conv => whnf) | (unfold ObjOk; conv => whnf) | (unfold okCells; conv => whnf) | (unfold liveTo; conv => whnf) | exact Nat.zero_lt_succ _))))
        · have h0 : l = [] := by have := of_decide_eq_false h; simpa using this
          subst h0
          (conv => whnf)
          refine CallLeaf.o [1536] (by (repeat' (first | exact ArgsTo.nil | refine ArgsTo.cons ?_ ?_ | exact ArgTo.mk' rfl (Wk.refl _) | exact ArgTo.mk' rfl Wk.nilm | exact ArgTo.mk' rfl (Wk.int (by simp)) | exact ArgTo.mk' rfl (Wk.list _ _) | exact ArgTo.mk' rfl (Wk.agg (by (repeat' (first | exact Wks.nil | refine Wks.cons ?_ ?_ | exact Wk.refl _ | exact Wk.nilm | exact Wk.list _ _  | exact Wk.natN rfl | refine Wk.agg ?_))))))) (tnamesZ_) rfl rfl (by (repeat' (first | exact trivial | exact rfl | refine And.intro ?_ ?_))) (by (repeat' (first | exact trivial | exact rfl | refine And.intro ?_ ?_))) (by (repeat' (first | exact trivial | exact rfl | refine And.intro ?_ ?_))) rfl rfl ?_
          (conv => whnf)
          refine CallLeaf.o [1536] (by (repeat' (first | exact ArgsTo.nil | refine ArgsTo.cons ?_ ?_ | exact ArgTo.mk' rfl (Wk.refl _) | exact ArgTo.mk' rfl Wk.nilm | exact ArgTo.mk' rfl (Wk.int (by simp)) | exact ArgTo.mk' rfl (Wk.list _ _) | exact ArgTo.mk' rfl (Wk.agg (by (repeat' (first | exact Wks.nil | refine Wks.cons ?_ ?_ | exact Wk.refl _ | exact Wk.nilm | exact Wk.list _ _  | exact Wk.natN rfl | refine Wk.agg ?_))))))) (twantedZ_) rfl rfl (by (repeat' (first | exact trivial | exact rfl | refine And.intro ?_ ?_))) (by (repeat' (first | exact trivial | exact rfl | refine And.intro ?_ ?_))) (by (repeat' (first | exact trivial | exact rfl | refine And.intro ?_ ?_))) rfl rfl ?_
          (conv => whnf)
          refine LWp.loop hT hmix [] (fun i : Nat => [(8, vI i), (7, vI 0)]) (fun _ => []) (fun i => i = 0) (fun i => 0) 0 rfl ?_
          (conv => whnf)
          refine ⟨?_, fun i hi => ?_⟩
          · (repeat' (first | exact trivial | exact Wk.refl _ | exact ObWk.refl _ | exact rfl | exact ⟨_, rfl⟩ | exact Nat.zero_lt_one | refine And.intro ?_ ?_ | unfold okTo | (unfold okO; conv => whnf) | (unfold okS; conv => whnf) | (unfold SlotOk; conv => whnf) | (unfold ObjOk; conv => whnf) | (unfold okCells; conv => whnf) | (unfold liveTo; conv => whnf) | exact Nat.zero_lt_succ _))
          · subst hi
            (conv => whnf)
            exact Wk.refl _
      | succ k =>
        (conv => whnf)
        refine split_intro (fun h => ?_) (fun h => ?_)
        · ((have hlt : k + 1 < l.length := by (have := of_decide_eq_true h; simp at this; omega)); (obtain ⟨o, ho⟩ := exI hlt); ((conv => whnf)); (refine ⟨_, ⟨by omega, getMap ho⟩, ?_⟩); ((conv => whnf)); (refine CallLeaf.o [1536, 3616] (by (repeat' (first | exact ArgsTo.nil | refine ArgsTo.cons ?_ ?_ | exact ArgTo.mk' rfl (Wk.refl _) | exact ArgTo.mk' rfl Wk.nilm | exact ArgTo.mk' rfl (Wk.int (by simp)) | exact ArgTo.mk' rfl (Wk.list _ _) | exact ArgTo.mk' rfl (Wk.agg (by (repeat' (first | exact Wks.nil | refine Wks.cons ?_ ?_ | exact Wk.refl _ | exact Wk.nilm | exact Wk.list _ _  | exact Wk.natN rfl | refine Wk.agg ?_))))))) (loadK ok ho) rfl rfl (by (repeat' (first | exact trivial | exact rfl | refine And.intro ?_ ?_))) (by (repeat' (first | exact trivial | exact rfl | refine And.intro ?_ ?_))) (by (repeat' (first | exact trivial | exact rfl | refine And.intro ?_ ?_))) rfl rfl ?_); ((conv => whnf)); (refine ⟨_, add64 (c := ((k + 1 + 1 : Nat) : Int)) (by (try simp only []); omega) (by omega), ?_⟩); ((conv => whnf)); (refine ⟨k + 1 + 1, ⟨by omega, by simp only []; omega⟩, ?_⟩); ((repeat' (first | exact trivial | exact Wk.refl _ | exact ObWk.refl _ | exact rfl | exact ⟨_, rfl⟩ | exact Nat.zero_lt_one | refine And.intro ?_ ?_ | unfold okTo | (unfold okO; conv => whnf) | (unfold okS; conv => whnf) | (unfold SlotOk; conv => whnf) | (unfold ObjOk; conv => whnf) | (unfold okCells; conv => whnf) | (unfold liveTo; conv => whnf) | exact Nat.zero_lt_succ _))))
        · have hge : l.length ≤ k + 1 := by have := of_decide_eq_false h; simp at this; omega
          have e : l.take (k + 1) = l := List.take_of_length_le hge
          have B1 := namesK ok (k + 1)
          have B2 := wantedK ok (k + 1)
          have B3 := fun s => stateK ok (k + 1) s
          have hs := Sy.names_srt (Us (l.take (k + 1)))
          have hul := (ok.take (k + 1)).le
          have hnl := names_len (Us (l.take (k + 1)))
          have hkw : ∀ s, keepW (Us (l.take (k + 1))) s = wanted (all (Sy.of (Us (l.take (k + 1))) s)) := fun _ => rfl
          obtain ⟨N, hN⟩ : ∃ N, Sy.names (Us (l.take (k + 1))) = N := ⟨_, rfl⟩
          have hw : wantedL (Us (l.take (k + 1))) = N.filter (keepW (Us (l.take (k + 1)))) := by rw [← hN]; rfl
          generalize keepW (Us (l.take (k + 1))) = p at *
          rw [hN] at B1 hs hnl
          rw [hw] at B2
          (conv => whnf)
          refine CallLeaf.o [1536, 3616] (by (repeat' (first | exact ArgsTo.nil | refine ArgsTo.cons ?_ ?_ | exact ArgTo.mk' rfl (Wk.refl _) | exact ArgTo.mk' rfl Wk.nilm | exact ArgTo.mk' rfl (Wk.int (by simp)) | exact ArgTo.mk' rfl (Wk.list _ _) | exact ArgTo.mk' rfl (Wk.agg (by (repeat' (first | exact Wks.nil | refine Wks.cons ?_ ?_ | exact Wk.refl _ | exact Wk.nilm | exact Wk.list _ _  | exact Wk.natN rfl | refine Wk.agg ?_))))))) (B1) rfl rfl (by (repeat' (first | exact trivial | exact rfl | refine And.intro ?_ ?_))) (by (repeat' (first | exact trivial | exact rfl | refine And.intro ?_ ?_))) (by (repeat' (first | exact trivial | exact rfl | refine And.intro ?_ ?_))) rfl rfl ?_
          (conv => whnf)
          refine CallLeaf.o [1536, 3616] (by (repeat' (first | exact ArgsTo.nil | refine ArgsTo.cons ?_ ?_ | exact ArgTo.mk' rfl (Wk.refl _) | exact ArgTo.mk' rfl Wk.nilm | exact ArgTo.mk' rfl (Wk.int (by simp)) | exact ArgTo.mk' rfl (Wk.list _ _) | exact ArgTo.mk' rfl (Wk.agg (by (repeat' (first | exact Wks.nil | refine Wks.cons ?_ ?_ | exact Wk.refl _ | exact Wk.nilm | exact Wk.list _ _  | exact Wk.natN rfl | refine Wk.agg ?_))))))) (B2) rfl rfl (by (repeat' (first | exact trivial | exact rfl | refine And.intro ?_ ?_))) (by (repeat' (first | exact trivial | exact rfl | refine And.intro ?_ ?_))) (by (repeat' (first | exact trivial | exact rfl | refine And.intro ?_ ?_))) rfl rfl ?_
          (conv => whnf)
          refine LWp.loop hT hmix [] (fun i : Nat => [(8, vI i), (7, vI (((N.take i).filter p).length : Nat))]) (fun _ => []) (fun i => i ≤ N.length) (fun i => N.length - i) 0 (Nat.zero_le _) ?_
          (conv => whnf)
          refine ⟨?_, fun i hi => ?_⟩
          · (repeat' (first | exact trivial | exact Wk.refl _ | exact ObWk.refl _ | exact rfl | exact ⟨_, rfl⟩ | exact Nat.zero_lt_one | refine And.intro ?_ ?_ | unfold okTo | (unfold okO; conv => whnf) | (unfold okS; conv => whnf) | (unfold SlotOk; conv => whnf) | (unfold ObjOk; conv => whnf) | (unfold okCells; conv => whnf) | (unfold liveTo; conv => whnf) | exact Nat.zero_lt_succ _))
          · (conv => whnf)
            refine split_intro (fun h1 => ?_) (fun h1 => ?_)
            · have hlt1 : i < N.length := by have := of_decide_eq_true h1; simp at this; omega
              obtain ⟨s, hs1⟩ := exI hlt1
              have hfl : ((N.take i).filter p).length ≤ i := by have := List.length_filter_le p (N.take i); rw [List.length_take] at this; omega
              have hst := filter_step (p := p) hs1
              cases i with
              | zero =>
                (conv => whnf)
                refine ⟨_, ⟨by omega, getMap hs1⟩, ?_⟩
                (conv => whnf)
                ((refine CallLeaf.o [1536, 3616] (by (repeat' (first | exact ArgsTo.nil | refine ArgsTo.cons ?_ ?_ | exact ArgTo.mk' rfl (Wk.refl _) | exact ArgTo.mk' rfl Wk.nilm | exact ArgTo.mk' rfl (Wk.int (by simp)) | exact ArgTo.mk' rfl (Wk.list _ _) | exact ArgTo.mk' rfl (Wk.agg (by (repeat' (first | exact Wks.nil | refine Wks.cons ?_ ?_ | exact Wk.refl _ | exact Wk.nilm | exact Wk.list _ _  | exact Wk.natN rfl | refine Wk.agg ?_))))))) (B3 s) rfl rfl (by (repeat' (first | exact trivial | exact rfl | refine And.intro ?_ ?_))) (by (repeat' (first | exact trivial | exact rfl | refine And.intro ?_ ?_))) (by (repeat' (first | exact trivial | exact rfl | refine And.intro ?_ ?_))) rfl rfl ?_); ((conv => whnf)); (refine CallLeaf.w (by (repeat' (first | exact ArgsTo.nil | refine ArgsTo.cons ?_ ?_ | exact ArgTo.mk' rfl (Wk.refl _) | exact ArgTo.mk' rfl Wk.nilm | exact ArgTo.mk' rfl (Wk.int (by simp)) | exact ArgTo.mk' rfl (Wk.list _ _) | exact ArgTo.mk' rfl (Wk.agg (by (repeat' (first | exact Wks.nil | refine Wks.cons ?_ ?_ | exact Wk.refl _ | exact Wk.nilm | exact Wk.list _ _  | exact Wk.natN rfl | refine Wk.agg ?_))))))) (wanted_ (all (Sy.of (Us (l.take (k + 1))) s))) rfl ?_); ((conv => whnf)); (refine split_intro (fun h2 => by ((have hp : p s = true := (hkw s).trans h2); (have hat := filter_at hs1 hp); (have hcl := (List.getElem?_eq_some_iff.1 hat).1); (rw [if_pos hp] at hst); ((conv => whnf)); (refine split_intro (fun h => absurd h (by (intro hc; have hc' := of_decide_eq_true hc; rw [List.length_map] at hc'; omega))) (fun _ => ?_)); ((conv => whnf)); (refine ⟨_, ⟨by omega, getMap hat⟩, ?_⟩); ((conv => whnf)); (refine ⟨_, ⟨by omega, getMap hs1⟩, ?_⟩); ((conv => whnf)); (refine split_intro (fun h => absurd h (by simp)) (fun _ => ?_)); ((conv => whnf)); (refine ⟨_, add64 (c := ((((N.take 0).filter p).length + 1 : Nat) : Int)) (by (try simp only []); omega) (by omega), ?_⟩); ((conv => whnf)); (refine ⟨_, add64 (c := ((0 + 1 : Nat) : Int)) (by (try simp only []); omega) (by omega), ?_⟩); ((conv => whnf)); (refine ⟨0 + 1, ⟨by omega, by simp only []; omega⟩, ?_⟩); (dsimp only); (rw [hst, List.length_append]); ((repeat' (first | exact trivial | exact Wk.refl _ | exact ObWk.refl _ | exact rfl | exact ⟨_, rfl⟩ | exact Nat.zero_lt_one | refine And.intro ?_ ?_ | unfold okTo | (unfold okO; conv => whnf) | (unfold okS; conv => whnf) | (unfold SlotOk; conv => whnf) | (unfold ObjOk; conv => whnf) | (unfold okCells; conv => whnf) | (unfold liveTo; conv => whnf) | exact Nat.zero_lt_succ _))))) (fun h2 => by ((have hp : ¬ p s = true := (by rw [hkw s, h2]; simp)); (rw [if_neg hp, List.append_nil] at hst); ((conv => whnf)); (refine ⟨_, add64 (c := ((0 + 1 : Nat) : Int)) (by (try simp only []); omega) (by omega), ?_⟩); ((conv => whnf)); (refine ⟨0 + 1, ⟨by omega, by simp only []; omega⟩, ?_⟩); (dsimp only); (rw [hst]); ((repeat' (first | exact trivial | exact Wk.refl _ | exact ObWk.refl _ | exact rfl | exact ⟨_, rfl⟩ | exact Nat.zero_lt_one | refine And.intro ?_ ?_ | unfold okTo | (unfold okO; conv => whnf) | (unfold okS; conv => whnf) | (unfold SlotOk; conv => whnf) | (unfold ObjOk; conv => whnf) | (unfold okCells; conv => whnf) | (unfold liveTo; conv => whnf) | exact Nat.zero_lt_succ _)))))))
              | succ i =>
                obtain ⟨s0, hs0⟩ := exI (l := N) (k := i) (by omega)
                have hlt2 : Wt.lt s0 s = true := by
                  have := List.pairwise_iff_getElem.1 hs i (i + 1) (by omega) hlt1 (by omega)
                  rw [List.getElem?_eq_getElem (by omega)] at hs0 hs1
                  injection hs0 with hs0; injection hs1 with hs1
                  rw [hs0, hs1] at this; exact this
                (conv => whnf)
                refine split_intro (fun _ => ?_) (fun h => absurd h (by (simp <;> omega)))
                (conv => whnf)
                refine ⟨_, sub64 (c := (i : Int)) (by omega) (by omega), ?_⟩
                (conv => whnf)
                refine ⟨_, ⟨by omega, getMap hs0⟩, ?_⟩
                (conv => whnf)
                refine ⟨_, ⟨by omega, getMap hs1⟩, ?_⟩
                (conv => whnf)
                refine split_intro (fun h => absurd h (by exact geqs hlt2)) (fun _ => ?_)
                (conv => whnf)
                refine ⟨_, ⟨by omega, getMap hs1⟩, ?_⟩
                (conv => whnf)
                ((refine CallLeaf.o [1536, 3616] (by (repeat' (first | exact ArgsTo.nil | refine ArgsTo.cons ?_ ?_ | exact ArgTo.mk' rfl (Wk.refl _) | exact ArgTo.mk' rfl Wk.nilm | exact ArgTo.mk' rfl (Wk.int (by simp)) | exact ArgTo.mk' rfl (Wk.list _ _) | exact ArgTo.mk' rfl (Wk.agg (by (repeat' (first | exact Wks.nil | refine Wks.cons ?_ ?_ | exact Wk.refl _ | exact Wk.nilm | exact Wk.list _ _  | exact Wk.natN rfl | refine Wk.agg ?_))))))) (B3 s) rfl rfl (by (repeat' (first | exact trivial | exact rfl | refine And.intro ?_ ?_))) (by (repeat' (first | exact trivial | exact rfl | refine And.intro ?_ ?_))) (by (repeat' (first | exact trivial | exact rfl | refine And.intro ?_ ?_))) rfl rfl ?_); ((conv => whnf)); (refine CallLeaf.w (by (repeat' (first | exact ArgsTo.nil | refine ArgsTo.cons ?_ ?_ | exact ArgTo.mk' rfl (Wk.refl _) | exact ArgTo.mk' rfl Wk.nilm | exact ArgTo.mk' rfl (Wk.int (by simp)) | exact ArgTo.mk' rfl (Wk.list _ _) | exact ArgTo.mk' rfl (Wk.agg (by (repeat' (first | exact Wks.nil | refine Wks.cons ?_ ?_ | exact Wk.refl _ | exact Wk.nilm | exact Wk.list _ _  | exact Wk.natN rfl | refine Wk.agg ?_))))))) (wanted_ (all (Sy.of (Us (l.take (k + 1))) s))) rfl ?_); ((conv => whnf)); (refine split_intro (fun h2 => by ((have hp : p s = true := (hkw s).trans h2); (have hat := filter_at hs1 hp); (have hcl := (List.getElem?_eq_some_iff.1 hat).1); (rw [if_pos hp] at hst); ((conv => whnf)); (refine split_intro (fun h => absurd h (by (intro hc; have hc' := of_decide_eq_true hc; rw [List.length_map] at hc'; omega))) (fun _ => ?_)); ((conv => whnf)); (refine ⟨_, ⟨by omega, getMap hat⟩, ?_⟩); ((conv => whnf)); (refine ⟨_, ⟨by omega, getMap hs1⟩, ?_⟩); ((conv => whnf)); (refine split_intro (fun h => absurd h (by simp)) (fun _ => ?_)); ((conv => whnf)); (refine ⟨_, add64 (c := ((((N.take (i + 1)).filter p).length + 1 : Nat) : Int)) (by (try simp only []); omega) (by omega), ?_⟩); ((conv => whnf)); (refine ⟨_, add64 (c := (((i + 1) + 1 : Nat) : Int)) (by (try simp only []); omega) (by omega), ?_⟩); ((conv => whnf)); (refine ⟨(i + 1) + 1, ⟨by omega, by simp only []; omega⟩, ?_⟩); (dsimp only); (rw [hst, List.length_append]); ((repeat' (first | exact trivial | exact Wk.refl _ | exact ObWk.refl _ | exact rfl | exact ⟨_, rfl⟩ | exact Nat.zero_lt_one | refine And.intro ?_ ?_ | unfold okTo | (unfold okO; conv => whnf) | (unfold okS; conv => whnf) | (unfold SlotOk; conv => whnf) | (unfold ObjOk; conv => whnf) | (unfold okCells; conv => whnf) | (unfold liveTo; conv => whnf) | exact Nat.zero_lt_succ _))))) (fun h2 => by ((have hp : ¬ p s = true := (by rw [hkw s, h2]; simp)); (rw [if_neg hp, List.append_nil] at hst); ((conv => whnf)); (refine ⟨_, add64 (c := (((i + 1) + 1 : Nat) : Int)) (by (try simp only []); omega) (by omega), ?_⟩); ((conv => whnf)); (refine ⟨(i + 1) + 1, ⟨by omega, by simp only []; omega⟩, ?_⟩); (dsimp only); (rw [hst]); ((repeat' (first | exact trivial | exact Wk.refl _ | exact ObWk.refl _ | exact rfl | exact ⟨_, rfl⟩ | exact Nat.zero_lt_one | refine And.intro ?_ ?_ | unfold okTo | (unfold okO; conv => whnf) | (unfold okS; conv => whnf) | (unfold SlotOk; conv => whnf) | (unfold ObjOk; conv => whnf) | (unfold okCells; conv => whnf) | (unfold liveTo; conv => whnf) | exact Nat.zero_lt_succ _)))))))
            · have hge1 : N.length ≤ i := by have := of_decide_eq_false h1; simp at this; omega
              (conv => whnf)
              exact Wk.bool (by simp [List.take_of_length_le hge1])
end Go.Proofs.YtdlcaoobaejlpaaDoor
