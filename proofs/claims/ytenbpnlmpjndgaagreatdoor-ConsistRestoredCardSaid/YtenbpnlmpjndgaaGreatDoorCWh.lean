/- Consistent archives: complete ones, restored ones. No condition. -/
import Derived.Test.YtenbpnlmpjndgaaGreatDoorCAc
import Derived.Test.YtenbpnlmpjndgaaGreatDoorCWg
set_option linter.unusedVariables false
set_option linter.unusedSimpArgs false
namespace Go.Proofs.YtenbpnlmpjndgaaGreatDoor.H
open Go Go.AL Go.AL.Hd Go.AL.Ln Go.AL.Ar Go.AL.Cn
open Go.AL.Sc (Mem LM OkM defsOf View LD)
set_option maxRecDepth 100000
set_option maxHeartbeats 8000000
theorem okM_fit {x : Mem} (h : fitM x) (hn : x.name.length ≤ 1000000) (hd : x.data.length ≤ 1000000) : OkM x := by
 obtain ⟨_, b1, b2, b3, b4, _⟩ := encR_bd h.2
 exact ⟨by omega, by omega, by have : x.time ≤ 1000000000000 := b1; omega, by have : x.uid ≤ 1000000000000 := b2; omega, by have : x.gid ≤ 1000000000000 := b3; omega, by have : x.mode ≤ 1000000000000 := b4; omega⟩
theorem ccomplete_ [Go.AL.MX] (l : List Mem) (m : Str) (ho : ∀ x ∈ l, OkM x) : FCall Tryz.prog Gl 4 [LM l, LB m] [] (vB true) [] := by
 refine FCall.enterL hT hmix [] Tryz.func4 rfl rfl rfl fun hbd => ?_
 (conv => whnf)
 refine CallLeaf.wa (cawake_) rfl ?_
 (conv => whnf)
 refine CallLeaf.wa (rfew4_ l) rfl ?_
 cases hfew : fewL4 l with
 | false => ((conv => whnf); refine CallLeaf.wa (cawake_) rfl ?_; (conv => whnf); exact Wk.refl _)
 | true =>
  (conv => whnf)
  refine split_intro (fun h1 => ?_) (fun h1 => ?_)
  ·((conv => whnf); refine CallLeaf.wa (cawake_) rfl ?_; (conv => whnf); exact Wk.refl _)
  ·have h1' : m.length ≤ 1000 := by have := of_decide_eq_false h1; simp only [List.length_map] at this; omega
   obtain ⟨hl, _⟩ := fewL4_of hfew
   have C := rcomplete_ l hl ho
   by_cases hz : (compR l).2.2.2 = 0
   ·obtain ⟨hf, hc⟩ := comp_ok hz
    rw [hc] at C
    have hS := Small.of hl hf
    have o2 := open_comp hS (offsC_le hl)
    have l2 := wrP_le2 hl (hmN l) (Ap.encB (idxC l))
    have l3 : (Ap.encB (idxC l)).length ≤ 100004 := by rw [encB_len _ _ (idxC_names _)]; exact idx0_size hl
    have P3 := copen_ (compB l) (by show (wrP _ _ _).length ≤ _; omega)
    rw [o2] at P3
    have SM := sameMs_ l l
    rw [decide_eq_true rfl] at SM
    have W := rwrite_ true m l hl ho (by omega)
    rw [wrR_fit hf] at W
    have l4 := wrP_le2 hl true m
    have ht := tab_few hl
    have hp := parse_write (hm := true) (m := m) hf (by omega) (by omega)
    rw [if_pos rfl] at hp
    have A := rparse4_ (wrP true m l) (by omega)
    have oa := okA_arc (b := wrP true m l) (by omega)
    rw [hp] at A oa
    have I := ridx_ _ (oa rfl)
    obtain ⟨oo1, oo2⟩ := open_other hS (m := m) (by omega) (offsW_le hl true (by omega))
    have P5 := copen_ (wrP true m l) (by omega)
    have hfi := idx_fit l (offsW true m l) (offsW_le hl true (by omega))
    have hnm : (idxP l (offsW true m l)).map (·.1) = (idx0 l).map (·.1) := by
     rw [idx0_names, idx_names l _ (by rw [offsW_len]; exact Nat.le_refl _)]
    have hel : (Ap.encB (idxP l (offsW true m l))).length ≤ 100004 := by rw [encB_len _ _ hnm]; exact idx0_size hl
    have EN := O.rencode_ (idxP l (offsW true m l)) (by omega)
    have hER : O.encR (idxP l (offsW true m l)) = (Ap.encB (idxP l (offsW true m l)), 0) := by simp [O.encR, hfi]
    rw [hER] at EN
    have SE := O.same_ m (Ap.encB (idxP l (offsW true m l)))
    replace A : FCall Tryz.prog Gl 23 [LB (wrP true m l)] [] (.tuple [.agg [vB true, LB m, .list .any (l.map eMn), .list .any ((offsW true m l).map eO)], vI (0 : Nat), vI 0]) [] := A
    replace I : FCall Tryz.prog Gl 16 [.agg [vB true, LB m, .list .any (l.map eMn), .list .any ((offsW true m l).map eO)]] [] (O.LEn (idxP l (offsW true m l))) [] := I
    revert C P3 W A I P5 oo1 oo2 EN SE
    generalize Ap.encB (idxP l (offsW true m l)) = want
    generalize idxP l (offsW true m l) = ix
    generalize offsW true m l = os
    generalize openP (wrP true m l) = q
    generalize wrP true m l = wb
    generalize compB l = cb
    generalize idxC l = ic
    generalize offsC l = oc
    obtain ⟨⟨vm, vd⟩, n, g⟩ := q
    intro C P3 W oo1 oo2 P5 EN SE A I
    (conv => whnf)
    refine CallLeaf.wa (C) rfl ?_
    (conv => whnf)
    refine CallLeaf.wa (P3) rfl ?_
    (conv => whnf)
    refine CallLeaf.w (ArgsTo.cons (ArgTo.mk' rfl (mem_wk _ l)) (by (repeat' (first | exact ArgsTo.nil | refine ArgsTo.cons ?_ ?_ | exact ArgTo.mk' rfl (Wk.refl _) | exact ArgTo.mk' rfl Wk.nilm | exact ArgTo.mk' rfl (Wk.int (by simp)) | exact ArgTo.mk' rfl (Wk.list _ _) | exact ArgTo.mk' rfl (Wk.agg (by (repeat' (first | exact Wks.nil | refine Wks.cons ?_ ?_ | exact Wk.refl _ | exact Wk.nilm | exact Wk.list _ _  | exact Wk.natN rfl | refine Wk.agg ?_)))))))) SM rfl ?_
    (conv => whnf)
    refine split_intro (fun h => absurd h (by simp)) (fun _ => ?_)
    (conv => whnf)
    refine CallLeaf.wa (W) rfl ?_
    (conv => whnf)
    refine CallLeaf.wa (A) rfl ?_
    (conv => whnf)
    refine CallLeaf.wa (I) rfl ?_
    (conv => whnf)
    refine CallLeaf.wa (EN) rfl ?_
    (conv => whnf)
    refine CallLeaf.wa (P5) rfl ?_
    (conv => whnf)
    refine CallLeaf.wa (SE) rfl ?_
    (conv => whnf)
    replace oo1 : g = 0 ↔ m = want := oo1
    replace oo2 : g = 0 ∨ g = 8 ∨ g = 16 := oo2
    have hb : ((g == 0) == decide (m = want)) = true := by
     by_cases hm : m = want
     ·have := oo1.2 hm; simp [hm, this]
     ·have : ¬ g = 0 := fun h => hm (oo1.1 h)
      simp [hm, this]
    refine split_intro (fun _ => ?_) (fun h => absurd h (by intro hx; exact Bool.noConfusion (hb.symm.trans hx)))
    (conv => whnf)
    refine split_intro (fun h5 => ?_) (fun h5 => ?_)
    ·(conv => whnf)
     exact Wk.refl _
    ·have h5' : ¬ g = 0 := by simpa using h5
     (conv => whnf)
     refine split_intro (fun h6 => ?_) (fun h6 => ?_)
     ·(conv => whnf)
      exact Wk.refl _
     ·have h6' : ¬ g = 8 := by simpa using h6
      have h7 : g = 16 := by omega
      (conv => whnf)
      exact Wk.bool (by simp [h7])
   ·revert C
    generalize compR l = q at *
    obtain ⟨q1, q2, q3, q4⟩ := q
    intro C
    replace hz : ¬ q4 = 0 := hz
    (conv => whnf)
    refine CallLeaf.wa (C) rfl ?_
    (conv => whnf)
    refine split_intro (fun _ => ?_) (fun h => absurd h (by simpa using hz))
    (conv => whnf)
    exact Wk.refl _
theorem crestored_ [Go.AL.MX] (b : Str) : FCall Tryz.prog Gl 7 [LB b] [] (vB true) [] := by
 refine FCall.enterL hT hmix [] Tryz.func7 rfl rfl rfl fun hbd => ?_
 (conv => whnf)
 refine CallLeaf.wa (cawake_) rfl ?_
 (conv => whnf)
 refine split_intro (fun h1 => ?_) (fun h1 => ?_)
 ·((conv => whnf); refine CallLeaf.wa (cawake_) rfl ?_; (conv => whnf); exact Wk.refl _)
 ·have h1' : b.length ≤ 10000 := by have := of_decide_eq_false h1; simp only [List.length_map] at this; omega
  have P := copen_ b (by omega)
  by_cases hz : (openP b).2.2 = 0
  ·obtain ⟨s, s1, s2, s3, s4⟩ := open_ok hz
   rw [s3] at P
   have hfw := rfew4_ s.ms
   revert P hfw s4
   generalize s.ms = l
   intro P s4 hfw
   (conv => whnf)
   refine CallLeaf.wa (P) rfl ?_
   (conv => whnf)
   refine CallLeaf.w (ArgsTo.cons (ArgTo.mk' rfl (mem_wk _ l)) (by (repeat' (first | exact ArgsTo.nil | refine ArgsTo.cons ?_ ?_ | exact ArgTo.mk' rfl (Wk.refl _) | exact ArgTo.mk' rfl Wk.nilm | exact ArgTo.mk' rfl (Wk.int (by simp)) | exact ArgTo.mk' rfl (Wk.list _ _) | exact ArgTo.mk' rfl (Wk.agg (by (repeat' (first | exact Wks.nil | refine Wks.cons ?_ ?_ | exact Wk.refl _ | exact Wk.nilm | exact Wk.list _ _  | exact Wk.natN rfl | refine Wk.agg ?_)))))))) hfw rfl ?_
   cases hfew : fewL4 l with
   | false =>
    (conv => whnf)
    exact Wk.refl _
   | true =>
    obtain ⟨hl, _⟩ := fewL4_of hfew
    have ho : ∀ x ∈ l, OkM x := fun x hx => okM_fit (s4 x hx) (by have := (hl.d x hx).1; omega) (by have := (hl.d x hx).2; omega)
    have hS := Small.of hl s4
    have C := rcomplete_ l hl ho
    rw [comp_fit s4] at C
    have o2 := open_comp hS (offsC_le hl)
    have l2 := wrP_le2 hl (hmN l) (Ap.encB (idxC l))
    have l3 : (Ap.encB (idxC l)).length ≤ 100004 := by rw [encB_len _ _ (idxC_names _)]; exact idx0_size hl
    have P3 := copen_ (compB l) (by show (wrP _ _ _).length ≤ _; omega)
    rw [o2] at P3
    have SV := sameV_ (viewP l) (viewP l)
    rw [decide_eq_true rfl, decide_eq_true rfl] at SV
    revert C P3
    generalize compB l = cb
    generalize idxC l = ic
    generalize offsC l = oc
    intro C P3
    (conv => whnf)
    refine CallLeaf.w (ArgsTo.cons (ArgTo.mk' rfl (mem_wk _ l)) (by (repeat' (first | exact ArgsTo.nil | refine ArgsTo.cons ?_ ?_ | exact ArgTo.mk' rfl (Wk.refl _) | exact ArgTo.mk' rfl Wk.nilm | exact ArgTo.mk' rfl (Wk.int (by simp)) | exact ArgTo.mk' rfl (Wk.list _ _) | exact ArgTo.mk' rfl (Wk.agg (by (repeat' (first | exact Wks.nil | refine Wks.cons ?_ ?_ | exact Wk.refl _ | exact Wk.nilm | exact Wk.list _ _  | exact Wk.natN rfl | refine Wk.agg ?_)))))))) C rfl ?_
    (conv => whnf)
    refine CallLeaf.wa (P3) rfl ?_
    (conv => whnf)
    refine CallLeaf.wa (cview_ (l.map eMn) ((viewP l).defs.map fun d => [LSn d])) rfl ?_
    (conv => whnf)
    refine CallLeaf.wa (cview_ (l.map eMn) ((viewP l).defs.map fun d => [LSn d])) rfl ?_
    (conv => whnf)
    refine CallLeaf.w (ArgsTo.cons (ArgTo.mk' rfl (view_wk (viewP l) _ _)) (ArgsTo.cons (ArgTo.mk' rfl (view_wk (viewP l) _ _)) ArgsTo.nil)) SV rfl ?_
    (conv => whnf)
    exact Wk.refl _
  ·revert P
   generalize openP b = q at *
   obtain ⟨⟨vm, vd⟩, n, e⟩ := q
   intro P
   replace hz : ¬ e = 0 := hz
   (conv => whnf)
   refine CallLeaf.wa (P) rfl ?_
   (conv => whnf)
   refine split_intro (fun _ => ?_) (fun h => absurd h (by simpa using hz))
   (conv => whnf)
   exact Wk.refl _
end Go.Proofs.YtenbpnlmpjndgaaGreatDoor.H
