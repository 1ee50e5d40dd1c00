/- Headers: decoding. No condition. -/
import Derived.Test.YtenbpnlmpjndgaaGreatDoorCAc
import Derived.Test.YtenbpnlmpjndgaaGreatDoorCWb
import Derived.Test.YtenbpnlmpjndgaaGreatDoorCPa
set_option linter.unusedVariables false
set_option linter.unusedSimpArgs false
namespace Go.Proofs.YtenbpnlmpjndgaaGreatDoor.H
open Go Go.AL Go.AL.Hd
set_option maxRecDepth 100000
set_option maxHeartbeats 16000000
abbrev hN (nm : Str) (a1 a2 a3 a4 a5 : Nat) (k : Nat) : Hdr := ⟨nm, bif Nat.blt 0 k then a1 else 0, bif Nat.blt 1 k then a2 else 0, bif Nat.blt 2 k then a3 else 0, bif Nat.blt 3 k then a4 else 0, bif Nat.blt 4 k then a5 else 0⟩
abbrev offN : Nat → Nat
 | 0 => 16
 | 1 => 28
 | 2 => 34
 | 3 => 40
 | 4 => 48
 | _ => 58
theorem num_f {b : Nat} {l : Str} (h1 : 1 ≤ l.length) (h2 : l.length ≤ 18) : (numR b l false).2 = false → (parseR b l).2 = 3 := by
 have e : parseR b l = opR (pf b l) := by unfold parseR; rw [if_neg (by omega)]
 simp only [numR, e]
 cases pf b l with
 | none => intro _; rfl
 | some n => intro h; simp [opR] at h
theorem hdecode_ [Go.AL.MX] (l : List UInt8) : FCall Tryz.prog Gl 75 [LB l] [] (.tuple [.agg (decR l).1.enc, vI (decR l).2]) [] := by
 refine FCall.enterL hT hmix [] Tryz.func75 rfl rfl rfl fun hbd => ?_
 have ha := bds_list hbd (.head _)
 (conv => whnf)
 refine split_intro (fun g1 => ?_) (fun g1 => ?_)
 ·have e : decR l = (hdr0, 2) := by have := of_decide_eq_true g1; simp only [List.length_map] at this; unfold decR; rw [if_pos (by omega)]
  rw [e]
  (conv => whnf)
  refine Wk.tuple (Wks.cons (Wk.refl _) (Wks.cons (Wk.refl _) Wks.nil))
 ·have g1' := of_decide_eq_false g1
  simp only [List.length_map] at g1'
  obtain ⟨x, hx⟩ : ∃ x, l[58]? = some x := ⟨_, List.getElem?_eq_getElem (show 58 < l.length by omega)⟩
  obtain ⟨y, hy⟩ : ∃ y, l[59]? = some y := ⟨_, List.getElem?_eq_getElem (show 59 < l.length by omega)⟩
  have em : prt l 58 60 = [x, y] := by
   have h2 : (prt l 58 60).length = 2 := prt_len (by omega) (by omega)
   have e0 : (prt l 58 60)[0]? = some x := by rw [prt, List.getElem?_drop, List.getElem?_take, if_pos (by omega)]; exact hx
   have e1 : (prt l 58 60)[1]? = some y := by rw [prt, List.getElem?_drop, List.getElem?_take, if_pos (by omega)]; exact hy
   match hp : prt l 58 60, h2 with
   | [p, q], _ => rw [hp] at e0 e1; simp at e0 e1; rw [e0, e1]
  (conv => whnf)
  refine ⟨(prt l 58 60).map byteD, ⟨by omega, by omega, by rw [List.length_map]; omega, (fun q hq => by obtain ⟨y, _, rfl⟩ := List.mem_map.1 hq; rfl), by simp [prt, List.map_take, List.map_drop]⟩, ?_⟩
  (conv => whnf)
  refine ⟨prt l 58 60, rfl, ?_⟩
  rw [em]
  (conv => whnf)
  refine split_intro (fun g2 => ?_) (fun g2 => ?_)
  ·have e : decR l = (hdr0, 4) := by
    unfold decR; rw [if_neg (by omega), if_neg (fun h => ?_)]
    rw [hx, hy] at h
    obtain ⟨h1, h2⟩ := h
    injection h1 with h1; injection h2 with h2; subst h1; subst h2
    exact absurd g2 (by decide)
   rw [e]
   (conv => whnf)
   refine Wk.tuple (Wks.cons (Wk.refl _) (Wks.cons (Wk.refl _) Wks.nil))
  ·have hxy : x = 96 ∧ y = 10 := by
    have h3 := of_decide_eq_true (show decide (([x, y] : List UInt8) = [96, 10]) = true by simpa using g2)
    simpa using h3
   obtain ⟨rfl, rfl⟩ := hxy
   have T := trim_ (l.take 16) (by rw [List.length_take]; omega)
   have hnl : (trimR (l.take 16)).length ≤ 16 := by
    have := (List.dropWhile_sublist (fun c : UInt8 => c == 32) (l := (l.take 16).reverse)).length_le
    simp only [trimR, List.length_reverse, List.length_take] at this ⊢
    omega
   (conv => whnf)
   refine ⟨(l.take 16).map byteD, ⟨by omega, by omega, by rw [List.length_map]; omega, (fun q hq => by obtain ⟨y, _, rfl⟩ := List.mem_map.1 hq; rfl), by simp [List.map_take]⟩, ?_⟩
   (conv => whnf)
   refine ⟨l.take 16, rfl, ?_⟩
   (conv => whnf)
   refine CallLeaf.wa (T) rfl ?_
   have e : decR l = decR l := rfl
   conv at e => rhs; unfold decR; rw [if_neg (show ¬ l.length < 60 by omega), if_pos (show l[58]? = some 96 ∧ l[59]? = some 10 from ⟨hx, hy⟩)]
   rw [e]
   clear e T
   revert hnl
   generalize trimR (l.take 16) = nm
   intro hnl
   (conv => whnf)
   refine CallLeaf.wa (hfits_ nm (by omega)) rfl ?_
   (conv => whnf)
   cases hf : fitN nm with
   | false =>
    simp only [Bool.false_eq_true, if_false]
    (conv => whnf)
    refine Wk.tuple (Wks.cons (Wk.refl _) (Wks.cons (Wk.refl _) Wks.nil))
   | true =>
    simp only [if_true]
    (conv => whnf)
    refine CallLeaf.wa (fields_) rfl ?_
    (conv => whnf)
    have L1 : (prt l 16 28).length = 12 := prt_len (by omega) (by omega)
    have L2 : (prt l 28 34).length = 6 := prt_len (by omega) (by omega)
    have L3 : (prt l 34 40).length = 6 := prt_len (by omega) (by omega)
    have L4 : (prt l 40 48).length = 8 := prt_len (by omega) (by omega)
    have L5 : (prt l 48 58).length = 10 := prt_len (by omega) (by omega)
    obtain ⟨p1, hp1⟩ : ∃ p, p = numR 10 (prt l 16 28) (decide (nm = [47, 47])) := ⟨_, rfl⟩
    obtain ⟨p2, hp2⟩ : ∃ p, p = numR 10 (prt l 28 34) (decide (nm = [47, 47])) := ⟨_, rfl⟩
    obtain ⟨p3, hp3⟩ : ∃ p, p = numR 10 (prt l 34 40) (decide (nm = [47, 47])) := ⟨_, rfl⟩
    obtain ⟨p4, hp4⟩ : ∃ p, p = numR 8 (prt l 40 48) (decide (nm = [47, 47])) := ⟨_, rfl⟩
    obtain ⟨p5, hp5⟩ : ∃ p, p = numR 10 (prt l 48 58) false := ⟨_, rfl⟩
    rw [← hp1, ← hp2, ← hp3, ← hp4, ← hp5]
    refine LWp.loop hT hmix [] (fun k : Nat => [(32, vI k), (5, vI (offN k))]) (fun k => [(2600, .cells (hN nm p1.1 p2.1 p3.1 p4.1 p5.1 k).enc)]) (fun k => k ≤ 5 ∧ (0 < k → p1.2 = true) ∧ (1 < k → p2.2 = true) ∧ (2 < k → p3.2 = true) ∧ (3 < k → p4.2 = true) ∧ (4 < k → p5.2 = true)) (fun k => 5 - k) 0 ⟨by omega, by omega, by omega, by omega, by omega, by omega⟩ ?_
    (conv => whnf)
    refine ⟨?_, fun k ⟨hk, i1, i2, i3, i4, i5⟩ => ?_⟩
    ·(repeat' (first | exact trivial | exact Wk.refl _ | exact ObWk.refl _ | exact rfl | exact ⟨_, rfl⟩ | exact Nat.zero_lt_one | refine And.intro ?_ ?_ | unfold okTo | (unfold okO; conv => whnf) | (unfold okS; conv => whnf) | (unfold SlotOk; conv => whnf) | (unfold ObjOk; conv => whnf) | (unfold okCells; conv => whnf) | (unfold liveTo; conv => whnf) | exact Nat.zero_lt_succ _))
    ·rcases (show k = 0 ∨ k = 1 ∨ k = 2 ∨ k = 3 ∨ k = 4 ∨ k = 5 by omega) with rfl | rfl | rfl | rfl | rfl | rfl
     ·(conv => whnf)
      refine ⟨_, ⟨by decide, rfl⟩, ?_⟩
      (conv => whnf)
      refine ⟨_, add64 (c := ((28 : Nat) : Int)) rfl (by omega), ?_⟩
      (conv => whnf)
      refine ⟨(prt l 16 28).map byteD, ⟨by decide, by decide, by rw [List.length_map]; show ((28 : Nat) : Int) ≤ _; omega, (fun q hq => by obtain ⟨y, _, rfl⟩ := List.mem_map.1 hq; rfl), by show ((l.map byteD).take 28).drop 16 = _; simp [prt, List.map_take, List.map_drop]⟩, ?_⟩
      (conv => whnf)
      refine ⟨_, add64 (c := ((28 : Nat) : Int)) rfl (by omega), ?_⟩
      (conv => whnf)
      refine split_intro (fun bq => ?_) (fun bq => ?_)
      ·have hb : nm = [47, 47] := of_decide_eq_true bq
       have hpv : p1 = (0, decide (prt l 16 28 = sp (prt l 16 28).length)) := by rw [hp1, decide_eq_true hb]; rfl
       have BL := blank_ (prt l 16 28)
       cases hall : (prt l 16 28).all (· == 32) with
       | true =>
        have h2 : p1.2 = true := by rw [hpv]; exact decide_eq_true (all_sp.1 hall)
        have h1 : p1.1 = 0 := by rw [hpv]
        rw [hall] at BL
        (conv => whnf)
        refine CallLeaf.wa (BL) rfl ?_
        (conv => whnf)
        refine ⟨_, add64 (c := ((1 : Nat) : Int)) rfl (by omega), ?_⟩
        (conv => whnf)
        refine ⟨1, ⟨⟨by omega, fun _ => by first | exact h2 | rfl, fun h => absurd h (by omega), fun h => absurd h (by omega), fun h => absurd h (by omega), fun h => absurd h (by omega)⟩, by show 5 - 1 < 5 - 0; omega⟩, ?_⟩
        (repeat' (first | exact trivial | exact Wk.refl _ | exact ObWk.refl _ | exact rfl | exact ⟨_, rfl⟩ | exact Nat.zero_lt_one | refine And.intro ?_ ?_ | unfold okTo | (unfold okO; conv => whnf) | (unfold okS; conv => whnf) | (unfold SlotOk; conv => whnf) | (unfold ObjOk; conv => whnf) | (unfold okCells; conv => whnf) | (unfold liveTo; conv => whnf) | exact Nat.zero_lt_succ _))
        exact Wk.of_eq (show vI ((0 : Nat) : Int) = vI ((p1.1 : Nat) : Int) by rw [h1])
       | false =>
        have h2 : p1.2 = false := by rw [hpv]; exact decide_eq_false (fun h => by rw [all_sp.2 h] at hall; cases hall)
        rw [hall] at BL
        (conv => whnf)
        refine CallLeaf.wa (BL) rfl ?_
        (conv => whnf)
        simp only [h2, Bool.false_and, Bool.and_false, Bool.false_eq_true, if_false]
        (conv => whnf)
        refine Wk.tuple (Wks.cons (Wk.refl _) (Wks.cons (Wk.refl _) Wks.nil))
      ·have nb : decide (nm = [47, 47]) = false := decide_eq_false (of_decide_eq_false bq)
       have hpv : p1 = numR 10 (prt l 16 28) false := by rw [hp1, nb]
       have DP := dparse_ 10 (.inr rfl) (prt l 16 28)
       cases h2 : p1.2 with
       | true =>
        have hz : (parseR 10 (prt l 16 28)).2 = 0 := by rw [hpv] at h2; exact of_decide_eq_true h2
        have h1 : (parseR 10 (prt l 16 28)).1 = p1.1 := by rw [hpv]; rfl
        rw [hz, h1] at DP
        (conv => whnf)
        refine CallLeaf.wa (DP) rfl ?_
        (conv => whnf)
        refine CallLeaf.oa [2600] (at1_ ⟨nm, 0, 0, 0, 0, 0⟩) rfl rfl rfl rfl ?_
        (conv => whnf)
        refine ⟨_, add64 (c := ((1 : Nat) : Int)) rfl (by omega), ?_⟩
        (conv => whnf)
        refine ⟨1, ⟨⟨by omega, fun _ => by first | exact h2 | rfl, fun h => absurd h (by omega), fun h => absurd h (by omega), fun h => absurd h (by omega), fun h => absurd h (by omega)⟩, by show 5 - 1 < 5 - 0; omega⟩, ?_⟩
        (repeat' (first | exact trivial | exact Wk.refl _ | exact ObWk.refl _ | exact rfl | exact ⟨_, rfl⟩ | exact Nat.zero_lt_one | refine And.intro ?_ ?_ | unfold okTo | (unfold okO; conv => whnf) | (unfold okS; conv => whnf) | (unfold SlotOk; conv => whnf) | (unfold ObjOk; conv => whnf) | (unfold okCells; conv => whnf) | (unfold liveTo; conv => whnf) | exact Nat.zero_lt_succ _))
       | false =>
        have hz : (parseR 10 (prt l 16 28)).2 = 3 := num_f (by omega) (by omega) (by rw [← hpv]; exact h2)
        rw [hz] at DP
        (conv => whnf)
        refine CallLeaf.wa (DP) rfl ?_
        (conv => whnf)
        simp only [h2, Bool.false_and, Bool.and_false, Bool.false_eq_true, if_false]
        (conv => whnf)
        refine Wk.tuple (Wks.cons (Wk.refl _) (Wks.cons (Wk.refl _) Wks.nil))
     ·(conv => whnf)
      refine ⟨_, ⟨by decide, rfl⟩, ?_⟩
      (conv => whnf)
      refine ⟨_, add64 (c := ((34 : Nat) : Int)) rfl (by omega), ?_⟩
      (conv => whnf)
      refine ⟨(prt l 28 34).map byteD, ⟨by decide, by decide, by rw [List.length_map]; show ((34 : Nat) : Int) ≤ _; omega, (fun q hq => by obtain ⟨y, _, rfl⟩ := List.mem_map.1 hq; rfl), by show ((l.map byteD).take 34).drop 28 = _; simp [prt, List.map_take, List.map_drop]⟩, ?_⟩
      (conv => whnf)
      refine ⟨_, add64 (c := ((34 : Nat) : Int)) rfl (by omega), ?_⟩
      (conv => whnf)
      refine split_intro (fun bq => ?_) (fun bq => ?_)
      ·have hb : nm = [47, 47] := of_decide_eq_true bq
       have hpv : p2 = (0, decide (prt l 28 34 = sp (prt l 28 34).length)) := by rw [hp2, decide_eq_true hb]; rfl
       have BL := blank_ (prt l 28 34)
       cases hall : (prt l 28 34).all (· == 32) with
       | true =>
        have h2 : p2.2 = true := by rw [hpv]; exact decide_eq_true (all_sp.1 hall)
        have h1 : p2.1 = 0 := by rw [hpv]
        rw [hall] at BL
        (conv => whnf)
        refine CallLeaf.wa (BL) rfl ?_
        (conv => whnf)
        refine ⟨_, add64 (c := ((2 : Nat) : Int)) rfl (by omega), ?_⟩
        (conv => whnf)
        refine ⟨2, ⟨⟨by omega, fun _ => i1 (by omega), fun _ => by first | exact h2 | rfl, fun h => absurd h (by omega), fun h => absurd h (by omega), fun h => absurd h (by omega)⟩, by show 5 - 2 < 5 - 1; omega⟩, ?_⟩
        (repeat' (first | exact trivial | exact Wk.refl _ | exact ObWk.refl _ | exact rfl | exact ⟨_, rfl⟩ | exact Nat.zero_lt_one | refine And.intro ?_ ?_ | unfold okTo | (unfold okO; conv => whnf) | (unfold okS; conv => whnf) | (unfold SlotOk; conv => whnf) | (unfold ObjOk; conv => whnf) | (unfold okCells; conv => whnf) | (unfold liveTo; conv => whnf) | exact Nat.zero_lt_succ _))
        exact Wk.of_eq (show vI ((0 : Nat) : Int) = vI ((p2.1 : Nat) : Int) by rw [h1])
       | false =>
        have h2 : p2.2 = false := by rw [hpv]; exact decide_eq_false (fun h => by rw [all_sp.2 h] at hall; cases hall)
        rw [hall] at BL
        (conv => whnf)
        refine CallLeaf.wa (BL) rfl ?_
        (conv => whnf)
        simp only [h2, Bool.false_and, Bool.and_false, Bool.false_eq_true, if_false]
        (conv => whnf)
        refine Wk.tuple (Wks.cons (Wk.refl _) (Wks.cons (Wk.refl _) Wks.nil))
      ·have nb : decide (nm = [47, 47]) = false := decide_eq_false (of_decide_eq_false bq)
       have hpv : p2 = numR 10 (prt l 28 34) false := by rw [hp2, nb]
       have DP := dparse_ 10 (.inr rfl) (prt l 28 34)
       cases h2 : p2.2 with
       | true =>
        have hz : (parseR 10 (prt l 28 34)).2 = 0 := by rw [hpv] at h2; exact of_decide_eq_true h2
        have h1 : (parseR 10 (prt l 28 34)).1 = p2.1 := by rw [hpv]; rfl
        rw [hz, h1] at DP
        (conv => whnf)
        refine CallLeaf.wa (DP) rfl ?_
        (conv => whnf)
        refine CallLeaf.oa [2600] (at2_ ⟨nm, p1.1, 0, 0, 0, 0⟩) rfl rfl rfl rfl ?_
        (conv => whnf)
        refine ⟨_, add64 (c := ((2 : Nat) : Int)) rfl (by omega), ?_⟩
        (conv => whnf)
        refine ⟨2, ⟨⟨by omega, fun _ => i1 (by omega), fun _ => by first | exact h2 | rfl, fun h => absurd h (by omega), fun h => absurd h (by omega), fun h => absurd h (by omega)⟩, by show 5 - 2 < 5 - 1; omega⟩, ?_⟩
        (repeat' (first | exact trivial | exact Wk.refl _ | exact ObWk.refl _ | exact rfl | exact ⟨_, rfl⟩ | exact Nat.zero_lt_one | refine And.intro ?_ ?_ | unfold okTo | (unfold okO; conv => whnf) | (unfold okS; conv => whnf) | (unfold SlotOk; conv => whnf) | (unfold ObjOk; conv => whnf) | (unfold okCells; conv => whnf) | (unfold liveTo; conv => whnf) | exact Nat.zero_lt_succ _))
       | false =>
        have hz : (parseR 10 (prt l 28 34)).2 = 3 := num_f (by omega) (by omega) (by rw [← hpv]; exact h2)
        rw [hz] at DP
        (conv => whnf)
        refine CallLeaf.wa (DP) rfl ?_
        (conv => whnf)
        simp only [h2, Bool.false_and, Bool.and_false, Bool.false_eq_true, if_false]
        (conv => whnf)
        refine Wk.tuple (Wks.cons (Wk.refl _) (Wks.cons (Wk.refl _) Wks.nil))
     ·(conv => whnf)
      refine ⟨_, ⟨by decide, rfl⟩, ?_⟩
      (conv => whnf)
      refine ⟨_, add64 (c := ((40 : Nat) : Int)) rfl (by omega), ?_⟩
      (conv => whnf)
      refine ⟨(prt l 34 40).map byteD, ⟨by decide, by decide, by rw [List.length_map]; show ((40 : Nat) : Int) ≤ _; omega, (fun q hq => by obtain ⟨y, _, rfl⟩ := List.mem_map.1 hq; rfl), by show ((l.map byteD).take 40).drop 34 = _; simp [prt, List.map_take, List.map_drop]⟩, ?_⟩
      (conv => whnf)
      refine ⟨_, add64 (c := ((40 : Nat) : Int)) rfl (by omega), ?_⟩
      (conv => whnf)
      refine split_intro (fun bq => ?_) (fun bq => ?_)
      ·have hb : nm = [47, 47] := of_decide_eq_true bq
       have hpv : p3 = (0, decide (prt l 34 40 = sp (prt l 34 40).length)) := by rw [hp3, decide_eq_true hb]; rfl
       have BL := blank_ (prt l 34 40)
       cases hall : (prt l 34 40).all (· == 32) with
       | true =>
        have h2 : p3.2 = true := by rw [hpv]; exact decide_eq_true (all_sp.1 hall)
        have h1 : p3.1 = 0 := by rw [hpv]
        rw [hall] at BL
        (conv => whnf)
        refine CallLeaf.wa (BL) rfl ?_
        (conv => whnf)
        refine ⟨_, add64 (c := ((3 : Nat) : Int)) rfl (by omega), ?_⟩
        (conv => whnf)
        refine ⟨3, ⟨⟨by omega, fun _ => i1 (by omega), fun _ => i2 (by omega), fun _ => by first | exact h2 | rfl, fun h => absurd h (by omega), fun h => absurd h (by omega)⟩, by show 5 - 3 < 5 - 2; omega⟩, ?_⟩
        (repeat' (first | exact trivial | exact Wk.refl _ | exact ObWk.refl _ | exact rfl | exact ⟨_, rfl⟩ | exact Nat.zero_lt_one | refine And.intro ?_ ?_ | unfold okTo | (unfold okO; conv => whnf) | (unfold okS; conv => whnf) | (unfold SlotOk; conv => whnf) | (unfold ObjOk; conv => whnf) | (unfold okCells; conv => whnf) | (unfold liveTo; conv => whnf) | exact Nat.zero_lt_succ _))
        exact Wk.of_eq (show vI ((0 : Nat) : Int) = vI ((p3.1 : Nat) : Int) by rw [h1])
       | false =>
        have h2 : p3.2 = false := by rw [hpv]; exact decide_eq_false (fun h => by rw [all_sp.2 h] at hall; cases hall)
        rw [hall] at BL
        (conv => whnf)
        refine CallLeaf.wa (BL) rfl ?_
        (conv => whnf)
        simp only [h2, Bool.false_and, Bool.and_false, Bool.false_eq_true, if_false]
        (conv => whnf)
        refine Wk.tuple (Wks.cons (Wk.refl _) (Wks.cons (Wk.refl _) Wks.nil))
      ·have nb : decide (nm = [47, 47]) = false := decide_eq_false (of_decide_eq_false bq)
       have hpv : p3 = numR 10 (prt l 34 40) false := by rw [hp3, nb]
       have DP := dparse_ 10 (.inr rfl) (prt l 34 40)
       cases h2 : p3.2 with
       | true =>
        have hz : (parseR 10 (prt l 34 40)).2 = 0 := by rw [hpv] at h2; exact of_decide_eq_true h2
        have h1 : (parseR 10 (prt l 34 40)).1 = p3.1 := by rw [hpv]; rfl
        rw [hz, h1] at DP
        (conv => whnf)
        refine CallLeaf.wa (DP) rfl ?_
        (conv => whnf)
        refine CallLeaf.oa [2600] (at3_ ⟨nm, p1.1, p2.1, 0, 0, 0⟩) rfl rfl rfl rfl ?_
        (conv => whnf)
        refine ⟨_, add64 (c := ((3 : Nat) : Int)) rfl (by omega), ?_⟩
        (conv => whnf)
        refine ⟨3, ⟨⟨by omega, fun _ => i1 (by omega), fun _ => i2 (by omega), fun _ => by first | exact h2 | rfl, fun h => absurd h (by omega), fun h => absurd h (by omega)⟩, by show 5 - 3 < 5 - 2; omega⟩, ?_⟩
        (repeat' (first | exact trivial | exact Wk.refl _ | exact ObWk.refl _ | exact rfl | exact ⟨_, rfl⟩ | exact Nat.zero_lt_one | refine And.intro ?_ ?_ | unfold okTo | (unfold okO; conv => whnf) | (unfold okS; conv => whnf) | (unfold SlotOk; conv => whnf) | (unfold ObjOk; conv => whnf) | (unfold okCells; conv => whnf) | (unfold liveTo; conv => whnf) | exact Nat.zero_lt_succ _))
       | false =>
        have hz : (parseR 10 (prt l 34 40)).2 = 3 := num_f (by omega) (by omega) (by rw [← hpv]; exact h2)
        rw [hz] at DP
        (conv => whnf)
        refine CallLeaf.wa (DP) rfl ?_
        (conv => whnf)
        simp only [h2, Bool.false_and, Bool.and_false, Bool.false_eq_true, if_false]
        (conv => whnf)
        refine Wk.tuple (Wks.cons (Wk.refl _) (Wks.cons (Wk.refl _) Wks.nil))
     ·(conv => whnf)
      refine ⟨_, ⟨by decide, rfl⟩, ?_⟩
      (conv => whnf)
      refine ⟨_, add64 (c := ((48 : Nat) : Int)) rfl (by omega), ?_⟩
      (conv => whnf)
      refine ⟨(prt l 40 48).map byteD, ⟨by decide, by decide, by rw [List.length_map]; show ((48 : Nat) : Int) ≤ _; omega, (fun q hq => by obtain ⟨y, _, rfl⟩ := List.mem_map.1 hq; rfl), by show ((l.map byteD).take 48).drop 40 = _; simp [prt, List.map_take, List.map_drop]⟩, ?_⟩
      (conv => whnf)
      refine ⟨_, add64 (c := ((48 : Nat) : Int)) rfl (by omega), ?_⟩
      (conv => whnf)
      refine split_intro (fun bq => ?_) (fun bq => ?_)
      ·have hb : nm = [47, 47] := of_decide_eq_true bq
       have hpv : p4 = (0, decide (prt l 40 48 = sp (prt l 40 48).length)) := by rw [hp4, decide_eq_true hb]; rfl
       have BL := blank_ (prt l 40 48)
       cases hall : (prt l 40 48).all (· == 32) with
       | true =>
        have h2 : p4.2 = true := by rw [hpv]; exact decide_eq_true (all_sp.1 hall)
        have h1 : p4.1 = 0 := by rw [hpv]
        rw [hall] at BL
        (conv => whnf)
        refine CallLeaf.wa (BL) rfl ?_
        (conv => whnf)
        refine ⟨_, add64 (c := ((4 : Nat) : Int)) rfl (by omega), ?_⟩
        (conv => whnf)
        refine ⟨4, ⟨⟨by omega, fun _ => i1 (by omega), fun _ => i2 (by omega), fun _ => i3 (by omega), fun _ => by first | exact h2 | rfl, fun h => absurd h (by omega)⟩, by show 5 - 4 < 5 - 3; omega⟩, ?_⟩
        (repeat' (first | exact trivial | exact Wk.refl _ | exact ObWk.refl _ | exact rfl | exact ⟨_, rfl⟩ | exact Nat.zero_lt_one | refine And.intro ?_ ?_ | unfold okTo | (unfold okO; conv => whnf) | (unfold okS; conv => whnf) | (unfold SlotOk; conv => whnf) | (unfold ObjOk; conv => whnf) | (unfold okCells; conv => whnf) | (unfold liveTo; conv => whnf) | exact Nat.zero_lt_succ _))
        exact Wk.of_eq (show vI ((0 : Nat) : Int) = vI ((p4.1 : Nat) : Int) by rw [h1])
       | false =>
        have h2 : p4.2 = false := by rw [hpv]; exact decide_eq_false (fun h => by rw [all_sp.2 h] at hall; cases hall)
        rw [hall] at BL
        (conv => whnf)
        refine CallLeaf.wa (BL) rfl ?_
        (conv => whnf)
        simp only [h2, Bool.false_and, Bool.and_false, Bool.false_eq_true, if_false]
        (conv => whnf)
        refine Wk.tuple (Wks.cons (Wk.refl _) (Wks.cons (Wk.refl _) Wks.nil))
      ·have nb : decide (nm = [47, 47]) = false := decide_eq_false (of_decide_eq_false bq)
       have hpv : p4 = numR 8 (prt l 40 48) false := by rw [hp4, nb]
       have DP := dparse_ 8 (.inl rfl) (prt l 40 48)
       cases h2 : p4.2 with
       | true =>
        have hz : (parseR 8 (prt l 40 48)).2 = 0 := by rw [hpv] at h2; exact of_decide_eq_true h2
        have h1 : (parseR 8 (prt l 40 48)).1 = p4.1 := by rw [hpv]; rfl
        rw [hz, h1] at DP
        (conv => whnf)
        refine CallLeaf.wa (DP) rfl ?_
        (conv => whnf)
        refine CallLeaf.oa [2600] (at4_ ⟨nm, p1.1, p2.1, p3.1, 0, 0⟩) rfl rfl rfl rfl ?_
        (conv => whnf)
        refine ⟨_, add64 (c := ((4 : Nat) : Int)) rfl (by omega), ?_⟩
        (conv => whnf)
        refine ⟨4, ⟨⟨by omega, fun _ => i1 (by omega), fun _ => i2 (by omega), fun _ => i3 (by omega), fun _ => by first | exact h2 | rfl, fun h => absurd h (by omega)⟩, by show 5 - 4 < 5 - 3; omega⟩, ?_⟩
        (repeat' (first | exact trivial | exact Wk.refl _ | exact ObWk.refl _ | exact rfl | exact ⟨_, rfl⟩ | exact Nat.zero_lt_one | refine And.intro ?_ ?_ | unfold okTo | (unfold okO; conv => whnf) | (unfold okS; conv => whnf) | (unfold SlotOk; conv => whnf) | (unfold ObjOk; conv => whnf) | (unfold okCells; conv => whnf) | (unfold liveTo; conv => whnf) | exact Nat.zero_lt_succ _))
       | false =>
        have hz : (parseR 8 (prt l 40 48)).2 = 3 := num_f (by omega) (by omega) (by rw [← hpv]; exact h2)
        rw [hz] at DP
        (conv => whnf)
        refine CallLeaf.wa (DP) rfl ?_
        (conv => whnf)
        simp only [h2, Bool.false_and, Bool.and_false, Bool.false_eq_true, if_false]
        (conv => whnf)
        refine Wk.tuple (Wks.cons (Wk.refl _) (Wks.cons (Wk.refl _) Wks.nil))
     ·(conv => whnf)
      refine ⟨_, ⟨by decide, rfl⟩, ?_⟩
      (conv => whnf)
      refine ⟨_, add64 (c := ((58 : Nat) : Int)) rfl (by omega), ?_⟩
      (conv => whnf)
      refine ⟨(prt l 48 58).map byteD, ⟨by decide, by decide, by rw [List.length_map]; show ((58 : Nat) : Int) ≤ _; omega, (fun q hq => by obtain ⟨y, _, rfl⟩ := List.mem_map.1 hq; rfl), by show ((l.map byteD).take 58).drop 48 = _; simp [prt, List.map_take, List.map_drop]⟩, ?_⟩
      (conv => whnf)
      refine ⟨_, add64 (c := ((58 : Nat) : Int)) rfl (by omega), ?_⟩
      (conv => whnf)
      refine split_intro (fun bq => ?_) (fun bq => ?_)
      ·skip
       have hpv : p5 = numR 10 (prt l 48 58) false := by exact hp5
       have DP := dparse_ 10 (.inr rfl) (prt l 48 58)
       cases h2 : p5.2 with
       | true =>
        have hz : (parseR 10 (prt l 48 58)).2 = 0 := by rw [hpv] at h2; exact of_decide_eq_true h2
        have h1 : (parseR 10 (prt l 48 58)).1 = p5.1 := by rw [hpv]; rfl
        rw [hz, h1] at DP
        (conv => whnf)
        refine CallLeaf.wa (DP) rfl ?_
        (conv => whnf)
        refine CallLeaf.oa [2600] (at5_ ⟨nm, p1.1, p2.1, p3.1, p4.1, 0⟩) rfl rfl rfl rfl ?_
        (conv => whnf)
        refine ⟨_, add64 (c := ((5 : Nat) : Int)) rfl (by omega), ?_⟩
        (conv => whnf)
        refine ⟨5, ⟨⟨by omega, fun _ => i1 (by omega), fun _ => i2 (by omega), fun _ => i3 (by omega), fun _ => i4 (by omega), fun _ => by first | exact h2 | rfl⟩, by show 5 - 5 < 5 - 4; omega⟩, ?_⟩
        (repeat' (first | exact trivial | exact Wk.refl _ | exact ObWk.refl _ | exact rfl | exact ⟨_, rfl⟩ | exact Nat.zero_lt_one | refine And.intro ?_ ?_ | unfold okTo | (unfold okO; conv => whnf) | (unfold okS; conv => whnf) | (unfold SlotOk; conv => whnf) | (unfold ObjOk; conv => whnf) | (unfold okCells; conv => whnf) | (unfold liveTo; conv => whnf) | exact Nat.zero_lt_succ _))
       | false =>
        have hz : (parseR 10 (prt l 48 58)).2 = 3 := num_f (by omega) (by omega) (by rw [← hpv]; exact h2)
        rw [hz] at DP
        (conv => whnf)
        refine CallLeaf.wa (DP) rfl ?_
        (conv => whnf)
        simp only [h2, Bool.false_and, Bool.and_false, Bool.false_eq_true, if_false]
        (conv => whnf)
        refine Wk.tuple (Wks.cons (Wk.refl _) (Wks.cons (Wk.refl _) Wks.nil))
      ·skip
       have hpv : p5 = numR 10 (prt l 48 58) false := by exact hp5
       have DP := dparse_ 10 (.inr rfl) (prt l 48 58)
       cases h2 : p5.2 with
       | true =>
        have hz : (parseR 10 (prt l 48 58)).2 = 0 := by rw [hpv] at h2; exact of_decide_eq_true h2
        have h1 : (parseR 10 (prt l 48 58)).1 = p5.1 := by rw [hpv]; rfl
        rw [hz, h1] at DP
        (conv => whnf)
        refine CallLeaf.wa (DP) rfl ?_
        (conv => whnf)
        refine CallLeaf.oa [2600] (at5_ ⟨nm, p1.1, p2.1, p3.1, p4.1, 0⟩) rfl rfl rfl rfl ?_
        (conv => whnf)
        refine ⟨_, add64 (c := ((5 : Nat) : Int)) rfl (by omega), ?_⟩
        (conv => whnf)
        refine ⟨5, ⟨⟨by omega, fun _ => i1 (by omega), fun _ => i2 (by omega), fun _ => i3 (by omega), fun _ => i4 (by omega), fun _ => by first | exact h2 | rfl⟩, by show 5 - 5 < 5 - 4; omega⟩, ?_⟩
        (repeat' (first | exact trivial | exact Wk.refl _ | exact ObWk.refl _ | exact rfl | exact ⟨_, rfl⟩ | exact Nat.zero_lt_one | refine And.intro ?_ ?_ | unfold okTo | (unfold okO; conv => whnf) | (unfold okS; conv => whnf) | (unfold SlotOk; conv => whnf) | (unfold ObjOk; conv => whnf) | (unfold okCells; conv => whnf) | (unfold liveTo; conv => whnf) | exact Nat.zero_lt_succ _))
       | false =>
        have hz : (parseR 10 (prt l 48 58)).2 = 3 := num_f (by omega) (by omega) (by rw [← hpv]; exact h2)
        rw [hz] at DP
        (conv => whnf)
        refine CallLeaf.wa (DP) rfl ?_
        (conv => whnf)
        simp only [h2, Bool.false_and, Bool.and_false, Bool.false_eq_true, if_false]
        (conv => whnf)
        refine Wk.tuple (Wks.cons (Wk.refl _) (Wks.cons (Wk.refl _) Wks.nil))
     ·have j1 := i1 (by omega)
      have j2 := i2 (by omega)
      have j3 := i3 (by omega)
      have j4 := i4 (by omega)
      have j5 := i5 (by omega)
      simp only [j1, j2, j3, j4, j5, Bool.and_self, if_true]
      (conv => whnf)
      refine Wk.tuple (Wks.cons (Wk.refl _) (Wks.cons (Wk.refl _) Wks.nil))
end Go.Proofs.YtenbpnlmpjndgaaGreatDoor.H

namespace Go.Proofs.YtenbpnlmpjndgaaGreatDoor.H
open Go Go.AL Go.AL.Hd Go.AL.Ln
set_option maxRecDepth 100000
set_option maxHeartbeats 8000000
theorem lvalid_ [Go.AL.MX] (l : Str) (hl : l.length < 4294967281) : FCall Tryz.prog Gl 78 [sD l] [] (vB (validN l)) [] := by
 have hs := sB_sz l
 have CA := cany3_ l hl
 refine FCall.enterL hT hmix [] Tryz.func78 rfl rfl rfl fun hbd => ?_
 (conv => whnf)
 refine split_intro (fun h1 => ?_) (fun h1 => ?_)
 ·have h1' := of_decide_eq_true h1
  (conv => whnf)
  refine split_intro (fun h2 => ?_) (fun h2 => ?_)
  ·have h2' := of_decide_eq_true h2
   (conv => whnf)
   refine CallLeaf.wa (CA) rfl ?_
   have e : validN l = !(l.any bad3) := by
    unfold validN
    rw [decide_eq_true (show 1 ≤ l.length ∧ l.length ≤ 255 by omega)]; rfl
   rw [e]
   (conv => whnf)
   exact Wk.refl _
  ·have h2' := of_decide_eq_false h2
   have e : validN l = false := by unfold validN; rw [decide_eq_false (by omega)]; rfl
   rw [e]
   (conv => whnf)
   exact Wk.refl _
 ·have h1' := of_decide_eq_false h1
  have e : validN l = false := by unfold validN; rw [decide_eq_false (by omega)]; rfl
  rw [e]
  (conv => whnf)
  exact Wk.refl _
theorem lshort_ [Go.AL.MX] (l : Str) (hl : l.length < 4294967281) : FCall Tryz.prog Gl 80 [sD l] [] (vB (shortN l)) [] := by
 have hs := sB_sz l
 have CA := lvalid_ l hl
 refine FCall.enterL hT hmix [] Tryz.func80 rfl rfl rfl fun hbd => ?_
 (conv => whnf)
 refine CallLeaf.wa (CA) rfl ?_
 cases hv : validN l with
 | false =>
  have e : shortN l = false := by unfold shortN; rw [hv]; rfl
  rw [e]
  (conv => whnf)
  exact Wk.refl _
 | true =>
  have hlen := valid_not hv
  (conv => whnf)
  refine split_intro (fun h2 => ?_) (fun h2 => ?_)
  ·have h2' := of_decide_eq_true h2
   obtain ⟨x, hx, hg⟩ := last_at (l := l) (by omega)
   (conv => whnf)
   refine ⟨_, sub64 (c := (l.length : Int) - 1) (by omega) (by omega), ?_⟩
   (conv => whnf)
   refine ⟨x, ⟨by omega, hx⟩, ?_⟩
   (conv => whnf)
   cases hq : ((x.toNat : Int) != 32) with
   | true =>
    have hx2 : x ≠ 32 := fun e => by subst e; simp at hq
    have e : shortN l = true := by unfold shortN; rw [hv, hg]; simp [hx2]; omega
    rw [e]
    exact Wk.bool rfl
   | false =>
    obtain rfl : x = 32 := O.u8_eq (y := 32) hq
    have e : shortN l = false := by unfold shortN; rw [hg]; simp
    rw [e]
    exact Wk.bool rfl
  ·have h2' := of_decide_eq_false h2
   have e : shortN l = false := by unfold shortN; rw [decide_eq_false (show ¬ l.length ≤ 15 by omega)]; simp
   rw [e]
   (conv => whnf)
   exact Wk.refl _
theorem ext_prt (l : Str) (a b : Nat) : (sB l).extract a b = sB (prt l a b) := by
 apply ByteArray.ext
 apply Array.ext'
 simp only [sB, ByteArray.data_extract, Array.toList_extract, List.extract_eq_take_drop, prt]
 rw [List.drop_take]
theorem sB_inj {a b : Str} (h : sB a = sB b) : a = b := by
 have := congrArg (fun x : ByteArray => x.data.toList) h
 simpa [sB] using this
theorem last_drop {l : Str} (h : 1 ≤ l.length) (x : UInt8) : l.drop (l.length - 1) = [x] ↔ l.getLast? = some x := by
 rcases List.eq_nil_or_concat l with rfl | ⟨a, y, rfl⟩
 ·simp at h
 ·simp
theorem dropLast_take (l : Str) : l.take (l.length - 1) = l.dropLast := (List.dropLast_eq_take).symm
theorem len1 : (sB [47]).size = 1 := rfl
theorem hsuf_ [Go.AL.MX] (l : Str) (hl : l.length < 4294967281) : FCall Tryz.prog Gl 126 [sD l, sD [47]] [] (vB (decide (l.getLast? = some 47))) [] := by
 have hs := sB_sz l
 have h1s := len1
 refine FCall.enterL hT hmix [] Tryz.func126 rfl rfl rfl fun hbd => ?_
 (conv => whnf)
 refine split_intro (fun h1 => ?_) (fun h1 => ?_)
 ·have h1' := of_decide_eq_true h1
  have h1' : 1 ≤ l.length := by omega
  (conv => whnf)
  refine ⟨_, sub64 (c := ((l.length - 1 : Nat) : Int)) (by omega) (by omega), ?_⟩
  (conv => whnf)
  refine ⟨sB (l.drop (l.length - 1)), ⟨by omega, by omega, by omega, by rw [ext_prt]; congr 1; simp only [prt]; rw [hs]; rw [List.take_of_length_le (by omega)]; congr 1⟩, ?_⟩
  (conv => whnf)
  refine Wk.bool ?_
  rw [Bool.eq_iff_iff]
  simp only [decide_eq_true_eq]
  rw [← last_drop h1']
 ·have h1' := of_decide_eq_false h1
  have e : l = [] := List.eq_nil_of_length_eq_zero (by omega)
  subst e
  (conv => whnf)
  exact Wk.refl _
theorem csuf0_ [Go.AL.MX] (l : Str) (hl : l.length < 4294967281) : FCall Tryz.prog Gl 100 [sD l, sD [47]] [] (.tuple [sD (if l.getLast? = some 47 then l.dropLast else l), vB (decide (l.getLast? = some 47))]) [] := by
 have hs := sB_sz l
 have h1s := len1
 refine FCall.enterL hT hmix [] Tryz.func100 rfl rfl rfl fun hbd => ?_
 (conv => whnf)
 refine CallLeaf.wa (hsuf_ l hl) rfl ?_
 (conv => whnf)
 refine split_intro (fun h1 => ?_) (fun h1 => ?_)
 ·have h1' : ¬ List.getLast? l = some 47 := by simpa using h1
  rw [if_neg h1', decide_eq_false h1']
  (conv => whnf)
  exact Wk.refl _
 ·have h1' : List.getLast? l = some 47 := by simpa using h1
  have hp : 1 ≤ l.length := by cases l with | nil => simp at h1' | cons => simp
  rw [if_pos h1', decide_eq_true h1']
  (conv => whnf)
  refine ⟨_, sub64 (c := ((l.length - 1 : Nat) : Int)) (by omega) (by omega), ?_⟩
  (conv => whnf)
  refine ⟨sB l.dropLast, ⟨by omega, by omega, by omega, by rw [ext_prt]; congr 1; simp only [prt]; rw [← dropLast_take]; rfl⟩, ?_⟩
  (conv => whnf)
  exact Wk.refl _
theorem csuf_ [Go.AL.MX] (l : Str) (hl : l.length < 4294967281) : FCall Tryz.prog Gl 79 [sD l, sD [47]] [] (.tuple [sD (if l.getLast? = some 47 then l.dropLast else l), vB (decide (l.getLast? = some 47))]) [] := by
 refine FCall.enterL hT hmix [] Tryz.func79 rfl rfl rfl fun hbd => ?_
 (conv => whnf)
 refine CallLeaf.wa (csuf0_ l hl) rfl ?_
 (conv => whnf)
 exact Wk.refl _
theorem hpre_ [Go.AL.MX] (l : Str) (hl : l.length < 4294967281) : FCall Tryz.prog Gl 74 [sD l, sD [47]] [] (vB (decide (l.head? = some 47))) [] := by
 have hs := sB_sz l
 have h1s := len1
 refine FCall.enterL hT hmix [] Tryz.func74 rfl rfl rfl fun hbd => ?_
 (conv => whnf)
 refine split_intro (fun h1 => ?_) (fun h1 => ?_)
 ·have h1' := of_decide_eq_true h1
  have h1' : 1 ≤ l.length := by omega
  (conv => whnf)
  refine ⟨sB (l.take 1), ⟨by omega, by omega, by omega, by rw [ext_prt]; rfl⟩, ?_⟩
  (conv => whnf)
  refine Wk.bool ?_
  rw [Bool.eq_iff_iff]
  simp only [decide_eq_true_eq]
  cases l with
  | nil => simp at h1'
  | cons x r =>
   simp only [List.take_succ_cons, List.take_zero, List.head?_cons, Option.some.injEq]
   simp
 ·have h1' := of_decide_eq_false h1
  have e : l = [] := List.eq_nil_of_length_eq_zero (by omega)
  subst e
  (conv => whnf)
  exact Wk.refl _
theorem cpre0_ [Go.AL.MX] (l : Str) (hl : l.length < 4294967281) : FCall Tryz.prog Gl 101 [sD l, sD [47]] [] (.tuple [sD (if l.head? = some 47 then l.tail else l), vB (decide (l.head? = some 47))]) [] := by
 have hs := sB_sz l
 have h1s := len1
 refine FCall.enterL hT hmix [] Tryz.func101 rfl rfl rfl fun hbd => ?_
 (conv => whnf)
 refine CallLeaf.wa (hpre_ l hl) rfl ?_
 (conv => whnf)
 refine split_intro (fun h1 => ?_) (fun h1 => ?_)
 ·have h1' : ¬ l.head? = some 47 := by simpa using h1
  rw [if_neg h1', decide_eq_false h1']
  (conv => whnf)
  exact Wk.refl _
 ·have h1' : l.head? = some 47 := by simpa using h1
  have hp : 1 ≤ l.length := by cases l with | nil => simp at h1' | cons => simp
  rw [if_pos h1', decide_eq_true h1']
  (conv => whnf)
  refine ⟨sB l.tail, ⟨by omega, by omega, by omega, by rw [ext_prt]; congr 1; simp only [prt]; rw [hs, List.take_of_length_le (by omega)]; simp [len1]⟩, ?_⟩
  (conv => whnf)
  exact Wk.refl _
theorem cpre_ [Go.AL.MX] (l : Str) (hl : l.length < 4294967281) : FCall Tryz.prog Gl 81 [sD l, sD [47]] [] (.tuple [sD (if l.head? = some 47 then l.tail else l), vB (decide (l.head? = some 47))]) [] := by
 refine FCall.enterL hT hmix [] Tryz.func81 rfl rfl rfl fun hbd => ?_
 (conv => whnf)
 refine CallLeaf.wa (cpre0_ l hl) rfl ?_
 (conv => whnf)
 exact Wk.refl _
end Go.Proofs.YtenbpnlmpjndgaaGreatDoor.H

namespace Go.Proofs.YtenbpnlmpjndgaaGreatDoor.H
open Go Go.AL Go.AL.Hd Go.AL.Ln
set_option maxRecDepth 100000
set_option maxHeartbeats 8000000
abbrev eLn (p : Nat × Str) : List D := [vI p.1, sD p.2]
theorem lines_ [Go.AL.MX] (t : Str) : FCall Tryz.prog Gl 77 [LB t] [] (.func (.func 97) [] [.ptr 0 0]) [.cells [LB t]] := by
 refine FCall.enterO hT hmix [] Tryz.func77 rfl rfl rfl fun hbd => ?_
 (conv => whnf)
 refine ⟨[0], rfl, by (try unfold pullOk); (repeat' (first | exact trivial | exact ObWk.refl _ | refine And.intro ?_ ?_ | unfold pullOk)), ?_⟩
 (conv => whnf)
 exact Wk.refl _
theorem cutI_none {t : Str} (h : cut2 t = none) : cutI t = -1 := by unfold cutI; rw [h]
theorem cutI_some {t a b : Str} (h : cut2 t = some (a, b)) : cutI t = (a.length : Int) := by unfold cutI; rw [h]
theorem cut_drop {t a b : Str} {k : Nat} (h : cut2 (t.drop k) = some (a, b)) : b = t.drop (k + a.length + 2) ∧ k + a.length + 2 ≤ t.length ∧ prt t k (k + a.length) = a := by
 have h1 := cut2_some h
 have h2 := congrArg List.length h1
 simp only [List.length_drop, List.length_append, List.length_cons] at h2
 have h3 : k + a.length + 2 ≤ t.length := by omega
 have h4 : List.drop (a.length + 2) (a ++ 47 :: 10 :: b) = b := by rw [List.drop_append]; simp
 refine ⟨?_, h3, ?_⟩
 ·have := congrArg (List.drop (a.length + 2)) h1
  rw [List.drop_drop, h4] at this
  rw [Nat.add_assoc]
  exact this.symm
 ·unfold prt
  rw [List.drop_take, h1]
  simp
theorem iter_ [Go.AL.MX] (t : Str) (hl : t.length < 4294967281) : IterSpec Tryz.prog Gl 97 (.cells [LB t]) eLn (linesP 0 t) := by
 refine ⟨⟨_, Tryz.func97, by kernel_rfl, by kernel_rfl⟩, fun l B ok HY => ?_⟩
 refine FCall.enterO hT hmix [] Tryz.func97 rfl rfl rfl fun hbd => ?_
 (conv => whnf)
 refine LWp.loop hT hmix [] (fun x : List (Nat × Str) × Nat => [(3, vI x.2)]) (fun x => [(0, .bag (B x.1))]) (fun x => x.2 ≤ t.length ∧ linesP 0 t = x.1 ++ linesP x.2 (t.drop x.2) ∧ (∀ p y s, x.1 = p ++ y :: s → ok (p ++ [y]) = true) ∧ visitR ok [] (linesP 0 t) = visitR ok x.1 (linesP x.2 (t.drop x.2))) (fun x => t.length - x.2) ([], 0) ⟨Nat.zero_le _, rfl, (fun p y s h => by simp at h), rfl⟩ ?_
 (conv => whnf)
 refine ⟨?_, fun ⟨pre, k⟩ ⟨hk, hx, hok, hv⟩ => ?_⟩
 ·(repeat' (first | exact trivial | exact Wk.refl _ | exact ObWk.refl _ | exact rfl | exact ⟨_, rfl⟩ | exact Nat.zero_lt_one | refine And.intro ?_ ?_ | unfold okTo | (unfold okO; conv => whnf) | (unfold okS; conv => whnf) | (unfold SlotOk; conv => whnf) | (unfold ObjOk; conv => whnf) | (unfold okCells; conv => whnf) | (unfold liveTo; conv => whnf) | exact Nat.zero_lt_succ _))
 ·(conv => whnf)
  refine split_intro (fun h => ?_) (fun h => ?_)
  ·have hlt : k < t.length := by have := of_decide_eq_true h; simp only [List.length_map] at this; omega
   have hne : t.drop k ≠ [] := fun e => by have := congrArg List.length e; simp at this; omega
   have hdl : (t.drop k).length < 4294967281 := by simp; omega
   (conv => whnf)
   refine ⟨(t.drop k).map byteD, slL (by omega) (by simp; omega) (by simp) (fun _ => rfl) (by simp), ?_⟩
   (conv => whnf)
   refine CallLeaf.wa (bindex_ (t.drop k) .any .any hdl) rfl ?_
   cases hc : cut2 (t.drop k) with
   | none =>
    have hxs := linesP_none (k := k) hc
    rw [if_neg hne] at hxs
    have HYx := HY pre (k, t.drop k ++ [47]) [] (by rw [hx, hxs]) hok
    have hvv : visitR ok pre (linesP k (t.drop k)) = pre ++ [(k, t.drop k ++ [47])] := by
     rw [hxs]; simp only [visitR]; cases ok (pre ++ [(k, t.drop k ++ [47])]) <;> rfl
    rw [hv, hvv, cutI_none hc]
    (conv => whnf)
    refine ⟨(t.drop k).map byteD, slL (by omega) (by simp; omega) (by simp) (fun _ => rfl) (by simp), ?_⟩
    (conv => whnf)
    refine ⟨t.drop k, rfl, ?_⟩
    (conv => whnf)
    refine ⟨sB (t.drop k ++ [47]), ⟨by rw [sB_sz]; show (t.drop k).length + 1 ≤ _; omega, sB_ap _ _⟩, ?_⟩
    (conv => whnf)
    refine YLeaf.o [0] (by (repeat' (first | exact ArgsTo.nil | refine ArgsTo.cons ?_ ?_ | exact ArgTo.mk' rfl (Wk.refl _) | exact ArgTo.mk' rfl Wk.nilm | exact ArgTo.mk' rfl (Wk.int (by simp)) | exact ArgTo.mk' rfl (Wk.list _ _) | exact ArgTo.mk' rfl (Wk.agg (by (repeat' (first | exact Wks.nil | refine Wks.cons ?_ ?_ | exact Wk.refl _ | exact Wk.nilm | exact Wk.list _ _  | exact Wk.natN rfl | refine Wk.agg ?_))))))) (HYx) rfl rfl (by (repeat' (first | exact trivial | exact rfl | refine And.intro ?_ ?_))) (by (repeat' (first | exact trivial | exact rfl | refine And.intro ?_ ?_))) (by (repeat' (first | exact trivial | exact rfl | refine And.intro ?_ ?_))) rfl rfl ?_
    (conv => whnf)
    refine ⟨[0, 1], rfl, by (try unfold pullOk); (repeat' (first | exact trivial | exact ObWk.refl _ | refine And.intro ?_ ?_ | unfold pullOk)), ?_⟩
    exact Wk.refl _
   | some q =>
    obtain ⟨a, b⟩ := q
    obtain ⟨hb, hkb, ha⟩ := cut_drop hc
    have hxs := linesP_some (k := k) hc
    have HYx := HY pre (k, a) (linesP (k + a.length + 2) b) (by rw [hx, hxs]) hok
    rw [cutI_some hc]
    (conv => whnf)
    refine ⟨_, add64 (c := ((k + a.length : Nat) : Int)) (by show (k : Int) + (a.length : Int) = _; omega) (by omega), ?_⟩
    (conv => whnf)
    refine ⟨a.map byteD, slL (by show 0 ≤ (k : Int); omega) (by show (k : Int) ≤ _; omega) (by simp; omega) (fun _ => rfl) (by show (t.take (k + a.length)).drop k = a; exact ha), ?_⟩
    (conv => whnf)
    refine ⟨a, rfl, ?_⟩
    (conv => whnf)
    refine YLeaf.o [0] (by (repeat' (first | exact ArgsTo.nil | refine ArgsTo.cons ?_ ?_ | exact ArgTo.mk' rfl (Wk.refl _) | exact ArgTo.mk' rfl Wk.nilm | exact ArgTo.mk' rfl (Wk.int (by simp)) | exact ArgTo.mk' rfl (Wk.list _ _) | exact ArgTo.mk' rfl (Wk.agg (by (repeat' (first | exact Wks.nil | refine Wks.cons ?_ ?_ | exact Wk.refl _ | exact Wk.nilm | exact Wk.list _ _  | exact Wk.natN rfl | refine Wk.agg ?_))))))) (HYx) rfl rfl (by (repeat' (first | exact trivial | exact rfl | refine And.intro ?_ ?_))) (by (repeat' (first | exact trivial | exact rfl | refine And.intro ?_ ?_))) (by (repeat' (first | exact trivial | exact rfl | refine And.intro ?_ ?_))) rfl rfl ?_
    (conv => whnf)
    have hvv : visitR ok [] (linesP 0 t) = match ok (pre ++ [(k, a)]) with | true => visitR ok (pre ++ [(k, a)]) (linesP (k + a.length + 2) b) | false => pre ++ [(k, a)] := by rw [hv, hxs]; rfl
    cases ho : ok (pre ++ [(k, a)]) with
    | true =>
     rw [ho] at hvv
     (conv => whnf)
     refine ⟨_, add64 (c := ((a.length + 2 : Nat) : Int)) (by omega) (by omega), ?_⟩
     (conv => whnf)
     refine ⟨_, add64 (c := ((k + a.length + 2 : Nat) : Int)) (by show (k : Int) + _ = _; omega) (by omega), ?_⟩
     (conv => whnf)
     refine ⟨(pre ++ [(k, a)], k + a.length + 2), ⟨⟨by omega, by rw [hx, hxs, ← hb]; simp, ?_, by rw [hvv, ← hb]⟩, by show t.length - (k + a.length + 2) < t.length - k; omega⟩, ?_⟩
     ·intro p y s h
      replace h : pre ++ [(k, a)] = p ++ y :: s := h
      rcases List.eq_nil_or_concat s with rfl | ⟨s', z, rfl⟩
      ·have := List.append_inj' h rfl
       obtain ⟨e1, e2⟩ := this
       simp at e2
       rw [← e1, ← e2]; exact ho
      ·have e3 : pre ++ [(k, a)] = (p ++ y :: s') ++ [z] := by rw [h]; simp
       exact hok p y s' (List.append_inj' e3 rfl).1
     ·(repeat' (first | exact trivial | exact Wk.refl _ | exact ObWk.refl _ | exact rfl | exact ⟨_, rfl⟩ | exact Nat.zero_lt_one | refine And.intro ?_ ?_ | unfold okTo | (unfold okO; conv => whnf) | (unfold okS; conv => whnf) | (unfold SlotOk; conv => whnf) | (unfold ObjOk; conv => whnf) | (unfold okCells; conv => whnf) | (unfold liveTo; conv => whnf) | exact Nat.zero_lt_succ _))
    | false =>
     rw [ho] at hvv
     rw [hvv]
     (conv => whnf)
     refine ⟨[0, 1], rfl, by (try unfold pullOk); (repeat' (first | exact trivial | exact ObWk.refl _ | refine And.intro ?_ ?_ | unfold pullOk)), ?_⟩
     exact Wk.refl _
  ·have hk' : k = t.length := by have := of_decide_eq_false h; simp only [List.length_map] at this; omega
   subst hk'
   have e0 : linesP t.length (t.drop t.length) = [] := by rw [List.drop_length]; exact linesP_none rfl
   rw [hv, e0]
   (conv => whnf)
   refine ⟨[0, 1], rfl, by (try unfold pullOk); (repeat' (first | exact trivial | exact ObWk.refl _ | refine And.intro ?_ ?_ | unfold pullOk)), ?_⟩
   exact Wk.refl _
end Go.Proofs.YtenbpnlmpjndgaaGreatDoor.H

namespace Go.Proofs.YtenbpnlmpjndgaaGreatDoor.H
open Go Go.AL Go.AL.Hd Go.AL.Ln
set_option maxRecDepth 100000
set_option maxHeartbeats 8000000
abbrev okL (p : List (Nat × Str)) : Bool := p.all fun x => validN x.2
abbrev pvL (p : List (Nat × Str)) : List Str := (p.map (·.2)).takeWhile validN
theorem pvL_ok : ∀ {p : List (Nat × Str)}, okL p = true → pvL p = p.map (·.2)
 | [], _ => rfl
 | x :: p, h => by
  simp only [okL, List.all_cons, Bool.and_eq_true] at h
  have := pvL_ok (p := p) h.2
  simp only [pvL, List.map_cons, List.takeWhile_cons, h.1, if_true] at this ⊢
  rw [this]
theorem pvL_bad {p : List (Nat × Str)} {x : Nat × Str} (h : okL p = true) (hx : validN x.2 = false) : pvL (p ++ [x]) = p.map (·.2) := by
 have := pvL_ok h
 simp only [pvL, List.map_append, List.map_cons, List.map_nil] at this ⊢
 rw [List.takeWhile_append, this]
 simp [hx]
theorem okL_snoc (p : List (Nat × Str)) (x : Nat × Str) : okL (p ++ [x]) = (okL p && validN x.2) := by simp [okL]
abbrev coE (p : List (Nat × Str)) : So := [(0, .cells [.nil]), (8, .cells [vI (if okL p then 0 else 7)]), (512, .cells [.list (.tok 403) ((pvL p).map eS)]), (403, .tok ((pvL p).map eS).length 1)]
abbrev juE (p : List (Nat × Str)) : Exit := if okL p then .normal else .ret
theorem pre_ok {p : List (Nat × Str)} (h : ∀ a y s, p = a ++ y :: s → juE (a ++ [y]) = .normal) : okL p = true := by
 rcases List.eq_nil_or_concat p with rfl | ⟨a, y, rfl⟩
 ·rfl
 ·have := h a y [] (by simp)
  cases ho : okL (a ++ [y]) with
  | true => simpa using ho
  | false => rw [juE, ho] at this; simp at this
theorem visitE : ∀ (r pre : List (Nat × Str)), okL pre = true → (okL (visitR (fun p => (jcode (juE p)).isNone) pre r) = true → visitR (fun p => (jcode (juE p)).isNone) pre r = pre ++ r) ∧
  (okL (visitR (fun p => (jcode (juE p)).isNone) pre r) = false → okL (pre ++ r) = false)
 | [], pre, h => by simp [visitR, h]
 | x :: r, pre, h => by
  have e : (jcode (juE (pre ++ [x]))).isNone = okL (pre ++ [x]) := by cases ho : okL (pre ++ [x]) <;> simp only [juE, ho] <;> rfl
  simp only [visitR, e]
  cases ho : okL (pre ++ [x]) with
  | true =>
   have := visitE r (pre ++ [x]) ho
   simpa using this
  | false =>
   simp only []
   refine ⟨fun h2 => by rw [ho] at h2; simp at h2, fun _ => ?_⟩
   have := ho
   simp only [okL, List.all_append, List.all_cons, List.all_nil, Bool.and_true, Bool.and_eq_false_iff] at this ⊢
   rcases this with h | h
   ·exact .inl h
   ·exact .inr (.inl h)
theorem ent_ok {t : Str} (h : okL (linesP 0 t) = true) : entR t = ((linesP 0 t).map (·.2), 0) := by
 unfold entR; rw [ent_lines _ 0 (Nat.le_refl _), if_pos h]
theorem ent_bad {t : Str} (h : okL (linesP 0 t) = false) : entR t = ([], 7) := by
 unfold entR; rw [ent_lines _ 0 (Nat.le_refl _), if_neg (by have h' : ((linesP 0 t).all fun p => validN p.snd) = false := h; rw [h']; simp)]
theorem entries_ [Go.AL.MX] (t : Str) (hl : t.length < 4294967280) : FCall Tryz.prog Gl 57 [LB t] [] (.tuple [LSn (entR t).1, vI (entR t).2]) [] := by
 refine FCall.enterM hT hmix [] Tryz.func57 rfl rfl rfl fun hbd base => ?_
 (conv => whnf)
 refine CallLeaf.oa [1032] (lines_ t) rfl rfl rfl rfl ?_
 (conv => whnf)
 have hL := lines_len _ 0 (Nat.le_refl t.length)
 refine LWp.rangeFunc hT hmix rfl [] [] 400000 1032 [8] coE juE (iter_ t (by omega)) (fun _ => rfl) (fun _ => rfl) rfl (fun p => by cases h : okL p <;> simp [juE, h, jok]) rfl rfl rfl rfl (by simp) rfl (fun p => ?_) ?_
 ·(repeat' (first | exact trivial | exact rfl | refine And.intro ?_ ?_ | (conv => whnf)))
 ·(conv => whnf)
  refine ⟨?_, ?_, ?_, fun pre x r he hn => ?_, fun v hv => ?_⟩
  ·(repeat' (first | exact trivial | exact Wk.refl _ | exact ObWk.refl _ | exact rfl | exact ⟨_, rfl⟩ | exact Nat.zero_lt_one | refine And.intro ?_ ?_ | unfold okTo | (unfold okO; conv => whnf) | (unfold okS; conv => whnf) | (unfold SlotOk; conv => whnf) | (unfold ObjOk; conv => whnf) | (unfold okCells; conv => whnf) | (unfold liveTo; conv => whnf) | exact Nat.zero_lt_succ _))
  ·(repeat' (first | exact trivial | exact rfl | refine And.intro ?_ ?_ | (conv => whnf)))
  ·(repeat' (first | exact trivial | exact rfl | refine And.intro ?_ ?_ | (conv => whnf)))
  ·have hok := pre_ok hn
   have hmem : x ∈ linesP 0 t := by rw [he]; simp
   have hval : x.2.length < 4294967281 := by have := (hL.2 x hmem).1; omega
   have hpl : pre.length + 1 ≤ t.length := by have := hL.1; rw [he] at this; simp at this; omega
   (conv => whnf)
   refine CallLeaf.wa (lvalid_ x.2 hval) rfl ?_
   (conv => whnf)
   cases hx : validN x.2 with
   | false =>
    have e1 : okL (pre ++ [x]) = false := by rw [okL_snoc, hx]; simp
    have e2 := pvL_bad hok hx
    have eC : coE (pre ++ [x]) = [(0, .cells [.nil]), (8, .cells [vI 7]), (512, .cells [.list (.tok 403) ((pvL pre).map eS)]), (403, .tok ((pvL pre).map eS).length 1)] := by simp only [coE, e1, e2, pvL_ok hok]; rfl
    (conv => whnf)
    refine ⟨by simp only [juE, e1]; rfl, ?_⟩
    rw [eC]
    (repeat' (first | exact trivial | exact Wk.refl _ | exact ObWk.refl _ | exact rfl | exact ⟨_, rfl⟩ | exact Nat.zero_lt_one | refine And.intro ?_ ?_ | unfold okToR | (unfold liveKs; conv => whnf) | (unfold okO; conv => whnf) | (unfold okS; conv => whnf) | (unfold SlotOk; conv => whnf) | (unfold ObjOk; conv => whnf) | (unfold okCells; conv => whnf) | exact Nat.zero_lt_succ _))
   | true =>
    have e1 : okL (pre ++ [x]) = true := by rw [okL_snoc, hx, hok]; rfl
    have e2 := pvL_ok e1
    have eC : coE (pre ++ [x]) = [(0, .cells [.nil]), (8, .cells [vI 0]), (512, .cells [.list (.tok 403) ((pvL pre ++ [x.2]).map eS)]), (403, .tok ((pvL pre ++ [x.2]).map eS).length 1)] := by simp only [coE, e1, e2, pvL_ok hok, List.map_append, List.map_cons, List.map_nil]; rfl
    have eD : coE pre = [(0, .cells [.nil]), (8, .cells [vI 0]), (512, .cells [.list (.tok 403) ((pvL pre).map eS)]), (403, .tok ((pvL pre).map eS).length 1)] := by simp only [coE, hok]; rfl
    (conv => whnf)
    refine ⟨_, appL (f := eS) (xs := pvL pre) (ys := [x.2]) (zs := pvL pre ++ [x.2]) (by simp) rfl (fun _ => rfl) rfl (by rw [pvL_ok hok]; show _ * 16 ≤ _; simp; omega), ?_⟩
    (conv => whnf)
    refine ⟨by simp only [juE, e1]; rfl, ?_⟩
    rw [eC, eD]
    (repeat' (first | exact trivial | exact Wk.refl _ | exact ObWk.refl _ | exact rfl | exact ⟨_, rfl⟩ | exact Nat.zero_lt_one | refine And.intro ?_ ?_ | unfold okToR | (unfold liveKs; conv => whnf) | (unfold okO; conv => whnf) | (unfold okS; conv => whnf) | (unfold SlotOk; conv => whnf) | (unfold ObjOk; conv => whnf) | (unfold okCells; conv => whnf) | exact Nat.zero_lt_succ _))
  ·obtain ⟨hv1, hv2⟩ := visitE (linesP 0 t) [] rfl
   rw [← hv] at hv1 hv2
   have hok : okL v = true ∨ okL v = false := by cases okL v <;> simp
   rcases hok with hok | hok
   ·have e3 := hv1 hok
    simp only [List.nil_append] at e3
    rw [show juE v = .normal by simp [juE, hok]]
    have e4 := pvL_ok hok
    rw [ent_ok (by rw [← e3]; exact hok), ← e3, ← e4]
    (conv => whnf)
    refine ⟨[], rfl, by (try unfold pullOk); (repeat' (first | exact trivial | exact ObWk.refl _ | refine And.intro ?_ ?_ | unfold pullOk)), ?_⟩
    (conv => whnf)
    exact Wk.tuple (Wks.cons (Wk.refl _) (Wks.cons (Wk.refl _) Wks.nil))
   ·have e3 := hv2 hok
    rw [show juE v = .ret by simp [juE, hok], ent_bad (by simpa using e3)]
    (conv => whnf)
    refine ⟨[], rfl, by (try unfold pullOk); (repeat' (first | exact trivial | exact ObWk.refl _ | refine And.intro ?_ ?_ | unfold pullOk)), ?_⟩
    rw [hok]
    (conv => whnf)
    exact Wk.tuple (Wks.cons (Wk.natN rfl) (Wks.cons (Wk.refl _) Wks.nil))
end Go.Proofs.YtenbpnlmpjndgaaGreatDoor.H

namespace Go.Proofs.YtenbpnlmpjndgaaGreatDoor.H
open Go Go.AL Go.AL.Hd Go.AL.Ln
set_option maxRecDepth 100000
set_option maxHeartbeats 8000000
abbrev Few (ns : List Str) : Prop := ns.length ≤ 100000 ∧ ∀ n ∈ ns, n.length ≤ 100000
theorem few_tab {ns : List Str} (h : Few ns) (k : Nat) : (tabP (longs (ns.take k))).length ≤ 10000200000 := by
 have h1 := tabP_len (l := longs (ns.take k)) (c := 100000) fun n hn => h.2 n (List.mem_of_mem_take (longs_mem hn))
 have h2 := longs_len (ns.take k)
 have h3 : (ns.take k).length ≤ 100000 := by have := h.1; simp; omega
 have := Nat.mul_le_mul_right 100002 (show (longs (ns.take k)).length ≤ 100000 by omega)
 omega
theorem take_snoc {α : Type} {l : List α} {k : Nat} {x : α} (h : l[k]? = some x) : l.take (k + 1) = l.take k ++ [x] := by
 rw [List.take_add_one, h]; rfl
end Go.Proofs.YtenbpnlmpjndgaaGreatDoor.H

namespace Go.Proofs.YtenbpnlmpjndgaaGreatDoor.H
open Go Go.AL Go.AL.Hd Go.AL.Ln
set_option maxRecDepth 100000
set_option maxHeartbeats 8000000
theorem rshort_ [Go.AL.MX] (l : Str) (hl : l.length < 4294967281) : FCall Tryz.prog Gl 67 [sD l] [] (vB (shortN l)) [] := by
 have hs := sB_sz l
 have CA := nvalid_ l (by omega)
 refine FCall.enterL hT hmix [] Tryz.func67 rfl rfl rfl fun hbd => ?_
 (conv => whnf)
 refine CallLeaf.wa (CA) rfl ?_
 cases hv : validN l with
 | false =>
  have e : shortN l = false := by unfold shortN; rw [hv]; rfl
  rw [e]
  (conv => whnf)
  exact Wk.refl _
 | true =>
  have hlen := valid_not hv
  (conv => whnf)
  refine split_intro (fun h2 => ?_) (fun h2 => ?_)
  ·have h2' := of_decide_eq_true h2
   obtain ⟨x, hx, hg⟩ := last_at (l := l) (by omega)
   (conv => whnf)
   refine ⟨_, sub64 (c := (l.length : Int) - 1) (by omega) (by omega), ?_⟩
   (conv => whnf)
   refine ⟨x, ⟨by omega, hx⟩, ?_⟩
   (conv => whnf)
   cases hq : ((x.toNat : Int) != 32) with
   | true =>
    have hx2 : x ≠ 32 := fun e => by subst e; simp at hq
    have e : shortN l = true := by unfold shortN; rw [hv, hg]; simp [hx2]; omega
    rw [e]
    exact Wk.bool rfl
   | false =>
    obtain rfl : x = 32 := O.u8_eq (y := 32) hq
    have e : shortN l = false := by unfold shortN; rw [hg]; simp
    rw [e]
    exact Wk.bool rfl
  ·have h2' := of_decide_eq_false h2
   have e : shortN l = false := by unfold shortN; rw [decide_eq_false (show ¬ l.length ≤ 15 by omega)]; simp
   rw [e]
   (conv => whnf)
   exact Wk.refl _
theorem tab_len {ns : List Str} (hf : Few ns) (k : Nat) : (tabP (ns.take k)).length ≤ 10000200000 := by
 have h1 := tabP_len (l := ns.take k) (c := 100000) fun n hn => hf.2 n (List.mem_of_mem_take hn)
 have h3 : (ns.take k).length ≤ 100000 := by have := hf.1; rw [List.length_take]; omega
 have := Nat.mul_le_mul_right 100002 h3
 omega
theorem rtable_ [Go.AL.MX] (ns : List Str) (hf : Few ns) : FCall Tryz.prog Gl 69 [LS ns] [] (LBn (tabP ns)) [] := by
 refine FCall.enterL hT hmix [] Tryz.func69 rfl rfl rfl fun hbd => ?_
 have hcl := hf.1
 (conv => whnf)
 refine LWp.loop hT hmix [] (fun k : Nat => [(4, vI k), (3, .list (.tok 403) ((tabP (ns.take k)).map byteD))]) (fun k => [(403, .tok ((tabP (ns.take k)).map byteD).length 1)]) (fun k => k ≤ ns.length) (fun k => ns.length - k) 0 (Nat.zero_le _) ?_
 (conv => whnf)
 refine ⟨?_, fun k hk => ?_⟩
 ·(repeat' (first | exact trivial | exact Wk.refl _ | exact ObWk.refl _ | exact rfl | exact ⟨_, rfl⟩ | exact Nat.zero_lt_one | refine And.intro ?_ ?_ | unfold okTo | (unfold okO; conv => whnf) | (unfold okS; conv => whnf) | (unfold SlotOk; conv => whnf) | (unfold ObjOk; conv => whnf) | (unfold okCells; conv => whnf) | (unfold liveTo; conv => whnf) | exact Nat.zero_lt_succ _))
 ·have ht := tab_len hf k
  have ht2 := tab_len hf (k + 1)
  replace hk : k ≤ ns.length := hk
  (conv => whnf)
  refine split_intro (fun h => ?_) (fun h => ?_)
  ·have hlt : k < ns.length := by have := of_decide_eq_true h; simp only [List.length_map] at this; omega
   obtain ⟨n, hx⟩ := exI hlt
   have hnl := hf.2 n (List.mem_of_getElem? hx)
   have htn : tabP (ns.take (k + 1)) = tabP (ns.take k) ++ n ++ [47, 10] := by rw [take_snoc hx, tabP_app, tabP_cons, tabP_nil]; simp
   (conv => whnf)
   refine ⟨_, ⟨by omega, getMap hx⟩, ?_⟩
   (conv => whnf)
   refine ⟨_, appL (f := byteD) (xs := tabP (ns.take k)) (ys := n) (zs := tabP (ns.take k) ++ n) (by simp) rfl (fun _ => rfl) rfl (by show _ * 1 ≤ _; simp; omega), ?_⟩
   (conv => whnf)
   refine ⟨_, appL (f := byteD) (xs := tabP (ns.take k) ++ n) (ys := [47, 10]) (zs := tabP (ns.take (k + 1))) (by simp) rfl (fun _ => rfl) htn.symm (by show _ * 1 ≤ _; omega), ?_⟩
   (conv => whnf)
   refine ⟨_, add64 (c := ((k + 1 : Nat) : Int)) (by (try simp only []); omega) (by omega), ?_⟩
   (conv => whnf)
   refine ⟨k + 1, ⟨hlt, by show ns.length - (k + 1) < ns.length - k; omega⟩, ?_⟩
   (repeat' (first | exact trivial | exact Wk.refl _ | exact ObWk.refl _ | exact rfl | exact ⟨_, rfl⟩ | exact Nat.zero_lt_one | refine And.intro ?_ ?_ | unfold okTo | (unfold okO; conv => whnf) | (unfold okS; conv => whnf) | (unfold SlotOk; conv => whnf) | (unfold ObjOk; conv => whnf) | (unfold okCells; conv => whnf) | (unfold liveTo; conv => whnf) | exact Nat.zero_lt_succ _))
  ·have hk' : k = ns.length := by have := of_decide_eq_false h; simp only [List.length_map] at this; omega
   subst hk'
   (conv => whnf)
   exact Wk.of_eq (by simp only [List.take_length]; rfl)
theorem few_longs {ns : List Str} (hf : Few ns) : Few (longs ns) := ⟨Nat.le_trans (longs_len ns) hf.1, fun n hn => hf.2 n (longs_mem hn)⟩
theorem few_take {ns : List Str} (hf : Few ns) (k : Nat) : Few (ns.take k) := ⟨by have := hf.1; rw [List.length_take]; omega, fun n hn => hf.2 n (List.mem_of_mem_take hn)⟩
theorem rbuild_ [Go.AL.MX] (ns : List Str) (hf : Few ns) : FCall Tryz.prog Gl 43 [LS ns] [] (.tuple [LBn (buildR ns).1, LSn (buildR ns).2.1, vI (buildR ns).2.2]) [] := by
 refine FCall.enterL hT hmix [] Tryz.func43 rfl rfl rfl fun hbd => ?_
 (conv => whnf)
 refine LWp.loop hT hmix [] (fun k : Nat => [(7, vI k), (5, .list (.tok 404) ((longs (ns.take k)).map eS)), (6, .list (.tok 403) ((fldP 0 (ns.take k)).map eS))]) (fun k => [(404, .tok ((longs (ns.take k)).map eS).length 1), (403, .tok ((fldP 0 (ns.take k)).map eS).length 1)]) (fun k => k ≤ ns.length ∧ (ns.take k).all validN = true) (fun k => ns.length - k) 0 ⟨Nat.zero_le _, rfl⟩ ?_
 (conv => whnf)
 refine ⟨?_, fun k ⟨hk, hv⟩ => ?_⟩
 ·(repeat' (first | exact trivial | exact Wk.refl _ | exact ObWk.refl _ | exact rfl | exact ⟨_, rfl⟩ | exact Nat.zero_lt_one | refine And.intro ?_ ?_ | unfold okTo | (unfold okO; conv => whnf) | (unfold okS; conv => whnf) | (unfold SlotOk; conv => whnf) | (unfold ObjOk; conv => whnf) | (unfold okCells; conv => whnf) | (unfold liveTo; conv => whnf) | exact Nat.zero_lt_succ _))
 ·have ht := few_tab hf k
  (conv => whnf)
  refine split_intro (fun h => ?_) (fun h => ?_)
  ·have hlt : k < ns.length := by have := of_decide_eq_true h; simp only [List.length_map] at this; omega
   obtain ⟨n, hx⟩ := exI hlt
   have hnl := hf.2 n (List.mem_of_getElem? hx)
   have hmem := List.mem_of_getElem? hx
   (conv => whnf)
   refine ⟨_, ⟨by omega, getMap hx⟩, ?_⟩
   (conv => whnf)
   refine CallLeaf.wa (nvalid_ n (by omega)) rfl ?_
   (conv => whnf)
   cases hvn : validN n with
   | false =>
    have e : buildR ns = ([], [], 6) := by
     unfold buildR
     rw [if_neg]
     intro h
     rw [List.all_eq_true] at h
     rw [h n hmem] at hvn; simp at hvn
    rw [e]
    (conv => whnf)
    exact Wk.tuple (Wks.cons (Wk.natN rfl) (Wks.cons (Wk.natN rfl) (Wks.cons (Wk.refl _) Wks.nil)))
   | true =>
    (conv => whnf)
    refine ⟨_, ⟨by omega, getMap hx⟩, ?_⟩
    (conv => whnf)
    refine CallLeaf.wa (rshort_ n (by omega)) rfl ?_
    have hk2 : (ns.take (k + 1)).all validN = true := by rw [take_snoc hx, List.all_append, hv]; simp [hvn]
    have hfl := fldP_snoc (ns.take k) 0 n
    have hlo := longs_snoc (ns.take k) n
    have hfn := fldP_len (ns.take k) 0
    have hkl : (ns.take k).length = k := by simp; omega
    have hcl := hf.1
    have hk1l : (ns.take (k + 1)).length ≤ ns.length := by rw [List.length_take]; omega
    have hll := longs_len (ns.take k)
    cases hsn : shortN n with
    | true =>
     rw [hsn, if_pos rfl] at hfl hlo
     (conv => whnf)
     refine ⟨_, ⟨by omega, getMap hx⟩, ?_⟩
     (conv => whnf)
     refine ⟨sB (n ++ [47]), ⟨by rw [sB_sz]; show n.length + 1 ≤ _; omega, sB_ap _ _⟩, ?_⟩
     (conv => whnf)
     refine ⟨_, appL (f := eS) (xs := fldP 0 (ns.take k)) (ys := [n ++ [47]]) (zs := fldP 0 (ns.take (k + 1))) (by simp) rfl (fun _ => rfl) (by rw [take_snoc hx, hfl]) (by show _ * 16 ≤ _; rw [fldP_len]; omega), ?_⟩
     (conv => whnf)
     refine ⟨_, add64 (c := ((k + 1 : Nat) : Int)) (by (try simp only []); omega) (by omega), ?_⟩
     (conv => whnf)
     refine ⟨k + 1, ⟨⟨hlt, hk2⟩, by show ns.length - (k + 1) < ns.length - k; omega⟩, ?_⟩
     dsimp only
     rw [show longs (ns.take (k + 1)) = longs (ns.take k) by rw [take_snoc hx]; exact hlo]
     (repeat' (first | exact trivial | exact Wk.refl _ | exact ObWk.refl _ | exact rfl | exact ⟨_, rfl⟩ | exact Nat.zero_lt_one | refine And.intro ?_ ?_ | unfold okTo | (unfold okO; conv => whnf) | (unfold okS; conv => whnf) | (unfold SlotOk; conv => whnf) | (unfold ObjOk; conv => whnf) | (unfold okCells; conv => whnf) | (unfold liveTo; conv => whnf) | exact Nat.zero_lt_succ _))
    | false =>
     rw [hsn, if_neg (by simp)] at hfl hlo
     rw [Nat.zero_add] at hfl
     have hd := dig_le (b := 10) (by omega) (tabP (longs (ns.take k))).length (by omega)
     (conv => whnf)
     refine CallLeaf.wa (rtable_ (longs (ns.take k)) (few_longs (few_take hf k))) rfl ?_
     (conv => whnf)
     refine CallLeaf.wa (text_ 10 (by omega) (by omega) (tabP (longs (ns.take k))).length (by omega)) rfl ?_
     (conv => whnf)
     refine ⟨sB (47 :: dig 10 (tabP (longs (ns.take k))).length), ⟨by rw [sB_sz]; show 1 + (dig 10 _).length ≤ _; omega, sB_ap [47] _⟩, ?_⟩
     (conv => whnf)
     refine ⟨_, appL (f := eS) (xs := fldP 0 (ns.take k)) (ys := [47 :: dig 10 (tabP (longs (ns.take k))).length]) (zs := fldP 0 (ns.take (k + 1))) (by simp) rfl (fun _ => rfl) (by rw [take_snoc hx, hfl]) (by show _ * 16 ≤ _; rw [fldP_len]; omega), ?_⟩
     (conv => whnf)
     refine ⟨_, ⟨by omega, getMap hx⟩, ?_⟩
     (conv => whnf)
     refine ⟨_, appL (f := eS) (xs := longs (ns.take k)) (ys := [n]) (zs := longs (ns.take (k + 1))) (by simp) rfl (fun _ => rfl) (by rw [take_snoc hx, hlo]) (by rw [take_snoc hx, hlo]; show _ * 16 ≤ _; simp; omega), ?_⟩
     (conv => whnf)
     refine ⟨_, add64 (c := ((k + 1 : Nat) : Int)) (by (try simp only []); omega) (by omega), ?_⟩
     (conv => whnf)
     refine ⟨k + 1, ⟨⟨hlt, hk2⟩, by show ns.length - (k + 1) < ns.length - k; omega⟩, ?_⟩
     (repeat' (first | exact trivial | exact Wk.refl _ | exact ObWk.refl _ | exact rfl | exact ⟨_, rfl⟩ | exact Nat.zero_lt_one | refine And.intro ?_ ?_ | unfold okTo | (unfold okO; conv => whnf) | (unfold okS; conv => whnf) | (unfold SlotOk; conv => whnf) | (unfold ObjOk; conv => whnf) | (unfold okCells; conv => whnf) | (unfold liveTo; conv => whnf) | exact Nat.zero_lt_succ _))
  ·have hk' : k = ns.length := by have := of_decide_eq_false h; simp only [List.length_map] at this; omega
   subst hk'
   have et : longs (ns.take ns.length) = longs ns := by rw [List.take_length]
   rw [List.take_length] at hv
   have e : buildR ns = (tabP (longs ns), fldP 0 ns, 0) := by unfold buildR; rw [if_pos hv]
   have RT := rtable_ (longs (ns.take ns.length)) (by rw [et]; exact few_longs hf)
   rw [e]
   (conv => whnf)
   refine CallLeaf.wa (RT) rfl ?_
   (conv => whnf)
   exact Wk.tuple (Wks.cons (Wk.of_eq (by simp only [List.take_length]; rfl)) (Wks.cons (Wk.of_eq (by simp only [List.take_length]; rfl)) (Wks.cons (Wk.refl _) Wks.nil)))
end Go.Proofs.YtenbpnlmpjndgaaGreatDoor.H

namespace Go.Proofs.YtenbpnlmpjndgaaGreatDoor.H
open Go Go.AL Go.AL.Hd Go.AL.Ln
set_option maxRecDepth 100000
set_option maxHeartbeats 8000000
theorem rentries_ [Go.AL.MX] (t : Str) (hl : t.length < 4294967280) : FCall Tryz.prog Gl 48 [LB t] [] (.tuple [LSn (entR t).1, vI (entR t).2]) [] := by
 refine FCall.enterL hT hmix [] Tryz.func48 rfl rfl rfl fun hbd => ?_
 (conv => whnf)
 refine LWp.loop hT hmix [] (fun x : Nat × Nat × List Str => [(6, vI x.1), (5, vI x.2.1), (4, .list (.tok 403) (x.2.2.map eS))]) (fun x => [(403, .tok (x.2.2.map eS).length 1)]) (fun x => RdT t x.2.2 x.2.1 x.1 ∧ x.2.2.length ≤ x.1) (fun x => t.length - x.1) (0, 0, []) ⟨⟨Nat.le_refl _, Nat.zero_le _, rfl, fun n hn => by simp at hn, fun q h1 h2 => by omega⟩, Nat.le_refl _⟩ ?_
 (conv => whnf)
 refine ⟨?_, fun ⟨k, fr, out⟩ ⟨hR, hol⟩ => ?_⟩
 ·(repeat' (first | exact trivial | exact Wk.refl _ | exact ObWk.refl _ | exact rfl | exact ⟨_, rfl⟩ | exact Nat.zero_lt_one | refine And.intro ?_ ?_ | unfold okTo | (unfold okO; conv => whnf) | (unfold okS; conv => whnf) | (unfold SlotOk; conv => whnf) | (unfold ObjOk; conv => whnf) | (unfold okCells; conv => whnf) | (unfold liveTo; conv => whnf) | exact Nat.zero_lt_succ _))
 ·have hle := hR.le
  have hli := hR.li
  simp only at hle hli hol hR
  (conv => whnf)
  refine split_intro (fun h => ?_) (fun h => ?_)
  ·have hlt : k < t.length := by have := of_decide_eq_true h; simp only [List.length_map] at this; omega
   obtain ⟨c, hx⟩ := exI hlt
   (conv => whnf)
   refine ⟨_, ⟨by omega, getMap hx⟩, ?_⟩
   (conv => whnf)
   refine split_intro (fun h2 => ?_) (fun h2 => ?_)
   ·have h2' : c ≠ 10 := O.u8_ne (y := 10) h2
    (conv => whnf)
    refine ⟨_, add64 (c := ((k + 1 : Nat) : Int)) (by (try simp only []); omega) (by omega), ?_⟩
    (conv => whnf)
    refine ⟨(k + 1, fr, out), ⟨⟨hR.skip hlt (by rw [hx]; simpa using h2'), by show out.length ≤ k + 1; omega⟩, by show t.length - (k + 1) < t.length - k; omega⟩, ?_⟩
    (repeat' (first | exact trivial | exact Wk.refl _ | exact ObWk.refl _ | exact rfl | exact ⟨_, rfl⟩ | exact Nat.zero_lt_one | refine And.intro ?_ ?_ | unfold okTo | (unfold okO; conv => whnf) | (unfold okS; conv => whnf) | (unfold SlotOk; conv => whnf) | (unfold ObjOk; conv => whnf) | (unfold okCells; conv => whnf) | (unfold liveTo; conv => whnf) | exact Nat.zero_lt_succ _))
   ·obtain rfl : c = 10 := O.u8_eq (y := 10) h2
    have bad : ∀ {ns : List Str}, ¬ (fr < k ∧ t[k - 1]? = some 47 ∧ validN (prt t fr (k - 1)) = true) → entR t = ([], 7) := by
     intro ns hn
     unfold entR
     cases he : entO t with
     | none => rfl
     | some ns => exact absurd (hR.fail hx he) hn
    (conv => whnf)
    refine split_intro (fun h3 => ?_) (fun h3 => ?_)
    ·have h3' : k = fr := by have := h3; simp at this; omega
     rw [bad (ns := []) (fun h => by omega)]
     (conv => whnf)
     exact Wk.tuple (Wks.cons (Wk.natN rfl) (Wks.cons (Wk.refl _) Wks.nil))
    ·have h3' : fr < k := by have := h3; simp at this; omega
     obtain ⟨c2, hx2⟩ := exI (l := t) (k := k - 1) (by omega)
     (conv => whnf)
     refine ⟨_, sub64 (c := ((k - 1 : Nat) : Int)) (by show (k : Int) - 1 = _; omega) (by omega), ?_⟩
     (conv => whnf)
     refine ⟨_, ⟨by omega, getMap hx2⟩, ?_⟩
     (conv => whnf)
     refine split_intro (fun h4 => ?_) (fun h4 => ?_)
     ·have h4' : c2 ≠ 47 := O.u8_ne (y := 47) h4
      rw [bad (ns := []) (fun h => by rw [hx2] at h; simp at h; exact h4' h.2.1)]
      (conv => whnf)
      exact Wk.tuple (Wks.cons (Wk.natN rfl) (Wks.cons (Wk.refl _) Wks.nil))
     ·obtain rfl : c2 = 47 := O.u8_eq (y := 47) h4
      have hpl : (prt t fr (k - 1)).length = k - 1 - fr := prt_len (by omega) (by omega)
      (conv => whnf)
      refine ⟨_, sub64 (c := ((k - 1 : Nat) : Int)) (by show (k : Int) - 1 = _; omega) (by omega), ?_⟩
      (conv => whnf)
      refine ⟨(prt t fr (k - 1)).map byteD, slL (by show 0 ≤ (fr : Int); omega) (by show (fr : Int) ≤ _; omega) (by simp; omega) (fun _ => rfl) (by show (t.take (k - 1)).drop fr = _; rfl), ?_⟩
      (conv => whnf)
      refine ⟨prt t fr (k - 1), rfl, ?_⟩
      (conv => whnf)
      refine CallLeaf.wa (nvalid_ (prt t fr (k - 1)) (by omega)) rfl ?_
      cases hv : validN (prt t fr (k - 1)) with
      | false =>
       rw [bad (ns := []) (fun h => by rw [hv] at h; simp at h)]
       (conv => whnf)
       exact Wk.tuple (Wks.cons (Wk.natN rfl) (Wks.cons (Wk.refl _) Wks.nil))
      | true =>
       (conv => whnf)
       refine ⟨_, sub64 (c := ((k - 1 : Nat) : Int)) (by show (k : Int) - 1 = _; omega) (by omega), ?_⟩
       (conv => whnf)
       refine ⟨(prt t fr (k - 1)).map byteD, slL (by show 0 ≤ (fr : Int); omega) (by show (fr : Int) ≤ _; omega) (by simp; omega) (fun _ => rfl) (by show (t.take (k - 1)).drop fr = _; rfl), ?_⟩
       (conv => whnf)
       refine ⟨prt t fr (k - 1), rfl, ?_⟩
       (conv => whnf)
       refine ⟨_, appL (f := eS) (xs := out) (ys := [prt t fr (k - 1)]) (zs := out ++ [prt t fr (k - 1)]) (by simp) rfl (fun _ => rfl) rfl (by show _ * 16 ≤ _; simp; omega), ?_⟩
       (conv => whnf)
       refine ⟨_, add64 (c := ((k + 1 : Nat) : Int)) (by (try simp only []); omega) (by omega), ?_⟩
       (conv => whnf)
       refine ⟨_, add64 (c := ((k + 1 : Nat) : Int)) (by (try simp only []); omega) (by omega), ?_⟩
       (conv => whnf)
       refine ⟨(k + 1, k + 1, out ++ [prt t fr (k - 1)]), ⟨⟨hR.step hx h3' hx2 hv, by simp; omega⟩, by show t.length - (k + 1) < t.length - k; omega⟩, ?_⟩
       (repeat' (first | exact trivial | exact Wk.refl _ | exact ObWk.refl _ | exact rfl | exact ⟨_, rfl⟩ | exact Nat.zero_lt_one | refine And.intro ?_ ?_ | unfold okTo | (unfold okO; conv => whnf) | (unfold okS; conv => whnf) | (unfold SlotOk; conv => whnf) | (unfold ObjOk; conv => whnf) | (unfold okCells; conv => whnf) | (unfold liveTo; conv => whnf) | exact Nat.zero_lt_succ _))
  ·have hk' : k = t.length := by have := of_decide_eq_false h; simp only [List.length_map] at this; omega
   subst hk'
   obtain ⟨d1, d2⟩ := hR.done
   (conv => whnf)
   refine split_intro (fun h5 => ?_) (fun h5 => ?_)
   ·have h5' : fr ≠ t.length := fun e => by subst e; simp at h5
    have e : entR t = ([], 7) := by unfold entR; rw [d2 h5']
    rw [e]
    (conv => whnf)
    exact Wk.tuple (Wks.cons (Wk.natN rfl) (Wks.cons (Wk.refl _) Wks.nil))
   ·have h5' : fr = t.length := by simp at h5; omega
    have e : entR t = (out, 0) := by unfold entR; rw [d1 h5']
    rw [e]
    (conv => whnf)
    exact Wk.tuple (Wks.cons (Wk.refl _) (Wks.cons (Wk.refl _) Wks.nil))
end Go.Proofs.YtenbpnlmpjndgaaGreatDoor.H
