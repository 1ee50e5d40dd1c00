/- Headers: encoding. No condition. -/
import Derived.Test.YtjbcifgclobjdaaDoorHAc
import Derived.Test.YtjbcifgclobjdaaDoorHWb
import Derived.Test.YtjbcifgclobjdaaDoorHPa
import Derived.Test.YtjbcifgclobjdaaDoorRows
import Derived.LaidMore
import Derived.Stop.Joined
import Derived.SevenTiedAt
import Derived.Lay
set_option linter.unusedVariables false
set_option linter.unusedSimpArgs false
namespace Go.Proofs.YtjbcifgclobjdaaDoor.H
open Go Go.AL Go.AL.Hd
set_option maxRecDepth 100000
set_option maxHeartbeats 16000000
theorem fmt_zero {b w : Nat} (hb : 2 ≤ b) (hw : 1 ≤ w) : ∃ f, fmt b w 0 = some f := by
 unfold fmt
 rw [if_neg]
 ·exact ⟨_, rfl⟩
 ·rw [Int.toNat_zero, dig_lt (show 0 < b by omega)]; simp; omega
abbrev acc (A q1 q2 q3 q4 q5 : Str) : Nat → Str
 | 0 => A
 | 1 => A ++ q1
 | 2 => A ++ q1 ++ q2
 | 3 => A ++ q1 ++ q2 ++ q3
 | 4 => A ++ q1 ++ q2 ++ q3 ++ q4
 | _ => A ++ q1 ++ q2 ++ q3 ++ q4 ++ q5
theorem hencode_ (h : Hdr) (hl : h.name.length < 4294967281) (h1 : h.date ≤ 9223372036854775807) (h2 : h.uid ≤ 9223372036854775807) (h3 : h.gid ≤ 9223372036854775807) (h4 : h.mode ≤ 9223372036854775807) (h5 : h.size ≤ 9223372036854775807) :
  FCall Tryd.prog Gl 15 [.agg h.enc] [] (.tuple [LBn (encR h).1, vI (encR h).2]) [] := by
 obtain ⟨nm, dt, ui, gi, mo, si⟩ := h
 replace hl : nm.length < 4294967281 := hl
 have hsz := sB_sz nm
 refine FCall.enterL hT hmix [] Tryd.func15 rfl rfl rfl fun hbd => ?_
 (conv => whnf)
 refine CallLeaf.wa (hfits_ nm hl) rfl ?_
 (conv => whnf)
 cases hf : fitN nm with
 | false =>
  have e : encR ⟨nm, dt, ui, gi, mo, si⟩ = ([], 6) := by simp [encR, hf]
  rw [e]
  (conv => whnf)
  exact Wk.tuple (Wks.cons (Wk.natN rfl) (Wks.cons (Wk.refl _) Wks.nil))
 | true =>
  have hlen : nm.length ≤ 16 := by
   have h := hf
   simp only [fitN, Bool.and_eq_true, decide_eq_true_eq] at h
   omega
  simp only [encR, hf, if_true]
  (conv => whnf)
  refine ⟨_, sub64 (c := ((16 - nm.length : Nat) : Int)) (by rw [hsz]; omega) (by omega), ?_⟩
  (conv => whnf)
  refine CallLeaf.wa (repeat_ (16 - nm.length) (by omega)) rfl ?_
  (conv => whnf)
  refine ⟨sB (nm ++ sp (16 - nm.length)), ⟨by rw [hsz, sB_sz, List.length_replicate]; omega, sB_ap _ _⟩, ?_⟩
  (conv => whnf)
  refine ⟨by show (nm ++ sp (16 - nm.length)).length ≤ _; rw [List.length_append, List.length_replicate]; omega, ?_⟩
  (conv => whnf)
  refine CallLeaf.wa (fields_) rfl ?_
  (conv => whnf)
  have L1 := fieldR_len dt 10 12 (decide (nm = [47, 47]))
  have L2 := fieldR_len ui 10 6 (decide (nm = [47, 47]))
  have L3 := fieldR_len gi 10 6 (decide (nm = [47, 47]))
  have L4 := fieldR_len mo 8 8 (decide (nm = [47, 47]))
  have L5 := fieldR_len si 10 10 false
  have h1' : dt ≤ 9223372036854775807 := h1
  have h2' : ui ≤ 9223372036854775807 := h2
  have h3' : gi ≤ 9223372036854775807 := h3
  have h4' : mo ≤ 9223372036854775807 := h4
  have h5' : si ≤ 9223372036854775807 := h5
  obtain ⟨q1, hq1⟩ : ∃ p, p = fieldR dt 10 12 (decide (nm = [47, 47])) := ⟨_, rfl⟩
  obtain ⟨q2, hq2⟩ : ∃ p, p = fieldR ui 10 6 (decide (nm = [47, 47])) := ⟨_, rfl⟩
  obtain ⟨q3, hq3⟩ : ∃ p, p = fieldR gi 10 6 (decide (nm = [47, 47])) := ⟨_, rfl⟩
  obtain ⟨q4, hq4⟩ : ∃ p, p = fieldR mo 8 8 (decide (nm = [47, 47])) := ⟨_, rfl⟩
  obtain ⟨q5, hq5⟩ : ∃ p, p = fieldR si 10 10 false := ⟨_, rfl⟩
  rw [← hq1] at L1
  rw [← hq2] at L2
  rw [← hq3] at L3
  rw [← hq4] at L4
  rw [← hq5] at L5
  rw [← hq1, ← hq2, ← hq3, ← hq4, ← hq5]
  obtain ⟨A, hA⟩ : ∃ A, A = nm ++ sp (16 - nm.length) := ⟨_, rfl⟩
  have hAl : A.length = 16 := by rw [hA, List.length_append, List.length_replicate]; omega
  rw [← hA]
  refine LWp.loop hT hmix [] (fun k : Nat => [(26, vI k), (4, .list (.tok 1600) ((acc A q1.1 q2.1 q3.1 q4.1 q5.1 k).map byteD))]) (fun k => [(1600, .tok ((acc A q1.1 q2.1 q3.1 q4.1 q5.1 k).map byteD).length 1)]) (fun k => k ≤ 5 ∧ (0 < k → q1.2 = true) ∧ (1 < k → q2.2 = true) ∧ (2 < k → q3.2 = true) ∧ (3 < k → q4.2 = true) ∧ (4 < k → q5.2 = true)) (fun k => 5 - k) 0 ⟨by omega, by omega, by omega, by omega, by omega, by omega⟩ ?_
  (conv => whnf)
  refine ⟨?_, fun k ⟨hk, i1, i2, i3, i4, i5⟩ => ?_⟩
  ·(repeat' (first | exact trivial | exact Wk.refl _ | exact ObWk.refl _ | exact rfl | exact ⟨_, rfl⟩ | exact Nat.zero_lt_one | refine And.intro ?_ ?_ | unfold okTo | (unfold okO; conv => whnf) | (unfold okS; conv => whnf) | (unfold SlotOk; conv => whnf) | (unfold ObjOk; conv => whnf) | (unfold okCells; conv => whnf) | (unfold liveTo; conv => whnf) | exact Nat.zero_lt_succ _))
   exact ObWk.of_eq (show AObj.tok A.length 1 = AObj.tok ((A.map byteD).length) 1 by rw [List.length_map])
  ·rcases (show k = 0 ∨ k = 1 ∨ k = 2 ∨ k = 3 ∨ k = 4 ∨ k = 5 by omega) with rfl | rfl | rfl | rfl | rfl | rfl
   ·(conv => whnf)
    refine ⟨_, ⟨by decide, rfl⟩, ?_⟩
    (conv => whnf)
    refine CallLeaf.oa [0] (at1_ ⟨nm, dt, ui, gi, mo, si⟩) rfl rfl rfl rfl ?_
    (conv => whnf)
    have DF := dformat_ dt 10 12 (.inr rfl) (by omega) (by omega) h1'
    cases hfm : fmt 10 12 dt with
    | none =>
     have DF' : FCall Tryd.prog Gl 41 [vI dt, vI ((10 : Nat) : Int), vI ((12 : Nat) : Int)] [] (.tuple [LBn [], vI 9]) [] := by simpa only [fmtR, hfm] using DF
     have e2 : q1.2 = false := by
      rw [hq1]; unfold fieldR
      split
      ·exact decide_eq_false (fun h => by
        obtain ⟨f, hf0⟩ := fmt_zero (b := 10) (w := 12) (by omega) (by omega)
        rw [h, hf0] at hfm; cases hfm)
      ·simp only [fmtR, hfm]; rfl
     (conv => whnf)
     refine CallLeaf.wa (DF') rfl ?_
     (conv => whnf)
     refine split_intro (fun bq => ?_) (fun bq => ?_)
     ·simp only [e2, Bool.false_and, Bool.and_false, Bool.false_eq_true, if_false]
      (conv => whnf)
      exact Wk.tuple (Wks.cons (Wk.natN rfl) (Wks.cons (Wk.refl _) Wks.nil))
     ·simp only [e2, Bool.false_and, Bool.and_false, Bool.false_eq_true, if_false]
      (conv => whnf)
      exact Wk.tuple (Wks.cons (Wk.natN rfl) (Wks.cons (Wk.refl _) Wks.nil))
    | some f =>
     have fl := fmt_len hfm
     have DF' : FCall Tryd.prog Gl 41 [vI dt, vI ((10 : Nat) : Int), vI ((12 : Nat) : Int)] [] (.tuple [LBn f, vI 0]) [] := by simpa only [fmtR, hfm] using DF
     (conv => whnf)
     refine CallLeaf.wa (DF') rfl ?_
     (conv => whnf)
     refine split_intro (fun bq => ?_) (fun bq => ?_)
     ·have hb : nm = [47, 47] := of_decide_eq_true bq
      have hqv : q1 = (sp 12, decide (dt = 0)) := by rw [hq1, decide_eq_true hb]; rfl
      (conv => whnf)
      refine split_intro (fun nz => ?_) (fun nz => ?_)
      ·have e2 : q1.2 = false := by rw [hqv]; exact decide_eq_false (fun h => by have nz' : (dt != 0) = true := nz; rw [h] at nz'; exact absurd nz' (by decide))
       simp only [e2, Bool.false_and, Bool.and_false, Bool.false_eq_true, if_false]
       (conv => whnf)
       exact Wk.tuple (Wks.cons (Wk.natN rfl) (Wks.cons (Wk.refl _) Wks.nil))
      ·have e0 : dt = 0 := by
        rcases Int.lt_trichotomy dt 0 with h | h | h
        ·have : (dt != 0) = true := by simp; omega
         rw [this] at nz; cases nz
        ·exact h
        ·have : (dt != 0) = true := by simp; omega
         rw [this] at nz; cases nz
       have e2 : q1.2 = true := by rw [hqv]; exact decide_eq_true e0
       have e1 : q1.1 = sp 12 := by rw [hqv]
       (conv => whnf)
       refine CallLeaf.wa (repeat_ 12 (by omega)) rfl ?_
       (conv => whnf)
       refine ⟨by show (sp 12).length ≤ _; rw [List.length_replicate]; omega, ?_⟩
       (conv => whnf)
       refine ⟨_, appL (f := byteD) (xs := A) (ys := sp 12) (zs := A ++ sp 12) rfl rfl (fun _ => rfl) rfl (by simp only [List.length_append, List.length_replicate, hAl, fl]; show _ * 1 ≤ _; omega), ?_⟩
       (conv => whnf)
       refine ⟨_, add64 (c := ((1 : Nat) : Int)) rfl (by omega), ?_⟩
       (conv => whnf)
       refine ⟨1, ⟨⟨by omega, fun _ => by first | exact e2 | rfl, fun h => absurd h (by omega), fun h => absurd h (by omega), fun h => absurd h (by omega), fun h => absurd h (by omega)⟩, by show 5 - 1 < 5 - 0; omega⟩, ?_⟩
       (repeat' (first | exact trivial | exact Wk.refl _ | exact ObWk.refl _ | exact rfl | exact ⟨_, rfl⟩ | exact Nat.zero_lt_one | refine And.intro ?_ ?_ | unfold okTo | (unfold okO; conv => whnf) | (unfold okS; conv => whnf) | (unfold SlotOk; conv => whnf) | (unfold ObjOk; conv => whnf) | (unfold okCells; conv => whnf) | (unfold liveTo; conv => whnf) | exact Nat.zero_lt_succ _))
       ·exact ObWk.of_eq (by rw [← e1]; rfl)
       ·exact Wk.of_eq (by rw [← e1]; rfl)
     ·have nb : decide (nm = [47, 47]) = false := decide_eq_false (of_decide_eq_false bq)
      have hqv : q1 = (f, true) := by rw [hq1, nb]; simp only [fieldR, fmtR, hfm]; rfl
      have e2 : q1.2 = true := by rw [hqv]
      have e1 : q1.1 = f := by rw [hqv]
      (conv => whnf)
      refine ⟨_, appL (f := byteD) (xs := A) (ys := f) (zs := A ++ f) rfl rfl (fun _ => rfl) rfl (by simp only [List.length_append, List.length_replicate, hAl, fl]; show _ * 1 ≤ _; omega), ?_⟩
      (conv => whnf)
      refine ⟨_, add64 (c := ((1 : Nat) : Int)) rfl (by omega), ?_⟩
      (conv => whnf)
      refine ⟨1, ⟨⟨by omega, fun _ => by first | exact e2 | rfl, fun h => absurd h (by omega), fun h => absurd h (by omega), fun h => absurd h (by omega), fun h => absurd h (by omega)⟩, by show 5 - 1 < 5 - 0; omega⟩, ?_⟩
      (repeat' (first | exact trivial | exact Wk.refl _ | exact ObWk.refl _ | exact rfl | exact ⟨_, rfl⟩ | exact Nat.zero_lt_one | refine And.intro ?_ ?_ | unfold okTo | (unfold okO; conv => whnf) | (unfold okS; conv => whnf) | (unfold SlotOk; conv => whnf) | (unfold ObjOk; conv => whnf) | (unfold okCells; conv => whnf) | (unfold liveTo; conv => whnf) | exact Nat.zero_lt_succ _))
      ·exact ObWk.of_eq (by rw [← e1]; rfl)
      ·exact Wk.of_eq (by rw [← e1]; rfl)
   ·(conv => whnf)
    refine ⟨_, ⟨by decide, rfl⟩, ?_⟩
    (conv => whnf)
    refine CallLeaf.oa [0] (at2_ ⟨nm, dt, ui, gi, mo, si⟩) rfl rfl rfl rfl ?_
    (conv => whnf)
    have DF := dformat_ ui 10 6 (.inr rfl) (by omega) (by omega) h2'
    cases hfm : fmt 10 6 ui with
    | none =>
     have DF' : FCall Tryd.prog Gl 41 [vI ui, vI ((10 : Nat) : Int), vI ((6 : Nat) : Int)] [] (.tuple [LBn [], vI 9]) [] := by simpa only [fmtR, hfm] using DF
     have e2 : q2.2 = false := by
      rw [hq2]; unfold fieldR
      split
      ·exact decide_eq_false (fun h => by
        obtain ⟨f, hf0⟩ := fmt_zero (b := 10) (w := 6) (by omega) (by omega)
        rw [h, hf0] at hfm; cases hfm)
      ·simp only [fmtR, hfm]; rfl
     (conv => whnf)
     refine CallLeaf.wa (DF') rfl ?_
     (conv => whnf)
     refine split_intro (fun bq => ?_) (fun bq => ?_)
     ·simp only [e2, Bool.false_and, Bool.and_false, Bool.false_eq_true, if_false]
      (conv => whnf)
      exact Wk.tuple (Wks.cons (Wk.natN rfl) (Wks.cons (Wk.refl _) Wks.nil))
     ·simp only [e2, Bool.false_and, Bool.and_false, Bool.false_eq_true, if_false]
      (conv => whnf)
      exact Wk.tuple (Wks.cons (Wk.natN rfl) (Wks.cons (Wk.refl _) Wks.nil))
    | some f =>
     have fl := fmt_len hfm
     have DF' : FCall Tryd.prog Gl 41 [vI ui, vI ((10 : Nat) : Int), vI ((6 : Nat) : Int)] [] (.tuple [LBn f, vI 0]) [] := by simpa only [fmtR, hfm] using DF
     (conv => whnf)
     refine CallLeaf.wa (DF') rfl ?_
     (conv => whnf)
     refine split_intro (fun bq => ?_) (fun bq => ?_)
     ·have hb : nm = [47, 47] := of_decide_eq_true bq
      have hqv : q2 = (sp 6, decide (ui = 0)) := by rw [hq2, decide_eq_true hb]; rfl
      (conv => whnf)
      refine split_intro (fun nz => ?_) (fun nz => ?_)
      ·have e2 : q2.2 = false := by rw [hqv]; exact decide_eq_false (fun h => by have nz' : (ui != 0) = true := nz; rw [h] at nz'; exact absurd nz' (by decide))
       simp only [e2, Bool.false_and, Bool.and_false, Bool.false_eq_true, if_false]
       (conv => whnf)
       exact Wk.tuple (Wks.cons (Wk.natN rfl) (Wks.cons (Wk.refl _) Wks.nil))
      ·have e0 : ui = 0 := by
        rcases Int.lt_trichotomy ui 0 with h | h | h
        ·have : (ui != 0) = true := by simp; omega
         rw [this] at nz; cases nz
        ·exact h
        ·have : (ui != 0) = true := by simp; omega
         rw [this] at nz; cases nz
       have e2 : q2.2 = true := by rw [hqv]; exact decide_eq_true e0
       have e1 : q2.1 = sp 6 := by rw [hqv]
       (conv => whnf)
       refine CallLeaf.wa (repeat_ 6 (by omega)) rfl ?_
       (conv => whnf)
       refine ⟨by show (sp 6).length ≤ _; rw [List.length_replicate]; omega, ?_⟩
       (conv => whnf)
       refine ⟨_, appL (f := byteD) (xs := A ++ q1.1) (ys := sp 6) (zs := A ++ q1.1 ++ sp 6) rfl rfl (fun _ => rfl) rfl (by simp only [List.length_append, List.length_replicate, hAl, fl]; show _ * 1 ≤ _; omega), ?_⟩
       (conv => whnf)
       refine ⟨_, add64 (c := ((2 : Nat) : Int)) rfl (by omega), ?_⟩
       (conv => whnf)
       refine ⟨2, ⟨⟨by omega, fun _ => i1 (by omega), fun _ => by first | exact e2 | rfl, fun h => absurd h (by omega), fun h => absurd h (by omega), fun h => absurd h (by omega)⟩, by show 5 - 2 < 5 - 1; omega⟩, ?_⟩
       (repeat' (first | exact trivial | exact Wk.refl _ | exact ObWk.refl _ | exact rfl | exact ⟨_, rfl⟩ | exact Nat.zero_lt_one | refine And.intro ?_ ?_ | unfold okTo | (unfold okO; conv => whnf) | (unfold okS; conv => whnf) | (unfold SlotOk; conv => whnf) | (unfold ObjOk; conv => whnf) | (unfold okCells; conv => whnf) | (unfold liveTo; conv => whnf) | exact Nat.zero_lt_succ _))
       ·exact ObWk.of_eq (by rw [← e1]; rfl)
       ·exact Wk.of_eq (by rw [← e1]; rfl)
     ·have nb : decide (nm = [47, 47]) = false := decide_eq_false (of_decide_eq_false bq)
      have hqv : q2 = (f, true) := by rw [hq2, nb]; simp only [fieldR, fmtR, hfm]; rfl
      have e2 : q2.2 = true := by rw [hqv]
      have e1 : q2.1 = f := by rw [hqv]
      (conv => whnf)
      refine ⟨_, appL (f := byteD) (xs := A ++ q1.1) (ys := f) (zs := A ++ q1.1 ++ f) rfl rfl (fun _ => rfl) rfl (by simp only [List.length_append, List.length_replicate, hAl, fl]; show _ * 1 ≤ _; omega), ?_⟩
      (conv => whnf)
      refine ⟨_, add64 (c := ((2 : Nat) : Int)) rfl (by omega), ?_⟩
      (conv => whnf)
      refine ⟨2, ⟨⟨by omega, fun _ => i1 (by omega), fun _ => by first | exact e2 | rfl, fun h => absurd h (by omega), fun h => absurd h (by omega), fun h => absurd h (by omega)⟩, by show 5 - 2 < 5 - 1; omega⟩, ?_⟩
      (repeat' (first | exact trivial | exact Wk.refl _ | exact ObWk.refl _ | exact rfl | exact ⟨_, rfl⟩ | exact Nat.zero_lt_one | refine And.intro ?_ ?_ | unfold okTo | (unfold okO; conv => whnf) | (unfold okS; conv => whnf) | (unfold SlotOk; conv => whnf) | (unfold ObjOk; conv => whnf) | (unfold okCells; conv => whnf) | (unfold liveTo; conv => whnf) | exact Nat.zero_lt_succ _))
      ·exact ObWk.of_eq (by rw [← e1]; rfl)
      ·exact Wk.of_eq (by rw [← e1]; rfl)
   ·(conv => whnf)
    refine ⟨_, ⟨by decide, rfl⟩, ?_⟩
    (conv => whnf)
    refine CallLeaf.oa [0] (at3_ ⟨nm, dt, ui, gi, mo, si⟩) rfl rfl rfl rfl ?_
    (conv => whnf)
    have DF := dformat_ gi 10 6 (.inr rfl) (by omega) (by omega) h3'
    cases hfm : fmt 10 6 gi with
    | none =>
     have DF' : FCall Tryd.prog Gl 41 [vI gi, vI ((10 : Nat) : Int), vI ((6 : Nat) : Int)] [] (.tuple [LBn [], vI 9]) [] := by simpa only [fmtR, hfm] using DF
     have e2 : q3.2 = false := by
      rw [hq3]; unfold fieldR
      split
      ·exact decide_eq_false (fun h => by
        obtain ⟨f, hf0⟩ := fmt_zero (b := 10) (w := 6) (by omega) (by omega)
        rw [h, hf0] at hfm; cases hfm)
      ·simp only [fmtR, hfm]; rfl
     (conv => whnf)
     refine CallLeaf.wa (DF') rfl ?_
     (conv => whnf)
     refine split_intro (fun bq => ?_) (fun bq => ?_)
     ·simp only [e2, Bool.false_and, Bool.and_false, Bool.false_eq_true, if_false]
      (conv => whnf)
      exact Wk.tuple (Wks.cons (Wk.natN rfl) (Wks.cons (Wk.refl _) Wks.nil))
     ·simp only [e2, Bool.false_and, Bool.and_false, Bool.false_eq_true, if_false]
      (conv => whnf)
      exact Wk.tuple (Wks.cons (Wk.natN rfl) (Wks.cons (Wk.refl _) Wks.nil))
    | some f =>
     have fl := fmt_len hfm
     have DF' : FCall Tryd.prog Gl 41 [vI gi, vI ((10 : Nat) : Int), vI ((6 : Nat) : Int)] [] (.tuple [LBn f, vI 0]) [] := by simpa only [fmtR, hfm] using DF
     (conv => whnf)
     refine CallLeaf.wa (DF') rfl ?_
     (conv => whnf)
     refine split_intro (fun bq => ?_) (fun bq => ?_)
     ·have hb : nm = [47, 47] := of_decide_eq_true bq
      have hqv : q3 = (sp 6, decide (gi = 0)) := by rw [hq3, decide_eq_true hb]; rfl
      (conv => whnf)
      refine split_intro (fun nz => ?_) (fun nz => ?_)
      ·have e2 : q3.2 = false := by rw [hqv]; exact decide_eq_false (fun h => by have nz' : (gi != 0) = true := nz; rw [h] at nz'; exact absurd nz' (by decide))
       simp only [e2, Bool.false_and, Bool.and_false, Bool.false_eq_true, if_false]
       (conv => whnf)
       exact Wk.tuple (Wks.cons (Wk.natN rfl) (Wks.cons (Wk.refl _) Wks.nil))
      ·have e0 : gi = 0 := by
        rcases Int.lt_trichotomy gi 0 with h | h | h
        ·have : (gi != 0) = true := by simp; omega
         rw [this] at nz; cases nz
        ·exact h
        ·have : (gi != 0) = true := by simp; omega
         rw [this] at nz; cases nz
       have e2 : q3.2 = true := by rw [hqv]; exact decide_eq_true e0
       have e1 : q3.1 = sp 6 := by rw [hqv]
       (conv => whnf)
       refine CallLeaf.wa (repeat_ 6 (by omega)) rfl ?_
       (conv => whnf)
       refine ⟨by show (sp 6).length ≤ _; rw [List.length_replicate]; omega, ?_⟩
       (conv => whnf)
       refine ⟨_, appL (f := byteD) (xs := A ++ q1.1 ++ q2.1) (ys := sp 6) (zs := A ++ q1.1 ++ q2.1 ++ sp 6) rfl rfl (fun _ => rfl) rfl (by simp only [List.length_append, List.length_replicate, hAl, fl]; show _ * 1 ≤ _; omega), ?_⟩
       (conv => whnf)
       refine ⟨_, add64 (c := ((3 : Nat) : Int)) rfl (by omega), ?_⟩
       (conv => whnf)
       refine ⟨3, ⟨⟨by omega, fun _ => i1 (by omega), fun _ => i2 (by omega), fun _ => by first | exact e2 | rfl, fun h => absurd h (by omega), fun h => absurd h (by omega)⟩, by show 5 - 3 < 5 - 2; omega⟩, ?_⟩
       (repeat' (first | exact trivial | exact Wk.refl _ | exact ObWk.refl _ | exact rfl | exact ⟨_, rfl⟩ | exact Nat.zero_lt_one | refine And.intro ?_ ?_ | unfold okTo | (unfold okO; conv => whnf) | (unfold okS; conv => whnf) | (unfold SlotOk; conv => whnf) | (unfold ObjOk; conv => whnf) | (unfold okCells; conv => whnf) | (unfold liveTo; conv => whnf) | exact Nat.zero_lt_succ _))
       ·exact ObWk.of_eq (by rw [← e1]; rfl)
       ·exact Wk.of_eq (by rw [← e1]; rfl)
     ·have nb : decide (nm = [47, 47]) = false := decide_eq_false (of_decide_eq_false bq)
      have hqv : q3 = (f, true) := by rw [hq3, nb]; simp only [fieldR, fmtR, hfm]; rfl
      have e2 : q3.2 = true := by rw [hqv]
      have e1 : q3.1 = f := by rw [hqv]
      (conv => whnf)
      refine ⟨_, appL (f := byteD) (xs := A ++ q1.1 ++ q2.1) (ys := f) (zs := A ++ q1.1 ++ q2.1 ++ f) rfl rfl (fun _ => rfl) rfl (by simp only [List.length_append, List.length_replicate, hAl, fl]; show _ * 1 ≤ _; omega), ?_⟩
      (conv => whnf)
      refine ⟨_, add64 (c := ((3 : Nat) : Int)) rfl (by omega), ?_⟩
      (conv => whnf)
      refine ⟨3, ⟨⟨by omega, fun _ => i1 (by omega), fun _ => i2 (by omega), fun _ => by first | exact e2 | rfl, fun h => absurd h (by omega), fun h => absurd h (by omega)⟩, by show 5 - 3 < 5 - 2; omega⟩, ?_⟩
      (repeat' (first | exact trivial | exact Wk.refl _ | exact ObWk.refl _ | exact rfl | exact ⟨_, rfl⟩ | exact Nat.zero_lt_one | refine And.intro ?_ ?_ | unfold okTo | (unfold okO; conv => whnf) | (unfold okS; conv => whnf) | (unfold SlotOk; conv => whnf) | (unfold ObjOk; conv => whnf) | (unfold okCells; conv => whnf) | (unfold liveTo; conv => whnf) | exact Nat.zero_lt_succ _))
      ·exact ObWk.of_eq (by rw [← e1]; rfl)
      ·exact Wk.of_eq (by rw [← e1]; rfl)
   ·(conv => whnf)
    refine ⟨_, ⟨by decide, rfl⟩, ?_⟩
    (conv => whnf)
    refine CallLeaf.oa [0] (at4_ ⟨nm, dt, ui, gi, mo, si⟩) rfl rfl rfl rfl ?_
    (conv => whnf)
    have DF := dformat_ mo 8 8 (.inl rfl) (by omega) (by omega) h4'
    cases hfm : fmt 8 8 mo with
    | none =>
     have DF' : FCall Tryd.prog Gl 41 [vI mo, vI ((8 : Nat) : Int), vI ((8 : Nat) : Int)] [] (.tuple [LBn [], vI 9]) [] := by simpa only [fmtR, hfm] using DF
     have e2 : q4.2 = false := by
      rw [hq4]; unfold fieldR
      split
      ·exact decide_eq_false (fun h => by
        obtain ⟨f, hf0⟩ := fmt_zero (b := 8) (w := 8) (by omega) (by omega)
        rw [h, hf0] at hfm; cases hfm)
      ·simp only [fmtR, hfm]; rfl
     (conv => whnf)
     refine CallLeaf.wa (DF') rfl ?_
     (conv => whnf)
     refine split_intro (fun bq => ?_) (fun bq => ?_)
     ·simp only [e2, Bool.false_and, Bool.and_false, Bool.false_eq_true, if_false]
      (conv => whnf)
      exact Wk.tuple (Wks.cons (Wk.natN rfl) (Wks.cons (Wk.refl _) Wks.nil))
     ·simp only [e2, Bool.false_and, Bool.and_false, Bool.false_eq_true, if_false]
      (conv => whnf)
      exact Wk.tuple (Wks.cons (Wk.natN rfl) (Wks.cons (Wk.refl _) Wks.nil))
    | some f =>
     have fl := fmt_len hfm
     have DF' : FCall Tryd.prog Gl 41 [vI mo, vI ((8 : Nat) : Int), vI ((8 : Nat) : Int)] [] (.tuple [LBn f, vI 0]) [] := by simpa only [fmtR, hfm] using DF
     (conv => whnf)
     refine CallLeaf.wa (DF') rfl ?_
     (conv => whnf)
     refine split_intro (fun bq => ?_) (fun bq => ?_)
     ·have hb : nm = [47, 47] := of_decide_eq_true bq
      have hqv : q4 = (sp 8, decide (mo = 0)) := by rw [hq4, decide_eq_true hb]; rfl
      (conv => whnf)
      refine split_intro (fun nz => ?_) (fun nz => ?_)
      ·have e2 : q4.2 = false := by rw [hqv]; exact decide_eq_false (fun h => by have nz' : (mo != 0) = true := nz; rw [h] at nz'; exact absurd nz' (by decide))
       simp only [e2, Bool.false_and, Bool.and_false, Bool.false_eq_true, if_false]
       (conv => whnf)
       exact Wk.tuple (Wks.cons (Wk.natN rfl) (Wks.cons (Wk.refl _) Wks.nil))
      ·have e0 : mo = 0 := by
        rcases Int.lt_trichotomy mo 0 with h | h | h
        ·have : (mo != 0) = true := by simp; omega
         rw [this] at nz; cases nz
        ·exact h
        ·have : (mo != 0) = true := by simp; omega
         rw [this] at nz; cases nz
       have e2 : q4.2 = true := by rw [hqv]; exact decide_eq_true e0
       have e1 : q4.1 = sp 8 := by rw [hqv]
       (conv => whnf)
       refine CallLeaf.wa (repeat_ 8 (by omega)) rfl ?_
       (conv => whnf)
       refine ⟨by show (sp 8).length ≤ _; rw [List.length_replicate]; omega, ?_⟩
       (conv => whnf)
       refine ⟨_, appL (f := byteD) (xs := A ++ q1.1 ++ q2.1 ++ q3.1) (ys := sp 8) (zs := A ++ q1.1 ++ q2.1 ++ q3.1 ++ sp 8) rfl rfl (fun _ => rfl) rfl (by simp only [List.length_append, List.length_replicate, hAl, fl]; show _ * 1 ≤ _; omega), ?_⟩
       (conv => whnf)
       refine ⟨_, add64 (c := ((4 : Nat) : Int)) rfl (by omega), ?_⟩
       (conv => whnf)
       refine ⟨4, ⟨⟨by omega, fun _ => i1 (by omega), fun _ => i2 (by omega), fun _ => i3 (by omega), fun _ => by first | exact e2 | rfl, fun h => absurd h (by omega)⟩, by show 5 - 4 < 5 - 3; omega⟩, ?_⟩
       (repeat' (first | exact trivial | exact Wk.refl _ | exact ObWk.refl _ | exact rfl | exact ⟨_, rfl⟩ | exact Nat.zero_lt_one | refine And.intro ?_ ?_ | unfold okTo | (unfold okO; conv => whnf) | (unfold okS; conv => whnf) | (unfold SlotOk; conv => whnf) | (unfold ObjOk; conv => whnf) | (unfold okCells; conv => whnf) | (unfold liveTo; conv => whnf) | exact Nat.zero_lt_succ _))
       ·exact ObWk.of_eq (by rw [← e1]; rfl)
       ·exact Wk.of_eq (by rw [← e1]; rfl)
     ·have nb : decide (nm = [47, 47]) = false := decide_eq_false (of_decide_eq_false bq)
      have hqv : q4 = (f, true) := by rw [hq4, nb]; simp only [fieldR, fmtR, hfm]; rfl
      have e2 : q4.2 = true := by rw [hqv]
      have e1 : q4.1 = f := by rw [hqv]
      (conv => whnf)
      refine ⟨_, appL (f := byteD) (xs := A ++ q1.1 ++ q2.1 ++ q3.1) (ys := f) (zs := A ++ q1.1 ++ q2.1 ++ q3.1 ++ f) rfl rfl (fun _ => rfl) rfl (by simp only [List.length_append, List.length_replicate, hAl, fl]; show _ * 1 ≤ _; omega), ?_⟩
      (conv => whnf)
      refine ⟨_, add64 (c := ((4 : Nat) : Int)) rfl (by omega), ?_⟩
      (conv => whnf)
      refine ⟨4, ⟨⟨by omega, fun _ => i1 (by omega), fun _ => i2 (by omega), fun _ => i3 (by omega), fun _ => by first | exact e2 | rfl, fun h => absurd h (by omega)⟩, by show 5 - 4 < 5 - 3; omega⟩, ?_⟩
      (repeat' (first | exact trivial | exact Wk.refl _ | exact ObWk.refl _ | exact rfl | exact ⟨_, rfl⟩ | exact Nat.zero_lt_one | refine And.intro ?_ ?_ | unfold okTo | (unfold okO; conv => whnf) | (unfold okS; conv => whnf) | (unfold SlotOk; conv => whnf) | (unfold ObjOk; conv => whnf) | (unfold okCells; conv => whnf) | (unfold liveTo; conv => whnf) | exact Nat.zero_lt_succ _))
      ·exact ObWk.of_eq (by rw [← e1]; rfl)
      ·exact Wk.of_eq (by rw [← e1]; rfl)
   ·(conv => whnf)
    refine ⟨_, ⟨by decide, rfl⟩, ?_⟩
    (conv => whnf)
    refine CallLeaf.oa [0] (at5_ ⟨nm, dt, ui, gi, mo, si⟩) rfl rfl rfl rfl ?_
    (conv => whnf)
    have DF := dformat_ si 10 10 (.inr rfl) (by omega) (by omega) h5'
    cases hfm : fmt 10 10 si with
    | none =>
     have DF' : FCall Tryd.prog Gl 41 [vI si, vI ((10 : Nat) : Int), vI ((10 : Nat) : Int)] [] (.tuple [LBn [], vI 9]) [] := by simpa only [fmtR, hfm] using DF
     have e2 : q5.2 = false := by
      rw [hq5]; unfold fieldR
      split
      ·exact decide_eq_false (fun h => by
        obtain ⟨f, hf0⟩ := fmt_zero (b := 10) (w := 10) (by omega) (by omega)
        rw [h, hf0] at hfm; cases hfm)
      ·simp only [fmtR, hfm]; rfl
     (conv => whnf)
     refine CallLeaf.wa (DF') rfl ?_
     (conv => whnf)
     refine split_intro (fun bq => ?_) (fun bq => ?_)
     ·simp only [e2, Bool.false_and, Bool.and_false, Bool.false_eq_true, if_false]
      (conv => whnf)
      exact Wk.tuple (Wks.cons (Wk.natN rfl) (Wks.cons (Wk.refl _) Wks.nil))
     ·simp only [e2, Bool.false_and, Bool.and_false, Bool.false_eq_true, if_false]
      (conv => whnf)
      exact Wk.tuple (Wks.cons (Wk.natN rfl) (Wks.cons (Wk.refl _) Wks.nil))
    | some f =>
     have fl := fmt_len hfm
     have DF' : FCall Tryd.prog Gl 41 [vI si, vI ((10 : Nat) : Int), vI ((10 : Nat) : Int)] [] (.tuple [LBn f, vI 0]) [] := by simpa only [fmtR, hfm] using DF
     (conv => whnf)
     refine CallLeaf.wa (DF') rfl ?_
     (conv => whnf)
     refine split_intro (fun bq => ?_) (fun bq => ?_)
     ·have hqv : q5 = (f, true) := by rw [hq5]; simp only [fieldR, fmtR, hfm]; rfl
      have e2 : q5.2 = true := by rw [hqv]
      have e1 : q5.1 = f := by rw [hqv]
      (conv => whnf)
      refine ⟨_, appL (f := byteD) (xs := A ++ q1.1 ++ q2.1 ++ q3.1 ++ q4.1) (ys := f) (zs := A ++ q1.1 ++ q2.1 ++ q3.1 ++ q4.1 ++ f) rfl rfl (fun _ => rfl) rfl (by simp only [List.length_append, List.length_replicate, hAl, fl]; show _ * 1 ≤ _; omega), ?_⟩
      (conv => whnf)
      refine ⟨_, add64 (c := ((5 : Nat) : Int)) rfl (by omega), ?_⟩
      (conv => whnf)
      refine ⟨5, ⟨⟨by omega, fun _ => i1 (by omega), fun _ => i2 (by omega), fun _ => i3 (by omega), fun _ => i4 (by omega), fun _ => by first | exact e2 | rfl⟩, by show 5 - 5 < 5 - 4; omega⟩, ?_⟩
      (repeat' (first | exact trivial | exact Wk.refl _ | exact ObWk.refl _ | exact rfl | exact ⟨_, rfl⟩ | exact Nat.zero_lt_one | refine And.intro ?_ ?_ | unfold okTo | (unfold okO; conv => whnf) | (unfold okS; conv => whnf) | (unfold SlotOk; conv => whnf) | (unfold ObjOk; conv => whnf) | (unfold okCells; conv => whnf) | (unfold liveTo; conv => whnf) | exact Nat.zero_lt_succ _))
      ·exact ObWk.of_eq (by rw [← e1]; rfl)
      ·exact Wk.of_eq (by rw [← e1]; rfl)
     ·have hqv : q5 = (f, true) := by rw [hq5]; simp only [fieldR, fmtR, hfm]; rfl
      have e2 : q5.2 = true := by rw [hqv]
      have e1 : q5.1 = f := by rw [hqv]
      (conv => whnf)
      refine ⟨_, appL (f := byteD) (xs := A ++ q1.1 ++ q2.1 ++ q3.1 ++ q4.1) (ys := f) (zs := A ++ q1.1 ++ q2.1 ++ q3.1 ++ q4.1 ++ f) rfl rfl (fun _ => rfl) rfl (by simp only [List.length_append, List.length_replicate, hAl, fl]; show _ * 1 ≤ _; omega), ?_⟩
      (conv => whnf)
      refine ⟨_, add64 (c := ((5 : Nat) : Int)) rfl (by omega), ?_⟩
      (conv => whnf)
      refine ⟨5, ⟨⟨by omega, fun _ => i1 (by omega), fun _ => i2 (by omega), fun _ => i3 (by omega), fun _ => i4 (by omega), fun _ => by first | exact e2 | rfl⟩, by show 5 - 5 < 5 - 4; omega⟩, ?_⟩
      (repeat' (first | exact trivial | exact Wk.refl _ | exact ObWk.refl _ | exact rfl | exact ⟨_, rfl⟩ | exact Nat.zero_lt_one | refine And.intro ?_ ?_ | unfold okTo | (unfold okO; conv => whnf) | (unfold okS; conv => whnf) | (unfold SlotOk; conv => whnf) | (unfold ObjOk; conv => whnf) | (unfold okCells; conv => whnf) | (unfold liveTo; conv => whnf) | exact Nat.zero_lt_succ _))
      ·exact ObWk.of_eq (by rw [← e1]; rfl)
      ·exact Wk.of_eq (by rw [← e1]; rfl)
   ·have j1 := i1 (by omega)
    have j2 := i2 (by omega)
    have j3 := i3 (by omega)
    have j4 := i4 (by omega)
    have j5 := i5 (by omega)
    simp only [j1, j2, j3, j4, j5, Bool.and_self, if_true]
    (conv => whnf)
    refine ⟨_, appL (f := byteD) (xs := A ++ q1.1 ++ q2.1 ++ q3.1 ++ q4.1 ++ q5.1) (ys := [96, 10]) (zs := A ++ q1.1 ++ q2.1 ++ q3.1 ++ q4.1 ++ q5.1 ++ [96, 10]) rfl rfl (fun _ => rfl) rfl (by simp only [List.length_append, List.length_cons, List.length_nil, hAl]; show _ * 1 ≤ _; omega), ?_⟩
    (conv => whnf)
    exact Wk.tuple (Wks.cons (Wk.nat' rfl) (Wks.cons (Wk.refl _) Wks.nil))
theorem hfitsF_ (h : Hdr) (hl : h.name.length < 4294967281) (h1 : h.date ≤ 9223372036854775807) (h2 : h.uid ≤ 9223372036854775807) (h3 : h.gid ≤ 9223372036854775807) (h4 : h.mode ≤ 9223372036854775807) (h5 : h.size ≤ 9223372036854775807) :
  FCall Tryd.prog Gl 22 [.agg h.enc] [] (vI (encR h).2) [] := by
 have E := hencode_ h hl h1 h2 h3 h4 h5
 obtain ⟨nm, dt, ui, gi, mo, si⟩ := h
 refine FCall.enterL hT hmix [] Tryd.func22 rfl rfl rfl fun hbd => ?_
 (conv => whnf)
 refine CallLeaf.wa (E) rfl ?_
 (conv => whnf)
 exact Wk.refl _
end Go.Proofs.YtjbcifgclobjdaaDoor.H

namespace Go.Proofs.YtjbcifgclobjdaaDoor.H
open Go Go.AL Go.AL.Hd
set_option maxRecDepth 100000
set_option maxHeartbeats 8000000
theorem fmt0 {b w : Nat} (hb : 2 ≤ b) (hw : 1 ≤ w) : fmt b w 0 = some ([48] ++ sp (w - 1)) := by
 unfold fmt
 rw [Int.toNat_zero, dig_lt (show 0 < b by omega), if_neg (by simp; omega)]; rfl
theorem fmt7 : fmt 10 10 7 = some ([55] ++ sp 9) := by
 unfold fmt
 rw [show (7 : Int).toNat = 7 from rfl, dig_lt (show 7 < 10 by omega), if_neg (by simp)]; rfl
abbrev BA : Str := [97, 47] ++ sp 14 ++ ([48] ++ sp 11) ++ ([48] ++ sp 5) ++ ([48] ++ sp 5) ++ ([48] ++ sp 7) ++ ([48] ++ sp 9) ++ [96, 10]
abbrev BT : Str := [47, 47] ++ sp 14 ++ sp 12 ++ sp 6 ++ sp 6 ++ sp 8 ++ ([55] ++ sp 9) ++ [96, 10]
theorem a1 : encR ⟨[97, 47], 0, 0, 0, 0, 0⟩ = (BA, 0) := by
 have hf : fitN [97, 47] = true := by decide
 have hn : decide (([97, 47] : Str) = [47, 47]) = false := by decide
 unfold encR
 simp only [hf, if_true, hn, fieldR, Bool.false_eq_true, if_false, fmtR, fmt0 (show 2 ≤ 10 by omega) (show 1 ≤ 12 by omega), fmt0 (show 2 ≤ 10 by omega) (show 1 ≤ 6 by omega), fmt0 (show 2 ≤ 8 by omega) (show 1 ≤ 8 by omega), fmt0 (show 2 ≤ 10 by omega) (show 1 ≤ 10 by omega)]
 rfl
theorem a2 : encR ⟨[47, 47], 0, 0, 0, 0, 7⟩ = (BT, 0) := by
 have hf : fitN [47, 47] = true := by decide
 have hn : decide (([47, 47] : Str) = [47, 47]) = true := by decide
 unfold encR
 simp only [hf, if_true, hn, fieldR, Bool.false_eq_true, if_false, fmtR, fmt7]
 rfl
theorem a3 : encR ⟨[47, 47], 0, 0, 0, 7, 0⟩ = ([], 9) := by
 have hf : fitN [47, 47] = true := by decide
 have hn : decide (([47, 47] : Str) = [47, 47]) = true := by decide
 unfold encR
 simp only [hf, if_true, hn, fieldR, Bool.false_eq_true, if_false, fmtR]
 rfl
theorem a4 : encR ⟨[], 0, 0, 0, 0, 0⟩ = ([], 6) := by
 have hf : fitN [] = false := by decide
 unfold encR
 simp only [hf, Bool.false_eq_true, if_false]
theorem a5 : decR BA = (⟨[97, 47], 0, 0, 0, 0, 0⟩, 0) := by
 have := (enc_dec ⟨[97, 47], 0, 0, 0, 0, 0⟩ [] (by rw [a1])).2
 rw [a1, List.append_nil] at this
 exact this
theorem plainH (h : Hdr) : plainEq Tryd.prog 29 h.enc = true := by
 obtain ⟨a, b, c, d, e, f⟩ := h
 kernel_rfl
theorem awake2_ : FCall Tryd.prog Gl 14 [] [] (vB true) [] := by
 have E1 := hencode_ ⟨[97, 47], 0, 0, 0, 0, 0⟩ (by decide) (by decide) (by decide) (by decide) (by decide) (by decide)
 have E2 := hencode_ ⟨[47, 47], 0, 0, 0, 0, 7⟩ (by decide) (by decide) (by decide) (by decide) (by decide) (by decide)
 have E3 := hencode_ ⟨[47, 47], 0, 0, 0, 7, 0⟩ (by decide) (by decide) (by decide) (by decide) (by decide) (by decide)
 have E4 := hencode_ ⟨[], 0, 0, 0, 0, 0⟩ (by decide) (by decide) (by decide) (by decide) (by decide) (by decide)
 have D1 := hdecode_ BA
 rw [a1] at E1
 rw [a2] at E2
 rw [a3] at E3
 rw [a4] at E4
 rw [a5] at D1
 refine FCall.enterL hT hmix [] Tryd.func14 rfl rfl rfl fun hbd => ?_
 (conv => whnf)
 refine CallLeaf.wa (E1) rfl ?_
 (conv => whnf)
 refine CallLeaf.wa (E2) rfl ?_
 (conv => whnf)
 refine CallLeaf.wa (E3) rfl ?_
 (conv => whnf)
 refine CallLeaf.wa (E4) rfl ?_
 (conv => whnf)
 refine CallLeaf.wa (D1) rfl ?_
 (conv => whnf)
 refine ⟨BA, rfl, ?_⟩
 (conv => whnf)
 refine ⟨BT, rfl, ?_⟩
 (conv => whnf)
 refine ⟨plainH ⟨[97, 47], 0, 0, 0, 0, 0⟩, ?_⟩
 (conv => whnf)
 exact Wk.refl _
theorem forward2_ (h : Hdr) : FCall Tryd.prog Gl 16 [.agg h.enc] [] (.agg h.enc) [] := by
 refine FCall.enterL hT hmix [] Tryd.func16 rfl rfl rfl fun hbd => ?_
 (conv => whnf)
 exact Wk.refl _
theorem add_ (a b : Str) (h : a.length + b.length ≤ 140737488355328) : FCall Tryd.prog Gl 18 [LB a, LB b] [] (LBn (a ++ b)) [] := by
 refine FCall.enterL hT hmix [] Tryd.func18 rfl rfl rfl fun hbd => ?_
 (conv => whnf)
 refine ⟨_, appL (f := byteD) (xs := []) (ys := a) (zs := a) rfl rfl (fun _ => rfl) rfl (by show _ * 1 ≤ _; omega), ?_⟩
 (conv => whnf)
 refine ⟨_, appL (f := byteD) (xs := a) (ys := b) (zs := a ++ b) rfl rfl (fun _ => rfl) rfl (by rw [List.length_append]; show _ * 1 ≤ _; omega), ?_⟩
 (conv => whnf)
 exact Wk.nat' rfl
theorem hbounds_ (a b c d e : Int) (h1 : a ≤ 9223372036854775807) (h2 : b ≤ 9223372036854775807) (h3 : c ≤ 9223372036854775807) (h4 : d ≤ 9223372036854775807) (h5 : e ≤ 9223372036854775807) :
  FCall Tryd.prog Gl 7 [vI a, vI b, vI c, vI d, vI e] [] (vB true) [] := by
 have FI := hfitsF_ ⟨[120, 47], a, b, c, d, e⟩ (show ([120, 47] : Str).length < 4294967281 by decide) h1 h2 h3 h4 h5
 have BD := bounds a b c d e
 have OE := encR_only ⟨[120, 47], a, b, c, d, e⟩
 have N6 : (encR ⟨[120, 47], a, b, c, d, e⟩).2 ≠ 6 := by
  have hf : fitN [120, 47] = true := by decide
  unfold encR
  simp only [hf, if_true]
  split <;> simp
 revert FI BD OE N6
 generalize (encR ⟨[120, 47], a, b, c, d, e⟩).2 = r
 intro FI BD OE N6
 refine FCall.enterL hT hmix [] Tryd.func7 rfl rfl rfl fun hbd => ?_
 (conv => whnf)
 refine CallLeaf.wa (awake2_) rfl ?_
 (conv => whnf)
 refine CallLeaf.wa (FI) rfl ?_
 (conv => whnf)
 refine split_intro (fun k0 => ?_) (fun k0 => ?_)
 rotate_left
 ·have := of_decide_eq_false k0
  obtain rfl : r = 9 := by omega
  (conv => whnf)
  exact Wk.refl _
 have m0 := of_decide_eq_true k0
 (conv => whnf)
 refine split_intro (fun k1 => ?_) (fun k1 => ?_)
 rotate_left
 ·have := of_decide_eq_false k1
  obtain rfl : r = 9 := by omega
  (conv => whnf)
  exact Wk.refl _
 have m1 := of_decide_eq_true k1
 (conv => whnf)
 refine split_intro (fun k2 => ?_) (fun k2 => ?_)
 rotate_left
 ·have := of_decide_eq_false k2
  obtain rfl : r = 9 := by omega
  (conv => whnf)
  exact Wk.refl _
 have m2 := of_decide_eq_true k2
 (conv => whnf)
 refine split_intro (fun k3 => ?_) (fun k3 => ?_)
 rotate_left
 ·have := of_decide_eq_false k3
  obtain rfl : r = 9 := by omega
  (conv => whnf)
  exact Wk.refl _
 have m3 := of_decide_eq_true k3
 (conv => whnf)
 refine split_intro (fun k4 => ?_) (fun k4 => ?_)
 rotate_left
 ·have := of_decide_eq_false k4
  obtain rfl : r = 9 := by omega
  (conv => whnf)
  exact Wk.refl _
 have m4 := of_decide_eq_true k4
 (conv => whnf)
 refine split_intro (fun k5 => ?_) (fun k5 => ?_)
 rotate_left
 ·have := of_decide_eq_false k5
  obtain rfl : r = 9 := by omega
  (conv => whnf)
  exact Wk.refl _
 have m5 := of_decide_eq_true k5
 (conv => whnf)
 refine split_intro (fun k6 => ?_) (fun k6 => ?_)
 rotate_left
 ·have := of_decide_eq_false k6
  obtain rfl : r = 9 := by omega
  (conv => whnf)
  exact Wk.refl _
 have m6 := of_decide_eq_true k6
 (conv => whnf)
 refine split_intro (fun k7 => ?_) (fun k7 => ?_)
 rotate_left
 ·have := of_decide_eq_false k7
  obtain rfl : r = 9 := by omega
  (conv => whnf)
  exact Wk.refl _
 have m7 := of_decide_eq_true k7
 (conv => whnf)
 refine split_intro (fun k8 => ?_) (fun k8 => ?_)
 rotate_left
 ·have := of_decide_eq_false k8
  obtain rfl : r = 9 := by omega
  (conv => whnf)
  exact Wk.refl _
 have m8 := of_decide_eq_true k8
 (conv => whnf)
 by_cases he : e < 10000000000
 ·obtain rfl : r = 0 := by omega
  rw [decide_eq_true he]
  (conv => whnf)
  exact Wk.refl _
 ·obtain rfl : r = 9 := by omega
  rw [decide_eq_false he]
  (conv => whnf)
  exact Wk.refl _
theorem err_ne {r : Int} (h : ¬ r = 0) : (r != 0) = true := by simp [h]
theorem hunique_ (l : Str) (hb0 : l.length ≤ 140737488351232) : FCall Tryd.prog Gl 4 [LB l] [] (vB true) [] := by
 have D := hdecode_ l
 refine FCall.enterL hT hmix [] Tryd.func4 rfl rfl rfl fun hbd => ?_
 (conv => whnf)
 refine CallLeaf.wa (awake2_) rfl ?_
 (conv => whnf)
 refine split_intro (fun g => ?_) (fun g => ?_)
 ·(conv => whnf)
  refine CallLeaf.wa (awake2_) rfl ?_
  (conv => whnf)
  exact Wk.refl _
 ·(conv => whnf)
  by_cases he : (decR l).2 = 0
  ·obtain ⟨h60, hE⟩ := dec_enc he
   obtain ⟨b0, b1, b2, b3, b4, b5⟩ := encR_bd (h := (decR l).1) (by rw [hE])
   have E := hencode_ (decR l).1 (by omega) (by omega) (by omega) (by omega) (by omega) (by omega)
   rw [hE] at E
   rw [he] at D
   revert D E
   generalize (decR l).1 = h
   intro D E
   refine CallLeaf.wa (D) rfl ?_
   obtain ⟨nm, dt, ui, gi, mo, si⟩ := h
   (conv => whnf)
   refine CallLeaf.wa (E) rfl ?_
   (conv => whnf)
   have hl : ((l.map byteD).length : Int) = (l.length : Nat) := by rw [List.length_map]
   refine split_intro (fun g3 => ?_) (fun g3 => ?_)
   ·(conv => whnf)
    refine ⟨(l.take 60).map byteD, ⟨by omega, by omega, by rw [List.length_map]; omega, (fun q hq => by obtain ⟨y, _, rfl⟩ := List.mem_map.1 hq; rfl), by simp [List.map_take]⟩, ?_⟩
    (conv => whnf)
    refine CallLeaf.wa (O.same_ (l.take 60) (l.take 60)) rfl ?_
    (conv => whnf)
    exact Wk.bool (by simp)
   ·exfalso
    have := of_decide_eq_false g3
    omega
  ·have h0 := decR_err he
   rw [h0] at D
   revert D he
   generalize (decR l).2 = r
   intro D he
   refine CallLeaf.wa (D) rfl ?_
   (conv => whnf)
   refine split_intro (fun g2 => ?_) (fun g2 => ?_)
   ·(conv => whnf)
    refine ⟨plainH hdr0, ?_⟩
    (conv => whnf)
    exact Wk.refl _
   ·exfalso; have g2' : (r != 0) = false := g2; rw [err_ne he] at g2'; cases g2'
theorem hround_ (h : Hdr) (rest : Str) (hb0 : rest.length ≤ 140737488351232) (h1 : h.date ≤ 9223372036854775807) (h2 : h.uid ≤ 9223372036854775807) (h3 : h.gid ≤ 9223372036854775807) (h4 : h.mode ≤ 9223372036854775807) (h5 : h.size ≤ 9223372036854775807) :
  FCall Tryd.prog Gl 3 [.agg h.enc, LB rest] [] (vB true) [] := by
 have hs := sB_sz h.name
 refine FCall.enterL hT hmix [] Tryd.func3 rfl rfl rfl fun hbd => ?_
 obtain ⟨nm, dt, ui, gi, mo, si⟩ := h
 replace hs : (sB nm).size = nm.length := hs
 (conv => whnf)
 refine CallLeaf.wa (awake2_) rfl ?_
 (conv => whnf)
 refine split_intro (fun g => ?_) (fun g => ?_)
 ·(conv => whnf)
  refine CallLeaf.wa (awake2_) rfl ?_
  (conv => whnf)
  exact Wk.refl _
 ·have g' := of_decide_eq_false (show decide ((100 : Int) < ((sB nm).size : Nat)) = false from g)
  have hnl : nm.length ≤ 100 := by omega
  have FW := forward2_ ⟨nm, dt, ui, gi, mo, si⟩
  have E := hencode_ ⟨nm, dt, ui, gi, mo, si⟩ (show nm.length < 4294967281 by omega) h1 h2 h3 h4 h5
  have EO := encR_only ⟨nm, dt, ui, gi, mo, si⟩
  have EE := encR_err ⟨nm, dt, ui, gi, mo, si⟩
  have ED := enc_dec ⟨nm, dt, ui, gi, mo, si⟩ rest
  (conv => whnf)
  refine split_intro (fun gg => ?_) (fun gg => ?_)
  ·(conv => whnf)
   refine CallLeaf.wa (awake2_) rfl ?_
   (conv => whnf)
   exact Wk.refl _
  ·(conv => whnf)
   refine CallLeaf.wa (FW) rfl ?_
   revert E EO EE ED
   generalize encR ⟨nm, dt, ui, gi, mo, si⟩ = p
   obtain ⟨bs, r⟩ := p
   intro E EO EE ED
   simp only at E EO EE ED
   by_cases he : r = 0
   ·subst he
    obtain ⟨e1, e2⟩ := ED rfl
    have AD := add_ bs rest (by omega)
    have D := hdecode_ (bs ++ rest)
    rw [e2] at D
    (conv => whnf)
    refine CallLeaf.wa (E) rfl ?_
    (conv => whnf)
    refine CallLeaf.wa (AD) rfl ?_
    (conv => whnf)
    refine CallLeaf.wa (D) rfl ?_
    (conv => whnf)
    refine split_intro (fun q => ?_) (fun q => ?_)
    ·(conv => whnf)
     refine CallLeaf.wa (FW) rfl ?_
     (conv => whnf)
     refine ⟨plainH ⟨nm, dt, ui, gi, mo, si⟩, ?_⟩
     (conv => whnf)
     exact Wk.bool (by simp)
    ·exfalso; rw [List.length_map, e1] at q; cases q
   ·obtain ⟨e1, e2⟩ := EE he
    subst e1
    rcases e2 with rfl | rfl
    ·(conv => whnf)
     refine CallLeaf.wa (E) rfl ?_
     (conv => whnf)
     exact Wk.refl _
    ·(conv => whnf)
     refine CallLeaf.wa (E) rfl ?_
     (conv => whnf)
     exact Wk.refl _
theorem hmatch_ (h : Hdr) (b : Str) (hb0 : b.length ≤ 140737488351232) (h1 : h.date ≤ 9223372036854775807) (h2 : h.uid ≤ 9223372036854775807) (h3 : h.gid ≤ 9223372036854775807) (h4 : h.mode ≤ 9223372036854775807) (h5 : h.size ≤ 9223372036854775807) :
  FCall Tryd.prog Gl 6 [.agg h.enc, LB b] [] (vB true) [] := by
 have hs := sB_sz h.name
 refine FCall.enterL hT hmix [] Tryd.func6 rfl rfl rfl fun hbd => ?_
 obtain ⟨nm, dt, ui, gi, mo, si⟩ := h
 replace hs : (sB nm).size = nm.length := hs
 (conv => whnf)
 refine CallLeaf.wa (awake2_) rfl ?_
 (conv => whnf)
 refine split_intro (fun g => ?_) (fun g => ?_)
 ·(conv => whnf)
  refine CallLeaf.wa (awake2_) rfl ?_
  (conv => whnf)
  exact Wk.refl _
 ·have g' := of_decide_eq_false (show decide ((100 : Int) < ((sB nm).size : Nat)) = false from g)
  have hnl : nm.length ≤ 100 := by omega
  have FW := forward2_ ⟨nm, dt, ui, gi, mo, si⟩
  have E := hencode_ ⟨nm, dt, ui, gi, mo, si⟩ (show nm.length < 4294967281 by omega) h1 h2 h3 h4 h5
  have FI := hfitsF_ ⟨nm, dt, ui, gi, mo, si⟩ (show nm.length < 4294967281 by omega) h1 h2 h3 h4 h5
  have ER := encode_ ⟨nm, dt, ui, gi, mo, si⟩ (show nm.length ≤ 4611686018427387904 by omega) h1 h2 h3 h4 h5
  have D := hdecode_ b
  have DR := rhdecode_ b
  have F2 := forward2_ (decR b).1
  have PH := plainH (decR b).1
  have S := O.same_ (encR ⟨nm, dt, ui, gi, mo, si⟩).1 (encR ⟨nm, dt, ui, gi, mo, si⟩).1
  rw [decide_eq_true rfl] at S
  revert E FI ER D DR F2 PH S
  generalize encR ⟨nm, dt, ui, gi, mo, si⟩ = p
  generalize decR b = q
  obtain ⟨bs, r⟩ := p
  obtain ⟨⟨nm2, dt2, ui2, gi2, mo2, si2⟩, r2⟩ := q
  intro E FI ER D DR F2 PH S
  (conv => whnf)
  refine split_intro (fun gg => ?_) (fun gg => ?_)
  ·(conv => whnf)
   refine CallLeaf.wa (awake2_) rfl ?_
   (conv => whnf)
   exact Wk.refl _
  ·(conv => whnf)
   refine CallLeaf.wa (FW) rfl ?_
   (conv => whnf)
   refine CallLeaf.wa (E) rfl ?_
   (conv => whnf)
   refine CallLeaf.wa (ER) rfl ?_
   (conv => whnf)
   refine CallLeaf.wa (D) rfl ?_
   (conv => whnf)
   refine CallLeaf.wa (DR) rfl ?_
   (conv => whnf)
   refine CallLeaf.wa (S) rfl ?_
   (conv => whnf)
   refine split_intro (fun q1 => ?_) (fun q1 => ?_)
   ·(conv => whnf)
    refine CallLeaf.wa (FW) rfl ?_
    (conv => whnf)
    refine CallLeaf.wa (FI) rfl ?_
    (conv => whnf)
    refine split_intro (fun q2 => ?_) (fun q2 => ?_)
    ·(conv => whnf)
     refine CallLeaf.wa (F2) rfl ?_
     (conv => whnf)
     refine ⟨PH, ?_⟩
     (conv => whnf)
     refine split_intro (fun q3 => ?_) (fun q3 => ?_)
     ·(conv => whnf)
      exact Wk.bool (by simp)
     ·exfalso; have := q3; simp at this
    ·exfalso; have := q2; simp at this
   ·exfalso; have := q1; simp at this
end Go.Proofs.YtjbcifgclobjdaaDoor.H

namespace Go.Proofs.YtjbcifgclobjdaaDoor.H
open Go Go.AL Go.AL.Hd
set_option maxRecDepth 100000
set_option maxHeartbeats 8000000
abbrev eW (u : UInt8) : List D := [.sq (.int .u8)]
theorem th_enc (x : List UInt8) (e : Int) : Th false (.tuple [LBn x, vI e]) (.tuple [.slist (x.map eW), vI e]) := by
 refine Th.tupleL (ThL.cons (Th.map _ _ (fun u => ?_)) (ThL.cons (Th.v _) ThL.nil))
 exact (ThL.cons (Th.int _ _) ThL.nil : ThL _ [.v (.int .u8 (u.toNat : Int))] [.sq (.int .u8)])
theorem hencW_ (h : Hdr) (hl : h.name.length < 4294967281) (h1 : h.date ≤ 9223372036854775807) (h2 : h.uid ≤ 9223372036854775807) (h3 : h.gid ≤ 9223372036854775807) (h4 : h.mode ≤ 9223372036854775807) (h5 : h.size ≤ 9223372036854775807) :
  FCall Tryd.prog Gl 15 [.agg h.enc] [] (.tuple [.slist ((encR h).1.map eW), vI (encR h).2]) [] :=
 FCall.thaw (hencode_ h hl h1 h2 h3 h4 h5) (by obtain ⟨a, b, c, d, e, f⟩ := h; (repeat' (first | exact Al.v _ | exact Al.nil | exact Al.junk | refine Al.map _ (fun _ => ?_) | refine Al.agg _ ?_ | refine Al.tuple _ ?_ | refine Al.cons ?_ ?_ | exact Al.none'))) (fun g => .ro _ (by simp only [Gl]; (repeat' (first | exact Al.v _ | exact Al.nil | exact Al.junk | refine Al.map _ (fun _ => ?_) | refine Al.agg _ ?_ | refine Al.tuple _ ?_ | refine Al.cons ?_ ?_ | exact Al.none')))) (th_enc _ _)
theorem encR_len (h : Hdr) : (encR h).1.length ≤ 60 := by
 by_cases he : (encR h).2 = 0
 ·exact Nat.le_of_eq (enc_dec h [] he).1
 ·rw [(encR_err h he).1]; simp
theorem hkeeps_ (h : Hdr) (b : Str) (hb0 : b.length ≤ 140737488351232) (h1 : h.date ≤ 9223372036854775807) (h2 : h.uid ≤ 9223372036854775807) (h3 : h.gid ≤ 9223372036854775807) (h4 : h.mode ≤ 9223372036854775807) (h5 : h.size ≤ 9223372036854775807) :
  FCall Tryd.prog Gl 5 [.agg h.enc, LB b] [] (vB true) [] := by
 have hs := sB_sz h.name
 refine FCall.enterL hT hmix [] Tryd.func5 rfl rfl rfl fun hbd => ?_
 obtain ⟨nm, dt, ui, gi, mo, si⟩ := h
 replace hs : (sB nm).size = nm.length := hs
 (conv => whnf)
 refine CallLeaf.wa (awake2_) rfl ?_
 (conv => whnf)
 refine split_intro (fun g => ?_) (fun g => ?_)
 ·(conv => whnf)
  refine CallLeaf.wa (awake2_) rfl ?_
  (conv => whnf)
  exact Wk.refl _
 ·have g' := of_decide_eq_false (show decide ((100 : Int) < ((sB nm).size : Nat)) = false from g)
  have hnl : nm.length ≤ 100 := by omega
  have FW := forward2_ ⟨nm, dt, ui, gi, mo, si⟩
  have E := hencode_ ⟨nm, dt, ui, gi, mo, si⟩ (show nm.length < 4294967281 by omega) h1 h2 h3 h4 h5
  have EW := hencW_ ⟨nm, dt, ui, gi, mo, si⟩ (show nm.length < 4294967281 by omega) h1 h2 h3 h4 h5
  have ER := encode_ ⟨nm, dt, ui, gi, mo, si⟩ (show nm.length ≤ 4611686018427387904 by omega) h1 h2 h3 h4 h5
  have EL := encR_len ⟨nm, dt, ui, gi, mo, si⟩
  have D := hdecode_ b
  have S1 := O.same_ b b
  rw [decide_eq_true rfl] at S1
  have S2 := O.same_ (encR ⟨nm, dt, ui, gi, mo, si⟩).1 (encR ⟨nm, dt, ui, gi, mo, si⟩).1
  rw [decide_eq_true rfl] at S2
  revert E EW ER D S2 EL
  generalize encR ⟨nm, dt, ui, gi, mo, si⟩ = p
  generalize decR b = q
  obtain ⟨x1, r⟩ := p
  intro E EW ER EL D S2
  replace EL : x1.length ≤ 60 := EL
  (conv => whnf)
  refine split_intro (fun gg => ?_) (fun gg => ?_)
  ·(conv => whnf)
   refine CallLeaf.wa (awake2_) rfl ?_
   (conv => whnf)
   exact Wk.refl _
  ·(conv => whnf)
   refine ⟨_, appL (f := byteD) (xs := []) (ys := b) (zs := b) rfl rfl (fun _ => rfl) rfl (by show _ * 1 ≤ _; omega), ?_⟩
   (conv => whnf)
   refine CallLeaf.wa (D) rfl ?_
   (conv => whnf)
   refine CallLeaf.wa (FW) rfl ?_
   (conv => whnf)
   refine CallLeaf.wa (EW) rfl ?_
   (conv => whnf)
   refine LWp.loop hT hmix [] (fun k : Nat => [(8, vI k)]) (fun _ => []) (fun k => k ≤ x1.length) (fun k => x1.length - k) 0 (Nat.zero_le _) ?_
   (conv => whnf)
   refine ⟨?_, fun k hk => ?_⟩
   ·(repeat' (first | exact trivial | exact Wk.refl _ | exact ObWk.refl _ | exact rfl | exact ⟨_, rfl⟩ | exact Nat.zero_lt_one | refine And.intro ?_ ?_ | unfold okTo | (unfold okO; conv => whnf) | (unfold okS; conv => whnf) | (unfold SlotOk; conv => whnf) | (unfold ObjOk; conv => whnf) | (unfold okCells; conv => whnf) | (unfold liveTo; conv => whnf) | exact Nat.zero_lt_succ _))
   ·(conv => whnf)
    refine split_intro (fun h9 => ?_) (fun h9 => ?_)
    ·have hlt : k < x1.length := by have := of_decide_eq_true h9; simp only [List.length_map] at this; omega
     obtain ⟨y, hy⟩ : ∃ y, x1[k]? = some y := ⟨_, List.getElem?_eq_getElem hlt⟩
     (conv => whnf)
     refine ⟨_, ⟨by omega, getMap hy⟩, ?_⟩
     (conv => whnf)
     refine ⟨_, ⟨by omega, getMap hy⟩, ?_⟩
     (conv => whnf)
     refine ⟨_, add64 (c := ((k + 1 : Nat) : Int)) (by (try simp only []); omega) (by omega), ?_⟩
     (conv => whnf)
     refine ⟨k + 1, ⟨by omega, by simp only []; omega⟩, ?_⟩
     (repeat' (first | exact trivial | exact Wk.refl _ | exact ObWk.refl _ | exact rfl | exact ⟨_, rfl⟩ | exact Nat.zero_lt_one | refine And.intro ?_ ?_ | unfold okTo | (unfold okO; conv => whnf) | (unfold okS; conv => whnf) | (unfold SlotOk; conv => whnf) | (unfold ObjOk; conv => whnf) | (unfold okCells; conv => whnf) | (unfold liveTo; conv => whnf) | exact Nat.zero_lt_succ _))
    ·(conv => whnf)
     refine CallLeaf.wa (FW) rfl ?_
     (conv => whnf)
     refine CallLeaf.wa (E) rfl ?_
     (conv => whnf)
     refine CallLeaf.wa (ER) rfl ?_
     (conv => whnf)
     refine CallLeaf.wa (S1) rfl ?_
     (conv => whnf)
     refine CallLeaf.wa (S2) rfl ?_
     (conv => whnf)
     exact Wk.refl _
end Go.Proofs.YtjbcifgclobjdaaDoor.H

namespace Go.Proofs.YtjbcifgclobjdaaDoor
open Go Go.AL Go.AL.Hd
open Go.ChangeShapes Go.WideShapes Go.ChangeAt Go.RowKit
set_option maxRecDepth 100000
theorem own : ownKnob Tryd.prog.godebug = none := by kernel_rfl
theorem laidOut : laidOutB Tryd.prog = true := by kernel_rfl
abbrev laidL : List (String × DataW Unit) := [("unicode/utf8.acceptRanges", Rows.laid_unicode_utf8_acceptRanges), ("unicode/utf8.first", Rows.laid_unicode_utf8_first)]
theorem globOk {W : World} (h : laidMetH Tryd.prog laidL W) : GlobOk Gl W := by
 intro g j hj
 exfalso
 have : Gl g = [] := by simp [Gl]
 rw [this] at hj; simp at hj
theorem byte_of {n : Nat} {ds : List D} (h : Rd Tryd.prog (n + 1) 5 ds) : ∃ u : UInt8, ds = byteD u := by
 simp only [Rd, Tryd.underlying5] at h
 obtain ⟨x, hw, rfl⟩ := h
 simp [Lit.wf] at hw
 have h1 : IntKind.u8.min = 0 := rfl
 have h2 : IntKind.u8.max = 255 := rfl
 obtain ⟨m, rfl⟩ := Int.eq_ofNat_of_zero_le (show 0 ≤ x by omega)
 refine ⟨UInt8.ofNat m, ?_⟩
 simp only [byteD, List.cons.injEq, and_true, D.v.injEq, Value.int.injEq, true_and]
 simp; omega
theorem list_ofP {n : Nat} {α : Type} {f : α → List D} {p : α → Prop} {e t : TypeId} {ds : List D} (hu : Tryd.prog.underlying t = some (.slice e)) (he : ∀ x, Rd Tryd.prog n e x → ∃ y, p y ∧ x = f y) (h : Rd Tryd.prog (n + 1) t ds) :
  ∃ l : List α, (∀ a ∈ l, p a) ∧ l.length * Tryd.prog.bytesOf e ≤ 140737488351232 ∧ ds = [.list .any (l.map f)] ∧ argD Tryd.prog t ds = .list .any (l.map f) := by
 simp only [Rd, hu] at h
 obtain ⟨xs, rfl, hb, hx⟩ := h
 have hc : ∀ x : { x // x ∈ xs }, ∃ y, p y ∧ x.1 = f y := fun x => he x.1 (hx x.1 x.2)
 have hm : (xs.attach.map fun x => (hc x).choose).map f = xs := by
  rw [List.map_map]
  have : (xs.attach.map (f ∘ fun x => (hc x).choose)) = xs.attach.map (fun x => x.1) := List.map_congr_left fun x _ => ((hc x).choose_spec).2.symm
  rw [this, List.attach_map_subtype_val]
 refine ⟨xs.attach.map fun x => (hc x).choose, fun a ha => ?_, by simpa using hb, by rw [hm], ?_⟩
 ·obtain ⟨x, _, rfl⟩ := List.mem_map.1 ha
  exact ((hc x).choose_spec).1
 ·rw [hm]; simp only [argD, hu]
theorem i64_of {x : Int} (h : (Lit.int .i64 x).wf = true) : x ≤ 9223372036854775807 := by
 have m1 : IntKind.i64.min = -9223372036854775808 := rfl
 have m2 : IntKind.i64.max = 9223372036854775807 := rfl
 simp only [Lit.wf, m1, m2, Bool.and_eq_true, decide_eq_true_eq] at h
 exact h.2
theorem arg_LB {ds : List D} (h : Rd Tryd.prog 8 24 ds) : ∃ l : Str, l.length ≤ 140737488351232 ∧ argD Tryd.prog 24 ds = LB l := by
 obtain ⟨l, _, h2, _, e⟩ := list_ofP (n := 7) (f := byteD) (p := fun _ => True) Tryd.underlying24 (fun x hx => by
  obtain ⟨u, e⟩ := byte_of (n := 6) hx
  exact ⟨u, trivial, e⟩) h
 rw [show Tryd.prog.bytesOf 5 = 1 by kernel_rfl, Nat.mul_one] at h2
 exact ⟨l, h2, e⟩
theorem arg_int {ds : List D} (h : Rd Tryd.prog 8 3 ds) : ∃ x : Int, x ≤ 9223372036854775807 ∧ argD Tryd.prog 3 ds = vI x := by
 simp only [Rd, Tryd.underlying3] at h
 obtain ⟨x, w, rfl⟩ := h
 exact ⟨x, i64_of w, by simp only [argD, Tryd.underlying3]⟩
abbrev OkH (h : Hdr) : Prop := h.date ≤ 9223372036854775807 ∧ h.uid ≤ 9223372036854775807 ∧ h.gid ≤ 9223372036854775807 ∧ h.mode ≤ 9223372036854775807 ∧ h.size ≤ 9223372036854775807
theorem arg_H {ds : List D} (h : Rd Tryd.prog 8 23 ds) : ∃ v : Hdr, OkH v ∧ argD Tryd.prog 23 ds = .agg v.enc := by
 rw [show 8 = 7 + 1 from rfl, Rd, Tryd.underlying23] at h
 simp only [RdFs] at h
 obtain ⟨a, b, rfl, h1, a2, b2, rfl, h2, a3, b3, rfl, h3, a4, b4, rfl, h4, a5, b5, rfl, h5, a6, b6, rfl, h6, rfl⟩ := h
 simp only [Rd, Tryd.underlying9] at h1
 simp only [Rd, Tryd.underlying3] at h2 h3 h4 h5 h6
 obtain ⟨s, hs, rfl⟩ := h1
 obtain ⟨x2, w2, rfl⟩ := h2
 obtain ⟨x3, w3, rfl⟩ := h3
 obtain ⟨x4, w4, rfl⟩ := h4
 obtain ⟨x5, w5, rfl⟩ := h5
 obtain ⟨x6, w6, rfl⟩ := h6
 exact ⟨⟨s, x2, x3, x4, x5, x6⟩, ⟨i64_of w2, i64_of w3, i64_of w4, i64_of w5, i64_of w6⟩, by simp only [argD, Tryd.underlying23]; rfl⟩
end Go.Proofs.YtjbcifgclobjdaaDoor
