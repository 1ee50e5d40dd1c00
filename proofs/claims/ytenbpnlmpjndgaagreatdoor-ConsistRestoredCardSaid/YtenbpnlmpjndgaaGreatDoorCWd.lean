/- Names of members: what a field names. No condition. -/
import Derived.Test.YtenbpnlmpjndgaaGreatDoorCAc
import Derived.Test.YtenbpnlmpjndgaaGreatDoorCWc
import Derived.Test.YtenbpnlmpjndgaaGreatDoorCPa
import Derived.Test.YtenbpnlmpjndgaaGreatDoorCWb
import Derived.Test.YtenbpnlmpjndgaaGreatDoorCWa
set_option linter.unusedVariables false
set_option linter.unusedSimpArgs false
namespace Go.Proofs.YtenbpnlmpjndgaaGreatDoor.H
open Go Go.AL Go.AL.Hd Go.AL.Ln
set_option maxRecDepth 100000
set_option maxHeartbeats 8000000
abbrev fnd (n : Nat) (p : List (Nat × Str)) : Option (Nat × Str) := p.find? fun x => decide (x.1 = n)
abbrev juF (n : Nat) (p : List (Nat × Str)) : Exit := match fnd n p with | none => .normal | some _ => .ret
abbrev coF (n : Nat) (p : List (Nat × Str)) : So := [(0, .cells [sD (match fnd n p with | none => [] | some x => x.2)]), (8, .cells [vI 0])]
theorem pre_no {n : Nat} {p : List (Nat × Str)} (h : ∀ a y s, p = a ++ y :: s → juF n (a ++ [y]) = .normal) : fnd n p = none := by
 rcases List.eq_nil_or_concat p with rfl | ⟨a, y, rfl⟩
 ·rfl
 ·have := h a y [] (by simp)
  cases ho : fnd n (a ++ [y]) with
  | none => simpa using ho
  | some z => rw [juF, ho] at this; simp at this
theorem fnd_snoc {n : Nat} {p : List (Nat × Str)} (h : fnd n p = none) (x : Nat × Str) : fnd n (p ++ [x]) = if x.1 = n then some x else none := by
 have h' : List.find? (fun x : Nat × Str => decide (x.1 = n)) p = none := h
 by_cases hx : x.1 = n <;> simp [fnd, List.find?_append, h', List.find?_cons, hx]
theorem visitF (n : Nat) : ∀ (r pre : List (Nat × Str)), fnd n pre = none → fnd n (visitR (fun p => (jcode (juF n p)).isNone) pre r) = fnd n (pre ++ r)
 | [], pre, h => by simp [visitR, h]
 | x :: r, pre, h => by
  have hs := fnd_snoc h x
  have e : (jcode (juF n (pre ++ [x]))).isNone = (fnd n (pre ++ [x])).isNone := by cases ho : fnd n (pre ++ [x]) <;> simp only [juF, ho] <;> rfl
  simp only [visitR, e]
  cases ho : fnd n (pre ++ [x]) with
  | none =>
   have := visitF n r (pre ++ [x]) ho
   simpa using this
  | some y =>
   simp only [Option.isNone_some]
   rw [show pre ++ x :: r = (pre ++ [x]) ++ r by simp]
   have ho' : List.find? (fun x : Nat × Str => decide (x.1 = n)) (pre ++ [x]) = some y := ho
   rw [ho, fnd, List.find?_append, ho']
   rfl
theorem resolve_ [Go.AL.MX] (fl t : Str) (hf : fl.length < 4294967281) (hl : t.length < 4294967280) : FCall Tryz.prog Gl 58 [sD fl, LB t] [] (.tuple [sD (resP fl t).1, vI (resP fl t).2]) [] := by
 have hL := lines_len _ 0 (Nat.le_refl t.length)
 refine FCall.enterM hT hmix [] Tryz.func58 rfl rfl rfl fun hbd base => ?_
 (conv => whnf)
 refine CallLeaf.wa (csuf_ fl hf) rfl ?_
 (conv => whnf)
 cases hS : decide (fl.getLast? = some 47) with
 | true =>
  have hS' := of_decide_eq_true hS
  rw [if_pos hS']
  (conv => whnf)
  refine CallLeaf.wa (lshort_ fl.dropLast (by simp; omega)) rfl ?_
  cases hA : shortN fl.dropLast with
  | true =>
   have hres : resP fl t = (fl.dropLast, 0) := by unfold resP; rw [if_pos ⟨hS', hA⟩]
   rw [hres]
   (conv => whnf)
   refine ⟨[], rfl, by (try unfold pullOk); (repeat' (first | exact trivial | exact ObWk.refl _ | refine And.intro ?_ ?_ | unfold pullOk)), ?_⟩
   (conv => whnf)
   exact Wk.refl _
  | false =>
   have hA' : ¬ (fl.getLast? = some 47 ∧ shortN fl.dropLast = true) := fun h => by rw [hA] at h; simp at h
   (conv => whnf)
   refine CallLeaf.wa (cpre_ fl hf) rfl ?_
   (conv => whnf)
   cases fl with
   | nil =>
    have hres : resP [] t = ([], 6) := rfl
    rw [hres]
    (conv => whnf)
    refine ⟨[], rfl, by (try unfold pullOk); (repeat' (first | exact trivial | exact ObWk.refl _ | refine And.intro ?_ ?_ | unfold pullOk)), ?_⟩
    (conv => whnf)
    exact Wk.refl _
   | cons c ds =>
    by_cases hc : c = 47
    ·subst hc
     rw [show (decide ((47 :: ds : Str).head? = some 47)) = true from rfl, if_pos (show (47 :: ds : Str).head? = some 47 from rfl)]
     have hres0 : resP (47 :: ds) t = (if ds.length ≤ 15 ∧ ds.contains 32 = false ∧ (parseR 10 ds).2 = 0 then (match (linesP 0 t).find? (fun p => decide (p.1 = (parseR 10 ds).1)) with | some p => (p.2, 0) | none => ([], 6)) else ([], 6) : Str × Int) := by
      unfold resP
      rw [if_neg hA']
      rfl
     have hdl : ds.length < 4294967281 := by simp at hf; omega
     have hds := sB_sz ds
     simp only [List.tail_cons]
     (conv => whnf)
     refine split_intro (fun h1 => ?_) (fun h1 => ?_)
     ·have h1' := of_decide_eq_true h1
      rw [hres0, if_neg (fun h => by omega)]
      (conv => whnf)
      refine ⟨[], rfl, by (try unfold pullOk); (repeat' (first | exact trivial | exact ObWk.refl _ | refine And.intro ?_ ?_ | unfold pullOk)), ?_⟩
      (conv => whnf)
      exact Wk.refl _
     ·have h1' := of_decide_eq_false h1
      (conv => whnf)
      refine CallLeaf.wa (contains_ ds hdl) rfl ?_
      cases h32 : ds.contains 32 with
      | true =>
       rw [hres0, if_neg (fun h => by rw [h32] at h; simp at h)]
       (conv => whnf)
       refine ⟨[], rfl, by (try unfold pullOk); (repeat' (first | exact trivial | exact ObWk.refl _ | refine And.intro ?_ ?_ | unfold pullOk)), ?_⟩
       (conv => whnf)
       exact Wk.refl _
      | false =>
       (conv => whnf)
       refine ⟨by show ds.length ≤ _; omega, ?_⟩
       (conv => whnf)
       refine CallLeaf.wa (dparse_ 10 (.inr rfl) ds) rfl ?_
       (conv => whnf)
       refine split_intro (fun h3 => ?_) (fun h3 => ?_)
       ·have h3' : ¬ (parseR 10 ds).2 = 0 := by simpa using h3
        rw [hres0, if_neg (fun h => h3' h.2.2)]
        (conv => whnf)
        refine ⟨[], rfl, by (try unfold pullOk); (repeat' (first | exact trivial | exact ObWk.refl _ | refine And.intro ?_ ?_ | unfold pullOk)), ?_⟩
        (conv => whnf)
        exact Wk.refl _
       ·have h3' : (parseR 10 ds).2 = 0 := by simpa using h3
        rw [hres0, if_pos ⟨by omega, h32, h3'⟩]
        obtain ⟨n, hn⟩ : ∃ n, n = (parseR 10 ds).1 := ⟨_, rfl⟩
        rw [← hn]
        (conv => whnf)
        refine CallLeaf.oa [5128] (lines_ t) rfl rfl rfl rfl ?_
        (conv => whnf)
        refine LWp.rangeFunc hT hmix rfl [] [] 400000 5128 [50] (coF n) (juF n) (iter_ t (by omega)) (fun _ => rfl) (fun _ => rfl) rfl (fun p => by cases h : fnd n p <;> simp [juF, h, jok]) rfl rfl rfl rfl (by simp) rfl (fun p => ?_) ?_
        ·(repeat' (first | exact trivial | exact rfl | refine And.intro ?_ ?_ | (conv => whnf)))
        ·(conv => whnf)
         refine ⟨?_, ?_, ?_, fun pre x r he hno => ?_, fun v hv => ?_⟩
         ·(repeat' (first | exact trivial | exact Wk.refl _ | exact ObWk.refl _ | exact rfl | exact ⟨_, rfl⟩ | exact Nat.zero_lt_one | refine And.intro ?_ ?_ | unfold okTo | (unfold okO; conv => whnf) | (unfold okS; conv => whnf) | (unfold SlotOk; conv => whnf) | (unfold ObjOk; conv => whnf) | (unfold okCells; conv => whnf) | (unfold liveTo; conv => whnf) | exact Nat.zero_lt_succ _))
         ·(repeat' (first | exact trivial | exact rfl | refine And.intro ?_ ?_ | (conv => whnf)))
         ·(repeat' (first | exact trivial | exact rfl | refine And.intro ?_ ?_ | (conv => whnf)))
         ·have hok := pre_no hno
          have hsn := fnd_snoc hok x
          have eD : coF n pre = [(0, .cells [sD []]), (8, .cells [vI 0])] := by simp only [coF, hok]
          (conv => whnf)
          refine split_intro (fun h4 => ?_) (fun h4 => ?_)
          ·have h4' : x.1 = n := Int.ofNat_inj.1 (by simpa using h4)
           rw [if_pos h4'] at hsn
           have eC : coF n (pre ++ [x]) = [(0, .cells [sD x.2]), (8, .cells [vI 0])] := by simp only [coF, hsn]
           (conv => whnf)
           refine ⟨by simp only [juF, hsn], ?_⟩
           rw [eC, eD]
           (repeat' (first | exact trivial | exact Wk.refl _ | exact ObWk.refl _ | exact rfl | exact ⟨_, rfl⟩ | exact Nat.zero_lt_one | refine And.intro ?_ ?_ | unfold okToR | (unfold liveKs; conv => whnf) | (unfold okO; conv => whnf) | (unfold okS; conv => whnf) | (unfold SlotOk; conv => whnf) | (unfold ObjOk; conv => whnf) | (unfold okCells; conv => whnf) | exact Nat.zero_lt_succ _))
          ·have h4' : ¬ x.1 = n := fun e => by rw [e] at h4; simp at h4
           rw [if_neg h4'] at hsn
           have eC : coF n (pre ++ [x]) = [(0, .cells [sD []]), (8, .cells [vI 0])] := by simp only [coF, hsn]
           (conv => whnf)
           refine ⟨by simp only [juF, hsn], ?_⟩
           rw [eC, eD]
           (repeat' (first | exact trivial | exact Wk.refl _ | exact ObWk.refl _ | exact rfl | exact ⟨_, rfl⟩ | exact Nat.zero_lt_one | refine And.intro ?_ ?_ | unfold okToR | (unfold liveKs; conv => whnf) | (unfold okO; conv => whnf) | (unfold okS; conv => whnf) | (unfold SlotOk; conv => whnf) | (unfold ObjOk; conv => whnf) | (unfold okCells; conv => whnf) | exact Nat.zero_lt_succ _))
         ·have hvv := visitF n (linesP 0 t) [] rfl
          rw [← hv] at hvv
          simp only [List.nil_append] at hvv
          have hvv' : fnd n v = List.find? (fun p => decide (p.1 = n)) (linesP 0 t) := hvv
          rw [← hvv']
          cases hx : fnd n v with
          | none =>
           rw [show juF n v = .normal by simp only [juF, hx]]
           (conv => whnf)
           refine ⟨[], rfl, by (try unfold pullOk); (repeat' (first | exact trivial | exact ObWk.refl _ | refine And.intro ?_ ?_ | unfold pullOk)), ?_⟩
           (conv => whnf)
           exact Wk.refl _
          | some x =>
           rw [show juF n v = .ret by simp only [juF, hx], show coF n v = [(0, .cells [sD x.2]), (8, .cells [vI 0])] by simp only [coF, hx]]
           (conv => whnf)
           refine ⟨[], rfl, by (try unfold pullOk); (repeat' (first | exact trivial | exact ObWk.refl _ | refine And.intro ?_ ?_ | unfold pullOk)), ?_⟩
           (conv => whnf)
           exact Wk.refl _
    ·have hd : decide ((c :: ds : Str).head? = some 47) = false := decide_eq_false (by simp [hc])
     have hres : resP (c :: ds) t = ([], 6) := by
      unfold resP
      rw [if_neg hA']
      split
      ·rename_i h; simp at h; exact absurd h.1 hc
      ·rfl
     rw [hd, hres]
     (conv => whnf)
     refine ⟨[], rfl, by (try unfold pullOk); (repeat' (first | exact trivial | exact ObWk.refl _ | refine And.intro ?_ ?_ | unfold pullOk)), ?_⟩
     (conv => whnf)
     exact Wk.refl _
 | false =>
  have hS' := of_decide_eq_false hS
  have hA' : ¬ (fl.getLast? = some 47 ∧ shortN fl.dropLast = true) := fun h => hS' h.1
  rw [if_neg hS']
  (conv => whnf)
  refine CallLeaf.wa (cpre_ fl hf) rfl ?_
  (conv => whnf)
  cases fl with
  | nil =>
   have hres : resP [] t = ([], 6) := rfl
   rw [hres]
   (conv => whnf)
   refine ⟨[], rfl, by (try unfold pullOk); (repeat' (first | exact trivial | exact ObWk.refl _ | refine And.intro ?_ ?_ | unfold pullOk)), ?_⟩
   (conv => whnf)
   exact Wk.refl _
  | cons c ds =>
   by_cases hc : c = 47
   ·subst hc
    rw [show (decide ((47 :: ds : Str).head? = some 47)) = true from rfl, if_pos (show (47 :: ds : Str).head? = some 47 from rfl)]
    have hres0 : resP (47 :: ds) t = (if ds.length ≤ 15 ∧ ds.contains 32 = false ∧ (parseR 10 ds).2 = 0 then (match (linesP 0 t).find? (fun p => decide (p.1 = (parseR 10 ds).1)) with | some p => (p.2, 0) | none => ([], 6)) else ([], 6) : Str × Int) := by
     unfold resP
     rw [if_neg hA']
     rfl
    have hdl : ds.length < 4294967281 := by simp at hf; omega
    have hds := sB_sz ds
    simp only [List.tail_cons]
    (conv => whnf)
    refine split_intro (fun h1 => ?_) (fun h1 => ?_)
    ·have h1' := of_decide_eq_true h1
     rw [hres0, if_neg (fun h => by omega)]
     (conv => whnf)
     refine ⟨[], rfl, by (try unfold pullOk); (repeat' (first | exact trivial | exact ObWk.refl _ | refine And.intro ?_ ?_ | unfold pullOk)), ?_⟩
     (conv => whnf)
     exact Wk.refl _
    ·have h1' := of_decide_eq_false h1
     (conv => whnf)
     refine CallLeaf.wa (contains_ ds hdl) rfl ?_
     cases h32 : ds.contains 32 with
     | true =>
      rw [hres0, if_neg (fun h => by rw [h32] at h; simp at h)]
      (conv => whnf)
      refine ⟨[], rfl, by (try unfold pullOk); (repeat' (first | exact trivial | exact ObWk.refl _ | refine And.intro ?_ ?_ | unfold pullOk)), ?_⟩
      (conv => whnf)
      exact Wk.refl _
     | false =>
      (conv => whnf)
      refine ⟨by show ds.length ≤ _; omega, ?_⟩
      (conv => whnf)
      refine CallLeaf.wa (dparse_ 10 (.inr rfl) ds) rfl ?_
      (conv => whnf)
      refine split_intro (fun h3 => ?_) (fun h3 => ?_)
      ·have h3' : ¬ (parseR 10 ds).2 = 0 := by simpa using h3
       rw [hres0, if_neg (fun h => h3' h.2.2)]
       (conv => whnf)
       refine ⟨[], rfl, by (try unfold pullOk); (repeat' (first | exact trivial | exact ObWk.refl _ | refine And.intro ?_ ?_ | unfold pullOk)), ?_⟩
       (conv => whnf)
       exact Wk.refl _
      ·have h3' : (parseR 10 ds).2 = 0 := by simpa using h3
       rw [hres0, if_pos ⟨by omega, h32, h3'⟩]
       obtain ⟨n, hn⟩ : ∃ n, n = (parseR 10 ds).1 := ⟨_, rfl⟩
       rw [← hn]
       (conv => whnf)
       refine CallLeaf.oa [5128] (lines_ t) rfl rfl rfl rfl ?_
       (conv => whnf)
       refine LWp.rangeFunc hT hmix rfl [] [] 400000 5128 [50] (coF n) (juF n) (iter_ t (by omega)) (fun _ => rfl) (fun _ => rfl) rfl (fun p => by cases h : fnd n p <;> simp [juF, h, jok]) rfl rfl rfl rfl (by simp) rfl (fun p => ?_) ?_
       ·(repeat' (first | exact trivial | exact rfl | refine And.intro ?_ ?_ | (conv => whnf)))
       ·(conv => whnf)
        refine ⟨?_, ?_, ?_, fun pre x r he hno => ?_, fun v hv => ?_⟩
        ·(repeat' (first | exact trivial | exact Wk.refl _ | exact ObWk.refl _ | exact rfl | exact ⟨_, rfl⟩ | exact Nat.zero_lt_one | refine And.intro ?_ ?_ | unfold okTo | (unfold okO; conv => whnf) | (unfold okS; conv => whnf) | (unfold SlotOk; conv => whnf) | (unfold ObjOk; conv => whnf) | (unfold okCells; conv => whnf) | (unfold liveTo; conv => whnf) | exact Nat.zero_lt_succ _))
        ·(repeat' (first | exact trivial | exact rfl | refine And.intro ?_ ?_ | (conv => whnf)))
        ·(repeat' (first | exact trivial | exact rfl | refine And.intro ?_ ?_ | (conv => whnf)))
        ·have hok := pre_no hno
         have hsn := fnd_snoc hok x
         have eD : coF n pre = [(0, .cells [sD []]), (8, .cells [vI 0])] := by simp only [coF, hok]
         (conv => whnf)
         refine split_intro (fun h4 => ?_) (fun h4 => ?_)
         ·have h4' : x.1 = n := Int.ofNat_inj.1 (by simpa using h4)
          rw [if_pos h4'] at hsn
          have eC : coF n (pre ++ [x]) = [(0, .cells [sD x.2]), (8, .cells [vI 0])] := by simp only [coF, hsn]
          (conv => whnf)
          refine ⟨by simp only [juF, hsn], ?_⟩
          rw [eC, eD]
          (repeat' (first | exact trivial | exact Wk.refl _ | exact ObWk.refl _ | exact rfl | exact ⟨_, rfl⟩ | exact Nat.zero_lt_one | refine And.intro ?_ ?_ | unfold okToR | (unfold liveKs; conv => whnf) | (unfold okO; conv => whnf) | (unfold okS; conv => whnf) | (unfold SlotOk; conv => whnf) | (unfold ObjOk; conv => whnf) | (unfold okCells; conv => whnf) | exact Nat.zero_lt_succ _))
         ·have h4' : ¬ x.1 = n := fun e => by rw [e] at h4; simp at h4
          rw [if_neg h4'] at hsn
          have eC : coF n (pre ++ [x]) = [(0, .cells [sD []]), (8, .cells [vI 0])] := by simp only [coF, hsn]
          (conv => whnf)
          refine ⟨by simp only [juF, hsn], ?_⟩
          rw [eC, eD]
          (repeat' (first | exact trivial | exact Wk.refl _ | exact ObWk.refl _ | exact rfl | exact ⟨_, rfl⟩ | exact Nat.zero_lt_one | refine And.intro ?_ ?_ | unfold okToR | (unfold liveKs; conv => whnf) | (unfold okO; conv => whnf) | (unfold okS; conv => whnf) | (unfold SlotOk; conv => whnf) | (unfold ObjOk; conv => whnf) | (unfold okCells; conv => whnf) | exact Nat.zero_lt_succ _))
        ·have hvv := visitF n (linesP 0 t) [] rfl
         rw [← hv] at hvv
         simp only [List.nil_append] at hvv
         have hvv' : fnd n v = List.find? (fun p => decide (p.1 = n)) (linesP 0 t) := hvv
         rw [← hvv']
         cases hx : fnd n v with
         | none =>
          rw [show juF n v = .normal by simp only [juF, hx]]
          (conv => whnf)
          refine ⟨[], rfl, by (try unfold pullOk); (repeat' (first | exact trivial | exact ObWk.refl _ | refine And.intro ?_ ?_ | unfold pullOk)), ?_⟩
          (conv => whnf)
          exact Wk.refl _
         | some x =>
          rw [show juF n v = .ret by simp only [juF, hx], show coF n v = [(0, .cells [sD x.2]), (8, .cells [vI 0])] by simp only [coF, hx]]
          (conv => whnf)
          refine ⟨[], rfl, by (try unfold pullOk); (repeat' (first | exact trivial | exact ObWk.refl _ | refine And.intro ?_ ?_ | unfold pullOk)), ?_⟩
          (conv => whnf)
          exact Wk.refl _
   ·have hd : decide ((c :: ds : Str).head? = some 47) = false := decide_eq_false (by simp [hc])
    have hres : resP (c :: ds) t = ([], 6) := by
     unfold resP
     rw [if_neg hA']
     split
     ·rename_i h; simp at h; exact absurd h.1 hc
     ·rfl
    rw [hd, hres]
    (conv => whnf)
    refine ⟨[], rfl, by (try unfold pullOk); (repeat' (first | exact trivial | exact ObWk.refl _ | refine And.intro ?_ ?_ | unfold pullOk)), ?_⟩
    (conv => whnf)
    exact Wk.refl _
end Go.Proofs.YtenbpnlmpjndgaaGreatDoor.H

namespace Go.Proofs.YtenbpnlmpjndgaaGreatDoor.H
open Go Go.AL Go.AL.Hd Go.AL.Ln
set_option maxRecDepth 100000
set_option maxHeartbeats 8000000
theorem ent_few {t : Str} (hl : t.length ≤ 100000) : Few (entR t).1 := by
 unfold entR
 cases h : entO t with
 | none => exact ⟨by simp, fun n hn => by simp at hn⟩
 | some ns =>
  have h1 := ent_lines _ 0 (Nat.le_refl t.length)
  rw [h] at h1
  split at h1
  ·injection h1 with h1
   have hL := lines_len _ 0 (Nat.le_refl t.length)
   have := hL.1
   refine ⟨by show ns.length ≤ _; rw [h1]; simp; omega, fun n hn => ?_⟩
   have := (ent_iff.1 h).2 n hn
   have := (valid_not this).2.2
   omega
  ·simp at h1
theorem find_step {α : Type} {p : α → Bool} {l : List α} {k : Nat} {x : α} (hx : l[k]? = some x) (h : (l.take k).find? p = none) : (l.take (k + 1)).find? p = if p x = true then some x else none := by
 rw [take_snoc hx, List.find?_append, h]
 cases hp : p x <;> simp [List.find?_cons, hp]
theorem find_at {α : Type} {p : α → Bool} {l : List α} {k : Nat} {x : α} (hx : l[k]? = some x) (h : (l.take k).find? p = none) (hp : p x = true) : l.find? p = some x := by
 have h1 := find_step (p := p) hx h
 rw [if_pos hp] at h1
 have h2 : l = l.take (k + 1) ++ l.drop (k + 1) := (List.take_append_drop _ _).symm
 rw [h2, List.find?_append, h1]; rfl
theorem rresolve_ [Go.AL.MX] (fl t : Str) (hf : fl.length < 4294967281) (hl : t.length ≤ 100000) : FCall Tryz.prog Gl 49 [sD fl, LB t] [] (.tuple [sD (resR fl t).1, vI (resR fl t).2]) [] := by
 have hs := sB_sz fl
 have hfew := ent_few hl
 refine FCall.enterL hT hmix [] Tryz.func49 rfl rfl rfl fun hbd => ?_
 (conv => whnf)
 cases fl with
 | nil =>
  (conv => whnf)
  exact Wk.refl _
 | cons c ds =>
  obtain ⟨fl, hfl⟩ : ∃ fl, fl = c :: ds := ⟨_, rfl⟩
  rw [← hfl] at hs hf ⊢
  have hne : fl ≠ [] := by rw [hfl]; simp
  have hp : 1 ≤ fl.length := by rw [hfl]; simp
  obtain ⟨x, hx, hg⟩ := last_at (l := fl) hp
  (conv => whnf)
  have key : ¬ (fl.getLast? = some 47 ∧ shortN fl.dropLast = true) → resR fl t = match (offs 0 (entR t).1).find? (fun p => decide (fl = 47 :: dig 10 p.1) && decide ((dig 10 p.1).length ≤ 15)) with | some p => (p.2, 0) | none => ([], 6) := fun h => by
   unfold resR; rw [if_neg hne, if_neg h]; rfl
  refine split_intro (fun h0 => ?_) (fun h0 => ?_)
  ·have h0' := h0
   rw [hs] at h0'
   simp at h0'
   exact absurd h0' hne
  ·(conv => whnf)
   refine ⟨_, sub64 (c := (fl.length : Int) - 1) (by omega) (by omega), ?_⟩
   (conv => whnf)
   refine ⟨x, ⟨by omega, hx⟩, ?_⟩
   (conv => whnf)
   refine split_intro (fun h1 => ?_) (fun h1 => ?_)
   ·obtain rfl : x = 47 := byte_eq (c := 47) h1
    (conv => whnf)
    refine ⟨_, sub64 (c := ((fl.length - 1 : Nat) : Int)) (by omega) (by omega), ?_⟩
    (conv => whnf)
    refine ⟨sB fl.dropLast, ⟨by omega, by omega, by omega, by rw [ext_prt]; congr 1; simp only [prt]; rw [← dropLast_take]; rfl⟩, ?_⟩
    (conv => whnf)
    refine CallLeaf.wa (rshort_ fl.dropLast (by simp; omega)) rfl ?_
    cases hA : shortN fl.dropLast with
    | true =>
     have hres : resR fl t = (fl.dropLast, 0) := by unfold resR; rw [if_neg hne, if_pos ⟨hg, hA⟩]
     rw [hres]
     (conv => whnf)
     refine ⟨_, sub64 (c := ((fl.length - 1 : Nat) : Int)) (by omega) (by omega), ?_⟩
     (conv => whnf)
     refine ⟨sB fl.dropLast, ⟨by omega, by omega, by omega, by rw [ext_prt]; congr 1; simp only [prt]; rw [← dropLast_take]; rfl⟩, ?_⟩
     (conv => whnf)
     exact Wk.refl _
    | false =>
     have hno : ¬ (fl.getLast? = some 47 ∧ shortN fl.dropLast = true) := fun h => by rw [hA] at h; simp at h
     rw [key hno]
     have hcl := hfew.1
     (conv => whnf)
     refine CallLeaf.wa (rentries_ t (by omega)) rfl ?_
     (conv => whnf)
     refine LWp.loop hT hmix [] (fun k : Nat => [(8, vI k)]) (fun _ => []) (fun k => k ≤ (entR t).1.length ∧ ((offs 0 (entR t).1).take k).find? (fun p => decide (fl = 47 :: dig 10 p.1) && decide ((dig 10 p.1).length ≤ 15)) = none) (fun k => (entR t).1.length - k) 0 ⟨Nat.zero_le _, rfl⟩ ?_
     (conv => whnf)
     refine ⟨?_, fun k ⟨hk, hfi⟩ => ?_⟩
     ·(repeat' (first | exact trivial | exact Wk.refl _ | exact ObWk.refl _ | exact rfl | exact ⟨_, rfl⟩ | exact Nat.zero_lt_one | refine And.intro ?_ ?_ | unfold okTo | (unfold okO; conv => whnf) | (unfold okS; conv => whnf) | (unfold SlotOk; conv => whnf) | (unfold ObjOk; conv => whnf) | (unfold okCells; conv => whnf) | (unfold liveTo; conv => whnf) | exact Nat.zero_lt_succ _))
     ·(conv => whnf)
      refine split_intro (fun h => ?_) (fun h => ?_)
      ·have hlt : k < (entR t).1.length := by have := of_decide_eq_true h; simp only [List.length_map] at this; omega
       obtain ⟨n, hxn⟩ := exI hlt
       have ho := offs_get (entR t).1 0 k hxn
       rw [Nat.zero_add] at ho
       have ht := tab_len hfew k
       have hd := dig_le (b := 10) (by omega) (tabP ((entR t).1.take k)).length (by omega)
       have hds := sB_sz (dig 10 (tabP ((entR t).1.take k)).length)
       (conv => whnf)
       refine ⟨((entR t).1.take k).map eS, slL (by omega) (by omega) (by simp; omega) (fun _ => rfl) (by simp), ?_⟩
       (conv => whnf)
       refine CallLeaf.wa (rtable_ ((entR t).1.take k) (few_take hfew k)) rfl ?_
       (conv => whnf)
       refine CallLeaf.wa (text_ 10 (by omega) (by omega) (tabP ((entR t).1.take k)).length (by omega)) rfl ?_
       (conv => whnf)
       refine ⟨sB (47 :: dig 10 (tabP ((entR t).1.take k)).length), ⟨by rw [sB_sz]; show 1 + (dig 10 _).length ≤ _; omega, sB_ap [47] _⟩, ?_⟩
       (conv => whnf)
       have cont : (fun p : Nat × Str => decide (fl = 47 :: dig 10 p.1) && decide ((dig 10 p.1).length ≤ 15)) ((tabP ((entR t).1.take k)).length, n) = false → ((offs 0 (entR t).1).take (k + 1)).find? (fun p => decide (fl = 47 :: dig 10 p.1) && decide ((dig 10 p.1).length ≤ 15)) = none := fun h => by
        rw [find_step ho hfi]; exact if_neg (fun h2 => Bool.noConfusion (h2.symm.trans h))
       refine split_intro (fun h3 => ?_) (fun h3 => ?_)
       ·have h3' : fl = 47 :: dig 10 (tabP ((entR t).1.take k)).length := sB_inj (by simpa using h3)
        (conv => whnf)
        refine split_intro (fun h4 => ?_) (fun h4 => ?_)
        ·have h4' : (dig 10 (tabP ((entR t).1.take k)).length).length ≤ 15 := by have := of_decide_eq_true h4; omega
         rw [find_at ho hfi (by simp only [h3', h4']; simp)]
         (conv => whnf)
         refine ⟨_, ⟨by omega, getMap hxn⟩, ?_⟩
         (conv => whnf)
         exact Wk.refl _
        ·have h4' : ¬ (dig 10 (tabP ((entR t).1.take k)).length).length ≤ 15 := by have := of_decide_eq_false h4; omega
         (conv => whnf)
         refine ⟨_, add64 (c := ((k + 1 : Nat) : Int)) (by (try simp only []); omega) (by omega), ?_⟩
         (conv => whnf)
         refine ⟨k + 1, ⟨⟨hlt, cont (by simp only [h4']; simp)⟩, by show (entR t).1.length - (k + 1) < (entR t).1.length - k; omega⟩, ?_⟩
         (repeat' (first | exact trivial | exact Wk.refl _ | exact ObWk.refl _ | exact rfl | exact ⟨_, rfl⟩ | exact Nat.zero_lt_one | refine And.intro ?_ ?_ | unfold okTo | (unfold okO; conv => whnf) | (unfold okS; conv => whnf) | (unfold SlotOk; conv => whnf) | (unfold ObjOk; conv => whnf) | (unfold okCells; conv => whnf) | (unfold liveTo; conv => whnf) | exact Nat.zero_lt_succ _))
       ·have h3' : ¬ fl = 47 :: dig 10 (tabP ((entR t).1.take k)).length := fun e => by rw [e] at h3; simp at h3
        (conv => whnf)
        refine ⟨_, add64 (c := ((k + 1 : Nat) : Int)) (by (try simp only []); omega) (by omega), ?_⟩
        (conv => whnf)
        refine ⟨k + 1, ⟨⟨hlt, cont (by simp only [h3']; simp)⟩, by show (entR t).1.length - (k + 1) < (entR t).1.length - k; omega⟩, ?_⟩
        (repeat' (first | exact trivial | exact Wk.refl _ | exact ObWk.refl _ | exact rfl | exact ⟨_, rfl⟩ | exact Nat.zero_lt_one | refine And.intro ?_ ?_ | unfold okTo | (unfold okO; conv => whnf) | (unfold okS; conv => whnf) | (unfold SlotOk; conv => whnf) | (unfold ObjOk; conv => whnf) | (unfold okCells; conv => whnf) | (unfold liveTo; conv => whnf) | exact Nat.zero_lt_succ _))
      ·have hk' : k = (entR t).1.length := by have := of_decide_eq_false h; simp only [List.length_map] at this; omega
       rw [List.take_of_length_le (by rw [offs_len]; omega)] at hfi
       rw [hfi]
       (conv => whnf)
       exact Wk.refl _
   ·have hno : ¬ (fl.getLast? = some 47 ∧ shortN fl.dropLast = true) := fun h => by
     have := h.1
     rw [hg] at this
     injection this with this
     subst this
     simp at h1
    rw [key hno]
    have hcl := hfew.1
    (conv => whnf)
    refine CallLeaf.wa (rentries_ t (by omega)) rfl ?_
    (conv => whnf)
    refine LWp.loop hT hmix [] (fun k : Nat => [(8, vI k)]) (fun _ => []) (fun k => k ≤ (entR t).1.length ∧ ((offs 0 (entR t).1).take k).find? (fun p => decide (fl = 47 :: dig 10 p.1) && decide ((dig 10 p.1).length ≤ 15)) = none) (fun k => (entR t).1.length - k) 0 ⟨Nat.zero_le _, rfl⟩ ?_
    (conv => whnf)
    refine ⟨?_, fun k ⟨hk, hfi⟩ => ?_⟩
    ·(repeat' (first | exact trivial | exact Wk.refl _ | exact ObWk.refl _ | exact rfl | exact ⟨_, rfl⟩ | exact Nat.zero_lt_one | refine And.intro ?_ ?_ | unfold okTo | (unfold okO; conv => whnf) | (unfold okS; conv => whnf) | (unfold SlotOk; conv => whnf) | (unfold ObjOk; conv => whnf) | (unfold okCells; conv => whnf) | (unfold liveTo; conv => whnf) | exact Nat.zero_lt_succ _))
    ·(conv => whnf)
     refine split_intro (fun h => ?_) (fun h => ?_)
     ·have hlt : k < (entR t).1.length := by have := of_decide_eq_true h; simp only [List.length_map] at this; omega
      obtain ⟨n, hxn⟩ := exI hlt
      have ho := offs_get (entR t).1 0 k hxn
      rw [Nat.zero_add] at ho
      have ht := tab_len hfew k
      have hd := dig_le (b := 10) (by omega) (tabP ((entR t).1.take k)).length (by omega)
      have hds := sB_sz (dig 10 (tabP ((entR t).1.take k)).length)
      (conv => whnf)
      refine ⟨((entR t).1.take k).map eS, slL (by omega) (by omega) (by simp; omega) (fun _ => rfl) (by simp), ?_⟩
      (conv => whnf)
      refine CallLeaf.wa (rtable_ ((entR t).1.take k) (few_take hfew k)) rfl ?_
      (conv => whnf)
      refine CallLeaf.wa (text_ 10 (by omega) (by omega) (tabP ((entR t).1.take k)).length (by omega)) rfl ?_
      (conv => whnf)
      refine ⟨sB (47 :: dig 10 (tabP ((entR t).1.take k)).length), ⟨by rw [sB_sz]; show 1 + (dig 10 _).length ≤ _; omega, sB_ap [47] _⟩, ?_⟩
      (conv => whnf)
      have cont : (fun p : Nat × Str => decide (fl = 47 :: dig 10 p.1) && decide ((dig 10 p.1).length ≤ 15)) ((tabP ((entR t).1.take k)).length, n) = false → ((offs 0 (entR t).1).take (k + 1)).find? (fun p => decide (fl = 47 :: dig 10 p.1) && decide ((dig 10 p.1).length ≤ 15)) = none := fun h => by
       rw [find_step ho hfi]; exact if_neg (fun h2 => Bool.noConfusion (h2.symm.trans h))
      refine split_intro (fun h3 => ?_) (fun h3 => ?_)
      ·have h3' : fl = 47 :: dig 10 (tabP ((entR t).1.take k)).length := sB_inj (by simpa using h3)
       (conv => whnf)
       refine split_intro (fun h4 => ?_) (fun h4 => ?_)
       ·have h4' : (dig 10 (tabP ((entR t).1.take k)).length).length ≤ 15 := by have := of_decide_eq_true h4; omega
        rw [find_at ho hfi (by simp only [h3', h4']; simp)]
        (conv => whnf)
        refine ⟨_, ⟨by omega, getMap hxn⟩, ?_⟩
        (conv => whnf)
        exact Wk.refl _
       ·have h4' : ¬ (dig 10 (tabP ((entR t).1.take k)).length).length ≤ 15 := by have := of_decide_eq_false h4; omega
        (conv => whnf)
        refine ⟨_, add64 (c := ((k + 1 : Nat) : Int)) (by (try simp only []); omega) (by omega), ?_⟩
        (conv => whnf)
        refine ⟨k + 1, ⟨⟨hlt, cont (by simp only [h4']; simp)⟩, by show (entR t).1.length - (k + 1) < (entR t).1.length - k; omega⟩, ?_⟩
        (repeat' (first | exact trivial | exact Wk.refl _ | exact ObWk.refl _ | exact rfl | exact ⟨_, rfl⟩ | exact Nat.zero_lt_one | refine And.intro ?_ ?_ | unfold okTo | (unfold okO; conv => whnf) | (unfold okS; conv => whnf) | (unfold SlotOk; conv => whnf) | (unfold ObjOk; conv => whnf) | (unfold okCells; conv => whnf) | (unfold liveTo; conv => whnf) | exact Nat.zero_lt_succ _))
      ·have h3' : ¬ fl = 47 :: dig 10 (tabP ((entR t).1.take k)).length := fun e => by rw [e] at h3; simp at h3
       (conv => whnf)
       refine ⟨_, add64 (c := ((k + 1 : Nat) : Int)) (by (try simp only []); omega) (by omega), ?_⟩
       (conv => whnf)
       refine ⟨k + 1, ⟨⟨hlt, cont (by simp only [h3']; simp)⟩, by show (entR t).1.length - (k + 1) < (entR t).1.length - k; omega⟩, ?_⟩
       (repeat' (first | exact trivial | exact Wk.refl _ | exact ObWk.refl _ | exact rfl | exact ⟨_, rfl⟩ | exact Nat.zero_lt_one | refine And.intro ?_ ?_ | unfold okTo | (unfold okO; conv => whnf) | (unfold okS; conv => whnf) | (unfold SlotOk; conv => whnf) | (unfold ObjOk; conv => whnf) | (unfold okCells; conv => whnf) | (unfold liveTo; conv => whnf) | exact Nat.zero_lt_succ _))
     ·have hk' : k = (entR t).1.length := by have := of_decide_eq_false h; simp only [List.length_map] at this; omega
      rw [List.take_of_length_le (by rw [offs_len]; omega)] at hfi
      rw [hfi]
      (conv => whnf)
      exact Wk.refl _
end Go.Proofs.YtenbpnlmpjndgaaGreatDoor.H

namespace Go.Proofs.YtenbpnlmpjndgaaGreatDoor.H
open Go Go.AL Go.AL.Hd Go.AL.Ln Go.AL.Ar
set_option maxRecDepth 100000
set_option maxHeartbeats 8000000
theorem clone_ [Go.AL.MX] (l : Str) : FCall Tryz.prog Gl 76 [LB l] [] (LBn l) [] := by
 refine FCall.enterL hT hmix [] Tryz.func76 rfl rfl rfl fun hbd => ?_
 have hl := bds_list hbd (.head _)
 (conv => whnf)
 refine ⟨fun e => ?_, fun e => ?_⟩
 ·have e' : l = [] := by simpa using e
  subst e'
  (conv => whnf)
  refine ⟨?_, ?_⟩
  ·(conv => whnf)
   exact Wk.natN rfl
  ·(conv => whnf)
   refine ⟨_, appL (f := byteD) (xs := []) (ys := []) (zs := []) rfl rfl (fun _ => rfl) rfl (by simp), ?_⟩
   (conv => whnf)
   exact Wk.nat' rfl
 ·(conv => whnf)
  refine ⟨_, appL (f := byteD) (xs := []) (ys := l) (zs := l) rfl rfl (fun _ => rfl) rfl (by show _ * 1 ≤ _; omega), ?_⟩
  (conv => whnf)
  exact Wk.nat' rfl
theorem anext_ [Go.AL.MX] (b : Str) (hb : b.length < 4294967280) : FCall Tryz.prog Gl 56 [LB b] [] (.tuple [.agg (nextP b).1.enc, vI (nextP b).2]) [] := by
 refine FCall.enterL hT hmix [] Tryz.func56 rfl rfl rfl fun hbd => ?_
 (conv => whnf)
 refine CallLeaf.wa (hdecode_ b) rfl ?_
 (conv => whnf)
 refine split_intro (fun h1 => ?_) (fun h1 => ?_)
 ·have h1' : (decR b).2 ≠ 0 := by simpa using h1
  have e : nextP b = (⟨hdr0, [], (decR b).2⟩, 0) := by unfold nextP; rw [if_pos h1']
  rw [e]
  (conv => whnf)
  exact Wk.tuple (Wks.cons (Wk.agg (Wks.cons (Wk.refl _) (Wks.cons (Wk.refl _) (Wks.cons (Wk.refl _) (Wks.cons (Wk.refl _) (Wks.cons (Wk.refl _) (Wks.cons (Wk.refl _) (Wks.cons (Wk.natN rfl) (Wks.cons (Wk.refl _) Wks.nil))))))))) (Wks.cons (Wk.refl _) Wks.nil))
 ·have h1' : (decR b).2 = 0 := by simpa using h1
  have hn1 : ¬ (decR b).2 ≠ 0 := fun h => h h1'
  obtain ⟨hsz, hsl⟩ := dec_size h1'
  obtain ⟨n, hn⟩ : ∃ n, n = szN b := ⟨_, rfl⟩
  rw [← hn] at hsz hsl
  (conv => whnf)
  refine ⟨_, add64 (c := ((60 + n : Nat) : Int)) (by rw [hsz]; omega) (by omega), ?_⟩
  (conv => whnf)
  refine ⟨_, rem64 (c := ((n % 2 : Nat) : Int)) (by rw [hsz]; rfl) (by omega), ?_⟩
  (conv => whnf)
  refine ⟨_, add64 (c := ((60 + n + n % 2 : Nat) : Int)) (by omega) (by omega), ?_⟩
  (conv => whnf)
  refine split_intro (fun h2 => ?_) (fun h2 => ?_)
  ·have h2' : b.length < 60 + n + n % 2 := by have := of_decide_eq_true h2; simp only [List.length_map] at this; omega
   have e : nextP b = (⟨hdr0, [], 2⟩, 0) := by unfold nextP; rw [if_neg hn1, ← hn, if_pos h2']
   rw [e]
   (conv => whnf)
   exact Wk.tuple (Wks.cons (Wk.agg (Wks.cons (Wk.refl _) (Wks.cons (Wk.refl _) (Wks.cons (Wk.refl _) (Wks.cons (Wk.refl _) (Wks.cons (Wk.refl _) (Wks.cons (Wk.refl _) (Wks.cons (Wk.natN rfl) (Wks.cons (Wk.refl _) Wks.nil))))))))) (Wks.cons (Wk.refl _) Wks.nil))
  ·have h2' : ¬ b.length < 60 + n + n % 2 := by have := of_decide_eq_false h2; simp only [List.length_map] at this; omega
   have fin : ¬ (n % 2 ≠ 0 ∧ b[60 + n]? ≠ some 10) → nextP b = (⟨(decR b).1, prt b 60 (60 + n), 0⟩, 60 + n + n % 2) := fun h => by unfold nextP; rw [if_neg hn1, ← hn, if_neg h2', if_neg h]
   (conv => whnf)
   refine ⟨_, rem64 (c := ((n % 2 : Nat) : Int)) (by rw [hsz]; rfl) (by omega), ?_⟩
   (conv => whnf)
   refine split_intro (fun h3 => ?_) (fun h3 => ?_)
   ·have h3' : n % 2 ≠ 0 := by have := h3; simp at this; omega
    obtain ⟨c, hc⟩ := exI (l := b) (k := 60 + n) (by omega)
    (conv => whnf)
    refine ⟨_, ⟨by omega, getMap hc⟩, ?_⟩
    (conv => whnf)
    refine split_intro (fun h4 => ?_) (fun h4 => ?_)
    ·have h4' : c ≠ 10 := O.u8_ne (y := 10) h4
     have e : nextP b = (⟨hdr0, [], 5⟩, 0) := by unfold nextP; rw [if_neg hn1, ← hn, if_neg h2', if_pos ⟨h3', by rw [hc]; simpa using h4'⟩]
     rw [e]
     (conv => whnf)
     exact Wk.tuple (Wks.cons (Wk.agg (Wks.cons (Wk.refl _) (Wks.cons (Wk.refl _) (Wks.cons (Wk.refl _) (Wks.cons (Wk.refl _) (Wks.cons (Wk.refl _) (Wks.cons (Wk.refl _) (Wks.cons (Wk.natN rfl) (Wks.cons (Wk.refl _) Wks.nil))))))))) (Wks.cons (Wk.refl _) Wks.nil))
    ·obtain rfl : c = 10 := O.u8_eq (y := 10) h4
     rw [fin (fun h => h.2 hc)]
     (conv => whnf)
     refine ⟨(prt b 60 (60 + n)).map byteD, slL (by omega) (by omega) (by simp; omega) (fun _ => rfl) (by show (b.take (60 + n)).drop 60 = _; rfl), ?_⟩
     (conv => whnf)
     refine CallLeaf.wa (clone_ (prt b 60 (60 + n))) rfl ?_
     (conv => whnf)
     refine ⟨_, rem64 (c := ((n % 2 : Nat) : Int)) (by rw [hsz]; rfl) (by omega), ?_⟩
     (conv => whnf)
     refine ⟨_, add64 (c := ((60 + n + n % 2 : Nat) : Int)) (by omega) (by omega), ?_⟩
     (conv => whnf)
     exact Wk.refl _
   ·have h3' : n % 2 = 0 := by have := h3; simp at this; omega
    rw [fin (fun h => h.1 h3')]
    (conv => whnf)
    refine ⟨(prt b 60 (60 + n)).map byteD, slL (by omega) (by omega) (by simp; omega) (fun _ => rfl) (by show (b.take (60 + n)).drop 60 = _; rfl), ?_⟩
    (conv => whnf)
    refine CallLeaf.wa (clone_ (prt b 60 (60 + n))) rfl ?_
    (conv => whnf)
    refine ⟨_, rem64 (c := ((n % 2 : Nat) : Int)) (by rw [hsz]; rfl) (by omega), ?_⟩
    (conv => whnf)
    refine ⟨_, add64 (c := ((60 + n + n % 2 : Nat) : Int)) (by omega) (by omega), ?_⟩
    (conv => whnf)
    exact Wk.refl _
end Go.Proofs.YtenbpnlmpjndgaaGreatDoor.H

namespace Go.Proofs.YtenbpnlmpjndgaaGreatDoor.H
open Go Go.AL Go.AL.Hd Go.AL.Ln Go.AL.Ar
set_option maxRecDepth 100000
set_option maxHeartbeats 8000000
abbrev eAr (x : Nat × Part) : List D := [vI x.1, .agg x.2.enc]
theorem aparts_ [Go.AL.MX] (t : Str) : FCall Tryz.prog Gl 35 [LB t] [] (.func (.func 55) [] [.ptr 0 0]) [.cells [LB t]] := by
 refine FCall.enterO hT hmix [] Tryz.func35 rfl rfl rfl fun hbd => ?_
 (conv => whnf)
 refine ⟨[0], rfl, by (try unfold pullOk); (repeat' (first | exact trivial | exact ObWk.refl _ | refine And.intro ?_ ?_ | unfold pullOk)), ?_⟩
 (conv => whnf)
 exact Wk.refl _
theorem aiter_ [Go.AL.MX] (b : Str) (hl : b.length < 4294967280) : IterSpec Tryz.prog Gl 55 (.cells [LB b]) eAr (partsP 8 (b.drop 8)) := by
 refine ⟨⟨_, Tryz.func55, by kernel_rfl, by kernel_rfl⟩, fun l B ok HY => ?_⟩
 refine FCall.enterO hT hmix [] Tryz.func55 rfl rfl rfl fun hbd => ?_
 (conv => whnf)
 refine LWp.loop hT hmix [] (fun x : List (Nat × Part) × Nat => [(3, vI x.2)]) (fun x => [(0, .bag (B x.1))]) (fun x => 8 ≤ x.2 ∧ (x.2 ≤ 8 ∨ x.2 ≤ b.length) ∧ partsP 8 (b.drop 8) = x.1 ++ partsP x.2 (b.drop x.2) ∧ (∀ p y s, x.1 = p ++ y :: s → ok (p ++ [y]) = true) ∧ visitR ok [] (partsP 8 (b.drop 8)) = visitR ok x.1 (partsP x.2 (b.drop x.2))) (fun x => b.length - x.2) ([], 8) ⟨Nat.le_refl _, .inl (Nat.le_refl _), rfl, (fun p y s h => by simp at h), rfl⟩ ?_
 (conv => whnf)
 refine ⟨?_, fun ⟨pre, k⟩ ⟨hk8, hkb, hx, hok, hv⟩ => ?_⟩
 ·(repeat' (first | exact trivial | exact Wk.refl _ | exact ObWk.refl _ | exact rfl | exact ⟨_, rfl⟩ | exact Nat.zero_lt_one | refine And.intro ?_ ?_ | unfold okTo | (unfold okO; conv => whnf) | (unfold okS; conv => whnf) | (unfold SlotOk; conv => whnf) | (unfold ObjOk; conv => whnf) | (unfold okCells; conv => whnf) | (unfold liveTo; conv => whnf) | exact Nat.zero_lt_succ _))
 ·(conv => whnf)
  refine split_intro (fun h => ?_) (fun h => ?_)
  ·have hlt : k < b.length := by have := of_decide_eq_true h; simp only [List.length_map] at this; omega
   have hne : b.drop k ≠ [] := fun e => by have := congrArg List.length e; simp at this; omega
   have hdl : (b.drop k).length < 4294967280 := by simp; omega
   (conv => whnf)
   refine ⟨(b.drop k).map byteD, slL (by show 0 ≤ (k : Int); omega) (by simp; omega) (by simp) (fun _ => rfl) (by simp), ?_⟩
   (conv => whnf)
   refine CallLeaf.wa (anext_ (b.drop k) hdl) rfl ?_
   (conv => whnf)
   obtain ⟨x, hxx⟩ : ∃ x, x = (k, (nextP (b.drop k)).1) := ⟨_, rfl⟩
   by_cases hw : (nextP (b.drop k)).1.why = 0
   ·have hxs := partsP_ok (k := k) hne hw
    obtain ⟨hn1, hn2, _, _, _, _⟩ := next_ok hw
    have hdl2 : (b.drop k).length = b.length - k := by simp
    have HYx := HY pre (k, (nextP (b.drop k)).1) (partsP (k + (nextP (b.drop k)).2) ((b.drop k).drop (nextP (b.drop k)).2)) (by rw [hx, hxs]) hok
    have hvv : visitR ok [] (partsP 8 (b.drop 8)) = match ok (pre ++ [(k, (nextP (b.drop k)).1)]) with | true => visitR ok (pre ++ [(k, (nextP (b.drop k)).1)]) (partsP (k + (nextP (b.drop k)).2) ((b.drop k).drop (nextP (b.drop k)).2)) | false => pre ++ [(k, (nextP (b.drop k)).1)] := by rw [hv, hxs]; rfl
    rw [List.drop_drop] at hvv hxs
    refine YLeaf.o [0] (by (repeat' (first | exact ArgsTo.nil | refine ArgsTo.cons ?_ ?_ | exact ArgTo.mk' rfl (Wk.refl _) | exact ArgTo.mk' rfl Wk.nilm | exact ArgTo.mk' rfl (Wk.int (by simp)) | exact ArgTo.mk' rfl (Wk.list _ _) | exact ArgTo.mk' rfl (Wk.agg (by (repeat' (first | exact Wks.nil | refine Wks.cons ?_ ?_ | exact Wk.refl _ | exact Wk.nilm | exact Wk.list _ _  | exact Wk.natN rfl | refine Wk.agg ?_))))))) (HYx) rfl rfl (by (repeat' (first | exact trivial | exact rfl | refine And.intro ?_ ?_))) (by (repeat' (first | exact trivial | exact rfl | refine And.intro ?_ ?_))) (by (repeat' (first | exact trivial | exact rfl | refine And.intro ?_ ?_))) rfl rfl ?_
    (conv => whnf)
    cases ho : ok (pre ++ [(k, (nextP (b.drop k)).1)]) with
    | true =>
     rw [ho] at hvv
     (conv => whnf)
     refine split_intro (fun h => absurd h (by rw [hw]; simp)) (fun _ => ?_)
     (conv => whnf)
     refine ⟨_, add64 (c := ((k + (nextP (b.drop k)).2 : Nat) : Int)) (by show (k : Int) + _ = _; omega) (by omega), ?_⟩
     (conv => whnf)
     refine ⟨(pre ++ [(k, (nextP (b.drop k)).1)], k + (nextP (b.drop k)).2), ⟨⟨by show 8 ≤ k + _; omega, .inr (by show k + _ ≤ b.length; omega), by rw [hx, hxs]; simp, ?_, hvv⟩, by show b.length - (k + _) < b.length - k; omega⟩, ?_⟩
     ·intro p y s h
      replace h : pre ++ [(k, (nextP (b.drop k)).1)] = p ++ y :: s := h
      rcases List.eq_nil_or_concat s with rfl | ⟨s', z, rfl⟩
      ·have := List.append_inj' h rfl
       obtain ⟨e1, e2⟩ := this
       simp at e2
       rw [← e1, ← e2]; exact ho
      ·have e3 : pre ++ [(k, (nextP (b.drop k)).1)] = (p ++ y :: s') ++ [z] := by rw [h]; simp
       exact hok p y s' (List.append_inj' e3 rfl).1
     ·(repeat' (first | exact trivial | exact Wk.refl _ | exact ObWk.refl _ | exact rfl | exact ⟨_, rfl⟩ | exact Nat.zero_lt_one | refine And.intro ?_ ?_ | unfold okTo | (unfold okO; conv => whnf) | (unfold okS; conv => whnf) | (unfold SlotOk; conv => whnf) | (unfold ObjOk; conv => whnf) | (unfold okCells; conv => whnf) | (unfold liveTo; conv => whnf) | exact Nat.zero_lt_succ _))
    | false =>
     rw [ho] at hvv
     rw [hvv]
     (conv => whnf)
     refine ⟨[0, 1], rfl, by (try unfold pullOk); (repeat' (first | exact trivial | exact ObWk.refl _ | refine And.intro ?_ ?_ | unfold pullOk)), ?_⟩
     exact Wk.refl _
   ·have hxs := partsP_bad (k := k) hne hw
    have HYx := HY pre (k, (nextP (b.drop k)).1) [] (by rw [hx, hxs]) hok
    have hvv : visitR ok [] (partsP 8 (b.drop 8)) = pre ++ [(k, (nextP (b.drop k)).1)] := by
     rw [hv, hxs]; simp only [visitR]; cases ok (pre ++ [(k, (nextP (b.drop k)).1)]) <;> rfl
    rw [hvv]
    refine YLeaf.o [0] (by (repeat' (first | exact ArgsTo.nil | refine ArgsTo.cons ?_ ?_ | exact ArgTo.mk' rfl (Wk.refl _) | exact ArgTo.mk' rfl Wk.nilm | exact ArgTo.mk' rfl (Wk.int (by simp)) | exact ArgTo.mk' rfl (Wk.list _ _) | exact ArgTo.mk' rfl (Wk.agg (by (repeat' (first | exact Wks.nil | refine Wks.cons ?_ ?_ | exact Wk.refl _ | exact Wk.nilm | exact Wk.list _ _  | exact Wk.natN rfl | refine Wk.agg ?_))))))) (HYx) rfl rfl (by (repeat' (first | exact trivial | exact rfl | refine And.intro ?_ ?_))) (by (repeat' (first | exact trivial | exact rfl | refine And.intro ?_ ?_))) (by (repeat' (first | exact trivial | exact rfl | refine And.intro ?_ ?_))) rfl rfl ?_
    (conv => whnf)
    cases ho : ok (pre ++ [(k, (nextP (b.drop k)).1)]) with
    | true =>
     (conv => whnf)
     refine split_intro (fun _ => ?_) (fun h => absurd h (by simp [hw]))
     (conv => whnf)
     refine ⟨[0, 1], rfl, by (try unfold pullOk); (repeat' (first | exact trivial | exact ObWk.refl _ | refine And.intro ?_ ?_ | unfold pullOk)), ?_⟩
     exact Wk.refl _
    | false =>
     (conv => whnf)
     refine ⟨[0, 1], rfl, by (try unfold pullOk); (repeat' (first | exact trivial | exact ObWk.refl _ | refine And.intro ?_ ?_ | unfold pullOk)), ?_⟩
     exact Wk.refl _
  ·have hk' : b.length ≤ k := by have := of_decide_eq_false h; simp only [List.length_map] at this; omega
   have e0 : partsP k (b.drop k) = [] := by rw [List.drop_of_length_le hk']; exact partsP_nil k
   rw [hv, e0]
   (conv => whnf)
   refine ⟨[0, 1], rfl, by (try unfold pullOk); (repeat' (first | exact trivial | exact ObWk.refl _ | refine And.intro ?_ ?_ | unfold pullOk)), ?_⟩
   exact Wk.refl _
end Go.Proofs.YtenbpnlmpjndgaaGreatDoor.H

namespace Go.Proofs.YtenbpnlmpjndgaaGreatDoor.H
open Go Go.AL Go.AL.Hd Go.AL.Ln Go.AL.Ar Go.AL.Sc
set_option maxRecDepth 100000
set_option maxHeartbeats 8000000
abbrev eMn (m : Mem) : List D := [sD m.name, vI m.time, vI m.uid, vI m.gid, vI m.mode, LBn m.data]
abbrev eO (n : Nat) : List D := [vI n]
abbrev obA (s : PS) : List AObj := [.cells [vB s.hm, LBn s.map, .list (.tok 1) (s.ms.map eMn), .list (.tok 2) (s.os.map eO), LBn s.names, vB s.ht], .tok (s.ms.map eMn).length 6, .tok (s.os.map eO).length 1]
structure OkP (s : PS) (p : Part) : Prop where
 d : p.data.length < 4294967280
 n : p.h.name.length < 4294967281
 t : s.names.length < 4294967280
 m : s.ms.length ≤ 1000000000
 o : s.os.length ≤ 1000000000
theorem aadd_ [Go.AL.MX] (s : PS) (k : Nat) (p : Part) (H : OkP s p) : FCall Tryz.prog Gl 36 [.ptr 0 0, vI k, .agg p.enc] (obA s) (vI (addP s k p).2) (obA (addP s k p).1) := by
 obtain ⟨hd, hn, ht, hm, ho⟩ := H
 obtain ⟨⟨nm, dt, ui, gi, mo, si⟩, data, why⟩ := p
 obtain ⟨hm', map, ms, os, names, ht'⟩ := s
 simp only at hd hn ht hm ho
 refine FCall.enterO hT hmix [] Tryz.func36 rfl rfl rfl fun hbd => ?_
 (conv => whnf)
 refine split_intro (fun h1 => ?_) (fun h1 => ?_)
 ·have h1' : ms = [] := by simpa using h1
  subst h1'
  cases ht' with
  | true =>
   (conv => whnf)
   refine split_intro (fun hA => ?_) (fun hA => ?_)
   ·have hA' : nm = [47] := by simpa [sB] using hA
    subst hA'
    (conv => whnf)
    have e : addP ⟨hm', map, [], os, names, true⟩ k ⟨⟨[47], dt, ui, gi, mo, si⟩, data, why⟩ = (⟨hm', map, [], os, names, true⟩, 8) := by simp [addP, PS.first]
    rw [e]
    refine ⟨[0, 1, 2], rfl, by (try unfold pullOk); (repeat' (first | exact trivial | exact ObWk.refl _ | refine And.intro ?_ ?_ | unfold pullOk)), ?_⟩
    exact Wk.refl _
   ·have hA' : nm ≠ [47] := by simpa [sB] using hA
    (conv => whnf)
    refine split_intro (fun hB => ?_) (fun hB => ?_)
    ·have hB' : nm = [47, 47] := by simpa [sB] using hB
     subst hB'
     have e : addP ⟨hm', map, [], os, names, true⟩ k ⟨⟨[47, 47], dt, ui, gi, mo, si⟩, data, why⟩ = (⟨hm', map, [], os, names, true⟩, 7) := by simp [addP, PS.first]
     rw [e]
     (conv => whnf)
     refine CallLeaf.wa (entries_ data hd) rfl ?_
     (conv => whnf)
     refine split_intro (fun hC => ?_) (fun hC => ?_)
     ·(conv => whnf)
      refine ⟨[0, 1, 2], rfl, by (try unfold pullOk); (repeat' (first | exact trivial | exact ObWk.refl _ | refine And.intro ?_ ?_ | unfold pullOk)), ?_⟩
      exact Wk.refl _
     ·(conv => whnf)
      refine ⟨[0, 1, 2], rfl, by (try unfold pullOk); (repeat' (first | exact trivial | exact ObWk.refl _ | refine And.intro ?_ ?_ | unfold pullOk)), ?_⟩
      exact Wk.refl _
    ·have hB' : nm ≠ [47, 47] := by simpa [sB] using hB
     (conv => whnf)
     refine CallLeaf.wa (resolve_ nm names hn ht) rfl ?_
     (conv => whnf)
     refine split_intro (fun hC => ?_) (fun hC => ?_)
     ·have hC' : (resP nm names).2 ≠ 0 := by simpa using hC
      have e : addP ⟨hm', map, [], os, names, true⟩ k ⟨⟨nm, dt, ui, gi, mo, si⟩, data, why⟩ = (⟨hm', map, [], os, names, true⟩, (resP nm names).2) := by unfold addP; rw [if_neg hA', if_neg hB', if_pos hC']
      rw [e]
      (conv => whnf)
      refine ⟨[0, 1, 2], rfl, by (try unfold pullOk); (repeat' (first | exact trivial | exact ObWk.refl _ | refine And.intro ?_ ?_ | unfold pullOk)), ?_⟩
      exact Wk.refl _
     ·have hC' : (resP nm names).2 = 0 := by simpa using hC
      have e : addP ⟨hm', map, [], os, names, true⟩ k ⟨⟨nm, dt, ui, gi, mo, si⟩, data, why⟩ = (⟨hm', map, [] ++ [⟨(resP nm names).1, dt, ui, gi, mo, data⟩], os ++ [k], names, true⟩, 0) := by unfold addP; rw [if_neg hA', if_neg hB', if_neg (fun h => h hC')]
      rw [e]
      (conv => whnf)
      refine ⟨_, appL (f := eMn) (xs := []) (ys := [⟨(resP nm names).1, dt, ui, gi, mo, data⟩]) (zs := [] ++ [⟨(resP nm names).1, dt, ui, gi, mo, data⟩]) rfl rfl (fun _ => rfl) rfl (by show _ * 72 ≤ _; simp <;> omega), ?_⟩
      (conv => whnf)
      refine ⟨_, appL (f := eO) (xs := os) (ys := [k]) (zs := os ++ [k]) rfl rfl (fun _ => rfl) rfl (by show _ * 8 ≤ _; simp; omega), ?_⟩
      (conv => whnf)
      refine ⟨[0, 1, 2], rfl, by (try unfold pullOk); (repeat' (first | exact trivial | exact ObWk.refl _ | refine And.intro ?_ ?_ | unfold pullOk)), ?_⟩
      exact Wk.refl _
  | false =>
   (conv => whnf)
   refine split_intro (fun hA => ?_) (fun hA => ?_)
   ·have hA' : nm = [47] := by simpa [sB] using hA
    subst hA'
    cases hm' with
    | true =>
     have e : addP ⟨true, map, [], os, names, false⟩ k ⟨⟨[47], dt, ui, gi, mo, si⟩, data, why⟩ = (⟨true, map, [], os, names, false⟩, 8) := by simp [addP, PS.first]
     rw [e]
     (conv => whnf)
     refine ⟨[0, 1, 2], rfl, by (try unfold pullOk); (repeat' (first | exact trivial | exact ObWk.refl _ | refine And.intro ?_ ?_ | unfold pullOk)), ?_⟩
     exact Wk.refl _
    | false =>
     have e : addP ⟨false, map, [], os, names, false⟩ k ⟨⟨[47], dt, ui, gi, mo, si⟩, data, why⟩ = (⟨true, data, [], os, names, false⟩, 0) := by simp [addP, PS.first]
     rw [e]
     (conv => whnf)
     refine ⟨[0, 1, 2], rfl, by (try unfold pullOk); (repeat' (first | exact trivial | exact ObWk.refl _ | refine And.intro ?_ ?_ | unfold pullOk)), ?_⟩
     exact Wk.refl _
   ·have hA' : nm ≠ [47] := by simpa [sB] using hA
    (conv => whnf)
    refine split_intro (fun hB => ?_) (fun hB => ?_)
    ·have hB' : nm = [47, 47] := by simpa [sB] using hB
     subst hB'
     (conv => whnf)
     refine CallLeaf.wa (entries_ data hd) rfl ?_
     (conv => whnf)
     refine split_intro (fun hC => ?_) (fun hC => ?_)
     ·have hC' : (entR data).2 ≠ 0 := by simpa using hC
      have e : addP ⟨hm', map, [], os, names, false⟩ k ⟨⟨[47, 47], dt, ui, gi, mo, si⟩, data, why⟩ = (⟨hm', map, [], os, names, false⟩, 7) := by unfold addP; rw [if_neg (by simp), if_pos rfl, if_pos (.inl hC')]
      rw [e]
      (conv => whnf)
      refine ⟨[0, 1, 2], rfl, by (try unfold pullOk); (repeat' (first | exact trivial | exact ObWk.refl _ | refine And.intro ?_ ?_ | unfold pullOk)), ?_⟩
      exact Wk.refl _
     ·have hC' : (entR data).2 = 0 := by simpa using hC
      have e : addP ⟨hm', map, [], os, names, false⟩ k ⟨⟨[47, 47], dt, ui, gi, mo, si⟩, data, why⟩ = (⟨hm', map, [], os, data, true⟩, 0) := by unfold addP; rw [if_neg (by simp), if_pos rfl, if_neg (by rintro (h | h); exact h hC'; simp [PS.first] at h)]
      rw [e]
      (conv => whnf)
      refine ⟨[0, 1, 2], rfl, by (try unfold pullOk); (repeat' (first | exact trivial | exact ObWk.refl _ | refine And.intro ?_ ?_ | unfold pullOk)), ?_⟩
      exact Wk.refl _
    ·have hB' : nm ≠ [47, 47] := by simpa [sB] using hB
     (conv => whnf)
     refine CallLeaf.wa (resolve_ nm names hn ht) rfl ?_
     (conv => whnf)
     refine split_intro (fun hC => ?_) (fun hC => ?_)
     ·have hC' : (resP nm names).2 ≠ 0 := by simpa using hC
      have e : addP ⟨hm', map, [], os, names, false⟩ k ⟨⟨nm, dt, ui, gi, mo, si⟩, data, why⟩ = (⟨hm', map, [], os, names, false⟩, (resP nm names).2) := by unfold addP; rw [if_neg hA', if_neg hB', if_pos hC']
      rw [e]
      (conv => whnf)
      refine ⟨[0, 1, 2], rfl, by (try unfold pullOk); (repeat' (first | exact trivial | exact ObWk.refl _ | refine And.intro ?_ ?_ | unfold pullOk)), ?_⟩
      exact Wk.refl _
     ·have hC' : (resP nm names).2 = 0 := by simpa using hC
      have e : addP ⟨hm', map, [], os, names, false⟩ k ⟨⟨nm, dt, ui, gi, mo, si⟩, data, why⟩ = (⟨hm', map, [] ++ [⟨(resP nm names).1, dt, ui, gi, mo, data⟩], os ++ [k], names, false⟩, 0) := by unfold addP; rw [if_neg hA', if_neg hB', if_neg (fun h => h hC')]
      rw [e]
      (conv => whnf)
      refine ⟨_, appL (f := eMn) (xs := []) (ys := [⟨(resP nm names).1, dt, ui, gi, mo, data⟩]) (zs := [] ++ [⟨(resP nm names).1, dt, ui, gi, mo, data⟩]) rfl rfl (fun _ => rfl) rfl (by show _ * 72 ≤ _; simp <;> omega), ?_⟩
      (conv => whnf)
      refine ⟨_, appL (f := eO) (xs := os) (ys := [k]) (zs := os ++ [k]) rfl rfl (fun _ => rfl) rfl (by show _ * 8 ≤ _; simp; omega), ?_⟩
      (conv => whnf)
      refine ⟨[0, 1, 2], rfl, by (try unfold pullOk); (repeat' (first | exact trivial | exact ObWk.refl _ | refine And.intro ?_ ?_ | unfold pullOk)), ?_⟩
      exact Wk.refl _
 ·have h1' : ¬ ms = [] := by simpa using h1
  (conv => whnf)
  refine split_intro (fun hA => ?_) (fun hA => ?_)
  ·have hA' : nm = [47] := by simpa [sB] using hA
   subst hA'
   (conv => whnf)
   have e : addP ⟨hm', map, ms, os, names, ht'⟩ k ⟨⟨[47], dt, ui, gi, mo, si⟩, data, why⟩ = (⟨hm', map, ms, os, names, ht'⟩, 8) := by simp [addP, PS.first, h1']
   rw [e]
   refine ⟨[0, 1, 2], rfl, by (try unfold pullOk); (repeat' (first | exact trivial | exact ObWk.refl _ | refine And.intro ?_ ?_ | unfold pullOk)), ?_⟩
   exact Wk.refl _
  ·have hA' : nm ≠ [47] := by simpa [sB] using hA
   (conv => whnf)
   refine split_intro (fun hB => ?_) (fun hB => ?_)
   ·have hB' : nm = [47, 47] := by simpa [sB] using hB
    subst hB'
    have e : addP ⟨hm', map, ms, os, names, ht'⟩ k ⟨⟨[47, 47], dt, ui, gi, mo, si⟩, data, why⟩ = (⟨hm', map, ms, os, names, ht'⟩, 7) := by simp [addP, PS.first, h1']
    rw [e]
    (conv => whnf)
    refine CallLeaf.wa (entries_ data hd) rfl ?_
    (conv => whnf)
    refine split_intro (fun hC => ?_) (fun hC => ?_)
    ·(conv => whnf)
     refine ⟨[0, 1, 2], rfl, by (try unfold pullOk); (repeat' (first | exact trivial | exact ObWk.refl _ | refine And.intro ?_ ?_ | unfold pullOk)), ?_⟩
     exact Wk.refl _
    ·(conv => whnf)
     refine ⟨[0, 1, 2], rfl, by (try unfold pullOk); (repeat' (first | exact trivial | exact ObWk.refl _ | refine And.intro ?_ ?_ | unfold pullOk)), ?_⟩
     exact Wk.refl _
   ·have hB' : nm ≠ [47, 47] := by simpa [sB] using hB
    (conv => whnf)
    refine CallLeaf.wa (resolve_ nm names hn ht) rfl ?_
    (conv => whnf)
    refine split_intro (fun hC => ?_) (fun hC => ?_)
    ·have hC' : (resP nm names).2 ≠ 0 := by simpa using hC
     have e : addP ⟨hm', map, ms, os, names, ht'⟩ k ⟨⟨nm, dt, ui, gi, mo, si⟩, data, why⟩ = (⟨hm', map, ms, os, names, ht'⟩, (resP nm names).2) := by unfold addP; rw [if_neg hA', if_neg hB', if_pos hC']
     rw [e]
     (conv => whnf)
     refine ⟨[0, 1, 2], rfl, by (try unfold pullOk); (repeat' (first | exact trivial | exact ObWk.refl _ | refine And.intro ?_ ?_ | unfold pullOk)), ?_⟩
     exact Wk.refl _
    ·have hC' : (resP nm names).2 = 0 := by simpa using hC
     have e : addP ⟨hm', map, ms, os, names, ht'⟩ k ⟨⟨nm, dt, ui, gi, mo, si⟩, data, why⟩ = (⟨hm', map, ms ++ [⟨(resP nm names).1, dt, ui, gi, mo, data⟩], os ++ [k], names, ht'⟩, 0) := by unfold addP; rw [if_neg hA', if_neg hB', if_neg (fun h => h hC')]
     rw [e]
     (conv => whnf)
     refine ⟨_, appL (f := eMn) (xs := ms) (ys := [⟨(resP nm names).1, dt, ui, gi, mo, data⟩]) (zs := ms ++ [⟨(resP nm names).1, dt, ui, gi, mo, data⟩]) rfl rfl (fun _ => rfl) rfl (by show _ * 72 ≤ _; simp <;> omega), ?_⟩
     (conv => whnf)
     refine ⟨_, appL (f := eO) (xs := os) (ys := [k]) (zs := os ++ [k]) rfl rfl (fun _ => rfl) rfl (by show _ * 8 ≤ _; simp; omega), ?_⟩
     (conv => whnf)
     refine ⟨[0, 1, 2], rfl, by (try unfold pullOk); (repeat' (first | exact trivial | exact ObWk.refl _ | refine And.intro ?_ ?_ | unfold pullOk)), ?_⟩
     exact Wk.refl _
end Go.Proofs.YtenbpnlmpjndgaaGreatDoor.H

namespace Go.Proofs.YtenbpnlmpjndgaaGreatDoor.H
open Go Go.AL Go.AL.Hd Go.AL.Ln Go.AL.Ar Go.AL.Sc
set_option maxRecDepth 100000
set_option maxHeartbeats 8000000
theorem hprep_ [Go.AL.MX] (l p : Str) (hl : l.length < 4294967281) (hp : p.length < 4294967281) : FCall Tryz.prog Gl 74 [sD l, sD p] [] (vB (decide (p.length ≤ l.length) && decide (l.take p.length = p))) [] := by
 have hs := sB_sz l
 have hps := sB_sz p
 refine FCall.enterL hT hmix [] Tryz.func74 rfl rfl rfl fun hbd => ?_
 (conv => whnf)
 refine split_intro (fun h1 => ?_) (fun h1 => ?_)
 ·have h1' := of_decide_eq_true h1
  have h1' : p.length ≤ l.length := by omega
  (conv => whnf)
  refine ⟨sB (l.take p.length), ⟨by omega, by omega, by omega, by rw [ext_prt, hps]; rfl⟩, ?_⟩
  (conv => whnf)
  refine Wk.bool ?_
  rw [decide_eq_true h1', Bool.true_and]
  done
 ·have h1' := of_decide_eq_false h1
  rw [decide_eq_false (show ¬ p.length ≤ l.length by omega), Bool.false_and]
  (conv => whnf)
  exact Wk.refl _
theorem hpre2_ [Go.AL.MX] (l p : Str) (hl : l.length < 4294967281) (hp : p.length < 4294967281) : FCall Tryz.prog Gl 54 [sD l, sD p] [] (vB (decide (p.length ≤ l.length) && decide (l.take p.length = p))) [] := by
 refine FCall.enterL hT hmix [] Tryz.func54 rfl rfl rfl fun hbd => ?_
 (conv => whnf)
 refine CallLeaf.wa (hprep_ l p hl hp) rfl ?_
 (conv => whnf)
 exact Wk.refl _
abbrev isP (b : Str) : Bool := decide (8 ≤ b.length) && decide (b.take 8 = magic)
theorem ais_ [Go.AL.MX] (b : Str) (hb : b.length < 4294967281) : FCall Tryz.prog Gl 34 [LB b] [] (vB (isP b)) [] := by
 refine FCall.enterL hT hmix [] Tryz.func34 rfl rfl rfl fun hbd => ?_
 (conv => whnf)
 refine ⟨b, rfl, ?_⟩
 (conv => whnf)
 refine CallLeaf.wa (hpre2_ b magic hb (by decide)) rfl ?_
 (conv => whnf)
 exact Wk.refl _
end Go.Proofs.YtenbpnlmpjndgaaGreatDoor.H

namespace Go.Proofs.YtenbpnlmpjndgaaGreatDoor.H
open Go Go.AL Go.AL.Hd Go.AL.Ln Go.AL.Ar Go.AL.Sc
set_option maxRecDepth 100000
set_option maxHeartbeats 8000000
abbrev eArc (a : Arc) : List D := [vB a.hm, LBn a.map, .list .nat (a.ms.map eMn), .list .nat (a.os.map eO)]
abbrev lastO (p : List (Nat × Part)) : Nat := (p.getLast?.map (·.1)).getD 0
abbrev atA (p : List (Nat × Part)) : Nat := if (foldP p).2 = 0 then 0 else lastO p
abbrev coX (a : Nat) (e : Int) (s : PS) : So := [(0, .cells [vB false, .nil, .nil, .nil]), (8, .cells [vI a]), (16, .cells [vI e]), (2560, .cells [vB s.hm, LBn s.map, .list (.tok 301) (s.ms.map eMn), .list (.tok 302) (s.os.map eO), LBn s.names, vB s.ht]), (301, .tok (s.ms.map eMn).length 6), (302, .tok (s.os.map eO).length 1)]
abbrev coA (p : List (Nat × Part)) : So := coX (atA p) (foldP p).2 (foldP p).1
abbrev juA (p : List (Nat × Part)) : Exit := if okA p then .normal else .ret
theorem preA {p : List (Nat × Part)} (h : ∀ a y s, p = a ++ y :: s → juA (a ++ [y]) = .normal) : okA p = true := by
 rcases List.eq_nil_or_concat p with rfl | ⟨a, y, rfl⟩
 ·rfl
 ·have := h a y [] (by simp)
  cases ho : okA (a ++ [y]) with
  | true => simpa using ho
  | false => rw [juA, ho] at this; simp at this
theorem juA_code : (fun p : List (Nat × Part) => (jcode (juA p)).isNone) = okA := by
 funext p
 cases ho : okA p <;> simp only [juA, ho] <;> rfl
theorem aparse_ [Go.AL.MX] (b : Str) (hb : b.length < 4294967280) : FCall Tryz.prog Gl 13 [LB b] [] (.tuple [.agg (eArc (arcP b).1), vI (arcP b).2.1, vI (arcP b).2.2]) [] := by
 refine FCall.enterM hT hmix [] Tryz.func13 rfl rfl rfl fun hbd base => ?_
 (conv => whnf)
 refine split_intro (fun h1 => ?_) (fun h1 => ?_)
 ·have h1' : b.length < 8 := by have := of_decide_eq_true h1; simp only [List.length_map] at this; omega
  have e : arcP b = (Arc0, 0, 2) := by unfold arcP; rw [if_pos h1']
  rw [e]
  (conv => whnf)
  refine ⟨[], rfl, by (try unfold pullOk); (repeat' (first | exact trivial | exact ObWk.refl _ | refine And.intro ?_ ?_ | unfold pullOk)), ?_⟩
  (conv => whnf)
  exact Wk.tuple (Wks.cons (Wk.agg (Wks.cons (Wk.refl _) (Wks.cons (Wk.natN rfl) (Wks.cons (Wk.natN rfl) (Wks.cons (Wk.natN rfl) Wks.nil))))) (Wks.cons (Wk.refl _) (Wks.cons (Wk.refl _) Wks.nil)))
 ·have h1' : ¬ b.length < 8 := by have := of_decide_eq_false h1; simp only [List.length_map] at this; omega
  (conv => whnf)
  refine CallLeaf.wa (ais_ b (by omega)) rfl ?_
  (conv => whnf)
  cases his : isP b with
  | false =>
   have h2' : b.take 8 ≠ magic := by intro h; rw [isP, h] at his; simp at his; omega
   have e : arcP b = (Arc0, 0, 1) := by unfold arcP; rw [if_neg h1', if_pos h2']
   rw [e]
   (conv => whnf)
   refine ⟨[], rfl, by (try unfold pullOk); (repeat' (first | exact trivial | exact ObWk.refl _ | refine And.intro ?_ ?_ | unfold pullOk)), ?_⟩
   (conv => whnf)
   exact Wk.tuple (Wks.cons (Wk.agg (Wks.cons (Wk.refl _) (Wks.cons (Wk.natN rfl) (Wks.cons (Wk.natN rfl) (Wks.cons (Wk.natN rfl) Wks.nil))))) (Wks.cons (Wk.refl _) (Wks.cons (Wk.refl _) Wks.nil)))
  | true =>
   have h2' : b.take 8 = magic := by simp only [isP, Bool.and_eq_true, decide_eq_true_eq] at his; exact his.2
   have e : arcP b = match runP PS0 (partsP 8 (b.drop 8)) with | (s, none) => (s.arc, 0, 0) | (_, some (k, e)) => (Arc0, k, e) := by unfold arcP; rw [if_neg h1', if_neg (fun h => h h2')]; rfl
   (conv => whnf)
   refine CallLeaf.oa [3080] (aparts_ b) rfl rfl rfl rfl ?_
   (conv => whnf)
   have hPB := parts_bd _ (b.drop 8) 8 (Nat.le_refl _)
   have hdl : (b.drop 8).length = b.length - 8 := by simp
   refine LWp.rangeFunc hT hmix rfl [] [] 400000 3080 [20] coA juA (aiter_ b (by omega)) (fun _ => rfl) (fun _ => rfl) rfl (fun p => by cases h : okA p <;> simp [juA, h, jok]) rfl rfl rfl rfl (by simp) rfl (fun p => ?_) ?_
   ·(repeat' (first | exact trivial | exact rfl | refine And.intro ?_ ?_ | (conv => whnf)))
   ·(conv => whnf)
    refine ⟨?_, ?_, ?_, fun pre x r he hn => ?_, fun v hv => ?_⟩
    ·(repeat' (first | exact trivial | exact Wk.refl _ | exact ObWk.refl _ | exact rfl | exact ⟨_, rfl⟩ | exact Nat.zero_lt_one | refine And.intro ?_ ?_ | unfold okTo | (unfold okO; conv => whnf) | (unfold okS; conv => whnf) | (unfold SlotOk; conv => whnf) | (unfold ObjOk; conv => whnf) | (unfold okCells; conv => whnf) | (unfold liveTo; conv => whnf) | exact Nat.zero_lt_succ _))
     all_goals exact Wk.natN rfl
    ·(repeat' (first | exact trivial | exact rfl | refine And.intro ?_ ?_ | (conv => whnf)))
    ·(repeat' (first | exact trivial | exact rfl | refine And.intro ?_ ?_ | (conv => whnf)))
    ·have hok := preA hn
     have e0 : (foldP pre).2 = 0 := of_decide_eq_true hok
     have hmem : x ∈ partsP 8 (b.drop 8) := by rw [he]; simp
     have hpl : (pre.length + 1) * 60 ≤ b.length + 60 := by
      have := hPB.1; rw [he] at this; simp only [List.length_append, List.length_cons] at this
      omega
     have hL := Lim.fold (c := b.length) pre (fun y hy => by have := (hPB.2 y (by rw [he]; exact List.mem_append_left _ hy)).1; omega)
     have hX := hPB.2 x hmem
     have eD : coA pre = coX 0 0 (foldP pre).1 := by simp only [coA, atA, e0, if_true]
     have eF := foldP_snoc pre x
     rw [eD]
     obtain ⟨s, hs⟩ : ∃ s, s = (foldP pre).1 := ⟨_, rfl⟩
     rw [← hs] at hL eF ⊢
     obtain ⟨k, pt⟩ := x
     obtain ⟨hX1, hX2, hX3, hX4⟩ := hX
     replace hX1 : pt.data.length ≤ (b.drop 8).length := hX1
     replace hX2 : pt.h.name.length ≤ 16 := hX2
     replace hX4 : k ≤ 8 + (b.drop 8).length := hX4
     have hLo : lastO (pre ++ [(k, pt)]) = k := by simp [lastO]
     by_cases hw : pt.why = 0
     ·have eS : stepP s (k, pt) = addP s k pt := by unfold stepP; rw [if_neg (fun h => h hw)]
      (conv => whnf)
      refine split_intro (fun _ => ?_) (fun h => absurd h (by simp [hw]))
      (conv => whnf)
      refine CallLeaf.oa [2560, 301, 302] (aadd_ s k pt ⟨by omega, by omega, by have := hL.t; omega, by have := hL.m; omega, by have := hL.o; have := hL.m; omega⟩) rfl rfl rfl rfl ?_
      rw [eS] at eF
      (conv => whnf)
      by_cases hz : (addP s k pt).2 = 0
      ·have eJ : juA (pre ++ [(k, pt)]) = .normal := by simp only [juA, okA, eF, hz]; rfl
       have eC : coA (pre ++ [(k, pt)]) = coX 0 0 (addP s k pt).1 := by simp only [coA, atA, eF, hz, if_true]
       refine split_intro (fun h => absurd h (by simp [hz])) (fun _ => ?_)
       (conv => whnf)
       refine ⟨eJ.symm, ?_⟩
       rw [eC]
       (repeat' (first | exact trivial | exact Wk.refl _ | exact ObWk.refl _ | exact rfl | exact ⟨_, rfl⟩ | exact Nat.zero_lt_one | refine And.intro ?_ ?_ | unfold okToR | (unfold liveKs; conv => whnf) | (unfold okO; conv => whnf) | (unfold okS; conv => whnf) | (unfold SlotOk; conv => whnf) | (unfold ObjOk; conv => whnf) | (unfold okCells; conv => whnf) | exact Nat.zero_lt_succ _))
      ·have eJ : juA (pre ++ [(k, pt)]) = .ret := by simp only [juA, okA, eF, decide_eq_false hz]; rfl
       have eC : coA (pre ++ [(k, pt)]) = coX k (addP s k pt).2 (addP s k pt).1 := by simp only [coA, atA, eF, if_neg hz, hLo]
       refine split_intro (fun _ => ?_) (fun h => absurd h (by simpa using hz))
       (conv => whnf)
       refine ⟨eJ.symm, ?_⟩
       rw [eC]
       (repeat' (first | exact trivial | exact Wk.refl _ | exact ObWk.refl _ | exact rfl | exact ⟨_, rfl⟩ | exact Nat.zero_lt_one | refine And.intro ?_ ?_ | unfold okToR | (unfold liveKs; conv => whnf) | (unfold okO; conv => whnf) | (unfold okS; conv => whnf) | (unfold SlotOk; conv => whnf) | (unfold ObjOk; conv => whnf) | (unfold okCells; conv => whnf) | exact Nat.zero_lt_succ _))
     ·have eS : stepP s (k, pt) = (s, pt.why) := by unfold stepP; rw [if_pos hw]
      rw [eS] at eF
      have eJ : juA (pre ++ [(k, pt)]) = .ret := by simp only [juA, okA, eF, decide_eq_false hw]; rfl
      have eC : coA (pre ++ [(k, pt)]) = coX k pt.why s := by simp only [coA, atA, eF, if_neg hw, hLo]
      (conv => whnf)
      refine split_intro (fun h => absurd h (by simpa using hw)) (fun _ => ?_)
      (conv => whnf)
      refine split_intro (fun _ => ?_) (fun h => absurd h (by simpa using hw))
      (conv => whnf)
      refine ⟨eJ.symm, ?_⟩
      rw [eC]
      (repeat' (first | exact trivial | exact Wk.refl _ | exact ObWk.refl _ | exact rfl | exact ⟨_, rfl⟩ | exact Nat.zero_lt_one | refine And.intro ?_ ?_ | unfold okToR | (unfold liveKs; conv => whnf) | (unfold okO; conv => whnf) | (unfold okS; conv => whnf) | (unfold SlotOk; conv => whnf) | (unfold ObjOk; conv => whnf) | (unfold okCells; conv => whnf) | exact Nat.zero_lt_succ _))
    ·rw [juA_code] at hv
     obtain ⟨hv1, hv2⟩ := visitA (partsP 8 (b.drop 8)) [] rfl
     rw [← hv] at hv1 hv2
     cases hok : okA v with
     | true =>
      obtain ⟨e1, e2⟩ := hv1 hok
      simp only [List.nil_append] at e1 e2
      rw [← e1] at e2
      have e0 : (foldP v).2 = 0 := of_decide_eq_true hok
      have eD : coA v = coX 0 0 (foldP v).1 := by simp only [coA, atA, e0, if_true]
      rw [show juA v = .normal by simp [juA, hok], eD]
      rw [show runP PS0 (partsP 8 (b.drop 8)) = ((foldP v).1, none) by rw [← e1]; exact e2] at e
      rw [e]
      (conv => whnf)
      refine ⟨[], rfl, by (try unfold pullOk); (repeat' (first | exact trivial | exact ObWk.refl _ | refine And.intro ?_ ?_ | unfold pullOk)), ?_⟩
      (conv => whnf)
      exact Wk.tuple (Wks.cons (Wk.agg (Wks.cons (Wk.refl _) (Wks.cons (Wk.refl _) (Wks.cons (Wk.refl _) (Wks.cons (Wk.refl _) Wks.nil))))) (Wks.cons (Wk.refl _) (Wks.cons (Wk.refl _) Wks.nil)))
     | false =>
      obtain ⟨q, x, e1, e2, e3⟩ := hv2 hok
      have e0 : (foldP v).2 ≠ 0 := of_decide_eq_false hok
      have hLo : lastO v = x.1 := by rw [e1]; simp [lastO]
      have eD : coA v = coX x.1 (foldP v).2 (foldP v).1 := by simp only [coA, atA, if_neg e0, hLo]
      rw [show juA v = .ret by simp [juA, hok], eD]
      rw [show runP PS0 (partsP 8 (b.drop 8)) = ((foldP v).1, some (x.1, (foldP v).2)) by rw [e1]; exact e3] at e
      rw [e]
      (conv => whnf)
      refine ⟨[], rfl, by (try unfold pullOk); (repeat' (first | exact trivial | exact ObWk.refl _ | refine And.intro ?_ ?_ | unfold pullOk)), ?_⟩
      (conv => whnf)
      exact Wk.tuple (Wks.cons (Wk.agg (Wks.cons (Wk.refl _) (Wks.cons (Wk.natN rfl) (Wks.cons (Wk.natN rfl) (Wks.cons (Wk.natN rfl) Wks.nil))))) (Wks.cons (Wk.refl _) (Wks.cons (Wk.refl _) Wks.nil)))
end Go.Proofs.YtenbpnlmpjndgaaGreatDoor.H

namespace Go.Proofs.YtenbpnlmpjndgaaGreatDoor.H
open Go Go.AL Go.AL.Hd Go.AL.Ln Go.AL.Ar Go.AL.Sc
set_option maxRecDepth 100000
set_option maxHeartbeats 8000000
theorem rmagic_ [Go.AL.MX] : FCall Tryz.prog Gl 29 [] [] (LBn magic) [] := by
 refine FCall.enterL hT hmix [] Tryz.func29 rfl rfl rfl fun hbd => ?_
 (conv => whnf)
 exact Wk.refl _
theorem ris_ [Go.AL.MX] (b : Str) : FCall Tryz.prog Gl 46 [LB b] [] (vB (isP b)) [] := by
 refine FCall.enterL hT hmix [] Tryz.func46 rfl rfl rfl fun hbd => ?_
 have hb := bds_list hbd (.head _)
 (conv => whnf)
 refine split_intro (fun h => ?_) (fun h => ?_)
 ·have h' : 8 ≤ b.length := by have := of_decide_eq_true h; simp only [List.length_map] at this; omega
  (conv => whnf)
  refine ⟨(b.take 8).map byteD, slL (by omega) (by omega) (by simp; omega) (fun _ => rfl) (by simp), ?_⟩
  (conv => whnf)
  refine CallLeaf.wa (rmagic_) rfl ?_
  (conv => whnf)
  refine CallLeaf.wa (O.same_ (b.take 8) magic) rfl ?_
  (conv => whnf)
  exact Wk.bool (by simp [isP, h'])
 ·have h' : ¬ 8 ≤ b.length := by have := of_decide_eq_false h; simp only [List.length_map] at this; omega
  (conv => whnf)
  exact Wk.bool (by simp [isP, h'])
end Go.Proofs.YtenbpnlmpjndgaaGreatDoor.H
