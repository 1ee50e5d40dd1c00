/- Archives: parsed. No condition. -/
import Derived.Test.YtimnnknfcfongaaDoorAAc
import Derived.Test.YtimnnknfcfongaaDoorAWc
import Derived.Test.YtimnnknfcfongaaDoorAPa
import Derived.Test.YtimnnknfcfongaaDoorAWb
import Derived.Test.YtimnnknfcfongaaDoorAWa
import Derived.Test.YtimnnknfcfongaaDoorAAd
import Derived.Test.YtimnnknfcfongaaDoorRows
import Derived.LaidMore
import Derived.Stop.Joined
import Derived.SevenTiedAt
import Derived.Lay
set_option linter.unusedVariables false
set_option linter.unusedSimpArgs false
namespace Go.Proofs.YtimnnknfcfongaaDoor.H
open Go Go.AL Go.AL.Hd Go.AL.Ln Go.AL.Ar Go.AL.Sc
set_option maxRecDepth 100000
set_option maxHeartbeats 8000000
abbrev eArc (a : Arc) : List D := [vB a.hm, LBn a.map, .list .nat (a.ms.map eMn), .list .nat (a.os.map eO)]
abbrev lastO (p : List (Nat × Part)) : Nat := (p.getLast?.map (·.1)).getD 0
abbrev atA (p : List (Nat × Part)) : Nat := if (foldP p).2 = 0 then 0 else lastO p
abbrev coX (a : Nat) (e : Int) (s : PS) : So := [(0, .cells [vB false, .nil, .nil, .nil]), (8, .cells [vI a]), (16, .cells [vI e]), (2560, .cells [vB s.hm, LBn s.map, .list (.tok 301) (s.ms.map eMn), .list (.tok 302) (s.os.map eO), LBn s.names, vB s.ht]), (301, .tok (s.ms.map eMn).length 6), (302, .tok (s.os.map eO).length 1)]
abbrev coA (p : List (Nat × Part)) : So := coX (atA p) (foldP p).2 (foldP p).1
abbrev juA (p : List (Nat × Part)) : Exit := if okA p then .normal else .ret
theorem preA {p : List (Nat × Part)} (h : ∀ a y s, p = a ++ y :: s → juA (a ++ [y]) = .normal) : okA p = true := by
 rcases List.eq_nil_or_concat p with rfl | ⟨a, y, rfl⟩
 ·rfl
 ·have := h a y [] (by simp)
  cases ho : okA (a ++ [y]) with
  | true => simpa using ho
  | false => rw [juA, ho] at this; simp at this
theorem juA_code : (fun p : List (Nat × Part) => (jcode (juA p)).isNone) = okA := by
 funext p
 cases ho : okA p <;> simp only [juA, ho] <;> rfl
theorem aparse_ [Go.AL.MX] (b : Str) (hb : b.length < 4294967280) : FCall Tryd.prog Gl 32 [LB b] [] (.tuple [.agg (eArc (arcP b).1), vI (arcP b).2.1, vI (arcP b).2.2]) [] := by
 refine FCall.enterM hT hmix [] Tryd.func32 rfl rfl rfl fun hbd base => ?_
 (conv => whnf)
 refine split_intro (fun h1 => ?_) (fun h1 => ?_)
 ·have h1' : b.length < 8 := by have := of_decide_eq_true h1; simp only [List.length_map] at this; omega
  have e : arcP b = (Arc0, 0, 2) := by unfold arcP; rw [if_pos h1']
  rw [e]
  (conv => whnf)
  refine ⟨[], rfl, by (try unfold pullOk); (repeat' (first | exact trivial | exact ObWk.refl _ | refine And.intro ?_ ?_ | unfold pullOk)), ?_⟩
  (conv => whnf)
  exact Wk.tuple (Wks.cons (Wk.agg (Wks.cons (Wk.refl _) (Wks.cons (Wk.natN rfl) (Wks.cons (Wk.natN rfl) (Wks.cons (Wk.natN rfl) Wks.nil))))) (Wks.cons (Wk.refl _) (Wks.cons (Wk.refl _) Wks.nil)))
 ·have h1' : ¬ b.length < 8 := by have := of_decide_eq_false h1; simp only [List.length_map] at this; omega
  (conv => whnf)
  refine CallLeaf.wa (ais_ b (by omega)) rfl ?_
  (conv => whnf)
  cases his : isP b with
  | false =>
   have h2' : b.take 8 ≠ magic := by intro h; rw [isP, h] at his; simp at his; omega
   have e : arcP b = (Arc0, 0, 1) := by unfold arcP; rw [if_neg h1', if_pos h2']
   rw [e]
   (conv => whnf)
   refine ⟨[], rfl, by (try unfold pullOk); (repeat' (first | exact trivial | exact ObWk.refl _ | refine And.intro ?_ ?_ | unfold pullOk)), ?_⟩
   (conv => whnf)
   exact Wk.tuple (Wks.cons (Wk.agg (Wks.cons (Wk.refl _) (Wks.cons (Wk.natN rfl) (Wks.cons (Wk.natN rfl) (Wks.cons (Wk.natN rfl) Wks.nil))))) (Wks.cons (Wk.refl _) (Wks.cons (Wk.refl _) Wks.nil)))
  | true =>
   have h2' : b.take 8 = magic := by simp only [isP, Bool.and_eq_true, decide_eq_true_eq] at his; exact his.2
   have e : arcP b = match runP PS0 (partsP 8 (b.drop 8)) with | (s, none) => (s.arc, 0, 0) | (_, some (k, e)) => (Arc0, k, e) := by unfold arcP; rw [if_neg h1', if_neg (fun h => h h2')]; rfl
   (conv => whnf)
   refine CallLeaf.oa [3080] (aparts_ b) rfl rfl rfl rfl ?_
   (conv => whnf)
   have hPB := parts_bd _ (b.drop 8) 8 (Nat.le_refl _)
   have hdl : (b.drop 8).length = b.length - 8 := by simp
   refine LWp.rangeFunc hT hmix rfl [] [] 400000 3080 [20] coA juA (aiter_ b (by omega)) (fun _ => rfl) (fun _ => rfl) rfl (fun p => by cases h : okA p <;> simp [juA, h, jok]) rfl rfl rfl rfl (by simp) rfl (fun p => ?_) ?_
   ·(repeat' (first | exact trivial | exact rfl | refine And.intro ?_ ?_ | (conv => whnf)))
   ·(conv => whnf)
    refine ⟨?_, ?_, ?_, fun pre x r he hn => ?_, fun v hv => ?_⟩
    ·(repeat' (first | exact trivial | exact Wk.refl _ | exact ObWk.refl _ | exact rfl | exact ⟨_, rfl⟩ | exact Nat.zero_lt_one | refine And.intro ?_ ?_ | unfold okTo | (unfold okO; conv => whnf) | (unfold okS; conv => whnf) | (unfold SlotOk; conv => whnf) | (unfold ObjOk; conv => whnf) | (unfold okCells; conv => whnf) | (unfold liveTo; conv => whnf) | exact Nat.zero_lt_succ _))
     all_goals exact Wk.natN rfl
    ·(repeat' (first | exact trivial | exact rfl | refine And.intro ?_ ?_ | (conv => whnf)))
    ·(repeat' (first | exact trivial | exact rfl | refine And.intro ?_ ?_ | (conv => whnf)))
    ·have hok := preA hn
     have e0 : (foldP pre).2 = 0 := of_decide_eq_true hok
     have hmem : x ∈ partsP 8 (b.drop 8) := by rw [he]; simp
     have hpl : (pre.length + 1) * 60 ≤ b.length + 60 := by
      have := hPB.1; rw [he] at this; simp only [List.length_append, List.length_cons] at this
      omega
     have hL := Lim.fold (c := b.length) pre (fun y hy => by have := (hPB.2 y (by rw [he]; exact List.mem_append_left _ hy)).1; omega)
     have hX := hPB.2 x hmem
     have eD : coA pre = coX 0 0 (foldP pre).1 := by simp only [coA, atA, e0, if_true]
     have eF := foldP_snoc pre x
     rw [eD]
     obtain ⟨s, hs⟩ : ∃ s, s = (foldP pre).1 := ⟨_, rfl⟩
     rw [← hs] at hL eF ⊢
     obtain ⟨k, pt⟩ := x
     obtain ⟨hX1, hX2, hX3, hX4⟩ := hX
     replace hX1 : pt.data.length ≤ (b.drop 8).length := hX1
     replace hX2 : pt.h.name.length ≤ 16 := hX2
     replace hX4 : k ≤ 8 + (b.drop 8).length := hX4
     have hLo : lastO (pre ++ [(k, pt)]) = k := by simp [lastO]
     by_cases hw : pt.why = 0
     ·have eS : stepP s (k, pt) = addP s k pt := by unfold stepP; rw [if_neg (fun h => h hw)]
      (conv => whnf)
      refine split_intro (fun _ => ?_) (fun h => absurd h (by simp [hw]))
      (conv => whnf)
      refine CallLeaf.oa [2560, 301, 302] (aadd_ s k pt ⟨by omega, by omega, by have := hL.t; omega, by have := hL.m; omega, by have := hL.o; have := hL.m; omega⟩) rfl rfl rfl rfl ?_
      rw [eS] at eF
      (conv => whnf)
      by_cases hz : (addP s k pt).2 = 0
      ·have eJ : juA (pre ++ [(k, pt)]) = .normal := by simp only [juA, okA, eF, hz]; rfl
       have eC : coA (pre ++ [(k, pt)]) = coX 0 0 (addP s k pt).1 := by simp only [coA, atA, eF, hz, if_true]
       refine split_intro (fun h => absurd h (by simp [hz])) (fun _ => ?_)
       (conv => whnf)
       refine ⟨eJ.symm, ?_⟩
       rw [eC]
       (repeat' (first | exact trivial | exact Wk.refl _ | exact ObWk.refl _ | exact rfl | exact ⟨_, rfl⟩ | exact Nat.zero_lt_one | refine And.intro ?_ ?_ | unfold okToR | (unfold liveKs; conv => whnf) | (unfold okO; conv => whnf) | (unfold okS; conv => whnf) | (unfold SlotOk; conv => whnf) | (unfold ObjOk; conv => whnf) | (unfold okCells; conv => whnf) | exact Nat.zero_lt_succ _))
      ·have eJ : juA (pre ++ [(k, pt)]) = .ret := by simp only [juA, okA, eF, decide_eq_false hz]; rfl
       have eC : coA (pre ++ [(k, pt)]) = coX k (addP s k pt).2 (addP s k pt).1 := by simp only [coA, atA, eF, if_neg hz, hLo]
       refine split_intro (fun _ => ?_) (fun h => absurd h (by simpa using hz))
       (conv => whnf)
       refine ⟨eJ.symm, ?_⟩
       rw [eC]
       (repeat' (first | exact trivial | exact Wk.refl _ | exact ObWk.refl _ | exact rfl | exact ⟨_, rfl⟩ | exact Nat.zero_lt_one | refine And.intro ?_ ?_ | unfold okToR | (unfold liveKs; conv => whnf) | (unfold okO; conv => whnf) | (unfold okS; conv => whnf) | (unfold SlotOk; conv => whnf) | (unfold ObjOk; conv => whnf) | (unfold okCells; conv => whnf) | exact Nat.zero_lt_succ _))
     ·have eS : stepP s (k, pt) = (s, pt.why) := by unfold stepP; rw [if_pos hw]
      rw [eS] at eF
      have eJ : juA (pre ++ [(k, pt)]) = .ret := by simp only [juA, okA, eF, decide_eq_false hw]; rfl
      have eC : coA (pre ++ [(k, pt)]) = coX k pt.why s := by simp only [coA, atA, eF, if_neg hw, hLo]
      (conv => whnf)
      refine split_intro (fun h => absurd h (by simpa using hw)) (fun _ => ?_)
      (conv => whnf)
      refine split_intro (fun _ => ?_) (fun h => absurd h (by simpa using hw))
      (conv => whnf)
      refine ⟨eJ.symm, ?_⟩
      rw [eC]
      (repeat' (first | exact trivial | exact Wk.refl _ | exact ObWk.refl _ | exact rfl | exact ⟨_, rfl⟩ | exact Nat.zero_lt_one | refine And.intro ?_ ?_ | unfold okToR | (unfold liveKs; conv => whnf) | (unfold okO; conv => whnf) | (unfold okS; conv => whnf) | (unfold SlotOk; conv => whnf) | (unfold ObjOk; conv => whnf) | (unfold okCells; conv => whnf) | exact Nat.zero_lt_succ _))
    ·rw [juA_code] at hv
     obtain ⟨hv1, hv2⟩ := visitA (partsP 8 (b.drop 8)) [] rfl
     rw [← hv] at hv1 hv2
     cases hok : okA v with
     | true =>
      obtain ⟨e1, e2⟩ := hv1 hok
      simp only [List.nil_append] at e1 e2
      rw [← e1] at e2
      have e0 : (foldP v).2 = 0 := of_decide_eq_true hok
      have eD : coA v = coX 0 0 (foldP v).1 := by simp only [coA, atA, e0, if_true]
      rw [show juA v = .normal by simp [juA, hok], eD]
      rw [show runP PS0 (partsP 8 (b.drop 8)) = ((foldP v).1, none) by rw [← e1]; exact e2] at e
      rw [e]
      (conv => whnf)
      refine ⟨[], rfl, by (try unfold pullOk); (repeat' (first | exact trivial | exact ObWk.refl _ | refine And.intro ?_ ?_ | unfold pullOk)), ?_⟩
      (conv => whnf)
      exact Wk.tuple (Wks.cons (Wk.agg (Wks.cons (Wk.refl _) (Wks.cons (Wk.refl _) (Wks.cons (Wk.refl _) (Wks.cons (Wk.refl _) Wks.nil))))) (Wks.cons (Wk.refl _) (Wks.cons (Wk.refl _) Wks.nil)))
     | false =>
      obtain ⟨q, x, e1, e2, e3⟩ := hv2 hok
      have e0 : (foldP v).2 ≠ 0 := of_decide_eq_false hok
      have hLo : lastO v = x.1 := by rw [e1]; simp [lastO]
      have eD : coA v = coX x.1 (foldP v).2 (foldP v).1 := by simp only [coA, atA, if_neg e0, hLo]
      rw [show juA v = .ret by simp [juA, hok], eD]
      rw [show runP PS0 (partsP 8 (b.drop 8)) = ((foldP v).1, some (x.1, (foldP v).2)) by rw [e1]; exact e3] at e
      rw [e]
      (conv => whnf)
      refine ⟨[], rfl, by (try unfold pullOk); (repeat' (first | exact trivial | exact ObWk.refl _ | refine And.intro ?_ ?_ | unfold pullOk)), ?_⟩
      (conv => whnf)
      exact Wk.tuple (Wks.cons (Wk.agg (Wks.cons (Wk.refl _) (Wks.cons (Wk.natN rfl) (Wks.cons (Wk.natN rfl) (Wks.cons (Wk.natN rfl) Wks.nil))))) (Wks.cons (Wk.refl _) (Wks.cons (Wk.refl _) Wks.nil)))
end Go.Proofs.YtimnnknfcfongaaDoor.H

namespace Go.Proofs.YtimnnknfcfongaaDoor.H
open Go Go.AL Go.AL.Hd Go.AL.Ln Go.AL.Ar Go.AL.Sc
set_option maxRecDepth 100000
set_option maxHeartbeats 8000000
abbrev eMt (x : Mem × Tg) : List D := [sD x.1.name, vI x.1.time, vI x.1.uid, vI x.1.gid, vI x.1.mode, .list x.2 (x.1.data.map byteD)]
theorem rmagic_ [Go.AL.MX] : FCall Tryd.prog Gl 49 [] [] (LBn magic) [] := by
 refine FCall.enterL hT hmix [] Tryd.func49 rfl rfl rfl fun hbd => ?_
 (conv => whnf)
 exact Wk.refl _
theorem ris_ [Go.AL.MX] (b : Str) : FCall Tryd.prog Gl 37 [LB b] [] (vB (isP b)) [] := by
 refine FCall.enterL hT hmix [] Tryd.func37 rfl rfl rfl fun hbd => ?_
 have hb := bds_list hbd (.head _)
 (conv => whnf)
 refine split_intro (fun h => ?_) (fun h => ?_)
 ·have h' : 8 ≤ b.length := by have := of_decide_eq_true h; simp only [List.length_map] at this; omega
  (conv => whnf)
  refine ⟨(b.take 8).map byteD, slL (by omega) (by omega) (by simp; omega) (fun _ => rfl) (by simp), ?_⟩
  (conv => whnf)
  refine CallLeaf.wa (rmagic_) rfl ?_
  (conv => whnf)
  refine CallLeaf.wa (O.same_ (b.take 8) magic) rfl ?_
  (conv => whnf)
  exact Wk.bool (by simp [isP, h'])
 ·have h' : ¬ 8 ≤ b.length := by have := of_decide_eq_false h; simp only [List.length_map] at this; omega
  (conv => whnf)
  exact Wk.bool (by simp [isP, h'])
theorem rsm_ [Go.AL.MX] (a b : Mem) : FCall Tryd.prog Gl 50 [.agg a.enc, .agg b.enc] [] (vB (decide (a = b))) [] := by
 obtain ⟨n1, t1, u1, g1, m1, d1⟩ := a
 obtain ⟨n2, t2, u2, g2, m2, d2⟩ := b
 refine FCall.enterL hT hmix [] Tryd.func50 rfl rfl rfl fun hbd => ?_
 (conv => whnf)
 by_cases e0 : n1 = n2
 ·subst e0
  refine split_intro (fun _ => ?_) (fun h => absurd h (by simp))
  (conv => whnf)
  by_cases e1 : t1 = t2
  ·subst e1
   refine split_intro (fun _ => ?_) (fun h => absurd h (by simp))
   (conv => whnf)
   by_cases e2 : u1 = u2
   ·subst e2
    refine split_intro (fun _ => ?_) (fun h => absurd h (by simp))
    (conv => whnf)
    by_cases e3 : g1 = g2
    ·subst e3
     refine split_intro (fun _ => ?_) (fun h => absurd h (by simp))
     (conv => whnf)
     by_cases e4 : m1 = m2
     ·subst e4
      refine split_intro (fun _ => ?_) (fun h => absurd h (by simp))
      (conv => whnf)
      refine CallLeaf.wa (O.same_ d1 d2) rfl ?_
      (conv => whnf)
      exact Wk.bool (by simp)
     ·refine split_intro (fun h => absurd h (by simpa using e4)) (fun _ => ?_)
      (conv => whnf)
      exact Wk.bool (by symm; simp [e4])
    ·refine split_intro (fun h => absurd h (by simpa using e3)) (fun _ => ?_)
     (conv => whnf)
     exact Wk.bool (by symm; simp [e3])
   ·refine split_intro (fun h => absurd h (by simpa using e2)) (fun _ => ?_)
    (conv => whnf)
    exact Wk.bool (by symm; simp [e2])
  ·refine split_intro (fun h => absurd h (by simpa using e1)) (fun _ => ?_)
   (conv => whnf)
   exact Wk.bool (by symm; simp [e1])
 ·refine split_intro (fun h => absurd h (by simpa [sB] using e0)) (fun _ => ?_)
  (conv => whnf)
  exact Wk.bool (by symm; simp [e0])
theorem rnums_ [Go.AL.MX] (a b : List Nat) : FCall Tryd.prog Gl 41 [.list .any (a.map eO), .list .any (b.map eO)] [] (vB (decide (a = b))) [] := by
 refine FCall.enterL hT hmix [] Tryd.func41 rfl rfl rfl fun hbd => ?_
 have ha := bds_list hbd (.head _)
 (conv => whnf)
 refine split_intro (fun h => ?_) (fun h => ?_)
 ·have hne : a.length ≠ b.length := by have := O.len_ne h; simpa using this
  (conv => whnf)
  exact Wk.bool (by symm; simp; intro e; subst e; exact hne rfl)
 ·have hl : a.length = b.length := by have := O.len_eq h; simpa using this
  (conv => whnf)
  refine LWp.loop hT hmix [] (fun k : Nat => [(5, vI k)]) (fun _ => []) (fun k => k ≤ a.length ∧ a.take k = b.take k) (fun k => a.length - k) 0 ⟨Nat.zero_le _, rfl⟩ ?_
  (conv => whnf)
  refine ⟨?_, fun k ⟨hk, hkk⟩ => ?_⟩
  ·(repeat' (first | exact trivial | exact Wk.refl _ | exact ObWk.refl _ | exact rfl | exact ⟨_, rfl⟩ | exact Nat.zero_lt_one | refine And.intro ?_ ?_ | unfold okTo | (unfold okO; conv => whnf) | (unfold okS; conv => whnf) | (unfold SlotOk; conv => whnf) | (unfold ObjOk; conv => whnf) | (unfold okCells; conv => whnf) | (unfold liveTo; conv => whnf) | exact Nat.zero_lt_succ _))
  ·(conv => whnf)
   refine split_intro (fun h1 => ?_) (fun h1 => ?_)
   ·have hlt : k < a.length := by have := of_decide_eq_true h1; simp at this; omega
    obtain ⟨x, hx⟩ := exI hlt
    obtain ⟨y, hy⟩ := exI (l := b) (k := k) (by omega)
    (conv => whnf)
    refine ⟨_, ⟨by omega, getMap hx⟩, ?_⟩
    (conv => whnf)
    refine ⟨_, ⟨by omega, getMap hy⟩, ?_⟩
    (conv => whnf)
    refine split_intro (fun h2 => ?_) (fun h2 => ?_)
    ·have h2' : ¬ x = y := fun e => by subst e; simp at h2
     (conv => whnf)
     exact Wk.bool (by
      symm; simp; intro e; subst e
      rw [hx] at hy; injection hy with hy; exact h2' hy)
    ·have h2' : x = y := by
      have : (x : Int) = y := by simpa using h2
      omega
     subst h2'
     (conv => whnf)
     refine ⟨_, add64 (c := ((k + 1 : Nat) : Int)) rfl (by omega), ?_⟩
     (conv => whnf)
     refine ⟨k + 1, ⟨⟨by omega, by rw [List.take_add_one, List.take_add_one, hx, hy, hkk]⟩, by simp only []; omega⟩, ?_⟩
     (repeat' (first | exact trivial | exact Wk.refl _ | exact ObWk.refl _ | exact rfl | exact ⟨_, rfl⟩ | exact Nat.zero_lt_one | refine And.intro ?_ ?_ | unfold okTo | (unfold okO; conv => whnf) | (unfold okS; conv => whnf) | (unfold SlotOk; conv => whnf) | (unfold ObjOk; conv => whnf) | (unfold okCells; conv => whnf) | (unfold liveTo; conv => whnf) | exact Nat.zero_lt_succ _))
   ·have hge : a.length ≤ k := by have := of_decide_eq_false h1; simp at this; omega
    rw [List.take_of_length_le hge, List.take_of_length_le (by omega)] at hkk
    (conv => whnf)
    exact Wk.bool (by simp [hkk])
abbrev fsts (l : List (Mem × Tg)) : List Mem := l.map (·.1)
theorem rsms_ [Go.AL.MX] (a b : List (Mem × Tg)) : FCall Tryd.prog Gl 40 [.list .any (a.map eMt), .list .any (b.map eMt)] [] (vB (decide (fsts a = fsts b))) [] := by
 refine FCall.enterL hT hmix [] Tryd.func40 rfl rfl rfl fun hbd => ?_
 have ha := bds_list hbd (.head _)
 (conv => whnf)
 refine split_intro (fun h => ?_) (fun h => ?_)
 ·have hne : a.length ≠ b.length := by have := O.len_ne h; simpa using this
  (conv => whnf)
  exact Wk.bool (by symm; simp only [decide_eq_false_iff_not]; intro e; have := congrArg List.length e; simp at this; exact hne this)
 ·have hl : a.length = b.length := by have := O.len_eq h; simpa using this
  (conv => whnf)
  refine LWp.loop hT hmix [] (fun k : Nat => [(5, vI k)]) (fun _ => []) (fun k => k ≤ a.length ∧ (fsts a).take k = (fsts b).take k) (fun k => a.length - k) 0 ⟨Nat.zero_le _, rfl⟩ ?_
  (conv => whnf)
  refine ⟨?_, fun k ⟨hk, hkk⟩ => ?_⟩
  ·(repeat' (first | exact trivial | exact Wk.refl _ | exact ObWk.refl _ | exact rfl | exact ⟨_, rfl⟩ | exact Nat.zero_lt_one | refine And.intro ?_ ?_ | unfold okTo | (unfold okO; conv => whnf) | (unfold okS; conv => whnf) | (unfold SlotOk; conv => whnf) | (unfold ObjOk; conv => whnf) | (unfold okCells; conv => whnf) | (unfold liveTo; conv => whnf) | exact Nat.zero_lt_succ _))
  ·(conv => whnf)
   refine split_intro (fun h1 => ?_) (fun h1 => ?_)
   ·have hlt : k < a.length := by have := of_decide_eq_true h1; simp at this; omega
    obtain ⟨x, hx⟩ := exI hlt
    obtain ⟨y, hy⟩ := exI (l := b) (k := k) (by omega)
    have hx' : (fsts a)[k]? = some x.1 := by simp [fsts, hx]
    have hy' : (fsts b)[k]? = some y.1 := by simp [fsts, hy]
    obtain ⟨m1, s1⟩ := x
    obtain ⟨m2, s2⟩ := y
    (conv => whnf)
    refine ⟨_, ⟨by omega, getMap hx⟩, ?_⟩
    (conv => whnf)
    refine ⟨_, ⟨by omega, getMap hy⟩, ?_⟩
    (conv => whnf)
    refine CallLeaf.wa (rsm_ m1 m2) rfl ?_
    (conv => whnf)
    by_cases h2 : m1 = m2
    ·subst h2
     rw [decide_eq_true rfl]
     (conv => whnf)
     refine ⟨_, add64 (c := ((k + 1 : Nat) : Int)) rfl (by omega), ?_⟩
     (conv => whnf)
     refine ⟨k + 1, ⟨⟨by omega, by rw [List.take_add_one, List.take_add_one, hx', hy', hkk]⟩, by simp only []; omega⟩, ?_⟩
     (repeat' (first | exact trivial | exact Wk.refl _ | exact ObWk.refl _ | exact rfl | exact ⟨_, rfl⟩ | exact Nat.zero_lt_one | refine And.intro ?_ ?_ | unfold okTo | (unfold okO; conv => whnf) | (unfold okS; conv => whnf) | (unfold SlotOk; conv => whnf) | (unfold ObjOk; conv => whnf) | (unfold okCells; conv => whnf) | (unfold liveTo; conv => whnf) | exact Nat.zero_lt_succ _))
    ·rw [decide_eq_false h2]
     (conv => whnf)
     exact Wk.bool (by
      symm; simp only [decide_eq_false_iff_not]; intro e
      rw [e, hy'] at hx'; injection hx' with hx'; exact h2 hx'.symm)
   ·have hge : a.length ≤ k := by have := of_decide_eq_false h1; simp at this; omega
    rw [List.take_of_length_le (by simp; omega), List.take_of_length_le (by simp; omega)] at hkk
    (conv => whnf)
    exact Wk.bool (by simp only [hkk]; simp)
end Go.Proofs.YtimnnknfcfongaaDoor.H

namespace Go.Proofs.YtimnnknfcfongaaDoor.H
open Go Go.AL Go.AL.Hd Go.AL.Ln Go.AL.Ar Go.AL.Sc
set_option maxRecDepth 100000
set_option maxHeartbeats 8000000
abbrev eArcM (a : Arc) : List D := [vB a.hm, LB a.map, .list .any (a.ms.map eMn), .list .any (a.os.map eO)]
theorem ms_t (l : List Mem) : l.map eMn = (l.map (fun m => (m, Tg.nat))).map eMt := by simp
theorem fst_t (l : List Mem) : fsts (l.map (fun m => (m, Tg.nat))) = l := by
 rw [fsts, List.map_map]; exact List.map_id l
theorem rsameA_ [Go.AL.MX] (a c : Arc) : FCall Tryd.prog Gl 34 [.agg (eArcM a), .agg (eArcM c)] [] (vB (decide (a = c))) [] := by
 obtain ⟨h1, m1, l1, o1⟩ := a
 obtain ⟨h2, m2, l2, o2⟩ := c
 have S := rsms_ (l1.map (fun m => (m, Tg.nat))) (l2.map (fun m => (m, Tg.nat)))
 rw [← ms_t, ← ms_t, fst_t, fst_t] at S
 refine FCall.enterL hT hmix [] Tryd.func34 rfl rfl rfl fun hbd => ?_
 (conv => whnf)
 by_cases e1 : h1 = h2
 ·subst e1
  refine split_intro (fun _ => ?_) (fun h => absurd h (by simp))
  (conv => whnf)
  refine CallLeaf.wa (O.same_ m1 m2) rfl ?_
  (conv => whnf)
  by_cases e2 : m1 = m2
  ·subst e2
   rw [decide_eq_true (p := m1 = m1) rfl]
   (conv => whnf)
   refine CallLeaf.wa (S) rfl ?_
   (conv => whnf)
   by_cases e3 : l1 = l2
   ·subst e3
    rw [decide_eq_true (p := l1 = l1) rfl]
    (conv => whnf)
    refine CallLeaf.wa (rnums_ o1 o2) rfl ?_
    (conv => whnf)
    exact Wk.bool (by simp)
   ·rw [decide_eq_false e3]
    (conv => whnf)
    exact Wk.bool (by simp [e3])
  ·rw [decide_eq_false e2]
   (conv => whnf)
   exact Wk.bool (by simp [e2])
 ·refine split_intro (fun h => absurd h (by simpa using e1)) (fun _ => ?_)
  (conv => whnf)
  exact Wk.bool (by simp [e1])
theorem rarchive_ [Go.AL.MX] (a : Arc) : FCall Tryd.prog Gl 35 [.agg (eArcM a)] [] (.agg (eArcM a)) [] := by
 refine FCall.enterL hT hmix [] Tryd.func35 rfl rfl rfl fun hbd => ?_
 (conv => whnf)
 exact Wk.refl _
theorem rparse4_ [Go.AL.MX] (b : Str) (hb : b.length ≤ 100000) : FCall Tryd.prog Gl 33 [LB b] [] (.tuple [.agg (eArcM (arcP b).1), vI (arcP b).2.1, vI (arcP b).2.2]) [] := by
 refine FCall.enterL hT hmix [] Tryd.func33 rfl rfl rfl fun hbd => ?_
 (conv => whnf)
 refine split_intro (fun h1 => ?_) (fun h1 => ?_)
 ·have h1' : b.length < 8 := by have := of_decide_eq_true h1; simp only [List.length_map] at this; omega
  have e : arcP b = (Arc0, 0, 2) := by unfold arcP; rw [if_pos h1']
  rw [e]
  (conv => whnf)
  exact Wk.tuple (Wks.cons (Wk.agg (Wks.cons (Wk.refl _) (Wks.cons (Wk.nil' rfl) (Wks.cons (Wk.nil' rfl) (Wks.cons (Wk.nil' rfl) Wks.nil))))) (Wks.cons (Wk.refl _) (Wks.cons (Wk.refl _) Wks.nil)))
 ·have h1' : ¬ b.length < 8 := by have := of_decide_eq_false h1; simp only [List.length_map] at this; omega
  (conv => whnf)
  refine CallLeaf.wa (ris_ b) rfl ?_
  (conv => whnf)
  cases his : isP b with
  | false =>
   have h2' : b.take 8 ≠ magic := by intro h; rw [isP, h] at his; simp at his; omega
   have e : arcP b = (Arc0, 0, 1) := by unfold arcP; rw [if_neg h1', if_pos h2']
   rw [e]
   (conv => whnf)
   exact Wk.tuple (Wks.cons (Wk.agg (Wks.cons (Wk.refl _) (Wks.cons (Wk.nil' rfl) (Wks.cons (Wk.nil' rfl) (Wks.cons (Wk.nil' rfl) Wks.nil))))) (Wks.cons (Wk.refl _) (Wks.cons (Wk.refl _) Wks.nil)))
  | true =>
   have h2' : b.take 8 = magic := by simp only [isP, Bool.and_eq_true, decide_eq_true_eq] at his; exact his.2
   (conv => whnf)
   refine LWp.loop hT hmix [] (fun x : PS × Nat => [(8, vI x.2), (7, vB x.1.ht), (6, LBn x.1.names)]) (fun x => [(2560, .cells [vB x.1.hm, LBn x.1.map, .list (.tok 301) (x.1.ms.map eMn), .list (.tok 302) (x.1.os.map eO)]), (301, .tok (x.1.ms.map eMn).length 6), (302, .tok (x.1.os.map eO).length 1)]) (At b) (fun x => b.length - x.2) (PS0, 8) (At.start (by omega)) ?_
   (conv => whnf)
   refine ⟨?_, fun ⟨s, k⟩ A => ?_⟩
   ·(repeat' (first | exact trivial | exact Wk.refl _ | exact ObWk.refl _ | exact rfl | exact ⟨_, rfl⟩ | exact Nat.zero_lt_one | refine And.intro ?_ ?_ | unfold okTo | (unfold okO; conv => whnf) | (unfold okS; conv => whnf) | (unfold SlotOk; conv => whnf) | (unfold ObjOk; conv => whnf) | (unfold okCells; conv => whnf) | (unfold liveTo; conv => whnf) | exact Nat.zero_lt_succ _))
    all_goals exact Wk.natN rfl
   ·have hlo : 8 ≤ k := A.lo
    have hhi : k ≤ b.length := A.hi
    (conv => whnf)
    refine split_intro (fun hk => ?_) (fun hk => ?_)
    ·have hk' : k < b.length := by have := of_decide_eq_true hk; simp only [List.length_map] at this; omega
     have hdl : (b.drop k).length = b.length - k := by simp
     (conv => whnf)
     refine ⟨(b.drop k).map byteD, slL (by show 0 ≤ (k : Int); omega) (by simp; omega) (by simp) (fun _ => rfl) (by simp), ?_⟩
     (conv => whnf)
     refine CallLeaf.wa (rhdecode_ (b.drop k)) rfl ?_
     (conv => whnf)
     by_cases hz : (decR (b.drop k)).2 = 0
     ·refine split_intro (fun h => absurd h (by simp [hz])) (fun _ => ?_)
      obtain ⟨hsz, hsl⟩ := dec_size hz
      obtain ⟨n, hn⟩ : ∃ n, n = szN (b.drop k) := ⟨_, rfl⟩
      rw [← hn] at hsz hsl
      (conv => whnf)
      refine ⟨_, add64 (c := ((k + 60 : Nat) : Int)) rfl (by omega), ?_⟩
      (conv => whnf)
      refine ⟨_, add64 (c := ((k + 60 + n : Nat) : Int)) (by rw [hsz]; omega) (by omega), ?_⟩
      (conv => whnf)
      have hn1 : ¬ (decR (b.drop k)).2 ≠ 0 := fun h => h hz
      by_cases h3 : b.length < k + 60 + n
      ·have hw : nextP (b.drop k) = (⟨hdr0, [], 2⟩, 0) := by unfold nextP; rw [if_neg hn1, ← hn, if_pos (by omega)]
       have e := A.bad hk' h1' h2' (by rw [hw]; decide)
       rw [e, hw]
       refine split_intro (fun _ => ?_) (fun h => absurd h (by simp; omega))
       (conv => whnf)
       exact Wk.tuple (Wks.cons (Wk.agg (Wks.cons (Wk.refl _) (Wks.cons (Wk.nil' rfl) (Wks.cons (Wk.nil' rfl) (Wks.cons (Wk.nil' rfl) Wks.nil))))) (Wks.cons (Wk.refl _) (Wks.cons (Wk.refl _) Wks.nil)))
      ·refine split_intro (fun h => absurd h (by simp; omega)) (fun _ => ?_)
       (conv => whnf)
       refine ⟨(prt b (k + 60) (k + 60 + n)).map byteD, slL (by omega) (by omega) (by simp; omega) (fun _ => rfl) (by show (b.take (k + 60 + n)).drop (k + 60) = _; rfl), ?_⟩
       (conv => whnf)
       refine ⟨_, appL (f := byteD) (xs := []) (ys := prt b (k + 60) (k + 60 + n)) (zs := prt b (k + 60) (k + 60 + n)) rfl rfl (fun _ => rfl) rfl (by show _ * 1 ≤ _; simp [prt]; omega), ?_⟩
       (conv => whnf)
       refine ⟨_, rem64 (c := ((n % 2 : Nat) : Int)) (by rw [hsz]; rfl) (by omega), ?_⟩
       (conv => whnf)
       by_cases h4 : n % 2 = 1
       ·refine split_intro (fun _ => ?_) (fun h => absurd h (by simp; omega))
        (conv => whnf)
        refine ⟨_, add64 (c := ((k + 60 + n + 1 : Nat) : Int)) rfl (by omega), ?_⟩
        (conv => whnf)
        by_cases h5 : b.length < k + 60 + n + 1
        ·have hw : nextP (b.drop k) = (⟨hdr0, [], 2⟩, 0) := by unfold nextP; rw [if_neg hn1, ← hn, if_pos (by omega)]
         have e := A.bad hk' h1' h2' (by rw [hw]; decide)
         rw [e, hw]
         refine split_intro (fun _ => ?_) (fun h => absurd h (by simp; omega))
         (conv => whnf)
         exact Wk.tuple (Wks.cons (Wk.agg (Wks.cons (Wk.refl _) (Wks.cons (Wk.nil' rfl) (Wks.cons (Wk.nil' rfl) (Wks.cons (Wk.nil' rfl) Wks.nil))))) (Wks.cons (Wk.refl _) (Wks.cons (Wk.refl _) Wks.nil)))
        ·refine split_intro (fun h => absurd h (by simp; omega)) (fun _ => ?_)
         obtain ⟨c, hc⟩ := exI (l := b) (k := k + 60 + n) (by omega)
         have hc' : (b.drop k)[60 + n]? = some c := by rw [List.getElem?_drop, ← Nat.add_assoc]; exact hc
         (conv => whnf)
         refine ⟨_, ⟨by omega, getMap hc⟩, ?_⟩
         (conv => whnf)
         refine split_intro (fun h6 => ?_) (fun h6 => ?_)
         ·have h6' : c ≠ 10 := O.u8_ne (y := 10) h6
          have hw : nextP (b.drop k) = (⟨hdr0, [], 5⟩, 0) := by unfold nextP; rw [if_neg hn1, ← hn, if_neg (by omega), if_pos ⟨by omega, by rw [hc']; simpa using h6'⟩]
          have e := A.bad hk' h1' h2' (by rw [hw]; decide)
          rw [e, hw]
          (conv => whnf)
          exact Wk.tuple (Wks.cons (Wk.agg (Wks.cons (Wk.refl _) (Wks.cons (Wk.nil' rfl) (Wks.cons (Wk.nil' rfl) (Wks.cons (Wk.nil' rfl) Wks.nil))))) (Wks.cons (Wk.refl _) (Wks.cons (Wk.refl _) Wks.nil)))
         ·obtain rfl : c = 10 := O.u8_eq (y := 10) h6
          have hN : nextP (b.drop k) = (⟨(decR (b.drop k)).1, prt (b.drop k) 60 (60 + n), 0⟩, 60 + n + 1) := by
           unfold nextP; rw [if_neg hn1, ← hn, if_neg (by omega), if_neg (fun h => h.2 hc'), h4]
          have hw : (nextP (b.drop k)).1.why = 0 := by rw [hN]
          have hdat : (prt b (k + 60) (k + 60 + n)).length = n := by simp [prt]; omega
          have hpd : prt (b.drop k) 60 (60 + n) = prt b (k + 60) (k + 60 + n) := by simp only [prt]; rw [List.take_drop, List.drop_drop, Nat.add_assoc]
          rw [hpd] at hN
          obtain ⟨⟨nm, dt, ui, gi, mo, si⟩, hhd⟩ : ∃ x, x = (decR (b.drop k)).1 := ⟨_, rfl⟩
          rw [← hhd] at hN ⊢
          have hnm := (part_bd (b := b.drop k)).2
          rw [hN] at hnm
          replace hnm : nm.length ≤ 16 := hnm
          have hstep := A.step hk' hw
          have hbad := fun {e : Int} => A.addbad hk' h1' h2' hw (e := e)
          rw [hN] at hstep hbad
          simp only [← Nat.add_assoc] at hstep hbad
          have hml := A.ms
          have hol := A.os
          have hen := A.ent
          have hnl := A.nml
          have hus := A.use
          replace hus : usedP s = decide (k ≠ 8) := hus
          simp only [] at hml hol hen hnl
          (conv => whnf)
          by_cases hA : nm = [47]
          ·subst hA
           (conv => whnf)
           by_cases h8 : k = 8
           ·subst h8
            have ha : addP s 8 ⟨⟨[47], dt, ui, gi, mo, si⟩, prt b (8 + 60) (8 + 60 + n), 0⟩ = (⟨true, prt b (8 + 60) (8 + 60 + n), s.ms, s.os, s.names, s.ht⟩, 0) := by
             unfold addP; rw [if_pos rfl, if_neg (by show ¬ usedP s = true; rw [hus]; simp)]
            rw [ha] at hstep
            (conv => whnf)
            refine ⟨_, ⟨hstep rfl, by show b.length - _ < b.length - _; simp only []; omega⟩, ?_⟩
            (repeat' (first | exact trivial | exact Wk.refl _ | exact ObWk.refl _ | exact rfl | exact ⟨_, rfl⟩ | exact Nat.zero_lt_one | refine And.intro ?_ ?_ | unfold okTo | (unfold okO; conv => whnf) | (unfold okS; conv => whnf) | (unfold SlotOk; conv => whnf) | (unfold ObjOk; conv => whnf) | (unfold okCells; conv => whnf) | (unfold liveTo; conv => whnf) | exact Nat.zero_lt_succ _))
           ·have ha : addP s k ⟨⟨[47], dt, ui, gi, mo, si⟩, prt b (k + 60) (k + 60 + n), 0⟩ = (s, 8) := by
             unfold addP; rw [if_pos rfl, if_pos (by show usedP s = true; rw [hus]; simp [h8])]
            rw [ha] at hbad
            rw [hbad rfl (by show (8 : Int) ≠ 0; decide)]
            (conv => whnf)
            refine split_intro (fun _ => ?_) (fun h => absurd h (by simp; omega))
            (conv => whnf)
            exact Wk.tuple (Wks.cons (Wk.agg (Wks.cons (Wk.refl _) (Wks.cons (Wk.nil' rfl) (Wks.cons (Wk.nil' rfl) (Wks.cons (Wk.nil' rfl) Wks.nil))))) (Wks.cons (Wk.refl _) (Wks.cons (Wk.refl _) Wks.nil)))
          ·refine split_intro (fun h => absurd h (by simpa [sB] using hA)) (fun _ => ?_)
           (conv => whnf)
           by_cases hB : nm = [47, 47]
           ·subst hB
            (conv => whnf)
            refine CallLeaf.wa (rentries_ (prt b (k + 60) (k + 60 + n)) (by omega)) rfl ?_
            (conv => whnf)
            by_cases hC : (entR (prt b (k + 60) (k + 60 + n))).2 = 0
            ·refine split_intro (fun h => absurd h (by simpa using hC)) (fun _ => ?_)
             (conv => whnf)
             cases hht : s.ht with
             | true =>
              have ha : addP s k ⟨⟨[47, 47], dt, ui, gi, mo, si⟩, prt b (k + 60) (k + 60 + n), 0⟩ = (s, 7) := by
               unfold addP; rw [if_neg (by simp), if_pos rfl, if_pos (.inr (by simp [PS.first, hht]))]
              rw [ha] at hbad
              rw [hbad rfl (by show (7 : Int) ≠ 0; decide)]
              (conv => whnf)
              exact Wk.tuple (Wks.cons (Wk.agg (Wks.cons (Wk.refl _) (Wks.cons (Wk.nil' rfl) (Wks.cons (Wk.nil' rfl) (Wks.cons (Wk.nil' rfl) Wks.nil))))) (Wks.cons (Wk.refl _) (Wks.cons (Wk.refl _) Wks.nil)))
             | false =>
              (conv => whnf)
              by_cases hM : s.ms.length = 0
              ·have ha : addP s k ⟨⟨[47, 47], dt, ui, gi, mo, si⟩, prt b (k + 60) (k + 60 + n), 0⟩ = (⟨s.hm, s.map, s.ms, s.os, prt b (k + 60) (k + 60 + n), true⟩, 0) := by
                unfold addP; rw [if_neg (by simp), if_pos rfl, if_neg (by rintro (h | h); exact h hC; simp [PS.first, hht, hM] at h)]
               rw [ha] at hstep
               refine split_intro (fun h => absurd h (by simp [hM])) (fun _ => ?_)
               (conv => whnf)
               refine ⟨_, ⟨hstep rfl, by show b.length - _ < b.length - _; simp only []; omega⟩, ?_⟩
               (repeat' (first | exact trivial | exact Wk.refl _ | exact ObWk.refl _ | exact rfl | exact ⟨_, rfl⟩ | exact Nat.zero_lt_one | refine And.intro ?_ ?_ | unfold okTo | (unfold okO; conv => whnf) | (unfold okS; conv => whnf) | (unfold SlotOk; conv => whnf) | (unfold ObjOk; conv => whnf) | (unfold okCells; conv => whnf) | (unfold liveTo; conv => whnf) | exact Nat.zero_lt_succ _))
              ·have ha : addP s k ⟨⟨[47, 47], dt, ui, gi, mo, si⟩, prt b (k + 60) (k + 60 + n), 0⟩ = (s, 7) := by
                unfold addP; rw [if_neg (by simp), if_pos rfl, if_pos (.inr (by simp [PS.first]; intro h; exact absurd (by simp [h]) hM))]
               rw [ha] at hbad
               rw [hbad rfl (by show (7 : Int) ≠ 0; decide)]
               refine split_intro (fun _ => ?_) (fun h => absurd h (by simp; intro h; exact hM (by rw [h]; rfl)))
               (conv => whnf)
               exact Wk.tuple (Wks.cons (Wk.agg (Wks.cons (Wk.refl _) (Wks.cons (Wk.nil' rfl) (Wks.cons (Wk.nil' rfl) (Wks.cons (Wk.nil' rfl) Wks.nil))))) (Wks.cons (Wk.refl _) (Wks.cons (Wk.refl _) Wks.nil)))
            ·have ha : addP s k ⟨⟨[47, 47], dt, ui, gi, mo, si⟩, prt b (k + 60) (k + 60 + n), 0⟩ = (s, 7) := by
              unfold addP; rw [if_neg (by simp), if_pos rfl, if_pos (.inl hC)]
             rw [ha] at hbad
             rw [hbad rfl (by show (7 : Int) ≠ 0; decide)]
             refine split_intro (fun _ => ?_) (fun h => absurd h (by simpa using hC))
             (conv => whnf)
             exact Wk.tuple (Wks.cons (Wk.agg (Wks.cons (Wk.refl _) (Wks.cons (Wk.nil' rfl) (Wks.cons (Wk.nil' rfl) (Wks.cons (Wk.nil' rfl) Wks.nil))))) (Wks.cons (Wk.refl _) (Wks.cons (Wk.refl _) Wks.nil)))
           ·refine split_intro (fun h => absurd h (by simpa [sB] using hB)) (fun _ => ?_)
            (conv => whnf)
            refine CallLeaf.wa (rresolve_ nm s.names (by omega) (by omega)) rfl ?_
            (conv => whnf)
            rw [← res_eq nm hen]
            by_cases hC : (resP nm s.names).2 = 0
            ·have ha : addP s k ⟨⟨nm, dt, ui, gi, mo, si⟩, prt b (k + 60) (k + 60 + n), 0⟩ = (⟨s.hm, s.map, s.ms ++ [⟨(resP nm s.names).1, dt, ui, gi, mo, prt b (k + 60) (k + 60 + n)⟩], s.os ++ [k], s.names, s.ht⟩, 0) := by
              unfold addP; rw [if_neg hA, if_neg hB, if_neg (fun h => h hC)]
             rw [ha] at hstep
             refine split_intro (fun h => absurd h (by simpa using hC)) (fun _ => ?_)
             (conv => whnf)
             refine ⟨_, appL (f := eMn) (xs := s.ms) (ys := [⟨(resP nm s.names).1, dt, ui, gi, mo, prt b (k + 60) (k + 60 + n)⟩]) (zs := s.ms ++ [⟨(resP nm s.names).1, dt, ui, gi, mo, prt b (k + 60) (k + 60 + n)⟩]) rfl rfl (fun _ => rfl) rfl (by show _ * 72 ≤ _; simp; omega), ?_⟩
             (conv => whnf)
             refine ⟨_, appL (f := eO) (xs := s.os) (ys := [k]) (zs := s.os ++ [k]) rfl rfl (fun _ => rfl) rfl (by show _ * 8 ≤ _; simp; omega), ?_⟩
             (conv => whnf)
             refine ⟨_, ⟨hstep rfl, by show b.length - _ < b.length - _; simp only []; omega⟩, ?_⟩
             (repeat' (first | exact trivial | exact Wk.refl _ | exact ObWk.refl _ | exact rfl | exact ⟨_, rfl⟩ | exact Nat.zero_lt_one | refine And.intro ?_ ?_ | unfold okTo | (unfold okO; conv => whnf) | (unfold okS; conv => whnf) | (unfold SlotOk; conv => whnf) | (unfold ObjOk; conv => whnf) | (unfold okCells; conv => whnf) | (unfold liveTo; conv => whnf) | exact Nat.zero_lt_succ _))
            ·have ha : addP s k ⟨⟨nm, dt, ui, gi, mo, si⟩, prt b (k + 60) (k + 60 + n), 0⟩ = (s, (resP nm s.names).2) := by
              unfold addP; rw [if_neg hA, if_neg hB, if_pos hC]
             rw [ha] at hbad
             rw [hbad rfl hC]
             refine split_intro (fun _ => ?_) (fun h => absurd h (by simpa using hC))
             (conv => whnf)
             exact Wk.tuple (Wks.cons (Wk.agg (Wks.cons (Wk.refl _) (Wks.cons (Wk.nil' rfl) (Wks.cons (Wk.nil' rfl) (Wks.cons (Wk.nil' rfl) Wks.nil))))) (Wks.cons (Wk.refl _) (Wks.cons (Wk.refl _) Wks.nil)))
       ·refine split_intro (fun h => absurd h (by simp; omega)) (fun _ => ?_)
        have hN : nextP (b.drop k) = (⟨(decR (b.drop k)).1, prt (b.drop k) 60 (60 + n), 0⟩, 60 + n) := by
         unfold nextP; rw [if_neg hn1, ← hn, if_neg (by omega), if_neg (fun h => h.1 (by omega)), show n % 2 = 0 by omega]; rfl
        have hw : (nextP (b.drop k)).1.why = 0 := by rw [hN]
        have hdat : (prt b (k + 60) (k + 60 + n)).length = n := by simp [prt]; omega
        have hpd : prt (b.drop k) 60 (60 + n) = prt b (k + 60) (k + 60 + n) := by simp only [prt]; rw [List.take_drop, List.drop_drop, Nat.add_assoc]
        rw [hpd] at hN
        obtain ⟨⟨nm, dt, ui, gi, mo, si⟩, hhd⟩ : ∃ x, x = (decR (b.drop k)).1 := ⟨_, rfl⟩
        rw [← hhd] at hN ⊢
        have hnm := (part_bd (b := b.drop k)).2
        rw [hN] at hnm
        replace hnm : nm.length ≤ 16 := hnm
        have hstep := A.step hk' hw
        have hbad := fun {e : Int} => A.addbad hk' h1' h2' hw (e := e)
        rw [hN] at hstep hbad
        simp only [← Nat.add_assoc] at hstep hbad
        have hml := A.ms
        have hol := A.os
        have hen := A.ent
        have hnl := A.nml
        have hus := A.use
        replace hus : usedP s = decide (k ≠ 8) := hus
        simp only [] at hml hol hen hnl
        (conv => whnf)
        by_cases hA : nm = [47]
        ·subst hA
         (conv => whnf)
         by_cases h8 : k = 8
         ·subst h8
          have ha : addP s 8 ⟨⟨[47], dt, ui, gi, mo, si⟩, prt b (8 + 60) (8 + 60 + n), 0⟩ = (⟨true, prt b (8 + 60) (8 + 60 + n), s.ms, s.os, s.names, s.ht⟩, 0) := by
           unfold addP; rw [if_pos rfl, if_neg (by show ¬ usedP s = true; rw [hus]; simp)]
          rw [ha] at hstep
          (conv => whnf)
          refine ⟨_, ⟨hstep rfl, by show b.length - _ < b.length - _; simp only []; omega⟩, ?_⟩
          (repeat' (first | exact trivial | exact Wk.refl _ | exact ObWk.refl _ | exact rfl | exact ⟨_, rfl⟩ | exact Nat.zero_lt_one | refine And.intro ?_ ?_ | unfold okTo | (unfold okO; conv => whnf) | (unfold okS; conv => whnf) | (unfold SlotOk; conv => whnf) | (unfold ObjOk; conv => whnf) | (unfold okCells; conv => whnf) | (unfold liveTo; conv => whnf) | exact Nat.zero_lt_succ _))
         ·have ha : addP s k ⟨⟨[47], dt, ui, gi, mo, si⟩, prt b (k + 60) (k + 60 + n), 0⟩ = (s, 8) := by
           unfold addP; rw [if_pos rfl, if_pos (by show usedP s = true; rw [hus]; simp [h8])]
          rw [ha] at hbad
          rw [hbad rfl (by show (8 : Int) ≠ 0; decide)]
          (conv => whnf)
          refine split_intro (fun _ => ?_) (fun h => absurd h (by simp; omega))
          (conv => whnf)
          exact Wk.tuple (Wks.cons (Wk.agg (Wks.cons (Wk.refl _) (Wks.cons (Wk.nil' rfl) (Wks.cons (Wk.nil' rfl) (Wks.cons (Wk.nil' rfl) Wks.nil))))) (Wks.cons (Wk.refl _) (Wks.cons (Wk.refl _) Wks.nil)))
        ·refine split_intro (fun h => absurd h (by simpa [sB] using hA)) (fun _ => ?_)
         (conv => whnf)
         by_cases hB : nm = [47, 47]
         ·subst hB
          (conv => whnf)
          refine CallLeaf.wa (rentries_ (prt b (k + 60) (k + 60 + n)) (by omega)) rfl ?_
          (conv => whnf)
          by_cases hC : (entR (prt b (k + 60) (k + 60 + n))).2 = 0
          ·refine split_intro (fun h => absurd h (by simpa using hC)) (fun _ => ?_)
           (conv => whnf)
           cases hht : s.ht with
           | true =>
            have ha : addP s k ⟨⟨[47, 47], dt, ui, gi, mo, si⟩, prt b (k + 60) (k + 60 + n), 0⟩ = (s, 7) := by
             unfold addP; rw [if_neg (by simp), if_pos rfl, if_pos (.inr (by simp [PS.first, hht]))]
            rw [ha] at hbad
            rw [hbad rfl (by show (7 : Int) ≠ 0; decide)]
            (conv => whnf)
            exact Wk.tuple (Wks.cons (Wk.agg (Wks.cons (Wk.refl _) (Wks.cons (Wk.nil' rfl) (Wks.cons (Wk.nil' rfl) (Wks.cons (Wk.nil' rfl) Wks.nil))))) (Wks.cons (Wk.refl _) (Wks.cons (Wk.refl _) Wks.nil)))
           | false =>
            (conv => whnf)
            by_cases hM : s.ms.length = 0
            ·have ha : addP s k ⟨⟨[47, 47], dt, ui, gi, mo, si⟩, prt b (k + 60) (k + 60 + n), 0⟩ = (⟨s.hm, s.map, s.ms, s.os, prt b (k + 60) (k + 60 + n), true⟩, 0) := by
              unfold addP; rw [if_neg (by simp), if_pos rfl, if_neg (by rintro (h | h); exact h hC; simp [PS.first, hht, hM] at h)]
             rw [ha] at hstep
             refine split_intro (fun h => absurd h (by simp [hM])) (fun _ => ?_)
             (conv => whnf)
             refine ⟨_, ⟨hstep rfl, by show b.length - _ < b.length - _; simp only []; omega⟩, ?_⟩
             (repeat' (first | exact trivial | exact Wk.refl _ | exact ObWk.refl _ | exact rfl | exact ⟨_, rfl⟩ | exact Nat.zero_lt_one | refine And.intro ?_ ?_ | unfold okTo | (unfold okO; conv => whnf) | (unfold okS; conv => whnf) | (unfold SlotOk; conv => whnf) | (unfold ObjOk; conv => whnf) | (unfold okCells; conv => whnf) | (unfold liveTo; conv => whnf) | exact Nat.zero_lt_succ _))
            ·have ha : addP s k ⟨⟨[47, 47], dt, ui, gi, mo, si⟩, prt b (k + 60) (k + 60 + n), 0⟩ = (s, 7) := by
              unfold addP; rw [if_neg (by simp), if_pos rfl, if_pos (.inr (by simp [PS.first]; intro h; exact absurd (by simp [h]) hM))]
             rw [ha] at hbad
             rw [hbad rfl (by show (7 : Int) ≠ 0; decide)]
             refine split_intro (fun _ => ?_) (fun h => absurd h (by simp; intro h; exact hM (by rw [h]; rfl)))
             (conv => whnf)
             exact Wk.tuple (Wks.cons (Wk.agg (Wks.cons (Wk.refl _) (Wks.cons (Wk.nil' rfl) (Wks.cons (Wk.nil' rfl) (Wks.cons (Wk.nil' rfl) Wks.nil))))) (Wks.cons (Wk.refl _) (Wks.cons (Wk.refl _) Wks.nil)))
          ·have ha : addP s k ⟨⟨[47, 47], dt, ui, gi, mo, si⟩, prt b (k + 60) (k + 60 + n), 0⟩ = (s, 7) := by
            unfold addP; rw [if_neg (by simp), if_pos rfl, if_pos (.inl hC)]
           rw [ha] at hbad
           rw [hbad rfl (by show (7 : Int) ≠ 0; decide)]
           refine split_intro (fun _ => ?_) (fun h => absurd h (by simpa using hC))
           (conv => whnf)
           exact Wk.tuple (Wks.cons (Wk.agg (Wks.cons (Wk.refl _) (Wks.cons (Wk.nil' rfl) (Wks.cons (Wk.nil' rfl) (Wks.cons (Wk.nil' rfl) Wks.nil))))) (Wks.cons (Wk.refl _) (Wks.cons (Wk.refl _) Wks.nil)))
         ·refine split_intro (fun h => absurd h (by simpa [sB] using hB)) (fun _ => ?_)
          (conv => whnf)
          refine CallLeaf.wa (rresolve_ nm s.names (by omega) (by omega)) rfl ?_
          (conv => whnf)
          rw [← res_eq nm hen]
          by_cases hC : (resP nm s.names).2 = 0
          ·have ha : addP s k ⟨⟨nm, dt, ui, gi, mo, si⟩, prt b (k + 60) (k + 60 + n), 0⟩ = (⟨s.hm, s.map, s.ms ++ [⟨(resP nm s.names).1, dt, ui, gi, mo, prt b (k + 60) (k + 60 + n)⟩], s.os ++ [k], s.names, s.ht⟩, 0) := by
            unfold addP; rw [if_neg hA, if_neg hB, if_neg (fun h => h hC)]
           rw [ha] at hstep
           refine split_intro (fun h => absurd h (by simpa using hC)) (fun _ => ?_)
           (conv => whnf)
           refine ⟨_, appL (f := eMn) (xs := s.ms) (ys := [⟨(resP nm s.names).1, dt, ui, gi, mo, prt b (k + 60) (k + 60 + n)⟩]) (zs := s.ms ++ [⟨(resP nm s.names).1, dt, ui, gi, mo, prt b (k + 60) (k + 60 + n)⟩]) rfl rfl (fun _ => rfl) rfl (by show _ * 72 ≤ _; simp; omega), ?_⟩
           (conv => whnf)
           refine ⟨_, appL (f := eO) (xs := s.os) (ys := [k]) (zs := s.os ++ [k]) rfl rfl (fun _ => rfl) rfl (by show _ * 8 ≤ _; simp; omega), ?_⟩
           (conv => whnf)
           refine ⟨_, ⟨hstep rfl, by show b.length - _ < b.length - _; simp only []; omega⟩, ?_⟩
           (repeat' (first | exact trivial | exact Wk.refl _ | exact ObWk.refl _ | exact rfl | exact ⟨_, rfl⟩ | exact Nat.zero_lt_one | refine And.intro ?_ ?_ | unfold okTo | (unfold okO; conv => whnf) | (unfold okS; conv => whnf) | (unfold SlotOk; conv => whnf) | (unfold ObjOk; conv => whnf) | (unfold okCells; conv => whnf) | (unfold liveTo; conv => whnf) | exact Nat.zero_lt_succ _))
          ·have ha : addP s k ⟨⟨nm, dt, ui, gi, mo, si⟩, prt b (k + 60) (k + 60 + n), 0⟩ = (s, (resP nm s.names).2) := by
            unfold addP; rw [if_neg hA, if_neg hB, if_pos hC]
           rw [ha] at hbad
           rw [hbad rfl hC]
           refine split_intro (fun _ => ?_) (fun h => absurd h (by simpa using hC))
           (conv => whnf)
           exact Wk.tuple (Wks.cons (Wk.agg (Wks.cons (Wk.refl _) (Wks.cons (Wk.nil' rfl) (Wks.cons (Wk.nil' rfl) (Wks.cons (Wk.nil' rfl) Wks.nil))))) (Wks.cons (Wk.refl _) (Wks.cons (Wk.refl _) Wks.nil)))
     ·have hw : (nextP (b.drop k)).1.why = (decR (b.drop k)).2 := by unfold nextP; rw [if_pos hz]
      have e := A.bad hk' h1' h2' (by rw [hw]; exact hz)
      rw [e, hw]
      refine split_intro (fun _ => ?_) (fun h => absurd h (by simpa using hz))
      (conv => whnf)
      exact Wk.tuple (Wks.cons (Wk.agg (Wks.cons (Wk.refl _) (Wks.cons (Wk.nil' rfl) (Wks.cons (Wk.nil' rfl) (Wks.cons (Wk.nil' rfl) Wks.nil))))) (Wks.cons (Wk.refl _) (Wks.cons (Wk.refl _) Wks.nil)))
    ·have hk' : ¬ k < b.length := by have := of_decide_eq_false hk; simp only [List.length_map] at this; omega
     have e := A.fin hk' h1' h2'
     rw [e]
     (conv => whnf)
     exact Wk.tuple (Wks.cons (Wk.agg (Wks.cons (Wk.refl _) (Wks.cons (Wk.list _ _) (Wks.cons (Wk.list _ _) (Wks.cons (Wk.list _ _) Wks.nil))))) (Wks.cons (Wk.refl _) (Wks.cons (Wk.refl _) Wks.nil)))
end Go.Proofs.YtimnnknfcfongaaDoor.H

namespace Go.Proofs.YtimnnknfcfongaaDoor.H
open Go Go.AL Go.AL.Hd Go.AL.Ln Go.AL.Ar Go.AL.Sc
set_option maxRecDepth 100000
set_option maxHeartbeats 8000000
abbrev hA0 : Hdr := ⟨[97, 46, 111, 47], 0, 0, 0, 0, 3⟩
abbrev dA0 : Str := [120, 121, 122]
theorem hA_ok : (encR hA0).2 = 0 := enc_any (by decide) (by omega) (by omega) (by omega) (by omega) (by omega) (.inl (by decide))
abbrev bA0 : Str := magic ++ (encR hA0).1 ++ [120, 121, 122, 10]
theorem runM : runP PS0 (partsP 8 (magic.drop 8)) = (PS0, none) := by
 rw [show magic.drop 8 = [] from rfl, partsP_nil]; rfl
theorem bA_eq : bA0 = magic ++ ((encR hA0).1 ++ dA0 ++ padP dA0) := by simp [padP]
theorem arcM : arcP magic = (Arc0, 0, 0) := by
 rw [arc_run (by decide) rfl, runM]
theorem arcX : arcP (magic ++ [120]) = (Arc0, 8, 2) := by
 have hd : decR [120] = (hdr0, 2) := decR_short (by decide)
 have hn : nextP [120] = (⟨hdr0, [], 2⟩, 0) := by unfold nextP; rw [hd, if_pos (by simp)]
 rw [arc_app (by decide) rfl runM, run_bad (by simp) (by rw [hn]; simp), hn]
 rfl
theorem arcA : arcP bA0 = (⟨false, [], [⟨[97, 46, 111], 0, 0, 0, 0, dA0⟩], [8]⟩, 0, 0) := by
 have ea : addP PS0 8 ⟨hA0, dA0, 0⟩ = (⟨false, [], [⟨[97, 46, 111], 0, 0, 0, 0, dA0⟩], [8], [], false⟩, 0) := by
  have hr : resP [97, 46, 111, 47] [] = ([97, 46, 111], 0) := by unfold resP; rw [if_pos (by decide)]; rfl
  unfold addP
  rw [if_neg (by decide), if_neg (by decide)]
  simp only [hr]
  rw [if_neg (by simp)]
  rfl
 have es : stepP PS0 (8, ⟨hA0, dA0, 0⟩) = addP PS0 8 ⟨hA0, dA0, 0⟩ := by unfold stepP; rw [if_neg (by simp)]
 rw [bA_eq, arc_app (by decide) rfl runM, one_part _ hA_ok rfl, runP, runP]
 rw [show magic.length = 8 from rfl, es, ea]
 rfl
theorem arcC : arcP (bA0.take (bA0.length - 1)) = (Arc0, 8, 2) := by
 have hl := (enc_dec hA0 [] hA_ok).1
 have e : bA0.take (bA0.length - 1) = magic ++ ((encR hA0).1 ++ dA0 ++ padP dA0).take 63 := by
  rw [bA_eq, List.take_append, List.take_of_length_le (by simp only [List.length_append, hl]; decide)]
  congr 2
  simp only [List.length_append, hl]; rfl
 rw [e, arc_cut (by decide) rfl runM hA_ok rfl (by omega) (by decide)]
 rfl
theorem laddT_ [Go.AL.MX] (a b : Str) (h : a.length + b.length ≤ 140737488355328) : FCall Tryd.prog Gl 30 [LB a, LB b] [] (.list (.tok 0) ((a ++ b).map byteD)) [.tok ((a ++ b).map byteD).length 1] := by
 refine FCall.enterO hT hmix [] Tryd.func30 rfl rfl rfl fun hbd => ?_
 (conv => whnf)
 refine ⟨_, appL (f := byteD) (xs := []) (ys := a) (zs := a) rfl rfl (fun _ => rfl) rfl (by show _ * 1 ≤ _; omega), ?_⟩
 (conv => whnf)
 refine ⟨_, appL (f := byteD) (xs := a) (ys := b) (zs := a ++ b) rfl rfl (fun _ => rfl) rfl (by rw [List.length_append]; show _ * 1 ≤ _; omega), ?_⟩
 (conv => whnf)
 refine ⟨[512], rfl, by (try unfold pullOk); (repeat' (first | exact trivial | exact ObWk.refl _ | refine And.intro ?_ ?_ | unfold pullOk)), ?_⟩
 (conv => whnf)
 exact Wk.refl _
theorem rmagicT_ [Go.AL.MX] : FCall Tryd.prog Gl 49 [] [] (.list (.tok 0) (magic.map byteD)) [.tok 8 1] := by
 refine FCall.enterO hT hmix [] Tryd.func49 rfl rfl rfl fun hbd => ?_
 (conv => whnf)
 refine ⟨[512], rfl, by (try unfold pullOk); (repeat' (first | exact trivial | exact ObWk.refl _ | refine And.intro ?_ ?_ | unfold pullOk)), ?_⟩
 (conv => whnf)
 exact Wk.refl _
theorem aawake_ [Go.AL.MX] : FCall Tryd.prog Gl 31 [] [] (vB true) [] := by
 have hl := (enc_dec hA0 [] hA_ok).1
 have E := encode_ hA0 (by decide) (by decide) (by decide) (by decide) (by decide) (by decide)
 have P1 := aparse_ bA0 (by simp only [List.length_append, hl]; decide)
 have P2 := aparse_ magic (by decide)
 have P3 := aparse_ (magic ++ [120]) (by decide)
 have P4 := aparse_ (bA0.take (bA0.length - 1)) (by simp only [List.length_take, List.length_append, hl]; decide)
 rw [arcA] at P1
 rw [arcM] at P2
 rw [arcX] at P3
 rw [arcC] at P4
 have I1 := ais_ bA0 (by simp only [List.length_append, hl]; decide)
 have I2 := ais_ [] (by decide)
 obtain ⟨bb, hbb⟩ : ∃ bb, bb = bA0 := ⟨_, rfl⟩
 have hbl : bb.length = 72 := by rw [hbb]; simp only [List.length_append, hl]; rfl
 rw [← hbb] at P1 P4 I1
 have hib : isP bb = true := by
  simp only [isP, hbl, Bool.and_eq_true, decide_eq_true_eq]
  exact ⟨by omega, by rw [hbb]; rfl⟩
 rw [hib] at I1
 have SM := rsm_ ⟨[97, 46, 111], 0, 0, 0, 0, dA0⟩ ⟨[97, 46, 111], 0, 0, 0, 0, dA0⟩
 rw [decide_eq_true rfl] at SM
 refine FCall.enterL hT hmix [] Tryd.func31 rfl rfl rfl fun hbd => ?_
 (conv => whnf)
 refine CallLeaf.wa (E) rfl ?_
 (conv => whnf)
 refine CallLeaf.wa (rmagic_) rfl ?_
 (conv => whnf)
 refine CallLeaf.oa [1040] (laddT_ magic (encR hA0).1 (by rw [hl]; decide)) rfl rfl rfl rfl ?_
 (conv => whnf)
 refine ⟨_, appL (f := byteD) (xs := magic ++ (encR hA0).1) (ys := [120, 121, 122, 10]) (zs := bb) rfl rfl (fun _ => rfl) hbb.symm (by show _ * 1 ≤ _; omega), ?_⟩
 (conv => whnf)
 refine CallLeaf.wa (P1) rfl ?_
 (conv => whnf)
 refine CallLeaf.wa (rmagic_) rfl ?_
 (conv => whnf)
 refine CallLeaf.wa (P2) rfl ?_
 (conv => whnf)
 refine CallLeaf.oa [2560] (rmagicT_) rfl rfl rfl rfl ?_
 (conv => whnf)
 refine ⟨_, appL (f := byteD) (xs := magic) (ys := [120]) (zs := magic ++ [120]) rfl rfl (fun _ => rfl) rfl (by decide), ?_⟩
 (conv => whnf)
 refine CallLeaf.wa (P3) rfl ?_
 (conv => whnf)
 refine ⟨_, sub64 (c := ((bb.length - 1 : Nat) : Int)) (by simp only [List.length_map]; omega) (by omega), ?_⟩
 (conv => whnf)
 refine ⟨(bb.take (bb.length - 1)).map byteD, slL (by omega) (by omega) (by simp only [List.length_map]; omega) (fun _ => rfl) (by simp), ?_⟩
 (conv => whnf)
 refine CallLeaf.wa (P4) rfl ?_
 (conv => whnf)
 refine ⟨_, ⟨by omega, rfl⟩, ?_⟩
 (conv => whnf)
 refine CallLeaf.wa (SM) rfl ?_
 (conv => whnf)
 refine ⟨_, ⟨by omega, rfl⟩, ?_⟩
 (conv => whnf)
 refine CallLeaf.wa (I1) rfl ?_
 (conv => whnf)
 refine CallLeaf.wa (I2) rfl ?_
 (conv => whnf)
 exact Wk.refl _
end Go.Proofs.YtimnnknfcfongaaDoor.H

namespace Go.Proofs.YtimnnknfcfongaaDoor
open Go Go.AL Go.AL.Hd
open Go.ChangeShapes Go.WideShapes Go.ChangeAt Go.RowKit
set_option maxRecDepth 100000
theorem own : ownKnob Tryd.prog.godebug = none := by kernel_rfl
theorem laidOut : laidOutB Tryd.prog = true := by kernel_rfl
abbrev laidL : List (String × DataW Unit) := [("unicode/utf8.acceptRanges", Rows.laid_unicode_utf8_acceptRanges), ("unicode/utf8.first", Rows.laid_unicode_utf8_first)]
theorem sMax : ((begin Tryd.prog (fun _ _ => 0) default).world.heap[0]?).bind Obj.row? = some (#[.int .i64 0], 3) := by kernel_rfl
theorem zMax : 0 < Tryd.prog.globals.size := of_decide_eq_true (by kernel_rfl)
theorem maxLen {W : World} (h : W.ShapedOpen Tryd.prog) : ∃ m, W.cell? ⟨0, 0, none⟩ = some (.int .i64 m) :=
 cell_of_shapedOpen_int h zMax sMax rfl (by kernel_rfl) (by kernel_rfl) Tryd.underlying3
theorem globOk [MX] {W : World} (h : laidMetH Tryd.prog laidL W) (hs : W.ShapedOpen Tryd.prog) (hm : W.cell? ⟨0, 0, none⟩ = some (.int .i64 MX.val)) : GlobOk Gl W := by
 have key : ∀ g, (∀ j (hj : j < (Gl g).length), ∃ u, cellH W.heap g j = some u ∧ VR (env0 W.heap) W.heap (sto []) ((Gl g)[j]) u ∧ ((Gl g)[j]).idf = true) ∧ (Gl g = [] ∨ ∃ us e f, W.heap[g]? = some (.cells us e f) ∧ us.size = (Gl g).length) := by
  intro g
  by_cases hg2 : g = 0
  ·subst hg2
   have e : Gl 0 = [vI MX.val] := rfl
   rw [e]
   refine ⟨fun j hj => ?_, .inr (glob_block hs zMax sMax)⟩
   have hj0 : j = 0 := by simp at hj; exact hj
   subst hj0
   rw [cell?_eq] at hm
   exact ⟨_, hm, .v _, rfl⟩
  ·have e : Gl g = [] := by
    first
     | (simp only [Gl]; done)
     | (simp only [Gl]; split; all_goals first | rfl | (exfalso; simp_all))
     | simp_all [Gl]
   rw [e]
   exact ⟨fun j hj => by simp at hj, .inl rfl⟩
 exact ⟨fun g j hj => (key g).1 j hj, fun g => (key g).2⟩
theorem byte_of {n : Nat} {ds : List D} (h : Rd Tryd.prog (n + 1) 5 ds) : ∃ u : UInt8, ds = byteD u := by
 simp only [Rd, Tryd.underlying5] at h
 obtain ⟨x, hw, rfl⟩ := h
 simp [Lit.wf] at hw
 have h1 : IntKind.u8.min = 0 := rfl
 have h2 : IntKind.u8.max = 255 := rfl
 obtain ⟨m, rfl⟩ := Int.eq_ofNat_of_zero_le (show 0 ≤ x by omega)
 refine ⟨UInt8.ofNat m, ?_⟩
 simp only [byteD, List.cons.injEq, and_true, D.v.injEq, Value.int.injEq, true_and]
 simp; omega
theorem list_ofP {n : Nat} {α : Type} {f : α → List D} {p : α → Prop} {e t : TypeId} {ds : List D} (hu : Tryd.prog.underlying t = some (.slice e)) (he : ∀ x, Rd Tryd.prog n e x → ∃ y, p y ∧ x = f y) (h : Rd Tryd.prog (n + 1) t ds) :
  ∃ l : List α, (∀ a ∈ l, p a) ∧ l.length * Tryd.prog.bytesOf e ≤ 140737488351232 ∧ ds = [.list .any (l.map f)] ∧ argD Tryd.prog t ds = .list .any (l.map f) := by
 simp only [Rd, hu] at h
 obtain ⟨xs, rfl, hb, hx⟩ := h
 have hc : ∀ x : { x // x ∈ xs }, ∃ y, p y ∧ x.1 = f y := fun x => he x.1 (hx x.1 x.2)
 have hm : (xs.attach.map fun x => (hc x).choose).map f = xs := by
  rw [List.map_map]
  have : (xs.attach.map (f ∘ fun x => (hc x).choose)) = xs.attach.map (fun x => x.1) := List.map_congr_left fun x _ => ((hc x).choose_spec).2.symm
  rw [this, List.attach_map_subtype_val]
 refine ⟨xs.attach.map fun x => (hc x).choose, fun a ha => ?_, by simpa using hb, by rw [hm], ?_⟩
 ·obtain ⟨x, _, rfl⟩ := List.mem_map.1 ha
  exact ((hc x).choose_spec).1
 ·rw [hm]; simp only [argD, hu]
theorem i64_of {x : Int} (h : (Lit.int .i64 x).wf = true) : x ≤ 9223372036854775807 := by
 have m1 : IntKind.i64.min = -9223372036854775808 := rfl
 have m2 : IntKind.i64.max = 9223372036854775807 := rfl
 simp only [Lit.wf, m1, m2, Bool.and_eq_true, decide_eq_true_eq] at h
 exact h.2
theorem arg_LB {ds : List D} (h : Rd Tryd.prog 8 23 ds) : ∃ l : Str, l.length ≤ 140737488351232 ∧ argD Tryd.prog 23 ds = LB l := by
 obtain ⟨l, _, h2, _, e⟩ := list_ofP (n := 7) (f := byteD) (p := fun _ => True) Tryd.underlying23 (fun x hx => by
  obtain ⟨u, e⟩ := byte_of (n := 6) hx
  exact ⟨u, trivial, e⟩) h
 rw [show Tryd.prog.bytesOf 5 = 1 by kernel_rfl, Nat.mul_one] at h2
 exact ⟨l, h2, e⟩
theorem str_of {n : Nat} {ds : List D} (h : Rd Tryd.prog (n + 1) 9 ds) : ∃ s : Str, ds = eS s := by
 simp only [Rd, Tryd.underlying9] at h
 obtain ⟨s, hs, rfl⟩ := h
 exact ⟨s, rfl⟩
theorem arg_sD {ds : List D} (h : Rd Tryd.prog 8 9 ds) : ∃ s : Str, True ∧ argD Tryd.prog 9 ds = sD s := by
 obtain ⟨s, rfl⟩ := str_of (n := 7) h
 exact ⟨s, trivial, by simp only [argD, Tryd.underlying9]⟩
theorem arg_LS {ds : List D} (h : Rd Tryd.prog 8 22 ds) : ∃ l : List Str, True ∧ argD Tryd.prog 22 ds = LS l := by
 obtain ⟨l, e⟩ := list_of (n := 7) (f := eS) Tryd.underlying22 (fun x hx => str_of (n := 6) hx) h
 exact ⟨l, trivial, e⟩
theorem arg_u16 {ds : List D} (h : Rd Tryd.prog 8 45 ds) : ∃ x : Int, (0 ≤ x ∧ x ≤ 65535) ∧ argD Tryd.prog 45 ds = .v (.int .u16 x) := by
 simp only [Rd, Tryd.underlying45] at h
 obtain ⟨x, hw, rfl⟩ := h
 refine ⟨x, ?_, by simp only [argD, Tryd.underlying45]⟩
 simp [Lit.wf] at hw
 have h1 : IntKind.u16.min = 0 := rfl
 have h2 : IntKind.u16.max = 65535 := rfl
 omega
theorem arg_bool {ds : List D} (h : Rd Tryd.prog 8 4 ds) : ∃ x : Bool, True ∧ argD Tryd.prog 4 ds = vB x := by
 simp only [Rd, Tryd.underlying4] at h
 obtain ⟨x, hw⟩ := h
 subst hw
 exact ⟨x, trivial, by simp only [argD, Tryd.underlying4]⟩
end Go.Proofs.YtimnnknfcfongaaDoor

namespace Go.Proofs.YtimnnknfcfongaaDoor.H
open Go Go.AL Go.AL.Hd Go.AL.Ln Go.AL.Ar Go.AL.Sc
set_option maxRecDepth 100000
set_option maxHeartbeats 8000000
theorem amatch_ [Go.AL.MX] (b : Str) : FCall Tryd.prog Gl 9 [LB b] [] (vB true) [] := by
 refine FCall.enterL hT hmix [] Tryd.func9 rfl rfl rfl fun hbd => ?_
 (conv => whnf)
 refine CallLeaf.wa (aawake_) rfl ?_
 (conv => whnf)
 refine split_intro (fun h1 => ?_) (fun h1 => ?_)
 ·((conv => whnf); refine CallLeaf.wa (aawake_) rfl ?_; (conv => whnf); exact Wk.refl _)
 ·have h1' : b.length ≤ 20000 := by have := of_decide_eq_false h1; simp only [List.length_map] at this; omega
  have SA := rsameA_ (arcP b).1 (arcP b).1
  rw [decide_eq_true rfl] at SA
  (conv => whnf)
  refine CallLeaf.wa (aparse_ b (by omega)) rfl ?_
  (conv => whnf)
  refine CallLeaf.wa (rparse4_ b (by omega)) rfl ?_
  (conv => whnf)
  refine CallLeaf.wa (rarchive_ (arcP b).1) rfl ?_
  (conv => whnf)
  refine CallLeaf.wa (SA) rfl ?_
  (conv => whnf)
  refine split_intro (fun _ => ?_) (fun h => absurd h (by simp))
  (conv => whnf)
  refine split_intro (fun _ => ?_) (fun h => absurd h (by simp))
  (conv => whnf)
  refine CallLeaf.wa (ais_ b (by omega)) rfl ?_
  (conv => whnf)
  refine CallLeaf.wa (ris_ b) rfl ?_
  (conv => whnf)
  exact Wk.bool (by simp)
abbrev dnI : Nat → Int
 | 0 => -1
 | i + 1 => (i : Int)
theorem dnI_eq (j : Nat) : (j : Int) - 1 = dnI j := by cases j <;> simp [dnI]
theorem atotal_ [Go.AL.MX] (b : Str) : FCall Tryd.prog Gl 10 [LB b] [] (vB true) [] := by
 refine FCall.enterL hT hmix [] Tryd.func10 rfl rfl rfl fun hbd => ?_
 (conv => whnf)
 refine CallLeaf.wa (aawake_) rfl ?_
 (conv => whnf)
 refine split_intro (fun h1 => ?_) (fun h1 => ?_)
 ·((conv => whnf); refine CallLeaf.wa (aawake_) rfl ?_; (conv => whnf); exact Wk.refl _)
 ·have h1' : b.length ≤ 20000 := by have := of_decide_eq_false h1; simp only [List.length_map] at this; omega
  have P := aparse_ b (by omega)
  by_cases hz : (arcP b).2.2 = 0
  ·obtain ⟨a1, a2, s, a3, a4⟩ := arc_ok hz
   obtain ⟨C, hol⟩ := chain_ok a1 a3
   rw [a4] at P
   (conv => whnf)
   refine CallLeaf.wa (P) rfl ?_
   (conv => whnf)
   refine split_intro (fun h => absurd h (by simp [hol])) (fun _ => ?_)
   have hms := ms_bd a3
   (conv => whnf)
   refine ⟨_, sub64 (c := dnI s.ms.length) (by simp [← dnI_eq]) (by rw [← dnI_eq]; omega), ?_⟩
   (conv => whnf)
   refine LWp.loop hT hmix [] (fun x : Nat × Nat => [(7, vI (dnI x.1)), (6, vI x.2)]) (fun _ => []) (fun x => x.1 ≤ s.ms.length ∧ (s.os ++ [b.length])[x.1]? = some x.2) (fun x => x.1) (s.ms.length, b.length) ⟨Nat.le_refl _, by rw [← hol]; simp⟩ ?_
   (conv => whnf)
   refine ⟨?_, fun ⟨j, e⟩ ⟨hj, he⟩ => ?_⟩
   ·(repeat' (first | exact trivial | exact Wk.refl _ | exact ObWk.refl _ | exact rfl | exact ⟨_, rfl⟩ | exact Nat.zero_lt_one | refine And.intro ?_ ?_ | unfold okTo | (unfold okO; conv => whnf) | (unfold okS; conv => whnf) | (unfold SlotOk; conv => whnf) | (unfold ObjOk; conv => whnf) | (unfold okCells; conv => whnf) | (unfold liveTo; conv => whnf) | exact Nat.zero_lt_succ _))
    all_goals exact Wk.int (by simp)
   ·cases j with
    | zero =>
     have he8 : 8 ≤ e := by
      replace he : (s.os ++ [b.length])[0]? = some e := he
      cases hos : s.os with
      | nil => rw [hos] at he; simp at he; omega
      | cons o r =>
       obtain ⟨m, o', e', c1, c2, c3, M⟩ := C 0 (by rw [← hol, hos]; simp)
       rw [hos] at he c2
       simp at he c2
       have := M.lo
       omega
     (conv => whnf)
     refine split_intro (fun _ => ?_) (fun h => absurd h (by simp; omega))
     (conv => whnf)
     exact Wk.refl _
    | succ i =>
     obtain ⟨m, o, e', c1, c2, c3, M⟩ := C i hj
     obtain rfl : e = e' := by rw [c3] at he; injection he with he; exact he.symm
     obtain ⟨m1, m2, m3, m4, m5, m6, m7, m8, m9, m10, m11, m12⟩ := M
     have SD := O.same_ m.data m.data
     rw [decide_eq_true rfl] at SD
     (conv => whnf)
     refine ⟨_, ⟨Int.natCast_nonneg _, getMap c2⟩, ?_⟩
     (conv => whnf)
     refine ⟨_, ⟨Int.natCast_nonneg _, getMap c1⟩, ?_⟩
     (conv => whnf)
     refine split_intro (fun h => absurd h (by simp; omega)) (fun _ => ?_)
     (conv => whnf)
     refine ⟨_, add64 (c := ((o + 60 : Nat) : Int)) rfl (by omega), ?_⟩
     (conv => whnf)
     refine ⟨_, add64 (c := ((o + 60 + m.data.length : Nat) : Int)) (by simp) (by omega), ?_⟩
     (conv => whnf)
     refine split_intro (fun h => absurd h (by simp; omega)) (fun _ => ?_)
     (conv => whnf)
     refine ⟨_, add64 (c := ((o + 60 : Nat) : Int)) rfl (by omega), ?_⟩
     (conv => whnf)
     refine ⟨_, add64 (c := ((o + 60 + m.data.length : Nat) : Int)) (by simp) (by omega), ?_⟩
     (conv => whnf)
     refine ⟨_, rem64 (c := ((m.data.length % 2 : Nat) : Int)) (by simp only [List.length_map]; rfl) (by omega), ?_⟩
     (conv => whnf)
     refine ⟨_, add64 (c := ((o + 60 + m.data.length + m.data.length % 2 : Nat) : Int)) (by simp) (by omega), ?_⟩
     (conv => whnf)
     refine split_intro (fun h => absurd h (by simp; omega)) (fun _ => ?_)
     (conv => whnf)
     refine ⟨(b.drop o).map byteD, slL (by show 0 ≤ (o : Int); omega) (by simp; omega) (by simp) (fun _ => rfl) (by simp), ?_⟩
     (conv => whnf)
     refine CallLeaf.wa (rhdecode_ (b.drop o)) rfl ?_
     (conv => whnf)
     refine split_intro (fun h => absurd h (by simp [m4])) (fun _ => ?_)
     (conv => whnf)
     refine split_intro (fun h => absurd h (by simp [m5])) (fun _ => ?_)
     (conv => whnf)
     refine split_intro (fun h => absurd h (by simp [m6])) (fun _ => ?_)
     (conv => whnf)
     refine split_intro (fun h => absurd h (by simp [m7])) (fun _ => ?_)
     (conv => whnf)
     refine split_intro (fun h => absurd h (by simp [m8])) (fun _ => ?_)
     (conv => whnf)
     refine split_intro (fun h => absurd h (by simp [m9])) (fun _ => ?_)
     (conv => whnf)
     refine ⟨_, add64 (c := ((o + 60 : Nat) : Int)) rfl (by omega), ?_⟩
     (conv => whnf)
     refine ⟨_, add64 (c := ((o + 60 : Nat) : Int)) rfl (by omega), ?_⟩
     (conv => whnf)
     refine ⟨_, add64 (c := ((o + 60 + m.data.length : Nat) : Int)) (by rw [m9]; rfl) (by omega), ?_⟩
     (conv => whnf)
     refine ⟨m.data.map byteD, slL (by omega) (by omega) (by simp; omega) (fun _ => rfl) (by exact m10), ?_⟩
     (conv => whnf)
     refine CallLeaf.wa (SD) rfl ?_
     (conv => whnf)
     refine CallLeaf.wa (nvalid_ m.name (by omega)) rfl ?_
     rw [m11]
     (conv => whnf)
     refine ⟨_, sub64 (c := dnI i) (by show (i : Int) - 1 = dnI i; exact dnI_eq i) (by have := dnI_eq i; omega), ?_⟩
     (conv => whnf)
     refine ⟨(i, o), ⟨⟨by omega, ?_⟩, by show i < i + 1; omega⟩, ?_⟩
     ·show (s.os ++ [b.length])[i]? = some o
      rw [List.getElem?_append_left (by omega)]; exact c2
     ·(repeat' (first | exact trivial | exact Wk.refl _ | exact ObWk.refl _ | exact rfl | exact ⟨_, rfl⟩ | exact Nat.zero_lt_one | refine And.intro ?_ ?_ | unfold okTo | (unfold okO; conv => whnf) | (unfold okS; conv => whnf) | (unfold SlotOk; conv => whnf) | (unfold ObjOk; conv => whnf) | (unfold okCells; conv => whnf) | (unfold liveTo; conv => whnf) | exact Nat.zero_lt_succ _))
  ·obtain ⟨a1, a2⟩ := arc_err hz
   obtain ⟨n, hn⟩ : ∃ n, n = (arcP b).2.1 := ⟨_, rfl⟩
   rw [a1, ← hn] at P
   rw [← hn] at a2
   (conv => whnf)
   refine CallLeaf.wa (P) rfl ?_
   (conv => whnf)
   refine split_intro (fun _ => ?_) (fun h => absurd h (by simpa using hz))
   (conv => whnf)
   refine split_intro (fun _ => ?_) (fun h => absurd h (by simp; omega))
   (conv => whnf)
   exact Wk.refl _
end Go.Proofs.YtimnnknfcfongaaDoor.H
