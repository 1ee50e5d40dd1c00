/- The references of headers. No condition. -/
import Derived.Test.YtfbmknghfhancaaGreatDoorGAc
import Derived.Test.YtfbmknghfhancaaGreatDoorGWe
import Derived.Test.YtfbmknghfhancaaGreatDoorGPa
set_option linter.unusedVariables false
set_option linter.unusedSimpArgs false
namespace Go.Proofs.YtfbmknghfhancaaGreatDoor.H
open Go Go.AL Go.AL.Hd
set_option maxRecDepth 100000
set_option maxHeartbeats 4000000
theorem nvalid_ (l : Str) (hl : l.length ≤ 4611686018427387904) : FCall Tryz.prog Gl 53 [sD l] [] (vB (validN l)) [] := by
 have hsz := sB_sz l
 refine FCall.enterL hT hmix [] Tryz.func53 rfl rfl rfl fun hbd => ?_
 (conv => whnf)
 refine split_intro (fun h0 => ?_) (fun h0 => ?_)
 ·have h' : ((sB l).size : Int) = 0 := eq_of_beq h0
  have e : validN l = false := by
   have : ¬ (1 ≤ l.length ∧ l.length ≤ 255) := by omega
   simp [validN, this]
  rw [e]
  (conv => whnf)
  exact Wk.refl _
 ·have h' : ¬ ((sB l).size : Int) = 0 := by simpa using h0
  (conv => whnf)
  refine split_intro (fun h1 => ?_) (fun h1 => ?_)
  ·have h1' : (255 : Int) < (sB l).size := of_decide_eq_true h1
   have e : validN l = false := by
    have : ¬ (1 ≤ l.length ∧ l.length ≤ 255) := by omega
    simp [validN, this]
   rw [e]
   (conv => whnf)
   exact Wk.refl _
  ·have h1' : ¬ (255 : Int) < (sB l).size := of_decide_eq_false h1
   have hlen : 1 ≤ l.length ∧ l.length ≤ 255 := by omega
   (conv => whnf)
   refine LWp.loop hT hmix [] (fun k : Nat => [(3, vI k)]) (fun _ => []) (fun k => k ≤ l.length ∧ (l.take k).any bad3 = false) (fun k => l.length - k) 0 ⟨Nat.zero_le _, by simp⟩ ?_
   (conv => whnf)
   refine ⟨?_, fun k ⟨hk, hkk⟩ => ?_⟩
   ·(repeat' (first | exact trivial | exact Wk.refl _ | exact ObWk.refl _ | exact rfl | exact ⟨_, rfl⟩ | exact Nat.zero_lt_one | refine And.intro ?_ ?_ | unfold okTo | (unfold okO; conv => whnf) | (unfold okS; conv => whnf) | (unfold SlotOk; conv => whnf) | (unfold ObjOk; conv => whnf) | (unfold okCells; conv => whnf) | (unfold liveTo; conv => whnf) | exact Nat.zero_lt_succ _))
   ·(conv => whnf)
    refine split_intro (fun h => ?_) (fun h => ?_)
    ·have hlt : k < l.length := by have := of_decide_eq_true h; omega
     obtain ⟨x, hx⟩ := exI hlt
     have hbad : bad3 x = true → validN l = false := fun hp => by simp only [validN, any_at hx hp]; simp
     (conv => whnf)
     refine ⟨x, ⟨by omega, by simpa using hx⟩, ?_⟩
     (conv => whnf)
     refine split_intro (fun hA => ?_) (fun hA => ?_)
     ·have hxA : x = 47 := byte_eq (c := 47) hA
      rw [hbad (by simp [bad3, hxA])]
      (conv => whnf)
      exact Wk.refl _
     ·have hxA : ¬ x = 47 := byte_ne (c := 47) hA
      (conv => whnf)
      refine ⟨x, ⟨by omega, by simpa using hx⟩, ?_⟩
      (conv => whnf)
      refine split_intro (fun hB => ?_) (fun hB => ?_)
      ·have hxB : x = 10 := byte_eq (c := 10) hB
       rw [hbad (by simp [bad3, hxB])]
       (conv => whnf)
       exact Wk.refl _
      ·have hxB : ¬ x = 10 := byte_ne (c := 10) hB
       (conv => whnf)
       refine ⟨x, ⟨by omega, by simpa using hx⟩, ?_⟩
       (conv => whnf)
       refine split_intro (fun hC => ?_) (fun hC => ?_)
       ·have hxC : x = 0 := byte_eq (c := 0) hC
        rw [hbad (by simp [bad3, hxC])]
        (conv => whnf)
        exact Wk.refl _
       ·have hxC : ¬ x = 0 := byte_ne (c := 0) hC
        (conv => whnf)
        refine ⟨_, add64 (c := ((k + 1 : Nat) : Int)) (by (try simp only []); omega) (by omega), ?_⟩
        (conv => whnf)
        refine ⟨k + 1, ⟨⟨by omega, step_any hx (by simp [bad3, hxA, hxB, hxC]) hkk⟩, by simp only []; omega⟩, ?_⟩
        (repeat' (first | exact trivial | exact Wk.refl _ | exact ObWk.refl _ | exact rfl | exact ⟨_, rfl⟩ | exact Nat.zero_lt_one | refine And.intro ?_ ?_ | unfold okTo | (unfold okO; conv => whnf) | (unfold okS; conv => whnf) | (unfold SlotOk; conv => whnf) | (unfold ObjOk; conv => whnf) | (unfold okCells; conv => whnf) | (unfold liveTo; conv => whnf) | exact Nat.zero_lt_succ _))
    ·have hge : l.length ≤ k := by have := of_decide_eq_false h; omega
     rw [List.take_of_length_le hge] at hkk
     have e : validN l = true := by simp only [validN, hkk, decide_eq_true hlen]; rfl
     rw [e]
     (conv => whnf)
     exact Wk.refl _
theorem last_at {l : Str} (h : 1 ≤ l.length) : ∃ x, l[((l.length : Int) - 1).toNat]? = some x ∧ l.getLast? = some x := by
 have e : ((l.length : Int) - 1).toNat = l.length - 1 := by omega
 obtain ⟨x, hx⟩ := exI (show l.length - 1 < l.length by omega)
 exact ⟨x, by rw [e]; exact hx, by rw [List.getLast?_eq_getElem?]; exact hx⟩
theorem fits_ (l : Str) (hl : l.length ≤ 4611686018427387904) : FCall Tryz.prog Gl 67 [sD l] [] (vB (fitN l)) [] := by
 have hsz := sB_sz l
 refine FCall.enterL hT hmix [] Tryz.func67 rfl rfl rfl fun hbd => ?_
 (conv => whnf)
 refine split_intro (fun h0 => ?_) (fun h0 => ?_)
 ·have h' : ((sB l).size : Int) < 1 := of_decide_eq_true h0
  have e : fitN l = false := by
   have : ¬ (1 ≤ l.length ∧ l.length ≤ 16 ∧ l.getLast? ≠ some 32) := fun h => by omega
   simp [fitN, this]
  rw [e]
  (conv => whnf)
  exact Wk.refl _
 ·have h' : ¬ ((sB l).size : Int) < 1 := of_decide_eq_false h0
  (conv => whnf)
  refine split_intro (fun h1 => ?_) (fun h1 => ?_)
  ·have h1' : (16 : Int) < (sB l).size := of_decide_eq_true h1
   have e : fitN l = false := by
    have : ¬ (1 ≤ l.length ∧ l.length ≤ 16 ∧ l.getLast? ≠ some 32) := fun h => by omega
    simp [fitN, this]
   rw [e]
   (conv => whnf)
   exact Wk.refl _
  ·have h1' : ¬ (16 : Int) < (sB l).size := of_decide_eq_false h1
   obtain ⟨y, hy, hly⟩ := last_at (l := l) (by omega)
   rw [← hsz] at hy
   (conv => whnf)
   refine ⟨_, sub64 rfl (by omega), ?_⟩
   (conv => whnf)
   refine ⟨y, ⟨by omega, by simpa using hy⟩, ?_⟩
   (conv => whnf)
   refine split_intro (fun h2 => ?_) (fun h2 => ?_)
   ·have hy2 : y = 32 := byte_eq (c := 32) h2
    have e : fitN l = false := by
     have : ¬ (1 ≤ l.length ∧ l.length ≤ 16 ∧ l.getLast? ≠ some 32) := fun h => h.2.2 (by rw [hly, hy2])
     simp [fitN, this]
    rw [e]
    (conv => whnf)
    exact Wk.refl _
   ·have hy2 : ¬ y = 32 := byte_ne (c := 32) h2
    have hlen : 1 ≤ l.length ∧ l.length ≤ 16 ∧ l.getLast? ≠ some 32 := ⟨by omega, by omega, by rw [hly]; simpa using hy2⟩
    (conv => whnf)
    refine LWp.loop hT hmix [] (fun k : Nat => [(3, vI k)]) (fun _ => []) (fun k => k ≤ l.length ∧ (l.take k).any bad2 = false) (fun k => l.length - k) 0 ⟨Nat.zero_le _, by simp⟩ ?_
    (conv => whnf)
    refine ⟨?_, fun k ⟨hk, hkk⟩ => ?_⟩
    ·(repeat' (first | exact trivial | exact Wk.refl _ | exact ObWk.refl _ | exact rfl | exact ⟨_, rfl⟩ | exact Nat.zero_lt_one | refine And.intro ?_ ?_ | unfold okTo | (unfold okO; conv => whnf) | (unfold okS; conv => whnf) | (unfold SlotOk; conv => whnf) | (unfold ObjOk; conv => whnf) | (unfold okCells; conv => whnf) | (unfold liveTo; conv => whnf) | exact Nat.zero_lt_succ _))
    ·(conv => whnf)
     refine split_intro (fun h => ?_) (fun h => ?_)
     ·have hlt : k < l.length := by have := of_decide_eq_true h; omega
      obtain ⟨x, hx⟩ := exI hlt
      have hbad : bad2 x = true → fitN l = false := fun hp => by simp only [fitN, any_at hx hp]; simp
      (conv => whnf)
      refine ⟨x, ⟨by omega, by simpa using hx⟩, ?_⟩
      (conv => whnf)
      refine split_intro (fun hB => ?_) (fun hB => ?_)
      ·have hxB : x = 10 := byte_eq (c := 10) hB
       rw [hbad (by simp [bad2, hxB])]
       (conv => whnf)
       exact Wk.refl _
      ·have hxB : ¬ x = 10 := byte_ne (c := 10) hB
       (conv => whnf)
       refine ⟨x, ⟨by omega, by simpa using hx⟩, ?_⟩
       (conv => whnf)
       refine split_intro (fun hC => ?_) (fun hC => ?_)
       ·have hxC : x = 0 := byte_eq (c := 0) hC
        rw [hbad (by simp [bad2, hxC])]
        (conv => whnf)
        exact Wk.refl _
       ·have hxC : ¬ x = 0 := byte_ne (c := 0) hC
        (conv => whnf)
        refine ⟨_, add64 (c := ((k + 1 : Nat) : Int)) (by (try simp only []); omega) (by omega), ?_⟩
        (conv => whnf)
        refine ⟨k + 1, ⟨⟨by omega, step_any hx (by simp [bad2, hxB, hxC]) hkk⟩, by simp only []; omega⟩, ?_⟩
        (repeat' (first | exact trivial | exact Wk.refl _ | exact ObWk.refl _ | exact rfl | exact ⟨_, rfl⟩ | exact Nat.zero_lt_one | refine And.intro ?_ ?_ | unfold okTo | (unfold okO; conv => whnf) | (unfold okS; conv => whnf) | (unfold SlotOk; conv => whnf) | (unfold ObjOk; conv => whnf) | (unfold okCells; conv => whnf) | (unfold liveTo; conv => whnf) | exact Nat.zero_lt_succ _))
     ·have hge : l.length ≤ k := by have := of_decide_eq_false h; omega
      rw [List.take_of_length_le hge] at hkk
      have e : fitN l = true := by simp only [fitN, hkk, decide_eq_true hlen]; rfl
      rw [e]
      (conv => whnf)
      exact Wk.refl _
theorem field_ (n : Int) (b w : Nat) (bl : Bool) (hb : b = 8 ∨ b = 10) (hw : 1 ≤ w) (hw2 : w ≤ 18) (hn : n ≤ 9223372036854775807) : FCall Tryz.prog Gl 68 [vI n, vI b, vI w, vB bl] [] (.tuple [LBn (fieldR n b w bl).1, vB (fieldR n b w bl).2]) [] := by
 refine FCall.enterL hT hmix [] Tryz.func68 rfl rfl rfl fun hbd => ?_
 (conv => whnf)
 cases bl with
 | true =>
  (conv => whnf)
  refine CallLeaf.wa (spaces_ w (by omega)) rfl ?_
  (conv => whnf)
  exact Wk.tuple (Wks.cons (Wk.nat' rfl) (Wks.cons (Wk.refl _) Wks.nil))
 | false =>
  (conv => whnf)
  refine CallLeaf.wa (format_ n b w hb hw hw2 hn) rfl ?_
  (conv => whnf)
  exact Wk.tuple (Wks.cons (Wk.nat' rfl) (Wks.cons (Wk.refl _) Wks.nil))
theorem encode_ (h : Hdr) (hl : h.name.length ≤ 4611686018427387904) (h1 : h.date ≤ 9223372036854775807) (h2 : h.uid ≤ 9223372036854775807) (h3 : h.gid ≤ 9223372036854775807) (h4 : h.mode ≤ 9223372036854775807) (h5 : h.size ≤ 9223372036854775807) :
  FCall Tryz.prog Gl 54 [.agg h.enc] [] (.tuple [LBn (encR h).1, vI (encR h).2]) [] := by
 obtain ⟨nm, dt, ui, gi, mo, si⟩ := h
 replace hl : nm.length ≤ 4611686018427387904 := hl
 have hsz := sB_sz nm
 refine FCall.enterL hT hmix [] Tryz.func54 rfl rfl rfl fun hbd => ?_
 (conv => whnf)
 refine CallLeaf.wa (fits_ nm hl) rfl ?_
 (conv => whnf)
 cases hf : fitN nm with
 | false =>
  have e : encR ⟨nm, dt, ui, gi, mo, si⟩ = ([], 6) := by simp [encR, hf]
  rw [e]
  (conv => whnf)
  exact Wk.tuple (Wks.cons (Wk.natN rfl) (Wks.cons (Wk.refl _) Wks.nil))
 | true =>
  have hlen : nm.length ≤ 16 := by
   have h := hf
   simp only [fitN, Bool.and_eq_true, decide_eq_true_eq] at h
   omega
  (conv => whnf)
  simp only [encR, hf, if_true]
  generalize hbl : decide (nm = [47, 47]) = bl
  have F1 := field_ dt 10 12 bl (.inr rfl) (by omega) (by omega) h1
  have F2 := field_ ui 10 6 bl (.inr rfl) (by omega) (by omega) h2
  have F3 := field_ gi 10 6 bl (.inr rfl) (by omega) (by omega) h3
  have F4 := field_ mo 8 8 bl (.inl rfl) (by omega) (by omega) h4
  have F5 := field_ si 10 10 false (.inr rfl) (by omega) (by omega) h5
  have L1 := fieldR_len dt 10 12 bl
  have L2 := fieldR_len ui 10 6 bl
  have L3 := fieldR_len gi 10 6 bl
  have L4 := fieldR_len mo 8 8 bl
  have L5 := fieldR_len si 10 10 false
  revert F1 F2 F3 F4 F5 L1 L2 L3 L4 L5
  generalize fieldR dt 10 12 bl = p1
  generalize fieldR ui 10 6 bl = p2
  generalize fieldR gi 10 6 bl = p3
  generalize fieldR mo 8 8 bl = p4
  generalize fieldR si 10 10 false = p5
  obtain ⟨a1, b1⟩ := p1
  obtain ⟨a2, b2⟩ := p2
  obtain ⟨a3, b3⟩ := p3
  obtain ⟨a4, b4⟩ := p4
  obtain ⟨a5, b5⟩ := p5
  intro F1 F2 F3 F4 F5 L1 L2 L3 L4 L5
  replace L1 : a1.length ≤ 12 := L1
  replace L2 : a2.length ≤ 6 := L2
  replace L3 : a3.length ≤ 6 := L3
  replace L4 : a4.length ≤ 8 := L4
  replace L5 : a5.length ≤ 10 := L5
  subst hbl
  (conv => whnf)
  refine CallLeaf.wa (F1) rfl ?_
  (conv => whnf)
  refine CallLeaf.wa (F2) rfl ?_
  (conv => whnf)
  refine CallLeaf.wa (F3) rfl ?_
  (conv => whnf)
  refine CallLeaf.wa (F4) rfl ?_
  (conv => whnf)
  refine CallLeaf.wa (F5) rfl ?_
  (conv => whnf)
  ((cases b1 with | false => ((try simp only [Bool.and_false, Bool.false_and, Bool.false_eq_true, if_false]); ((conv => whnf)); (exact Wk.tuple (Wks.cons (Wk.natN rfl) (Wks.cons (Wk.refl _) Wks.nil)))) | true => ?_); ((conv => whnf)))
  ((cases b2 with | false => ((try simp only [Bool.and_false, Bool.false_and, Bool.false_eq_true, if_false]); ((conv => whnf)); (exact Wk.tuple (Wks.cons (Wk.natN rfl) (Wks.cons (Wk.refl _) Wks.nil)))) | true => ?_); ((conv => whnf)))
  ((cases b3 with | false => ((try simp only [Bool.and_false, Bool.false_and, Bool.false_eq_true, if_false]); ((conv => whnf)); (exact Wk.tuple (Wks.cons (Wk.natN rfl) (Wks.cons (Wk.refl _) Wks.nil)))) | true => ?_); ((conv => whnf)))
  ((cases b4 with | false => ((try simp only [Bool.and_false, Bool.false_and, Bool.false_eq_true, if_false]); ((conv => whnf)); (exact Wk.tuple (Wks.cons (Wk.natN rfl) (Wks.cons (Wk.refl _) Wks.nil)))) | true => ?_); ((conv => whnf)))
  ((cases b5 with | false => ((try simp only [Bool.and_false, Bool.false_and, Bool.false_eq_true, if_false]); ((conv => whnf)); (exact Wk.tuple (Wks.cons (Wk.natN rfl) (Wks.cons (Wk.refl _) Wks.nil)))) | true => ?_); ((conv => whnf)))
  simp only [Bool.and_self, if_true]
  have S := spaces_ (16 - nm.length) (by omega)
  (conv => whnf)
  refine ⟨by show nm.length ≤ _; omega, ?_⟩
  (conv => whnf)
  refine ⟨((16 - nm.length : Nat) : Int), sub64 (by omega) (by omega), ?_⟩
  (conv => whnf)
  refine CallLeaf.wa (S) rfl ?_
  (conv => whnf)
  refine ⟨_, appL (f := byteD) (xs := nm) (ys := sp (16 - nm.length)) (zs := nm ++ sp (16 - nm.length)) (by simp) rfl (fun _ => rfl) rfl (by simp only [List.length_append, List.length_replicate, List.length_cons, List.length_nil]; show _ * 1 ≤ _; omega), ?_⟩
  (conv => whnf)
  refine ⟨_, appL (f := byteD) (xs := nm ++ sp (16 - nm.length)) (ys := a1) (zs := nm ++ sp (16 - nm.length) ++ a1) (by simp) rfl (fun _ => rfl) rfl (by simp only [List.length_append, List.length_replicate, List.length_cons, List.length_nil]; show _ * 1 ≤ _; omega), ?_⟩
  (conv => whnf)
  refine ⟨_, appL (f := byteD) (xs := nm ++ sp (16 - nm.length) ++ a1) (ys := a2) (zs := nm ++ sp (16 - nm.length) ++ a1 ++ a2) (by simp) rfl (fun _ => rfl) rfl (by simp only [List.length_append, List.length_replicate, List.length_cons, List.length_nil]; show _ * 1 ≤ _; omega), ?_⟩
  (conv => whnf)
  refine ⟨_, appL (f := byteD) (xs := nm ++ sp (16 - nm.length) ++ a1 ++ a2) (ys := a3) (zs := nm ++ sp (16 - nm.length) ++ a1 ++ a2 ++ a3) (by simp) rfl (fun _ => rfl) rfl (by simp only [List.length_append, List.length_replicate, List.length_cons, List.length_nil]; show _ * 1 ≤ _; omega), ?_⟩
  (conv => whnf)
  refine ⟨_, appL (f := byteD) (xs := nm ++ sp (16 - nm.length) ++ a1 ++ a2 ++ a3) (ys := a4) (zs := nm ++ sp (16 - nm.length) ++ a1 ++ a2 ++ a3 ++ a4) (by simp) rfl (fun _ => rfl) rfl (by simp only [List.length_append, List.length_replicate, List.length_cons, List.length_nil]; show _ * 1 ≤ _; omega), ?_⟩
  (conv => whnf)
  refine ⟨_, appL (f := byteD) (xs := nm ++ sp (16 - nm.length) ++ a1 ++ a2 ++ a3 ++ a4) (ys := a5) (zs := nm ++ sp (16 - nm.length) ++ a1 ++ a2 ++ a3 ++ a4 ++ a5) (by simp) rfl (fun _ => rfl) rfl (by simp only [List.length_append, List.length_replicate, List.length_cons, List.length_nil]; show _ * 1 ≤ _; omega), ?_⟩
  (conv => whnf)
  refine ⟨_, appL (f := byteD) (xs := nm ++ sp (16 - nm.length) ++ a1 ++ a2 ++ a3 ++ a4 ++ a5) (ys := [96, 10]) (zs := nm ++ sp (16 - nm.length) ++ a1 ++ a2 ++ a3 ++ a4 ++ a5 ++ [96, 10]) (by simp) rfl (fun _ => rfl) rfl (by simp only [List.length_append, List.length_replicate, List.length_cons, List.length_nil]; show _ * 1 ≤ _; omega), ?_⟩
  (conv => whnf)
  exact Wk.tuple (Wks.cons (Wk.nat' rfl) (Wks.cons (Wk.refl _) Wks.nil))
end Go.Proofs.YtfbmknghfhancaaGreatDoor.H

namespace Go.Proofs.YtfbmknghfhancaaGreatDoor
open Go Go.AL Go.AL.Bd Go.AL.Tb Go.AL.Sc
set_option maxRecDepth 100000
set_option maxHeartbeats 4000000
theorem fitsL_ (l : List Mem) (hm : ∀ m ∈ l, OkM m) : FCall Tryz.prog Gl 32 [LM l] [] (.tuple [vI (fitsR l 0).1, vI (fitsR l 0).2]) [] := by
  refine FCall.enterL hT hmix [] Tryz.func32 rfl rfl rfl fun hbd => ?_
  have ha := bds_list hbd (.head _)
  (conv => whnf)
  refine LWp.loop hT hmix [] (fun k : Nat => [(4, vI k)]) (fun _ => []) (fun k => k ≤ l.length ∧ fitsR l 0 = fitsR (l.drop k) k) (fun k => l.length - k) 0 ⟨Nat.zero_le _, rfl⟩ ?_
  (conv => whnf)
  refine ⟨?_, fun k ⟨hk, hkk⟩ => ?_⟩
  · (repeat' (first | exact trivial | exact Wk.refl _ | exact ObWk.refl _ | exact rfl | exact ⟨_, rfl⟩ | exact Nat.zero_lt_one | refine And.intro ?_ ?_ | unfold okTo | (unfold okO; conv => whnf) | (unfold okS; conv => whnf) | (unfold SlotOk; conv => whnf) | (unfold ObjOk; conv => whnf) | (unfold okCells; conv => whnf) | (unfold liveTo; conv => whnf) | exact Nat.zero_lt_succ _))
  · (conv => whnf)
    refine split_intro (fun h => ?_) (fun h => ?_)
    · have hlt : k < l.length := by have := of_decide_eq_true h; rw [List.length_map] at this; omega
      obtain ⟨m, hx⟩ := exI hlt
      have om := hm m (List.mem_of_getElem? hx)
      have hdr : l.drop k = m :: l.drop (k + 1) := by
        rw [List.drop_eq_getElem_cons hlt]
        rw [List.getElem?_eq_getElem hlt] at hx
        injection hx with hx
        rw [hx]
      rw [hdr] at hkk
      simp only [fitsR] at hkk
      have V := H.nvalid_ m.name (by have := om.n; omega)
      have E := H.encode_ ⟨[97], m.time, m.uid, m.gid, m.mode, m.data.length⟩ (by show 1 ≤ _; omega) om.t om.u om.g om.o (by have := om.d; show ((m.data.length : Nat) : Int) ≤ _; omega)
      (conv => whnf)
      refine ⟨_, ⟨by omega, getMap hx⟩, ?_⟩
      (conv => whnf)
      refine CallLeaf.wa (V) rfl ?_
      (conv => whnf)
      cases hv : Hd.validN m.name with
      | false =>
        have e : fitM m = 6 := by simp [fitM, hv]
        rw [e] at hkk
        rw [hkk]
        (conv => whnf)
        exact Wk.refl _
      | true =>
        have e : fitM m = if (Hd.encR ⟨[97], m.time, m.uid, m.gid, m.mode, m.data.length⟩).2 = 0 then 0 else 9 := by simp [fitM, hv]
        rw [e] at hkk
        revert E hkk
        generalize Hd.encR ⟨[97], m.time, m.uid, m.gid, m.mode, m.data.length⟩ = p
        obtain ⟨a, b⟩ := p
        intro hkk E
        rw [show ((m.data.length : Nat) : Int) = (((m.data.map byteD).length : Nat) : Int) by simp] at E
        simp only [] at hkk
        (conv => whnf)
        refine CallLeaf.wa (E) rfl ?_
        (conv => whnf)
        refine split_intro (fun hb => ?_) (fun hb => ?_)
        · have hb' : ¬ b = 0 := by simpa using hb
          simp only [if_neg hb'] at hkk
          rw [hkk]
          (conv => whnf)
          exact Wk.refl _
        · have hb' : b = 0 := by simpa using hb
          simp only [if_pos hb'] at hkk
          (conv => whnf)
          refine ⟨_, add64 (c := ((k + 1 : Nat) : Int)) (by (try simp only []); omega) (by omega), ?_⟩
          (conv => whnf)
          refine ⟨k + 1, ⟨⟨by omega, hkk⟩, by simp only []; omega⟩, ?_⟩
          (repeat' (first | exact trivial | exact Wk.refl _ | exact ObWk.refl _ | exact rfl | exact ⟨_, rfl⟩ | exact Nat.zero_lt_one | refine And.intro ?_ ?_ | unfold okTo | (unfold okO; conv => whnf) | (unfold okS; conv => whnf) | (unfold SlotOk; conv => whnf) | (unfold ObjOk; conv => whnf) | (unfold okCells; conv => whnf) | (unfold liveTo; conv => whnf) | exact Nat.zero_lt_succ _))
    · have hge : l.length ≤ k := by have := of_decide_eq_false h; rw [List.length_map] at this; omega
      rw [List.drop_of_length_le hge] at hkk
      rw [hkk]
      (conv => whnf)
      exact Wk.refl _
abbrev eDm (m : Mem) : List D := [.list .nat ((defsOf m.data).map eS)]
theorem defs_wk (l : List Mem) (t : Tg) : Wk (.list t (l.map eDm)) (LD (l.map fun m => defsOf m.data)) := by
  have := Wk.listE1 (f := fun m : Mem => D.list .nat ((defsOf m.data).map eS)) (g := fun m : Mem => LS (defsOf m.data)) t l (fun a => Wk.list _ _) (fun _ => rfl)
  rw [LD, List.map_map]
  exact this
theorem view_ (l : List Mem) (hm : ∀ m ∈ l, OkM m) : FCall Tryz.prog Gl 6 [LM l] [] (.tuple [.agg (viewR l).1.enc, vB (viewR l).2]) [] := by
  have F := fitsL_ l hm
  refine FCall.enterL hT hmix [] Tryz.func6 rfl rfl rfl fun hbd => ?_
  have ha := bds_list hbd (.head _)
  have e0 : ¬ (l.length ≤ 12 ∧ (fitsR l 0).2 = 0 ∧ l.all short = true) → viewR l = (⟨[], []⟩, false) := fun h => if_neg h
  have e1 : (l.length ≤ 12 ∧ (fitsR l 0).2 = 0 ∧ l.all short = true) → viewR l = (⟨l, l.map fun m => defsOf m.data⟩, true) := fun h => if_pos h
  revert F e0 e1
  generalize fitsR l 0 = p
  obtain ⟨a, b⟩ := p
  intro F e0 e1
  (conv => whnf)
  refine CallLeaf.wa (F) rfl ?_
  (conv => whnf)
  refine split_intro (fun h1 => ?_) (fun h1 => ?_)
  · have h1' : 12 < l.length := by have := of_decide_eq_true h1; rw [List.length_map] at this; omega
    rw [e0 (by omega)]
    (conv => whnf)
    exact Wk.tuple (Wks.cons (Wk.agg (Wks.cons Wk.nil (Wks.cons Wk.nil Wks.nil))) (Wks.cons (Wk.refl _) Wks.nil))
  · have h1' : l.length ≤ 12 := by have := of_decide_eq_false h1; rw [List.length_map] at this; omega
    (conv => whnf)
    refine split_intro (fun h2 => ?_) (fun h2 => ?_)
    · have h2' : ¬ b = 0 := by simpa using h2
      rw [e0 (fun h => h2' h.2.1)]
      (conv => whnf)
      exact Wk.tuple (Wks.cons (Wk.agg (Wks.cons Wk.nil (Wks.cons Wk.nil Wks.nil))) (Wks.cons (Wk.refl _) Wks.nil))
    · have h2' : b = 0 := by simpa using h2
      (conv => whnf)
      refine LWp.loop hT hmix [] (fun k : Nat => [(7, vI k)]) (fun k => [(2064, .cells [LM l, .list (.tok 403) ((l.take k).map eDm)]), (403, .tok ((l.take k).map eDm).length 1)]) (fun k => k ≤ l.length ∧ (l.take k).all short = true) (fun k => l.length - k) 0 ⟨Nat.zero_le _, by simp⟩ ?_
      (conv => whnf)
      refine ⟨?_, fun k ⟨hk, hkk⟩ => ?_⟩
      · (repeat' (first | exact trivial | exact Wk.refl _ | exact ObWk.refl _ | exact rfl | exact ⟨_, rfl⟩ | exact Nat.zero_lt_one | refine And.intro ?_ ?_ | unfold okTo | (unfold okO; conv => whnf) | (unfold okS; conv => whnf) | (unfold SlotOk; conv => whnf) | (unfold ObjOk; conv => whnf) | (unfold okCells; conv => whnf) | (unfold liveTo; conv => whnf) | exact Nat.zero_lt_succ _))
      · (conv => whnf)
        refine split_intro (fun h => ?_) (fun h => ?_)
        · have hlt : k < l.length := by have := of_decide_eq_true h; rw [List.length_map] at this; omega
          obtain ⟨m, hx⟩ := exI hlt
          have om := hm m (List.mem_of_getElem? hx)
          (conv => whnf)
          refine ⟨_, ⟨by omega, getMap hx⟩, ?_⟩
          (conv => whnf)
          refine split_intro (fun h3 => ?_) (fun h3 => ?_)
          · have h3' : short m = false := by have := of_decide_eq_true h3; rw [List.length_map] at this; simp only [short, decide_eq_false_iff_not]; omega
            rw [e0 (fun h => by have := List.all_eq_true.1 h.2.2 m (List.mem_of_getElem? hx); rw [h3'] at this; exact absurd this (by simp))]
            (conv => whnf)
            exact Wk.tuple (Wks.cons (Wk.agg (Wks.cons Wk.nil (Wks.cons Wk.nil Wks.nil))) (Wks.cons (Wk.refl _) Wks.nil))
          · have h3' : m.data.length ≤ 500 := by have := of_decide_eq_false h3; rw [List.length_map] at this; omega
            have hs : short m = true := decide_eq_true h3'
            have R := O.ordecode_ m.data (by omega)
            rw [dec_eq] at R
            have hde := @dec_err m.data
            have hdf : defsOf m.data = ((dec m.data).1.syms.filter isDef).map (·.name) := rfl
            have hds : (dec m.data).1.syms.length ≤ 100 := (dec_ok (b := m.data) (by omega)).n
            have hst : (l.take (k + 1)).map eDm = (l.take k).map eDm ++ [eDm m] := by rw [List.take_add_one, hx]; simp
            have hal : (l.take (k + 1)).all short = true := by rw [List.take_add_one, hx]; simp only [Option.toList_some, List.all_append, hkk, Bool.true_and, List.all_cons, List.all_nil, Bool.and_true]; exact hs
            revert R hde hdf hds
            generalize dec m.data = q
            obtain ⟨⟨sy, bo⟩, er⟩ := q
            intro R hde hdf hds
            replace hds : sy.length ≤ 100 := hds
            replace hde : ∀ {k : Nat}, k < sy.length → er = 0 := hde
            (conv => whnf)
            refine ⟨_, ⟨by omega, getMap hx⟩, ?_⟩
            (conv => whnf)
            refine CallLeaf.wa (R) rfl ?_
            (conv => whnf)
            refine LWp.loop hT hmix [] (fun i : Nat => [(11, vI i), (10, .list (.tok 411) ((((sy.take i).filter isDef).map (·.name)).map eS))]) (fun i => [(411, .tok ((((sy.take i).filter isDef).map (·.name)).map eS).length 1)]) (fun i => i ≤ sy.length) (fun i => sy.length - i) 0 (Nat.zero_le _) ?_
            (conv => whnf)
            refine ⟨?_, fun i hi => ?_⟩
            · (repeat' (first | exact trivial | exact Wk.refl _ | exact ObWk.refl _ | exact rfl | exact ⟨_, rfl⟩ | exact Nat.zero_lt_one | refine And.intro ?_ ?_ | unfold okTo | (unfold okO; conv => whnf) | (unfold okS; conv => whnf) | (unfold SlotOk; conv => whnf) | (unfold ObjOk; conv => whnf) | (unfold okCells; conv => whnf) | (unfold liveTo; conv => whnf) | exact Nat.zero_lt_succ _))
            · have hcut : ((sy.take i).filter isDef).length ≤ i := Nat.le_trans (List.length_filter_le _ _) (List.length_take_le _ _)
              (conv => whnf)
              refine split_intro (fun h4 => ?_) (fun h4 => ?_)
              · have hlt4 : i < sy.length := by have := of_decide_eq_true h4; rw [List.length_map] at this; exact Int.ofNat_lt.1 this
                obtain ⟨s, hsy⟩ := exI hlt4
                have her : er = 0 := hde hlt4
                have hstep := defs_step hsy
                have hzl : (((sy.take (i + 1)).filter isDef).map (·.name)).length ≤ i + 1 := by rw [List.length_map]; exact Nat.le_trans (List.length_filter_le _ _) (List.length_take_le _ _)
                subst her
                (conv => whnf)
                refine ⟨_, ⟨by omega, getMap hsy⟩, ?_⟩
                (conv => whnf)
                refine split_intro (fun h5 => ?_) (fun h5 => ?_)
                · have hD : isDef s = true := by have : s.bind = 1 := by simpa using h5
                                                 simp [isDef, this]
                  rw [if_pos hD] at hstep
                  (conv => whnf)
                  refine ⟨_, ⟨by omega, getMap hsy⟩, ?_⟩
                  (conv => whnf)
                  refine ⟨_, appL (f := eS) (xs := ((sy.take i).filter isDef).map (·.name)) (ys := [s.name]) (zs := ((sy.take (i + 1)).filter isDef).map (·.name)) rfl rfl (fun _ => rfl) hstep.symm (by show _ * 16 ≤ _; omega), ?_⟩
                  (conv => whnf)
                  refine ⟨_, add64 (c := ((i + 1 : Nat) : Int)) (by (try simp only []); omega) (by omega), ?_⟩
                  (conv => whnf)
                  refine ⟨i + 1, ⟨by omega, by simp only []; omega⟩, ?_⟩
                  (repeat' (first | exact trivial | exact Wk.refl _ | exact ObWk.refl _ | exact rfl | exact ⟨_, rfl⟩ | exact Nat.zero_lt_one | refine And.intro ?_ ?_ | unfold okTo | (unfold okO; conv => whnf) | (unfold okS; conv => whnf) | (unfold SlotOk; conv => whnf) | (unfold ObjOk; conv => whnf) | (unfold okCells; conv => whnf) | (unfold liveTo; conv => whnf) | exact Nat.zero_lt_succ _))
                · have hn1 : ¬ s.bind = 1 := by simpa using h5
                  (conv => whnf)
                  refine ⟨_, ⟨by omega, getMap hsy⟩, ?_⟩
                  (conv => whnf)
                  refine split_intro (fun h6 => ?_) (fun h6 => ?_)
                  · have hD : isDef s = true := by have : s.bind = 2 := by simpa using h6
                                                   simp [isDef, this]
                    rw [if_pos hD] at hstep
                    (conv => whnf)
                    refine ⟨_, ⟨by omega, getMap hsy⟩, ?_⟩
                    (conv => whnf)
                    refine ⟨_, appL (f := eS) (xs := ((sy.take i).filter isDef).map (·.name)) (ys := [s.name]) (zs := ((sy.take (i + 1)).filter isDef).map (·.name)) rfl rfl (fun _ => rfl) hstep.symm (by show _ * 16 ≤ _; omega), ?_⟩
                    (conv => whnf)
                    refine ⟨_, add64 (c := ((i + 1 : Nat) : Int)) (by (try simp only []); omega) (by omega), ?_⟩
                    (conv => whnf)
                    refine ⟨i + 1, ⟨by omega, by simp only []; omega⟩, ?_⟩
                    (repeat' (first | exact trivial | exact Wk.refl _ | exact ObWk.refl _ | exact rfl | exact ⟨_, rfl⟩ | exact Nat.zero_lt_one | refine And.intro ?_ ?_ | unfold okTo | (unfold okO; conv => whnf) | (unfold okS; conv => whnf) | (unfold SlotOk; conv => whnf) | (unfold ObjOk; conv => whnf) | (unfold okCells; conv => whnf) | (unfold liveTo; conv => whnf) | exact Nat.zero_lt_succ _))
                  · have hn2 : ¬ s.bind = 2 := by simpa using h6
                    have hD : ¬ isDef s = true := by simp [isDef, hn1, hn2]
                    rw [if_neg hD, List.append_nil] at hstep
                    (conv => whnf)
                    refine ⟨_, add64 (c := ((i + 1 : Nat) : Int)) (by (try simp only []); omega) (by omega), ?_⟩
                    (conv => whnf)
                    refine ⟨i + 1, ⟨by omega, by simp only []; omega⟩, ?_⟩
                    dsimp only
                    rw [hstep]
                    (repeat' (first | exact trivial | exact Wk.refl _ | exact ObWk.refl _ | exact rfl | exact ⟨_, rfl⟩ | exact Nat.zero_lt_one | refine And.intro ?_ ?_ | unfold okTo | (unfold okO; conv => whnf) | (unfold okS; conv => whnf) | (unfold SlotOk; conv => whnf) | (unfold ObjOk; conv => whnf) | (unfold okCells; conv => whnf) | (unfold liveTo; conv => whnf) | exact Nat.zero_lt_succ _))
              · have hge4 : sy.length ≤ i := by have := of_decide_eq_false h4; rw [List.length_map] at this; exact Nat.not_lt.1 fun h => this (Int.ofNat_lt.2 h)
                have htk : ((sy.take i).filter isDef).map (·.name) = defsOf m.data := by rw [List.take_of_length_le hge4, hdf]
                (conv => whnf)
                refine ⟨(l.take (k + 1)).map eDm, ⟨rfl, rfl, by rw [htk]; exact hst.symm, fun c hc => (by simp at hc; subst hc; rfl), by rw [List.length_map, List.length_take]; show _ * 24 ≤ _; omega⟩, ?_⟩
                (conv => whnf)
                refine ⟨_, add64 (c := ((k + 1 : Nat) : Int)) (by (try simp only []); omega) (by omega), ?_⟩
                (conv => whnf)
                refine ⟨k + 1, ⟨⟨by omega, hal⟩, by simp only []; omega⟩, ?_⟩
                (repeat' (first | exact trivial | exact Wk.refl _ | exact ObWk.refl _ | exact rfl | exact ⟨_, rfl⟩ | exact Nat.zero_lt_one | refine And.intro ?_ ?_ | unfold okTo | (unfold okO; conv => whnf) | (unfold okS; conv => whnf) | (unfold SlotOk; conv => whnf) | (unfold ObjOk; conv => whnf) | (unfold okCells; conv => whnf) | (unfold liveTo; conv => whnf) | exact Nat.zero_lt_succ _))
        · have hge : l.length ≤ k := by have := of_decide_eq_false h; rw [List.length_map] at this; omega
          rw [List.take_of_length_le hge] at hkk
          rw [e1 ⟨h1', h2', hkk⟩]
          (conv => whnf)
          refine Wk.tuple (Wks.cons (Wk.agg (Wks.cons (Wk.refl _) (Wks.cons ?_ Wks.nil))) (Wks.cons (Wk.refl _) Wks.nil))
          rw [List.take_of_length_le hge]
          exact defs_wk l _
end Go.Proofs.YtfbmknghfhancaaGreatDoor

namespace Go.Proofs.YtfbmknghfhancaaGreatDoor
open Go Go.AL Go.AL.Bd Go.AL.Tb Go.AL.Sc
set_option maxRecDepth 100000
set_option maxHeartbeats 4000000
theorem rloadable_ (l : List Ob.Obj) (ok : OkL l) (ds : List Str) : FCall Tryz.prog Gl 39 [LO l, LS ds] [] (fst1D (fst1 (wd (Us l)) ds)) [] := by
  refine FCall.enterL hT hmix [] Tryz.func39 rfl rfl rfl fun hbd => ?_
  have ha := bds_list hbd (.tail _ (.head _))
  (conv => whnf)
  refine LWp.loop hT hmix [] (fun k : Nat => [(6, vI k)]) (fun _ => []) (fun k => k ≤ ds.length ∧ ∀ x ∈ ds.take k, ¬ wd (Us l) x = true) (fun k => ds.length - k) 0 ⟨Nat.zero_le _, by simp⟩ ?_
  (conv => whnf)
  refine ⟨?_, fun k ⟨hk, hkk⟩ => ?_⟩
  · (repeat' (first | exact trivial | exact Wk.refl _ | exact ObWk.refl _ | exact rfl | exact ⟨_, rfl⟩ | exact Nat.zero_lt_one | refine And.intro ?_ ?_ | unfold okTo | (unfold okO; conv => whnf) | (unfold okS; conv => whnf) | (unfold SlotOk; conv => whnf) | (unfold ObjOk; conv => whnf) | (unfold okCells; conv => whnf) | (unfold liveTo; conv => whnf) | exact Nat.zero_lt_succ _))
  · (conv => whnf)
    refine split_intro (fun h => ?_) (fun h => ?_)
    · have hlt : k < ds.length := by have := of_decide_eq_true h; simp at this; omega
      obtain ⟨s, hs⟩ := exI hlt
      have hwd : wd (Us l) s = ((all (Sy.of (Us l) s)).sref && !(all (Sy.of (Us l) s)).defd) := rfl
      (conv => whnf)
      refine ⟨_, ⟨by omega, getMap hs⟩, ?_⟩
      (conv => whnf)
      refine CallLeaf.wa (rstate_ l s ok) rfl ?_
      (conv => whnf)
      refine split_intro (fun h1 => ?_) (fun h1 => ?_)
      · (conv => whnf)
        refine split_intro (fun h2 => ?_) (fun h2 => ?_)
        · have hp : wd (Us l) s = true := by rw [hwd]; simp only [h1, h2]; rfl
          rw [fst1_at hs hp hkk]
          (conv => whnf)
          refine ⟨_, ⟨by omega, getMap hs⟩, ?_⟩
          (conv => whnf)
          exact Wk.refl _
        · have hp : ¬ wd (Us l) s = true := by rw [hwd]; simp only [h1, h2]; simp
          (conv => whnf)
          refine ⟨_, add64 (c := ((k + 1 : Nat) : Int)) (by (try simp only []); omega) (by omega), ?_⟩
          (conv => whnf)
          refine ⟨k + 1, ⟨⟨by omega, step_not hs hp hkk⟩, by simp only []; omega⟩, ?_⟩
          (repeat' (first | exact trivial | exact Wk.refl _ | exact ObWk.refl _ | exact rfl | exact ⟨_, rfl⟩ | exact Nat.zero_lt_one | refine And.intro ?_ ?_ | unfold okTo | (unfold okO; conv => whnf) | (unfold okS; conv => whnf) | (unfold SlotOk; conv => whnf) | (unfold ObjOk; conv => whnf) | (unfold okCells; conv => whnf) | (unfold liveTo; conv => whnf) | exact Nat.zero_lt_succ _))
      · have hp : ¬ wd (Us l) s = true := by rw [hwd]; simp only [h1]; simp
        (conv => whnf)
        refine ⟨_, add64 (c := ((k + 1 : Nat) : Int)) (by (try simp only []); omega) (by omega), ?_⟩
        (conv => whnf)
        refine ⟨k + 1, ⟨⟨by omega, step_not hs hp hkk⟩, by simp only []; omega⟩, ?_⟩
        (repeat' (first | exact trivial | exact Wk.refl _ | exact ObWk.refl _ | exact rfl | exact ⟨_, rfl⟩ | exact Nat.zero_lt_one | refine And.intro ?_ ?_ | unfold okTo | (unfold okO; conv => whnf) | (unfold okS; conv => whnf) | (unfold SlotOk; conv => whnf) | (unfold ObjOk; conv => whnf) | (unfold okCells; conv => whnf) | (unfold liveTo; conv => whnf) | exact Nat.zero_lt_succ _))
    · have hge : ds.length ≤ k := by have := of_decide_eq_false h; simp at this; omega
      rw [List.take_of_length_le hge] at hkk
      rw [fst1_none hkk]
      (conv => whnf)
      exact Wk.refl _
theorem rload_ (us : List Unt) (os : List Ob.Obj) (u : Unt) (o : Ob.Obj) (hu : us.length ≤ 100000) (ho : os.length ≤ 100000) : FCall Tryz.prog Gl 16 [rS us os, .agg u.enc, oD2 o] [] (rSn (us ++ [u]) (os ++ [o])) [] := by
  refine FCall.enterL hT hmix [] Tryz.func16 rfl rfl rfl fun hbd => ?_
  (conv => whnf)
  refine ⟨_, appL (f := Unt.enc) (xs := []) (ys := us) (zs := us) rfl rfl (fun _ => rfl) rfl (by show _ * 40 ≤ _; omega), ?_⟩
  (conv => whnf)
  refine ⟨_, appL (f := Unt.enc) (xs := us) (ys := [u]) (zs := us ++ [u]) rfl rfl (fun _ => rfl) rfl (by rw [List.length_append]; show (_ + 1) * 40 ≤ _; omega), ?_⟩
  (conv => whnf)
  refine ⟨_, appL (f := Oe) (xs := []) (ys := os) (zs := os) rfl rfl (fun _ => rfl) rfl (by show _ * 48 ≤ _; omega), ?_⟩
  (conv => whnf)
  refine ⟨_, appL (f := Oe) (xs := os) (ys := [o]) (zs := os ++ [o]) rfl rfl (fun _ => rfl) rfl (by rw [List.length_append]; show (_ + 1) * 48 ≤ _; omega), ?_⟩
  (conv => whnf)
  exact Wk.agg (Wks.cons (Wk.list _ _) (Wks.cons (Wk.refl _) Wks.nil))
theorem loaded_ (us : List Unt) (os : List Ob.Obj) (f m : Str) (i : Nat) : FCall Tryz.prog Gl 40 [rS us os, sD f, sD m, vI i] [] (vB (loaded us f m i)) [] := by
  refine FCall.enterL hT hmix [] Tryz.func40 rfl rfl rfl fun hbd => ?_
  have ha : us.length ≤ 140737488355328 := by
    have := (hbd _ (.head _) (LUt us) (.head _)).1
    simpa using this
  (conv => whnf)
  refine LWp.loop hT hmix [] (fun k : Nat => [(9, vI k)]) (fun _ => []) (fun k => k ≤ us.length ∧ loaded (us.take k) f m i = false) (fun k => us.length - k) 0 ⟨Nat.zero_le _, rfl⟩ ?_
  (conv => whnf)
  refine ⟨?_, fun k ⟨hk, hkk⟩ => ?_⟩
  · (repeat' (first | exact trivial | exact Wk.refl _ | exact ObWk.refl _ | exact rfl | exact ⟨_, rfl⟩ | exact Nat.zero_lt_one | refine And.intro ?_ ?_ | unfold okTo | (unfold okO; conv => whnf) | (unfold okS; conv => whnf) | (unfold SlotOk; conv => whnf) | (unfold ObjOk; conv => whnf) | (unfold okCells; conv => whnf) | (unfold liveTo; conv => whnf) | exact Nat.zero_lt_succ _))
  · (conv => whnf)
    refine split_intro (fun h => ?_) (fun h => ?_)
    · have hlt : k < us.length := by have := of_decide_eq_true h; rw [List.length_map] at this; omega
      obtain ⟨u, hu⟩ := exI hlt
      have hn : ∀ p : Bool, (decide (u.file = f) && (decide (u.index = (i : Int)) && decide (u.member = m))) = false → loaded (us.take (k + 1)) f m i = false := fun _ h => any_snoc hu h hkk
      have hy : (decide (u.file = f) && (decide (u.index = (i : Int)) && decide (u.member = m))) = true → loaded us f m i = true := fun h => any_here hu h
      (conv => whnf)
      refine ⟨_, ⟨by omega, getMap hu⟩, ?_⟩
      (conv => whnf)
      refine split_intro (fun h1 => ?_) (fun h1 => ?_)
      · (conv => whnf)
        refine ⟨_, ⟨by omega, getMap hu⟩, ?_⟩
        (conv => whnf)
        refine split_intro (fun h2 => ?_) (fun h2 => ?_)
        · (conv => whnf)
          refine ⟨_, ⟨by omega, getMap hu⟩, ?_⟩
          (conv => whnf)
          refine split_intro (fun h3 => ?_) (fun h3 => ?_)
          · rw [hy (by have a1 : u.file = f := by simpa using h1
                       have a2 : u.index = (i : Int) := by simpa using h2
                       have a3 : u.member = m := by simpa using h3
                       simp [a1, a2, a3])]
            (conv => whnf)
            exact Wk.refl _
          · (conv => whnf)
            refine ⟨_, add64 (c := ((k + 1 : Nat) : Int)) (by (try simp only []); omega) (by omega), ?_⟩
            (conv => whnf)
            refine ⟨k + 1, ⟨⟨by omega, hn true (by have : ¬ u.member = m := by simpa using h3
                                                   simp [this])⟩, by simp only []; omega⟩, ?_⟩
            (repeat' (first | exact trivial | exact Wk.refl _ | exact ObWk.refl _ | exact rfl | exact ⟨_, rfl⟩ | exact Nat.zero_lt_one | refine And.intro ?_ ?_ | unfold okTo | (unfold okO; conv => whnf) | (unfold okS; conv => whnf) | (unfold SlotOk; conv => whnf) | (unfold ObjOk; conv => whnf) | (unfold okCells; conv => whnf) | (unfold liveTo; conv => whnf) | exact Nat.zero_lt_succ _))
        · (conv => whnf)
          refine ⟨_, add64 (c := ((k + 1 : Nat) : Int)) (by (try simp only []); omega) (by omega), ?_⟩
          (conv => whnf)
          refine ⟨k + 1, ⟨⟨by omega, hn true (by have : ¬ u.index = (i : Int) := by simpa using h2
                                                 simp [this])⟩, by simp only []; omega⟩, ?_⟩
          (repeat' (first | exact trivial | exact Wk.refl _ | exact ObWk.refl _ | exact rfl | exact ⟨_, rfl⟩ | exact Nat.zero_lt_one | refine And.intro ?_ ?_ | unfold okTo | (unfold okO; conv => whnf) | (unfold okS; conv => whnf) | (unfold SlotOk; conv => whnf) | (unfold ObjOk; conv => whnf) | (unfold okCells; conv => whnf) | (unfold liveTo; conv => whnf) | exact Nat.zero_lt_succ _))
      · (conv => whnf)
        refine ⟨_, add64 (c := ((k + 1 : Nat) : Int)) (by (try simp only []); omega) (by omega), ?_⟩
        (conv => whnf)
        refine ⟨k + 1, ⟨⟨by omega, hn true (by have : ¬ u.file = f := by simpa using h1
                                               simp [this])⟩, by simp only []; omega⟩, ?_⟩
        (repeat' (first | exact trivial | exact Wk.refl _ | exact ObWk.refl _ | exact rfl | exact ⟨_, rfl⟩ | exact Nat.zero_lt_one | refine And.intro ?_ ?_ | unfold okTo | (unfold okO; conv => whnf) | (unfold okS; conv => whnf) | (unfold SlotOk; conv => whnf) | (unfold ObjOk; conv => whnf) | (unfold okCells; conv => whnf) | (unfold liveTo; conv => whnf) | exact Nat.zero_lt_succ _))
    · have hge : us.length ≤ k := by have := of_decide_eq_false h; rw [List.length_map] at this; omega
      rw [List.take_of_length_le hge] at hkk
      rw [hkk]
      (conv => whnf)
      exact Wk.refl _
theorem rcan_ (S : Ls) (f : Str) (v : View) (i : Nat) (inv : Inv f v S) (hv : v.defs.length = v.members.length) (hi : i < v.members.length) (ok : OkL S.os) :
    FCall Tryz.prog Gl 14 [rS S.us S.os, sD f, .agg v.enc, vI i] [] (vB (can S f v i)) [] := by
  obtain ⟨d, hd⟩ := exI (show i < v.defs.length by omega)
  have hm := (memAt_mem hi).2
  have L := loaded_ S.us S.os f (memAt v i).name i
  rw [loaded_eq inv] at L
  have R := rloadable_ S.os ok d
  have hc : can S f v i = ((fst1 (wd (Us S.os)) d).isSome && !decide ((f, i) ∈ S.ld)) := by
    unfold can
    rw [decide_eq_true (show i < v.defs.length by omega), fst1_is]
    simp [List.getD, hd, Bool.and_comm]
  rw [hc]
  revert R L
  generalize fst1 (wd (Us S.os)) d = p
  generalize decide ((f, i) ∈ S.ld) = b
  intro L R
  refine FCall.enterL hT hmix [] Tryz.func14 rfl rfl rfl fun hbd => ?_
  (conv => whnf)
  refine ⟨_, ⟨by omega, getMap hd⟩, ?_⟩
  (conv => whnf)
  refine CallLeaf.wa (R) rfl ?_
  (conv => whnf)
  cases p with
  | none =>
    (conv => whnf)
    exact Wk.refl _
  | some s =>
    (conv => whnf)
    refine ⟨_, ⟨by omega, getMap hm⟩, ?_⟩
    (conv => whnf)
    refine CallLeaf.wa (L) rfl ?_
    (conv => whnf)
    exact Wk.bool (by simp)
theorem rcanL_ (S : Ls) (f : Str) (v : View) (inv : Inv f v S) (hv : OkV v) (ok : OkL S.os) :
    FCall Tryz.prog Gl 23 [rS S.us S.os, sD f, .agg v.enc] [] (LNn (canL S f v)) [] := by
  have hvn := hv.n
  refine FCall.enterL hT hmix [] Tryz.func23 rfl rfl rfl fun hbd => ?_
  (conv => whnf)
  refine LWp.loop hT hmix [] (fun k : Nat => [(8, vI k), (7, .list (.tok 403) ((canX S f v k).map eN))]) (fun k => [(403, .tok ((canX S f v k).map eN).length 1)]) (fun k => k ≤ v.members.length) (fun k => v.members.length - k) 0 (Nat.zero_le _) ?_
  (conv => whnf)
  refine ⟨?_, fun k hk => ?_⟩
  · (repeat' (first | exact trivial | exact Wk.refl _ | exact ObWk.refl _ | exact rfl | exact ⟨_, rfl⟩ | exact Nat.zero_lt_one | refine And.intro ?_ ?_ | unfold okTo | (unfold okO; conv => whnf) | (unfold okS; conv => whnf) | (unfold SlotOk; conv => whnf) | (unfold ObjOk; conv => whnf) | (unfold okCells; conv => whnf) | (unfold liveTo; conv => whnf) | exact Nat.zero_lt_succ _))
  · have hl := canX_len S f v (k + 1)
    have hst := canX_snoc S f v k
    (conv => whnf)
    refine split_intro (fun h => ?_) (fun h => ?_)
    · have hlt : k < v.members.length := by have := of_decide_eq_true h; rw [List.length_map] at this; omega
      (conv => whnf)
      refine CallLeaf.wa (rcan_ S f v k inv hv.d hlt ok) rfl ?_
      (conv => whnf)
      refine split_intro (fun hc => ?_) (fun hc => ?_)
      · rw [if_pos hc] at hst
        (conv => whnf)
        refine ⟨_, appL (f := eN) (xs := canX S f v k) (ys := [k]) (zs := canX S f v (k + 1)) rfl rfl (fun _ => rfl) hst.symm (by show _ * 8 ≤ _; omega), ?_⟩
        (conv => whnf)
        refine ⟨_, add64 (c := ((k + 1 : Nat) : Int)) (by (try simp only []); omega) (by omega), ?_⟩
        (conv => whnf)
        refine ⟨k + 1, ⟨by omega, by simp only []; omega⟩, ?_⟩
        (repeat' (first | exact trivial | exact Wk.refl _ | exact ObWk.refl _ | exact rfl | exact ⟨_, rfl⟩ | exact Nat.zero_lt_one | refine And.intro ?_ ?_ | unfold okTo | (unfold okO; conv => whnf) | (unfold okS; conv => whnf) | (unfold SlotOk; conv => whnf) | (unfold ObjOk; conv => whnf) | (unfold okCells; conv => whnf) | (unfold liveTo; conv => whnf) | exact Nat.zero_lt_succ _))
      · rw [if_neg (by rw [hc]; simp), List.append_nil] at hst
        (conv => whnf)
        refine ⟨_, add64 (c := ((k + 1 : Nat) : Int)) (by (try simp only []); omega) (by omega), ?_⟩
        (conv => whnf)
        refine ⟨k + 1, ⟨by omega, by simp only []; omega⟩, ?_⟩
        dsimp only
        rw [hst]
        (repeat' (first | exact trivial | exact Wk.refl _ | exact ObWk.refl _ | exact rfl | exact ⟨_, rfl⟩ | exact Nat.zero_lt_one | refine And.intro ?_ ?_ | unfold okTo | (unfold okO; conv => whnf) | (unfold okS; conv => whnf) | (unfold SlotOk; conv => whnf) | (unfold ObjOk; conv => whnf) | (unfold okCells; conv => whnf) | (unfold liveTo; conv => whnf) | exact Nat.zero_lt_succ _))
    · have hge : v.members.length ≤ k := by have := of_decide_eq_false h; rw [List.length_map] at this; omega
      obtain rfl : k = v.members.length := by omega
      (conv => whnf)
      exact Wk.list _ _
theorem rpass_ (S : Ls) (f : Str) (v : View) (w : Nat) (inv : Inv f v S) (hv : OkV v) (ok : OkS S w) (hw : w + v.members.length ≤ 300) (hf : f.length ≤ 1000) :
    FCall Tryz.prog Gl 21 [rS S.us S.os, sD f, .agg v.enc] [] (.tuple [rS (pass f v S).1.us (pass f v S).1.os, vI (pass f v S).2]) [] := by
  have hvn := hv.n
  refine FCall.enterL hT hmix [] Tryz.func21 rfl rfl rfl fun hbd => ?_
  (conv => whnf)
  refine LWp.loop hT hmix [] (fun x : Nat × Ls × Nat => [(9, vI x.1), (8, vI x.2.2)]) (fun x => [(0, .cells [LUt x.2.1.us, LO x.2.1.os])]) (fun x => x.1 ≤ v.members.length ∧ x.2 = passN f v x.1 S) (fun x => v.members.length - x.1) (0, S, 0) ⟨Nat.zero_le _, rfl⟩ ?_
  (conv => whnf)
  refine ⟨?_, fun ⟨k, S1, c⟩ ⟨hk, hS⟩ => ?_⟩
  · (repeat' (first | exact trivial | exact Wk.refl _ | exact ObWk.refl _ | exact rfl | exact ⟨_, rfl⟩ | exact Nat.zero_lt_one | refine And.intro ?_ ?_ | unfold okTo | (unfold okO; conv => whnf) | (unfold okS; conv => whnf) | (unfold SlotOk; conv => whnf) | (unfold ObjOk; conv => whnf) | (unfold okCells; conv => whnf) | (unfold liveTo; conv => whnf) | exact Nat.zero_lt_succ _))
  · replace hk : k ≤ v.members.length := hk
    replace hS : ((S1, c) : Ls × Nat) = passN f v k S := hS
    have okk : OkS S1 (w + k) := by
      have := ok.passN hv hf k hk
      rw [← hS] at this; exact this
    have ink : Inv f v S1 := by
      have := inv.passN k hk
      rw [← hS] at this; exact this
    have okl : OkL S1.os := okk.okL (by omega)
    have hus1 : S1.us.length = S1.os.length := okk.us
    have hoslen : S1.os.length ≤ w + k := okk.len
    have hc : c ≤ k := by have := (passN_len f v S k).2.2.2; rw [← hS] at this; exact this
    have st0 : can S1 f v k = false → ((S1, c) : Ls × Nat) = passN f v (k + 1) S := fun h => by simp only [passN]; rw [← hS]; simp [h]
    have st1 : can S1 f v k = true → (loadM S1 f v k, c + 1) = passN f v (k + 1) S := fun h => by simp only [passN]; rw [← hS]; simp [h]
    (conv => whnf)
    refine split_intro (fun h => ?_) (fun h => ?_)
    · have hlt : k < v.members.length := by have := of_decide_eq_true h; rw [List.length_map] at this; omega
      have hm := (memAt_mem hlt).2
      have hD := O.ordecode_ (memAt v k).data (by have := hv.b _ (memAt_mem hlt).1; omega)
      rw [dec_eq] at hD
      (conv => whnf)
      refine CallLeaf.wa (rcan_ S1 f v k ink hv.d hlt okl) rfl ?_
      (conv => whnf)
      refine split_intro (fun hcan => ?_) (fun hcan => ?_)
      · have hnx := st1 hcan
        (conv => whnf)
        refine ⟨_, ⟨by omega, getMap hm⟩, ?_⟩
        (conv => whnf)
        refine CallLeaf.wa (hD) rfl ?_
        (conv => whnf)
        refine ⟨_, ⟨by omega, getMap hm⟩, ?_⟩
        (conv => whnf)
        refine CallLeaf.wa (rload_ S1.us S1.os ⟨f, (memAt v k).name, (k : Int)⟩ (dec (memAt v k).data).1 (by omega) (by omega)) rfl ?_
        (conv => whnf)
        refine ⟨_, add64 (c := ((c + 1 : Nat) : Int)) (by (try simp only []); omega) (by omega), ?_⟩
        (conv => whnf)
        refine ⟨_, add64 (c := ((k + 1 : Nat) : Int)) (by (try simp only []); omega) (by omega), ?_⟩
        (conv => whnf)
        refine ⟨(k + 1, loadM S1 f v k, c + 1), ⟨⟨by show k + 1 ≤ _; omega, hnx⟩, by show v.members.length - (k + 1) < v.members.length - k; omega⟩, ?_⟩
        (repeat' (first | exact trivial | exact Wk.refl _ | exact ObWk.refl _ | exact rfl | exact ⟨_, rfl⟩ | exact Nat.zero_lt_one | refine And.intro ?_ ?_ | unfold okTo | (unfold okO; conv => whnf) | (unfold okS; conv => whnf) | (unfold SlotOk; conv => whnf) | (unfold ObjOk; conv => whnf) | (unfold okCells; conv => whnf) | (unfold liveTo; conv => whnf) | exact Nat.zero_lt_succ _))
        all_goals exact Wk.list _ _
      · have hnx := st0 hcan
        (conv => whnf)
        refine ⟨_, add64 (c := ((k + 1 : Nat) : Int)) (by (try simp only []); omega) (by omega), ?_⟩
        (conv => whnf)
        refine ⟨(k + 1, S1, c), ⟨⟨by show k + 1 ≤ _; omega, hnx⟩, by show v.members.length - (k + 1) < v.members.length - k; omega⟩, ?_⟩
        (repeat' (first | exact trivial | exact Wk.refl _ | exact ObWk.refl _ | exact rfl | exact ⟨_, rfl⟩ | exact Nat.zero_lt_one | refine And.intro ?_ ?_ | unfold okTo | (unfold okO; conv => whnf) | (unfold okS; conv => whnf) | (unfold SlotOk; conv => whnf) | (unfold ObjOk; conv => whnf) | (unfold okCells; conv => whnf) | (unfold liveTo; conv => whnf) | exact Nat.zero_lt_succ _))
    · have hge : v.members.length ≤ k := by have := of_decide_eq_false h; rw [List.length_map] at this; omega
      have e : pass f v S = (S1, c) := by
        obtain rfl : k = v.members.length := by omega
        exact hS.symm
      rw [e]
      (conv => whnf)
      exact Wk.refl _
theorem rarch_ (S : Ls) (f : Str) (v : View) (F w : Nat) (hF : lft f v S < F) (inv : Inv f v S) (hv : OkV v) (ok : OkS S w) (hw : w + 2 * v.members.length ≤ 300) (hf : f.length ≤ 1000) :
    FCall Tryz.prog Gl 24 [rS S.us S.os, sD f, .agg v.enc] [] (.tuple [rS (arch f v F S).1.us (arch f v F S).1.os, vI (arch f v F S).2]) [] := by
  have hvn := hv.n
  refine FCall.enterL hT hmix [] Tryz.func24 rfl rfl rfl fun hbd => ?_
  (conv => whnf)
  refine LWp.loop hT hmix [] (fun x : Nat × Ls => [(8, vI x.1)]) (fun x => [(0, .cells [LUt x.2.us, LO x.2.os])]) (fun x => AI f v F S w x.1 x.2 ∧ Inv f v x.2) (fun x => lft f v x.2) (0, S) ⟨AI.start hF ok, inv⟩ ?_
  (conv => whnf)
  refine ⟨?_, fun ⟨k, S1⟩ ⟨hI, ink⟩ => ?_⟩
  · (repeat' (first | exact trivial | exact Wk.refl _ | exact ObWk.refl _ | exact rfl | exact ⟨_, rfl⟩ | exact Nat.zero_lt_one | refine And.intro ?_ ?_ | unfold okTo | (unfold okO; conv => whnf) | (unfold okS; conv => whnf) | (unfold SlotOk; conv => whnf) | (unfold ObjOk; conv => whnf) | (unfold okCells; conv => whnf) | (unfold liveTo; conv => whnf) | exact Nat.zero_lt_succ _))
  · replace hI : AI f v F S w k S1 := hI
    replace ink : Inv f v S1 := ink
    have hk := hI.kle
    have hlast := hI.last
    have hnext := hI.next hv hf
    have A := rpass_ S1 f v (w + v.members.length) ink hv hI.ok (by omega) hf
    have inp := ink.pass
    revert A hlast hnext inp
    generalize pass f v S1 = p
    obtain ⟨S2, c⟩ := p
    intro hlast hnext A inp
    (conv => whnf)
    refine CallLeaf.wa (A) rfl ?_
    (conv => whnf)
    refine ⟨_, add64 (c := ((k + 1 : Nat) : Int)) (by (try simp only []); omega) (by omega), ?_⟩
    (conv => whnf)
    refine split_intro (fun h => ?_) (fun h => ?_)
    · rw [hlast (by simpa using h)]
      (conv => whnf)
      exact Wk.refl _
    · obtain ⟨h1, h2⟩ := hnext (by simpa using h)
      (conv => whnf)
      refine ⟨(k + 1, S2), ⟨⟨h1, inp⟩, h2⟩, ?_⟩
      (repeat' (first | exact trivial | exact Wk.refl _ | exact ObWk.refl _ | exact rfl | exact ⟨_, rfl⟩ | exact Nat.zero_lt_one | refine And.intro ?_ ?_ | unfold okTo | (unfold okO; conv => whnf) | (unfold okS; conv => whnf) | (unfold SlotOk; conv => whnf) | (unfold ObjOk; conv => whnf) | (unfold okCells; conv => whnf) | (unfold liveTo; conv => whnf) | exact Nat.zero_lt_succ _))
theorem plainU (u : Unt) : plainEq Tryz.prog 51 u.enc = true := by
  obtain ⟨a, b, c⟩ := u
  kernel_rfl
theorem sameU_ (a b : List Unt) : FCall Tryz.prog Gl 17 [LUt a, LUt b] [] (vB (decide (a = b))) [] := by
  refine FCall.enterL hT hmix [] Tryz.func17 rfl rfl rfl fun hbd => ?_
  have ha := bds_list hbd (.head _)
  (conv => whnf)
  refine split_intro (fun h => ?_) (fun h => ?_)
  · have h' := len_ne h
    simp at h'
    (conv => whnf)
    exact Wk.bool (by symm; simp; intro e; subst e; exact h' rfl)
  · have hab : a.length = b.length := by have := len_eq h; simpa using this
    (conv => whnf)
    refine LWp.loop hT hmix [] (fun k : Nat => [(5, vI k)]) (fun _ => []) (fun k => k ≤ a.length ∧ a.take k = b.take k) (fun k => a.length - k) 0 ⟨Nat.zero_le _, rfl⟩ ?_
    (conv => whnf)
    refine ⟨?_, fun k ⟨hk, hkk⟩ => ?_⟩
    · (repeat' (first | exact trivial | exact Wk.refl _ | exact ObWk.refl _ | exact rfl | exact ⟨_, rfl⟩ | exact Nat.zero_lt_one | refine And.intro ?_ ?_ | unfold okTo | (unfold okO; conv => whnf) | (unfold okS; conv => whnf) | (unfold SlotOk; conv => whnf) | (unfold ObjOk; conv => whnf) | (unfold okCells; conv => whnf) | (unfold liveTo; conv => whnf) | exact Nat.zero_lt_succ _))
    · (conv => whnf)
      refine split_intro (fun h => ?_) (fun h => ?_)
      · have hlt : k < a.length := by simpa using h
        obtain ⟨x, hx⟩ := exI hlt
        obtain ⟨y, hy⟩ := exI (hab ▸ hlt : k < b.length)
        (conv => whnf)
        refine ⟨_, ⟨by omega, getMap hx⟩, ?_⟩
        (conv => whnf)
        refine ⟨_, ⟨by omega, getMap hy⟩, ?_⟩
        (conv => whnf)
        refine ⟨plainU x, ?_⟩
        (conv => whnf)
        refine split_intro (fun hxy => ?_) (fun hxy => ?_)
        · have hne : decide (x = y) = false := by rw [← eqU]; exact not_t hxy
          (conv => whnf)
          exact Wk.bool (by
            symm; rw [decide_eq_false_iff_not]; intro e; subst e
            rw [hx] at hy; injection hy with hy; subst hy; simp at hne)
        · have he : x = y := of_decide_eq_true (by rw [← eqU]; exact not_f hxy)
          (conv => whnf)
          refine ⟨_, add64 (c := ((k + 1 : Nat) : Int)) (by (try simp only []); omega) (by omega), ?_⟩
          (conv => whnf)
          refine ⟨k + 1, ⟨⟨by omega, ?_⟩, by simp only []; omega⟩, ?_⟩
          · subst he
            rw [List.take_add_one, List.take_add_one, hx, hy, hkk]
          · (repeat' (first | exact trivial | exact Wk.refl _ | exact ObWk.refl _ | exact rfl | exact ⟨_, rfl⟩ | exact Nat.zero_lt_one | refine And.intro ?_ ?_ | unfold okTo | (unfold okO; conv => whnf) | (unfold okS; conv => whnf) | (unfold SlotOk; conv => whnf) | (unfold ObjOk; conv => whnf) | (unfold okCells; conv => whnf) | (unfold liveTo; conv => whnf) | exact Nat.zero_lt_succ _))
      · (conv => whnf)
        exact Wk.bool (by
          have hge : a.length ≤ k := by simpa using h
          symm; simp
          rwa [List.take_of_length_le hge, List.take_of_length_le (by omega)] at hkk)
end Go.Proofs.YtfbmknghfhancaaGreatDoor

namespace Go.Proofs.YtfbmknghfhancaaGreatDoor
open Go Go.AL Go.AL.Bd Go.AL.Tb Go.AL.Sc
set_option maxRecDepth 100000
set_option maxHeartbeats 4000000
def stF (S : Ls) (l : List AObj) : Prop := (S = ⟨[], [], []⟩ ∧ l = Zs) ∨ (S.ld = [] ∧ l = As S.us S.os.length (Sy.build (Us S.os))) ∨ (S.ld ≠ [] ∧ l = Bs S.us S.ld S.os.length (Sy.build (Us S.os)))
abbrev stB (S : Ls) : AObj := .bag (pk (stF S))
theorem stF_Z : stF ⟨[], [], []⟩ Zs := .inl ⟨rfl, rfl⟩
theorem stF_A (us : List Unt) (os : List Ob.Obj) : stF ⟨us, os, []⟩ (As us os.length (Sy.build (Us os))) := .inr (.inl ⟨rfl, rfl⟩)
theorem stF_B (us : List Unt) (os : List Ob.Obj) (p : Str × Nat) (r : List (Str × Nat)) : stF ⟨us, os, p :: r⟩ (Bs us (p :: r) os.length (Sy.build (Us os))) := .inr (.inr ⟨by simp, rfl⟩)
theorem stF_O (S : Ls) : stF S (stO S) := by
 obtain ⟨us, os, ld⟩ := S
 cases ld with
 | nil => exact stF_A us os
 | cons p r => exact stF_B us os p r
theorem stO_c (S : Ls) : ∃ cs, sto (stO S) 0 = .cells cs := by
 obtain ⟨us, os, ld⟩ := S
 cases ld <;> exact ⟨_, rfl⟩
theorem stO_l (S : Ls) : 0 < (stO S).length := by
 obtain ⟨us, os, ld⟩ := S
 cases ld <;> simp [stO]
theorem stO_r (S : Ls) : AllRen (ltO (stO S).length) (stO S) := by
 obtain ⟨us, os, ld⟩ := S
 cases ld with
 | nil => exact ⟨rfl, rfl, rfl, trivial⟩
 | cons p r => exact ⟨rfl, rfl, rfl, rfl, trivial⟩
theorem stB_zero : ObWk (.cells [.nil, mN, vI 0, mN]) (stB ⟨[], [], []⟩) := pk_one stF_Z rfl
theorem can_nil (f : Str) (v : View) (i : Nat) : can ⟨[], [], []⟩ f v i = false := by
 have : Us [] = [] := rfl
 simp [can, this, wd_nil]
theorem pass_nil (f : Str) (v : View) : pass f v ⟨[], [], []⟩ = (⟨[], [], []⟩, 0) := passN_none _ fun i _ => can_nil f v i
theorem arch_nil (f : Str) (v : View) (F : Nat) : arch f v (F + 1) ⟨[], [], []⟩ = (⟨[], [], []⟩, 1) := by simp [arch, pass_nil]
theorem canL_nil (f : Str) (v : View) : canL ⟨[], [], []⟩ f v = [] := by
 simp [canL, List.filter_eq_nil_iff, can_nil]
theorem stF_cases {S : Ls} {l : List AObj} (h : stF S l) {p : Ls → List AObj → Prop} (hz : p ⟨[], [], []⟩ Zs) (ha : ∀ us os, S = ⟨us, os, []⟩ → p ⟨us, os, []⟩ (As us os.length (Sy.build (Us os))))
  (hb : ∀ us os q r, S = ⟨us, os, q :: r⟩ → p ⟨us, os, q :: r⟩ (Bs us (q :: r) os.length (Sy.build (Us os)))) : p S l := by
 obtain ⟨us, os, ld⟩ := S
 rcases h with ⟨h1, rfl⟩ | ⟨h1, rfl⟩ | ⟨h1, rfl⟩
 ·rw [h1]; exact hz
 ·replace h1 : ld = [] := h1
  subst h1; exact ha us os rfl
 ·replace h1 : ld ≠ [] := h1
  cases ld with
  | nil => exact absurd rfl h1
  | cons q r => exact hb us os q r rfl
theorem passS_ (f : Str) (v : View) (S : Ls) (w : Nat) (hw : w + v.members.length ≤ 300) (ok : OkS S w) (hv : OkV v) (hf : f.length ≤ 1000) :
  FCall Tryz.prog Gl 20 [.ptr 0 0, sD f, vD v] [stB S] (vI (pass f v S).2) [stB (pass f v S).1] := by
 have hvn := hv.n
 refine FCall.pack (ex := []) ⟨_, Tryz.func20, by kernel_rfl, by kernel_rfl⟩ rfl (fun x hx => by simp at hx) (fun l hl => ?_)
 revert ok
 refine stF_cases (p := fun S l => OkS S w → ∃ l' d1, stF (pass f v S).1 l' ∧ (∃ cs, sto l' 0 = .cells cs) ∧ 0 < l'.length ∧ AllRen (ltO l'.length) l' ∧ FCall Tryz.prog Gl 20 [.ptr 0 0, sD f, vD v] l d1 (l' ++ []) ∧ D.ren (shD l'.length) d1 = some (vI (pass f v S).2)) hl (fun _ => ?_) (fun us os _ ok => ?_) (fun us os p r _ ok => ?_)
 ·rw [pass_nil]
  (refine ⟨Zs, vI ((0 : Nat) : Int), stF_Z, ⟨_, rfl⟩, by decide, ⟨rfl, trivial⟩, ?_, rfl⟩; show FCall _ _ _ _ _ _ Zs)
  exact passZ_ f v hf (by omega)
 ·(refine ⟨stO ((pass f v ⟨us, os, []⟩).1), vI (pass f v ⟨us, os, []⟩).2, stF_O _, stO_c _, stO_l _, stO_r _, ?_, rfl⟩; rw [List.append_nil])
  exact passA_ f v us os w hw ok hv hf
 ·(refine ⟨stO ((pass f v ⟨us, os, p :: r⟩).1), vI (pass f v ⟨us, os, p :: r⟩).2, stF_O _, stO_c _, stO_l _, stO_r _, ?_, rfl⟩; rw [List.append_nil])
  exact passB_ f v us os p r w hw ok hv hf
theorem archS_ (f : Str) (v : View) (S : Ls) (F w : Nat) (hF : lft f v S < F) (hw : w + 2 * v.members.length ≤ 300) (ok : OkS S w) (hv : OkV v) (hf : f.length ≤ 1000) :
  FCall Tryz.prog Gl 10 [.ptr 0 0, sD f, vD v] [stB S] (vI (arch f v F S).2) [stB (arch f v F S).1] := by
 have hvn := hv.n
 refine FCall.pack (ex := []) ⟨_, Tryz.func10, by kernel_rfl, by kernel_rfl⟩ rfl (fun x hx => by simp at hx) (fun l hl => ?_)
 revert ok hF
 refine stF_cases (p := fun S l => lft f v S < F → OkS S w → ∃ l' d1, stF (arch f v F S).1 l' ∧ (∃ cs, sto l' 0 = .cells cs) ∧ 0 < l'.length ∧ AllRen (ltO l'.length) l' ∧ FCall Tryz.prog Gl 10 [.ptr 0 0, sD f, vD v] l d1 (l' ++ []) ∧ D.ren (shD l'.length) d1 = some (vI (arch f v F S).2)) hl (fun hF _ => ?_) (fun us os _ hF ok => ?_) (fun us os p r _ hF ok => ?_)
 ·cases F with
  | zero => omega
  | succ F =>
   rw [arch_nil]
   (refine ⟨Zs, vI ((1 : Nat) : Int), stF_Z, ⟨_, rfl⟩, by decide, ⟨rfl, trivial⟩, ?_, rfl⟩; show FCall _ _ _ _ _ _ Zs)
   exact archZ_ f v hf (by omega)
 ·(refine ⟨stO ((arch f v F ⟨us, os, []⟩).1), vI (arch f v F ⟨us, os, []⟩).2, stF_O _, stO_c _, stO_l _, stO_r _, ?_, rfl⟩; rw [List.append_nil])
  exact archA_ f v us os F w hF hw ok hv hf
 ·(refine ⟨stO ((arch f v F ⟨us, os, p :: r⟩).1), vI (arch f v F ⟨us, os, p :: r⟩).2, stF_O _, stO_c _, stO_l _, stO_r _, ?_, rfl⟩; rw [List.append_nil])
  exact archB_ f v us os p r F w hF hw ok hv hf
theorem canS_ (f : Str) (v : View) (S : Ls) (w : Nat) (hw : w ≤ 400) (ok : OkS S w) (hf : f.length ≤ 1000) (hv : v.members.length ≤ 1000) :
  FCall Tryz.prog Gl 13 [.ptr 0 0, sD f, vD v] [stB S] (LNn (canL S f v)) [stB S] := by
 refine FCall.pack (ex := []) ⟨_, Tryz.func13, by kernel_rfl, by kernel_rfl⟩ rfl (fun x hx => by simp at hx) (fun l hl => ?_)
 revert ok
 refine stF_cases (p := fun S l => OkS S w → ∃ l' d1, stF S l' ∧ (∃ cs, sto l' 0 = .cells cs) ∧ 0 < l'.length ∧ AllRen (ltO l'.length) l' ∧ FCall Tryz.prog Gl 13 [.ptr 0 0, sD f, vD v] l d1 (l' ++ []) ∧ D.ren (shD l'.length) d1 = some (LNn (canL S f v))) hl (fun _ => ?_) (fun us os _ ok => ?_) (fun us os p r _ ok => ?_)
 ·rw [canL_nil]
  refine ⟨Zs, LNn [], stF_Z, ⟨_, rfl⟩, by decide, ⟨rfl, trivial⟩, ?_, rfl⟩
  show FCall _ _ _ _ _ _ Zs
  exact FCall.wk (LoadableZ_ f v hf hv) Wk.nil
 ·(refine ⟨As us os.length (Sy.build (Us os)), LNn (canL ⟨us, os, []⟩ f v), stF_A us os, ⟨_, rfl⟩, by simp, ⟨rfl, rfl, rfl, trivial⟩, ?_, rfl⟩; rw [List.append_nil])
  have hok := ok.okL hw
  exact LoadableA_ us os f v hf hv (by have := hok.us; exact Nat.le_trans this (by decide))
 ·(refine ⟨Bs us (p :: r) os.length (Sy.build (Us os)), LNn (canL ⟨us, os, p :: r⟩ f v), stF_B us os p r, ⟨_, rfl⟩, by simp, ⟨rfl, rfl, rfl, rfl, trivial⟩, ?_, rfl⟩; rw [List.append_nil])
  have hok := ok.okL hw
  exact LoadableB_ us os (p :: r) f v hf hv (by have := hok.us; exact Nat.le_trans this (by decide)) ok.ld
theorem objS_ (f : Str) (S : Ls) (o : Ob.Obj) (w : Nat) (hw : w ≤ 400) (ok : OkS S w) (ho : OkO o) :
  FCall Tryz.prog Gl 34 [.ptr 0 0, sD f, oD2 o] [stB S] (vI S.os.length) [stB (Sc.loadO S f o)] := by
 refine FCall.pack (ex := []) ⟨_, Tryz.func34, by kernel_rfl, by kernel_rfl⟩ rfl (fun x hx => by simp at hx) (fun l hl => ?_)
 revert ok
 refine stF_cases (p := fun S l => OkS S w → ∃ l' d1, stF (Sc.loadO S f o) l' ∧ (∃ cs, sto l' 0 = .cells cs) ∧ 0 < l'.length ∧ AllRen (ltO l'.length) l' ∧ FCall Tryz.prog Gl 34 [.ptr 0 0, sD f, oD2 o] l d1 (l' ++ []) ∧ D.ren (shD l'.length) d1 = some (vI S.os.length)) hl (fun _ => ?_) (fun us os _ ok => ?_) (fun us os p r _ ok => ?_)
 ·(refine ⟨stO (Sc.loadO ⟨[], [], []⟩ f o), vI ((0 : Nat) : Int), stF_O _, stO_c _, stO_l _, stO_r _, ?_, rfl⟩; rw [List.append_nil])
  exact objectZ_ f o ho
 ·(refine ⟨stO (Sc.loadO ⟨us, os, []⟩ f o), vI os.length, stF_O _, stO_c _, stO_l _, stO_r _, ?_, rfl⟩; rw [List.append_nil])
  have h1 := ok.len
  have h2 := ok.us
  have h := objectA_ us os f o (by have h1' : os.length ≤ w := h1; have h2' : us.length = os.length := h2; omega) (ok.okL hw) ho
  have e : (Sc.loadO ⟨us, os, []⟩ f o).os.length = os.length + 1 := by simp [Sc.loadO]
  show FCall _ _ _ _ _ _ (As _ (Sc.loadO ⟨us, os, []⟩ f o).os.length _)
  rw [e]
  exact h
 ·(refine ⟨stO (Sc.loadO ⟨us, os, p :: r⟩ f o), vI os.length, stF_O _, stO_c _, stO_l _, stO_r _, ?_, rfl⟩; rw [List.append_nil])
  have h1 := ok.len
  have h2 := ok.us
  have h := objectB_ us os (p :: r) f o (by have h1' : os.length ≤ w := h1; have h2' : us.length = os.length := h2; omega) (ok.okL hw) ho
  have e : (Sc.loadO ⟨us, os, p :: r⟩ f o).os.length = os.length + 1 := by simp [Sc.loadO]
  show FCall _ _ _ _ _ _ (Bs _ _ (Sc.loadO ⟨us, os, p :: r⟩ f o).os.length _)
  rw [e]
  exact h
theorem cloneU_ (us : List Unt) (hu : us.length ≤ 100000) : FCall Tryz.prog Gl 37 [LUt us] [] (.list .nat (us.map Unt.enc)) [] := by
 refine FCall.enterL hT hmix [] Tryz.func37 rfl rfl rfl fun hbd => ?_
 (conv => whnf)
 refine And.intro (fun he => ?_) (fun he => ?_)
 ·have hr0 : us = [] := by simpa using he
  subst hr0
  (conv => whnf)
  refine And.intro ?_ ?_
  ·(conv => whnf)
   exact Wk.natN rfl
  ·(conv => whnf)
   refine ⟨_, appL (f := Unt.enc) (xs := []) (ys := []) (zs := []) rfl rfl (fun _ => rfl) rfl (by decide), ?_⟩
   (conv => whnf)
   exact Wk.nat' rfl
 ·(conv => whnf)
  refine ⟨_, appL (f := Unt.enc) (xs := []) (ys := us) (zs := us) rfl rfl (fun _ => rfl) rfl (by show _ * 40 ≤ _; omega), ?_⟩
  (conv => whnf)
  exact Wk.nat' rfl
theorem cloneUN_ : FCall Tryz.prog Gl 37 [.nil] [] .nil [] := by
 refine FCall.enterL hT hmix [] Tryz.func37 rfl rfl rfl fun hbd => ?_
 (conv => whnf)
 exact Wk.refl _
theorem unitsN_ : FCall Tryz.prog Gl 12 [pN] [] .nil [] := by
 refine FCall.enterL hT hmix [] Tryz.func12 rfl rfl rfl fun hbd => ?_
 (conv => whnf)
 exact Wk.refl _
abbrev LUx (us : List Unt) : D := .list .nat (us.map Unt.enc)
theorem unitsZ_ : FCall Tryz.prog Gl 12 [.ptr 0 0] Zs (LUx []) Zs := by
 refine FCall.enterO hT hmix [] Tryz.func12 rfl rfl rfl fun hbd => ?_
 (conv => whnf)
 refine CallLeaf.wa (cloneUN_) rfl ?_
 (conv => whnf)
 refine ⟨[0], rfl, by (try unfold pullOk); (repeat' (first | exact trivial | exact ObWk.refl _ | refine And.intro ?_ ?_ | unfold pullOk)), ?_⟩
 exact Wk.natN rfl
theorem unitsA_ (us : List Unt) (n : Nat) (T : Sy.Tb) (hu : us.length ≤ 100000) : FCall Tryz.prog Gl 12 [.ptr 0 0] (As us n T) (LUx us) (As us n T) := by
 refine FCall.enterO hT hmix [] Tryz.func12 rfl rfl rfl fun hbd => ?_
 (conv => whnf)
 refine CallLeaf.wa (cloneU_ us hu) rfl ?_
 (conv => whnf)
 refine ⟨[0, 1, 2], rfl, by (try unfold pullOk); (repeat' (first | exact trivial | exact ObWk.refl _ | refine And.intro ?_ ?_ | unfold pullOk)), ?_⟩
 exact Wk.refl _
theorem unitsB_ (us : List Unt) (ld : List (Str × Nat)) (n : Nat) (T : Sy.Tb) (hu : us.length ≤ 100000) : FCall Tryz.prog Gl 12 [.ptr 0 0] (Bs us ld n T) (LUx us) (Bs us ld n T) := by
 refine FCall.enterO hT hmix [] Tryz.func12 rfl rfl rfl fun hbd => ?_
 (conv => whnf)
 refine CallLeaf.wa (cloneU_ us hu) rfl ?_
 (conv => whnf)
 refine ⟨[0, 1, 2, 3], rfl, by (try unfold pullOk); (repeat' (first | exact trivial | exact ObWk.refl _ | refine And.intro ?_ ?_ | unfold pullOk)), ?_⟩
 exact Wk.refl _
theorem unitsS_ (S : Ls) (hu : S.us.length ≤ 100000) : FCall Tryz.prog Gl 12 [.ptr 0 0] [stB S] (LUx S.us) [stB S] := by
 refine FCall.pack (ex := []) ⟨_, Tryz.func12, by kernel_rfl, by kernel_rfl⟩ rfl (fun x hx => by simp at hx) (fun l hl => ?_)
 revert hu
 refine stF_cases (p := fun S l => S.us.length ≤ 100000 → ∃ l' d1, stF S l' ∧ (∃ cs, sto l' 0 = .cells cs) ∧ 0 < l'.length ∧ AllRen (ltO l'.length) l' ∧ FCall Tryz.prog Gl 12 [.ptr 0 0] l d1 (l' ++ []) ∧ D.ren (shD l'.length) d1 = some (LUx S.us)) hl (fun _ => ?_) (fun us os _ ok => ?_) (fun us os p r _ ok => ?_)
 ·(refine ⟨Zs, LUx [], stF_Z, ⟨_, rfl⟩, by decide, ⟨rfl, trivial⟩, ?_, rfl⟩; show FCall _ _ _ _ _ _ Zs)
  exact unitsZ_
 ·(refine ⟨As us os.length (Sy.build (Us os)), LUx us, stF_A us os, ⟨_, rfl⟩, by simp, ⟨rfl, rfl, rfl, trivial⟩, ?_, rfl⟩; rw [List.append_nil])
  exact unitsA_ us _ _ ok
 ·(refine ⟨Bs us (p :: r) os.length (Sy.build (Us os)), LUx us, stF_B us os p r, ⟨_, rfl⟩, by simp, ⟨rfl, rfl, rfl, rfl, trivial⟩, ?_, rfl⟩; rw [List.append_nil])
  exact unitsB_ us (p :: r) _ _ ok
theorem tableN_ : FCall Tryz.prog Gl 25 [pN] [] pN [] := by
 refine FCall.enterL hT hmix [] Tryz.func25 rfl rfl rfl fun hbd => ?_
 (conv => whnf)
 exact Wk.refl _
theorem tableS_ (S : Ls) : FCall Tryz.prog Gl 25 [.ptr 0 0] [stB S] (.ptr 0 2) [stB S] := by
 refine FCall.pack (ex := []) ⟨_, Tryz.func25, by kernel_rfl, by kernel_rfl⟩ rfl (fun x hx => by simp at hx) (fun l hl => ?_)
 refine stF_cases (p := fun S l => ∃ l' d1, stF S l' ∧ (∃ cs, sto l' 0 = .cells cs) ∧ 0 < l'.length ∧ AllRen (ltO l'.length) l' ∧ FCall Tryz.prog Gl 25 [.ptr 0 0] l d1 (l' ++ []) ∧ D.ren (shD l'.length) d1 = some (.ptr 0 2)) hl ?_ (fun us os _ => ?_) (fun us os p r _ => ?_)
 ·refine ⟨Zs, .ptr 0 2, stF_Z, ⟨_, rfl⟩, by decide, ⟨rfl, trivial⟩, ?_, rfl⟩
  show FCall _ _ _ _ _ _ Zs
  refine FCall.enterO hT hmix [] Tryz.func25 rfl rfl rfl fun hbd => ?_
  (conv => whnf)
  refine ⟨[0], rfl, by (try unfold pullOk); (repeat' (first | exact trivial | exact ObWk.refl _ | refine And.intro ?_ ?_ | unfold pullOk)), ?_⟩
  exact Wk.refl _
 ·refine ⟨As us os.length (Sy.build (Us os)), .ptr 0 2, stF_A us os, ⟨_, rfl⟩, by simp, ⟨rfl, rfl, rfl, trivial⟩, ?_, rfl⟩
  rw [List.append_nil]
  refine FCall.enterO hT hmix [] Tryz.func25 rfl rfl rfl fun hbd => ?_
  (conv => whnf)
  refine ⟨[0, 1, 2], rfl, by (try unfold pullOk); (repeat' (first | exact trivial | exact ObWk.refl _ | refine And.intro ?_ ?_ | unfold pullOk)), ?_⟩
  exact Wk.refl _
 ·refine ⟨Bs us (p :: r) os.length (Sy.build (Us os)), .ptr 0 2, stF_B us os p r, ⟨_, rfl⟩, by simp, ⟨rfl, rfl, rfl, rfl, trivial⟩, ?_, rfl⟩
  rw [List.append_nil]
  refine FCall.enterO hT hmix [] Tryz.func25 rfl rfl rfl fun hbd => ?_
  (conv => whnf)
  refine ⟨[0, 1, 2, 3], rfl, by (try unfold pullOk); (repeat' (first | exact trivial | exact ObWk.refl _ | refine And.intro ?_ ?_ | unfold pullOk)), ?_⟩
  exact Wk.refl _
theorem okS_nm {S : Ls} {w : Nat} (ok : OkS S w) (hw : w ≤ 400) : (∀ u ∈ Us S.os, u.sym.name.length ≤ 1000000) ∧ (Us S.os).length ≤ 1000000 := by
 have h := ok.okL hw
 refine ⟨fun u hu => ?_, Nat.le_trans h.us (by decide)⟩
 obtain ⟨o, ho, s, hs, i, rfl⟩ := usesL_mem hu
 exact Nat.le_trans (h.nm o ho s hs) (by decide)
theorem wantedS_ (S : Ls) (w : Nat) (hw : w ≤ 400) (ok : OkS S w) : FCall Tryz.prog Gl 27 [.ptr 0 2] [stB S] (LSn (wantedL (Us S.os))) [stB S] := by
 refine FCall.pack (ex := []) ⟨_, Tryz.func27, by kernel_rfl, by kernel_rfl⟩ rfl (fun x hx => by simp at hx) (fun l hl => ?_)
 revert ok
 refine stF_cases (p := fun S l => OkS S w → ∃ l' d1, stF S l' ∧ (∃ cs, sto l' 0 = .cells cs) ∧ 0 < l'.length ∧ AllRen (ltO l'.length) l' ∧ FCall Tryz.prog Gl 27 [.ptr 0 2] l d1 (l' ++ []) ∧ D.ren (shD l'.length) d1 = some (LSn (wantedL (Us S.os)))) hl (fun _ => ?_) (fun us os _ ok => ?_) (fun us os p r _ ok => ?_)
 ·(refine ⟨Zs, LSn (wantedL (Us [])), stF_Z, ⟨_, rfl⟩, by decide, ⟨rfl, trivial⟩, ?_, rfl⟩; show FCall _ _ _ _ _ _ Zs)
  exact twantedZ_
 ·(refine ⟨As us os.length (Sy.build (Us os)), LSn (wantedL (Us os)), stF_A us os, ⟨_, rfl⟩, by simp, ⟨rfl, rfl, rfl, trivial⟩, ?_, rfl⟩; rw [List.append_nil])
  have h := okS_nm ok hw
  exact twantedA_ us (Us os) os.length h.1 h.2
 ·(refine ⟨Bs us (p :: r) os.length (Sy.build (Us os)), LSn (wantedL (Us os)), stF_B us os p r, ⟨_, rfl⟩, by simp, ⟨rfl, rfl, rfl, rfl, trivial⟩, ?_, rfl⟩; rw [List.append_nil])
  have h := okS_nm ok hw
  exact twantedB_ us (p :: r) (Us os) os.length h.1 h.2
theorem resS_ (S : Ls) (w : Nat) (hw : w ≤ 400) (ok : OkS S w) : FCall Tryz.prog Gl 30 [.ptr 0 2] [stB S] (LRn (resL (Us S.os))) [stB S] := by
 refine FCall.pack (ex := []) ⟨_, Tryz.func30, by kernel_rfl, by kernel_rfl⟩ rfl (fun x hx => by simp at hx) (fun l hl => ?_)
 revert ok
 refine stF_cases (p := fun S l => OkS S w → ∃ l' d1, stF S l' ∧ (∃ cs, sto l' 0 = .cells cs) ∧ 0 < l'.length ∧ AllRen (ltO l'.length) l' ∧ FCall Tryz.prog Gl 30 [.ptr 0 2] l d1 (l' ++ []) ∧ D.ren (shD l'.length) d1 = some (LRn (resL (Us S.os)))) hl (fun _ => ?_) (fun us os _ ok => ?_) (fun us os p r _ ok => ?_)
 ·(refine ⟨Zs, LRn (resL (Us [])), stF_Z, ⟨_, rfl⟩, by decide, ⟨rfl, trivial⟩, ?_, rfl⟩; show FCall _ _ _ _ _ _ Zs)
  exact tresZ_
 ·(refine ⟨As us os.length (Sy.build (Us os)), LRn (resL (Us os)), stF_A us os, ⟨_, rfl⟩, by simp, ⟨rfl, rfl, rfl, trivial⟩, ?_, rfl⟩; rw [List.append_nil])
  have h := okS_nm ok hw
  exact tresA_ us (Us os) os.length h.1 h.2
 ·(refine ⟨Bs us (p :: r) os.length (Sy.build (Us os)), LRn (resL (Us os)), stF_B us os p r, ⟨_, rfl⟩, by simp, ⟨rfl, rfl, rfl, rfl, trivial⟩, ?_, rfl⟩; rw [List.append_nil])
  have h := okS_nm ok hw
  exact tresB_ us (p :: r) (Us os) os.length h.1 h.2
end Go.Proofs.YtfbmknghfhancaaGreatDoor

namespace Go.Proofs.YtfbmknghfhancaaGreatDoor
open Go Go.AL Go.AL.Bd Go.AL.Tb Go.AL.Sc
set_option maxRecDepth 100000
set_option maxHeartbeats 4000000
abbrev SyL (l : List Ob.Sym) : D := .list .any (SE l)
theorem objectA_19_ (l : List Ob.Sym) (hx : (Ob.encO ⟨l, []⟩).length ≤ 1000000000) (hn : ∀ s ∈ l, s.name.length ≤ 1000000000) : FCall Tryz.prog Gl 33 [SyL l] [] (LB (O.encRO' ⟨l, []⟩).1) [] := by
 have E := O.orencode_ l [] hx hn
 refine FCall.enterL hT hmix [] Tryz.func33 rfl rfl rfl fun hbd => ?_
 (conv => whnf)
 refine CallLeaf.wa (E) rfl ?_
 (conv => whnf)
 exact Wk.list _ _
theorem forward_ (v : View) : FCall Tryz.prog Gl 11 [vD v] [] (vD v) [] := by
 refine FCall.enterL hT hmix [] Tryz.func11 rfl rfl rfl fun hbd => ?_
 (conv => whnf)
 exact Wk.refl _
theorem lload_ (l : List Ob.Obj) (hr : rightO l = true) : FCall Tryz.prog Gl 9 [.ptr 0 0, LO l] Zs (rS (ldO [111] l).us l) [stB (ldO [111] l)] := by
 have hlen := (rightO_iff.1 hr).1
 refine FCall.enterO hT hmix [] Tryz.func9 rfl rfl rfl fun hbd => ?_
 (conv => whnf)
 refine LWp.loop hT hmix [] (fun k : Nat => [(6, vI k)]) (fun k => [(0, stB (ldO [111] (l.take k))), (513, .cells [LUt (ldO [111] (l.take k)).us, LO (l.take k)])]) (fun k => k ≤ l.length) (fun k => l.length - k) 0 (Nat.zero_le _) ?_
 (conv => whnf)
 refine ⟨?_, fun k hk => ?_⟩
 ·(repeat' (first | exact trivial | exact Wk.refl _ | exact ObWk.refl _ | exact rfl | exact ⟨_, rfl⟩ | exact Nat.zero_lt_one | refine And.intro ?_ ?_ | unfold okTo | (unfold okO; conv => whnf) | (unfold okS; conv => whnf) | (unfold SlotOk; conv => whnf) | (unfold ObjOk; conv => whnf) | (unfold okCells; conv => whnf) | (unfold liveTo; conv => whnf) | exact Nat.zero_lt_succ _))
  ·exact stB_zero
  all_goals exact Wk.nil
 ·have hlk : (l.take k).length ≤ 12 := by rw [List.length_take]; omega
  have hus : (ldO [111] (l.take k)).us.length ≤ 12 := by simp only [ldO, List.length_map]; exact hlk
  (conv => whnf)
  refine split_intro (fun h => ?_) (fun h => ?_)
  ·have hlt : k < l.length := by have := of_decide_eq_true h; rw [List.length_map] at this; omega
   obtain ⟨o, ho⟩ := exI hlt
   have hO := objS_ [111] (ldO [111] (l.take k)) o 12 (by omega) (ldO_ok hr k) (right_okO hr o (List.mem_of_getElem? ho))
   rw [ldO_snoc ho] at hO
   have hL := rload_ (ldO [111] (l.take k)).us (l.take k) ⟨[111], [], 0⟩ o (by omega) (by omega)
   have e1 : (ldO [111] (l.take k)).us ++ [⟨[111], [], 0⟩] = (ldO [111] (l.take (k + 1))).us := by rw [← ldO_snoc ho]; rfl
   have e2 : l.take k ++ [o] = l.take (k + 1) := by rw [List.take_add_one, ho]; rfl
   rw [e1, e2] at hL
   (conv => whnf)
   refine ⟨_, ⟨by omega, getMap ho⟩, ?_⟩
   (conv => whnf)
   refine CallLeaf.oa [0] (hO) rfl rfl rfl rfl ?_
   (conv => whnf)
   refine ⟨_, ⟨by omega, getMap ho⟩, ?_⟩
   (conv => whnf)
   refine CallLeaf.wa (hL) rfl ?_
   (conv => whnf)
   refine ⟨_, add64 (c := ((k + 1 : Nat) : Int)) (by (try simp only []); omega) (by omega), ?_⟩
   (conv => whnf)
   refine ⟨k + 1, ⟨by omega, by simp only []; omega⟩, ?_⟩
   (repeat' (first | exact trivial | exact Wk.refl _ | exact ObWk.refl _ | exact rfl | exact ⟨_, rfl⟩ | exact Nat.zero_lt_one | refine And.intro ?_ ?_ | unfold okTo | (unfold okO; conv => whnf) | (unfold okS; conv => whnf) | (unfold SlotOk; conv => whnf) | (unfold ObjOk; conv => whnf) | (unfold okCells; conv => whnf) | (unfold liveTo; conv => whnf) | exact Nat.zero_lt_succ _))
   all_goals exact Wk.list _ _
  ·have hge : l.length ≤ k := by have := of_decide_eq_false h; rw [List.length_map] at this; omega
   (conv => whnf)
   refine ⟨[0], rfl, by (try unfold pullOk); (repeat' (first | exact trivial | exact ObWk.refl _ | exact ObWk.of_eq (by rw [List.take_of_length_le hge]) | refine And.intro ?_ ?_ | unfold pullOk)), ?_⟩
   exact Wk.of_eq (by rw [List.take_of_length_le hge]; rfl)
def oA : Ob.Obj := ⟨[⟨[103], 1, 0, 0⟩], []⟩
def oB : Ob.Obj := ⟨[⟨[102], 1, 0, 0⟩, ⟨[103], 4, 0, 0⟩], []⟩
def oM : Ob.Obj := ⟨[⟨[102], 4, 0, 0⟩], []⟩
def L2 : List Mem := [⟨[97], 0, 0, 0, 0, Ob.encO oA⟩, ⟨[98], 0, 0, 0, 0, Ob.encO oB⟩]
def v2 : View := ⟨L2, L2.map fun m => defsOf m.data⟩
def S1 : Ls := ⟨[⟨[109, 97, 105, 110, 46, 111], [], 0⟩], [oM], []⟩
theorem L2_ok : ∀ m ∈ L2, OkM m := by
 intro m hm
 have h : m = ⟨[97], 0, 0, 0, 0, Ob.encO oA⟩ ∨ m = ⟨[98], 0, 0, 0, 0, Ob.encO oB⟩ := by simpa [L2] using hm
 rcases h with rfl | rfl <;> exact ⟨by decide, by decide +kernel, by decide, by decide, by decide, by decide⟩
theorem L2_view : (viewR L2).2 = true := by decide +kernel
theorem v2_ok : OkV v2 := (viewR_ok L2_view).2.1
theorem OkO_of (o : Ob.Obj) (h : (decide (o.syms.length ≤ 100) && o.syms.all fun s => decide (s.name.length ≤ 300) && (decide (1 ≤ s.bind) && (decide (s.bind ≤ 5) && (decide (0 ≤ s.size) && decide (0 ≤ s.align))))) = true) : OkO o := by
 simp only [Bool.and_eq_true, List.all_eq_true, decide_eq_true_eq] at h
 exact ⟨h.1, fun s hs => (h.2 s hs).1, fun s hs => ⟨(h.2 s hs).2.1, (h.2 s hs).2.2.1, (h.2 s hs).2.2.2.1, (h.2 s hs).2.2.2.2⟩⟩
theorem S1_ok : OkS S1 1 := ⟨by decide, fun o ho => by simp [S1] at ho; subst ho; exact OkO_of _ (by decide), rfl, fun p hp => by simp [S1] at hp⟩
abbrev xa : Str := [120, 46, 97]
abbrev ya : Str := [121, 46, 97]
theorem awake_19_ : FCall Tryz.prog Gl 7 [] [] (vB true) [] := by
 have EA := objectA_19_ oA.syms (by decide +kernel) (by decide)
 have EB := objectA_19_ oB.syms (by decide +kernel) (by decide)
 rw [show (O.encRO' ⟨oA.syms, []⟩).1 = Ob.encO oA by decide +kernel] at EA
 rw [show (O.encRO' ⟨oB.syms, []⟩).1 = Ob.encO oB by decide +kernel] at EB
 have V := view_ L2 L2_ok
 rw [L2_view, (viewR_ok L2_view).1] at V
 have O0 := FCall.pre1 stB_zero (objS_ [109, 97, 105, 110, 46, 111] ⟨[], [], []⟩ oM 0 (by omega) ⟨by simp, fun o ho => by simp at ho, rfl, fun p hp => by simp at hp⟩ (OkO_of _ (by decide)))
 have C := canS_ xa v2 S1 1 (by omega) S1_ok (by decide) (by decide)
 rw [show canL S1 xa v2 = [1] by decide +kernel] at C
 have A := archS_ xa v2 S1 5 1 (by decide +kernel) (by decide) S1_ok v2_ok (by decide)
 have OK2 : OkS (arch xa v2 5 S1).1 10 := (OkS.arch v2_ok (by decide) 5 S1_ok).mono (by have := lft_le xa v2 S1; have : v2.members.length = 2 := rfl; omega)
 have U := unitsS_ (arch xa v2 5 S1).1 (by decide +kernel)
 have W := wantedS_ (arch xa v2 5 S1).1 10 (by omega) OK2
 rw [show wantedL (Us (arch xa v2 5 S1).1.os) = [] by decide +kernel] at W
 rw [show (arch xa v2 5 S1).2 = 3 by decide +kernel] at A
 rw [show (arch xa v2 5 S1).1.us = [⟨[109, 97, 105, 110, 46, 111], [], 0⟩, ⟨xa, [98], 1⟩, ⟨xa, [97], 0⟩] by decide +kernel] at U
 have T := tableS_ (arch xa v2 5 S1).1
 generalize (arch xa v2 5 S1).1 = S2 at *
 have SU := sameU_ [⟨[109, 97, 105, 110, 46, 111], [], 0⟩, ⟨xa, [98], 1⟩, ⟨xa, [97], 0⟩] [⟨[109, 97, 105, 110, 46, 111], [], 0⟩, ⟨xa, [98], 1⟩, ⟨xa, [97], 0⟩]
 have NU := numbers_ [1] [1]
 have F := forward_ v2
 have N1 := objectN_ [] ⟨[], []⟩
 have N2 := passN_ [] ⟨[], []⟩
 refine FCall.enterL hT hmix [] Tryz.func7 rfl rfl rfl fun hbd => ?_
 (conv => whnf)
 refine CallLeaf.wa (EA) rfl ?_
 (conv => whnf)
 refine CallLeaf.wa (EB) rfl ?_
 (conv => whnf)
 refine CallLeaf.wa (V) rfl ?_
 (conv => whnf)
 refine CallLeaf.oa [1024] (O0) rfl rfl rfl rfl ?_
 (conv => whnf)
 refine CallLeaf.wa (F) rfl ?_
 (conv => whnf)
 refine CallLeaf.oa [1024] (C) rfl rfl rfl rfl ?_
 (conv => whnf)
 refine CallLeaf.wa (F) rfl ?_
 (conv => whnf)
 refine CallLeaf.oa [1024] (A) rfl rfl rfl rfl ?_
 (conv => whnf)
 refine CallLeaf.wa (NU) rfl ?_
 (conv => whnf)
 refine CallLeaf.oa [1024] (U) rfl rfl rfl rfl ?_
 (conv => whnf)
 refine CallLeaf.wa (SU) rfl ?_
 (conv => whnf)
 refine CallLeaf.oa [1024] (T) rfl rfl rfl rfl ?_
 (conv => whnf)
 refine CallLeaf.oa [1024] (W) rfl rfl rfl rfl ?_
 (conv => whnf)
 refine CallLeaf.wa (N1) rfl ?_
 (conv => whnf)
 refine CallLeaf.wa (N2) rfl ?_
 (conv => whnf)
 refine CallLeaf.wa (tableN_) rfl ?_
 (conv => whnf)
 refine CallLeaf.wa (unitsN_) rfl ?_
 (conv => whnf)
 exact Wk.refl _
end Go.Proofs.YtfbmknghfhancaaGreatDoor
