/- Archives: the reference. No condition. -/
import Derived.Test.YtenbpnlmpjndgaaGreatDoorCAc
import Derived.Test.YtenbpnlmpjndgaaGreatDoorCWd
import Derived.Test.YtenbpnlmpjndgaaGreatDoorCPa
import Derived.Test.YtenbpnlmpjndgaaGreatDoorCWa
import Derived.Test.YtenbpnlmpjndgaaGreatDoorRows
import Derived.LaidMore
import Derived.Stop.Joined
import Derived.SevenTiedAt
import Derived.Lay
set_option linter.unusedVariables false
set_option linter.unusedSimpArgs false
namespace Go.Proofs.YtenbpnlmpjndgaaGreatDoor.H
open Go Go.AL Go.AL.Hd Go.AL.Ln Go.AL.Ar Go.AL.Sc
set_option maxRecDepth 100000
set_option maxHeartbeats 8000000
abbrev eArcM (a : Arc) : List D := [vB a.hm, LB a.map, .list .any (a.ms.map eMn), .list .any (a.os.map eO)]
theorem rparse4_ [Go.AL.MX] (b : Str) (hb : b.length ≤ 100000) : FCall Tryz.prog Gl 23 [LB b] [] (.tuple [.agg (eArcM (arcP b).1), vI (arcP b).2.1, vI (arcP b).2.2]) [] := by
 refine FCall.enterL hT hmix [] Tryz.func23 rfl rfl rfl fun hbd => ?_
 (conv => whnf)
 refine split_intro (fun h1 => ?_) (fun h1 => ?_)
 ·have h1' : b.length < 8 := by have := of_decide_eq_true h1; simp only [List.length_map] at this; omega
  have e : arcP b = (Arc0, 0, 2) := by unfold arcP; rw [if_pos h1']
  rw [e]
  (conv => whnf)
  exact Wk.tuple (Wks.cons (Wk.agg (Wks.cons (Wk.refl _) (Wks.cons (Wk.nil' rfl) (Wks.cons (Wk.nil' rfl) (Wks.cons (Wk.nil' rfl) Wks.nil))))) (Wks.cons (Wk.refl _) (Wks.cons (Wk.refl _) Wks.nil)))
 ·have h1' : ¬ b.length < 8 := by have := of_decide_eq_false h1; simp only [List.length_map] at this; omega
  (conv => whnf)
  refine CallLeaf.wa (ris_ b) rfl ?_
  (conv => whnf)
  cases his : isP b with
  | false =>
   have h2' : b.take 8 ≠ magic := by intro h; rw [isP, h] at his; simp at his; omega
   have e : arcP b = (Arc0, 0, 1) := by unfold arcP; rw [if_neg h1', if_pos h2']
   rw [e]
   (conv => whnf)
   exact Wk.tuple (Wks.cons (Wk.agg (Wks.cons (Wk.refl _) (Wks.cons (Wk.nil' rfl) (Wks.cons (Wk.nil' rfl) (Wks.cons (Wk.nil' rfl) Wks.nil))))) (Wks.cons (Wk.refl _) (Wks.cons (Wk.refl _) Wks.nil)))
  | true =>
   have h2' : b.take 8 = magic := by simp only [isP, Bool.and_eq_true, decide_eq_true_eq] at his; exact his.2
   (conv => whnf)
   refine LWp.loop hT hmix [] (fun x : PS × Nat => [(8, vI x.2), (7, vB x.1.ht), (6, LBn x.1.names)]) (fun x => [(2560, .cells [vB x.1.hm, LBn x.1.map, .list (.tok 301) (x.1.ms.map eMn), .list (.tok 302) (x.1.os.map eO)]), (301, .tok (x.1.ms.map eMn).length 6), (302, .tok (x.1.os.map eO).length 1)]) (At b) (fun x => b.length - x.2) (PS0, 8) (At.start (by omega)) ?_
   (conv => whnf)
   refine ⟨?_, fun ⟨s, k⟩ A => ?_⟩
   ·(repeat' (first | exact trivial | exact Wk.refl _ | exact ObWk.refl _ | exact rfl | exact ⟨_, rfl⟩ | exact Nat.zero_lt_one | refine And.intro ?_ ?_ | unfold okTo | (unfold okO; conv => whnf) | (unfold okS; conv => whnf) | (unfold SlotOk; conv => whnf) | (unfold ObjOk; conv => whnf) | (unfold okCells; conv => whnf) | (unfold liveTo; conv => whnf) | exact Nat.zero_lt_succ _))
    all_goals exact Wk.natN rfl
   ·have hlo : 8 ≤ k := A.lo
    have hhi : k ≤ b.length := A.hi
    (conv => whnf)
    refine split_intro (fun hk => ?_) (fun hk => ?_)
    ·have hk' : k < b.length := by have := of_decide_eq_true hk; simp only [List.length_map] at this; omega
     have hdl : (b.drop k).length = b.length - k := by simp
     (conv => whnf)
     refine ⟨(b.drop k).map byteD, slL (by show 0 ≤ (k : Int); omega) (by simp; omega) (by simp) (fun _ => rfl) (by simp), ?_⟩
     (conv => whnf)
     refine CallLeaf.wa (rhdecode_ (b.drop k)) rfl ?_
     (conv => whnf)
     by_cases hz : (decR (b.drop k)).2 = 0
     ·refine split_intro (fun h => absurd h (by simp [hz])) (fun _ => ?_)
      obtain ⟨hsz, hsl⟩ := dec_size hz
      obtain ⟨n, hn⟩ : ∃ n, n = szN (b.drop k) := ⟨_, rfl⟩
      rw [← hn] at hsz hsl
      (conv => whnf)
      refine ⟨_, add64 (c := ((k + 60 : Nat) : Int)) rfl (by omega), ?_⟩
      (conv => whnf)
      refine ⟨_, add64 (c := ((k + 60 + n : Nat) : Int)) (by rw [hsz]; omega) (by omega), ?_⟩
      (conv => whnf)
      have hn1 : ¬ (decR (b.drop k)).2 ≠ 0 := fun h => h hz
      by_cases h3 : b.length < k + 60 + n
      ·have hw : nextP (b.drop k) = (⟨hdr0, [], 2⟩, 0) := by unfold nextP; rw [if_neg hn1, ← hn, if_pos (by omega)]
       have e := A.bad hk' h1' h2' (by rw [hw]; decide)
       rw [e, hw]
       refine split_intro (fun _ => ?_) (fun h => absurd h (by simp; omega))
       (conv => whnf)
       exact Wk.tuple (Wks.cons (Wk.agg (Wks.cons (Wk.refl _) (Wks.cons (Wk.nil' rfl) (Wks.cons (Wk.nil' rfl) (Wks.cons (Wk.nil' rfl) Wks.nil))))) (Wks.cons (Wk.refl _) (Wks.cons (Wk.refl _) Wks.nil)))
      ·refine split_intro (fun h => absurd h (by simp; omega)) (fun _ => ?_)
       (conv => whnf)
       refine ⟨(prt b (k + 60) (k + 60 + n)).map byteD, slL (by omega) (by omega) (by simp; omega) (fun _ => rfl) (by show (b.take (k + 60 + n)).drop (k + 60) = _; rfl), ?_⟩
       (conv => whnf)
       refine ⟨_, appL (f := byteD) (xs := []) (ys := prt b (k + 60) (k + 60 + n)) (zs := prt b (k + 60) (k + 60 + n)) rfl rfl (fun _ => rfl) rfl (by show _ * 1 ≤ _; simp [prt]; omega), ?_⟩
       (conv => whnf)
       refine ⟨_, rem64 (c := ((n % 2 : Nat) : Int)) (by rw [hsz]; rfl) (by omega), ?_⟩
       (conv => whnf)
       by_cases h4 : n % 2 = 1
       ·refine split_intro (fun _ => ?_) (fun h => absurd h (by simp; omega))
        (conv => whnf)
        refine ⟨_, add64 (c := ((k + 60 + n + 1 : Nat) : Int)) rfl (by omega), ?_⟩
        (conv => whnf)
        by_cases h5 : b.length < k + 60 + n + 1
        ·have hw : nextP (b.drop k) = (⟨hdr0, [], 2⟩, 0) := by unfold nextP; rw [if_neg hn1, ← hn, if_pos (by omega)]
         have e := A.bad hk' h1' h2' (by rw [hw]; decide)
         rw [e, hw]
         refine split_intro (fun _ => ?_) (fun h => absurd h (by simp; omega))
         (conv => whnf)
         exact Wk.tuple (Wks.cons (Wk.agg (Wks.cons (Wk.refl _) (Wks.cons (Wk.nil' rfl) (Wks.cons (Wk.nil' rfl) (Wks.cons (Wk.nil' rfl) Wks.nil))))) (Wks.cons (Wk.refl _) (Wks.cons (Wk.refl _) Wks.nil)))
        ·refine split_intro (fun h => absurd h (by simp; omega)) (fun _ => ?_)
         obtain ⟨c, hc⟩ := exI (l := b) (k := k + 60 + n) (by omega)
         have hc' : (b.drop k)[60 + n]? = some c := by rw [List.getElem?_drop, ← Nat.add_assoc]; exact hc
         (conv => whnf)
         refine ⟨_, ⟨by omega, getMap hc⟩, ?_⟩
         (conv => whnf)
         refine split_intro (fun h6 => ?_) (fun h6 => ?_)
         ·have h6' : c ≠ 10 := O.u8_ne (y := 10) h6
          have hw : nextP (b.drop k) = (⟨hdr0, [], 5⟩, 0) := by unfold nextP; rw [if_neg hn1, ← hn, if_neg (by omega), if_pos ⟨by omega, by rw [hc']; simpa using h6'⟩]
          have e := A.bad hk' h1' h2' (by rw [hw]; decide)
          rw [e, hw]
          (conv => whnf)
          exact Wk.tuple (Wks.cons (Wk.agg (Wks.cons (Wk.refl _) (Wks.cons (Wk.nil' rfl) (Wks.cons (Wk.nil' rfl) (Wks.cons (Wk.nil' rfl) Wks.nil))))) (Wks.cons (Wk.refl _) (Wks.cons (Wk.refl _) Wks.nil)))
         ·obtain rfl : c = 10 := O.u8_eq (y := 10) h6
          have hN : nextP (b.drop k) = (⟨(decR (b.drop k)).1, prt (b.drop k) 60 (60 + n), 0⟩, 60 + n + 1) := by
           unfold nextP; rw [if_neg hn1, ← hn, if_neg (by omega), if_neg (fun h => h.2 hc'), h4]
          have hw : (nextP (b.drop k)).1.why = 0 := by rw [hN]
          have hdat : (prt b (k + 60) (k + 60 + n)).length = n := by simp [prt]; omega
          have hpd : prt (b.drop k) 60 (60 + n) = prt b (k + 60) (k + 60 + n) := by simp only [prt]; rw [List.take_drop, List.drop_drop, Nat.add_assoc]
          rw [hpd] at hN
          obtain ⟨⟨nm, dt, ui, gi, mo, si⟩, hhd⟩ : ∃ x, x = (decR (b.drop k)).1 := ⟨_, rfl⟩
          rw [← hhd] at hN ⊢
          have hnm := (part_bd (b := b.drop k)).2
          rw [hN] at hnm
          replace hnm : nm.length ≤ 16 := hnm
          have hstep := A.step hk' hw
          have hbad := fun {e : Int} => A.addbad hk' h1' h2' hw (e := e)
          rw [hN] at hstep hbad
          simp only [← Nat.add_assoc] at hstep hbad
          have hml := A.ms
          have hol := A.os
          have hen := A.ent
          have hnl := A.nml
          have hus := A.use
          replace hus : usedP s = decide (k ≠ 8) := hus
          simp only [] at hml hol hen hnl
          (conv => whnf)
          by_cases hA : nm = [47]
          ·subst hA
           (conv => whnf)
           by_cases h8 : k = 8
           ·subst h8
            have ha : addP s 8 ⟨⟨[47], dt, ui, gi, mo, si⟩, prt b (8 + 60) (8 + 60 + n), 0⟩ = (⟨true, prt b (8 + 60) (8 + 60 + n), s.ms, s.os, s.names, s.ht⟩, 0) := by
             unfold addP; rw [if_pos rfl, if_neg (by show ¬ usedP s = true; rw [hus]; simp)]
            rw [ha] at hstep
            (conv => whnf)
            refine ⟨_, ⟨hstep rfl, by show b.length - _ < b.length - _; simp only []; omega⟩, ?_⟩
            (repeat' (first | exact trivial | exact Wk.refl _ | exact ObWk.refl _ | exact rfl | exact ⟨_, rfl⟩ | exact Nat.zero_lt_one | refine And.intro ?_ ?_ | unfold okTo | (unfold okO; conv => whnf) | (unfold okS; conv => whnf) | (unfold SlotOk; conv => whnf) | (unfold ObjOk; conv => whnf) | (unfold okCells; conv => whnf) | (unfold liveTo; conv => whnf) | exact Nat.zero_lt_succ _))
           ·have ha : addP s k ⟨⟨[47], dt, ui, gi, mo, si⟩, prt b (k + 60) (k + 60 + n), 0⟩ = (s, 8) := by
             unfold addP; rw [if_pos rfl, if_pos (by show usedP s = true; rw [hus]; simp [h8])]
            rw [ha] at hbad
            rw [hbad rfl (by show (8 : Int) ≠ 0; decide)]
            (conv => whnf)
            refine split_intro (fun _ => ?_) (fun h => absurd h (by simp; omega))
            (conv => whnf)
            exact Wk.tuple (Wks.cons (Wk.agg (Wks.cons (Wk.refl _) (Wks.cons (Wk.nil' rfl) (Wks.cons (Wk.nil' rfl) (Wks.cons (Wk.nil' rfl) Wks.nil))))) (Wks.cons (Wk.refl _) (Wks.cons (Wk.refl _) Wks.nil)))
          ·refine split_intro (fun h => absurd h (by simpa [sB] using hA)) (fun _ => ?_)
           (conv => whnf)
           by_cases hB : nm = [47, 47]
           ·subst hB
            (conv => whnf)
            refine CallLeaf.wa (rentries_ (prt b (k + 60) (k + 60 + n)) (by omega)) rfl ?_
            (conv => whnf)
            by_cases hC : (entR (prt b (k + 60) (k + 60 + n))).2 = 0
            ·refine split_intro (fun h => absurd h (by simpa using hC)) (fun _ => ?_)
             (conv => whnf)
             cases hht : s.ht with
             | true =>
              have ha : addP s k ⟨⟨[47, 47], dt, ui, gi, mo, si⟩, prt b (k + 60) (k + 60 + n), 0⟩ = (s, 7) := by
               unfold addP; rw [if_neg (by simp), if_pos rfl, if_pos (.inr (by simp [PS.first, hht]))]
              rw [ha] at hbad
              rw [hbad rfl (by show (7 : Int) ≠ 0; decide)]
              (conv => whnf)
              exact Wk.tuple (Wks.cons (Wk.agg (Wks.cons (Wk.refl _) (Wks.cons (Wk.nil' rfl) (Wks.cons (Wk.nil' rfl) (Wks.cons (Wk.nil' rfl) Wks.nil))))) (Wks.cons (Wk.refl _) (Wks.cons (Wk.refl _) Wks.nil)))
             | false =>
              (conv => whnf)
              by_cases hM : s.ms.length = 0
              ·have ha : addP s k ⟨⟨[47, 47], dt, ui, gi, mo, si⟩, prt b (k + 60) (k + 60 + n), 0⟩ = (⟨s.hm, s.map, s.ms, s.os, prt b (k + 60) (k + 60 + n), true⟩, 0) := by
                unfold addP; rw [if_neg (by simp), if_pos rfl, if_neg (by rintro (h | h); exact h hC; simp [PS.first, hht, hM] at h)]
               rw [ha] at hstep
               refine split_intro (fun h => absurd h (by simp [hM])) (fun _ => ?_)
               (conv => whnf)
               refine ⟨_, ⟨hstep rfl, by show b.length - _ < b.length - _; simp only []; omega⟩, ?_⟩
               (repeat' (first | exact trivial | exact Wk.refl _ | exact ObWk.refl _ | exact rfl | exact ⟨_, rfl⟩ | exact Nat.zero_lt_one | refine And.intro ?_ ?_ | unfold okTo | (unfold okO; conv => whnf) | (unfold okS; conv => whnf) | (unfold SlotOk; conv => whnf) | (unfold ObjOk; conv => whnf) | (unfold okCells; conv => whnf) | (unfold liveTo; conv => whnf) | exact Nat.zero_lt_succ _))
              ·have ha : addP s k ⟨⟨[47, 47], dt, ui, gi, mo, si⟩, prt b (k + 60) (k + 60 + n), 0⟩ = (s, 7) := by
                unfold addP; rw [if_neg (by simp), if_pos rfl, if_pos (.inr (by simp [PS.first]; intro h; exact absurd (by simp [h]) hM))]
               rw [ha] at hbad
               rw [hbad rfl (by show (7 : Int) ≠ 0; decide)]
               refine split_intro (fun _ => ?_) (fun h => absurd h (by simp; intro h; exact hM (by rw [h]; rfl)))
               (conv => whnf)
               exact Wk.tuple (Wks.cons (Wk.agg (Wks.cons (Wk.refl _) (Wks.cons (Wk.nil' rfl) (Wks.cons (Wk.nil' rfl) (Wks.cons (Wk.nil' rfl) Wks.nil))))) (Wks.cons (Wk.refl _) (Wks.cons (Wk.refl _) Wks.nil)))
            ·have ha : addP s k ⟨⟨[47, 47], dt, ui, gi, mo, si⟩, prt b (k + 60) (k + 60 + n), 0⟩ = (s, 7) := by
              unfold addP; rw [if_neg (by simp), if_pos rfl, if_pos (.inl hC)]
             rw [ha] at hbad
             rw [hbad rfl (by show (7 : Int) ≠ 0; decide)]
             refine split_intro (fun _ => ?_) (fun h => absurd h (by simpa using hC))
             (conv => whnf)
             exact Wk.tuple (Wks.cons (Wk.agg (Wks.cons (Wk.refl _) (Wks.cons (Wk.nil' rfl) (Wks.cons (Wk.nil' rfl) (Wks.cons (Wk.nil' rfl) Wks.nil))))) (Wks.cons (Wk.refl _) (Wks.cons (Wk.refl _) Wks.nil)))
           ·refine split_intro (fun h => absurd h (by simpa [sB] using hB)) (fun _ => ?_)
            (conv => whnf)
            refine CallLeaf.wa (rresolve_ nm s.names (by omega) (by omega)) rfl ?_
            (conv => whnf)
            rw [← res_eq nm hen]
            by_cases hC : (resP nm s.names).2 = 0
            ·have ha : addP s k ⟨⟨nm, dt, ui, gi, mo, si⟩, prt b (k + 60) (k + 60 + n), 0⟩ = (⟨s.hm, s.map, s.ms ++ [⟨(resP nm s.names).1, dt, ui, gi, mo, prt b (k + 60) (k + 60 + n)⟩], s.os ++ [k], s.names, s.ht⟩, 0) := by
              unfold addP; rw [if_neg hA, if_neg hB, if_neg (fun h => h hC)]
             rw [ha] at hstep
             refine split_intro (fun h => absurd h (by simpa using hC)) (fun _ => ?_)
             (conv => whnf)
             refine ⟨_, appL (f := eMn) (xs := s.ms) (ys := [⟨(resP nm s.names).1, dt, ui, gi, mo, prt b (k + 60) (k + 60 + n)⟩]) (zs := s.ms ++ [⟨(resP nm s.names).1, dt, ui, gi, mo, prt b (k + 60) (k + 60 + n)⟩]) rfl rfl (fun _ => rfl) rfl (by show _ * 72 ≤ _; simp; omega), ?_⟩
             (conv => whnf)
             refine ⟨_, appL (f := eO) (xs := s.os) (ys := [k]) (zs := s.os ++ [k]) rfl rfl (fun _ => rfl) rfl (by show _ * 8 ≤ _; simp; omega), ?_⟩
             (conv => whnf)
             refine ⟨_, ⟨hstep rfl, by show b.length - _ < b.length - _; simp only []; omega⟩, ?_⟩
             (repeat' (first | exact trivial | exact Wk.refl _ | exact ObWk.refl _ | exact rfl | exact ⟨_, rfl⟩ | exact Nat.zero_lt_one | refine And.intro ?_ ?_ | unfold okTo | (unfold okO; conv => whnf) | (unfold okS; conv => whnf) | (unfold SlotOk; conv => whnf) | (unfold ObjOk; conv => whnf) | (unfold okCells; conv => whnf) | (unfold liveTo; conv => whnf) | exact Nat.zero_lt_succ _))
            ·have ha : addP s k ⟨⟨nm, dt, ui, gi, mo, si⟩, prt b (k + 60) (k + 60 + n), 0⟩ = (s, (resP nm s.names).2) := by
              unfold addP; rw [if_neg hA, if_neg hB, if_pos hC]
             rw [ha] at hbad
             rw [hbad rfl hC]
             refine split_intro (fun _ => ?_) (fun h => absurd h (by simpa using hC))
             (conv => whnf)
             exact Wk.tuple (Wks.cons (Wk.agg (Wks.cons (Wk.refl _) (Wks.cons (Wk.nil' rfl) (Wks.cons (Wk.nil' rfl) (Wks.cons (Wk.nil' rfl) Wks.nil))))) (Wks.cons (Wk.refl _) (Wks.cons (Wk.refl _) Wks.nil)))
       ·refine split_intro (fun h => absurd h (by simp; omega)) (fun _ => ?_)
        have hN : nextP (b.drop k) = (⟨(decR (b.drop k)).1, prt (b.drop k) 60 (60 + n), 0⟩, 60 + n) := by
         unfold nextP; rw [if_neg hn1, ← hn, if_neg (by omega), if_neg (fun h => h.1 (by omega)), show n % 2 = 0 by omega]; rfl
        have hw : (nextP (b.drop k)).1.why = 0 := by rw [hN]
        have hdat : (prt b (k + 60) (k + 60 + n)).length = n := by simp [prt]; omega
        have hpd : prt (b.drop k) 60 (60 + n) = prt b (k + 60) (k + 60 + n) := by simp only [prt]; rw [List.take_drop, List.drop_drop, Nat.add_assoc]
        rw [hpd] at hN
        obtain ⟨⟨nm, dt, ui, gi, mo, si⟩, hhd⟩ : ∃ x, x = (decR (b.drop k)).1 := ⟨_, rfl⟩
        rw [← hhd] at hN ⊢
        have hnm := (part_bd (b := b.drop k)).2
        rw [hN] at hnm
        replace hnm : nm.length ≤ 16 := hnm
        have hstep := A.step hk' hw
        have hbad := fun {e : Int} => A.addbad hk' h1' h2' hw (e := e)
        rw [hN] at hstep hbad
        simp only [← Nat.add_assoc] at hstep hbad
        have hml := A.ms
        have hol := A.os
        have hen := A.ent
        have hnl := A.nml
        have hus := A.use
        replace hus : usedP s = decide (k ≠ 8) := hus
        simp only [] at hml hol hen hnl
        (conv => whnf)
        by_cases hA : nm = [47]
        ·subst hA
         (conv => whnf)
         by_cases h8 : k = 8
         ·subst h8
          have ha : addP s 8 ⟨⟨[47], dt, ui, gi, mo, si⟩, prt b (8 + 60) (8 + 60 + n), 0⟩ = (⟨true, prt b (8 + 60) (8 + 60 + n), s.ms, s.os, s.names, s.ht⟩, 0) := by
           unfold addP; rw [if_pos rfl, if_neg (by show ¬ usedP s = true; rw [hus]; simp)]
          rw [ha] at hstep
          (conv => whnf)
          refine ⟨_, ⟨hstep rfl, by show b.length - _ < b.length - _; simp only []; omega⟩, ?_⟩
          (repeat' (first | exact trivial | exact Wk.refl _ | exact ObWk.refl _ | exact rfl | exact ⟨_, rfl⟩ | exact Nat.zero_lt_one | refine And.intro ?_ ?_ | unfold okTo | (unfold okO; conv => whnf) | (unfold okS; conv => whnf) | (unfold SlotOk; conv => whnf) | (unfold ObjOk; conv => whnf) | (unfold okCells; conv => whnf) | (unfold liveTo; conv => whnf) | exact Nat.zero_lt_succ _))
         ·have ha : addP s k ⟨⟨[47], dt, ui, gi, mo, si⟩, prt b (k + 60) (k + 60 + n), 0⟩ = (s, 8) := by
           unfold addP; rw [if_pos rfl, if_pos (by show usedP s = true; rw [hus]; simp [h8])]
          rw [ha] at hbad
          rw [hbad rfl (by show (8 : Int) ≠ 0; decide)]
          (conv => whnf)
          refine split_intro (fun _ => ?_) (fun h => absurd h (by simp; omega))
          (conv => whnf)
          exact Wk.tuple (Wks.cons (Wk.agg (Wks.cons (Wk.refl _) (Wks.cons (Wk.nil' rfl) (Wks.cons (Wk.nil' rfl) (Wks.cons (Wk.nil' rfl) Wks.nil))))) (Wks.cons (Wk.refl _) (Wks.cons (Wk.refl _) Wks.nil)))
        ·refine split_intro (fun h => absurd h (by simpa [sB] using hA)) (fun _ => ?_)
         (conv => whnf)
         by_cases hB : nm = [47, 47]
         ·subst hB
          (conv => whnf)
          refine CallLeaf.wa (rentries_ (prt b (k + 60) (k + 60 + n)) (by omega)) rfl ?_
          (conv => whnf)
          by_cases hC : (entR (prt b (k + 60) (k + 60 + n))).2 = 0
          ·refine split_intro (fun h => absurd h (by simpa using hC)) (fun _ => ?_)
           (conv => whnf)
           cases hht : s.ht with
           | true =>
            have ha : addP s k ⟨⟨[47, 47], dt, ui, gi, mo, si⟩, prt b (k + 60) (k + 60 + n), 0⟩ = (s, 7) := by
             unfold addP; rw [if_neg (by simp), if_pos rfl, if_pos (.inr (by simp [PS.first, hht]))]
            rw [ha] at hbad
            rw [hbad rfl (by show (7 : Int) ≠ 0; decide)]
            (conv => whnf)
            exact Wk.tuple (Wks.cons (Wk.agg (Wks.cons (Wk.refl _) (Wks.cons (Wk.nil' rfl) (Wks.cons (Wk.nil' rfl) (Wks.cons (Wk.nil' rfl) Wks.nil))))) (Wks.cons (Wk.refl _) (Wks.cons (Wk.refl _) Wks.nil)))
           | false =>
            (conv => whnf)
            by_cases hM : s.ms.length = 0
            ·have ha : addP s k ⟨⟨[47, 47], dt, ui, gi, mo, si⟩, prt b (k + 60) (k + 60 + n), 0⟩ = (⟨s.hm, s.map, s.ms, s.os, prt b (k + 60) (k + 60 + n), true⟩, 0) := by
              unfold addP; rw [if_neg (by simp), if_pos rfl, if_neg (by rintro (h | h); exact h hC; simp [PS.first, hht, hM] at h)]
             rw [ha] at hstep
             refine split_intro (fun h => absurd h (by simp [hM])) (fun _ => ?_)
             (conv => whnf)
             refine ⟨_, ⟨hstep rfl, by show b.length - _ < b.length - _; simp only []; omega⟩, ?_⟩
             (repeat' (first | exact trivial | exact Wk.refl _ | exact ObWk.refl _ | exact rfl | exact ⟨_, rfl⟩ | exact Nat.zero_lt_one | refine And.intro ?_ ?_ | unfold okTo | (unfold okO; conv => whnf) | (unfold okS; conv => whnf) | (unfold SlotOk; conv => whnf) | (unfold ObjOk; conv => whnf) | (unfold okCells; conv => whnf) | (unfold liveTo; conv => whnf) | exact Nat.zero_lt_succ _))
            ·have ha : addP s k ⟨⟨[47, 47], dt, ui, gi, mo, si⟩, prt b (k + 60) (k + 60 + n), 0⟩ = (s, 7) := by
              unfold addP; rw [if_neg (by simp), if_pos rfl, if_pos (.inr (by simp [PS.first]; intro h; exact absurd (by simp [h]) hM))]
             rw [ha] at hbad
             rw [hbad rfl (by show (7 : Int) ≠ 0; decide)]
             refine split_intro (fun _ => ?_) (fun h => absurd h (by simp; intro h; exact hM (by rw [h]; rfl)))
             (conv => whnf)
             exact Wk.tuple (Wks.cons (Wk.agg (Wks.cons (Wk.refl _) (Wks.cons (Wk.nil' rfl) (Wks.cons (Wk.nil' rfl) (Wks.cons (Wk.nil' rfl) Wks.nil))))) (Wks.cons (Wk.refl _) (Wks.cons (Wk.refl _) Wks.nil)))
          ·have ha : addP s k ⟨⟨[47, 47], dt, ui, gi, mo, si⟩, prt b (k + 60) (k + 60 + n), 0⟩ = (s, 7) := by
            unfold addP; rw [if_neg (by simp), if_pos rfl, if_pos (.inl hC)]
           rw [ha] at hbad
           rw [hbad rfl (by show (7 : Int) ≠ 0; decide)]
           refine split_intro (fun _ => ?_) (fun h => absurd h (by simpa using hC))
           (conv => whnf)
           exact Wk.tuple (Wks.cons (Wk.agg (Wks.cons (Wk.refl _) (Wks.cons (Wk.nil' rfl) (Wks.cons (Wk.nil' rfl) (Wks.cons (Wk.nil' rfl) Wks.nil))))) (Wks.cons (Wk.refl _) (Wks.cons (Wk.refl _) Wks.nil)))
         ·refine split_intro (fun h => absurd h (by simpa [sB] using hB)) (fun _ => ?_)
          (conv => whnf)
          refine CallLeaf.wa (rresolve_ nm s.names (by omega) (by omega)) rfl ?_
          (conv => whnf)
          rw [← res_eq nm hen]
          by_cases hC : (resP nm s.names).2 = 0
          ·have ha : addP s k ⟨⟨nm, dt, ui, gi, mo, si⟩, prt b (k + 60) (k + 60 + n), 0⟩ = (⟨s.hm, s.map, s.ms ++ [⟨(resP nm s.names).1, dt, ui, gi, mo, prt b (k + 60) (k + 60 + n)⟩], s.os ++ [k], s.names, s.ht⟩, 0) := by
            unfold addP; rw [if_neg hA, if_neg hB, if_neg (fun h => h hC)]
           rw [ha] at hstep
           refine split_intro (fun h => absurd h (by simpa using hC)) (fun _ => ?_)
           (conv => whnf)
           refine ⟨_, appL (f := eMn) (xs := s.ms) (ys := [⟨(resP nm s.names).1, dt, ui, gi, mo, prt b (k + 60) (k + 60 + n)⟩]) (zs := s.ms ++ [⟨(resP nm s.names).1, dt, ui, gi, mo, prt b (k + 60) (k + 60 + n)⟩]) rfl rfl (fun _ => rfl) rfl (by show _ * 72 ≤ _; simp; omega), ?_⟩
           (conv => whnf)
           refine ⟨_, appL (f := eO) (xs := s.os) (ys := [k]) (zs := s.os ++ [k]) rfl rfl (fun _ => rfl) rfl (by show _ * 8 ≤ _; simp; omega), ?_⟩
           (conv => whnf)
           refine ⟨_, ⟨hstep rfl, by show b.length - _ < b.length - _; simp only []; omega⟩, ?_⟩
           (repeat' (first | exact trivial | exact Wk.refl _ | exact ObWk.refl _ | exact rfl | exact ⟨_, rfl⟩ | exact Nat.zero_lt_one | refine And.intro ?_ ?_ | unfold okTo | (unfold okO; conv => whnf) | (unfold okS; conv => whnf) | (unfold SlotOk; conv => whnf) | (unfold ObjOk; conv => whnf) | (unfold okCells; conv => whnf) | (unfold liveTo; conv => whnf) | exact Nat.zero_lt_succ _))
          ·have ha : addP s k ⟨⟨nm, dt, ui, gi, mo, si⟩, prt b (k + 60) (k + 60 + n), 0⟩ = (s, (resP nm s.names).2) := by
            unfold addP; rw [if_neg hA, if_neg hB, if_pos hC]
           rw [ha] at hbad
           rw [hbad rfl hC]
           refine split_intro (fun _ => ?_) (fun h => absurd h (by simpa using hC))
           (conv => whnf)
           exact Wk.tuple (Wks.cons (Wk.agg (Wks.cons (Wk.refl _) (Wks.cons (Wk.nil' rfl) (Wks.cons (Wk.nil' rfl) (Wks.cons (Wk.nil' rfl) Wks.nil))))) (Wks.cons (Wk.refl _) (Wks.cons (Wk.refl _) Wks.nil)))
     ·have hw : (nextP (b.drop k)).1.why = (decR (b.drop k)).2 := by unfold nextP; rw [if_pos hz]
      have e := A.bad hk' h1' h2' (by rw [hw]; exact hz)
      rw [e, hw]
      refine split_intro (fun _ => ?_) (fun h => absurd h (by simpa using hz))
      (conv => whnf)
      exact Wk.tuple (Wks.cons (Wk.agg (Wks.cons (Wk.refl _) (Wks.cons (Wk.nil' rfl) (Wks.cons (Wk.nil' rfl) (Wks.cons (Wk.nil' rfl) Wks.nil))))) (Wks.cons (Wk.refl _) (Wks.cons (Wk.refl _) Wks.nil)))
    ·have hk' : ¬ k < b.length := by have := of_decide_eq_false hk; simp only [List.length_map] at this; omega
     have e := A.fin hk' h1' h2'
     rw [e]
     (conv => whnf)
     exact Wk.tuple (Wks.cons (Wk.agg (Wks.cons (Wk.refl _) (Wks.cons (Wk.list _ _) (Wks.cons (Wk.list _ _) (Wks.cons (Wk.list _ _) Wks.nil))))) (Wks.cons (Wk.refl _) (Wks.cons (Wk.refl _) Wks.nil)))
end Go.Proofs.YtenbpnlmpjndgaaGreatDoor.H

namespace Go.Proofs.YtenbpnlmpjndgaaGreatDoor.H
open Go Go.AL Go.AL.Hd Go.AL.Ln Go.AL.Ar Go.AL.Sc
set_option maxRecDepth 100000
set_option maxHeartbeats 8000000
theorem runM : runP PS0 (partsP 8 (magic.drop 8)) = (PS0, none) := by
 rw [show magic.drop 8 = [] from rfl, partsP_nil]; rfl
theorem arcM : arcP magic = (Arc0, 0, 0) := by
 rw [arc_run (by decide) rfl, runM]
theorem laddT_ [Go.AL.MX] (a b : Str) (h : a.length + b.length ≤ 140737488355328) : FCall Tryz.prog Gl 44 [LB a, LB b] [] (.list (.tok 0) ((a ++ b).map byteD)) [.tok ((a ++ b).map byteD).length 1] := by
 refine FCall.enterO hT hmix [] Tryz.func44 rfl rfl rfl fun hbd => ?_
 (conv => whnf)
 refine ⟨_, appL (f := byteD) (xs := []) (ys := a) (zs := a) rfl rfl (fun _ => rfl) rfl (by show _ * 1 ≤ _; omega), ?_⟩
 (conv => whnf)
 refine ⟨_, appL (f := byteD) (xs := a) (ys := b) (zs := a ++ b) rfl rfl (fun _ => rfl) rfl (by rw [List.length_append]; show _ * 1 ≤ _; omega), ?_⟩
 (conv => whnf)
 refine ⟨[512], rfl, by (try unfold pullOk); (repeat' (first | exact trivial | exact ObWk.refl _ | refine And.intro ?_ ?_ | unfold pullOk)), ?_⟩
 (conv => whnf)
 exact Wk.refl _
end Go.Proofs.YtenbpnlmpjndgaaGreatDoor.H

namespace Go.Proofs.YtenbpnlmpjndgaaGreatDoor
open Go Go.AL Go.AL.Hd
open Go.ChangeShapes Go.WideShapes Go.ChangeAt Go.RowKit
set_option maxRecDepth 100000
theorem own : ownKnob Tryz.prog.godebug = none := by kernel_rfl
theorem laidOut : laidOutB Tryz.prog = true := by kernel_rfl
abbrev laidL : List (String × DataW Unit) := [("unicode/utf8.acceptRanges", Rows.laid_unicode_utf8_acceptRanges), ("unicode/utf8.first", Rows.laid_unicode_utf8_first)]
theorem sMax : ((begin Tryz.prog (fun _ _ => 0) default).world.heap[0]?).bind Obj.row? = some (#[.int .i64 0], 3) := by kernel_rfl
theorem zMax : 0 < Tryz.prog.globals.size := of_decide_eq_true (by kernel_rfl)
theorem maxLen {W : World} (h : W.ShapedOpen Tryz.prog) : ∃ m, W.cell? ⟨0, 0, none⟩ = some (.int .i64 m) :=
 cell_of_shapedOpen_int h zMax sMax rfl (by kernel_rfl) (by kernel_rfl) Tryz.underlying3
theorem globOk [MX] {W : World} (h : laidMetH Tryz.prog laidL W) (hs : W.ShapedOpen Tryz.prog) (hm : W.cell? ⟨0, 0, none⟩ = some (.int .i64 MX.val)) : GlobOk Gl W := by
 have key : ∀ g, (∀ j (hj : j < (Gl g).length), ∃ u, cellH W.heap g j = some u ∧ VR (env0 W.heap) W.heap (sto []) ((Gl g)[j]) u ∧ ((Gl g)[j]).idf = true) ∧ (Gl g = [] ∨ ∃ us e f, W.heap[g]? = some (.cells us e f) ∧ us.size = (Gl g).length) := by
  intro g
  by_cases hg2 : g = 0
  ·subst hg2
   have e : Gl 0 = [vI MX.val] := rfl
   rw [e]
   refine ⟨fun j hj => ?_, .inr (glob_block hs zMax sMax)⟩
   have hj0 : j = 0 := by simp at hj; exact hj
   subst hj0
   rw [cell?_eq] at hm
   exact ⟨_, hm, .v _, rfl⟩
  ·have e : Gl g = [] := by
    first
     | (simp only [Gl]; done)
     | (simp only [Gl]; split; all_goals first | rfl | (exfalso; simp_all))
     | simp_all [Gl]
   rw [e]
   exact ⟨fun j hj => by simp at hj, .inl rfl⟩
 exact ⟨fun g j hj => (key g).1 j hj, fun g => (key g).2⟩
theorem byte_of {n : Nat} {ds : List D} (h : Rd Tryz.prog (n + 1) 5 ds) : ∃ u : UInt8, ds = byteD u := by
 simp only [Rd, Tryz.underlying5] at h
 obtain ⟨x, hw, rfl⟩ := h
 simp [Lit.wf] at hw
 have h1 : IntKind.u8.min = 0 := rfl
 have h2 : IntKind.u8.max = 255 := rfl
 obtain ⟨m, rfl⟩ := Int.eq_ofNat_of_zero_le (show 0 ≤ x by omega)
 refine ⟨UInt8.ofNat m, ?_⟩
 simp only [byteD, List.cons.injEq, and_true, D.v.injEq, Value.int.injEq, true_and]
 simp; omega
theorem list_ofP {n : Nat} {α : Type} {f : α → List D} {p : α → Prop} {e t : TypeId} {ds : List D} (hu : Tryz.prog.underlying t = some (.slice e)) (he : ∀ x, Rd Tryz.prog n e x → ∃ y, p y ∧ x = f y) (h : Rd Tryz.prog (n + 1) t ds) :
  ∃ l : List α, (∀ a ∈ l, p a) ∧ l.length * Tryz.prog.bytesOf e ≤ 140737488351232 ∧ ds = [.list .any (l.map f)] ∧ argD Tryz.prog t ds = .list .any (l.map f) := by
 simp only [Rd, hu] at h
 obtain ⟨xs, rfl, hb, hx⟩ := h
 have hc : ∀ x : { x // x ∈ xs }, ∃ y, p y ∧ x.1 = f y := fun x => he x.1 (hx x.1 x.2)
 have hm : (xs.attach.map fun x => (hc x).choose).map f = xs := by
  rw [List.map_map]
  have : (xs.attach.map (f ∘ fun x => (hc x).choose)) = xs.attach.map (fun x => x.1) := List.map_congr_left fun x _ => ((hc x).choose_spec).2.symm
  rw [this, List.attach_map_subtype_val]
 refine ⟨xs.attach.map fun x => (hc x).choose, fun a ha => ?_, by simpa using hb, by rw [hm], ?_⟩
 ·obtain ⟨x, _, rfl⟩ := List.mem_map.1 ha
  exact ((hc x).choose_spec).1
 ·rw [hm]; simp only [argD, hu]
theorem i64_of {x : Int} (h : (Lit.int .i64 x).wf = true) : x ≤ 9223372036854775807 := by
 have m1 : IntKind.i64.min = -9223372036854775808 := rfl
 have m2 : IntKind.i64.max = 9223372036854775807 := rfl
 simp only [Lit.wf, m1, m2, Bool.and_eq_true, decide_eq_true_eq] at h
 exact h.2
theorem arg_LB {ds : List D} (h : Rd Tryz.prog 8 22 ds) : ∃ l : Str, l.length ≤ 140737488351232 ∧ argD Tryz.prog 22 ds = LB l := by
 obtain ⟨l, _, h2, _, e⟩ := list_ofP (n := 7) (f := byteD) (p := fun _ => True) Tryz.underlying22 (fun x hx => by
  obtain ⟨u, e⟩ := byte_of (n := 6) hx
  exact ⟨u, trivial, e⟩) h
 rw [show Tryz.prog.bytesOf 5 = 1 by kernel_rfl, Nat.mul_one] at h2
 exact ⟨l, h2, e⟩
end Go.Proofs.YtenbpnlmpjndgaaGreatDoor

namespace Go.Proofs.YtenbpnlmpjndgaaGreatDoor
open Go Go.AL Go.AL.Hd Go.AL.Sc
open Go.ChangeShapes Go.WideShapes Go.ChangeAt Go.RowKit
set_option maxRecDepth 100000
theorem bytes_u8 : Tryz.prog.bytesOf 5 = 1 := by kernel_rfl
theorem mem_of {n : Nat} {ds : List D} (h : Rd Tryz.prog (n + 5) 64 ds) : ∃ m : Mem, OkM m ∧ ds = m.enc := by
 rw [show n + 5 = (n + 4) + 1 from rfl, Rd, Tryz.underlying64] at h
 simp only [RdFs] at h
 obtain ⟨a, b, rfl, h1, a2, b2, rfl, h2, a3, b3, rfl, h3, a4, b4, rfl, h4, a5, b5, rfl, h5, a6, b6, rfl, h6, rfl⟩ := h
 simp only [Rd, Tryz.underlying9] at h1
 simp only [Rd, Tryz.underlying3] at h2 h3 h4 h5
 obtain ⟨s, hs, rfl⟩ := h1
 obtain ⟨x2, w2, rfl⟩ := h2
 obtain ⟨x3, w3, rfl⟩ := h3
 obtain ⟨x4, w4, rfl⟩ := h4
 obtain ⟨x5, w5, rfl⟩ := h5
 obtain ⟨d, _, hd, rfl, _⟩ := list_ofP (n := n + 3) (f := byteD) (p := fun _ => True) Tryz.underlying22 (fun x hx => by
  obtain ⟨u, e⟩ := byte_of (n := n + 2) hx
  exact ⟨u, trivial, e⟩) h6
 rw [bytes_u8, Nat.mul_one] at hd
 exact ⟨⟨s, x2, x3, x4, x5, d⟩, ⟨hs, hd, i64_of w2, i64_of w3, i64_of w4, i64_of w5⟩, rfl⟩
theorem arg_LM {ds : List D} (h : Rd Tryz.prog 8 24 ds) : ∃ l : List Mem, (∀ m ∈ l, OkM m) ∧ argD Tryz.prog 24 ds = LM l := by
 obtain ⟨l, h1, _, _, e⟩ := list_ofP (n := 7) (f := Mem.enc) (p := OkM) Tryz.underlying24 (fun x hx => mem_of (n := 2) hx) h
 exact ⟨l, h1, e⟩
end Go.Proofs.YtenbpnlmpjndgaaGreatDoor

namespace Go.Proofs.YtenbpnlmpjndgaaGreatDoor.O
open Go Go.AL Go.AL.Ap Go.AL.Ob
set_option maxRecDepth 100000
abbrev SE (l : List Ob.Sym) : List (List D) := l.map Ob.Sym.enc
abbrev oD (o : Ob.Obj) : D := .agg [.list .any (SE o.syms), LB o.body]
abbrev oDn (o : Ob.Obj) : D := .agg [.list .nat (SE o.syms), LBn o.body]
theorem oget_ [Go.AL.MX] (b : List UInt8) (hb : 4 ≤ b.length) : FCall Tryz.prog Gl 128 [LB b] [] (vI (num b)) [] := by
 obtain ⟨x, y, z, w, r, rfl⟩ := split4 hb
 have hx := x.toNat_lt
 have hy := y.toNat_lt
 have hz := z.toNat_lt
 have hw := w.toNat_lt
 refine FCall.enterL hT hmix [] Tryz.func128 rfl rfl rfl fun hbd => ?_
 (conv => whnf)
 refine ⟨_, ⟨by decide, rfl⟩, ?_⟩
 (conv => whnf)
 refine ⟨_, wrap64 (by omega), ?_⟩
 (conv => whnf)
 refine ⟨_, shl64n (k := 24) (by omega) rfl (by omega), ?_⟩
 (conv => whnf)
 refine ⟨_, ⟨by decide, rfl⟩, ?_⟩
 (conv => whnf)
 refine ⟨_, wrap64 (by omega), ?_⟩
 (conv => whnf)
 refine ⟨_, shl64n (k := 16) (by omega) rfl (by omega), ?_⟩
 (conv => whnf)
 refine ⟨_, or64n (x.toNat) 24 rfl (by omega) rfl (by omega), ?_⟩
 (conv => whnf)
 refine ⟨_, ⟨by decide, rfl⟩, ?_⟩
 (conv => whnf)
 refine ⟨_, wrap64 (by omega), ?_⟩
 (conv => whnf)
 refine ⟨_, shl64n (k := 8) (by omega) rfl (by omega), ?_⟩
 (conv => whnf)
 refine ⟨_, or64n (x.toNat * 256 + y.toNat) 16 (by omega) (by omega) rfl (by omega), ?_⟩
 (conv => whnf)
 refine ⟨_, ⟨by decide, rfl⟩, ?_⟩
 (conv => whnf)
 refine ⟨_, wrap64 (by omega), ?_⟩
 (conv => whnf)
 refine ⟨_, or64n ((x.toNat * 256 + y.toNat) * 256 + z.toNat) 8 (by omega) (by omega) rfl (by omega), ?_⟩
 (conv => whnf)
 exact Wk.int (by rw [num4]; omega)
abbrev thr (n : Int) : D := .iface 153 (.agg [vI n])
abbrev Dr (r : List UInt8) : List AObj := [.cells [LB r]]
theorem must_t [Go.AL.MX] (n : Int) : FCall Tryz.prog Gl 104 [vB true, vI n] [] (.tuple []) [] := by
 refine FCall.enterL hT hmix [] Tryz.func104 rfl rfl rfl fun hbd => ?_
 (conv => whnf)
 exact Wk.refl _
theorem must_f [Go.AL.MX] (n : Int) : PCall Tryz.prog Gl 104 [vB false, vI n] [] (thr n) [] := by
 refine PCall.enter hT hmix [] Tryz.func104 rfl rfl rfl fun hbd => ?_
 (conv => whnf)
 refine ⟨[], rfl, by (try unfold pullOk); (repeat' (first | exact trivial | exact ObWk.refl _ | refine And.intro ?_ ?_ | unfold pullOk)), ?_⟩
 exact Wk.refl _
theorem take_ [Go.AL.MX] (r : List UInt8) (n : Nat) (hn : n ≤ r.length) : FCall Tryz.prog Gl 105 [.ptr 0 0, vI n] (Dr r) (LB (r.take n)) (Dr (r.drop n)) := by
 refine FCall.enterO hT hmix [] Tryz.func105 rfl rfl rfl fun hbd => ?_
 (conv => whnf)
 refine split_intro (fun h => absurd h (by (simp; omega))) (fun _ => ?_)
 (conv => whnf)
 refine ⟨_, slTake (f := byteD) (l := r) (b := n) (r := r.take n) rfl hn (fun _ => rfl) rfl, ?_⟩
 (conv => whnf)
 refine ⟨_, slDrop (f := byteD) (l := r) (a := n) (r := r.drop n) rfl hn (fun _ => rfl) rfl, ?_⟩
 (conv => whnf)
 refine ⟨[0], rfl, by (try unfold pullOk); (repeat' (first | exact trivial | exact ObWk.refl _ | refine And.intro ?_ ?_ | unfold pullOk)), ?_⟩
 exact Wk.refl _
theorem take_f [Go.AL.MX] (r : List UInt8) (n : Nat) (hn : ¬ n ≤ r.length) : PCall Tryz.prog Gl 105 [.ptr 0 0, vI n] (Dr r) (thr 2) (Dr r) := by
 refine PCall.enter hT hmix [] Tryz.func105 rfl rfl rfl fun hbd => ?_
 (conv => whnf)
 refine split_intro (fun _ => ?_) (fun h => absurd h (by (simp; omega)))
 (conv => whnf)
 refine ⟨[0], rfl, by (try unfold pullOk); (repeat' (first | exact trivial | exact ObWk.refl _ | refine And.intro ?_ ?_ | unfold pullOk)), ?_⟩
 exact Wk.refl _
end Go.Proofs.YtenbpnlmpjndgaaGreatDoor.O

namespace Go.Proofs.YtenbpnlmpjndgaaGreatDoor.O
open Go Go.AL Go.AL.Ap Go.AL.Ob
set_option maxRecDepth 100000
abbrev Dj : List AObj := [.cells [.junk]]
theorem number_ok [Go.AL.MX] (r : List UInt8) (hn : 4 ≤ r.length) : FCall Tryz.prog Gl 106 [.ptr 0 0] (Dr r) (vI (num r)) (Dr (r.drop 4)) := by
 have hg := oget_ (r.take 4) (by simp; omega)
 rw [num_take hn] at hg
 refine FCall.enterO hT hmix [] Tryz.func106 rfl rfl rfl fun hbd => ?_
 (conv => whnf)
 refine CallLeaf.oa [0] (take_ r 4 hn) rfl rfl rfl rfl ?_
 (conv => whnf)
 refine CallLeaf.wa (hg) rfl ?_
 (conv => whnf)
 refine ⟨[0], rfl, by (try unfold pullOk); (repeat' (first | exact trivial | exact ObWk.refl _ | refine And.intro ?_ ?_ | unfold pullOk)), ?_⟩
 exact Wk.refl _
theorem number_f [Go.AL.MX] (r : List UInt8) (hn : ¬ 4 ≤ r.length) : PCall Tryz.prog Gl 106 [.ptr 0 0] (Dr r) (thr 2) (Dr r) := by
 refine PCall.enter hT hmix [] Tryz.func106 rfl rfl rfl fun hbd => ?_
 (conv => whnf)
 refine CallLeaf.po [0] (by (repeat' (first | exact ArgsTo.nil | refine ArgsTo.cons ?_ ?_ | exact ArgTo.mk' rfl (Wk.refl _) | exact ArgTo.mk' rfl Wk.nilm | exact ArgTo.mk' rfl (Wk.int (by simp)) | exact ArgTo.mk' rfl (Wk.list _ _) | exact ArgTo.mk' rfl (Wk.agg (by (repeat' (first | exact Wks.nil | refine Wks.cons ?_ ?_ | exact Wk.refl _ | exact Wk.nilm | exact Wk.list _ _  | exact Wk.natN rfl | refine Wk.agg ?_))))))) (take_f r 4 hn) rfl rfl (by (repeat' (first | exact trivial | exact rfl | refine And.intro ?_ ?_))) (by (repeat' (first | exact trivial | exact rfl | refine And.intro ?_ ?_))) (by (repeat' (first | exact trivial | exact rfl | refine And.intro ?_ ?_))) rfl rfl ?_
 refine ⟨[0], rfl, by (try unfold pullOk); (repeat' (first | exact trivial | exact ObWk.refl _ | refine And.intro ?_ ?_ | unfold pullOk)), ?_⟩
 exact Wk.refl _
theorem hd_take (r : List UInt8) (k n : Nat) (h1 : k < n) (h2 : k < r.length) : (List.map byteD (r.take n))[k]? = some (byteD (r.getD k 0)) := by
 simp [List.getElem?_take_of_lt h1, List.getD, h2]
theorem symbol_ok [Go.AL.MX] (r r' : List UInt8) (s : Ob.Sym) (h : nextS r = some (s, r')) : FCall Tryz.prog Gl 107 [.ptr 0 0] (Dr r) (.agg s.enc) (Dr r') := by
 unfold nextS at h
 split at h
 ·simp at h
 ·rename_i hl
  simp only [Option.some.injEq, Prod.mk.injEq] at h
  obtain ⟨hs, hr⟩ := h
  have h10 : 10 ≤ r.length := by omega
  refine FCall.enterO hT hmix [] Tryz.func107 rfl rfl rfl fun hbd => ?_
  (conv => whnf)
  refine split_intro (fun h => absurd h (by (simp; omega))) (fun _ => ?_)
  (conv => whnf)
  have T1 := take_ r 1 (by omega)
  have N1 := number_ok (r.drop 1) (by simp; omega)
  have N2 := number_ok (r.drop 5) (by simp; omega)
  have T2 := take_ (r.drop 9) 1 (by simp; omega)
  have T3 := take_ (r.drop 10) (r.getD 9 0).toNat (by rw [List.length_drop]; omega)
  rw [List.drop_drop] at N1 N2 T2 T3
  have u0 := (r.getD 0 0).toNat_lt
  have u9 := (r.getD 9 0).toNat_lt
  have g0 := hd_take r 0 1 (by omega) (by omega)
  have g9 := hd_take (r.drop 9) 0 1 (by omega) (by simp; omega)
  have e9 : (r.drop 9).getD 0 0 = r.getD 9 0 := by simp [List.getD]
  rw [e9] at g9
  subst hs; subst hr
  refine CallLeaf.oa [0] (T1) rfl rfl rfl rfl ?_
  (conv => whnf)
  refine ⟨_, ⟨by decide, g0⟩, ?_⟩
  (conv => whnf)
  refine ⟨_, wrap64 (by omega), ?_⟩
  (conv => whnf)
  refine CallLeaf.oa [0] (N1) rfl rfl rfl rfl ?_
  (conv => whnf)
  refine CallLeaf.oa [0] (N2) rfl rfl rfl rfl ?_
  (conv => whnf)
  refine CallLeaf.oa [0] (T2) rfl rfl rfl rfl ?_
  (conv => whnf)
  refine ⟨_, ⟨by decide, g9⟩, ?_⟩
  (conv => whnf)
  refine ⟨_, wrap64 (by omega), ?_⟩
  (conv => whnf)
  refine CallLeaf.oa [0] (T3) rfl rfl rfl rfl ?_
  (conv => whnf)
  refine ⟨_, rfl, ?_⟩
  (conv => whnf)
  refine ⟨[0], rfl, by (try unfold pullOk); (repeat' (first | exact trivial | exact ObWk.refl _ | refine And.intro ?_ ?_ | unfold pullOk)), ?_⟩
  exact Wk.refl _
theorem symbol_f [Go.AL.MX] (r : List UInt8) (h : nextS r = none) : PCall Tryz.prog Gl 107 [.ptr 0 0] (Dr r) (thr 2) Dj := by
 unfold nextS at h
 split at h
 case isFalse => simp at h
 rename_i hl
 refine PCall.enter hT hmix [] Tryz.func107 rfl rfl rfl fun hbd => ?_
 (conv => whnf)
 refine split_intro (fun h10 => ?_) (fun h10 => ?_)
 ·(conv => whnf)
  refine ⟨[0], rfl, by (repeat' (first | exact trivial | exact ObWk.refl _ | exact ObWk.cells _ _ (Wks.cons (Wk.junk _) Wks.nil) | refine And.intro ?_ ?_ | unfold pullOk)), ?_⟩
  exact Wk.refl _
 ·have h10' : 10 ≤ r.length := by have := of_decide_eq_false h10; simp at this; omega
  have T1 := take_ r 1 (by omega)
  have N1 := number_ok (r.drop 1) (by simp; omega)
  have N2 := number_ok (r.drop 5) (by simp; omega)
  have T2 := take_ (r.drop 9) 1 (by simp; omega)
  have T3 := take_f (r.drop 10) (r.getD 9 0).toNat (by rw [List.length_drop]; omega)
  rw [List.drop_drop] at N1 N2 T2
  have u0 := (r.getD 0 0).toNat_lt
  have u9 := (r.getD 9 0).toNat_lt
  have g0 := hd_take r 0 1 (by omega) (by omega)
  have g9 := hd_take (r.drop 9) 0 1 (by omega) (by simp; omega)
  have e9 : (r.drop 9).getD 0 0 = r.getD 9 0 := by simp [List.getD]
  rw [e9] at g9
  (conv => whnf)
  refine CallLeaf.oa [0] (T1) rfl rfl rfl rfl ?_
  (conv => whnf)
  refine ⟨_, ⟨by decide, g0⟩, ?_⟩
  (conv => whnf)
  refine ⟨_, wrap64 (by omega), ?_⟩
  (conv => whnf)
  refine CallLeaf.oa [0] (N1) rfl rfl rfl rfl ?_
  (conv => whnf)
  refine CallLeaf.oa [0] (N2) rfl rfl rfl rfl ?_
  (conv => whnf)
  refine CallLeaf.oa [0] (T2) rfl rfl rfl rfl ?_
  (conv => whnf)
  refine ⟨_, ⟨by decide, g9⟩, ?_⟩
  (conv => whnf)
  refine ⟨_, wrap64 (by omega), ?_⟩
  (conv => whnf)
  refine CallLeaf.po [0] (by (repeat' (first | exact ArgsTo.nil | refine ArgsTo.cons ?_ ?_ | exact ArgTo.mk' rfl (Wk.refl _) | exact ArgTo.mk' rfl Wk.nilm | exact ArgTo.mk' rfl (Wk.int (by simp)) | exact ArgTo.mk' rfl (Wk.list _ _) | exact ArgTo.mk' rfl (Wk.agg (by (repeat' (first | exact Wks.nil | refine Wks.cons ?_ ?_ | exact Wk.refl _ | exact Wk.nilm | exact Wk.list _ _  | exact Wk.natN rfl | refine Wk.agg ?_))))))) (T3) rfl rfl (by (repeat' (first | exact trivial | exact rfl | refine And.intro ?_ ?_))) (by (repeat' (first | exact trivial | exact rfl | refine And.intro ?_ ?_))) (by (repeat' (first | exact trivial | exact rfl | refine And.intro ?_ ?_))) rfl rfl ?_
  refine ⟨[0], rfl, by (repeat' (first | exact trivial | exact ObWk.refl _ | exact ObWk.cells _ _ (Wks.cons (Wk.junk _) Wks.nil) | refine And.intro ?_ ?_ | unfold pullOk)), ?_⟩
  exact Wk.refl _
end Go.Proofs.YtenbpnlmpjndgaaGreatDoor.O

namespace Go.Proofs.YtenbpnlmpjndgaaGreatDoor.O
open Go Go.AL Go.AL.Ap Go.AL.Ob
set_option maxRecDepth 100000
theorem vbad {s : Ob.Sym} (h : ¬ (1 ≤ s.name.length ∧ s.name.length ≤ 255 ∧ (0 : UInt8) ∉ s.name ∧ 0 ≤ s.size ∧ s.size ≤ 4294967295)) : valid s = false := by
 cases hv : valid s with
 | false => rfl
 | true =>
  obtain ⟨h1, h2, h3, h4, h5, _⟩ := valid_iff.1 hv
  exact absurd ⟨h1, h2, h3, h4, h5⟩ h
theorem vgood {s : Ob.Sym} (h1 : 1 ≤ s.name.length) (h2 : s.name.length ≤ 255) (h3 : (0 : UInt8) ∉ s.name) (h4 : 0 ≤ s.size) (h5 : s.size ≤ 4294967295) : valid s = bindOk s := by
 simp [valid, h1, h2, h3, h4, h5]
theorem valid_ [Go.AL.MX] (s : Ob.Sym) : FCall Tryz.prog Gl 108 [.agg s.enc] [] (vB (valid s)) [] := by
 obtain ⟨nm, bd, sz, al⟩ := s
 have hsz := sB_sz nm
 refine FCall.enterL hT hmix [] Tryz.func108 rfl rfl rfl fun hbd => ?_
 (conv => whnf)
 refine split_intro (fun h1 => ?_) (fun h1 => ?_)
 ·have h1' : ((sB nm).size : Int) < 1 := of_decide_eq_true h1
  (conv => whnf)
  exact Wk.bool (vbad (by simp only; omega)).symm
 ·have h1' : ¬ (((sB nm).size : Int) < 1) := of_decide_eq_false h1
  (conv => whnf)
  refine split_intro (fun h2 => ?_) (fun h2 => ?_)
  ·have h2' : (255 : Int) < (sB nm).size := of_decide_eq_true h2
   (conv => whnf)
   exact Wk.bool (vbad (by simp only; omega)).symm
  ·have h2' : ¬ ((255 : Int) < (sB nm).size) := of_decide_eq_false h2
   (conv => whnf)
   refine CallLeaf.wa (contains0_ nm) rfl ?_
   (conv => whnf)
   refine split_intro (fun h3 => ?_) (fun h3 => ?_)
   ·have h3' : (0 : UInt8) ∈ nm := of_decide_eq_true h3
    (conv => whnf)
    exact Wk.bool (vbad (fun h => h.2.2.1 h3')).symm
   ·have h3' : ¬ ((0 : UInt8) ∈ nm) := of_decide_eq_false h3
    (conv => whnf)
    refine split_intro (fun h4 => ?_) (fun h4 => ?_)
    ·have h4' : sz < 0 := of_decide_eq_true h4
     (conv => whnf)
     exact Wk.bool (vbad (by simp only; omega)).symm
    ·have h4' : ¬ (sz < 0) := of_decide_eq_false h4
     (conv => whnf)
     refine split_intro (fun h5 => ?_) (fun h5 => ?_)
     ·have h5' : (4294967295 : Int) < sz := of_decide_eq_true h5
      (conv => whnf)
      exact Wk.bool (vbad (by simp only; omega)).symm
     ·have h5' : ¬ ((4294967295 : Int) < sz) := of_decide_eq_false h5
      rw [vgood (s := ⟨nm, bd, sz, al⟩) (by simp only; omega) (by simp only; omega) h3' (by simp only; omega) (by simp only; omega)]
      (conv => whnf)
      refine split_intro (fun b1 => ?_) (fun b1 => ?_)
      ·have b1' : bd = 1 := eq_of_beq b1
       subst b1'
       (conv => whnf)
       exact Wk.bool (by simp [bindOk]; rw [Bool.eq_iff_iff]; simp)
      ·have b1' : ¬ bd = 1 := by simpa using b1
       (conv => whnf)
       refine split_intro (fun b2 => ?_) (fun b2 => ?_)
       ·have b2' : bd = 2 := eq_of_beq b2
        subst b2'
        (conv => whnf)
        exact Wk.bool (by simp [bindOk]; rw [Bool.eq_iff_iff]; simp)
       ·have b2' : ¬ bd = 2 := by simpa using b2
        (conv => whnf)
        refine split_intro (fun b3 => ?_) (fun b3 => ?_)
        ·have b3' : bd = 3 := eq_of_beq b3
         subst b3'
         (conv => whnf)
         refine split_intro (fun a1 => ?_) (fun a1 => ?_)
         ·have a1' : (1 : Int) ≤ al := of_decide_eq_true a1
          (conv => whnf)
          refine split_intro (fun a2 => ?_) (fun a2 => ?_)
          ·have a2' : al ≤ 65536 := of_decide_eq_true a2
           obtain ⟨n, rfl⟩ := Int.eq_ofNat_of_zero_le (show 0 ≤ al by omega)
           (conv => whnf)
           refine ⟨((n - 1 : Nat) : Int), sub64 (by show (n : Int) - 1 = _; omega) (by omega), ?_⟩
           (conv => whnf)
           refine ⟨_, and64n (by omega) (by omega), ?_⟩
           (conv => whnf)
           exact Wk.bool (by simp only [bindOk, if_true]; rw [pow_and (by omega) (by omega), Bool.eq_iff_iff]; simp; try omega)
          ·have a2' : ¬ (al ≤ 65536) := of_decide_eq_false a2
           (conv => whnf)
           exact Wk.bool (by
            symm; simp only [bindOk, if_true]
            rw [Bool.eq_false_iff]; intro hp; have := pow_le hp; omega)
         ·have a1' : ¬ ((1 : Int) ≤ al) := of_decide_eq_false a1
          (conv => whnf)
          exact Wk.bool (by
           symm; simp only [bindOk, if_true]
           rw [Bool.eq_false_iff]; intro hp; have := of_decide_eq_true hp
           simp only [pows, List.mem_cons, List.not_mem_nil, or_false] at this; omega)
        ·have b3' : ¬ bd = 3 := by simpa using b3
         (conv => whnf)
         refine split_intro (fun b4 => ?_) (fun b4 => ?_)
         ·have b4' : bd = 4 := eq_of_beq b4
          subst b4'
          (conv => whnf)
          ((refine split_intro (fun a1 => ?_) (fun a1 => ?_)); (((conv => whnf)); exact Wk.bool (by have a1' : al = 0 := eq_of_beq a1; simp [bindOk, a1']; (try rw [Bool.eq_iff_iff]); (try simp))); (((conv => whnf)); exact Wk.bool (by have a1' : ¬ al = 0 := (by simpa using a1); simp [bindOk, a1'])))
         ·have b4' : ¬ bd = 4 := by simpa using b4
          (conv => whnf)
          refine split_intro (fun b5 => ?_) (fun b5 => ?_)
          ·have b5' : bd = 5 := eq_of_beq b5
           subst b5'
           (conv => whnf)
           ((refine split_intro (fun a1 => ?_) (fun a1 => ?_)); (((conv => whnf)); exact Wk.bool (by have a1' : al = 0 := eq_of_beq a1; simp [bindOk, a1']; (try rw [Bool.eq_iff_iff]); (try simp))); (((conv => whnf)); exact Wk.bool (by have a1' : ¬ al = 0 := (by simpa using a1); simp [bindOk, a1'])))
          ·have b5' : ¬ bd = 5 := by simpa using b5
           (conv => whnf)
           exact Wk.bool (by simp [bindOk, b1', b2', b3', b4', b5'])
end Go.Proofs.YtenbpnlmpjndgaaGreatDoor.O

namespace Go.Proofs.YtenbpnlmpjndgaaGreatDoor.O
open Go Go.AL Go.AL.Ap Go.AL.Ob
set_option maxRecDepth 100000
set_option maxHeartbeats 4000000
theorem must_t' [Go.AL.MX] (b : Bool) (n : Int) (h : b = true) : FCall Tryz.prog Gl 104 [vB b, vI n] [] (.tuple []) [] := by subst h; exact must_t n
theorem must_f' [Go.AL.MX] (b : Bool) (n : Int) (h : b = false) : PCall Tryz.prog Gl 104 [vB b, vI n] [] (thr n) [] := by subst h; exact must_f n
theorem clone_ [Go.AL.MX] (r : List UInt8) (hr : r.length ≤ 1000000000) : FCall Tryz.prog Gl 76 [LB r] [] (LBn r) [] := by
 refine FCall.enterL hT hmix [] Tryz.func76 rfl rfl rfl fun hbd => ?_
 (conv => whnf)
 refine And.intro (fun he => ?_) (fun he => ?_)
 ·have hr0 : r = [] := by simpa using he
  subst hr0
  (conv => whnf)
  refine And.intro ?_ ?_
  ·(conv => whnf)
   exact Wk.natN rfl
  ·(conv => whnf)
   refine ⟨_, appL (f := byteD) (xs := []) (ys := []) (zs := []) rfl rfl (fun _ => rfl) rfl (by decide), ?_⟩
   (conv => whnf)
   exact Wk.nat' rfl
 ·(conv => whnf)
  refine ⟨_, appL (f := byteD) (xs := []) (ys := r) (zs := r) rfl rfl (fun _ => rfl) rfl (by show _ * 1 ≤ _; omega), ?_⟩
  (conv => whnf)
  exact Wk.nat' rfl
theorem has_mem (l : List Ob.Sym) (n : Str) : Ob.has l n = decide (n ∈ l.map Ob.Sym.name) := by
 rw [Bool.eq_iff_iff, Ob.has_iff]; simp
theorem object_ok [Go.AL.MX] (r : List UInt8) (l : List Ob.Sym) (x : List UInt8) (h : decO r = .ok (l, x)) (hr : r.length ≤ 1000000000) :
  FCall Tryz.prog Gl 85 [.ptr 0 0] (Dr r) (oDn ⟨l, x⟩) Dj := by
 unfold decO at h
 split at h
 ·simp at h
 rename_i h4
 split at h
 ·simp at h
 rename_i hm
 split at h
 ·simp at h
 rename_i h8
 split at h
 ·simp at h
 rename_i hn
 simp only [ne_eq, Decidable.not_not] at hm
 have T1 := take_ r 4 (by omega)
 have N1 := number_ok (r.drop 4) (by simp; omega)
 rw [List.drop_drop] at N1
 have hn32 := num_lt (r.drop 4)
 generalize hnn : num (r.drop 4) = n at *
 refine FCall.enterO hT hmix [] Tryz.func85 rfl rfl rfl fun hbd => ?_
 (conv => whnf)
 refine CallLeaf.o [0] (by (repeat' (first | exact ArgsTo.nil | refine ArgsTo.cons ?_ ?_ | exact ArgTo.mk' rfl (Wk.refl _) | exact ArgTo.mk' rfl Wk.nilm | exact ArgTo.mk' rfl (Wk.int (by simp)) | exact ArgTo.mk' rfl (Wk.list _ _) | exact ArgTo.mk' rfl (Wk.agg (by (repeat' (first | exact Wks.nil | refine Wks.cons ?_ ?_ | exact Wk.refl _ | exact Wk.nilm | exact Wk.list _ _  | exact Wk.natN rfl | refine Wk.agg ?_))))))) (T1) rfl rfl (by (repeat' (first | exact trivial | exact rfl | refine And.intro ?_ ?_))) (by (repeat' (first | exact trivial | exact rfl | refine And.intro ?_ ?_))) (by (repeat' (first | exact trivial | exact rfl | refine And.intro ?_ ?_))) rfl rfl ?_
 (conv => whnf)
 (refine ⟨(r.take 4), rfl, ?_⟩)
 (conv => whnf)
 refine CallLeaf.w (by (repeat' (first | exact ArgsTo.nil | refine ArgsTo.cons ?_ ?_ | exact ArgTo.mk' rfl (Wk.refl _) | exact ArgTo.mk' rfl Wk.nilm | exact ArgTo.mk' rfl (Wk.int (by simp)) | exact ArgTo.mk' rfl (Wk.list _ _) | exact ArgTo.mk' rfl (Wk.agg (by (repeat' (first | exact Wks.nil | refine Wks.cons ?_ ?_ | exact Wk.refl _ | exact Wk.nilm | exact Wk.list _ _  | exact Wk.natN rfl | refine Wk.agg ?_))))))) (must_t' _ 1 (decide_eq_true hm)) rfl ?_
 (conv => whnf)
 refine CallLeaf.o [0] (by (repeat' (first | exact ArgsTo.nil | refine ArgsTo.cons ?_ ?_ | exact ArgTo.mk' rfl (Wk.refl _) | exact ArgTo.mk' rfl Wk.nilm | exact ArgTo.mk' rfl (Wk.int (by simp)) | exact ArgTo.mk' rfl (Wk.list _ _) | exact ArgTo.mk' rfl (Wk.agg (by (repeat' (first | exact Wks.nil | refine Wks.cons ?_ ?_ | exact Wk.refl _ | exact Wk.nilm | exact Wk.list _ _  | exact Wk.natN rfl | refine Wk.agg ?_))))))) (N1) rfl rfl (by (repeat' (first | exact trivial | exact rfl | refine And.intro ?_ ?_))) (by (repeat' (first | exact trivial | exact rfl | refine And.intro ?_ ?_))) (by (repeat' (first | exact trivial | exact rfl | refine And.intro ?_ ?_))) rfl rfl ?_
 (conv => whnf)
 refine CallLeaf.w (by (repeat' (first | exact ArgsTo.nil | refine ArgsTo.cons ?_ ?_ | exact ArgTo.mk' rfl (Wk.refl _) | exact ArgTo.mk' rfl Wk.nilm | exact ArgTo.mk' rfl (Wk.int (by simp)) | exact ArgTo.mk' rfl (Wk.list _ _) | exact ArgTo.mk' rfl (Wk.agg (by (repeat' (first | exact Wks.nil | refine Wks.cons ?_ ?_ | exact Wk.refl _ | exact Wk.nilm | exact Wk.list _ _  | exact Wk.natN rfl | refine Wk.agg ?_))))))) (must_t' _ 12 (by simp; omega)) rfl ?_
 (conv => whnf)
 refine LWp.loop hT hmix [] (fun x : Nat × List UInt8 × List Ob.Sym × Ents => [(19, vI x.1)]) (fun x => [(0, .cells [LB x.2.1]), (2049, .cells [.list (.tok 403) (SE x.2.2.1), .nil]), (403, .tok (SE x.2.2.1).length 4), (2561, .map x.2.2.2)]) (fun y => y.1 ≤ n ∧ y.2.1.length ≤ r.length ∧ y.2.2.1.length = y.1 ∧ Wt.Sn y.2.2.2 (y.2.2.1.map Ob.Sym.name) ∧ Ob.decL (n - y.1) y.2.1 y.2.2.1 = .ok (l, x)) (fun x => n - x.1) (0, r.drop 8, [], []) ⟨Nat.zero_le _, by simp, rfl, Wt.Sn.nil, h⟩ ?_
 (conv => whnf)
 refine ⟨?_, fun ⟨k, q, acc, es⟩ ⟨hk, hql, hal, hS, hd⟩ => ?_⟩
 ·(repeat' (first | exact trivial | exact Wk.refl _ | exact ObWk.refl _ | exact rfl | exact ⟨_, rfl⟩ | exact Nat.zero_lt_one | refine And.intro ?_ ?_ | unfold okTo | (unfold okO; conv => whnf) | (unfold okS; conv => whnf) | (unfold SlotOk; conv => whnf) | (unfold ObjOk; conv => whnf) | (unfold okCells; conv => whnf) | (unfold liveTo; conv => whnf) | exact Nat.zero_lt_succ _))
 ·replace hk : k ≤ n := hk
  replace hql : q.length ≤ r.length := hql
  replace hal : acc.length = k := hal
  replace hS : Wt.Sn es (acc.map Ob.Sym.name) := hS
  replace hd : Ob.decL (n - k) q acc = .ok (l, x) := hd
  (conv => whnf)
  refine split_intro (fun h2 => ?_) (fun h2 => ?_)
  ·have hlt : k < n := by have := of_decide_eq_true h2; omega
   obtain ⟨m, hmm⟩ : ∃ m, n - k = m + 1 := ⟨n - k - 1, by omega⟩
   rw [hmm, Ob.decL] at hd
   split at hd
   ·simp at hd
   rename_i s q' hnx
   split at hd
   case isFalse => simp at hd
   rename_i hvs
   simp only [Bool.and_eq_true, Bool.not_eq_true'] at hvs
   rw [has_mem] at hvs
   have hq' := congrArg List.length (nextS_some hnx hvs.1)
   simp at hq'
   (conv => whnf)
   refine CallLeaf.o [0] (by (repeat' (first | exact ArgsTo.nil | refine ArgsTo.cons ?_ ?_ | exact ArgTo.mk' rfl (Wk.refl _) | exact ArgTo.mk' rfl Wk.nilm | exact ArgTo.mk' rfl (Wk.int (by simp)) | exact ArgTo.mk' rfl (Wk.list _ _) | exact ArgTo.mk' rfl (Wk.agg (by (repeat' (first | exact Wks.nil | refine Wks.cons ?_ ?_ | exact Wk.refl _ | exact Wk.nilm | exact Wk.list _ _  | exact Wk.natN rfl | refine Wk.agg ?_))))))) (symbol_ok q q' s hnx) rfl rfl (by (repeat' (first | exact trivial | exact rfl | refine And.intro ?_ ?_))) (by (repeat' (first | exact trivial | exact rfl | refine And.intro ?_ ?_))) (by (repeat' (first | exact trivial | exact rfl | refine And.intro ?_ ?_))) rfl rfl ?_
   (conv => whnf)
   refine CallLeaf.w (by (repeat' (first | exact ArgsTo.nil | refine ArgsTo.cons ?_ ?_ | exact ArgTo.mk' rfl (Wk.refl _) | exact ArgTo.mk' rfl Wk.nilm | exact ArgTo.mk' rfl (Wk.int (by simp)) | exact ArgTo.mk' rfl (Wk.list _ _) | exact ArgTo.mk' rfl (Wk.agg (by (repeat' (first | exact Wks.nil | refine Wks.cons ?_ ?_ | exact Wk.refl _ | exact Wk.nilm | exact Wk.list _ _  | exact Wk.natN rfl | refine Wk.agg ?_))))))) (valid_ s) rfl ?_
   (conv => whnf)
   refine split_intro (fun _ => ?_) (fun h => absurd h (by (simp [hvs.1])))
   (conv => whnf)
   refine ⟨_, ⟨hS.keys, hS.look' s.name⟩, ?_⟩
   (conv => whnf)
   refine CallLeaf.w (by (repeat' (first | exact ArgsTo.nil | refine ArgsTo.cons ?_ ?_ | exact ArgTo.mk' rfl (Wk.refl _) | exact ArgTo.mk' rfl Wk.nilm | exact ArgTo.mk' rfl (Wk.int (by simp)) | exact ArgTo.mk' rfl (Wk.list _ _) | exact ArgTo.mk' rfl (Wk.agg (by (repeat' (first | exact Wks.nil | refine Wks.cons ?_ ?_ | exact Wk.refl _ | exact Wk.nilm | exact Wk.list _ _  | exact Wk.natN rfl | refine Wk.agg ?_))))))) (must_t' _ 12 (by rw [hvs.2]; rfl)) rfl ?_
   (conv => whnf)
   refine ⟨_, ⟨hS.keys, rfl⟩, ?_⟩
   (conv => whnf)
   refine ⟨_, appL (f := Ob.Sym.enc) (xs := acc) (ys := [s]) (zs := acc ++ [s]) rfl rfl (fun _ => rfl) rfl (by rw [List.length_append]; show (_ + 1) * 40 ≤ _; omega), ?_⟩
   (conv => whnf)
   refine ⟨_, add64 (c := ((k + 1 : Nat) : Int)) (by omega) (by omega), ?_⟩
   (conv => whnf)
   refine ⟨(k + 1, q', acc ++ [s], mset es (.string (sB s.name)) (vB true)), ⟨⟨by show k + 1 ≤ n; omega, by show q'.length ≤ _; omega, by simp [hal], by have := hS.set s.name; simpa using this, ?_⟩, by show n - (k + 1) < n - k; omega⟩, ?_⟩
   ·show Ob.decL (n - (k + 1)) q' (acc ++ [s]) = _
    rw [show n - (k + 1) = m by omega]; exact hd
   ·(repeat' (first | exact trivial | exact Wk.refl _ | exact ObWk.refl _ | exact rfl | exact ⟨_, rfl⟩ | exact Nat.zero_lt_one | refine And.intro ?_ ?_ | unfold okTo | (unfold okO; conv => whnf) | (unfold okS; conv => whnf) | (unfold SlotOk; conv => whnf) | (unfold ObjOk; conv => whnf) | (unfold okCells; conv => whnf) | (unfold liveTo; conv => whnf) | exact Nat.zero_lt_succ _))
  ·have hge : n - k = 0 := by have := of_decide_eq_false h2; omega
   rw [hge, Ob.decL] at hd
   simp only [Except.ok.injEq, Prod.mk.injEq] at hd
   obtain ⟨e1, e2⟩ := hd
   subst e1; subst e2
   (conv => whnf)
   refine CallLeaf.w (by (repeat' (first | exact ArgsTo.nil | refine ArgsTo.cons ?_ ?_ | exact ArgTo.mk' rfl (Wk.refl _) | exact ArgTo.mk' rfl Wk.nilm | exact ArgTo.mk' rfl (Wk.int (by simp)) | exact ArgTo.mk' rfl (Wk.list _ _) | exact ArgTo.mk' rfl (Wk.agg (by (repeat' (first | exact Wks.nil | refine Wks.cons ?_ ?_ | exact Wk.refl _ | exact Wk.nilm | exact Wk.list _ _  | exact Wk.natN rfl | refine Wk.agg ?_))))))) (clone_ q (by omega)) rfl ?_
   (conv => whnf)
   refine ⟨[0], rfl, by (repeat' (first | exact trivial | exact ObWk.refl _ | exact ObWk.cells _ _ (Wks.cons (Wk.junk _) Wks.nil) | refine And.intro ?_ ?_ | unfold pullOk)), ?_⟩
   exact Wk.agg (Wks.cons (Wk.nat' rfl) (Wks.cons (Wk.nat' rfl) Wks.nil))
end Go.Proofs.YtenbpnlmpjndgaaGreatDoor.O

namespace Go.Proofs.YtenbpnlmpjndgaaGreatDoor.O
open Go Go.AL Go.AL.Ap Go.AL.Ob
set_option maxRecDepth 100000
set_option maxHeartbeats 4000000
theorem object_f [Go.AL.MX] (r : List UInt8) (e : Int) (h : decO r = .error e) (hr : r.length ≤ 1000000000) :
  PCall Tryz.prog Gl 85 [.ptr 0 0] (Dr r) (thr e) Dj := by
 unfold decO at h
 split at h
 ·rename_i h4
  injection h with h
  subst h
  refine PCall.enter hT hmix [] Tryz.func85 rfl rfl rfl fun hbd => ?_
  (conv => whnf)
  refine CallLeaf.po [0] (by (repeat' (first | exact ArgsTo.nil | refine ArgsTo.cons ?_ ?_ | exact ArgTo.mk' rfl (Wk.refl _) | exact ArgTo.mk' rfl Wk.nilm | exact ArgTo.mk' rfl (Wk.int (by simp)) | exact ArgTo.mk' rfl (Wk.list _ _) | exact ArgTo.mk' rfl (Wk.agg (by (repeat' (first | exact Wks.nil | refine Wks.cons ?_ ?_ | exact Wk.refl _ | exact Wk.nilm | exact Wk.list _ _  | exact Wk.natN rfl | refine Wk.agg ?_))))))) (take_f r 4 (by omega)) rfl rfl (by (repeat' (first | exact trivial | exact rfl | refine And.intro ?_ ?_))) (by (repeat' (first | exact trivial | exact rfl | refine And.intro ?_ ?_))) (by (repeat' (first | exact trivial | exact rfl | refine And.intro ?_ ?_))) rfl rfl ?_
  refine ⟨[0], rfl, by (repeat' (first | exact trivial | exact ObWk.refl _ | exact ObWk.cells _ _ (Wks.cons (Wk.junk _) Wks.nil) | refine And.intro ?_ ?_ | unfold pullOk)), ?_⟩
  exact Wk.refl _
 rename_i h4
 have T1 := take_ r 4 (by omega)
 split at h
 ·rename_i hm
  injection h with h
  subst h
  refine PCall.enter hT hmix [] Tryz.func85 rfl rfl rfl fun hbd => ?_
  (conv => whnf)
  refine CallLeaf.o [0] (by (repeat' (first | exact ArgsTo.nil | refine ArgsTo.cons ?_ ?_ | exact ArgTo.mk' rfl (Wk.refl _) | exact ArgTo.mk' rfl Wk.nilm | exact ArgTo.mk' rfl (Wk.int (by simp)) | exact ArgTo.mk' rfl (Wk.list _ _) | exact ArgTo.mk' rfl (Wk.agg (by (repeat' (first | exact Wks.nil | refine Wks.cons ?_ ?_ | exact Wk.refl _ | exact Wk.nilm | exact Wk.list _ _  | exact Wk.natN rfl | refine Wk.agg ?_))))))) (T1) rfl rfl (by (repeat' (first | exact trivial | exact rfl | refine And.intro ?_ ?_))) (by (repeat' (first | exact trivial | exact rfl | refine And.intro ?_ ?_))) (by (repeat' (first | exact trivial | exact rfl | refine And.intro ?_ ?_))) rfl rfl ?_
  (conv => whnf)
  refine ⟨(r.take 4), rfl, ?_⟩
  (conv => whnf)
  refine CallLeaf.po [] (by (repeat' (first | exact ArgsTo.nil | refine ArgsTo.cons ?_ ?_ | exact ArgTo.mk' rfl (Wk.refl _) | exact ArgTo.mk' rfl Wk.nilm | exact ArgTo.mk' rfl (Wk.int (by simp)) | exact ArgTo.mk' rfl (Wk.list _ _) | exact ArgTo.mk' rfl (Wk.agg (by (repeat' (first | exact Wks.nil | refine Wks.cons ?_ ?_ | exact Wk.refl _ | exact Wk.nilm | exact Wk.list _ _  | exact Wk.natN rfl | refine Wk.agg ?_))))))) (must_f' _ 1 (decide_eq_false hm)) rfl rfl (by (repeat' (first | exact trivial | exact rfl | refine And.intro ?_ ?_))) (by (repeat' (first | exact trivial | exact rfl | refine And.intro ?_ ?_))) (by (repeat' (first | exact trivial | exact rfl | refine And.intro ?_ ?_))) rfl rfl ?_
  refine ⟨[0], rfl, by (repeat' (first | exact trivial | exact ObWk.refl _ | exact ObWk.cells _ _ (Wks.cons (Wk.junk _) Wks.nil) | refine And.intro ?_ ?_ | unfold pullOk)), ?_⟩
  exact Wk.refl _
 rename_i hm
 simp only [ne_eq, Decidable.not_not] at hm
 split at h
 ·rename_i h8
  injection h with h
  subst h
  have N1 := number_f (r.drop 4) (by simp; omega)
  refine PCall.enter hT hmix [] Tryz.func85 rfl rfl rfl fun hbd => ?_
  (conv => whnf)
  refine CallLeaf.o [0] (by (repeat' (first | exact ArgsTo.nil | refine ArgsTo.cons ?_ ?_ | exact ArgTo.mk' rfl (Wk.refl _) | exact ArgTo.mk' rfl Wk.nilm | exact ArgTo.mk' rfl (Wk.int (by simp)) | exact ArgTo.mk' rfl (Wk.list _ _) | exact ArgTo.mk' rfl (Wk.agg (by (repeat' (first | exact Wks.nil | refine Wks.cons ?_ ?_ | exact Wk.refl _ | exact Wk.nilm | exact Wk.list _ _  | exact Wk.natN rfl | refine Wk.agg ?_))))))) (T1) rfl rfl (by (repeat' (first | exact trivial | exact rfl | refine And.intro ?_ ?_))) (by (repeat' (first | exact trivial | exact rfl | refine And.intro ?_ ?_))) (by (repeat' (first | exact trivial | exact rfl | refine And.intro ?_ ?_))) rfl rfl ?_
  (conv => whnf)
  refine ⟨(r.take 4), rfl, ?_⟩
  (conv => whnf)
  refine CallLeaf.w (by (repeat' (first | exact ArgsTo.nil | refine ArgsTo.cons ?_ ?_ | exact ArgTo.mk' rfl (Wk.refl _) | exact ArgTo.mk' rfl Wk.nilm | exact ArgTo.mk' rfl (Wk.int (by simp)) | exact ArgTo.mk' rfl (Wk.list _ _) | exact ArgTo.mk' rfl (Wk.agg (by (repeat' (first | exact Wks.nil | refine Wks.cons ?_ ?_ | exact Wk.refl _ | exact Wk.nilm | exact Wk.list _ _  | exact Wk.natN rfl | refine Wk.agg ?_))))))) (must_t' _ 1 (decide_eq_true hm)) rfl ?_
  (conv => whnf)
  refine CallLeaf.po [0] (by (repeat' (first | exact ArgsTo.nil | refine ArgsTo.cons ?_ ?_ | exact ArgTo.mk' rfl (Wk.refl _) | exact ArgTo.mk' rfl Wk.nilm | exact ArgTo.mk' rfl (Wk.int (by simp)) | exact ArgTo.mk' rfl (Wk.list _ _) | exact ArgTo.mk' rfl (Wk.agg (by (repeat' (first | exact Wks.nil | refine Wks.cons ?_ ?_ | exact Wk.refl _ | exact Wk.nilm | exact Wk.list _ _  | exact Wk.natN rfl | refine Wk.agg ?_))))))) (N1) rfl rfl (by (repeat' (first | exact trivial | exact rfl | refine And.intro ?_ ?_))) (by (repeat' (first | exact trivial | exact rfl | refine And.intro ?_ ?_))) (by (repeat' (first | exact trivial | exact rfl | refine And.intro ?_ ?_))) rfl rfl ?_
  refine ⟨[0], rfl, by (repeat' (first | exact trivial | exact ObWk.refl _ | exact ObWk.cells _ _ (Wks.cons (Wk.junk _) Wks.nil) | refine And.intro ?_ ?_ | unfold pullOk)), ?_⟩
  exact Wk.refl _
 rename_i h8
 have N1 := number_ok (r.drop 4) (by simp; omega)
 rw [List.drop_drop] at N1
 have hn32 := num_lt (r.drop 4)
 split at h
 ·rename_i hn
  injection h with h
  subst h
  generalize hnn : num (r.drop 4) = n at *
  refine PCall.enter hT hmix [] Tryz.func85 rfl rfl rfl fun hbd => ?_
  (conv => whnf)
  refine CallLeaf.o [0] (by (repeat' (first | exact ArgsTo.nil | refine ArgsTo.cons ?_ ?_ | exact ArgTo.mk' rfl (Wk.refl _) | exact ArgTo.mk' rfl Wk.nilm | exact ArgTo.mk' rfl (Wk.int (by simp)) | exact ArgTo.mk' rfl (Wk.list _ _) | exact ArgTo.mk' rfl (Wk.agg (by (repeat' (first | exact Wks.nil | refine Wks.cons ?_ ?_ | exact Wk.refl _ | exact Wk.nilm | exact Wk.list _ _  | exact Wk.natN rfl | refine Wk.agg ?_))))))) (T1) rfl rfl (by (repeat' (first | exact trivial | exact rfl | refine And.intro ?_ ?_))) (by (repeat' (first | exact trivial | exact rfl | refine And.intro ?_ ?_))) (by (repeat' (first | exact trivial | exact rfl | refine And.intro ?_ ?_))) rfl rfl ?_
  (conv => whnf)
  refine ⟨(r.take 4), rfl, ?_⟩
  (conv => whnf)
  refine CallLeaf.w (by (repeat' (first | exact ArgsTo.nil | refine ArgsTo.cons ?_ ?_ | exact ArgTo.mk' rfl (Wk.refl _) | exact ArgTo.mk' rfl Wk.nilm | exact ArgTo.mk' rfl (Wk.int (by simp)) | exact ArgTo.mk' rfl (Wk.list _ _) | exact ArgTo.mk' rfl (Wk.agg (by (repeat' (first | exact Wks.nil | refine Wks.cons ?_ ?_ | exact Wk.refl _ | exact Wk.nilm | exact Wk.list _ _  | exact Wk.natN rfl | refine Wk.agg ?_))))))) (must_t' _ 1 (decide_eq_true hm)) rfl ?_
  (conv => whnf)
  refine CallLeaf.o [0] (by (repeat' (first | exact ArgsTo.nil | refine ArgsTo.cons ?_ ?_ | exact ArgTo.mk' rfl (Wk.refl _) | exact ArgTo.mk' rfl Wk.nilm | exact ArgTo.mk' rfl (Wk.int (by simp)) | exact ArgTo.mk' rfl (Wk.list _ _) | exact ArgTo.mk' rfl (Wk.agg (by (repeat' (first | exact Wks.nil | refine Wks.cons ?_ ?_ | exact Wk.refl _ | exact Wk.nilm | exact Wk.list _ _  | exact Wk.natN rfl | refine Wk.agg ?_))))))) (N1) rfl rfl (by (repeat' (first | exact trivial | exact rfl | refine And.intro ?_ ?_))) (by (repeat' (first | exact trivial | exact rfl | refine And.intro ?_ ?_))) (by (repeat' (first | exact trivial | exact rfl | refine And.intro ?_ ?_))) rfl rfl ?_
  (conv => whnf)
  refine CallLeaf.po [] (by (repeat' (first | exact ArgsTo.nil | refine ArgsTo.cons ?_ ?_ | exact ArgTo.mk' rfl (Wk.refl _) | exact ArgTo.mk' rfl Wk.nilm | exact ArgTo.mk' rfl (Wk.int (by simp)) | exact ArgTo.mk' rfl (Wk.list _ _) | exact ArgTo.mk' rfl (Wk.agg (by (repeat' (first | exact Wks.nil | refine Wks.cons ?_ ?_ | exact Wk.refl _ | exact Wk.nilm | exact Wk.list _ _  | exact Wk.natN rfl | refine Wk.agg ?_))))))) (must_f' _ 12 (by simp; omega)) rfl rfl (by (repeat' (first | exact trivial | exact rfl | refine And.intro ?_ ?_))) (by (repeat' (first | exact trivial | exact rfl | refine And.intro ?_ ?_))) (by (repeat' (first | exact trivial | exact rfl | refine And.intro ?_ ?_))) rfl rfl ?_
  refine ⟨[0], rfl, by (repeat' (first | exact trivial | exact ObWk.refl _ | exact ObWk.cells _ _ (Wks.cons (Wk.junk _) Wks.nil) | refine And.intro ?_ ?_ | unfold pullOk)), ?_⟩
  exact Wk.refl _
 rename_i hn
 generalize hnn : num (r.drop 4) = n at *
 refine PCall.enter hT hmix [] Tryz.func85 rfl rfl rfl fun hbd => ?_
 (conv => whnf)
 refine CallLeaf.o [0] (by (repeat' (first | exact ArgsTo.nil | refine ArgsTo.cons ?_ ?_ | exact ArgTo.mk' rfl (Wk.refl _) | exact ArgTo.mk' rfl Wk.nilm | exact ArgTo.mk' rfl (Wk.int (by simp)) | exact ArgTo.mk' rfl (Wk.list _ _) | exact ArgTo.mk' rfl (Wk.agg (by (repeat' (first | exact Wks.nil | refine Wks.cons ?_ ?_ | exact Wk.refl _ | exact Wk.nilm | exact Wk.list _ _  | exact Wk.natN rfl | refine Wk.agg ?_))))))) (T1) rfl rfl (by (repeat' (first | exact trivial | exact rfl | refine And.intro ?_ ?_))) (by (repeat' (first | exact trivial | exact rfl | refine And.intro ?_ ?_))) (by (repeat' (first | exact trivial | exact rfl | refine And.intro ?_ ?_))) rfl rfl ?_
 (conv => whnf)
 refine ⟨(r.take 4), rfl, ?_⟩
 (conv => whnf)
 refine CallLeaf.w (by (repeat' (first | exact ArgsTo.nil | refine ArgsTo.cons ?_ ?_ | exact ArgTo.mk' rfl (Wk.refl _) | exact ArgTo.mk' rfl Wk.nilm | exact ArgTo.mk' rfl (Wk.int (by simp)) | exact ArgTo.mk' rfl (Wk.list _ _) | exact ArgTo.mk' rfl (Wk.agg (by (repeat' (first | exact Wks.nil | refine Wks.cons ?_ ?_ | exact Wk.refl _ | exact Wk.nilm | exact Wk.list _ _  | exact Wk.natN rfl | refine Wk.agg ?_))))))) (must_t' _ 1 (decide_eq_true hm)) rfl ?_
 (conv => whnf)
 refine CallLeaf.o [0] (by (repeat' (first | exact ArgsTo.nil | refine ArgsTo.cons ?_ ?_ | exact ArgTo.mk' rfl (Wk.refl _) | exact ArgTo.mk' rfl Wk.nilm | exact ArgTo.mk' rfl (Wk.int (by simp)) | exact ArgTo.mk' rfl (Wk.list _ _) | exact ArgTo.mk' rfl (Wk.agg (by (repeat' (first | exact Wks.nil | refine Wks.cons ?_ ?_ | exact Wk.refl _ | exact Wk.nilm | exact Wk.list _ _  | exact Wk.natN rfl | refine Wk.agg ?_))))))) (N1) rfl rfl (by (repeat' (first | exact trivial | exact rfl | refine And.intro ?_ ?_))) (by (repeat' (first | exact trivial | exact rfl | refine And.intro ?_ ?_))) (by (repeat' (first | exact trivial | exact rfl | refine And.intro ?_ ?_))) rfl rfl ?_
 (conv => whnf)
 refine CallLeaf.w (by (repeat' (first | exact ArgsTo.nil | refine ArgsTo.cons ?_ ?_ | exact ArgTo.mk' rfl (Wk.refl _) | exact ArgTo.mk' rfl Wk.nilm | exact ArgTo.mk' rfl (Wk.int (by simp)) | exact ArgTo.mk' rfl (Wk.list _ _) | exact ArgTo.mk' rfl (Wk.agg (by (repeat' (first | exact Wks.nil | refine Wks.cons ?_ ?_ | exact Wk.refl _ | exact Wk.nilm | exact Wk.list _ _  | exact Wk.natN rfl | refine Wk.agg ?_))))))) (must_t' _ 12 (by simp; omega)) rfl ?_
 (conv => whnf)
 refine LWp.loop hT hmix [] (fun x : Nat × List UInt8 × List Ob.Sym × Ents => [(19, vI x.1)]) (fun x => [(0, .cells [LB x.2.1]), (2049, .cells [.list (.tok 403) (SE x.2.2.1), .nil]), (403, .tok (SE x.2.2.1).length 4), (2561, .map x.2.2.2)]) (fun y => y.1 ≤ n ∧ y.2.1.length ≤ r.length ∧ y.2.2.1.length = y.1 ∧ Wt.Sn y.2.2.2 (y.2.2.1.map Ob.Sym.name) ∧ Ob.decL (n - y.1) y.2.1 y.2.2.1 = .error e) (fun x => n - x.1) (0, r.drop 8, [], []) ⟨Nat.zero_le _, by simp, rfl, Wt.Sn.nil, h⟩ ?_
 (conv => whnf)
 refine ⟨?_, fun ⟨k, q, acc, es⟩ ⟨hk, hql, hal, hS, hd⟩ => ?_⟩
 ·(repeat' (first | exact trivial | exact Wk.refl _ | exact ObWk.refl _ | exact rfl | exact ⟨_, rfl⟩ | exact Nat.zero_lt_one | refine And.intro ?_ ?_ | unfold okTo | (unfold okO; conv => whnf) | (unfold okS; conv => whnf) | (unfold SlotOk; conv => whnf) | (unfold ObjOk; conv => whnf) | (unfold okCells; conv => whnf) | (unfold liveTo; conv => whnf) | exact Nat.zero_lt_succ _))
 ·replace hk : k ≤ n := hk
  replace hql : q.length ≤ r.length := hql
  replace hal : acc.length = k := hal
  replace hS : Wt.Sn es (acc.map Ob.Sym.name) := hS
  replace hd : Ob.decL (n - k) q acc = .error e := hd
  (conv => whnf)
  refine split_intro (fun h2 => ?_) (fun h2 => ?_)
  ·have hlt : k < n := by have := of_decide_eq_true h2; omega
   obtain ⟨m, hmm⟩ : ∃ m, n - k = m + 1 := ⟨n - k - 1, by omega⟩
   rw [hmm, Ob.decL] at hd
   split at hd
   ·rename_i hnx
    injection hd with hd
    subst hd
    (conv => whnf)
    refine CallLeaf.po [0] (by (repeat' (first | exact ArgsTo.nil | refine ArgsTo.cons ?_ ?_ | exact ArgTo.mk' rfl (Wk.refl _) | exact ArgTo.mk' rfl Wk.nilm | exact ArgTo.mk' rfl (Wk.int (by simp)) | exact ArgTo.mk' rfl (Wk.list _ _) | exact ArgTo.mk' rfl (Wk.agg (by (repeat' (first | exact Wks.nil | refine Wks.cons ?_ ?_ | exact Wk.refl _ | exact Wk.nilm | exact Wk.list _ _  | exact Wk.natN rfl | refine Wk.agg ?_))))))) (symbol_f q hnx) rfl rfl (by (repeat' (first | exact trivial | exact rfl | refine And.intro ?_ ?_))) (by (repeat' (first | exact trivial | exact rfl | refine And.intro ?_ ?_))) (by (repeat' (first | exact trivial | exact rfl | refine And.intro ?_ ?_))) rfl rfl ?_
    refine ⟨[0], rfl, by (repeat' (first | exact trivial | exact ObWk.refl _ | exact ObWk.cells _ _ (Wks.cons (Wk.junk _) Wks.nil) | refine And.intro ?_ ?_ | unfold pullOk)), ?_⟩
    exact Wk.refl _
   rename_i s q' hnx
   split at hd
   case isFalse =>
    rename_i hvs
    injection hd with hd
    subst hd
    (conv => whnf)
    refine CallLeaf.o [0] (by (repeat' (first | exact ArgsTo.nil | refine ArgsTo.cons ?_ ?_ | exact ArgTo.mk' rfl (Wk.refl _) | exact ArgTo.mk' rfl Wk.nilm | exact ArgTo.mk' rfl (Wk.int (by simp)) | exact ArgTo.mk' rfl (Wk.list _ _) | exact ArgTo.mk' rfl (Wk.agg (by (repeat' (first | exact Wks.nil | refine Wks.cons ?_ ?_ | exact Wk.refl _ | exact Wk.nilm | exact Wk.list _ _  | exact Wk.natN rfl | refine Wk.agg ?_))))))) (symbol_ok q q' s hnx) rfl rfl (by (repeat' (first | exact trivial | exact rfl | refine And.intro ?_ ?_))) (by (repeat' (first | exact trivial | exact rfl | refine And.intro ?_ ?_))) (by (repeat' (first | exact trivial | exact rfl | refine And.intro ?_ ?_))) rfl rfl ?_
    (conv => whnf)
    refine CallLeaf.w (by (repeat' (first | exact ArgsTo.nil | refine ArgsTo.cons ?_ ?_ | exact ArgTo.mk' rfl (Wk.refl _) | exact ArgTo.mk' rfl Wk.nilm | exact ArgTo.mk' rfl (Wk.int (by simp)) | exact ArgTo.mk' rfl (Wk.list _ _) | exact ArgTo.mk' rfl (Wk.agg (by (repeat' (first | exact Wks.nil | refine Wks.cons ?_ ?_ | exact Wk.refl _ | exact Wk.nilm | exact Wk.list _ _  | exact Wk.natN rfl | refine Wk.agg ?_))))))) (valid_ s) rfl ?_
    (conv => whnf)
    refine split_intro (fun hv => ?_) (fun hv => ?_)
    ·have hh : Ob.has acc s.name = true := by
      cases hc : Ob.has acc s.name with
      | true => rfl
      | false => exact absurd (by simp [hv, hc]) hvs
     rw [has_mem] at hh
     (conv => whnf)
     refine ⟨_, ⟨hS.keys, hS.look' s.name⟩, ?_⟩
     (conv => whnf)
     refine CallLeaf.po [] (by (repeat' (first | exact ArgsTo.nil | refine ArgsTo.cons ?_ ?_ | exact ArgTo.mk' rfl (Wk.refl _) | exact ArgTo.mk' rfl Wk.nilm | exact ArgTo.mk' rfl (Wk.int (by simp)) | exact ArgTo.mk' rfl (Wk.list _ _) | exact ArgTo.mk' rfl (Wk.agg (by (repeat' (first | exact Wks.nil | refine Wks.cons ?_ ?_ | exact Wk.refl _ | exact Wk.nilm | exact Wk.list _ _  | exact Wk.natN rfl | refine Wk.agg ?_))))))) (must_f' _ 12 (by rw [hh]; rfl)) rfl rfl (by (repeat' (first | exact trivial | exact rfl | refine And.intro ?_ ?_))) (by (repeat' (first | exact trivial | exact rfl | refine And.intro ?_ ?_))) (by (repeat' (first | exact trivial | exact rfl | refine And.intro ?_ ?_))) rfl rfl ?_
     refine ⟨[0], rfl, by (repeat' (first | exact trivial | exact ObWk.refl _ | exact ObWk.cells _ _ (Wks.cons (Wk.junk _) Wks.nil) | refine And.intro ?_ ?_ | unfold pullOk)), ?_⟩
     exact Wk.refl _
    ·(conv => whnf)
     refine CallLeaf.po [] (by (repeat' (first | exact ArgsTo.nil | refine ArgsTo.cons ?_ ?_ | exact ArgTo.mk' rfl (Wk.refl _) | exact ArgTo.mk' rfl Wk.nilm | exact ArgTo.mk' rfl (Wk.int (by simp)) | exact ArgTo.mk' rfl (Wk.list _ _) | exact ArgTo.mk' rfl (Wk.agg (by (repeat' (first | exact Wks.nil | refine Wks.cons ?_ ?_ | exact Wk.refl _ | exact Wk.nilm | exact Wk.list _ _  | exact Wk.natN rfl | refine Wk.agg ?_))))))) (must_f' _ 12 rfl) rfl rfl (by (repeat' (first | exact trivial | exact rfl | refine And.intro ?_ ?_))) (by (repeat' (first | exact trivial | exact rfl | refine And.intro ?_ ?_))) (by (repeat' (first | exact trivial | exact rfl | refine And.intro ?_ ?_))) rfl rfl ?_
     refine ⟨[0], rfl, by (repeat' (first | exact trivial | exact ObWk.refl _ | exact ObWk.cells _ _ (Wks.cons (Wk.junk _) Wks.nil) | refine And.intro ?_ ?_ | unfold pullOk)), ?_⟩
     exact Wk.refl _
   rename_i hvs
   simp only [Bool.and_eq_true, Bool.not_eq_true'] at hvs
   rw [has_mem] at hvs
   have hq' := congrArg List.length (nextS_some hnx hvs.1)
   simp at hq'
   (conv => whnf)
   refine CallLeaf.o [0] (by (repeat' (first | exact ArgsTo.nil | refine ArgsTo.cons ?_ ?_ | exact ArgTo.mk' rfl (Wk.refl _) | exact ArgTo.mk' rfl Wk.nilm | exact ArgTo.mk' rfl (Wk.int (by simp)) | exact ArgTo.mk' rfl (Wk.list _ _) | exact ArgTo.mk' rfl (Wk.agg (by (repeat' (first | exact Wks.nil | refine Wks.cons ?_ ?_ | exact Wk.refl _ | exact Wk.nilm | exact Wk.list _ _  | exact Wk.natN rfl | refine Wk.agg ?_))))))) (symbol_ok q q' s hnx) rfl rfl (by (repeat' (first | exact trivial | exact rfl | refine And.intro ?_ ?_))) (by (repeat' (first | exact trivial | exact rfl | refine And.intro ?_ ?_))) (by (repeat' (first | exact trivial | exact rfl | refine And.intro ?_ ?_))) rfl rfl ?_
   (conv => whnf)
   refine CallLeaf.w (by (repeat' (first | exact ArgsTo.nil | refine ArgsTo.cons ?_ ?_ | exact ArgTo.mk' rfl (Wk.refl _) | exact ArgTo.mk' rfl Wk.nilm | exact ArgTo.mk' rfl (Wk.int (by simp)) | exact ArgTo.mk' rfl (Wk.list _ _) | exact ArgTo.mk' rfl (Wk.agg (by (repeat' (first | exact Wks.nil | refine Wks.cons ?_ ?_ | exact Wk.refl _ | exact Wk.nilm | exact Wk.list _ _  | exact Wk.natN rfl | refine Wk.agg ?_))))))) (valid_ s) rfl ?_
   (conv => whnf)
   refine split_intro (fun _ => ?_) (fun h => absurd h (by (simp [hvs.1])))
   (conv => whnf)
   refine ⟨_, ⟨hS.keys, hS.look' s.name⟩, ?_⟩
   (conv => whnf)
   refine CallLeaf.w (by (repeat' (first | exact ArgsTo.nil | refine ArgsTo.cons ?_ ?_ | exact ArgTo.mk' rfl (Wk.refl _) | exact ArgTo.mk' rfl Wk.nilm | exact ArgTo.mk' rfl (Wk.int (by simp)) | exact ArgTo.mk' rfl (Wk.list _ _) | exact ArgTo.mk' rfl (Wk.agg (by (repeat' (first | exact Wks.nil | refine Wks.cons ?_ ?_ | exact Wk.refl _ | exact Wk.nilm | exact Wk.list _ _  | exact Wk.natN rfl | refine Wk.agg ?_))))))) (must_t' _ 12 (by rw [hvs.2]; rfl)) rfl ?_
   (conv => whnf)
   refine ⟨_, ⟨hS.keys, rfl⟩, ?_⟩
   (conv => whnf)
   refine ⟨_, appL (f := Ob.Sym.enc) (xs := acc) (ys := [s]) (zs := acc ++ [s]) rfl rfl (fun _ => rfl) rfl (by rw [List.length_append]; show (_ + 1) * 40 ≤ _; omega), ?_⟩
   (conv => whnf)
   refine ⟨_, add64 (c := ((k + 1 : Nat) : Int)) (by omega) (by omega), ?_⟩
   (conv => whnf)
   refine ⟨(k + 1, q', acc ++ [s], mset es (.string (sB s.name)) (vB true)), ⟨⟨by show k + 1 ≤ n; omega, by show q'.length ≤ _; omega, by simp [hal], by have := hS.set s.name; simpa using this, ?_⟩, by show n - (k + 1) < n - k; omega⟩, ?_⟩
   ·show Ob.decL (n - (k + 1)) q' (acc ++ [s]) = _
    rw [show n - (k + 1) = m by omega]; exact hd
   ·(repeat' (first | exact trivial | exact Wk.refl _ | exact ObWk.refl _ | exact rfl | exact ⟨_, rfl⟩ | exact Nat.zero_lt_one | refine And.intro ?_ ?_ | unfold okTo | (unfold okO; conv => whnf) | (unfold okS; conv => whnf) | (unfold SlotOk; conv => whnf) | (unfold ObjOk; conv => whnf) | (unfold okCells; conv => whnf) | (unfold liveTo; conv => whnf) | exact Nat.zero_lt_succ _))
  ·have hge : n - k = 0 := by have := of_decide_eq_false h2; omega
   rw [hge, Ob.decL] at hd
   simp at hd
end Go.Proofs.YtenbpnlmpjndgaaGreatDoor.O

namespace Go.Proofs.YtenbpnlmpjndgaaGreatDoor.O
open Go Go.AL Go.AL.Ap Go.AL.Ob
set_option maxRecDepth 100000
set_option maxHeartbeats 4000000
theorem door_n [Go.AL.MX] (l : List Ob.Sym) (x : List UInt8) (c : Int) : DCall Tryz.prog Gl 84 [.ptr 0 0, .ptr 1 0] [.cells [.list .nat (SE l), LBn x], .cells [vI c]] none [.cells [.list .nat (SE l), LBn x], .cells [vI c]] := by
 refine DCall.enter hT hmix Tryz.func84 rfl rfl rfl rfl rfl rfl rfl rfl rfl rfl rfl rfl ?_
 (conv => whnf)
 refine ⟨[0, 1], rfl, by (try unfold pullOk); (repeat' (first | exact trivial | exact ObWk.refl _ | refine And.intro ?_ ?_ | unfold pullOk)), ?_⟩
 exact Wk.refl _
theorem door_p [Go.AL.MX] (c n : Int) : DCall Tryz.prog Gl 84 [.ptr 0 0, .ptr 1 0] [.cells [.nil, .nil], .cells [vI c]] (some (thr n)) [.cells [.nil, .nil], .cells [vI n]] := by
 refine DCall.enter hT hmix Tryz.func84 rfl rfl rfl rfl rfl rfl rfl rfl rfl rfl rfl rfl ?_
 (conv => whnf)
 refine ⟨[0, 1], rfl, by (try unfold pullOk); (repeat' (first | exact trivial | exact ObWk.refl _ | refine And.intro ?_ ?_ | unfold pullOk)), ?_⟩
 exact Wk.refl _
def encRO (r : Except Int (List Ob.Sym × List UInt8)) : Ob.Obj × Int := match r with | .ok (l, x) => (⟨l, x⟩, 0) | .error e => (⟨[], []⟩, e)
theorem odecode_ [Go.AL.MX] (r : List UInt8) (hr : r.length ≤ 1000000000) : FCall Tryz.prog Gl 59 [LB r] [] (.tuple [oDn (encRO (decO r)).1, vI (encRO (decO r)).2]) [] := by
 refine FCall.enterD hT hmix Tryz.func59 rfl rfl rfl rfl rfl rfl rfl rfl rfl rfl (fun hbd => ?_)
 (conv => whnf)
 refine ⟨[(0, 0), (8, 0)], rfl, by simp, fun ds => ?_⟩
 cases hd : decO r with
 | ok p =>
  obtain ⟨l, x⟩ := p
  (conv => whnf)
  refine CallLeaf.oa [5136] (object_ok r l x hd hr) rfl rfl rfl rfl ?_
  (conv => whnf)
  refine Door.o [0, 8] (by (repeat' (first | exact ArgsTo.nil | refine ArgsTo.cons ?_ ?_ | exact ArgTo.mk' rfl (Wk.refl _) | exact ArgTo.mk' rfl Wk.nilm | exact ArgTo.mk' rfl (Wk.int (by simp)) | exact ArgTo.mk' rfl (Wk.list _ _) | exact ArgTo.mk' rfl (Wk.agg (by (repeat' (first | exact Wks.nil | refine Wks.cons ?_ ?_ | exact Wk.refl _ | exact Wk.nilm | exact Wk.list _ _  | exact Wk.natN rfl | refine Wk.agg ?_))))))) (door_n l x 0) rfl rfl (by (repeat' (first | exact trivial | exact rfl | refine And.intro ?_ ?_))) (by (repeat' (first | exact trivial | exact rfl | refine And.intro ?_ ?_))) (by (repeat' (first | exact trivial | exact rfl | refine And.intro ?_ ?_))) rfl rfl (fun d h => nomatch h) ?_
  (conv => whnf)
  refine ⟨[], rfl, by (try unfold pullOk); (repeat' (first | exact trivial | exact ObWk.refl _ | refine And.intro ?_ ?_ | unfold pullOk)), ?_⟩
  exact Wk.refl _
 | error e =>
  (conv => whnf)
  refine CallLeaf.po [5136] (by (repeat' (first | exact ArgsTo.nil | refine ArgsTo.cons ?_ ?_ | exact ArgTo.mk' rfl (Wk.refl _) | exact ArgTo.mk' rfl Wk.nilm | exact ArgTo.mk' rfl (Wk.int (by simp)) | exact ArgTo.mk' rfl (Wk.list _ _) | exact ArgTo.mk' rfl (Wk.agg (by (repeat' (first | exact Wks.nil | refine Wks.cons ?_ ?_ | exact Wk.refl _ | exact Wk.nilm | exact Wk.list _ _  | exact Wk.natN rfl | refine Wk.agg ?_))))))) (object_f r e hd hr) rfl rfl (by (repeat' (first | exact trivial | exact rfl | refine And.intro ?_ ?_))) (by (repeat' (first | exact trivial | exact rfl | refine And.intro ?_ ?_))) (by (repeat' (first | exact trivial | exact rfl | refine And.intro ?_ ?_))) rfl rfl ?_
  (conv => whnf)
  refine Door.o [0, 8] (by (repeat' (first | exact ArgsTo.nil | refine ArgsTo.cons ?_ ?_ | exact ArgTo.mk' rfl (Wk.refl _) | exact ArgTo.mk' rfl Wk.nilm | exact ArgTo.mk' rfl (Wk.int (by simp)) | exact ArgTo.mk' rfl (Wk.list _ _) | exact ArgTo.mk' rfl (Wk.agg (by (repeat' (first | exact Wks.nil | refine Wks.cons ?_ ?_ | exact Wk.refl _ | exact Wk.nilm | exact Wk.list _ _  | exact Wk.natN rfl | refine Wk.agg ?_))))))) (door_p 0 e) rfl rfl (by (repeat' (first | exact trivial | exact rfl | refine And.intro ?_ ?_))) (by (repeat' (first | exact trivial | exact rfl | refine And.intro ?_ ?_))) (by (repeat' (first | exact trivial | exact rfl | refine And.intro ?_ ?_))) rfl rfl (fun d h => by injection h with h; subst h; exact fun _ => rfl) ?_
  (conv => whnf)
  refine ⟨[], rfl, by (try unfold pullOk); (repeat' (first | exact trivial | exact ObWk.refl _ | refine And.intro ?_ ?_ | unfold pullOk)), ?_⟩
  exact Wk.tuple (Wks.cons (Wk.agg (Wks.cons (Wk.natN rfl) (Wks.cons (Wk.natN rfl) Wks.nil))) (Wks.cons (Wk.refl _) Wks.nil))
end Go.Proofs.YtenbpnlmpjndgaaGreatDoor.O

namespace Go.Proofs.YtenbpnlmpjndgaaGreatDoor.O
open Go Go.AL Go.AL.Ap Go.AL.Ob
set_option maxRecDepth 100000
set_option maxHeartbeats 4000000
theorem okL_step {l : List Ob.Sym} {k : Nat} {s : Ob.Sym} (h : l[k]? = some s) : okL [] (l.take (k + 1)) = (okL [] (l.take k) && (valid s && !Ob.has (l.take k) s.name)) := by
 rw [List.take_add_one, h, Option.toList_some, okL_app]
 simp [okL]
theorem okL_bad {l : List Ob.Sym} {k : Nat} {s : Ob.Sym} (h : l[k]? = some s) (hb : (valid s && !Ob.has (l.take k) s.name) = false) : validO l = false := by
 have h1 := okL_step h
 rw [hb, Bool.and_false] at h1
 have h2 := okL_app (l.take (k + 1)) (l.drop (k + 1)) []
 rw [List.take_append_drop, h1, Bool.false_and] at h2
 simp [validO, h2]
end Go.Proofs.YtenbpnlmpjndgaaGreatDoor.O

namespace Go.Proofs.YtenbpnlmpjndgaaGreatDoor.O
open Go Go.AL Go.AL.Ap Go.AL.Ob
set_option maxRecDepth 100000
set_option maxHeartbeats 4000000
def encRO' (o : Ob.Obj) : List UInt8 × Int := if validO o.syms then (encO o, 0) else ([], 12)
theorem encL_take {l : List Ob.Sym} {k : Nat} {s : Ob.Sym} (h : l[k]? = some s) : encL (l.take (k + 1)) = encL (l.take k) ++ Ob.encS s := by
 rw [List.take_add_one, h]; simp [encL]
theorem encL_le (l : List Ob.Sym) (k : Nat) : (encL (l.take k)).length ≤ (encL l).length := by
 conv => rhs; rw [← List.take_append_drop k l]
 simp only [encL, List.flatMap_append, List.length_append]
 omega
theorem okL_mem : ∀ (l acc : List Ob.Sym), okL acc l = true → ∀ s ∈ l, valid s = true
 | [], _, _, s, h => by simp at h
 | x :: l, acc, h, s, hs => by
  simp only [okL, Bool.and_eq_true] at h
  rcases List.mem_cons.1 hs with rfl | hs
  ·exact h.1.1
  ·exact okL_mem l _ h.2 s hs
end Go.Proofs.YtenbpnlmpjndgaaGreatDoor.O
