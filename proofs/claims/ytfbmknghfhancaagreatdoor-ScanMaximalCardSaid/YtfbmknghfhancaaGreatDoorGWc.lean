/- The reference of objects: comparing, few symbols, encoding. No condition. -/
import Derived.Test.YtfbmknghfhancaaGreatDoorGAc
import Derived.Test.YtfbmknghfhancaaGreatDoorGWb
set_option linter.unusedVariables false
set_option linter.unusedSimpArgs false
namespace Go.Proofs.YtfbmknghfhancaaGreatDoor.O
open Go Go.AL Go.AL.Ap Go.AL.Ob
set_option maxRecDepth 100000
set_option maxHeartbeats 4000000
def fewO (o : Ob.Obj) : Bool := decide (o.syms.length ≤ 60) && (o.syms.all (fun s => decide (s.name.length ≤ 300)) && decide (o.body.length ≤ 1000))
theorem fewO_iff {o : Ob.Obj} : fewO o = true ↔ o.syms.length ≤ 60 ∧ (∀ s ∈ o.syms, s.name.length ≤ 300) ∧ o.body.length ≤ 1000 := by simp [fewO]
theorem ofew_ (l : List Ob.Sym) (x : List UInt8) : FCall Tryz.prog Gl 35 [oD ⟨l, x⟩] [] (vB (fewO ⟨l, x⟩)) [] := by
 refine FCall.enterL hT hmix [] Tryz.func35 rfl rfl rfl fun hbd => ?_
 (conv => whnf)
 refine LWp.loop hT hmix [] (fun k : Nat => [(3, vI k)]) (fun _ => []) (fun k => k ≤ l.length ∧ k ≤ 61 ∧ (l.take k).all (fun s => decide (s.name.length ≤ 300)) = true) (fun k => l.length - k) 0 ⟨Nat.zero_le _, Nat.zero_le _, rfl⟩ ?_
 (conv => whnf)
 refine ⟨?_, fun k ⟨hk, hk61, hkk⟩ => ?_⟩
 ·(repeat' (first | exact trivial | exact Wk.refl _ | exact ObWk.refl _ | exact rfl | exact ⟨_, rfl⟩ | exact Nat.zero_lt_one | refine And.intro ?_ ?_ | unfold okTo | (unfold okO; conv => whnf) | (unfold okS; conv => whnf) | (unfold SlotOk; conv => whnf) | (unfold ObjOk; conv => whnf) | (unfold okCells; conv => whnf) | (unfold liveTo; conv => whnf) | exact Nat.zero_lt_succ _))
 ·(conv => whnf)
  refine split_intro (fun h1 => ?_) (fun h1 => ?_)
  ·have hlt : k < l.length := by have := of_decide_eq_true h1; simp at this; omega
   obtain ⟨s, hs⟩ := exI hlt
   (conv => whnf)
   refine split_intro (fun h2 => ?_) (fun h2 => ?_)
   ·have h2' : (k : Int) ≤ 60 := of_decide_eq_true h2
    (conv => whnf)
    refine ⟨_, ⟨by omega, getMap hs⟩, ?_⟩
    (conv => whnf)
    refine split_intro (fun h3 => ?_) (fun h3 => ?_)
    ·have h3' : (300 : Int) < (sB s.name).size := of_decide_eq_true h3
     have hsz := sB_sz s.name
     (conv => whnf)
     exact Wk.bool (by
      symm; rw [Bool.eq_false_iff]; intro hc
      have := (fewO_iff.1 hc).2.1 s (List.mem_of_getElem? hs); omega)
    ·have h3' : ¬ (300 : Int) < (sB s.name).size := of_decide_eq_false h3
     have hsz := sB_sz s.name
     (conv => whnf)
     refine ⟨_, add64 (c := ((k + 1 : Nat) : Int)) (by omega) (by omega), ?_⟩
     (conv => whnf)
     refine ⟨k + 1, ⟨⟨by omega, by omega, ?_⟩, by simp only []; omega⟩, ?_⟩
     ·rw [List.take_add_one, hs, Option.toList_some, List.all_append, hkk]; simp; omega
     ·(repeat' (first | exact trivial | exact Wk.refl _ | exact ObWk.refl _ | exact rfl | exact ⟨_, rfl⟩ | exact Nat.zero_lt_one | refine And.intro ?_ ?_ | unfold okTo | (unfold okO; conv => whnf) | (unfold okS; conv => whnf) | (unfold SlotOk; conv => whnf) | (unfold ObjOk; conv => whnf) | (unfold okCells; conv => whnf) | (unfold liveTo; conv => whnf) | exact Nat.zero_lt_succ _))
   ·have h2' : ¬ (k : Int) ≤ 60 := of_decide_eq_false h2
    (conv => whnf)
    refine split_intro (fun h => absurd h (by (simp; omega))) (fun _ => ?_)
    (conv => whnf)
    exact Wk.bool (by
     symm; rw [Bool.eq_false_iff]; intro hc
     have := (fewO_iff.1 hc).1; simp only at this; omega)
  ·have hge : l.length ≤ k := by have := of_decide_eq_false h1; simp at this; omega
   rw [List.take_of_length_le hge] at hkk
   (conv => whnf)
   refine split_intro (fun h4 => ?_) (fun h4 => ?_)
   ·have h4' : l.length ≤ 60 := by have := of_decide_eq_true h4; simp at this; omega
    (conv => whnf)
    exact Wk.bool (by rw [Bool.eq_iff_iff]; simp only [fewO, hkk, h4', decide_true, Bool.true_and]; simp; omega)
   ·have h4' : ¬ l.length ≤ 60 := by have := of_decide_eq_false h4; simp at this; omega
    (conv => whnf)
    exact Wk.bool (by simp [fewO, h4'])
theorem plainS (s : Ob.Sym) : plainEq Tryz.prog 84 s.enc = true := by
 obtain ⟨a, b, c, d⟩ := s
 kernel_rfl
theorem eqS (a b : Ob.Sym) : eqCellsD a.enc b.enc = some (decide (a.name = b.name) && (a.bind == b.bind && (a.size == b.size && (a.align == b.align && true)))) := rfl
theorem eqS' (a b : Ob.Sym) : (decide (a.name = b.name) && (a.bind == b.bind && (a.size == b.size && (a.align == b.align && true)))) = decide (a = b) := by
 obtain ⟨a1, a2, a3, a4⟩ := a
 obtain ⟨b1, b2, b3, b4⟩ := b
 rw [Bool.eq_iff_iff]; simp
theorem orvalid_ (l : List Ob.Sym) (x : List UInt8) (hl : l.length ≤ 1000000000) (hn : ∀ s ∈ l, s.name.length ≤ 1000000000) : FCall Tryz.prog Gl 36 [oD ⟨l, x⟩] [] (vB (validO l)) [] := by
 refine FCall.enterL hT hmix [] Tryz.func36 rfl rfl rfl fun hbd => ?_
 (conv => whnf)
 refine LWp.loop hT hmix [] (fun k : Nat => [(3, vI k)]) (fun _ => []) (fun k => k ≤ l.length ∧ okL [] (l.take k) = true) (fun k => l.length - k) 0 ⟨Nat.zero_le _, rfl⟩ ?_
 (conv => whnf)
 refine ⟨?_, fun k ⟨hk, hkk⟩ => ?_⟩
 ·(repeat' (first | exact trivial | exact Wk.refl _ | exact ObWk.refl _ | exact rfl | exact ⟨_, rfl⟩ | exact Nat.zero_lt_one | refine And.intro ?_ ?_ | unfold okTo | (unfold okO; conv => whnf) | (unfold okS; conv => whnf) | (unfold SlotOk; conv => whnf) | (unfold ObjOk; conv => whnf) | (unfold okCells; conv => whnf) | (unfold liveTo; conv => whnf) | exact Nat.zero_lt_succ _))
 ·(conv => whnf)
  refine split_intro (fun h => ?_) (fun h => ?_)
  ·have hlt : k < l.length := by have := of_decide_eq_true h; simp at this; omega
   obtain ⟨s, hs⟩ := exI hlt
   (conv => whnf)
   refine ⟨_, ⟨by omega, getMap hs⟩, ?_⟩
   (conv => whnf)
   refine CallLeaf.wa (rsym_ s (hn s (List.mem_of_getElem? hs))) rfl ?_
   (conv => whnf)
   refine split_intro (fun hv => ?_) (fun hv => ?_)
   ·have hv' : valid s = false := by simpa using hv
    (conv => whnf)
    exact Wk.bool (okL_bad hs (by simp [hv'])).symm
   ·have hv' : valid s = true := by simpa using hv
    (conv => whnf)
    refine ⟨_, slTake (f := Ob.Sym.enc) (l := l) (b := k) (r := l.take k) rfl (by omega) (fun _ => rfl) rfl, ?_⟩
    (conv => whnf)
    refine ⟨_, ⟨by omega, getMap hs⟩, ?_⟩
    (conv => whnf)
    refine CallLeaf.wa (rhas_ (l.take k) s.name (by simp; omega)) rfl ?_
    (conv => whnf)
    refine split_intro (fun hh => ?_) (fun hh => ?_)
    ·have hh' : Ob.has (l.take k) s.name = true := hh
     (conv => whnf)
     exact Wk.bool (okL_bad hs (by simp [hh'])).symm
    ·have hh' : Ob.has (l.take k) s.name = false := hh
     (conv => whnf)
     refine ⟨_, add64 (c := ((k + 1 : Nat) : Int)) (by omega) (by omega), ?_⟩
     (conv => whnf)
     refine ⟨k + 1, ⟨⟨by omega, by rw [okL_step hs, hkk, hv', hh']; rfl⟩, by simp only []; omega⟩, ?_⟩
     (repeat' (first | exact trivial | exact Wk.refl _ | exact ObWk.refl _ | exact rfl | exact ⟨_, rfl⟩ | exact Nat.zero_lt_one | refine And.intro ?_ ?_ | unfold okTo | (unfold okO; conv => whnf) | (unfold okS; conv => whnf) | (unfold SlotOk; conv => whnf) | (unfold ObjOk; conv => whnf) | (unfold okCells; conv => whnf) | (unfold liveTo; conv => whnf) | exact Nat.zero_lt_succ _))
  ·have hge : l.length ≤ k := by have := of_decide_eq_false h; simp at this; omega
   rw [List.take_of_length_le hge] at hkk
   (conv => whnf)
   exact Wk.bool (by simp only [validO, hkk, Bool.true_and]; congr 1; simp; omega)
theorem orencode_ (l : List Ob.Sym) (x : List UInt8) (hx : (encO ⟨l, x⟩).length ≤ 1000000000) (hn : ∀ s ∈ l, s.name.length ≤ 1000000000) : FCall Tryz.prog Gl 55 [oD ⟨l, x⟩] [] (.tuple [LBn (encRO' ⟨l, x⟩).1, vI (encRO' ⟨l, x⟩).2]) [] := by
 have hlen : (encO ⟨l, x⟩).length = 8 + (encL l).length + x.length := by simp [encO, magic, W4]; omega
 have hll : l.length ≤ (encL l).length := by
  clear hx hlen hn
  induction l with
  | nil => simp
  | cons s l ih => 
   have : encL (s :: l) = Ob.encS s ++ encL l := by simp [encL]
   rw [this]; simp [Ob.encS]; omega
 refine FCall.enterL hT hmix [] Tryz.func55 rfl rfl rfl fun hbd => ?_
 (conv => whnf)
 refine CallLeaf.wa (orvalid_ l x (by omega) hn) rfl ?_
 (conv => whnf)
 refine split_intro (fun hv => ?_) (fun hv => ?_)
 ·have hv' : validO l = false := by simpa using hv
  have hR : encRO' ⟨l, x⟩ = ([], 12) := by simp [encRO', hv']
  rw [hR]
  (conv => whnf)
  exact Wk.tuple (Wks.cons (Wk.natN rfl) (Wks.cons (Wk.refl _) Wks.nil))
 ·have hv' : validO l = true := by simpa using hv
  have hR : encRO' ⟨l, x⟩ = (encO ⟨l, x⟩, 0) := by simp [encRO', hv']
  have hok := hv'
  simp only [validO, Bool.and_eq_true, decide_eq_true_eq] at hok
  rw [hR]
  have hm : magic.length = 4 := rfl
  (conv => whnf)
  refine CallLeaf.wa (word_ l.length (by omega)) rfl ?_
  (conv => whnf)
  refine ⟨_, appL (f := byteD) (xs := magic) (ys := W4 l.length) (zs := magic ++ W4 l.length) rfl rfl (fun _ => rfl) rfl (by simp only [List.length_append, List.length_singleton, W4_len] at *; show _ * 1 ≤ _; omega), ?_⟩
  (conv => whnf)
  refine LWp.loop hT hmix [] (fun k : Nat => [(5, vI k), (4, .list (.tok 1536) (B (magic ++ W4 l.length ++ encL (l.take k))))]) (fun k => [(1536, .tok (B (magic ++ W4 l.length ++ encL (l.take k))).length 1)]) (fun k => k ≤ l.length) (fun k => l.length - k) 0 (Nat.zero_le _) ?_
  (conv => whnf)
  refine ⟨?_, fun k hk => ?_⟩
  ·(repeat' (first | exact trivial | exact Wk.refl _ | exact ObWk.refl _ | exact rfl | exact ⟨_, rfl⟩ | exact Nat.zero_lt_one | refine And.intro ?_ ?_ | unfold okTo | (unfold okO; conv => whnf) | (unfold okS; conv => whnf) | (unfold SlotOk; conv => whnf) | (unfold ObjOk; conv => whnf) | (unfold okCells; conv => whnf) | (unfold liveTo; conv => whnf) | exact Nat.zero_lt_succ _))
  ·have hn1 := encL_le l k
   have hn2 := encL_le l (k + 1)
   (conv => whnf)
   refine split_intro (fun h => ?_) (fun h => ?_)
   ·have hlt : k < l.length := by have := of_decide_eq_true h; simp at this; omega
    obtain ⟨s, hs⟩ := exI hlt
    have e3 := encL_take hs
    have hle : (encL (l.take k)).length + (Ob.encS s).length = (encL (l.take (k + 1))).length := by rw [e3]; simp
    have hsl := encS_len s
    have hval := okL_mem _ _ hok.1 s (List.mem_of_getElem? hs)
    obtain ⟨v1, v2, v3, v4, v5, v6⟩ := valid_iff.1 hval
    obtain ⟨b1, b2, b3, b4⟩ := bind_le v6
    obtain ⟨nm, bd, sz, al⟩ := s
    obtain ⟨bd, rfl⟩ := Int.eq_ofNat_of_zero_le (show 0 ≤ bd by simp only at b1; omega)
    obtain ⟨sz, rfl⟩ := Int.eq_ofNat_of_zero_le (show 0 ≤ sz from v4)
    obtain ⟨al, rfl⟩ := Int.eq_ofNat_of_zero_le (show 0 ≤ al from b3)
    simp only at v1 v2 v3 v4 v5 v6 b1 b2 b3 b4 hsl
    (conv => whnf)
    refine ⟨_, ⟨by omega, getMap hs⟩, ?_⟩
    (conv => whnf)
    refine ⟨_, wrapU8 _, ?_⟩
    (conv => whnf)
    refine ⟨_, appL (f := byteD) (xs := magic ++ W4 l.length ++ encL (l.take k)) (ys := [UInt8.ofNat bd]) (zs := magic ++ W4 l.length ++ encL (l.take k) ++ [UInt8.ofNat bd]) rfl rfl (fun _ => rfl) rfl (by simp only [List.length_append, List.length_singleton, W4_len] at *; show _ * 1 ≤ _; omega), ?_⟩
    (conv => whnf)
    refine CallLeaf.wa (word_ sz (by omega)) rfl ?_
    (conv => whnf)
    refine ⟨_, appL (f := byteD) (xs := magic ++ W4 l.length ++ encL (l.take k) ++ [UInt8.ofNat bd]) (ys := W4 sz) (zs := magic ++ W4 l.length ++ encL (l.take k) ++ [UInt8.ofNat bd] ++ W4 sz) rfl rfl (fun _ => rfl) rfl (by simp only [List.length_append, List.length_singleton, W4_len] at *; show _ * 1 ≤ _; omega), ?_⟩
    (conv => whnf)
    refine CallLeaf.wa (word_ al (by omega)) rfl ?_
    (conv => whnf)
    refine ⟨_, appL (f := byteD) (xs := magic ++ W4 l.length ++ encL (l.take k) ++ [UInt8.ofNat bd] ++ W4 sz) (ys := W4 al) (zs := magic ++ W4 l.length ++ encL (l.take k) ++ [UInt8.ofNat bd] ++ W4 sz ++ W4 al) rfl rfl (fun _ => rfl) rfl (by simp only [List.length_append, List.length_singleton, W4_len] at *; show _ * 1 ≤ _; omega), ?_⟩
    (conv => whnf)
    refine ⟨_, wrapU8 _, ?_⟩
    (conv => whnf)
    refine ⟨_, appL (f := byteD) (xs := magic ++ W4 l.length ++ encL (l.take k) ++ [UInt8.ofNat bd] ++ W4 sz ++ W4 al) (ys := [UInt8.ofNat nm.length]) (zs := magic ++ W4 l.length ++ encL (l.take k) ++ [UInt8.ofNat bd] ++ W4 sz ++ W4 al ++ [UInt8.ofNat nm.length]) rfl rfl (fun _ => rfl) rfl (by simp only [List.length_append, List.length_singleton, W4_len] at *; show _ * 1 ≤ _; omega), ?_⟩
    (conv => whnf)
    refine ⟨_, appL (f := byteD) (xs := magic ++ W4 l.length ++ encL (l.take k) ++ [UInt8.ofNat bd] ++ W4 sz ++ W4 al ++ [UInt8.ofNat nm.length]) (ys := nm) (zs := magic ++ W4 l.length ++ encL (l.take k) ++ [UInt8.ofNat bd] ++ W4 sz ++ W4 al ++ [UInt8.ofNat nm.length] ++ nm) rfl rfl (fun _ => rfl) rfl (by simp only [List.length_append, List.length_singleton, W4_len] at *; show _ * 1 ≤ _; omega), ?_⟩
    (conv => whnf)
    refine ⟨_, add64 (c := ((k + 1 : Nat) : Int)) (by omega) (by omega), ?_⟩
    (conv => whnf)
    have e4 : magic ++ W4 l.length ++ encL (l.take k) ++ [UInt8.ofNat bd] ++ W4 sz ++ W4 al ++ [UInt8.ofNat nm.length] ++ nm = magic ++ W4 l.length ++ encL (l.take (k + 1)) := by rw [e3]; simp [Ob.encS]
    refine ⟨k + 1, ⟨by omega, by simp only []; omega⟩, ?_⟩
    simp only [← e4]
    (repeat' (first | exact trivial | exact Wk.refl _ | exact ObWk.refl _ | exact rfl | exact ⟨_, rfl⟩ | exact Nat.zero_lt_one | refine And.intro ?_ ?_ | unfold okTo | (unfold okO; conv => whnf) | (unfold okS; conv => whnf) | (unfold SlotOk; conv => whnf) | (unfold ObjOk; conv => whnf) | (unfold okCells; conv => whnf) | (unfold liveTo; conv => whnf) | exact Nat.zero_lt_succ _))
   ·have hge : l.length ≤ k := by have := of_decide_eq_false h; simp at this; omega
    (conv => whnf)
    refine ⟨_, appL (f := byteD) (xs := magic ++ W4 l.length ++ encL (l.take k)) (ys := x) (zs := magic ++ W4 l.length ++ encL (l.take k) ++ x) rfl rfl (fun _ => rfl) rfl (by simp only [List.length_append, List.length_singleton, W4_len] at *; show _ * 1 ≤ _; omega), ?_⟩
    (conv => whnf)
    exact Wk.tuple (Wks.cons (Wk.nat' (by rw [List.take_of_length_le hge]; rfl)) (Wks.cons (Wk.refl _) Wks.nil))
end Go.Proofs.YtfbmknghfhancaaGreatDoor.O

namespace Go.Proofs.YtfbmknghfhancaaGreatDoor.O
open Go Go.AL Go.AL.Ap Go.AL.Ob
set_option maxRecDepth 100000
set_option maxHeartbeats 4000000
theorem nextS_short {r : List UInt8} {p : Nat} (h : r.length < p + 10) : nextS (r.drop p) = none := by
 unfold nextS
 rw [if_pos (by simp; omega)]
theorem nextS_at {r : List UInt8} {p : Nat} {u v : UInt8} (hu : r[p + 9]? = some u) (hv : r[p]? = some v) : nextS (r.drop p) = if r.length < p + 10 + u.toNat then none else
  some (⟨(r.drop (p + 10)).take u.toNat, (v.toNat : Int), (num ((r.drop (p + 1)).take 4) : Int), (num ((r.drop (p + 5)).take 4) : Int)⟩, r.drop (p + 10 + u.toNat)) := by
 have hl : p + 9 < r.length := (List.getElem?_eq_some_iff.1 hu).1
 have e9 : (r.drop p).getD 9 0 = u := by simp [List.getD, List.getElem?_drop, hu]
 have e0 : (r.drop p).getD 0 0 = v := by simp [List.getD, List.getElem?_drop, hv]
 unfold nextS
 rw [e9, e0, num_take (by simp; omega), num_take (by simp; omega)]
 simp only [List.drop_drop, List.length_drop]
 by_cases c : r.length < p + 10 + u.toNat
 ·rw [if_pos c, if_pos (by omega)]
 ·rw [if_neg c, if_neg (by omega), show p + (10 + u.toNat) = p + 10 + u.toNat by omega]
theorem ordecode_ (r : List UInt8) (hr : r.length ≤ 1000000000) : FCall Tryz.prog Gl 15 [LB r] [] (.tuple [oDn (encRO (decO r)).1, vI (encRO (decO r)).2]) [] := by
 generalize hR : decO r = R
 unfold decO at hR
 refine FCall.enterL hT hmix [] Tryz.func15 rfl rfl rfl fun hbd => ?_
 (conv => whnf)
 refine split_intro (fun h4 => ?_) (fun h4 => ?_)
 ·have h4' : r.length < 4 := by have := of_decide_eq_true h4; simp at this; omega
  rw [if_pos h4'] at hR; subst hR
  (conv => whnf)
  (exact Wk.tuple (Wks.cons (Wk.agg (Wks.cons (Wk.natN rfl) (Wks.cons (Wk.natN rfl) Wks.nil))) (Wks.cons (Wk.refl _) Wks.nil)))
 have h4' : ¬ r.length < 4 := by have := of_decide_eq_false h4; simp at this; omega
 rw [if_neg h4'] at hR
 (conv => whnf)
 refine ⟨_, slTake (f := byteD) (l := r) (b := 4) (r := r.take 4) rfl (by omega) (fun _ => rfl) rfl, ?_⟩
 (conv => whnf)
 refine ⟨r.take 4, rfl, ?_⟩
 (conv => whnf)
 refine split_intro (fun hm => ?_) (fun hm => ?_)
 ·have hm' : r.take 4 ≠ magic := by simpa [magic] using hm
  rw [if_pos hm'] at hR; subst hR
  (conv => whnf)
  (exact Wk.tuple (Wks.cons (Wk.agg (Wks.cons (Wk.natN rfl) (Wks.cons (Wk.natN rfl) Wks.nil))) (Wks.cons (Wk.refl _) Wks.nil)))
 have hm' : r.take 4 = magic := by simpa [magic] using hm
 rw [if_neg (by simp [hm'])] at hR
 (conv => whnf)
 refine split_intro (fun h8 => ?_) (fun h8 => ?_)
 ·have h8' : r.length < 8 := by have := of_decide_eq_true h8; simp at this; omega
  rw [if_pos h8'] at hR; subst hR
  (conv => whnf)
  (exact Wk.tuple (Wks.cons (Wk.agg (Wks.cons (Wk.natN rfl) (Wks.cons (Wk.natN rfl) Wks.nil))) (Wks.cons (Wk.refl _) Wks.nil)))
 have h8' : ¬ r.length < 8 := by have := of_decide_eq_false h8; simp at this; omega
 rw [if_neg h8'] at hR
 (conv => whnf)
 refine ⟨_, slN (f := byteD) (l := r) (a := 4) (b := 8) (r := (r.drop 4).take 4) rfl rfl (by omega) (by omega) (fun _ => rfl) (by rw [List.drop_take]), ?_⟩
 (conv => whnf)
 have N1 := number_ ((r.drop 4).take 4) (by simp; omega)
 rw [num_take (by simp; omega)] at N1
 have hn32 := num_lt (r.drop 4)
 generalize hnn : num (r.drop 4) = n at *
 refine CallLeaf.wa (N1) rfl ?_
 (conv => whnf)
 refine split_intro (fun hn => ?_) (fun hn => ?_)
 ·have hn' : 65536 < n := by have := of_decide_eq_true hn; omega
  rw [if_pos hn'] at hR; subst hR
  (conv => whnf)
  (exact Wk.tuple (Wks.cons (Wk.agg (Wks.cons (Wk.natN rfl) (Wks.cons (Wk.natN rfl) Wks.nil))) (Wks.cons (Wk.refl _) Wks.nil)))
 have hn' : ¬ 65536 < n := by have := of_decide_eq_false hn; omega
 rw [if_neg hn'] at hR
 (conv => whnf)
 refine LWp.loop hT hmix [] (fun x : Nat × Nat × List Ob.Sym => [(7, vI x.1), (6, vI x.2.1)]) (fun x => [(5120, .cells [.list (.tok 403) (SE x.2.2), .nil]), (403, .tok (SE x.2.2).length 4)]) (fun y => y.1 ≤ n ∧ y.2.1 ≤ r.length ∧ y.2.2.length = y.1 ∧ Ob.decL (n - y.1) (r.drop y.2.1) y.2.2 = R) (fun x => n - x.1) (0, 8, []) ⟨Nat.zero_le _, by show 8 ≤ r.length; omega, rfl, hR⟩ ?_
 (conv => whnf)
 refine ⟨?_, fun ⟨k, p, acc⟩ ⟨hk, hp, ha, hd⟩ => ?_⟩
 ·(repeat' (first | exact trivial | exact Wk.refl _ | exact ObWk.refl _ | exact rfl | exact ⟨_, rfl⟩ | exact Nat.zero_lt_one | refine And.intro ?_ ?_ | unfold okTo | (unfold okO; conv => whnf) | (unfold okS; conv => whnf) | (unfold SlotOk; conv => whnf) | (unfold ObjOk; conv => whnf) | (unfold okCells; conv => whnf) | (unfold liveTo; conv => whnf) | exact Nat.zero_lt_succ _))
 ·replace hk : k ≤ n := hk
  replace hp : p ≤ r.length := hp
  replace ha : acc.length = k := ha
  replace hd : Ob.decL (n - k) (r.drop p) acc = R := hd
  (conv => whnf)
  refine split_intro (fun hl => ?_) (fun hl => ?_)
  ·have hlt : k < n := by have := of_decide_eq_true hl; omega
   obtain ⟨m, hmm⟩ : ∃ m, n - k = m + 1 := ⟨n - k - 1, by omega⟩
   rw [hmm, Ob.decL] at hd
   (conv => whnf)
   refine ⟨_, add64 (c := ((p + 10 : Nat) : Int)) (by (try simp only []); omega) (by omega), ?_⟩
   (conv => whnf)
   refine split_intro (fun h1 => ?_) (fun h1 => ?_)
   ·have h1' : r.length < p + 10 := by have := of_decide_eq_true h1; simp at this; omega
    rw [nextS_short h1'] at hd
    subst hd
    (conv => whnf)
    (exact Wk.tuple (Wks.cons (Wk.agg (Wks.cons (Wk.natN rfl) (Wks.cons (Wk.natN rfl) Wks.nil))) (Wks.cons (Wk.refl _) Wks.nil)))
   ·have h1' : ¬ r.length < p + 10 := by have := of_decide_eq_false h1; simp at this; omega
    obtain ⟨u, hu⟩ := exI (l := r) (k := p + 9) (by omega)
    obtain ⟨v, hv⟩ := exI (l := r) (k := p) (by omega)
    have hu8 := u.toNat_lt
    have hv8 := v.toNat_lt
    (conv => whnf)
    refine ⟨_, add64 (c := ((p + 10 : Nat) : Int)) (by (try simp only []); omega) (by omega), ?_⟩
    (conv => whnf)
    refine ⟨_, add64 (c := ((p + 9 : Nat) : Int)) (by (try simp only []); omega) (by omega), ?_⟩
    (conv => whnf)
    refine ⟨_, ⟨by omega, getMap hu⟩, ?_⟩
    (conv => whnf)
    refine ⟨_, wrap64 (by omega), ?_⟩
    (conv => whnf)
    refine ⟨_, add64 (c := ((p + 10 + u.toNat : Nat) : Int)) (by (try simp only []); omega) (by omega), ?_⟩
    (conv => whnf)
    refine split_intro (fun h2 => ?_) (fun h2 => ?_)
    ·have h2' : r.length < p + 10 + u.toNat := by have := of_decide_eq_true h2; simp at this; omega
     rw [nextS_at hu hv, if_pos h2'] at hd
     subst hd
     (conv => whnf)
     (exact Wk.tuple (Wks.cons (Wk.agg (Wks.cons (Wk.natN rfl) (Wks.cons (Wk.natN rfl) Wks.nil))) (Wks.cons (Wk.refl _) Wks.nil)))
    ·have h2' : ¬ r.length < p + 10 + u.toNat := by have := of_decide_eq_false h2; simp at this; omega
     obtain ⟨s, hS⟩ : ∃ s, (⟨(r.drop (p + 10)).take u.toNat, (v.toNat : Int), (num ((r.drop (p + 1)).take 4) : Int), (num ((r.drop (p + 5)).take 4) : Int)⟩ : Ob.Sym) = s := ⟨_, rfl⟩
     rw [nextS_at hu hv, if_neg h2', hS] at hd
     simp only at hd
     (conv => whnf)
     refine ⟨_, add64 (c := ((p + 10 : Nat) : Int)) (by (try simp only []); omega) (by omega), ?_⟩
     (conv => whnf)
     refine ⟨_, add64 (c := ((p + 9 : Nat) : Int)) (by (try simp only []); omega) (by omega), ?_⟩
     (conv => whnf)
     refine ⟨_, ⟨by omega, getMap hu⟩, ?_⟩
     (conv => whnf)
     refine ⟨_, wrap64 (by omega), ?_⟩
     (conv => whnf)
     refine ⟨_, add64 (c := ((p + 10 + u.toNat : Nat) : Int)) (by (try simp only []); omega) (by omega), ?_⟩
     (conv => whnf)
     refine ⟨_, add64 (c := ((p + 10 : Nat) : Int)) (by (try simp only []); omega) (by omega), ?_⟩
     (conv => whnf)
     refine ⟨_, slN (f := byteD) (l := r) (a := p + 10) (b := p + 10 + u.toNat) (r := (r.drop (p + 10)).take u.toNat) rfl rfl (by omega) (by omega) (fun _ => rfl) (by rw [List.drop_take]; congr 1; omega), ?_⟩
     (conv => whnf)
     refine ⟨(r.drop (p + 10)).take u.toNat, rfl, ?_⟩
     (conv => whnf)
     refine ⟨_, ⟨by omega, getMap hv⟩, ?_⟩
     (conv => whnf)
     refine ⟨_, wrap64 (by omega), ?_⟩
     (conv => whnf)
     refine ⟨_, add64 (c := ((p + 1 : Nat) : Int)) (by (try simp only []); omega) (by omega), ?_⟩
     (conv => whnf)
     refine ⟨_, add64 (c := ((p + 5 : Nat) : Int)) (by (try simp only []); omega) (by omega), ?_⟩
     (conv => whnf)
     refine ⟨_, slN (f := byteD) (l := r) (a := p + 1) (b := p + 5) (r := (r.drop (p + 1)).take 4) rfl rfl (by omega) (by omega) (fun _ => rfl) (by rw [List.drop_take]; congr 1; omega), ?_⟩
     (conv => whnf)
     refine CallLeaf.wa (number_ ((r.drop (p + 1)).take 4) (by simp; omega)) rfl ?_
     (conv => whnf)
     refine ⟨_, add64 (c := ((p + 5 : Nat) : Int)) (by (try simp only []); omega) (by omega), ?_⟩
     (conv => whnf)
     refine ⟨_, add64 (c := ((p + 9 : Nat) : Int)) (by (try simp only []); omega) (by omega), ?_⟩
     (conv => whnf)
     refine ⟨_, slN (f := byteD) (l := r) (a := p + 5) (b := p + 9) (r := (r.drop (p + 5)).take 4) rfl rfl (by omega) (by omega) (fun _ => rfl) (by rw [List.drop_take]; congr 1; omega), ?_⟩
     (conv => whnf)
     refine CallLeaf.wa (number_ ((r.drop (p + 5)).take 4) (by simp; omega)) rfl ?_
     (conv => whnf)
     have hC := rsym_ s (by rw [← hS]; simp only [List.length_take, List.length_drop]; omega)
     have eN : s.name = (r.drop (p + 10)).take u.toNat := by rw [← hS]
     have hH := rhas_ acc s.name (by omega)
     rw [← hS] at hC
     rw [eN] at hH
     refine CallLeaf.wa (hC) rfl ?_
     (conv => whnf)
     refine split_intro (fun hv1 => ?_) (fun hv1 => ?_)
     ·have hv' : valid s = false := by rw [hS] at hv1; simpa using hv1
      rw [hv'] at hd
      simp only [Bool.false_and, Bool.false_eq_true, if_false] at hd
      subst hd
      (conv => whnf)
      (exact Wk.tuple (Wks.cons (Wk.agg (Wks.cons (Wk.natN rfl) (Wks.cons (Wk.natN rfl) Wks.nil))) (Wks.cons (Wk.refl _) Wks.nil)))
     ·have hv' : valid s = true := by rw [hS] at hv1; simpa using hv1
      (conv => whnf)
      refine CallLeaf.wa (hH) rfl ?_
      (conv => whnf)
      rw [← eN]
      refine split_intro (fun hh => ?_) (fun hh => ?_)
      ·rw [hv', hh] at hd
       simp only [Bool.not_true, Bool.and_false, Bool.false_eq_true, if_false] at hd
       subst hd
       (conv => whnf)
       (exact Wk.tuple (Wks.cons (Wk.agg (Wks.cons (Wk.natN rfl) (Wks.cons (Wk.natN rfl) Wks.nil))) (Wks.cons (Wk.refl _) Wks.nil)))
      ·rw [hv', hh] at hd
       simp only [Bool.not_false, Bool.and_self, if_true] at hd
       (conv => whnf)
       subst hS
       refine ⟨_, appL (f := Ob.Sym.enc) (xs := acc) (ys := [(⟨(r.drop (p + 10)).take u.toNat, (v.toNat : Int), (num ((r.drop (p + 1)).take 4) : Int), (num ((r.drop (p + 5)).take 4) : Int)⟩ : Ob.Sym)]) (zs := acc ++ [(⟨(r.drop (p + 10)).take u.toNat, (v.toNat : Int), (num ((r.drop (p + 1)).take 4) : Int), (num ((r.drop (p + 5)).take 4) : Int)⟩ : Ob.Sym)]) rfl rfl (fun _ => rfl) rfl (by rw [List.length_append]; show (_ + 1) * 40 ≤ _; omega), ?_⟩
       (conv => whnf)
       refine ⟨_, add64 (c := ((k + 1 : Nat) : Int)) (by omega) (by omega), ?_⟩
       (conv => whnf)
       refine ⟨(k + 1, p + 10 + u.toNat, acc ++ [(⟨(r.drop (p + 10)).take u.toNat, (v.toNat : Int), (num ((r.drop (p + 1)).take 4) : Int), (num ((r.drop (p + 5)).take 4) : Int)⟩ : Ob.Sym)]), ⟨⟨by show k + 1 ≤ n; omega, by show p + 10 + u.toNat ≤ r.length; omega, by simp [ha], ?_⟩, by show n - (k + 1) < n - k; omega⟩, ?_⟩
       ·show Ob.decL (n - (k + 1)) (r.drop (p + 10 + u.toNat)) (acc ++ [(⟨(r.drop (p + 10)).take u.toNat, (v.toNat : Int), (num ((r.drop (p + 1)).take 4) : Int), (num ((r.drop (p + 5)).take 4) : Int)⟩ : Ob.Sym)]) = R
        rw [show n - (k + 1) = m by omega]; exact hd
       ·(repeat' (first | exact trivial | exact Wk.refl _ | exact ObWk.refl _ | exact rfl | exact ⟨_, rfl⟩ | exact Nat.zero_lt_one | refine And.intro ?_ ?_ | unfold okTo | (unfold okO; conv => whnf) | (unfold okS; conv => whnf) | (unfold SlotOk; conv => whnf) | (unfold ObjOk; conv => whnf) | (unfold okCells; conv => whnf) | (unfold liveTo; conv => whnf) | exact Nat.zero_lt_succ _))
  ·have hge : n - k = 0 := by have := of_decide_eq_false hl; omega
   rw [hge, Ob.decL] at hd
   subst hd
   (conv => whnf)
   refine ⟨_, slDrop (f := byteD) (l := r) (a := p) (r := r.drop p) rfl hp (fun _ => rfl) rfl, ?_⟩
   (conv => whnf)
   refine ⟨_, appL (f := byteD) (xs := []) (ys := r.drop p) (zs := r.drop p) rfl rfl (fun _ => rfl) rfl (by rw [List.length_drop]; show _ * 1 ≤ _; omega), ?_⟩
   (conv => whnf)
   exact Wk.tuple (Wks.cons (Wk.agg (Wks.cons (Wk.nat' rfl) (Wks.cons (Wk.nat' rfl) Wks.nil))) (Wks.cons (Wk.refl _) Wks.nil))
end Go.Proofs.YtfbmknghfhancaaGreatDoor.O
