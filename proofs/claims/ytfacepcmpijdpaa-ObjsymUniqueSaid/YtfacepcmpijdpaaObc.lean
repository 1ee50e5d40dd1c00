/- The reference of objects: comparing, few symbols, encoding. No condition. -/
import Derived.Test.YtfacepcmpijdpaaObb
import Derived.Test.YtfacepcmpijdpaaAnC
import Derived.Test.YtfacepcmpijdpaaRows
import Derived.Stop.Joined
import Derived.JoinedOf
import Derived.SizedLaws
set_option linter.unusedVariables false
set_option linter.unusedSimpArgs false
namespace Go.Proofs.Ytfacepcmpijdpaa
open Go Go.AL Go.AL.Ap Go.AL.Ob
set_option maxRecDepth 100000
set_option maxHeartbeats 4000000
def fewO (o : Ob.Obj) : Bool := decide (o.syms.length ≤ 60) && (o.syms.all (fun s => decide (s.name.length ≤ 300)) && decide (o.body.length ≤ 1000))
theorem fewO_iff {o : Ob.Obj} : fewO o = true ↔ o.syms.length ≤ 60 ∧ (∀ s ∈ o.syms, s.name.length ≤ 300) ∧ o.body.length ≤ 1000 := by simp [fewO]
theorem ofew_ (l : List Ob.Sym) (x : List UInt8) : FCall Try.prog Gl 23 [oD ⟨l, x⟩] [] (vB (fewO ⟨l, x⟩)) [] := by
  refine FCall.enterL hT hmix [] Try.func23 rfl rfl rfl fun hbd => ?_
  (conv => whnf)
  refine LWp.loop hT hmix [] (fun k : Nat => [(3, vI k)]) (fun _ => []) (fun k => k ≤ l.length ∧ k ≤ 61 ∧ (l.take k).all (fun s => decide (s.name.length ≤ 300)) = true) (fun k => l.length - k) 0 ⟨Nat.zero_le _, Nat.zero_le _, rfl⟩ ?_
  (conv => whnf)
  refine ⟨?_, fun k ⟨hk, hk61, hkk⟩ => ?_⟩
  · (repeat' (first | exact trivial | exact Wk.refl _ | exact ObWk.refl _ | exact rfl | exact ⟨_, rfl⟩ | exact Nat.zero_lt_one | refine And.intro ?_ ?_ | unfold okTo | (unfold okO; conv => whnf) | (unfold okS; conv => whnf) | (unfold SlotOk; conv => whnf) | (unfold ObjOk; conv => whnf) | (unfold okCells; conv => whnf) | (unfold liveTo; conv => whnf) | exact Nat.zero_lt_succ _))
  · (conv => whnf)
    refine split_intro (fun h1 => ?_) (fun h1 => ?_)
    · have hlt : k < l.length := by have := of_decide_eq_true h1; simp at this; omega
      obtain ⟨s, hs⟩ := exI hlt
      (conv => whnf)
      refine split_intro (fun h2 => ?_) (fun h2 => ?_)
      · have h2' : (k : Int) ≤ 60 := of_decide_eq_true h2
        (conv => whnf)
        refine ⟨_, ⟨by omega, getMap hs⟩, ?_⟩
        (conv => whnf)
        refine split_intro (fun h3 => ?_) (fun h3 => ?_)
        · have h3' : (300 : Int) < (sB s.name).size := of_decide_eq_true h3
          have hsz := sB_sz s.name
          (conv => whnf)
          exact Wk.bool (by
            symm; rw [Bool.eq_false_iff]; intro hc
            have := (fewO_iff.1 hc).2.1 s (List.mem_of_getElem? hs); omega)
        · have h3' : ¬ (300 : Int) < (sB s.name).size := of_decide_eq_false h3
          have hsz := sB_sz s.name
          (conv => whnf)
          refine ⟨_, add64 (c := ((k + 1 : Nat) : Int)) (by omega) (by omega), ?_⟩
          (conv => whnf)
          refine ⟨k + 1, ⟨⟨by omega, by omega, ?_⟩, by simp only []; omega⟩, ?_⟩
          · rw [List.take_add_one, hs, Option.toList_some, List.all_append, hkk]; simp; omega
          · (repeat' (first | exact trivial | exact Wk.refl _ | exact ObWk.refl _ | exact rfl | exact ⟨_, rfl⟩ | exact Nat.zero_lt_one | refine And.intro ?_ ?_ | unfold okTo | (unfold okO; conv => whnf) | (unfold okS; conv => whnf) | (unfold SlotOk; conv => whnf) | (unfold ObjOk; conv => whnf) | (unfold okCells; conv => whnf) | (unfold liveTo; conv => whnf) | exact Nat.zero_lt_succ _))
      · have h2' : ¬ (k : Int) ≤ 60 := of_decide_eq_false h2
        (conv => whnf)
        refine split_intro (fun h => absurd h (by (simp; omega))) (fun _ => ?_)
        (conv => whnf)
        exact Wk.bool (by
          symm; rw [Bool.eq_false_iff]; intro hc
          have := (fewO_iff.1 hc).1; simp only at this; omega)
    · have hge : l.length ≤ k := by have := of_decide_eq_false h1; simp at this; omega
      rw [List.take_of_length_le hge] at hkk
      (conv => whnf)
      refine split_intro (fun h4 => ?_) (fun h4 => ?_)
      · have h4' : l.length ≤ 60 := by have := of_decide_eq_true h4; simp at this; omega
        (conv => whnf)
        exact Wk.bool (by rw [Bool.eq_iff_iff]; simp only [fewO, hkk, h4', decide_true, Bool.true_and]; simp; omega)
      · have h4' : ¬ l.length ≤ 60 := by have := of_decide_eq_false h4; simp at this; omega
        (conv => whnf)
        exact Wk.bool (by simp [fewO, h4'])
theorem plainS (s : Ob.Sym) : plainEq Try.prog 53 s.enc = true := by
  obtain ⟨a, b, c, d⟩ := s
  kernel_rfl
theorem eqS (a b : Ob.Sym) : eqCellsD a.enc b.enc = some (decide (a.name = b.name) && (a.bind == b.bind && (a.size == b.size && (a.align == b.align && true)))) := rfl
theorem eqS' (a b : Ob.Sym) : (decide (a.name = b.name) && (a.bind == b.bind && (a.size == b.size && (a.align == b.align && true)))) = decide (a = b) := by
  obtain ⟨a1, a2, a3, a4⟩ := a
  obtain ⟨b1, b2, b3, b4⟩ := b
  rw [Bool.eq_iff_iff]; simp
theorem osame_ (l : List Ob.Sym) (x : List UInt8) (m : List Ob.Sym) (y : List UInt8) (hl : l.length ≤ 1000000000) : FCall Try.prog Gl 29 [oD ⟨l, x⟩, oD ⟨m, y⟩] [] (vB (decide ((⟨l, x⟩ : Ob.Obj) = ⟨m, y⟩))) [] := by
  refine FCall.enterL hT hmix [] Try.func29 rfl rfl rfl fun hbd => ?_
  (conv => whnf)
  refine split_intro (fun h => ?_) (fun h => ?_)
  · have hne : l.length ≠ m.length := by have := len_ne h; simpa using this
    (conv => whnf)
    exact Wk.bool (by symm; simp; intro e; subst e; exact absurd rfl hne)
  · have hlm : l.length = m.length := by have := len_eq h; simpa using this
    (conv => whnf)
    refine LWp.loop hT hmix [] (fun k : Nat => [(5, vI k)]) (fun _ => []) (fun k => k ≤ l.length ∧ l.take k = m.take k) (fun k => l.length - k) 0 ⟨Nat.zero_le _, rfl⟩ ?_
    (conv => whnf)
    refine ⟨?_, fun k ⟨hk, hkk⟩ => ?_⟩
    · (repeat' (first | exact trivial | exact Wk.refl _ | exact ObWk.refl _ | exact rfl | exact ⟨_, rfl⟩ | exact Nat.zero_lt_one | refine And.intro ?_ ?_ | unfold okTo | (unfold okO; conv => whnf) | (unfold okS; conv => whnf) | (unfold SlotOk; conv => whnf) | (unfold ObjOk; conv => whnf) | (unfold okCells; conv => whnf) | (unfold liveTo; conv => whnf) | exact Nat.zero_lt_succ _))
    · (conv => whnf)
      refine split_intro (fun h1 => ?_) (fun h1 => ?_)
      · have hlt : k < l.length := by have := of_decide_eq_true h1; simp at this; omega
        obtain ⟨s, hs⟩ := exI hlt
        obtain ⟨t, ht⟩ := exI (l := m) (k := k) (by omega)
        (conv => whnf)
        refine ⟨_, ⟨by omega, getMap hs⟩, ?_⟩
        (conv => whnf)
        refine ⟨_, ⟨by omega, getMap ht⟩, ?_⟩
        (conv => whnf)
        refine ⟨plainS _, ?_⟩
        (conv => whnf)
        refine split_intro (fun h2 => ?_) (fun h2 => ?_)
        · have h2' : decide (s = t) = false := by
            rw [← eqS']
            exact not_t h2
          (conv => whnf)
          exact Wk.bool (by
            symm; simp; intro e _; subst e
            rw [hs] at ht; injection ht with ht; subst ht; simp at h2')
        · have h2' : decide (s = t) = true := by
            rw [← eqS']
            exact not_f h2
          have := of_decide_eq_true h2'
          subst this
          (conv => whnf)
          refine ⟨_, add64 (c := ((k + 1 : Nat) : Int)) (by omega) (by omega), ?_⟩
          (conv => whnf)
          refine ⟨k + 1, ⟨⟨by omega, by rw [List.take_add_one, List.take_add_one, hs, ht, hkk]⟩, by simp only []; omega⟩, ?_⟩
          (repeat' (first | exact trivial | exact Wk.refl _ | exact ObWk.refl _ | exact rfl | exact ⟨_, rfl⟩ | exact Nat.zero_lt_one | refine And.intro ?_ ?_ | unfold okTo | (unfold okO; conv => whnf) | (unfold okS; conv => whnf) | (unfold SlotOk; conv => whnf) | (unfold ObjOk; conv => whnf) | (unfold okCells; conv => whnf) | (unfold liveTo; conv => whnf) | exact Nat.zero_lt_succ _))
      · have hge : l.length ≤ k := by have := of_decide_eq_false h1; simp at this; omega
        rw [List.take_of_length_le hge, List.take_of_length_le (by omega)] at hkk
        subst hkk
        (conv => whnf)
        refine CallLeaf.w (by (repeat' (first | exact ArgsTo.nil | refine ArgsTo.cons ?_ ?_ | exact ArgTo.mk' rfl (Wk.refl _) | exact ArgTo.mk' rfl Wk.nilm | exact ArgTo.mk' rfl (Wk.int (by simp)) | exact ArgTo.mk' rfl (Wk.list _ _) | exact ArgTo.mk' rfl (Wk.agg (by (repeat' (first | exact Wks.nil | refine Wks.cons ?_ ?_ | exact Wk.refl _ | exact Wk.nilm | exact Wk.list _ _  | exact Wk.natN rfl | refine Wk.agg ?_))))))) (same_ x y) rfl ?_
        (conv => whnf)
        exact Wk.bool (by simp)
theorem orvalid_ (l : List Ob.Sym) (x : List UInt8) (hl : l.length ≤ 1000000000) (hn : ∀ s ∈ l, s.name.length ≤ 1000000000) : FCall Try.prog Gl 31 [oD ⟨l, x⟩] [] (vB (validO l)) [] := by
  refine FCall.enterL hT hmix [] Try.func31 rfl rfl rfl fun hbd => ?_
  (conv => whnf)
  refine LWp.loop hT hmix [] (fun k : Nat => [(3, vI k)]) (fun _ => []) (fun k => k ≤ l.length ∧ okL [] (l.take k) = true) (fun k => l.length - k) 0 ⟨Nat.zero_le _, rfl⟩ ?_
  (conv => whnf)
  refine ⟨?_, fun k ⟨hk, hkk⟩ => ?_⟩
  · (repeat' (first | exact trivial | exact Wk.refl _ | exact ObWk.refl _ | exact rfl | exact ⟨_, rfl⟩ | exact Nat.zero_lt_one | refine And.intro ?_ ?_ | unfold okTo | (unfold okO; conv => whnf) | (unfold okS; conv => whnf) | (unfold SlotOk; conv => whnf) | (unfold ObjOk; conv => whnf) | (unfold okCells; conv => whnf) | (unfold liveTo; conv => whnf) | exact Nat.zero_lt_succ _))
  · (conv => whnf)
    refine split_intro (fun h => ?_) (fun h => ?_)
    · have hlt : k < l.length := by have := of_decide_eq_true h; simp at this; omega
      obtain ⟨s, hs⟩ := exI hlt
      (conv => whnf)
      refine ⟨_, ⟨by omega, getMap hs⟩, ?_⟩
      (conv => whnf)
      refine CallLeaf.w (by (repeat' (first | exact ArgsTo.nil | refine ArgsTo.cons ?_ ?_ | exact ArgTo.mk' rfl (Wk.refl _) | exact ArgTo.mk' rfl Wk.nilm | exact ArgTo.mk' rfl (Wk.int (by simp)) | exact ArgTo.mk' rfl (Wk.list _ _) | exact ArgTo.mk' rfl (Wk.agg (by (repeat' (first | exact Wks.nil | refine Wks.cons ?_ ?_ | exact Wk.refl _ | exact Wk.nilm | exact Wk.list _ _  | exact Wk.natN rfl | refine Wk.agg ?_))))))) (rsym_ s (hn s (List.mem_of_getElem? hs))) rfl ?_
      (conv => whnf)
      refine split_intro (fun hv => ?_) (fun hv => ?_)
      · have hv' : valid s = false := by simpa using hv
        (conv => whnf)
        exact Wk.bool (okL_bad hs (by simp [hv'])).symm
      · have hv' : valid s = true := by simpa using hv
        (conv => whnf)
        refine ⟨_, slTake (f := Ob.Sym.enc) (l := l) (b := k) (r := l.take k) rfl (by omega) (fun _ => rfl) rfl, ?_⟩
        (conv => whnf)
        refine ⟨_, ⟨by omega, getMap hs⟩, ?_⟩
        (conv => whnf)
        refine CallLeaf.w (by (repeat' (first | exact ArgsTo.nil | refine ArgsTo.cons ?_ ?_ | exact ArgTo.mk' rfl (Wk.refl _) | exact ArgTo.mk' rfl Wk.nilm | exact ArgTo.mk' rfl (Wk.int (by simp)) | exact ArgTo.mk' rfl (Wk.list _ _) | exact ArgTo.mk' rfl (Wk.agg (by (repeat' (first | exact Wks.nil | refine Wks.cons ?_ ?_ | exact Wk.refl _ | exact Wk.nilm | exact Wk.list _ _  | exact Wk.natN rfl | refine Wk.agg ?_))))))) (rhas_ (l.take k) s.name (by simp; omega)) rfl ?_
        (conv => whnf)
        refine split_intro (fun hh => ?_) (fun hh => ?_)
        · have hh' : Ob.has (l.take k) s.name = true := hh
          (conv => whnf)
          exact Wk.bool (okL_bad hs (by simp [hh'])).symm
        · have hh' : Ob.has (l.take k) s.name = false := hh
          (conv => whnf)
          refine ⟨_, add64 (c := ((k + 1 : Nat) : Int)) (by omega) (by omega), ?_⟩
          (conv => whnf)
          refine ⟨k + 1, ⟨⟨by omega, by rw [okL_step hs, hkk, hv', hh']; rfl⟩, by simp only []; omega⟩, ?_⟩
          (repeat' (first | exact trivial | exact Wk.refl _ | exact ObWk.refl _ | exact rfl | exact ⟨_, rfl⟩ | exact Nat.zero_lt_one | refine And.intro ?_ ?_ | unfold okTo | (unfold okO; conv => whnf) | (unfold okS; conv => whnf) | (unfold SlotOk; conv => whnf) | (unfold ObjOk; conv => whnf) | (unfold okCells; conv => whnf) | (unfold liveTo; conv => whnf) | exact Nat.zero_lt_succ _))
    · have hge : l.length ≤ k := by have := of_decide_eq_false h; simp at this; omega
      rw [List.take_of_length_le hge] at hkk
      (conv => whnf)
      exact Wk.bool (by simp only [validO, hkk, Bool.true_and]; congr 1; simp; omega)
theorem orencode_ (l : List Ob.Sym) (x : List UInt8) (hx : (encO ⟨l, x⟩).length ≤ 1000000000) (hn : ∀ s ∈ l, s.name.length ≤ 1000000000) : FCall Try.prog Gl 25 [oD ⟨l, x⟩] [] (.tuple [LBn (encRO' ⟨l, x⟩).1, vI (encRO' ⟨l, x⟩).2]) [] := by
  have hlen : (encO ⟨l, x⟩).length = 8 + (encL l).length + x.length := by simp [encO, magic, W4]; omega
  have hll : l.length ≤ (encL l).length := by
    clear hx hlen hn
    induction l with
    | nil => simp
    | cons s l ih => 
      have : encL (s :: l) = encS s ++ encL l := by simp [encL]
      rw [this]; simp [encS]; omega
  refine FCall.enterL hT hmix [] Try.func25 rfl rfl rfl fun hbd => ?_
  (conv => whnf)
  refine CallLeaf.w (by (repeat' (first | exact ArgsTo.nil | refine ArgsTo.cons ?_ ?_ | exact ArgTo.mk' rfl (Wk.refl _) | exact ArgTo.mk' rfl Wk.nilm | exact ArgTo.mk' rfl (Wk.int (by simp)) | exact ArgTo.mk' rfl (Wk.list _ _) | exact ArgTo.mk' rfl (Wk.agg (by (repeat' (first | exact Wks.nil | refine Wks.cons ?_ ?_ | exact Wk.refl _ | exact Wk.nilm | exact Wk.list _ _  | exact Wk.natN rfl | refine Wk.agg ?_))))))) (orvalid_ l x (by omega) hn) rfl ?_
  (conv => whnf)
  refine split_intro (fun hv => ?_) (fun hv => ?_)
  · have hv' : validO l = false := by simpa using hv
    have hR : encRO' ⟨l, x⟩ = ([], 12) := by simp [encRO', hv']
    rw [hR]
    (conv => whnf)
    exact Wk.tuple (Wks.cons (Wk.natN rfl) (Wks.cons (Wk.refl _) Wks.nil))
  · have hv' : validO l = true := by simpa using hv
    have hR : encRO' ⟨l, x⟩ = (encO ⟨l, x⟩, 0) := by simp [encRO', hv']
    have hok := hv'
    simp only [validO, Bool.and_eq_true, decide_eq_true_eq] at hok
    rw [hR]
    have hm : magic.length = 4 := rfl
    (conv => whnf)
    refine CallLeaf.w (by (repeat' (first | exact ArgsTo.nil | refine ArgsTo.cons ?_ ?_ | exact ArgTo.mk' rfl (Wk.refl _) | exact ArgTo.mk' rfl Wk.nilm | exact ArgTo.mk' rfl (Wk.int (by simp)) | exact ArgTo.mk' rfl (Wk.list _ _) | exact ArgTo.mk' rfl (Wk.agg (by (repeat' (first | exact Wks.nil | refine Wks.cons ?_ ?_ | exact Wk.refl _ | exact Wk.nilm | exact Wk.list _ _  | exact Wk.natN rfl | refine Wk.agg ?_))))))) (word_ l.length (by omega)) rfl ?_
    (conv => whnf)
    refine ⟨_, appL (f := byteD) (xs := magic) (ys := W4 l.length) (zs := magic ++ W4 l.length) rfl rfl (fun _ => rfl) rfl (by simp only [List.length_append, List.length_singleton, W4_len] at *; show _ * 1 ≤ _; omega), ?_⟩
    (conv => whnf)
    refine LWp.loop hT hmix [] (fun k : Nat => [(5, vI k), (4, .list (.tok 1536) (B (magic ++ W4 l.length ++ encL (l.take k))))]) (fun k => [(1536, .tok (B (magic ++ W4 l.length ++ encL (l.take k))).length 1)]) (fun k => k ≤ l.length) (fun k => l.length - k) 0 (Nat.zero_le _) ?_
    (conv => whnf)
    refine ⟨?_, fun k hk => ?_⟩
    · (repeat' (first | exact trivial | exact Wk.refl _ | exact ObWk.refl _ | exact rfl | exact ⟨_, rfl⟩ | exact Nat.zero_lt_one | refine And.intro ?_ ?_ | unfold okTo | (unfold okO; conv => whnf) | (unfold okS; conv => whnf) | (unfold SlotOk; conv => whnf) | (unfold ObjOk; conv => whnf) | (unfold okCells; conv => whnf) | (unfold liveTo; conv => whnf) | exact Nat.zero_lt_succ _))
    · have hn1 := encL_le l k
      have hn2 := encL_le l (k + 1)
      (conv => whnf)
      refine split_intro (fun h => ?_) (fun h => ?_)
      · have hlt : k < l.length := by have := of_decide_eq_true h; simp at this; omega
        obtain ⟨s, hs⟩ := exI hlt
        have e3 := encL_take hs
        have hle : (encL (l.take k)).length + (encS s).length = (encL (l.take (k + 1))).length := by rw [e3]; simp
        have hsl := encS_len s
        have hval := okL_mem _ _ hok.1 s (List.mem_of_getElem? hs)
        obtain ⟨v1, v2, v3, v4, v5, v6⟩ := valid_iff.1 hval
        obtain ⟨b1, b2, b3, b4⟩ := bind_le v6
        obtain ⟨nm, bd, sz, al⟩ := s
        obtain ⟨bd, rfl⟩ := Int.eq_ofNat_of_zero_le (show 0 ≤ bd by simp only at b1; omega)
        obtain ⟨sz, rfl⟩ := Int.eq_ofNat_of_zero_le (show 0 ≤ sz from v4)
        obtain ⟨al, rfl⟩ := Int.eq_ofNat_of_zero_le (show 0 ≤ al from b3)
        simp only at v1 v2 v3 v4 v5 v6 b1 b2 b3 b4 hsl
        (conv => whnf)
        refine ⟨_, ⟨by omega, getMap hs⟩, ?_⟩
        (conv => whnf)
        refine ⟨_, wrapU8 _, ?_⟩
        (conv => whnf)
        refine ⟨_, appL (f := byteD) (xs := magic ++ W4 l.length ++ encL (l.take k)) (ys := [UInt8.ofNat bd]) (zs := magic ++ W4 l.length ++ encL (l.take k) ++ [UInt8.ofNat bd]) rfl rfl (fun _ => rfl) rfl (by simp only [List.length_append, List.length_singleton, W4_len] at *; show _ * 1 ≤ _; omega), ?_⟩
        (conv => whnf)
        refine CallLeaf.w (by (repeat' (first | exact ArgsTo.nil | refine ArgsTo.cons ?_ ?_ | exact ArgTo.mk' rfl (Wk.refl _) | exact ArgTo.mk' rfl Wk.nilm | exact ArgTo.mk' rfl (Wk.int (by simp)) | exact ArgTo.mk' rfl (Wk.list _ _) | exact ArgTo.mk' rfl (Wk.agg (by (repeat' (first | exact Wks.nil | refine Wks.cons ?_ ?_ | exact Wk.refl _ | exact Wk.nilm | exact Wk.list _ _  | exact Wk.natN rfl | refine Wk.agg ?_))))))) (word_ sz (by omega)) rfl ?_
        (conv => whnf)
        refine ⟨_, appL (f := byteD) (xs := magic ++ W4 l.length ++ encL (l.take k) ++ [UInt8.ofNat bd]) (ys := W4 sz) (zs := magic ++ W4 l.length ++ encL (l.take k) ++ [UInt8.ofNat bd] ++ W4 sz) rfl rfl (fun _ => rfl) rfl (by simp only [List.length_append, List.length_singleton, W4_len] at *; show _ * 1 ≤ _; omega), ?_⟩
        (conv => whnf)
        refine CallLeaf.w (by (repeat' (first | exact ArgsTo.nil | refine ArgsTo.cons ?_ ?_ | exact ArgTo.mk' rfl (Wk.refl _) | exact ArgTo.mk' rfl Wk.nilm | exact ArgTo.mk' rfl (Wk.int (by simp)) | exact ArgTo.mk' rfl (Wk.list _ _) | exact ArgTo.mk' rfl (Wk.agg (by (repeat' (first | exact Wks.nil | refine Wks.cons ?_ ?_ | exact Wk.refl _ | exact Wk.nilm | exact Wk.list _ _  | exact Wk.natN rfl | refine Wk.agg ?_))))))) (word_ al (by omega)) rfl ?_
        (conv => whnf)
        refine ⟨_, appL (f := byteD) (xs := magic ++ W4 l.length ++ encL (l.take k) ++ [UInt8.ofNat bd] ++ W4 sz) (ys := W4 al) (zs := magic ++ W4 l.length ++ encL (l.take k) ++ [UInt8.ofNat bd] ++ W4 sz ++ W4 al) rfl rfl (fun _ => rfl) rfl (by simp only [List.length_append, List.length_singleton, W4_len] at *; show _ * 1 ≤ _; omega), ?_⟩
        (conv => whnf)
        refine ⟨_, wrapU8 _, ?_⟩
        (conv => whnf)
        refine ⟨_, appL (f := byteD) (xs := magic ++ W4 l.length ++ encL (l.take k) ++ [UInt8.ofNat bd] ++ W4 sz ++ W4 al) (ys := [UInt8.ofNat nm.length]) (zs := magic ++ W4 l.length ++ encL (l.take k) ++ [UInt8.ofNat bd] ++ W4 sz ++ W4 al ++ [UInt8.ofNat nm.length]) rfl rfl (fun _ => rfl) rfl (by simp only [List.length_append, List.length_singleton, W4_len] at *; show _ * 1 ≤ _; omega), ?_⟩
        (conv => whnf)
        refine ⟨_, appL (f := byteD) (xs := magic ++ W4 l.length ++ encL (l.take k) ++ [UInt8.ofNat bd] ++ W4 sz ++ W4 al ++ [UInt8.ofNat nm.length]) (ys := nm) (zs := magic ++ W4 l.length ++ encL (l.take k) ++ [UInt8.ofNat bd] ++ W4 sz ++ W4 al ++ [UInt8.ofNat nm.length] ++ nm) rfl rfl (fun _ => rfl) rfl (by simp only [List.length_append, List.length_singleton, W4_len] at *; show _ * 1 ≤ _; omega), ?_⟩
        (conv => whnf)
        refine ⟨_, add64 (c := ((k + 1 : Nat) : Int)) (by omega) (by omega), ?_⟩
        (conv => whnf)
        have e4 : magic ++ W4 l.length ++ encL (l.take k) ++ [UInt8.ofNat bd] ++ W4 sz ++ W4 al ++ [UInt8.ofNat nm.length] ++ nm = magic ++ W4 l.length ++ encL (l.take (k + 1)) := by rw [e3]; simp [encS]
        refine ⟨k + 1, ⟨by omega, by simp only []; omega⟩, ?_⟩
        simp only [← e4]
        (repeat' (first | exact trivial | exact Wk.refl _ | exact ObWk.refl _ | exact rfl | exact ⟨_, rfl⟩ | exact Nat.zero_lt_one | refine And.intro ?_ ?_ | unfold okTo | (unfold okO; conv => whnf) | (unfold okS; conv => whnf) | (unfold SlotOk; conv => whnf) | (unfold ObjOk; conv => whnf) | (unfold okCells; conv => whnf) | (unfold liveTo; conv => whnf) | exact Nat.zero_lt_succ _))
      · have hge : l.length ≤ k := by have := of_decide_eq_false h; simp at this; omega
        (conv => whnf)
        refine ⟨_, appL (f := byteD) (xs := magic ++ W4 l.length ++ encL (l.take k)) (ys := x) (zs := magic ++ W4 l.length ++ encL (l.take k) ++ x) rfl rfl (fun _ => rfl) rfl (by simp only [List.length_append, List.length_singleton, W4_len] at *; show _ * 1 ≤ _; omega), ?_⟩
        (conv => whnf)
        exact Wk.tuple (Wks.cons (Wk.nat' (by rw [List.take_of_length_le hge]; rfl)) (Wks.cons (Wk.refl _) Wks.nil))
end Go.Proofs.Ytfacepcmpijdpaa

/- The reference of objects: decoding. No condition. -/
set_option linter.unusedVariables false
set_option linter.unusedSimpArgs false
namespace Go.Proofs.Ytfacepcmpijdpaa
open Go Go.AL Go.AL.Ap Go.AL.Ob
set_option maxRecDepth 100000
set_option maxHeartbeats 4000000
theorem nextS_short {r : List UInt8} {p : Nat} (h : r.length < p + 10) : nextS (r.drop p) = none := by
  unfold nextS
  rw [if_pos (by simp; omega)]
theorem nextS_at {r : List UInt8} {p : Nat} {u v : UInt8} (hu : r[p + 9]? = some u) (hv : r[p]? = some v) : nextS (r.drop p) = if r.length < p + 10 + u.toNat then none else
    some (⟨(r.drop (p + 10)).take u.toNat, (v.toNat : Int), (num ((r.drop (p + 1)).take 4) : Int), (num ((r.drop (p + 5)).take 4) : Int)⟩, r.drop (p + 10 + u.toNat)) := by
  have hl : p + 9 < r.length := (List.getElem?_eq_some_iff.1 hu).1
  have e9 : (r.drop p).getD 9 0 = u := by simp [List.getD, List.getElem?_drop, hu]
  have e0 : (r.drop p).getD 0 0 = v := by simp [List.getD, List.getElem?_drop, hv]
  unfold nextS
  rw [e9, e0, num_take (by simp; omega), num_take (by simp; omega)]
  simp only [List.drop_drop, List.length_drop]
  by_cases c : r.length < p + 10 + u.toNat
  · rw [if_pos c, if_pos (by omega)]
  · rw [if_neg c, if_neg (by omega), show p + (10 + u.toNat) = p + 10 + u.toNat by omega]
theorem ordecode_ (r : List UInt8) (hr : r.length ≤ 1000000000) : FCall Try.prog Gl 27 [LB r] [] (.tuple [oDn (encRO (decO r)).1, vI (encRO (decO r)).2]) [] := by
  generalize hR : decO r = R
  unfold decO at hR
  refine FCall.enterL hT hmix [] Try.func27 rfl rfl rfl fun hbd => ?_
  (conv => whnf)
  refine split_intro (fun h4 => ?_) (fun h4 => ?_)
  · have h4' : r.length < 4 := by have := of_decide_eq_true h4; simp at this; omega
    rw [if_pos h4'] at hR; subst hR
    (conv => whnf)
    (exact Wk.tuple (Wks.cons (Wk.agg (Wks.cons (Wk.natN rfl) (Wks.cons (Wk.natN rfl) Wks.nil))) (Wks.cons (Wk.refl _) Wks.nil)))
  have h4' : ¬ r.length < 4 := by have := of_decide_eq_false h4; simp at this; omega
  rw [if_neg h4'] at hR
  (conv => whnf)
  refine ⟨_, slTake (f := byteD) (l := r) (b := 4) (r := r.take 4) rfl (by omega) (fun _ => rfl) rfl, ?_⟩
  (conv => whnf)
  refine ⟨r.take 4, rfl, ?_⟩
  (conv => whnf)
  refine split_intro (fun hm => ?_) (fun hm => ?_)
  · have hm' : r.take 4 ≠ magic := by simpa [magic] using hm
    rw [if_pos hm'] at hR; subst hR
    (conv => whnf)
    (exact Wk.tuple (Wks.cons (Wk.agg (Wks.cons (Wk.natN rfl) (Wks.cons (Wk.natN rfl) Wks.nil))) (Wks.cons (Wk.refl _) Wks.nil)))
  have hm' : r.take 4 = magic := by simpa [magic] using hm
  rw [if_neg (by simp [hm'])] at hR
  (conv => whnf)
  refine split_intro (fun h8 => ?_) (fun h8 => ?_)
  · have h8' : r.length < 8 := by have := of_decide_eq_true h8; simp at this; omega
    rw [if_pos h8'] at hR; subst hR
    (conv => whnf)
    (exact Wk.tuple (Wks.cons (Wk.agg (Wks.cons (Wk.natN rfl) (Wks.cons (Wk.natN rfl) Wks.nil))) (Wks.cons (Wk.refl _) Wks.nil)))
  have h8' : ¬ r.length < 8 := by have := of_decide_eq_false h8; simp at this; omega
  rw [if_neg h8'] at hR
  (conv => whnf)
  refine ⟨_, slN (f := byteD) (l := r) (a := 4) (b := 8) (r := (r.drop 4).take 4) rfl rfl (by omega) (by omega) (fun _ => rfl) (by rw [List.drop_take]), ?_⟩
  (conv => whnf)
  have N1 := number_ ((r.drop 4).take 4) (by simp; omega)
  rw [num_take (by simp; omega)] at N1
  have hn32 := num_lt (r.drop 4)
  generalize hnn : num (r.drop 4) = n at *
  refine CallLeaf.w (by (repeat' (first | exact ArgsTo.nil | refine ArgsTo.cons ?_ ?_ | exact ArgTo.mk' rfl (Wk.refl _) | exact ArgTo.mk' rfl Wk.nilm | exact ArgTo.mk' rfl (Wk.int (by simp)) | exact ArgTo.mk' rfl (Wk.list _ _) | exact ArgTo.mk' rfl (Wk.agg (by (repeat' (first | exact Wks.nil | refine Wks.cons ?_ ?_ | exact Wk.refl _ | exact Wk.nilm | exact Wk.list _ _  | exact Wk.natN rfl | refine Wk.agg ?_))))))) (N1) rfl ?_
  (conv => whnf)
  refine split_intro (fun hn => ?_) (fun hn => ?_)
  · have hn' : 65536 < n := by have := of_decide_eq_true hn; omega
    rw [if_pos hn'] at hR; subst hR
    (conv => whnf)
    (exact Wk.tuple (Wks.cons (Wk.agg (Wks.cons (Wk.natN rfl) (Wks.cons (Wk.natN rfl) Wks.nil))) (Wks.cons (Wk.refl _) Wks.nil)))
  have hn' : ¬ 65536 < n := by have := of_decide_eq_false hn; omega
  rw [if_neg hn'] at hR
  (conv => whnf)
  refine LWp.loop hT hmix [] (fun x : Nat × Nat × List Ob.Sym => [(7, vI x.1), (6, vI x.2.1)]) (fun x => [(5120, .cells [.list (.tok 403) (SE x.2.2), .nil]), (403, .tok (SE x.2.2).length 4)]) (fun y => y.1 ≤ n ∧ y.2.1 ≤ r.length ∧ y.2.2.length = y.1 ∧ Ob.decL (n - y.1) (r.drop y.2.1) y.2.2 = R) (fun x => n - x.1) (0, 8, []) ⟨Nat.zero_le _, by show 8 ≤ r.length; omega, rfl, hR⟩ ?_
  (conv => whnf)
  refine ⟨?_, fun ⟨k, p, acc⟩ ⟨hk, hp, ha, hd⟩ => ?_⟩
  · (repeat' (first | exact trivial | exact Wk.refl _ | exact ObWk.refl _ | exact rfl | exact ⟨_, rfl⟩ | exact Nat.zero_lt_one | refine And.intro ?_ ?_ | unfold okTo | (unfold okO; conv => whnf) | (unfold okS; conv => whnf) | (unfold SlotOk; conv => whnf) | (unfold ObjOk; conv => whnf) | (unfold okCells; conv => whnf) | (unfold liveTo; conv => whnf) | exact Nat.zero_lt_succ _))
  · replace hk : k ≤ n := hk
    replace hp : p ≤ r.length := hp
    replace ha : acc.length = k := ha
    replace hd : Ob.decL (n - k) (r.drop p) acc = R := hd
    (conv => whnf)
    refine split_intro (fun hl => ?_) (fun hl => ?_)
    · have hlt : k < n := by have := of_decide_eq_true hl; omega
      obtain ⟨m, hmm⟩ : ∃ m, n - k = m + 1 := ⟨n - k - 1, by omega⟩
      rw [hmm, Ob.decL] at hd
      (conv => whnf)
      refine ⟨_, add64 (c := ((p + 10 : Nat) : Int)) (by (try simp only []); omega) (by omega), ?_⟩
      (conv => whnf)
      refine split_intro (fun h1 => ?_) (fun h1 => ?_)
      · have h1' : r.length < p + 10 := by have := of_decide_eq_true h1; simp at this; omega
        rw [nextS_short h1'] at hd
        subst hd
        (conv => whnf)
        (exact Wk.tuple (Wks.cons (Wk.agg (Wks.cons (Wk.natN rfl) (Wks.cons (Wk.natN rfl) Wks.nil))) (Wks.cons (Wk.refl _) Wks.nil)))
      · have h1' : ¬ r.length < p + 10 := by have := of_decide_eq_false h1; simp at this; omega
        obtain ⟨u, hu⟩ := exI (l := r) (k := p + 9) (by omega)
        obtain ⟨v, hv⟩ := exI (l := r) (k := p) (by omega)
        have hu8 := u.toNat_lt
        have hv8 := v.toNat_lt
        (conv => whnf)
        refine ⟨_, add64 (c := ((p + 10 : Nat) : Int)) (by (try simp only []); omega) (by omega), ?_⟩
        (conv => whnf)
        refine ⟨_, add64 (c := ((p + 9 : Nat) : Int)) (by (try simp only []); omega) (by omega), ?_⟩
        (conv => whnf)
        refine ⟨_, ⟨by omega, getMap hu⟩, ?_⟩
        (conv => whnf)
        refine ⟨_, wrap64 (by omega), ?_⟩
        (conv => whnf)
        refine ⟨_, add64 (c := ((p + 10 + u.toNat : Nat) : Int)) (by (try simp only []); omega) (by omega), ?_⟩
        (conv => whnf)
        refine split_intro (fun h2 => ?_) (fun h2 => ?_)
        · have h2' : r.length < p + 10 + u.toNat := by have := of_decide_eq_true h2; simp at this; omega
          rw [nextS_at hu hv, if_pos h2'] at hd
          subst hd
          (conv => whnf)
          (exact Wk.tuple (Wks.cons (Wk.agg (Wks.cons (Wk.natN rfl) (Wks.cons (Wk.natN rfl) Wks.nil))) (Wks.cons (Wk.refl _) Wks.nil)))
        · have h2' : ¬ r.length < p + 10 + u.toNat := by have := of_decide_eq_false h2; simp at this; omega
          obtain ⟨s, hS⟩ : ∃ s, (⟨(r.drop (p + 10)).take u.toNat, (v.toNat : Int), (num ((r.drop (p + 1)).take 4) : Int), (num ((r.drop (p + 5)).take 4) : Int)⟩ : Ob.Sym) = s := ⟨_, rfl⟩
          rw [nextS_at hu hv, if_neg h2', hS] at hd
          simp only at hd
          (conv => whnf)
          refine ⟨_, add64 (c := ((p + 10 : Nat) : Int)) (by (try simp only []); omega) (by omega), ?_⟩
          (conv => whnf)
          refine ⟨_, add64 (c := ((p + 9 : Nat) : Int)) (by (try simp only []); omega) (by omega), ?_⟩
          (conv => whnf)
          refine ⟨_, ⟨by omega, getMap hu⟩, ?_⟩
          (conv => whnf)
          refine ⟨_, wrap64 (by omega), ?_⟩
          (conv => whnf)
          refine ⟨_, add64 (c := ((p + 10 + u.toNat : Nat) : Int)) (by (try simp only []); omega) (by omega), ?_⟩
          (conv => whnf)
          refine ⟨_, add64 (c := ((p + 10 : Nat) : Int)) (by (try simp only []); omega) (by omega), ?_⟩
          (conv => whnf)
          refine ⟨_, slN (f := byteD) (l := r) (a := p + 10) (b := p + 10 + u.toNat) (r := (r.drop (p + 10)).take u.toNat) rfl rfl (by omega) (by omega) (fun _ => rfl) (by rw [List.drop_take]; congr 1; omega), ?_⟩
          (conv => whnf)
          refine ⟨(r.drop (p + 10)).take u.toNat, rfl, ?_⟩
          (conv => whnf)
          refine ⟨_, ⟨by omega, getMap hv⟩, ?_⟩
          (conv => whnf)
          refine ⟨_, wrap64 (by omega), ?_⟩
          (conv => whnf)
          refine ⟨_, add64 (c := ((p + 1 : Nat) : Int)) (by (try simp only []); omega) (by omega), ?_⟩
          (conv => whnf)
          refine ⟨_, add64 (c := ((p + 5 : Nat) : Int)) (by (try simp only []); omega) (by omega), ?_⟩
          (conv => whnf)
          refine ⟨_, slN (f := byteD) (l := r) (a := p + 1) (b := p + 5) (r := (r.drop (p + 1)).take 4) rfl rfl (by omega) (by omega) (fun _ => rfl) (by rw [List.drop_take]; congr 1; omega), ?_⟩
          (conv => whnf)
          refine CallLeaf.w (by (repeat' (first | exact ArgsTo.nil | refine ArgsTo.cons ?_ ?_ | exact ArgTo.mk' rfl (Wk.refl _) | exact ArgTo.mk' rfl Wk.nilm | exact ArgTo.mk' rfl (Wk.int (by simp)) | exact ArgTo.mk' rfl (Wk.list _ _) | exact ArgTo.mk' rfl (Wk.agg (by (repeat' (first | exact Wks.nil | refine Wks.cons ?_ ?_ | exact Wk.refl _ | exact Wk.nilm | exact Wk.list _ _  | exact Wk.natN rfl | refine Wk.agg ?_))))))) (number_ ((r.drop (p + 1)).take 4) (by simp; omega)) rfl ?_
          (conv => whnf)
          refine ⟨_, add64 (c := ((p + 5 : Nat) : Int)) (by (try simp only []); omega) (by omega), ?_⟩
          (conv => whnf)
          refine ⟨_, add64 (c := ((p + 9 : Nat) : Int)) (by (try simp only []); omega) (by omega), ?_⟩
          (conv => whnf)
          refine ⟨_, slN (f := byteD) (l := r) (a := p + 5) (b := p + 9) (r := (r.drop (p + 5)).take 4) rfl rfl (by omega) (by omega) (fun _ => rfl) (by rw [List.drop_take]; congr 1; omega), ?_⟩
          (conv => whnf)
          refine CallLeaf.w (by (repeat' (first | exact ArgsTo.nil | refine ArgsTo.cons ?_ ?_ | exact ArgTo.mk' rfl (Wk.refl _) | exact ArgTo.mk' rfl Wk.nilm | exact ArgTo.mk' rfl (Wk.int (by simp)) | exact ArgTo.mk' rfl (Wk.list _ _) | exact ArgTo.mk' rfl (Wk.agg (by (repeat' (first | exact Wks.nil | refine Wks.cons ?_ ?_ | exact Wk.refl _ | exact Wk.nilm | exact Wk.list _ _  | exact Wk.natN rfl | refine Wk.agg ?_))))))) (number_ ((r.drop (p + 5)).take 4) (by simp; omega)) rfl ?_
          (conv => whnf)
          have hC := rsym_ s (by rw [← hS]; simp only [List.length_take, List.length_drop]; omega)
          have eN : s.name = (r.drop (p + 10)).take u.toNat := by rw [← hS]
          have hH := rhas_ acc s.name (by omega)
          rw [← hS] at hC
          rw [eN] at hH
          refine CallLeaf.w (by (repeat' (first | exact ArgsTo.nil | refine ArgsTo.cons ?_ ?_ | exact ArgTo.mk' rfl (Wk.refl _) | exact ArgTo.mk' rfl Wk.nilm | exact ArgTo.mk' rfl (Wk.int (by simp)) | exact ArgTo.mk' rfl (Wk.list _ _) | exact ArgTo.mk' rfl (Wk.agg (by (repeat' (first | exact Wks.nil | refine Wks.cons ?_ ?_ | exact Wk.refl _ | exact Wk.nilm | exact Wk.list _ _  | exact Wk.natN rfl | refine Wk.agg ?_))))))) (hC) rfl ?_
          (conv => whnf)
          refine split_intro (fun hv1 => ?_) (fun hv1 => ?_)
          · have hv' : valid s = false := by rw [hS] at hv1; simpa using hv1
            rw [hv'] at hd
            simp only [Bool.false_and, Bool.false_eq_true, if_false] at hd
            subst hd
            (conv => whnf)
            (exact Wk.tuple (Wks.cons (Wk.agg (Wks.cons (Wk.natN rfl) (Wks.cons (Wk.natN rfl) Wks.nil))) (Wks.cons (Wk.refl _) Wks.nil)))
          · have hv' : valid s = true := by rw [hS] at hv1; simpa using hv1
            (conv => whnf)
            refine CallLeaf.w (by (repeat' (first | exact ArgsTo.nil | refine ArgsTo.cons ?_ ?_ | exact ArgTo.mk' rfl (Wk.refl _) | exact ArgTo.mk' rfl Wk.nilm | exact ArgTo.mk' rfl (Wk.int (by simp)) | exact ArgTo.mk' rfl (Wk.list _ _) | exact ArgTo.mk' rfl (Wk.agg (by (repeat' (first | exact Wks.nil | refine Wks.cons ?_ ?_ | exact Wk.refl _ | exact Wk.nilm | exact Wk.list _ _  | exact Wk.natN rfl | refine Wk.agg ?_))))))) (hH) rfl ?_
            (conv => whnf)
            rw [← eN]
            refine split_intro (fun hh => ?_) (fun hh => ?_)
            · rw [hv', hh] at hd
              simp only [Bool.not_true, Bool.and_false, Bool.false_eq_true, if_false] at hd
              subst hd
              (conv => whnf)
              (exact Wk.tuple (Wks.cons (Wk.agg (Wks.cons (Wk.natN rfl) (Wks.cons (Wk.natN rfl) Wks.nil))) (Wks.cons (Wk.refl _) Wks.nil)))
            · rw [hv', hh] at hd
              simp only [Bool.not_false, Bool.and_self, if_true] at hd
              (conv => whnf)
              subst hS
              refine ⟨_, appL (f := Ob.Sym.enc) (xs := acc) (ys := [(⟨(r.drop (p + 10)).take u.toNat, (v.toNat : Int), (num ((r.drop (p + 1)).take 4) : Int), (num ((r.drop (p + 5)).take 4) : Int)⟩ : Ob.Sym)]) (zs := acc ++ [(⟨(r.drop (p + 10)).take u.toNat, (v.toNat : Int), (num ((r.drop (p + 1)).take 4) : Int), (num ((r.drop (p + 5)).take 4) : Int)⟩ : Ob.Sym)]) rfl rfl (fun _ => rfl) rfl (by rw [List.length_append]; show (_ + 1) * 40 ≤ _; omega), ?_⟩
              (conv => whnf)
              refine ⟨_, add64 (c := ((k + 1 : Nat) : Int)) (by omega) (by omega), ?_⟩
              (conv => whnf)
              refine ⟨(k + 1, p + 10 + u.toNat, acc ++ [(⟨(r.drop (p + 10)).take u.toNat, (v.toNat : Int), (num ((r.drop (p + 1)).take 4) : Int), (num ((r.drop (p + 5)).take 4) : Int)⟩ : Ob.Sym)]), ⟨⟨by show k + 1 ≤ n; omega, by show p + 10 + u.toNat ≤ r.length; omega, by simp [ha], ?_⟩, by show n - (k + 1) < n - k; omega⟩, ?_⟩
              · show Ob.decL (n - (k + 1)) (r.drop (p + 10 + u.toNat)) (acc ++ [(⟨(r.drop (p + 10)).take u.toNat, (v.toNat : Int), (num ((r.drop (p + 1)).take 4) : Int), (num ((r.drop (p + 5)).take 4) : Int)⟩ : Ob.Sym)]) = R
                rw [show n - (k + 1) = m by omega]; exact hd
              · (repeat' (first | exact trivial | exact Wk.refl _ | exact ObWk.refl _ | exact rfl | exact ⟨_, rfl⟩ | exact Nat.zero_lt_one | refine And.intro ?_ ?_ | unfold okTo | (unfold okO; conv => whnf) | (unfold okS; conv => whnf) | (unfold SlotOk; conv => whnf) | (unfold ObjOk; conv => whnf) | (unfold okCells; conv => whnf) | (unfold liveTo; conv => whnf) | exact Nat.zero_lt_succ _))
    · have hge : n - k = 0 := by have := of_decide_eq_false hl; omega
      rw [hge, Ob.decL] at hd
      subst hd
      (conv => whnf)
      refine ⟨_, slDrop (f := byteD) (l := r) (a := p) (r := r.drop p) rfl hp (fun _ => rfl) rfl, ?_⟩
      (conv => whnf)
      refine ⟨_, appL (f := byteD) (xs := []) (ys := r.drop p) (zs := r.drop p) rfl rfl (fun _ => rfl) rfl (by rw [List.length_drop]; show _ * 1 ≤ _; omega), ?_⟩
      (conv => whnf)
      exact Wk.tuple (Wks.cons (Wk.agg (Wks.cons (Wk.nat' rfl) (Wks.cons (Wk.nat' rfl) Wks.nil))) (Wks.cons (Wk.refl _) Wks.nil))
end Go.Proofs.Ytfacepcmpijdpaa

/- The laws of objects: the fixed results, the reference, uniqueness, cutting. No condition. -/
set_option linter.unusedVariables false
set_option linter.unusedSimpArgs false
namespace Go.Proofs.Ytfacepcmpijdpaa
open Go Go.AL Go.AL.Ap Go.AL.Ob
set_option maxRecDepth 100000
set_option maxHeartbeats 4000000
theorem bytes_t (a : List UInt8) : FCall Try.prog Gl 19 [LB a, LB a] [] (vB true) [] := by
  have := same_ a a
  rwa [decide_eq_true rfl] at this
theorem osame_t (l : List Ob.Sym) (x : List UInt8) (hl : l.length ≤ 1000000000) : FCall Try.prog Gl 29 [oD ⟨l, x⟩, oD ⟨l, x⟩] [] (vB true) [] := by
  have := osame_ l x l x hl
  rwa [decide_eq_true rfl] at this
abbrev aw1 : List Ob.Sym := [⟨[102], 1, 258, 0⟩, ⟨[103], 3, 1, 8⟩]
abbrev aw2 : List UInt8 := [79, 66, 74, 49, 0, 0, 0, 2, 1, 0, 0, 1, 2, 0, 0, 0, 0, 1, 102, 3, 0, 0, 0, 1, 0, 0, 0, 8, 1, 103, 120, 121]
theorem oawake_ : FCall Try.prog Gl 22 [] [] (vB true) [] := by
  have A1 := oencode_ [] [] (by decide)
  rw [show encRO' ⟨[], []⟩ = ([79, 66, 74, 49, 0, 0, 0, 0], 0) by decide] at A1
  have A2 := oencode_ aw1 [120, 121] (by decide)
  rw [show encRO' ⟨aw1, [120, 121]⟩ = (aw2, 0) by decide] at A2
  have A3 := odecode_ aw2 (by decide)
  rw [show decO aw2 = .ok (aw1, [120, 121]) by rw [show aw2 = encO ⟨aw1, [120, 121]⟩ by decide]; exact decO_enc (by decide)] at A3
  have A4 := odecode_ [79, 66, 74] (by decide)
  rw [show decO [79, 66, 74] = .error 2 by rfl] at A4
  have A5 := oencode_ [⟨[], 0, 0, 0⟩] [] (by decide)
  rw [show encRO' ⟨[⟨[], 0, 0, 0⟩], []⟩ = ([], 12) by decide] at A5
  have A6 := ofind_ aw1 [120, 121] [103] (by decide)
  rw [show Ob.find aw1 [103] = some ⟨[103], 3, 1, 8⟩ by decide] at A6
  refine FCall.enterL hT hmix [] Try.func22 rfl rfl rfl fun hbd => ?_
  (conv => whnf)
  refine CallLeaf.w (by (repeat' (first | exact ArgsTo.nil | refine ArgsTo.cons ?_ ?_ | exact ArgTo.mk' rfl (Wk.refl _) | exact ArgTo.mk' rfl Wk.nilm | exact ArgTo.mk' rfl (Wk.int (by simp)) | exact ArgTo.mk' rfl (Wk.list _ _) | exact ArgTo.mk' rfl (Wk.agg (by (repeat' (first | exact Wks.nil | refine Wks.cons ?_ ?_ | exact Wk.refl _ | exact Wk.nilm | exact Wk.list _ _  | exact Wk.natN rfl | refine Wk.agg ?_))))))) (A1) rfl ?_
  (conv => whnf)
  refine CallLeaf.w (by (repeat' (first | exact ArgsTo.nil | refine ArgsTo.cons ?_ ?_ | exact ArgTo.mk' rfl (Wk.refl _) | exact ArgTo.mk' rfl Wk.nilm | exact ArgTo.mk' rfl (Wk.int (by simp)) | exact ArgTo.mk' rfl (Wk.list _ _) | exact ArgTo.mk' rfl (Wk.agg (by (repeat' (first | exact Wks.nil | refine Wks.cons ?_ ?_ | exact Wk.refl _ | exact Wk.nilm | exact Wk.list _ _  | exact Wk.natN rfl | refine Wk.agg ?_))))))) (A2) rfl ?_
  (conv => whnf)
  refine CallLeaf.w (by (repeat' (first | exact ArgsTo.nil | refine ArgsTo.cons ?_ ?_ | exact ArgTo.mk' rfl (Wk.refl _) | exact ArgTo.mk' rfl Wk.nilm | exact ArgTo.mk' rfl (Wk.int (by simp)) | exact ArgTo.mk' rfl (Wk.list _ _) | exact ArgTo.mk' rfl (Wk.agg (by (repeat' (first | exact Wks.nil | refine Wks.cons ?_ ?_ | exact Wk.refl _ | exact Wk.nilm | exact Wk.list _ _  | exact Wk.natN rfl | refine Wk.agg ?_))))))) (A3) rfl ?_
  (conv => whnf)
  refine CallLeaf.w (by (repeat' (first | exact ArgsTo.nil | refine ArgsTo.cons ?_ ?_ | exact ArgTo.mk' rfl (Wk.refl _) | exact ArgTo.mk' rfl Wk.nilm | exact ArgTo.mk' rfl (Wk.int (by simp)) | exact ArgTo.mk' rfl (Wk.list _ _) | exact ArgTo.mk' rfl (Wk.agg (by (repeat' (first | exact Wks.nil | refine Wks.cons ?_ ?_ | exact Wk.refl _ | exact Wk.nilm | exact Wk.list _ _  | exact Wk.natN rfl | refine Wk.agg ?_))))))) (A4) rfl ?_
  (conv => whnf)
  refine CallLeaf.w (by (repeat' (first | exact ArgsTo.nil | refine ArgsTo.cons ?_ ?_ | exact ArgTo.mk' rfl (Wk.refl _) | exact ArgTo.mk' rfl Wk.nilm | exact ArgTo.mk' rfl (Wk.int (by simp)) | exact ArgTo.mk' rfl (Wk.list _ _) | exact ArgTo.mk' rfl (Wk.agg (by (repeat' (first | exact Wks.nil | refine Wks.cons ?_ ?_ | exact Wk.refl _ | exact Wk.nilm | exact Wk.list _ _  | exact Wk.natN rfl | refine Wk.agg ?_))))))) (A5) rfl ?_
  (conv => whnf)
  refine CallLeaf.w (by (repeat' (first | exact ArgsTo.nil | refine ArgsTo.cons ?_ ?_ | exact ArgTo.mk' rfl (Wk.refl _) | exact ArgTo.mk' rfl Wk.nilm | exact ArgTo.mk' rfl (Wk.int (by simp)) | exact ArgTo.mk' rfl (Wk.list _ _) | exact ArgTo.mk' rfl (Wk.agg (by (repeat' (first | exact Wks.nil | refine Wks.cons ?_ ?_ | exact Wk.refl _ | exact Wk.nilm | exact Wk.list _ _  | exact Wk.natN rfl | refine Wk.agg ?_))))))) (A6) rfl ?_
  (conv => whnf)
  refine ⟨_, appL (f := byteD) (xs := [79, 66, 74, 49]) (ys := [0, 0, 0, 2, 1, 0, 0, 1, 2, 0, 0, 0, 0, 1, 102, 3, 0, 0, 0, 1, 0, 0, 0, 8, 1, 103, 120, 121]) (zs := aw2) rfl rfl (fun _ => rfl) rfl (by decide), ?_⟩
  (conv => whnf)
  refine ⟨_, appL (f := byteD) (xs := [79, 66, 74, 49]) (ys := [0, 0, 0, 0]) (zs := [79, 66, 74, 49, 0, 0, 0, 0]) rfl rfl (fun _ => rfl) rfl (by decide), ?_⟩
  (conv => whnf)
  refine CallLeaf.w (by (repeat' (first | exact ArgsTo.nil | refine ArgsTo.cons ?_ ?_ | exact ArgTo.mk' rfl (Wk.refl _) | exact ArgTo.mk' rfl Wk.nilm | exact ArgTo.mk' rfl (Wk.int (by simp)) | exact ArgTo.mk' rfl (Wk.list _ _) | exact ArgTo.mk' rfl (Wk.agg (by (repeat' (first | exact Wks.nil | refine Wks.cons ?_ ?_ | exact Wk.refl _ | exact Wk.nilm | exact Wk.list _ _  | exact Wk.natN rfl | refine Wk.agg ?_))))))) (bytes_t [79, 66, 74, 49, 0, 0, 0, 0]) rfl ?_
  (conv => whnf)
  refine CallLeaf.w (by (repeat' (first | exact ArgsTo.nil | refine ArgsTo.cons ?_ ?_ | exact ArgTo.mk' rfl (Wk.refl _) | exact ArgTo.mk' rfl Wk.nilm | exact ArgTo.mk' rfl (Wk.int (by simp)) | exact ArgTo.mk' rfl (Wk.list _ _) | exact ArgTo.mk' rfl (Wk.agg (by (repeat' (first | exact Wks.nil | refine Wks.cons ?_ ?_ | exact Wk.refl _ | exact Wk.nilm | exact Wk.list _ _  | exact Wk.natN rfl | refine Wk.agg ?_))))))) (bytes_t aw2) rfl ?_
  (conv => whnf)
  refine CallLeaf.w (by (repeat' (first | exact ArgsTo.nil | refine ArgsTo.cons ?_ ?_ | exact ArgTo.mk' rfl (Wk.refl _) | exact ArgTo.mk' rfl Wk.nilm | exact ArgTo.mk' rfl (Wk.int (by simp)) | exact ArgTo.mk' rfl (Wk.list _ _) | exact ArgTo.mk' rfl (Wk.agg (by (repeat' (first | exact Wks.nil | refine Wks.cons ?_ ?_ | exact Wk.refl _ | exact Wk.nilm | exact Wk.list _ _  | exact Wk.natN rfl | refine Wk.agg ?_))))))) (osame_t aw1 [120, 121] (by decide)) rfl ?_
  (conv => whnf)
  refine ⟨_, ⟨by decide, rfl⟩, ?_⟩
  (conv => whnf)
  refine ⟨plainS ⟨[103], 3, 1, 8⟩, ?_⟩
  (conv => whnf)
  exact Wk.refl _
theorem encS_few {s : Ob.Sym} (h : s.name.length ≤ 300) : (encS s).length ≤ 310 := by rw [encS_len]; omega
theorem encL_few {l : List Ob.Sym} (h : ∀ s ∈ l, s.name.length ≤ 300) : (encL l).length ≤ 310 * l.length := by
  induction l with
  | nil => simp [encL]
  | cons s l ih =>
    have h1 := encS_few (h s (by simp))
    have h2 := ih (fun x hx => h x (by simp [hx]))
    have : encL (s :: l) = encS s ++ encL l := by simp [encL]
    rw [this]
    simp only [List.length_append, List.length_cons]
    omega
theorem encO_len (o : Ob.Obj) : (encO o).length = 8 + (encL o.syms).length + o.body.length := by simp [encO, magic, W4]; omega
theorem encO_few {o : Ob.Obj} (h : fewO o = true) : (encO o).length ≤ 40000 := by
  obtain ⟨h1, h2, h3⟩ := fewO_iff.1 h
  have := encL_few h2
  rw [encO_len]; omega
theorem find_none_take {l : List Ob.Sym} {n : Str} {k : Nat} (h : (Ob.find (l.take k) n).isSome = true) : (Ob.find l n).isSome = true := by
  unfold Ob.find at *
  have : l = l.take k ++ l.drop k := (List.take_append_drop k l).symm
  rw [this, List.find?_append]
  cases e : (l.take k).find? (fun s => decide (s.name = n)) with
  | none => rw [e] at h; simp at h
  | some a => rfl
theorem omatches_ (l : List Ob.Sym) (x b : List UInt8) (n : Str) : FCall Try.prog Gl 8 [oD ⟨l, x⟩, LB b, sD n] [] (vB true) [] := by
  have hsz := sB_sz n
  refine FCall.enterL hT hmix [] Try.func8 rfl rfl rfl fun hbd => ?_
  (((conv => whnf)); (refine CallLeaf.w (by (repeat' (first | exact ArgsTo.nil | refine ArgsTo.cons ?_ ?_ | exact ArgTo.mk' rfl (Wk.refl _) | exact ArgTo.mk' rfl Wk.nilm | exact ArgTo.mk' rfl (Wk.int (by simp)) | exact ArgTo.mk' rfl (Wk.list _ _) | exact ArgTo.mk' rfl (Wk.agg (by (repeat' (first | exact Wks.nil | refine Wks.cons ?_ ?_ | exact Wk.refl _ | exact Wk.nilm | exact Wk.list _ _  | exact Wk.natN rfl | refine Wk.agg ?_))))))) (oawake_) rfl ?_); ((conv => whnf)); (refine CallLeaf.w (by (repeat' (first | exact ArgsTo.nil | refine ArgsTo.cons ?_ ?_ | exact ArgTo.mk' rfl (Wk.refl _) | exact ArgTo.mk' rfl Wk.nilm | exact ArgTo.mk' rfl (Wk.int (by simp)) | exact ArgTo.mk' rfl (Wk.list _ _) | exact ArgTo.mk' rfl (Wk.agg (by (repeat' (first | exact Wks.nil | refine Wks.cons ?_ ?_ | exact Wk.refl _ | exact Wk.nilm | exact Wk.list _ _  | exact Wk.natN rfl | refine Wk.agg ?_))))))) (ofew_ l x) rfl ?_); ((conv => whnf)); refine split_intro (fun hf => ?_) (fun hf => ?_); (((conv => whnf)); (refine CallLeaf.w (by (repeat' (first | exact ArgsTo.nil | refine ArgsTo.cons ?_ ?_ | exact ArgTo.mk' rfl (Wk.refl _) | exact ArgTo.mk' rfl Wk.nilm | exact ArgTo.mk' rfl (Wk.int (by simp)) | exact ArgTo.mk' rfl (Wk.list _ _) | exact ArgTo.mk' rfl (Wk.agg (by (repeat' (first | exact Wks.nil | refine Wks.cons ?_ ?_ | exact Wk.refl _ | exact Wk.nilm | exact Wk.list _ _  | exact Wk.natN rfl | refine Wk.agg ?_))))))) (oawake_) rfl ?_); ((conv => whnf)); exact Wk.refl _))
  have hf' := not_f hf
  have he := encO_few hf'
  obtain ⟨hl, hn, hx⟩ := fewO_iff.1 hf'
  replace hl : l.length ≤ 60 := hl
  replace hn : ∀ s ∈ l, s.name.length ≤ 300 := hn
  (conv => whnf)
  refine split_intro (fun h => ?_) (fun h => ?_)
  · (conv => whnf)
    refine CallLeaf.w (by (repeat' (first | exact ArgsTo.nil | refine ArgsTo.cons ?_ ?_ | exact ArgTo.mk' rfl (Wk.refl _) | exact ArgTo.mk' rfl Wk.nilm | exact ArgTo.mk' rfl (Wk.int (by simp)) | exact ArgTo.mk' rfl (Wk.list _ _) | exact ArgTo.mk' rfl (Wk.agg (by (repeat' (first | exact Wks.nil | refine Wks.cons ?_ ?_ | exact Wk.refl _ | exact Wk.nilm | exact Wk.list _ _  | exact Wk.natN rfl | refine Wk.agg ?_))))))) (oawake_) rfl ?_
    (conv => whnf)
    exact Wk.refl _
  · have hb : b.length ≤ 5000 := by have := of_decide_eq_false h; simp at this; omega
    (conv => whnf)
    refine split_intro (fun h0 => ?_) (fun h0 => ?_)
    · (conv => whnf)
      refine CallLeaf.w (by (repeat' (first | exact ArgsTo.nil | refine ArgsTo.cons ?_ ?_ | exact ArgTo.mk' rfl (Wk.refl _) | exact ArgTo.mk' rfl Wk.nilm | exact ArgTo.mk' rfl (Wk.int (by simp)) | exact ArgTo.mk' rfl (Wk.list _ _) | exact ArgTo.mk' rfl (Wk.agg (by (repeat' (first | exact Wks.nil | refine Wks.cons ?_ ?_ | exact Wk.refl _ | exact Wk.nilm | exact Wk.list _ _  | exact Wk.natN rfl | refine Wk.agg ?_))))))) (oawake_) rfl ?_
      (conv => whnf)
      exact Wk.refl _
    have A1 := oencode_ l x (by omega)
    have A2 := orencode_ l x (by omega) (fun s hs => by have := hn s hs; omega)
    have A3 := odecode_ b (by omega)
    have A4 := ordecode_ b (by omega)
    have A5 := ofind_ l x n (by omega)
    have A6 := oValid_ l x (by omega)
    have A7 := orvalid_ l x (by omega) (fun s hs => by have := hn s hs; omega)
    have hyl : (encRO (decO b)).1.syms.length ≤ 1000000000 := by
      cases hd : decO b with
      | error e => simp [encRO]
      | ok p =>
        obtain ⟨l1, x1⟩ := p
        have := (enc_dec hd).1
        simp only [validO, Bool.and_eq_true, decide_eq_true_eq] at this
        show l1.length ≤ _
        omega
    obtain ⟨F0, hG⟩ : ∃ F0, F0 = (Ob.find l n).getD ⟨[], 0, 0, 0⟩ := ⟨_, rfl⟩
    rw [← hG] at A5
    obtain ⟨ok, hO⟩ : ∃ ok, ok = (Ob.find l n).isSome := ⟨_, rfl⟩
    rw [← hO] at A5
    generalize encRO' ⟨l, x⟩ = z at *
    generalize encRO (decO b) = y at *
    obtain ⟨x1, x2⟩ := z
    obtain ⟨⟨y1, y0⟩, y2⟩ := y
    (conv => whnf)
    refine CallLeaf.w (by (repeat' (first | exact ArgsTo.nil | refine ArgsTo.cons ?_ ?_ | exact ArgTo.mk' rfl (Wk.refl _) | exact ArgTo.mk' rfl Wk.nilm | exact ArgTo.mk' rfl (Wk.int (by simp)) | exact ArgTo.mk' rfl (Wk.list _ _) | exact ArgTo.mk' rfl (Wk.agg (by (repeat' (first | exact Wks.nil | refine Wks.cons ?_ ?_ | exact Wk.refl _ | exact Wk.nilm | exact Wk.list _ _  | exact Wk.natN rfl | refine Wk.agg ?_))))))) (A1) rfl ?_
    (conv => whnf)
    refine CallLeaf.w (by (repeat' (first | exact ArgsTo.nil | refine ArgsTo.cons ?_ ?_ | exact ArgTo.mk' rfl (Wk.refl _) | exact ArgTo.mk' rfl Wk.nilm | exact ArgTo.mk' rfl (Wk.int (by simp)) | exact ArgTo.mk' rfl (Wk.list _ _) | exact ArgTo.mk' rfl (Wk.agg (by (repeat' (first | exact Wks.nil | refine Wks.cons ?_ ?_ | exact Wk.refl _ | exact Wk.nilm | exact Wk.list _ _  | exact Wk.natN rfl | refine Wk.agg ?_))))))) (A2) rfl ?_
    (conv => whnf)
    refine CallLeaf.w (by (repeat' (first | exact ArgsTo.nil | refine ArgsTo.cons ?_ ?_ | exact ArgTo.mk' rfl (Wk.refl _) | exact ArgTo.mk' rfl Wk.nilm | exact ArgTo.mk' rfl (Wk.int (by simp)) | exact ArgTo.mk' rfl (Wk.list _ _) | exact ArgTo.mk' rfl (Wk.agg (by (repeat' (first | exact Wks.nil | refine Wks.cons ?_ ?_ | exact Wk.refl _ | exact Wk.nilm | exact Wk.list _ _  | exact Wk.natN rfl | refine Wk.agg ?_))))))) (A3) rfl ?_
    (conv => whnf)
    refine CallLeaf.w (by (repeat' (first | exact ArgsTo.nil | refine ArgsTo.cons ?_ ?_ | exact ArgTo.mk' rfl (Wk.refl _) | exact ArgTo.mk' rfl Wk.nilm | exact ArgTo.mk' rfl (Wk.int (by simp)) | exact ArgTo.mk' rfl (Wk.list _ _) | exact ArgTo.mk' rfl (Wk.agg (by (repeat' (first | exact Wks.nil | refine Wks.cons ?_ ?_ | exact Wk.refl _ | exact Wk.nilm | exact Wk.list _ _  | exact Wk.natN rfl | refine Wk.agg ?_))))))) (A4) rfl ?_
    (conv => whnf)
    refine CallLeaf.w (by (repeat' (first | exact ArgsTo.nil | refine ArgsTo.cons ?_ ?_ | exact ArgTo.mk' rfl (Wk.refl _) | exact ArgTo.mk' rfl Wk.nilm | exact ArgTo.mk' rfl (Wk.int (by simp)) | exact ArgTo.mk' rfl (Wk.list _ _) | exact ArgTo.mk' rfl (Wk.agg (by (repeat' (first | exact Wks.nil | refine Wks.cons ?_ ?_ | exact Wk.refl _ | exact Wk.nilm | exact Wk.list _ _  | exact Wk.natN rfl | refine Wk.agg ?_))))))) (A5) rfl ?_
    (conv => whnf)
    refine LWp.loop hT hmix [] (fun x : Nat × Bool => [(18, vI x.1), (17, vB x.2)]) (fun _ => []) (fun y => y.1 ≤ l.length ∧ y.2 = (Ob.find (l.take y.1) n).isSome) (fun x => l.length - x.1) (0, false) ⟨Nat.zero_le _, rfl⟩ ?_
    (conv => whnf)
    refine ⟨?_, fun ⟨k, fnd⟩ ⟨hk, hkk⟩ => ?_⟩
    · (repeat' (first | exact trivial | exact Wk.refl _ | exact ObWk.refl _ | exact rfl | exact ⟨_, rfl⟩ | exact Nat.zero_lt_one | refine And.intro ?_ ?_ | unfold okTo | (unfold okO; conv => whnf) | (unfold okS; conv => whnf) | (unfold SlotOk; conv => whnf) | (unfold ObjOk; conv => whnf) | (unfold okCells; conv => whnf) | (unfold liveTo; conv => whnf) | exact Nat.zero_lt_succ _))
    · replace hk : k ≤ l.length := hk
      replace hkk : fnd = (Ob.find (l.take k) n).isSome := hkk
      (conv => whnf)
      refine split_intro (fun h1 => ?_) (fun h1 => ?_)
      · have hlt : k < l.length := by have := of_decide_eq_true h1; simp at this; omega
        obtain ⟨s, hs⟩ := exI hlt
        (conv => whnf)
        refine split_intro (fun h2 => ?_) (fun h2 => ?_)
        · have h2' : fnd = false := by simpa using h2
          have hkk' : Ob.find (l.take k) n = none := by rw [h2'] at hkk; simpa using hkk.symm
          (conv => whnf)
          refine ⟨_, ⟨by omega, getMap hs⟩, ?_⟩
          (conv => whnf)
          refine split_intro (fun h3 => ?_) (fun h3 => ?_)
          · have h3' : s.name = n := of_decide_eq_true h3
            have hF := find_hit hs hkk' h3'
            (conv => whnf)
            refine ⟨_, ⟨by omega, getMap hs⟩, ?_⟩
            (conv => whnf)
            refine ⟨plainS F0, ?_⟩
            (conv => whnf)
            refine split_intro (fun h => absurd h (by (rw [hG, hF, Option.getD_some]; simp))) (fun _ => ?_)
            (conv => whnf)
            refine ⟨_, add64 (c := ((k + 1 : Nat) : Int)) (by (try simp only []); omega) (by omega), ?_⟩
            (conv => whnf)
            refine ⟨(k + 1, true), ⟨⟨by show k + 1 ≤ l.length; omega, by show true = (Ob.find (l.take (k + 1)) n).isSome; rw [find_step hs hkk', if_pos h3']; rfl⟩, by show l.length - (k + 1) < l.length - k; omega⟩, ?_⟩
            (repeat' (first | exact trivial | exact Wk.refl _ | exact ObWk.refl _ | exact rfl | exact ⟨_, rfl⟩ | exact Nat.zero_lt_one | refine And.intro ?_ ?_ | unfold okTo | (unfold okO; conv => whnf) | (unfold okS; conv => whnf) | (unfold SlotOk; conv => whnf) | (unfold ObjOk; conv => whnf) | (unfold okCells; conv => whnf) | (unfold liveTo; conv => whnf) | exact Nat.zero_lt_succ _))
          · have h3' : ¬ s.name = n := of_decide_eq_false h3
            (conv => whnf)
            refine ⟨_, add64 (c := ((k + 1 : Nat) : Int)) (by (try simp only []); omega) (by omega), ?_⟩
            (conv => whnf)
            refine ⟨(k + 1, fnd), ⟨⟨by show k + 1 ≤ l.length; omega, by show fnd = (Ob.find (l.take (k + 1)) n).isSome; rw [find_step hs hkk', if_neg h3', h2']; rfl⟩, by show l.length - (k + 1) < l.length - k; omega⟩, ?_⟩
            (repeat' (first | exact trivial | exact Wk.refl _ | exact ObWk.refl _ | exact rfl | exact ⟨_, rfl⟩ | exact Nat.zero_lt_one | refine And.intro ?_ ?_ | unfold okTo | (unfold okO; conv => whnf) | (unfold okS; conv => whnf) | (unfold SlotOk; conv => whnf) | (unfold ObjOk; conv => whnf) | (unfold okCells; conv => whnf) | (unfold liveTo; conv => whnf) | exact Nat.zero_lt_succ _))
        · have h2' : fnd = true := by simpa using h2
          have hfin : fnd = (Ob.find l n).isSome := by
            rw [h2']; symm; exact find_none_take (by rw [← hkk, h2'])
          ((conv => whnf)); (refine CallLeaf.w (by (repeat' (first | exact ArgsTo.nil | refine ArgsTo.cons ?_ ?_ | exact ArgTo.mk' rfl (Wk.refl _) | exact ArgTo.mk' rfl Wk.nilm | exact ArgTo.mk' rfl (Wk.int (by simp)) | exact ArgTo.mk' rfl (Wk.list _ _) | exact ArgTo.mk' rfl (Wk.agg (by (repeat' (first | exact Wks.nil | refine Wks.cons ?_ ?_ | exact Wk.refl _ | exact Wk.nilm | exact Wk.list _ _  | exact Wk.natN rfl | refine Wk.agg ?_))))))) (bytes_t x1) rfl ?_); ((conv => whnf)); (refine split_intro (fun _ => ?_) (fun h => absurd h (by (simp)))); ((conv => whnf)); (refine CallLeaf.w (by (repeat' (first | exact ArgsTo.nil | refine ArgsTo.cons ?_ ?_ | exact ArgTo.mk' rfl (Wk.refl _) | exact ArgTo.mk' rfl Wk.nilm | exact ArgTo.mk' rfl (Wk.int (by simp)) | exact ArgTo.mk' rfl (Wk.list _ _) | exact ArgTo.mk' rfl (Wk.agg (by (repeat' (first | exact Wks.nil | refine Wks.cons ?_ ?_ | exact Wk.refl _ | exact Wk.nilm | exact Wk.list _ _  | exact Wk.natN rfl | refine Wk.agg ?_))))))) (osame_t y1 y0 hyl) rfl ?_); ((conv => whnf)); (refine split_intro (fun _ => ?_) (fun h => absurd h (by (simp)))); ((conv => whnf)); (refine CallLeaf.w (by (repeat' (first | exact ArgsTo.nil | refine ArgsTo.cons ?_ ?_ | exact ArgTo.mk' rfl (Wk.refl _) | exact ArgTo.mk' rfl Wk.nilm | exact ArgTo.mk' rfl (Wk.int (by simp)) | exact ArgTo.mk' rfl (Wk.list _ _) | exact ArgTo.mk' rfl (Wk.agg (by (repeat' (first | exact Wks.nil | refine Wks.cons ?_ ?_ | exact Wk.refl _ | exact Wk.nilm | exact Wk.list _ _  | exact Wk.natN rfl | refine Wk.agg ?_))))))) (A6) rfl ?_); ((conv => whnf)); (refine CallLeaf.w (by (repeat' (first | exact ArgsTo.nil | refine ArgsTo.cons ?_ ?_ | exact ArgTo.mk' rfl (Wk.refl _) | exact ArgTo.mk' rfl Wk.nilm | exact ArgTo.mk' rfl (Wk.int (by simp)) | exact ArgTo.mk' rfl (Wk.list _ _) | exact ArgTo.mk' rfl (Wk.agg (by (repeat' (first | exact Wks.nil | refine Wks.cons ?_ ?_ | exact Wk.refl _ | exact Wk.nilm | exact Wk.list _ _  | exact Wk.natN rfl | refine Wk.agg ?_))))))) (A7) rfl ?_); ((conv => whnf)); (refine split_intro (fun _ => ?_) (fun h => absurd h (by (simp)))); ((conv => whnf)); (refine split_intro (fun _ => ?_) (fun h => absurd h (by (simp [hO, hfin])))); ((conv => whnf)); refine split_intro (fun hq => ?_) (fun hq => ?_); (((conv => whnf)); exact Wk.refl _); ((conv => whnf)); (refine ⟨plainS F0, ?_⟩); ((conv => whnf)); exact Wk.bool (by have hq' : fnd = false := hq; rw [hq'] at hfin; have hN : Ob.find l n = none := (by simpa using hfin.symm); rw [hG, hN]; rfl)
      · have hge : l.length ≤ k := by have := of_decide_eq_false h1; simp at this; omega
        have hfin : fnd = (Ob.find l n).isSome := by rw [hkk, List.take_of_length_le hge]
        ((conv => whnf)); (refine CallLeaf.w (by (repeat' (first | exact ArgsTo.nil | refine ArgsTo.cons ?_ ?_ | exact ArgTo.mk' rfl (Wk.refl _) | exact ArgTo.mk' rfl Wk.nilm | exact ArgTo.mk' rfl (Wk.int (by simp)) | exact ArgTo.mk' rfl (Wk.list _ _) | exact ArgTo.mk' rfl (Wk.agg (by (repeat' (first | exact Wks.nil | refine Wks.cons ?_ ?_ | exact Wk.refl _ | exact Wk.nilm | exact Wk.list _ _  | exact Wk.natN rfl | refine Wk.agg ?_))))))) (bytes_t x1) rfl ?_); ((conv => whnf)); (refine split_intro (fun _ => ?_) (fun h => absurd h (by (simp)))); ((conv => whnf)); (refine CallLeaf.w (by (repeat' (first | exact ArgsTo.nil | refine ArgsTo.cons ?_ ?_ | exact ArgTo.mk' rfl (Wk.refl _) | exact ArgTo.mk' rfl Wk.nilm | exact ArgTo.mk' rfl (Wk.int (by simp)) | exact ArgTo.mk' rfl (Wk.list _ _) | exact ArgTo.mk' rfl (Wk.agg (by (repeat' (first | exact Wks.nil | refine Wks.cons ?_ ?_ | exact Wk.refl _ | exact Wk.nilm | exact Wk.list _ _  | exact Wk.natN rfl | refine Wk.agg ?_))))))) (osame_t y1 y0 hyl) rfl ?_); ((conv => whnf)); (refine split_intro (fun _ => ?_) (fun h => absurd h (by (simp)))); ((conv => whnf)); (refine CallLeaf.w (by (repeat' (first | exact ArgsTo.nil | refine ArgsTo.cons ?_ ?_ | exact ArgTo.mk' rfl (Wk.refl _) | exact ArgTo.mk' rfl Wk.nilm | exact ArgTo.mk' rfl (Wk.int (by simp)) | exact ArgTo.mk' rfl (Wk.list _ _) | exact ArgTo.mk' rfl (Wk.agg (by (repeat' (first | exact Wks.nil | refine Wks.cons ?_ ?_ | exact Wk.refl _ | exact Wk.nilm | exact Wk.list _ _  | exact Wk.natN rfl | refine Wk.agg ?_))))))) (A6) rfl ?_); ((conv => whnf)); (refine CallLeaf.w (by (repeat' (first | exact ArgsTo.nil | refine ArgsTo.cons ?_ ?_ | exact ArgTo.mk' rfl (Wk.refl _) | exact ArgTo.mk' rfl Wk.nilm | exact ArgTo.mk' rfl (Wk.int (by simp)) | exact ArgTo.mk' rfl (Wk.list _ _) | exact ArgTo.mk' rfl (Wk.agg (by (repeat' (first | exact Wks.nil | refine Wks.cons ?_ ?_ | exact Wk.refl _ | exact Wk.nilm | exact Wk.list _ _  | exact Wk.natN rfl | refine Wk.agg ?_))))))) (A7) rfl ?_); ((conv => whnf)); (refine split_intro (fun _ => ?_) (fun h => absurd h (by (simp)))); ((conv => whnf)); (refine split_intro (fun _ => ?_) (fun h => absurd h (by (simp [hO, hfin])))); ((conv => whnf)); refine split_intro (fun hq => ?_) (fun hq => ?_); (((conv => whnf)); exact Wk.refl _); ((conv => whnf)); (refine ⟨plainS F0, ?_⟩); ((conv => whnf)); exact Wk.bool (by have hq' : fnd = false := hq; rw [hq'] at hfin; have hN : Ob.find l n = none := (by simpa using hfin.symm); rw [hG, hN]; rfl)
theorem decL_err : ∀ (k : Nat) (r : List UInt8) (acc : List Ob.Sym) (e : Int), Ob.decL k r acc = .error e → e ≠ 0
  | 0, r, acc, e, h => by simp [Ob.decL] at h
  | k + 1, r, acc, e, h => by
    simp only [Ob.decL] at h
    split at h
    · injection h with h; omega
    · split at h
      · exact decL_err k _ _ _ h
      · injection h with h; omega
theorem decO_err {b : List UInt8} {e : Int} (h : decO b = .error e) : e ≠ 0 := by
  unfold decO at h
  split at h
  · injection h with h; omega
  split at h
  · injection h with h; omega
  split at h
  · injection h with h; omega
  split at h
  · injection h with h; omega
  exact decL_err _ _ _ _ h
theorem validO_names {l : List Ob.Sym} (h : validO l = true) : ∀ s ∈ l, s.name.length ≤ 1000000000 := fun s hs => by
  simp only [validO, Bool.and_eq_true] at h
  have := (valid_iff.1 (okL_mem _ _ h.1 s hs)).2.1
  omega
theorem encRO_t {o : Ob.Obj} (h : validO o.syms = true) : encRO' o = (encO o, 0) := by simp [encRO', h]
theorem encRO_f {o : Ob.Obj} (h : validO o.syms = false) : encRO' o = ([], 12) := by simp [encRO', h]
theorem ounique_ (l : List Ob.Sym) (x b : List UInt8) : FCall Try.prog Gl 9 [oD ⟨l, x⟩, LB b] [] (vB true) [] := by
  refine FCall.enterL hT hmix [] Try.func9 rfl rfl rfl fun hbd => ?_
  (((conv => whnf)); (refine CallLeaf.w (by (repeat' (first | exact ArgsTo.nil | refine ArgsTo.cons ?_ ?_ | exact ArgTo.mk' rfl (Wk.refl _) | exact ArgTo.mk' rfl Wk.nilm | exact ArgTo.mk' rfl (Wk.int (by simp)) | exact ArgTo.mk' rfl (Wk.list _ _) | exact ArgTo.mk' rfl (Wk.agg (by (repeat' (first | exact Wks.nil | refine Wks.cons ?_ ?_ | exact Wk.refl _ | exact Wk.nilm | exact Wk.list _ _  | exact Wk.natN rfl | refine Wk.agg ?_))))))) (oawake_) rfl ?_); ((conv => whnf)); (refine CallLeaf.w (by (repeat' (first | exact ArgsTo.nil | refine ArgsTo.cons ?_ ?_ | exact ArgTo.mk' rfl (Wk.refl _) | exact ArgTo.mk' rfl Wk.nilm | exact ArgTo.mk' rfl (Wk.int (by simp)) | exact ArgTo.mk' rfl (Wk.list _ _) | exact ArgTo.mk' rfl (Wk.agg (by (repeat' (first | exact Wks.nil | refine Wks.cons ?_ ?_ | exact Wk.refl _ | exact Wk.nilm | exact Wk.list _ _  | exact Wk.natN rfl | refine Wk.agg ?_))))))) (ofew_ l x) rfl ?_); ((conv => whnf)); refine split_intro (fun hf => ?_) (fun hf => ?_); (((conv => whnf)); (refine CallLeaf.w (by (repeat' (first | exact ArgsTo.nil | refine ArgsTo.cons ?_ ?_ | exact ArgTo.mk' rfl (Wk.refl _) | exact ArgTo.mk' rfl Wk.nilm | exact ArgTo.mk' rfl (Wk.int (by simp)) | exact ArgTo.mk' rfl (Wk.list _ _) | exact ArgTo.mk' rfl (Wk.agg (by (repeat' (first | exact Wks.nil | refine Wks.cons ?_ ?_ | exact Wk.refl _ | exact Wk.nilm | exact Wk.list _ _  | exact Wk.natN rfl | refine Wk.agg ?_))))))) (oawake_) rfl ?_); ((conv => whnf)); exact Wk.refl _))
  have hf' := not_f hf
  have he := encO_few hf'
  obtain ⟨hl, hn, hx⟩ := fewO_iff.1 hf'
  replace hl : l.length ≤ 60 := hl
  replace hn : ∀ s ∈ l, s.name.length ≤ 300 := hn
  (conv => whnf)
  refine split_intro (fun h => ?_) (fun h => ?_)
  · (conv => whnf)
    refine CallLeaf.w (by (repeat' (first | exact ArgsTo.nil | refine ArgsTo.cons ?_ ?_ | exact ArgTo.mk' rfl (Wk.refl _) | exact ArgTo.mk' rfl Wk.nilm | exact ArgTo.mk' rfl (Wk.int (by simp)) | exact ArgTo.mk' rfl (Wk.list _ _) | exact ArgTo.mk' rfl (Wk.agg (by (repeat' (first | exact Wks.nil | refine Wks.cons ?_ ?_ | exact Wk.refl _ | exact Wk.nilm | exact Wk.list _ _  | exact Wk.natN rfl | refine Wk.agg ?_))))))) (oawake_) rfl ?_
    (conv => whnf)
    exact Wk.refl _
  · have hb : b.length ≤ 5000 := by have := of_decide_eq_false h; simp at this; omega
    have A1 := oencode_ l x (by omega)
    have B1 := odecode_ b (by omega)
    cases hd : decO b with
    | error e =>
      have hne := decO_err hd
      rw [hd] at B1
      cases hv : validO l with
      | false =>
        have A7 := orvalid_ l x (by omega) (fun s hs => by have := hn s hs; omega)
        rw [encRO_f (o := ⟨l, x⟩) hv] at A1
        rw [hv] at A7
        (conv => whnf)
        refine CallLeaf.w (by (repeat' (first | exact ArgsTo.nil | refine ArgsTo.cons ?_ ?_ | exact ArgTo.mk' rfl (Wk.refl _) | exact ArgTo.mk' rfl Wk.nilm | exact ArgTo.mk' rfl (Wk.int (by simp)) | exact ArgTo.mk' rfl (Wk.list _ _) | exact ArgTo.mk' rfl (Wk.agg (by (repeat' (first | exact Wks.nil | refine Wks.cons ?_ ?_ | exact Wk.refl _ | exact Wk.nilm | exact Wk.list _ _  | exact Wk.natN rfl | refine Wk.agg ?_))))))) (A1) rfl ?_
        (conv => whnf)
        refine CallLeaf.w (by (repeat' (first | exact ArgsTo.nil | refine ArgsTo.cons ?_ ?_ | exact ArgTo.mk' rfl (Wk.refl _) | exact ArgTo.mk' rfl Wk.nilm | exact ArgTo.mk' rfl (Wk.int (by simp)) | exact ArgTo.mk' rfl (Wk.list _ _) | exact ArgTo.mk' rfl (Wk.agg (by (repeat' (first | exact Wks.nil | refine Wks.cons ?_ ?_ | exact Wk.refl _ | exact Wk.nilm | exact Wk.list _ _  | exact Wk.natN rfl | refine Wk.agg ?_))))))) (A7) rfl ?_
        (((conv => whnf)); (refine CallLeaf.w (by (repeat' (first | exact ArgsTo.nil | refine ArgsTo.cons ?_ ?_ | exact ArgTo.mk' rfl (Wk.refl _) | exact ArgTo.mk' rfl Wk.nilm | exact ArgTo.mk' rfl (Wk.int (by simp)) | exact ArgTo.mk' rfl (Wk.list _ _) | exact ArgTo.mk' rfl (Wk.agg (by (repeat' (first | exact Wks.nil | refine Wks.cons ?_ ?_ | exact Wk.refl _ | exact Wk.nilm | exact Wk.list _ _  | exact Wk.natN rfl | refine Wk.agg ?_))))))) (B1) rfl ?_); ((conv => whnf)); (refine split_intro (fun _ => ?_) (fun h => absurd h (by (simpa [encRO] using hne)))); ((conv => whnf)); (refine CallLeaf.w (by (repeat' (first | exact ArgsTo.nil | refine ArgsTo.cons ?_ ?_ | exact ArgTo.mk' rfl (Wk.refl _) | exact ArgTo.mk' rfl Wk.nilm | exact ArgTo.mk' rfl (Wk.int (by simp)) | exact ArgTo.mk' rfl (Wk.list _ _) | exact ArgTo.mk' rfl (Wk.agg (by (repeat' (first | exact Wks.nil | refine Wks.cons ?_ ?_ | exact Wk.refl _ | exact Wk.nilm | exact Wk.list _ _  | exact Wk.natN rfl | refine Wk.agg ?_))))))) (osame_t [] [] (by decide)) rfl ?_); ((conv => whnf)); exact Wk.refl _)
      | true =>
        have A2 := odecode_ (encO ⟨l, x⟩) (by omega)
        rw [decO_enc (o := ⟨l, x⟩) hv] at A2
        rw [encRO_t (o := ⟨l, x⟩) hv] at A1
        (conv => whnf)
        refine CallLeaf.w (by (repeat' (first | exact ArgsTo.nil | refine ArgsTo.cons ?_ ?_ | exact ArgTo.mk' rfl (Wk.refl _) | exact ArgTo.mk' rfl Wk.nilm | exact ArgTo.mk' rfl (Wk.int (by simp)) | exact ArgTo.mk' rfl (Wk.list _ _) | exact ArgTo.mk' rfl (Wk.agg (by (repeat' (first | exact Wks.nil | refine Wks.cons ?_ ?_ | exact Wk.refl _ | exact Wk.nilm | exact Wk.list _ _  | exact Wk.natN rfl | refine Wk.agg ?_))))))) (A1) rfl ?_
        (conv => whnf)
        refine CallLeaf.w (by (repeat' (first | exact ArgsTo.nil | refine ArgsTo.cons ?_ ?_ | exact ArgTo.mk' rfl (Wk.refl _) | exact ArgTo.mk' rfl Wk.nilm | exact ArgTo.mk' rfl (Wk.int (by simp)) | exact ArgTo.mk' rfl (Wk.list _ _) | exact ArgTo.mk' rfl (Wk.agg (by (repeat' (first | exact Wks.nil | refine Wks.cons ?_ ?_ | exact Wk.refl _ | exact Wk.nilm | exact Wk.list _ _  | exact Wk.natN rfl | refine Wk.agg ?_))))))) (A2) rfl ?_
        (conv => whnf)
        refine CallLeaf.w (by (repeat' (first | exact ArgsTo.nil | refine ArgsTo.cons ?_ ?_ | exact ArgTo.mk' rfl (Wk.refl _) | exact ArgTo.mk' rfl Wk.nilm | exact ArgTo.mk' rfl (Wk.int (by simp)) | exact ArgTo.mk' rfl (Wk.list _ _) | exact ArgTo.mk' rfl (Wk.agg (by (repeat' (first | exact Wks.nil | refine Wks.cons ?_ ?_ | exact Wk.refl _ | exact Wk.nilm | exact Wk.list _ _  | exact Wk.natN rfl | refine Wk.agg ?_))))))) (osame_t l x (by omega)) rfl ?_
        (((conv => whnf)); (refine CallLeaf.w (by (repeat' (first | exact ArgsTo.nil | refine ArgsTo.cons ?_ ?_ | exact ArgTo.mk' rfl (Wk.refl _) | exact ArgTo.mk' rfl Wk.nilm | exact ArgTo.mk' rfl (Wk.int (by simp)) | exact ArgTo.mk' rfl (Wk.list _ _) | exact ArgTo.mk' rfl (Wk.agg (by (repeat' (first | exact Wks.nil | refine Wks.cons ?_ ?_ | exact Wk.refl _ | exact Wk.nilm | exact Wk.list _ _  | exact Wk.natN rfl | refine Wk.agg ?_))))))) (B1) rfl ?_); ((conv => whnf)); (refine split_intro (fun _ => ?_) (fun h => absurd h (by (simpa [encRO] using hne)))); ((conv => whnf)); (refine CallLeaf.w (by (repeat' (first | exact ArgsTo.nil | refine ArgsTo.cons ?_ ?_ | exact ArgTo.mk' rfl (Wk.refl _) | exact ArgTo.mk' rfl Wk.nilm | exact ArgTo.mk' rfl (Wk.int (by simp)) | exact ArgTo.mk' rfl (Wk.list _ _) | exact ArgTo.mk' rfl (Wk.agg (by (repeat' (first | exact Wks.nil | refine Wks.cons ?_ ?_ | exact Wk.refl _ | exact Wk.nilm | exact Wk.list _ _  | exact Wk.natN rfl | refine Wk.agg ?_))))))) (osame_t [] [] (by decide)) rfl ?_); ((conv => whnf)); exact Wk.refl _)
    | ok p =>
      obtain ⟨l1, x1⟩ := p
      obtain ⟨v1, v2⟩ := enc_dec hd
      rw [hd] at B1
      have B2 := oencode_ l1 x1 (by rw [v2]; omega)
      rw [encRO_t (o := ⟨l1, x1⟩) v1, v2] at B2
      have v1' := v1
      simp only [validO, Bool.and_eq_true, decide_eq_true_eq] at v1'
      have B3 := orvalid_ l1 x1 (by omega) (validO_names v1)
      rw [v1] at B3
      cases hv : validO l with
      | false =>
        have A7 := orvalid_ l x (by omega) (fun s hs => by have := hn s hs; omega)
        rw [encRO_f (o := ⟨l, x⟩) hv] at A1
        rw [hv] at A7
        (conv => whnf)
        refine CallLeaf.w (by (repeat' (first | exact ArgsTo.nil | refine ArgsTo.cons ?_ ?_ | exact ArgTo.mk' rfl (Wk.refl _) | exact ArgTo.mk' rfl Wk.nilm | exact ArgTo.mk' rfl (Wk.int (by simp)) | exact ArgTo.mk' rfl (Wk.list _ _) | exact ArgTo.mk' rfl (Wk.agg (by (repeat' (first | exact Wks.nil | refine Wks.cons ?_ ?_ | exact Wk.refl _ | exact Wk.nilm | exact Wk.list _ _  | exact Wk.natN rfl | refine Wk.agg ?_))))))) (A1) rfl ?_
        (conv => whnf)
        refine CallLeaf.w (by (repeat' (first | exact ArgsTo.nil | refine ArgsTo.cons ?_ ?_ | exact ArgTo.mk' rfl (Wk.refl _) | exact ArgTo.mk' rfl Wk.nilm | exact ArgTo.mk' rfl (Wk.int (by simp)) | exact ArgTo.mk' rfl (Wk.list _ _) | exact ArgTo.mk' rfl (Wk.agg (by (repeat' (first | exact Wks.nil | refine Wks.cons ?_ ?_ | exact Wk.refl _ | exact Wk.nilm | exact Wk.list _ _  | exact Wk.natN rfl | refine Wk.agg ?_))))))) (A7) rfl ?_
        (((conv => whnf)); (refine CallLeaf.w (by (repeat' (first | exact ArgsTo.nil | refine ArgsTo.cons ?_ ?_ | exact ArgTo.mk' rfl (Wk.refl _) | exact ArgTo.mk' rfl Wk.nilm | exact ArgTo.mk' rfl (Wk.int (by simp)) | exact ArgTo.mk' rfl (Wk.list _ _) | exact ArgTo.mk' rfl (Wk.agg (by (repeat' (first | exact Wks.nil | refine Wks.cons ?_ ?_ | exact Wk.refl _ | exact Wk.nilm | exact Wk.list _ _  | exact Wk.natN rfl | refine Wk.agg ?_))))))) (B1) rfl ?_); ((conv => whnf)); (refine CallLeaf.w (by (repeat' (first | exact ArgsTo.nil | refine ArgsTo.cons ?_ ?_ | exact ArgTo.mk' rfl (Wk.refl _) | exact ArgTo.mk' rfl Wk.nilm | exact ArgTo.mk' rfl (Wk.int (by simp)) | exact ArgTo.mk' rfl (Wk.list _ _) | exact ArgTo.mk' rfl (Wk.agg (by (repeat' (first | exact Wks.nil | refine Wks.cons ?_ ?_ | exact Wk.refl _ | exact Wk.nilm | exact Wk.list _ _  | exact Wk.natN rfl | refine Wk.agg ?_))))))) (B2) rfl ?_); ((conv => whnf)); (refine CallLeaf.w (by (repeat' (first | exact ArgsTo.nil | refine ArgsTo.cons ?_ ?_ | exact ArgTo.mk' rfl (Wk.refl _) | exact ArgTo.mk' rfl Wk.nilm | exact ArgTo.mk' rfl (Wk.int (by simp)) | exact ArgTo.mk' rfl (Wk.list _ _) | exact ArgTo.mk' rfl (Wk.agg (by (repeat' (first | exact Wks.nil | refine Wks.cons ?_ ?_ | exact Wk.refl _ | exact Wk.nilm | exact Wk.list _ _  | exact Wk.natN rfl | refine Wk.agg ?_))))))) (B3) rfl ?_); ((conv => whnf)); (refine CallLeaf.w (by (repeat' (first | exact ArgsTo.nil | refine ArgsTo.cons ?_ ?_ | exact ArgTo.mk' rfl (Wk.refl _) | exact ArgTo.mk' rfl Wk.nilm | exact ArgTo.mk' rfl (Wk.int (by simp)) | exact ArgTo.mk' rfl (Wk.list _ _) | exact ArgTo.mk' rfl (Wk.agg (by (repeat' (first | exact Wks.nil | refine Wks.cons ?_ ?_ | exact Wk.refl _ | exact Wk.nilm | exact Wk.list _ _  | exact Wk.natN rfl | refine Wk.agg ?_))))))) (bytes_t b) rfl ?_); ((conv => whnf)); exact Wk.refl _)
      | true =>
        have A2 := odecode_ (encO ⟨l, x⟩) (by omega)
        rw [decO_enc (o := ⟨l, x⟩) hv] at A2
        rw [encRO_t (o := ⟨l, x⟩) hv] at A1
        (conv => whnf)
        refine CallLeaf.w (by (repeat' (first | exact ArgsTo.nil | refine ArgsTo.cons ?_ ?_ | exact ArgTo.mk' rfl (Wk.refl _) | exact ArgTo.mk' rfl Wk.nilm | exact ArgTo.mk' rfl (Wk.int (by simp)) | exact ArgTo.mk' rfl (Wk.list _ _) | exact ArgTo.mk' rfl (Wk.agg (by (repeat' (first | exact Wks.nil | refine Wks.cons ?_ ?_ | exact Wk.refl _ | exact Wk.nilm | exact Wk.list _ _  | exact Wk.natN rfl | refine Wk.agg ?_))))))) (A1) rfl ?_
        (conv => whnf)
        refine CallLeaf.w (by (repeat' (first | exact ArgsTo.nil | refine ArgsTo.cons ?_ ?_ | exact ArgTo.mk' rfl (Wk.refl _) | exact ArgTo.mk' rfl Wk.nilm | exact ArgTo.mk' rfl (Wk.int (by simp)) | exact ArgTo.mk' rfl (Wk.list _ _) | exact ArgTo.mk' rfl (Wk.agg (by (repeat' (first | exact Wks.nil | refine Wks.cons ?_ ?_ | exact Wk.refl _ | exact Wk.nilm | exact Wk.list _ _  | exact Wk.natN rfl | refine Wk.agg ?_))))))) (A2) rfl ?_
        (conv => whnf)
        refine CallLeaf.w (by (repeat' (first | exact ArgsTo.nil | refine ArgsTo.cons ?_ ?_ | exact ArgTo.mk' rfl (Wk.refl _) | exact ArgTo.mk' rfl Wk.nilm | exact ArgTo.mk' rfl (Wk.int (by simp)) | exact ArgTo.mk' rfl (Wk.list _ _) | exact ArgTo.mk' rfl (Wk.agg (by (repeat' (first | exact Wks.nil | refine Wks.cons ?_ ?_ | exact Wk.refl _ | exact Wk.nilm | exact Wk.list _ _  | exact Wk.natN rfl | refine Wk.agg ?_))))))) (osame_t l x (by omega)) rfl ?_
        (((conv => whnf)); (refine CallLeaf.w (by (repeat' (first | exact ArgsTo.nil | refine ArgsTo.cons ?_ ?_ | exact ArgTo.mk' rfl (Wk.refl _) | exact ArgTo.mk' rfl Wk.nilm | exact ArgTo.mk' rfl (Wk.int (by simp)) | exact ArgTo.mk' rfl (Wk.list _ _) | exact ArgTo.mk' rfl (Wk.agg (by (repeat' (first | exact Wks.nil | refine Wks.cons ?_ ?_ | exact Wk.refl _ | exact Wk.nilm | exact Wk.list _ _  | exact Wk.natN rfl | refine Wk.agg ?_))))))) (B1) rfl ?_); ((conv => whnf)); (refine CallLeaf.w (by (repeat' (first | exact ArgsTo.nil | refine ArgsTo.cons ?_ ?_ | exact ArgTo.mk' rfl (Wk.refl _) | exact ArgTo.mk' rfl Wk.nilm | exact ArgTo.mk' rfl (Wk.int (by simp)) | exact ArgTo.mk' rfl (Wk.list _ _) | exact ArgTo.mk' rfl (Wk.agg (by (repeat' (first | exact Wks.nil | refine Wks.cons ?_ ?_ | exact Wk.refl _ | exact Wk.nilm | exact Wk.list _ _  | exact Wk.natN rfl | refine Wk.agg ?_))))))) (B2) rfl ?_); ((conv => whnf)); (refine CallLeaf.w (by (repeat' (first | exact ArgsTo.nil | refine ArgsTo.cons ?_ ?_ | exact ArgTo.mk' rfl (Wk.refl _) | exact ArgTo.mk' rfl Wk.nilm | exact ArgTo.mk' rfl (Wk.int (by simp)) | exact ArgTo.mk' rfl (Wk.list _ _) | exact ArgTo.mk' rfl (Wk.agg (by (repeat' (first | exact Wks.nil | refine Wks.cons ?_ ?_ | exact Wk.refl _ | exact Wk.nilm | exact Wk.list _ _  | exact Wk.natN rfl | refine Wk.agg ?_))))))) (B3) rfl ?_); ((conv => whnf)); (refine CallLeaf.w (by (repeat' (first | exact ArgsTo.nil | refine ArgsTo.cons ?_ ?_ | exact ArgTo.mk' rfl (Wk.refl _) | exact ArgTo.mk' rfl Wk.nilm | exact ArgTo.mk' rfl (Wk.int (by simp)) | exact ArgTo.mk' rfl (Wk.list _ _) | exact ArgTo.mk' rfl (Wk.agg (by (repeat' (first | exact Wks.nil | refine Wks.cons ?_ ?_ | exact Wk.refl _ | exact Wk.nilm | exact Wk.list _ _  | exact Wk.natN rfl | refine Wk.agg ?_))))))) (bytes_t b) rfl ?_); ((conv => whnf)); exact Wk.refl _)
end Go.Proofs.Ytfacepcmpijdpaa

/- The laws of objects: cutting, prefixes, what is kept. No condition. -/
set_option linter.unusedVariables false
set_option linter.unusedSimpArgs false
namespace Go.Proofs.Ytfacepcmpijdpaa
open Go Go.AL Go.AL.Ap Go.AL.Ob
set_option maxRecDepth 100000
set_option maxHeartbeats 4000000
theorem rem64n {a b : Nat} (h : 0 < b) (hb : a ≤ 9223372036854775807) : intBin .rem .i64 (a : Int) (b : Int) = some ((a % b : Nat) : Int) := by
  have h1 : ((a : Int)).tmod (b : Int) = ((a % b : Nat) : Int) := (Int.ofNat_tmod a b).symm
  have h2 : a % b ≤ a := Nat.mod_le _ _
  simp only [intBin]
  rw [if_neg (by omega)]
  simp [h1]
theorem otrunc_ (l : List Ob.Sym) (x : List UInt8) (cut : Nat) (hc : cut ≤ 65535) : FCall Try.prog Gl 10 [oD ⟨l, x⟩, .v (.int .u16 (cut : Int))] [] (vB true) [] := by
  refine FCall.enterL hT hmix [] Try.func10 rfl rfl rfl fun hbd => ?_
  (((conv => whnf)); (refine CallLeaf.w (by (repeat' (first | exact ArgsTo.nil | refine ArgsTo.cons ?_ ?_ | exact ArgTo.mk' rfl (Wk.refl _) | exact ArgTo.mk' rfl Wk.nilm | exact ArgTo.mk' rfl (Wk.int (by simp)) | exact ArgTo.mk' rfl (Wk.list _ _) | exact ArgTo.mk' rfl (Wk.agg (by (repeat' (first | exact Wks.nil | refine Wks.cons ?_ ?_ | exact Wk.refl _ | exact Wk.nilm | exact Wk.list _ _  | exact Wk.natN rfl | refine Wk.agg ?_))))))) (oawake_) rfl ?_); ((conv => whnf)); (refine CallLeaf.w (by (repeat' (first | exact ArgsTo.nil | refine ArgsTo.cons ?_ ?_ | exact ArgTo.mk' rfl (Wk.refl _) | exact ArgTo.mk' rfl Wk.nilm | exact ArgTo.mk' rfl (Wk.int (by simp)) | exact ArgTo.mk' rfl (Wk.list _ _) | exact ArgTo.mk' rfl (Wk.agg (by (repeat' (first | exact Wks.nil | refine Wks.cons ?_ ?_ | exact Wk.refl _ | exact Wk.nilm | exact Wk.list _ _  | exact Wk.natN rfl | refine Wk.agg ?_))))))) (ofew_ l x) rfl ?_); ((conv => whnf)); refine split_intro (fun hf => ?_) (fun hf => ?_); (((conv => whnf)); (refine CallLeaf.w (by (repeat' (first | exact ArgsTo.nil | refine ArgsTo.cons ?_ ?_ | exact ArgTo.mk' rfl (Wk.refl _) | exact ArgTo.mk' rfl Wk.nilm | exact ArgTo.mk' rfl (Wk.int (by simp)) | exact ArgTo.mk' rfl (Wk.list _ _) | exact ArgTo.mk' rfl (Wk.agg (by (repeat' (first | exact Wks.nil | refine Wks.cons ?_ ?_ | exact Wk.refl _ | exact Wk.nilm | exact Wk.list _ _  | exact Wk.natN rfl | refine Wk.agg ?_))))))) (oawake_) rfl ?_); ((conv => whnf)); exact Wk.refl _))
  have hf' := not_f hf
  have he := encO_few hf'
  have hel := encO_len ⟨l, x⟩
  obtain ⟨hl, hn, hx⟩ := fewO_iff.1 hf'
  replace hl : l.length ≤ 60 := hl
  replace hn : ∀ s ∈ l, s.name.length ≤ 300 := hn
  replace hx : x.length ≤ 1000 := hx
  have A7 := orvalid_ l x (by omega) (fun s hs => by have := hn s hs; omega)
  (conv => whnf)
  refine CallLeaf.w (by (repeat' (first | exact ArgsTo.nil | refine ArgsTo.cons ?_ ?_ | exact ArgTo.mk' rfl (Wk.refl _) | exact ArgTo.mk' rfl Wk.nilm | exact ArgTo.mk' rfl (Wk.int (by simp)) | exact ArgTo.mk' rfl (Wk.list _ _) | exact ArgTo.mk' rfl (Wk.agg (by (repeat' (first | exact Wks.nil | refine Wks.cons ?_ ?_ | exact Wk.refl _ | exact Wk.nilm | exact Wk.list _ _  | exact Wk.natN rfl | refine Wk.agg ?_))))))) (A7) rfl ?_
  (conv => whnf)
  refine split_intro (fun hv => ?_) (fun hv => ?_)
  · (conv => whnf)
    refine CallLeaf.w (by (repeat' (first | exact ArgsTo.nil | refine ArgsTo.cons ?_ ?_ | exact ArgTo.mk' rfl (Wk.refl _) | exact ArgTo.mk' rfl Wk.nilm | exact ArgTo.mk' rfl (Wk.int (by simp)) | exact ArgTo.mk' rfl (Wk.list _ _) | exact ArgTo.mk' rfl (Wk.agg (by (repeat' (first | exact Wks.nil | refine Wks.cons ?_ ?_ | exact Wk.refl _ | exact Wk.nilm | exact Wk.list _ _  | exact Wk.natN rfl | refine Wk.agg ?_))))))) (oawake_) rfl ?_
    (conv => whnf)
    exact Wk.refl _
  · have hv' := not_f hv
    have A1 := orencode_ l x (by omega) (fun s hs => by have := hn s hs; omega)
    rw [encRO_t (o := ⟨l, x⟩) hv'] at A1
    have hk := decO_cut (o := ⟨l, x⟩) hv' (cut % ((encO ⟨l, x⟩).length + 1)) (by have := Nat.mod_lt cut (show 0 < (encO ⟨l, x⟩).length + 1 by omega); omega)
    have hlt := Nat.mod_lt cut (show 0 < (encO ⟨l, x⟩).length + 1 by omega)
    generalize encO ⟨l, x⟩ = E at *
    simp only at hel hk
    obtain ⟨k, hkk⟩ : ∃ k, cut % (E.length + 1) = k := ⟨_, rfl⟩
    rw [hkk] at hk hlt
    have A2 := odecode_ (E.take k) (by simp; omega)
    (conv => whnf)
    refine CallLeaf.w (by (repeat' (first | exact ArgsTo.nil | refine ArgsTo.cons ?_ ?_ | exact ArgTo.mk' rfl (Wk.refl _) | exact ArgTo.mk' rfl Wk.nilm | exact ArgTo.mk' rfl (Wk.int (by simp)) | exact ArgTo.mk' rfl (Wk.list _ _) | exact ArgTo.mk' rfl (Wk.agg (by (repeat' (first | exact Wks.nil | refine Wks.cons ?_ ?_ | exact Wk.refl _ | exact Wk.nilm | exact Wk.list _ _  | exact Wk.natN rfl | refine Wk.agg ?_))))))) (A1) rfl ?_
    (conv => whnf)
    refine ⟨_, wrap64 (by omega), ?_⟩
    (conv => whnf)
    refine ⟨_, add64 (c := ((E.length + 1 : Nat) : Int)) (by simp) (by omega), ?_⟩
    (conv => whnf)
    refine ⟨_, (rem64n (a := cut) (b := E.length + 1) (by omega) (by omega)).trans (by rw [hkk]), ?_⟩
    (conv => whnf)
    refine ⟨_, slTake (f := byteD) (l := E) (b := k) (r := E.take k) rfl (by omega) (fun _ => rfl) rfl, ?_⟩
    by_cases hc : k < E.length - x.length
    · rw [if_pos hc] at hk
      rw [hk] at A2
      (conv => whnf)
      refine CallLeaf.w (by (repeat' (first | exact ArgsTo.nil | refine ArgsTo.cons ?_ ?_ | exact ArgTo.mk' rfl (Wk.refl _) | exact ArgTo.mk' rfl Wk.nilm | exact ArgTo.mk' rfl (Wk.int (by simp)) | exact ArgTo.mk' rfl (Wk.list _ _) | exact ArgTo.mk' rfl (Wk.agg (by (repeat' (first | exact Wks.nil | refine Wks.cons ?_ ?_ | exact Wk.refl _ | exact Wk.nilm | exact Wk.list _ _  | exact Wk.natN rfl | refine Wk.agg ?_))))))) (A2) rfl ?_
      (conv => whnf)
      refine ⟨_, sub64 (c := ((E.length - x.length : Nat) : Int)) (by simp; omega) (by omega), ?_⟩
      (conv => whnf)
      refine ⟨_, sub64 (c := (k : Int) - ((E.length - x.length : Nat) : Int)) rfl (by omega), ?_⟩
      (conv => whnf)
      refine split_intro (fun _ => ?_) (fun h => absurd h (by (simp; omega)))
      (conv => whnf)
      exact Wk.refl _
    · rw [if_neg hc] at hk
      rw [hk] at A2
      (conv => whnf)
      refine CallLeaf.w (by (repeat' (first | exact ArgsTo.nil | refine ArgsTo.cons ?_ ?_ | exact ArgTo.mk' rfl (Wk.refl _) | exact ArgTo.mk' rfl Wk.nilm | exact ArgTo.mk' rfl (Wk.int (by simp)) | exact ArgTo.mk' rfl (Wk.list _ _) | exact ArgTo.mk' rfl (Wk.agg (by (repeat' (first | exact Wks.nil | refine Wks.cons ?_ ?_ | exact Wk.refl _ | exact Wk.nilm | exact Wk.list _ _  | exact Wk.natN rfl | refine Wk.agg ?_))))))) (A2) rfl ?_
      (conv => whnf)
      refine ⟨_, sub64 (c := ((E.length - x.length : Nat) : Int)) (by simp; omega) (by omega), ?_⟩
      (conv => whnf)
      refine ⟨_, sub64 (c := ((k - (E.length - x.length) : Nat) : Int)) (by omega) (by omega), ?_⟩
      (conv => whnf)
      refine ⟨_, slTake (f := byteD) (l := x) (b := k - (E.length - x.length)) (r := x.take (k - (E.length - x.length))) rfl (by omega) (fun _ => rfl) rfl, ?_⟩
      (conv => whnf)
      refine CallLeaf.w (by (repeat' (first | exact ArgsTo.nil | refine ArgsTo.cons ?_ ?_ | exact ArgTo.mk' rfl (Wk.refl _) | exact ArgTo.mk' rfl Wk.nilm | exact ArgTo.mk' rfl (Wk.int (by simp)) | exact ArgTo.mk' rfl (Wk.list _ _) | exact ArgTo.mk' rfl (Wk.agg (by (repeat' (first | exact Wks.nil | refine Wks.cons ?_ ?_ | exact Wk.refl _ | exact Wk.nilm | exact Wk.list _ _  | exact Wk.natN rfl | refine Wk.agg ?_))))))) (osame_t l (x.take (k - (E.length - x.length))) (by omega)) rfl ?_
      (conv => whnf)
      exact Wk.refl _
theorem oprefix_ (l : List Ob.Sym) (x : List UInt8) (n : Nat) (hc : n ≤ 255) : FCall Try.prog Gl 11 [oD ⟨l, x⟩, .v (.int .u8 (n : Int))] [] (vB true) [] := by
  refine FCall.enterL hT hmix [] Try.func11 rfl rfl rfl fun hbd => ?_
  (((conv => whnf)); (refine CallLeaf.w (by (repeat' (first | exact ArgsTo.nil | refine ArgsTo.cons ?_ ?_ | exact ArgTo.mk' rfl (Wk.refl _) | exact ArgTo.mk' rfl Wk.nilm | exact ArgTo.mk' rfl (Wk.int (by simp)) | exact ArgTo.mk' rfl (Wk.list _ _) | exact ArgTo.mk' rfl (Wk.agg (by (repeat' (first | exact Wks.nil | refine Wks.cons ?_ ?_ | exact Wk.refl _ | exact Wk.nilm | exact Wk.list _ _  | exact Wk.natN rfl | refine Wk.agg ?_))))))) (oawake_) rfl ?_); ((conv => whnf)); (refine CallLeaf.w (by (repeat' (first | exact ArgsTo.nil | refine ArgsTo.cons ?_ ?_ | exact ArgTo.mk' rfl (Wk.refl _) | exact ArgTo.mk' rfl Wk.nilm | exact ArgTo.mk' rfl (Wk.int (by simp)) | exact ArgTo.mk' rfl (Wk.list _ _) | exact ArgTo.mk' rfl (Wk.agg (by (repeat' (first | exact Wks.nil | refine Wks.cons ?_ ?_ | exact Wk.refl _ | exact Wk.nilm | exact Wk.list _ _  | exact Wk.natN rfl | refine Wk.agg ?_))))))) (ofew_ l x) rfl ?_); ((conv => whnf)); refine split_intro (fun hf => ?_) (fun hf => ?_); (((conv => whnf)); (refine CallLeaf.w (by (repeat' (first | exact ArgsTo.nil | refine ArgsTo.cons ?_ ?_ | exact ArgTo.mk' rfl (Wk.refl _) | exact ArgTo.mk' rfl Wk.nilm | exact ArgTo.mk' rfl (Wk.int (by simp)) | exact ArgTo.mk' rfl (Wk.list _ _) | exact ArgTo.mk' rfl (Wk.agg (by (repeat' (first | exact Wks.nil | refine Wks.cons ?_ ?_ | exact Wk.refl _ | exact Wk.nilm | exact Wk.list _ _  | exact Wk.natN rfl | refine Wk.agg ?_))))))) (oawake_) rfl ?_); ((conv => whnf)); exact Wk.refl _))
  have hf' := not_f hf
  obtain ⟨hl, hn, hx⟩ := fewO_iff.1 hf'
  replace hl : l.length ≤ 60 := hl
  replace hn : ∀ s ∈ l, s.name.length ≤ 300 := hn
  replace hx : x.length ≤ 1000 := hx
  have A7 := orvalid_ l x (by omega) (fun s hs => by have := hn s hs; omega)
  (conv => whnf)
  refine CallLeaf.w (by (repeat' (first | exact ArgsTo.nil | refine ArgsTo.cons ?_ ?_ | exact ArgTo.mk' rfl (Wk.refl _) | exact ArgTo.mk' rfl Wk.nilm | exact ArgTo.mk' rfl (Wk.int (by simp)) | exact ArgTo.mk' rfl (Wk.list _ _) | exact ArgTo.mk' rfl (Wk.agg (by (repeat' (first | exact Wks.nil | refine Wks.cons ?_ ?_ | exact Wk.refl _ | exact Wk.nilm | exact Wk.list _ _  | exact Wk.natN rfl | refine Wk.agg ?_))))))) (A7) rfl ?_
  (conv => whnf)
  refine split_intro (fun hv => ?_) (fun hv => ?_)
  · (conv => whnf)
    refine CallLeaf.w (by (repeat' (first | exact ArgsTo.nil | refine ArgsTo.cons ?_ ?_ | exact ArgTo.mk' rfl (Wk.refl _) | exact ArgTo.mk' rfl Wk.nilm | exact ArgTo.mk' rfl (Wk.int (by simp)) | exact ArgTo.mk' rfl (Wk.list _ _) | exact ArgTo.mk' rfl (Wk.agg (by (repeat' (first | exact Wks.nil | refine Wks.cons ?_ ?_ | exact Wk.refl _ | exact Wk.nilm | exact Wk.list _ _  | exact Wk.natN rfl | refine Wk.agg ?_))))))) (oawake_) rfl ?_
    (conv => whnf)
    exact Wk.refl _
  · have hv' := not_f hv
    (conv => whnf)
    refine split_intro (fun h0 => ?_) (fun h0 => ?_)
    · (conv => whnf)
      refine CallLeaf.w (by (repeat' (first | exact ArgsTo.nil | refine ArgsTo.cons ?_ ?_ | exact ArgTo.mk' rfl (Wk.refl _) | exact ArgTo.mk' rfl Wk.nilm | exact ArgTo.mk' rfl (Wk.int (by simp)) | exact ArgTo.mk' rfl (Wk.list _ _) | exact ArgTo.mk' rfl (Wk.agg (by (repeat' (first | exact Wks.nil | refine Wks.cons ?_ ?_ | exact Wk.refl _ | exact Wk.nilm | exact Wk.list _ _  | exact Wk.natN rfl | refine Wk.agg ?_))))))) (oawake_) rfl ?_
      (conv => whnf)
      exact Wk.refl _
    · have h0' : 0 < l.length := by
        rcases Nat.eq_zero_or_pos l.length with e | e
        · simp [e] at h0
        · exact e
      have hlt := Nat.mod_lt n h0'
      obtain ⟨k, hkk⟩ : ∃ k, n % l.length = k := ⟨_, rfl⟩
      rw [hkk] at hlt
      obtain ⟨s, hs⟩ := exI hlt
      have A1 := oValid_ (l.take k) x (by simp; omega)
      rw [validO_take hv' k] at A1
      have A2 := oValid_ (l ++ [s]) [] (by simp; omega)
      rw [not_twice (List.mem_of_getElem? hs)] at A2
      have A3 := ofind_ l x s.name (by omega)
      rw [find_at hv' hs] at A3
      (conv => whnf)
      refine ⟨_, wrap64 (by omega), ?_⟩
      (conv => whnf)
      have hrem : intBin .rem .i64 (n : Int) ((SE l).length : Int) = some (k : Int) := by
        rw [List.length_map]; exact (rem64n (by omega) (by omega)).trans (by rw [hkk])
      refine ⟨_, hrem, ?_⟩
      (conv => whnf)
      refine ⟨_, slTake (f := Ob.Sym.enc) (l := l) (b := k) (r := l.take k) rfl (by omega) (fun _ => rfl) rfl, ?_⟩
      (conv => whnf)
      refine ⟨_, appL (f := Ob.Sym.enc) (xs := []) (ys := l) (zs := l) rfl rfl (fun _ => rfl) rfl (by show _ * 40 ≤ _; omega), ?_⟩
      (conv => whnf)
      refine ⟨_, ⟨by omega, getMap hs⟩, ?_⟩
      (conv => whnf)
      refine ⟨_, appL (f := Ob.Sym.enc) (xs := l) (ys := [s]) (zs := l ++ [s]) rfl rfl (fun _ => rfl) rfl (by rw [List.length_append]; show (_ + 1) * 40 ≤ _; omega), ?_⟩
      (conv => whnf)
      refine ⟨_, ⟨by omega, getMap hs⟩, ?_⟩
      (conv => whnf)
      refine CallLeaf.w (by (repeat' (first | exact ArgsTo.nil | refine ArgsTo.cons ?_ ?_ | exact ArgTo.mk' rfl (Wk.refl _) | exact ArgTo.mk' rfl Wk.nilm | exact ArgTo.mk' rfl (Wk.int (by simp)) | exact ArgTo.mk' rfl (Wk.list _ _) | exact ArgTo.mk' rfl (Wk.agg (by (repeat' (first | exact Wks.nil | refine Wks.cons ?_ ?_ | exact Wk.refl _ | exact Wk.nilm | exact Wk.list _ _  | exact Wk.natN rfl | refine Wk.agg ?_))))))) (A3) rfl ?_
      (conv => whnf)
      refine CallLeaf.w (by (repeat' (first | exact ArgsTo.nil | refine ArgsTo.cons ?_ ?_ | exact ArgTo.mk' rfl (Wk.refl _) | exact ArgTo.mk' rfl Wk.nilm | exact ArgTo.mk' rfl (Wk.int (by simp)) | exact ArgTo.mk' rfl (Wk.list _ _) | exact ArgTo.mk' rfl (Wk.agg (by (repeat' (first | exact Wks.nil | refine Wks.cons ?_ ?_ | exact Wk.refl _ | exact Wk.nilm | exact Wk.list _ _  | exact Wk.natN rfl | refine Wk.agg ?_))))))) (A1) rfl ?_
      (conv => whnf)
      refine CallLeaf.w (by (repeat' (first | exact ArgsTo.nil | refine ArgsTo.cons ?_ ?_ | exact ArgTo.mk' rfl (Wk.refl _) | exact ArgTo.mk' rfl Wk.nilm | exact ArgTo.mk' rfl (Wk.int (by simp)) | exact ArgTo.mk' rfl (Wk.list _ _) | exact ArgTo.mk' rfl (Wk.agg (by (repeat' (first | exact Wks.nil | refine Wks.cons ?_ ?_ | exact Wk.refl _ | exact Wk.nilm | exact Wk.list _ _  | exact Wk.natN rfl | refine Wk.agg ?_))))))) (A2) rfl ?_
      (conv => whnf)
      refine ⟨_, ⟨by omega, getMap hs⟩, ?_⟩
      (conv => whnf)
      refine ⟨plainS s, ?_⟩
      (conv => whnf)
      exact Wk.bool (by simp)
abbrev oeW (u : UInt8) : List D := [.sq (.int .u8)]
abbrev syW (s : Ob.Sym) : List D := [.sq .str, .sq (.int .i64), .sq (.int .i64), .sq (.int .i64)]
theorem th_oenc (x : List UInt8) (e : Int) : Th false (.tuple [LBn x, vI e]) (.tuple [.slist (x.map oeW), vI e]) := by
  refine Th.tupleL (ThL.cons (Th.map _ _ (fun u => ?_)) (ThL.cons (Th.v _) ThL.nil))
  exact (ThL.cons (Th.int _ _) ThL.nil : ThL _ [.v (.int .u8 (u.toNat : Int))] [.sq (.int .u8)])
theorem th_odec (o : Ob.Obj) (e : Int) : Th false (.tuple [oDn o, vI e]) (.tuple [.agg [.slist (o.syms.map syW), .slist (o.body.map oeW)], vI e]) := by
  refine Th.tupleL (ThL.cons (Th.aggL (ThL.cons (Th.map _ _ (fun s => ?_)) (ThL.cons (Th.map _ _ (fun u => ?_)) ThL.nil))) (ThL.cons (Th.v _) ThL.nil))
  · exact (ThL.cons (Th.str _) (ThL.cons (Th.int _ _) (ThL.cons (Th.int _ _) (ThL.cons (Th.int _ _) ThL.nil))) : ThL _ s.enc (syW s))
  · exact (ThL.cons (Th.int _ _) ThL.nil : ThL _ [.v (.int .u8 (u.toNat : Int))] [.sq (.int .u8)])
theorem oencW_ (l : List Ob.Sym) (x : List UInt8) (hx : (encO ⟨l, x⟩).length ≤ 1000000000) : FCall Try.prog Gl 24 [oD ⟨l, x⟩] [] (.tuple [.slist ((encRO' ⟨l, x⟩).1.map oeW), vI (encRO' ⟨l, x⟩).2]) [] :=
  FCall.thaw (oencode_ l x hx) (by (repeat' (first | exact Al.v _ | exact Al.nil | exact Al.junk | refine Al.map _ (fun _ => ?_) | refine Al.agg _ ?_ | refine Al.tuple _ ?_ | refine Al.cons ?_ ?_ | exact Al.none'))) (fun g => .ro _ (by simp only [Gl]; (repeat' (first | exact Al.v _ | exact Al.nil | exact Al.junk | refine Al.map _ (fun _ => ?_) | refine Al.agg _ ?_ | refine Al.tuple _ ?_ | refine Al.cons ?_ ?_ | exact Al.none')))) (th_oenc _ _)
theorem odecW_ (r : List UInt8) (hr : r.length ≤ 1000000000) : FCall Try.prog Gl 26 [LB r] [] (.tuple [.agg [.slist ((encRO (decO r)).1.syms.map syW), .slist ((encRO (decO r)).1.body.map oeW)], vI (encRO (decO r)).2]) [] :=
  FCall.thaw (odecode_ r hr) (by (repeat' (first | exact Al.v _ | exact Al.nil | exact Al.junk | refine Al.map _ (fun _ => ?_) | refine Al.agg _ ?_ | refine Al.tuple _ ?_ | refine Al.cons ?_ ?_ | exact Al.none'))) (fun g => .ro _ (by simp only [Gl]; (repeat' (first | exact Al.v _ | exact Al.nil | exact Al.junk | refine Al.map _ (fun _ => ?_) | refine Al.agg _ ?_ | refine Al.tuple _ ?_ | refine Al.cons ?_ ?_ | exact Al.none')))) (th_odec _ _)
theorem okeeps_ (l : List Ob.Sym) (x b : List UInt8) : FCall Try.prog Gl 12 [oD ⟨l, x⟩, LB b] [] (vB true) [] := by
  refine FCall.enterL hT hmix [] Try.func12 rfl rfl rfl fun hbd => ?_
  (((conv => whnf)); (refine CallLeaf.w (by (repeat' (first | exact ArgsTo.nil | refine ArgsTo.cons ?_ ?_ | exact ArgTo.mk' rfl (Wk.refl _) | exact ArgTo.mk' rfl Wk.nilm | exact ArgTo.mk' rfl (Wk.int (by simp)) | exact ArgTo.mk' rfl (Wk.list _ _) | exact ArgTo.mk' rfl (Wk.agg (by (repeat' (first | exact Wks.nil | refine Wks.cons ?_ ?_ | exact Wk.refl _ | exact Wk.nilm | exact Wk.list _ _  | exact Wk.natN rfl | refine Wk.agg ?_))))))) (oawake_) rfl ?_); ((conv => whnf)); (refine CallLeaf.w (by (repeat' (first | exact ArgsTo.nil | refine ArgsTo.cons ?_ ?_ | exact ArgTo.mk' rfl (Wk.refl _) | exact ArgTo.mk' rfl Wk.nilm | exact ArgTo.mk' rfl (Wk.int (by simp)) | exact ArgTo.mk' rfl (Wk.list _ _) | exact ArgTo.mk' rfl (Wk.agg (by (repeat' (first | exact Wks.nil | refine Wks.cons ?_ ?_ | exact Wk.refl _ | exact Wk.nilm | exact Wk.list _ _  | exact Wk.natN rfl | refine Wk.agg ?_))))))) (ofew_ l x) rfl ?_); ((conv => whnf)); refine split_intro (fun hf => ?_) (fun hf => ?_); (((conv => whnf)); (refine CallLeaf.w (by (repeat' (first | exact ArgsTo.nil | refine ArgsTo.cons ?_ ?_ | exact ArgTo.mk' rfl (Wk.refl _) | exact ArgTo.mk' rfl Wk.nilm | exact ArgTo.mk' rfl (Wk.int (by simp)) | exact ArgTo.mk' rfl (Wk.list _ _) | exact ArgTo.mk' rfl (Wk.agg (by (repeat' (first | exact Wks.nil | refine Wks.cons ?_ ?_ | exact Wk.refl _ | exact Wk.nilm | exact Wk.list _ _  | exact Wk.natN rfl | refine Wk.agg ?_))))))) (oawake_) rfl ?_); ((conv => whnf)); exact Wk.refl _))
  have hf' := not_f hf
  have he := encO_few hf'
  obtain ⟨hl, hn, hx⟩ := fewO_iff.1 hf'
  replace hl : l.length ≤ 60 := hl
  replace hx : x.length ≤ 1000 := hx
  (conv => whnf)
  refine split_intro (fun h => ?_) (fun h => ?_)
  · (conv => whnf)
    refine CallLeaf.w (by (repeat' (first | exact ArgsTo.nil | refine ArgsTo.cons ?_ ?_ | exact ArgTo.mk' rfl (Wk.refl _) | exact ArgTo.mk' rfl Wk.nilm | exact ArgTo.mk' rfl (Wk.int (by simp)) | exact ArgTo.mk' rfl (Wk.list _ _) | exact ArgTo.mk' rfl (Wk.agg (by (repeat' (first | exact Wks.nil | refine Wks.cons ?_ ?_ | exact Wk.refl _ | exact Wk.nilm | exact Wk.list _ _  | exact Wk.natN rfl | refine Wk.agg ?_))))))) (oawake_) rfl ?_
    (conv => whnf)
    exact Wk.refl _
  · have hb : b.length ≤ 5000 := by have := of_decide_eq_false h; simp at this; omega
    have A1 := oencW_ l x (by omega)
    have A2 := odecW_ b (by omega)
    have hx1 : (encRO' ⟨l, x⟩).1.length ≤ 40000 := by
      unfold encRO'; split
      · exact he
      · simp
    have hy : (encRO (decO b)).1.body.length ≤ 5000 := by
      cases hd : decO b with
      | error e => simp [encRO]
      | ok p =>
        obtain ⟨l1, x1⟩ := p
        have := (enc_dec hd).2
        have h2 := encO_len ⟨l1, x1⟩
        rw [this] at h2
        simp only [encRO] at *; omega
    generalize encRO' ⟨l, x⟩ = z at *
    generalize encRO (decO b) = y at *
    obtain ⟨x1, x2⟩ := z
    obtain ⟨⟨y1, y0⟩, y2⟩ := y
    replace hx1 : x1.length ≤ 40000 := hx1
    replace hy : y0.length ≤ 5000 := hy
    (conv => whnf)
    refine ⟨_, appL (f := byteD) (xs := []) (ys := b) (zs := b) rfl rfl (fun _ => rfl) rfl (by show _ * 1 ≤ _; omega), ?_⟩
    (conv => whnf)
    refine CallLeaf.w (by (repeat' (first | exact ArgsTo.nil | refine ArgsTo.cons ?_ ?_ | exact ArgTo.mk' rfl (Wk.refl _) | exact ArgTo.mk' rfl Wk.nilm | exact ArgTo.mk' rfl (Wk.int (by simp)) | exact ArgTo.mk' rfl (Wk.list _ _) | exact ArgTo.mk' rfl (Wk.agg (by (repeat' (first | exact Wks.nil | refine Wks.cons ?_ ?_ | exact Wk.refl _ | exact Wk.nilm | exact Wk.list _ _  | exact Wk.natN rfl | refine Wk.agg ?_))))))) (A2) rfl ?_
    (conv => whnf)
    refine LWp.loop hT hmix [] (fun k : Nat => [(8, vI k)]) (fun _ => []) (fun k => k ≤ y0.length) (fun k => y0.length - k) 0 (Nat.zero_le _) ?_
    (conv => whnf)
    refine ⟨?_, fun k hk => ?_⟩
    · (repeat' (first | exact trivial | exact Wk.refl _ | exact ObWk.refl _ | exact rfl | exact ⟨_, rfl⟩ | exact Nat.zero_lt_one | refine And.intro ?_ ?_ | unfold okTo | (unfold okO; conv => whnf) | (unfold okS; conv => whnf) | (unfold SlotOk; conv => whnf) | (unfold ObjOk; conv => whnf) | (unfold okCells; conv => whnf) | (unfold liveTo; conv => whnf) | exact Nat.zero_lt_succ _))
    · (conv => whnf)
      refine split_intro (fun h1 => ?_) (fun h1 => ?_)
      · have hlt : k < y0.length := by have := of_decide_eq_true h1; simp at this; omega
        obtain ⟨y, hy⟩ := exI hlt
        (conv => whnf)
        refine ⟨_, ⟨by omega, getMap hy⟩, ?_⟩
        (conv => whnf)
        refine ⟨_, ⟨by omega, getMap hy⟩, ?_⟩
        (conv => whnf)
        refine ⟨_, add64 (c := ((k + 1 : Nat) : Int)) (by (try simp only []); omega) (by omega), ?_⟩
        (conv => whnf)
        refine ⟨k + 1, ⟨by omega, by simp only []; omega⟩, ?_⟩
        (repeat' (first | exact trivial | exact Wk.refl _ | exact ObWk.refl _ | exact rfl | exact ⟨_, rfl⟩ | exact Nat.zero_lt_one | refine And.intro ?_ ?_ | unfold okTo | (unfold okO; conv => whnf) | (unfold okS; conv => whnf) | (unfold SlotOk; conv => whnf) | (unfold ObjOk; conv => whnf) | (unfold okCells; conv => whnf) | (unfold liveTo; conv => whnf) | exact Nat.zero_lt_succ _))
      · (conv => whnf)
        refine ⟨_, appL (f := Ob.Sym.enc) (xs := []) (ys := l) (zs := l) rfl rfl (fun _ => rfl) rfl (by show _ * 40 ≤ _; omega), ?_⟩
        (conv => whnf)
        refine ⟨_, appL (f := byteD) (xs := []) (ys := x) (zs := x) rfl rfl (fun _ => rfl) rfl (by show _ * 1 ≤ _; omega), ?_⟩
        (conv => whnf)
        refine CallLeaf.w (by (repeat' (first | exact ArgsTo.nil | refine ArgsTo.cons ?_ ?_ | exact ArgTo.mk' rfl (Wk.refl _) | exact ArgTo.mk' rfl Wk.nilm | exact ArgTo.mk' rfl (Wk.int (by simp)) | exact ArgTo.mk' rfl (Wk.list _ _) | exact ArgTo.mk' rfl (Wk.agg (by (repeat' (first | exact Wks.nil | refine Wks.cons ?_ ?_ | exact Wk.refl _ | exact Wk.nilm | exact Wk.list _ _  | exact Wk.natN rfl | refine Wk.agg ?_))))))) (A1) rfl ?_
        (conv => whnf)
        refine LWp.loop hT hmix [] (fun k : Nat => [(12, vI k)]) (fun _ => []) (fun k => k ≤ x1.length) (fun k => x1.length - k) 0 (Nat.zero_le _) ?_
        (conv => whnf)
        refine ⟨?_, fun k hk => ?_⟩
        · (repeat' (first | exact trivial | exact Wk.refl _ | exact ObWk.refl _ | exact rfl | exact ⟨_, rfl⟩ | exact Nat.zero_lt_one | refine And.intro ?_ ?_ | unfold okTo | (unfold okO; conv => whnf) | (unfold okS; conv => whnf) | (unfold SlotOk; conv => whnf) | (unfold ObjOk; conv => whnf) | (unfold okCells; conv => whnf) | (unfold liveTo; conv => whnf) | exact Nat.zero_lt_succ _))
        · (conv => whnf)
          refine split_intro (fun h2 => ?_) (fun h2 => ?_)
          · have hlt : k < x1.length := by have := of_decide_eq_true h2; simp at this; omega
            obtain ⟨y, hy⟩ := exI hlt
            (conv => whnf)
            refine ⟨_, ⟨by omega, getMap hy⟩, ?_⟩
            (conv => whnf)
            refine ⟨_, ⟨by omega, getMap hy⟩, ?_⟩
            (conv => whnf)
            refine ⟨_, add64 (c := ((k + 1 : Nat) : Int)) (by (try simp only []); omega) (by omega), ?_⟩
            (conv => whnf)
            refine ⟨k + 1, ⟨by omega, by simp only []; omega⟩, ?_⟩
            (repeat' (first | exact trivial | exact Wk.refl _ | exact ObWk.refl _ | exact rfl | exact ⟨_, rfl⟩ | exact Nat.zero_lt_one | refine And.intro ?_ ?_ | unfold okTo | (unfold okO; conv => whnf) | (unfold okS; conv => whnf) | (unfold SlotOk; conv => whnf) | (unfold ObjOk; conv => whnf) | (unfold okCells; conv => whnf) | (unfold liveTo; conv => whnf) | exact Nat.zero_lt_succ _))
          · (conv => whnf)
            refine CallLeaf.w (by (repeat' (first | exact ArgsTo.nil | refine ArgsTo.cons ?_ ?_ | exact ArgTo.mk' rfl (Wk.refl _) | exact ArgTo.mk' rfl Wk.nilm | exact ArgTo.mk' rfl (Wk.int (by simp)) | exact ArgTo.mk' rfl (Wk.list _ _) | exact ArgTo.mk' rfl (Wk.agg (by (repeat' (first | exact Wks.nil | refine Wks.cons ?_ ?_ | exact Wk.refl _ | exact Wk.nilm | exact Wk.list _ _  | exact Wk.natN rfl | refine Wk.agg ?_))))))) (bytes_t b) rfl ?_
            (conv => whnf)
            refine CallLeaf.w (by (repeat' (first | exact ArgsTo.nil | refine ArgsTo.cons ?_ ?_ | exact ArgTo.mk' rfl (Wk.refl _) | exact ArgTo.mk' rfl Wk.nilm | exact ArgTo.mk' rfl (Wk.int (by simp)) | exact ArgTo.mk' rfl (Wk.list _ _) | exact ArgTo.mk' rfl (Wk.agg (by (repeat' (first | exact Wks.nil | refine Wks.cons ?_ ?_ | exact Wk.refl _ | exact Wk.nilm | exact Wk.list _ _  | exact Wk.natN rfl | refine Wk.agg ?_))))))) (osame_t l x (by omega)) rfl ?_
            (conv => whnf)
            exact Wk.refl _
end Go.Proofs.Ytfacepcmpijdpaa

/- What the rows of layer 6 share. No condition. -/
set_option linter.unusedVariables false
set_option linter.unusedSimpArgs false
namespace Go.Proofs.Ytfacepcmpijdpaa
open Go Go.AL Go.AL.Ap Go.AL.Ob
open Go.ChangeShapes Go.WideShapes Go.ChangeAt Go.RowKit
theorem own : ownKnob Try.prog.godebug = none := by kernel_rfl
theorem laidOut : laidOutB Try.prog = true := by kernel_rfl
theorem globOk0 {W : World} : GlobOk Gl W := fun g j hj => by simp [Gl] at hj
theorem sym_of {n : Nat} {ds : List D} (h : Rd Try.prog (n + 2) 53 ds) : ∃ e : Ob.Sym, ds = e.enc := by
  simp only [Rd, Try.underlying53, Try.underlying3, Try.underlying9, RdFs] at h
  obtain ⟨a, b, rfl, ⟨s, _, rfl⟩, a2, b2, rfl, ⟨x, _, rfl⟩, a3, b3, rfl, ⟨y, _, rfl⟩, a4, b4, rfl, ⟨z, _, rfl⟩, rfl⟩ := h
  exact ⟨⟨s, x, y, z⟩, rfl⟩
theorem byte_of {n : Nat} {ds : List D} (h : Rd Try.prog (n + 1) 5 ds) : ∃ u : UInt8, ds = byteD u := by
  simp only [Rd, Try.underlying5] at h
  obtain ⟨x, hw, rfl⟩ := h
  simp [Lit.wf] at hw
  have h1 : IntKind.u8.min = 0 := rfl
  have h2 : IntKind.u8.max = 255 := rfl
  obtain ⟨m, rfl⟩ := Int.eq_ofNat_of_zero_le (show 0 ≤ x by omega)
  refine ⟨UInt8.ofNat m, ?_⟩
  simp only [byteD, List.cons.injEq, and_true, D.v.injEq, Value.int.injEq, true_and]
  simp; omega
theorem arg_oD {ds : List D} (h : Rd Try.prog 8 44 ds) : ∃ o : Ob.Obj, True ∧ argD Try.prog 44 ds = oD ⟨o.syms, o.body⟩ := by
  rw [show (8 : Nat) = 7 + 1 from rfl, Rd, Try.underlying44] at h
  simp only [RdFs] at h
  obtain ⟨a, b, rfl, h1, a2, b2, rfl, h2, rfl⟩ := h
  obtain ⟨l, rfl⟩ := list_of' (n := 6) (f := Ob.Sym.enc) Try.underlying42 (fun x => sym_of (n := 4)) h1
  obtain ⟨x, rfl⟩ := list_of' (n := 6) (f := byteD) Try.underlying23 (fun x => byte_of (n := 5)) h2
  refine ⟨⟨l, x⟩, trivial, ?_⟩
  simp only [argD, Try.underlying44]
  rfl
theorem arg_LB {ds : List D} (h : Rd Try.prog 8 23 ds) : ∃ l : List UInt8, True ∧ argD Try.prog 23 ds = LB l := by
  obtain ⟨l, e⟩ := list_of (f := byteD) Try.underlying23 (fun x => byte_of (n := 6)) h
  exact ⟨l, trivial, e⟩
theorem arg_sD {ds : List D} (h : Rd Try.prog 8 9 ds) : ∃ s : Str, True ∧ argD Try.prog 9 ds = sD s := by
  simp only [Rd, Try.underlying9] at h
  obtain ⟨s, _, rfl⟩ := h
  refine ⟨s, trivial, ?_⟩
  simp only [argD, Try.underlying9]
theorem arg_u8 {ds : List D} (h : Rd Try.prog 8 5 ds) : ∃ n : Nat, n ≤ 255 ∧ argD Try.prog 5 ds = .v (.int .u8 (n : Int)) := by
  obtain ⟨x, h1, h2⟩ := arg_u8' (n := 7) Try.underlying5 h
  obtain ⟨m, rfl⟩ := Int.eq_ofNat_of_zero_le h1.1
  exact ⟨m, by omega, h2⟩
theorem arg_u16 {ds : List D} (h : Rd Try.prog 8 59 ds) : ∃ n : Nat, n ≤ 65535 ∧ argD Try.prog 59 ds = .v (.int .u16 (n : Int)) := by
  simp only [Rd, Try.underlying59] at h
  obtain ⟨x, hw, rfl⟩ := h
  simp [Lit.wf] at hw
  have h1 : IntKind.u16.min = 0 := rfl
  have h2 : IntKind.u16.max = 65535 := rfl
  obtain ⟨m, rfl⟩ := Int.eq_ofNat_of_zero_le (show 0 ≤ x by omega)
  exact ⟨m, by omega, by simp only [argD, Try.underlying59]⟩
end Go.Proofs.Ytfacepcmpijdpaa
