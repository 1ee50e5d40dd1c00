/- What all walks of a seat share. No condition. -/
import Derived.Test.YtimnnknfcfongaaDoorAAc
import Derived.Test.YtimnnknfcfongaaDoorProg
import Derived.KernelRfl
import Derived.Test.YtimnnknfcfongaaDoorAPa
import Derived.Shelf.Small.Strs
import Derived.Shelf.Strings.Trim
import Derived.Shelf.Small.Wraps
import Derived.Ground.NamesProg
import Derived.Shelf.Strings.IndexAnyAll
set_option linter.unusedVariables false
set_option linter.unusedSimpArgs false
namespace Go.Proofs.YtimnnknfcfongaaDoor
open Go Go.AL
theorem hT : TOk Tryd.prog (tabOf Tryd.prog) := tabOf_ok _
theorem hmix : Tryd.prog.follows .mixedOrders = true := by kernel_rfl
def Gl [MX] : Glob := { g := fun g => match g with | 0 => [vI MX.val] | _ => [] }
end Go.Proofs.YtimnnknfcfongaaDoor

namespace Go.Proofs.YtimnnknfcfongaaDoor.H
open Go Go.AL Go.AL.Hd
set_option maxRecDepth 100000
set_option maxHeartbeats 4000000
theorem based_ [Go.AL.MX] (b : Int) : FCall Tryd.prog Gl 86 [vI b] [] (vB (decide (b = 8) || decide (b = 10))) [] := by
 refine FCall.enterL hT hmix [] Tryd.func86 rfl rfl rfl fun hbd => ?_
 (conv => whnf)
 refine split_intro (fun h => ?_) (fun h => ?_)
 ·obtain rfl : b = 8 := of_decide_eq_true h
  (conv => whnf)
  exact Wk.refl _
 ·have h' : decide (b = 8) = false := h
  (conv => whnf)
  exact Wk.bool (by simp [h']; rfl)
theorem ext_dig : ∀ d : Nat, d < 10 → (⟨#[48, 49, 50, 51, 52, 53, 54, 55, 56, 57]⟩ : ByteArray).extract d (d + 1) = sB [dgt d] := by decide
theorem tmod_nat (n b : Nat) : ((n : Int)).tmod b = ((n % b : Nat) : Int) := rfl
theorem tdiv_nat (n b : Nat) : ((n : Int)).tdiv b = ((n / b : Nat) : Int) := rfl
theorem sB_sz (l : Str) : (sB l).size = l.length := by simp [sB, ByteArray.size]
theorem sB_ap (a b : Str) : sB a ++ sB b = sB (a ++ b) := by
 apply ByteArray.ext
 simp [sB, ByteArray.data_append]
theorem dig_le {b : Nat} (hb : 2 ≤ b) (n : Nat) (hn : n ≤ 9223372036854775807) : (dig b n).length ≤ 63 := by
 refine (dig_len hb 62 n).2 ?_
 have h : 2 ^ 63 ≤ b ^ 63 := Nat.pow_le_pow_left hb 63
 have h2 : (2 : Nat) ^ 63 = 9223372036854775808 := by decide
 show n < b ^ 63
 omega
theorem text_ [Go.AL.MX] (b : Nat) (hb : 2 ≤ b) (hb2 : b ≤ 10) (n : Nat) (hn : n ≤ 9223372036854775807) : FCall Tryd.prog Gl 29 [vI n, vI b] [] (sD (dig b n)) [] := by
 induction n using Nat.strongRecOn with
 | ind n ih =>
  have hm := Nat.mod_lt n (show 0 < b by omega)
  refine FCall.enterL hT hmix [] Tryd.func29 rfl rfl rfl fun hbd => ?_
  (conv => whnf)
  refine ⟨_, rem64 (tmod_nat n b) (by omega), ?_⟩
  (conv => whnf)
  refine ⟨_, rem64 (tmod_nat n b) (by omega), ?_⟩
  (conv => whnf)
  refine ⟨_, add64 (c := ((n % b + 1 : Nat) : Int)) (by omega) (by omega), ?_⟩
  (conv => whnf)
  refine ⟨_, ⟨by omega, by omega, by show _ ≤ (10 : Int); omega, ext_dig (n % b) (by omega)⟩, ?_⟩
  (conv => whnf)
  refine split_intro (fun h => ?_) (fun h => ?_)
  ·have h' : n < b := by have := of_decide_eq_true h; omega
   rw [dig_lt h', Nat.mod_eq_of_lt h']
   (conv => whnf)
   exact Wk.refl _
  ·have h' : b ≤ n := by have := of_decide_eq_false h; omega
   rw [dig_ge hb h']
   have hlt : n / b < n := Nat.div_lt_self (by omega) (by omega)
   (conv => whnf)
   refine ⟨_, quo64n (by omega) (by omega), ?_⟩
   (conv => whnf)
   refine CallLeaf.wa (ih (n / b) hlt (by omega)) rfl ?_
   (conv => whnf)
   refine ⟨_, ⟨by rw [sB_sz, sB_sz]; have := dig_le hb (n / b) (by omega); simp only [List.length_singleton]; omega, sB_ap _ _⟩, ?_⟩
   exact Wk.refl _
abbrev spD (k : Nat) : D := match k with
 | 0 => .nil
 | k + 1 => .list (.tok 2576) ((sp (k + 1)).map byteD)
abbrev spO (k : Nat) : So := match k with
 | 0 => []
 | k + 1 => [(2576, .tok ((sp (k + 1)).map byteD).length 1)]
theorem sp_snoc (k : Nat) : sp k ++ [32] = sp (k + 1) := by rw [sp, sp, List.replicate_succ']
theorem spaces_ [Go.AL.MX] (n : Nat) (hn : n ≤ 1000) : FCall Tryd.prog Gl 57 [vI n] [] (LBn (sp n)) [] := by
 refine FCall.enterL hT hmix [] Tryd.func57 rfl rfl rfl fun hbd => ?_
 (conv => whnf)
 refine LWp.loop hT hmix [] (fun k : Nat => [(4, vI k), (3, spD k)]) (fun k => spO k) (fun k => k ≤ n) (fun k => n - k) 0 (Nat.zero_le _) ?_
 (conv => whnf)
 refine ⟨?_, fun k hk => ?_⟩
 ·(repeat' (first | exact trivial | exact Wk.refl _ | exact ObWk.refl _ | exact rfl | exact ⟨_, rfl⟩ | exact Nat.zero_lt_one | refine And.intro ?_ ?_ | unfold okTo | (unfold okO; conv => whnf) | (unfold okS; conv => whnf) | (unfold SlotOk; conv => whnf) | (unfold ObjOk; conv => whnf) | (unfold okCells; conv => whnf) | (unfold liveTo; conv => whnf) | exact Nat.zero_lt_succ _))
 ·cases k with
  | zero =>
   (conv => whnf)
   refine split_intro (fun h => ?_) (fun h => ?_)
   ·have hlt : 0 < n := by have := of_decide_eq_true h; omega
    (conv => whnf)
    refine ⟨_, appN (f := byteD) (ys := [32]) (fun _ => rfl) (by show 1 * 1 ≤ _; decide), ?_⟩
    (conv => whnf)
    refine ⟨1, rfl, ?_⟩
    (conv => whnf)
    refine ⟨1, ⟨by omega, by simp only []; omega⟩, ?_⟩
    (repeat' (first | exact trivial | exact Wk.refl _ | exact ObWk.refl _ | exact rfl | exact ⟨_, rfl⟩ | exact Nat.zero_lt_one | refine And.intro ?_ ?_ | unfold okTo | (unfold okO; conv => whnf) | (unfold okS; conv => whnf) | (unfold SlotOk; conv => whnf) | (unfold ObjOk; conv => whnf) | (unfold okCells; conv => whnf) | (unfold liveTo; conv => whnf) | exact Nat.zero_lt_succ _))
   ·obtain rfl : n = 0 := by have := of_decide_eq_false h; omega
    (conv => whnf)
    exact Wk.natN rfl
  | succ k =>
   (conv => whnf)
   refine split_intro (fun h => ?_) (fun h => ?_)
   ·have hlt : k + 1 < n := by have := of_decide_eq_true h; omega
    (conv => whnf)
    refine ⟨_, appL (f := byteD) (xs := sp (k + 1)) (ys := [32]) (zs := sp (k + 1 + 1)) rfl rfl (fun _ => rfl) (sp_snoc (k + 1)) (by rw [List.length_replicate]; show _ * 1 ≤ _; omega), ?_⟩
    (conv => whnf)
    refine ⟨_, add64 (c := ((k + 1 + 1 : Nat) : Int)) (by (try simp only []); omega) (by omega), ?_⟩
    (conv => whnf)
    refine ⟨k + 1 + 1, ⟨by omega, by simp only []; omega⟩, ?_⟩
    (repeat' (first | exact trivial | exact Wk.refl _ | exact ObWk.refl _ | exact rfl | exact ⟨_, rfl⟩ | exact Nat.zero_lt_one | refine And.intro ?_ ?_ | unfold okTo | (unfold okO; conv => whnf) | (unfold okS; conv => whnf) | (unfold SlotOk; conv => whnf) | (unfold ObjOk; conv => whnf) | (unfold okCells; conv => whnf) | (unfold liveTo; conv => whnf) | exact Nat.zero_lt_succ _))
   ·obtain rfl : n = k + 1 := by have := of_decide_eq_false h; omega
    (conv => whnf)
    exact Wk.nat' rfl
theorem based_of {b : Nat} (h : b = 8 ∨ b = 10) : (decide ((b : Int) = 8) || decide ((b : Int) = 10)) = true := by rcases h with rfl | rfl <;> rfl
theorem format_ [Go.AL.MX] (n : Int) (b w : Nat) (hb : b = 8 ∨ b = 10) (hw : 1 ≤ w) (hw2 : w ≤ 18) (hn : n ≤ 9223372036854775807) : FCall Tryd.prog Gl 71 [vI n, vI b, vI w] [] (.tuple [LBn (fmtR b w n).1, vI (fmtR b w n).2]) [] := by
 have B := based_ b
 rw [based_of hb] at B
 have hb2 : 2 ≤ b := by omega
 have hb10 : b ≤ 10 := by omega
 refine FCall.enterL hT hmix [] Tryd.func71 rfl rfl rfl fun hbd => ?_
 (conv => whnf)
 refine CallLeaf.wa (B) rfl ?_
 (conv => whnf)
 refine split_intro (fun h => absurd h (by (simp; omega))) (fun _ => ?_)
 (conv => whnf)
 refine split_intro (fun h => absurd h (by (simp; omega))) (fun _ => ?_)
 (conv => whnf)
 refine split_intro (fun h => ?_) (fun h => ?_)
 ·have hneg : n < 0 := of_decide_eq_true h
  have e : fmtR b w n = ([], 9) := by simp [fmtR, fmt, hneg]
  rw [e]
  (conv => whnf)
  refine Wk.tuple (Wks.cons (Wk.natN rfl) (Wks.cons (Wk.refl _) Wks.nil))
 ·have hneg : ¬ n < 0 := of_decide_eq_false h
  obtain ⟨m, rfl⟩ : ∃ m : Nat, n = (m : Int) := ⟨n.toNat, by omega⟩
  have T := text_ b hb2 hb10 m (by omega)
  (conv => whnf)
  refine CallLeaf.wa (T) rfl ?_
  (conv => whnf)
  refine split_intro (fun h2 => ?_) (fun h2 => ?_)
  ·have hl : w < (dig b m).length := by have := of_decide_eq_true h2; rw [sB_sz] at this; omega
   have e : fmtR b w (m : Int) = ([], 9) := by simp [fmtR, fmt, hl]
   rw [e]
   (conv => whnf)
   refine Wk.tuple (Wks.cons (Wk.natN rfl) (Wks.cons (Wk.refl _) Wks.nil))
  ·have hl : (dig b m).length ≤ w := by have := of_decide_eq_false h2; rw [sB_sz] at this; omega
   have e : fmtR b w (m : Int) = (dig b m ++ sp (w - (dig b m).length), 0) := by
    have : ¬ ((m : Int) < 0 ∨ w < (dig b m).length) := by omega
    simp only [fmtR, fmt, Int.toNat_natCast, if_neg this]
   rw [e]
   generalize dig b m = L at *
   (conv => whnf)
   refine CallLeaf.wa (T) rfl ?_
   (conv => whnf)
   refine ⟨by show L.length ≤ _; omega, ?_⟩
   (conv => whnf)
   refine LWp.loop hT hmix [] (fun k : Nat => [(8, .list (.tok 2584) ((L ++ sp k).map byteD))]) (fun k => [(2584, .tok ((L ++ sp k).map byteD).length 1)]) (fun k => k ≤ w - L.length) (fun k => w - L.length - k) 0 (Nat.zero_le _) ?_
   (conv => whnf)
   refine ⟨?_, fun k hk => ?_⟩
   ·(repeat' (first | exact trivial | exact Wk.refl _ | exact ObWk.refl _ | exact rfl | exact ⟨_, rfl⟩ | exact Nat.zero_lt_one | refine And.intro ?_ ?_ | unfold okTo | (unfold okO; conv => whnf) | (unfold okS; conv => whnf) | (unfold SlotOk; conv => whnf) | (unfold ObjOk; conv => whnf) | (unfold okCells; conv => whnf) | (unfold liveTo; conv => whnf) | exact Nat.zero_lt_succ _))
    ·exact ObWk.of_eq (by simp [sB])
    ·show Wk (.list (.tok 2584) _) _
     exact Wk.of_eq (by simp [sB])
   ·(conv => whnf)
    refine split_intro (fun h3 => ?_) (fun h3 => ?_)
    ·have hlt : k < w - L.length := by have := of_decide_eq_true h3; simp only [List.length_map, List.length_append, List.length_replicate] at this; omega
     (conv => whnf)
     refine ⟨_, appL (f := byteD) (xs := L ++ sp k) (ys := [32]) (zs := L ++ sp (k + 1)) rfl rfl (fun _ => rfl) (by rw [List.append_assoc, sp_snoc]) (by rw [List.length_append, List.length_replicate]; show _ * 1 ≤ _; omega), ?_⟩
     (conv => whnf)
     refine ⟨k + 1, ⟨by omega, by simp only []; omega⟩, ?_⟩
     (repeat' (first | exact trivial | exact Wk.refl _ | exact ObWk.refl _ | exact rfl | exact ⟨_, rfl⟩ | exact Nat.zero_lt_one | refine And.intro ?_ ?_ | unfold okTo | (unfold okO; conv => whnf) | (unfold okS; conv => whnf) | (unfold SlotOk; conv => whnf) | (unfold ObjOk; conv => whnf) | (unfold okCells; conv => whnf) | (unfold liveTo; conv => whnf) | exact Nat.zero_lt_succ _))
    ·obtain rfl : k = w - L.length := by have := of_decide_eq_false h3; simp only [List.length_map, List.length_append, List.length_replicate] at this; omega
     (conv => whnf)
     refine Wk.tuple (Wks.cons (Wk.nat' rfl) (Wks.cons (Wk.refl _) Wks.nil))
end Go.Proofs.YtimnnknfcfongaaDoor.H

namespace Go.Proofs.YtimnnknfcfongaaDoor.H
open Go Go.AL Go.AL.Hd
set_option maxRecDepth 100000
set_option maxHeartbeats 4000000
theorem nvalid_ [Go.AL.MX] (l : Str) (hl : l.length ≤ 4611686018427387904) : FCall Tryd.prog Gl 23 [sD l] [] (vB (validN l)) [] := by
 have hsz := sB_sz l
 refine FCall.enterL hT hmix [] Tryd.func23 rfl rfl rfl fun hbd => ?_
 (conv => whnf)
 refine split_intro (fun h0 => ?_) (fun h0 => ?_)
 ·have h' : ((sB l).size : Int) = 0 := eq_of_beq h0
  have e : validN l = false := by
   have : ¬ (1 ≤ l.length ∧ l.length ≤ 255) := by omega
   simp [validN, this]
  rw [e]
  (conv => whnf)
  exact Wk.refl _
 ·have h' : ¬ ((sB l).size : Int) = 0 := by simpa using h0
  (conv => whnf)
  refine split_intro (fun h1 => ?_) (fun h1 => ?_)
  ·have h1' : (255 : Int) < (sB l).size := of_decide_eq_true h1
   have e : validN l = false := by
    have : ¬ (1 ≤ l.length ∧ l.length ≤ 255) := by omega
    simp [validN, this]
   rw [e]
   (conv => whnf)
   exact Wk.refl _
  ·have h1' : ¬ (255 : Int) < (sB l).size := of_decide_eq_false h1
   have hlen : 1 ≤ l.length ∧ l.length ≤ 255 := by omega
   (conv => whnf)
   refine LWp.loop hT hmix [] (fun k : Nat => [(3, vI k)]) (fun _ => []) (fun k => k ≤ l.length ∧ (l.take k).any bad3 = false) (fun k => l.length - k) 0 ⟨Nat.zero_le _, by simp⟩ ?_
   (conv => whnf)
   refine ⟨?_, fun k ⟨hk, hkk⟩ => ?_⟩
   ·(repeat' (first | exact trivial | exact Wk.refl _ | exact ObWk.refl _ | exact rfl | exact ⟨_, rfl⟩ | exact Nat.zero_lt_one | refine And.intro ?_ ?_ | unfold okTo | (unfold okO; conv => whnf) | (unfold okS; conv => whnf) | (unfold SlotOk; conv => whnf) | (unfold ObjOk; conv => whnf) | (unfold okCells; conv => whnf) | (unfold liveTo; conv => whnf) | exact Nat.zero_lt_succ _))
   ·(conv => whnf)
    refine split_intro (fun h => ?_) (fun h => ?_)
    ·have hlt : k < l.length := by have := of_decide_eq_true h; omega
     obtain ⟨x, hx⟩ := exI hlt
     have hbad : bad3 x = true → validN l = false := fun hp => by simp only [validN, any_at hx hp]; simp
     (conv => whnf)
     refine ⟨x, ⟨by omega, by simpa using hx⟩, ?_⟩
     (conv => whnf)
     refine split_intro (fun hA => ?_) (fun hA => ?_)
     ·have hxA : x = 47 := byte_eq (c := 47) hA
      rw [hbad (by simp [bad3, hxA])]
      (conv => whnf)
      exact Wk.refl _
     ·have hxA : ¬ x = 47 := byte_ne (c := 47) hA
      (conv => whnf)
      refine ⟨x, ⟨by omega, by simpa using hx⟩, ?_⟩
      (conv => whnf)
      refine split_intro (fun hB => ?_) (fun hB => ?_)
      ·have hxB : x = 10 := byte_eq (c := 10) hB
       rw [hbad (by simp [bad3, hxB])]
       (conv => whnf)
       exact Wk.refl _
      ·have hxB : ¬ x = 10 := byte_ne (c := 10) hB
       (conv => whnf)
       refine ⟨x, ⟨by omega, by simpa using hx⟩, ?_⟩
       (conv => whnf)
       refine split_intro (fun hC => ?_) (fun hC => ?_)
       ·have hxC : x = 0 := byte_eq (c := 0) hC
        rw [hbad (by simp [bad3, hxC])]
        (conv => whnf)
        exact Wk.refl _
       ·have hxC : ¬ x = 0 := byte_ne (c := 0) hC
        (conv => whnf)
        refine ⟨_, add64 (c := ((k + 1 : Nat) : Int)) (by (try simp only []); omega) (by omega), ?_⟩
        (conv => whnf)
        refine ⟨k + 1, ⟨⟨by omega, step_any hx (by simp [bad3, hxA, hxB, hxC]) hkk⟩, by simp only []; omega⟩, ?_⟩
        (repeat' (first | exact trivial | exact Wk.refl _ | exact ObWk.refl _ | exact rfl | exact ⟨_, rfl⟩ | exact Nat.zero_lt_one | refine And.intro ?_ ?_ | unfold okTo | (unfold okO; conv => whnf) | (unfold okS; conv => whnf) | (unfold SlotOk; conv => whnf) | (unfold ObjOk; conv => whnf) | (unfold okCells; conv => whnf) | (unfold liveTo; conv => whnf) | exact Nat.zero_lt_succ _))
    ·have hge : l.length ≤ k := by have := of_decide_eq_false h; omega
     rw [List.take_of_length_le hge] at hkk
     have e : validN l = true := by simp only [validN, hkk, decide_eq_true hlen]; rfl
     rw [e]
     (conv => whnf)
     exact Wk.refl _
theorem last_at {l : Str} (h : 1 ≤ l.length) : ∃ x, l[((l.length : Int) - 1).toNat]? = some x ∧ l.getLast? = some x := by
 have e : ((l.length : Int) - 1).toNat = l.length - 1 := by omega
 obtain ⟨x, hx⟩ := exI (show l.length - 1 < l.length by omega)
 exact ⟨x, by rw [e]; exact hx, by rw [List.getLast?_eq_getElem?]; exact hx⟩
theorem fits_ [Go.AL.MX] (l : Str) (hl : l.length ≤ 4611686018427387904) : FCall Tryd.prog Gl 54 [sD l] [] (vB (fitN l)) [] := by
 have hsz := sB_sz l
 refine FCall.enterL hT hmix [] Tryd.func54 rfl rfl rfl fun hbd => ?_
 (conv => whnf)
 refine split_intro (fun h0 => ?_) (fun h0 => ?_)
 ·have h' : ((sB l).size : Int) < 1 := of_decide_eq_true h0
  have e : fitN l = false := by
   have : ¬ (1 ≤ l.length ∧ l.length ≤ 16 ∧ l.getLast? ≠ some 32) := fun h => by omega
   simp [fitN, this]
  rw [e]
  (conv => whnf)
  exact Wk.refl _
 ·have h' : ¬ ((sB l).size : Int) < 1 := of_decide_eq_false h0
  (conv => whnf)
  refine split_intro (fun h1 => ?_) (fun h1 => ?_)
  ·have h1' : (16 : Int) < (sB l).size := of_decide_eq_true h1
   have e : fitN l = false := by
    have : ¬ (1 ≤ l.length ∧ l.length ≤ 16 ∧ l.getLast? ≠ some 32) := fun h => by omega
    simp [fitN, this]
   rw [e]
   (conv => whnf)
   exact Wk.refl _
  ·have h1' : ¬ (16 : Int) < (sB l).size := of_decide_eq_false h1
   obtain ⟨y, hy, hly⟩ := last_at (l := l) (by omega)
   rw [← hsz] at hy
   (conv => whnf)
   refine ⟨_, sub64 rfl (by omega), ?_⟩
   (conv => whnf)
   refine ⟨y, ⟨by omega, by simpa using hy⟩, ?_⟩
   (conv => whnf)
   refine split_intro (fun h2 => ?_) (fun h2 => ?_)
   ·have hy2 : y = 32 := byte_eq (c := 32) h2
    have e : fitN l = false := by
     have : ¬ (1 ≤ l.length ∧ l.length ≤ 16 ∧ l.getLast? ≠ some 32) := fun h => h.2.2 (by rw [hly, hy2])
     simp [fitN, this]
    rw [e]
    (conv => whnf)
    exact Wk.refl _
   ·have hy2 : ¬ y = 32 := byte_ne (c := 32) h2
    have hlen : 1 ≤ l.length ∧ l.length ≤ 16 ∧ l.getLast? ≠ some 32 := ⟨by omega, by omega, by rw [hly]; simpa using hy2⟩
    (conv => whnf)
    refine LWp.loop hT hmix [] (fun k : Nat => [(3, vI k)]) (fun _ => []) (fun k => k ≤ l.length ∧ (l.take k).any bad2 = false) (fun k => l.length - k) 0 ⟨Nat.zero_le _, by simp⟩ ?_
    (conv => whnf)
    refine ⟨?_, fun k ⟨hk, hkk⟩ => ?_⟩
    ·(repeat' (first | exact trivial | exact Wk.refl _ | exact ObWk.refl _ | exact rfl | exact ⟨_, rfl⟩ | exact Nat.zero_lt_one | refine And.intro ?_ ?_ | unfold okTo | (unfold okO; conv => whnf) | (unfold okS; conv => whnf) | (unfold SlotOk; conv => whnf) | (unfold ObjOk; conv => whnf) | (unfold okCells; conv => whnf) | (unfold liveTo; conv => whnf) | exact Nat.zero_lt_succ _))
    ·(conv => whnf)
     refine split_intro (fun h => ?_) (fun h => ?_)
     ·have hlt : k < l.length := by have := of_decide_eq_true h; omega
      obtain ⟨x, hx⟩ := exI hlt
      have hbad : bad2 x = true → fitN l = false := fun hp => by simp only [fitN, any_at hx hp]; simp
      (conv => whnf)
      refine ⟨x, ⟨by omega, by simpa using hx⟩, ?_⟩
      (conv => whnf)
      refine split_intro (fun hB => ?_) (fun hB => ?_)
      ·have hxB : x = 10 := byte_eq (c := 10) hB
       rw [hbad (by simp [bad2, hxB])]
       (conv => whnf)
       exact Wk.refl _
      ·have hxB : ¬ x = 10 := byte_ne (c := 10) hB
       (conv => whnf)
       refine ⟨x, ⟨by omega, by simpa using hx⟩, ?_⟩
       (conv => whnf)
       refine split_intro (fun hC => ?_) (fun hC => ?_)
       ·have hxC : x = 0 := byte_eq (c := 0) hC
        rw [hbad (by simp [bad2, hxC])]
        (conv => whnf)
        exact Wk.refl _
       ·have hxC : ¬ x = 0 := byte_ne (c := 0) hC
        (conv => whnf)
        refine ⟨_, add64 (c := ((k + 1 : Nat) : Int)) (by (try simp only []); omega) (by omega), ?_⟩
        (conv => whnf)
        refine ⟨k + 1, ⟨⟨by omega, step_any hx (by simp [bad2, hxB, hxC]) hkk⟩, by simp only []; omega⟩, ?_⟩
        (repeat' (first | exact trivial | exact Wk.refl _ | exact ObWk.refl _ | exact rfl | exact ⟨_, rfl⟩ | exact Nat.zero_lt_one | refine And.intro ?_ ?_ | unfold okTo | (unfold okO; conv => whnf) | (unfold okS; conv => whnf) | (unfold SlotOk; conv => whnf) | (unfold ObjOk; conv => whnf) | (unfold okCells; conv => whnf) | (unfold liveTo; conv => whnf) | exact Nat.zero_lt_succ _))
     ·have hge : l.length ≤ k := by have := of_decide_eq_false h; omega
      rw [List.take_of_length_le hge] at hkk
      have e : fitN l = true := by simp only [fitN, hkk, decide_eq_true hlen]; rfl
      rw [e]
      (conv => whnf)
      exact Wk.refl _
theorem field_ [Go.AL.MX] (n : Int) (b w : Nat) (bl : Bool) (hb : b = 8 ∨ b = 10) (hw : 1 ≤ w) (hw2 : w ≤ 18) (hn : n ≤ 9223372036854775807) : FCall Tryd.prog Gl 56 [vI n, vI b, vI w, vB bl] [] (.tuple [LBn (fieldR n b w bl).1, vB (fieldR n b w bl).2]) [] := by
 refine FCall.enterL hT hmix [] Tryd.func56 rfl rfl rfl fun hbd => ?_
 (conv => whnf)
 cases bl with
 | true =>
  (conv => whnf)
  refine CallLeaf.wa (spaces_ w (by omega)) rfl ?_
  (conv => whnf)
  exact Wk.tuple (Wks.cons (Wk.nat' rfl) (Wks.cons (Wk.refl _) Wks.nil))
 | false =>
  (conv => whnf)
  refine CallLeaf.wa (format_ n b w hb hw hw2 hn) rfl ?_
  (conv => whnf)
  exact Wk.tuple (Wks.cons (Wk.nat' rfl) (Wks.cons (Wk.refl _) Wks.nil))
theorem encode_ [Go.AL.MX] (h : Hdr) (hl : h.name.length ≤ 4611686018427387904) (h1 : h.date ≤ 9223372036854775807) (h2 : h.uid ≤ 9223372036854775807) (h3 : h.gid ≤ 9223372036854775807) (h4 : h.mode ≤ 9223372036854775807) (h5 : h.size ≤ 9223372036854775807) :
  FCall Tryd.prog Gl 39 [.agg h.enc] [] (.tuple [LBn (encR h).1, vI (encR h).2]) [] := by
 obtain ⟨nm, dt, ui, gi, mo, si⟩ := h
 replace hl : nm.length ≤ 4611686018427387904 := hl
 have hsz := sB_sz nm
 refine FCall.enterL hT hmix [] Tryd.func39 rfl rfl rfl fun hbd => ?_
 (conv => whnf)
 refine CallLeaf.wa (fits_ nm hl) rfl ?_
 (conv => whnf)
 cases hf : fitN nm with
 | false =>
  have e : encR ⟨nm, dt, ui, gi, mo, si⟩ = ([], 6) := by simp [encR, hf]
  rw [e]
  (conv => whnf)
  exact Wk.tuple (Wks.cons (Wk.natN rfl) (Wks.cons (Wk.refl _) Wks.nil))
 | true =>
  have hlen : nm.length ≤ 16 := by
   have h := hf
   simp only [fitN, Bool.and_eq_true, decide_eq_true_eq] at h
   omega
  (conv => whnf)
  simp only [encR, hf, if_true]
  generalize hbl : decide (nm = [47, 47]) = bl
  have F1 := field_ dt 10 12 bl (.inr rfl) (by omega) (by omega) h1
  have F2 := field_ ui 10 6 bl (.inr rfl) (by omega) (by omega) h2
  have F3 := field_ gi 10 6 bl (.inr rfl) (by omega) (by omega) h3
  have F4 := field_ mo 8 8 bl (.inl rfl) (by omega) (by omega) h4
  have F5 := field_ si 10 10 false (.inr rfl) (by omega) (by omega) h5
  have L1 := fieldR_len dt 10 12 bl
  have L2 := fieldR_len ui 10 6 bl
  have L3 := fieldR_len gi 10 6 bl
  have L4 := fieldR_len mo 8 8 bl
  have L5 := fieldR_len si 10 10 false
  revert F1 F2 F3 F4 F5 L1 L2 L3 L4 L5
  generalize fieldR dt 10 12 bl = p1
  generalize fieldR ui 10 6 bl = p2
  generalize fieldR gi 10 6 bl = p3
  generalize fieldR mo 8 8 bl = p4
  generalize fieldR si 10 10 false = p5
  obtain ⟨a1, b1⟩ := p1
  obtain ⟨a2, b2⟩ := p2
  obtain ⟨a3, b3⟩ := p3
  obtain ⟨a4, b4⟩ := p4
  obtain ⟨a5, b5⟩ := p5
  intro F1 F2 F3 F4 F5 L1 L2 L3 L4 L5
  replace L1 : a1.length ≤ 12 := L1
  replace L2 : a2.length ≤ 6 := L2
  replace L3 : a3.length ≤ 6 := L3
  replace L4 : a4.length ≤ 8 := L4
  replace L5 : a5.length ≤ 10 := L5
  subst hbl
  (conv => whnf)
  refine CallLeaf.wa (F1) rfl ?_
  (conv => whnf)
  refine CallLeaf.wa (F2) rfl ?_
  (conv => whnf)
  refine CallLeaf.wa (F3) rfl ?_
  (conv => whnf)
  refine CallLeaf.wa (F4) rfl ?_
  (conv => whnf)
  refine CallLeaf.wa (F5) rfl ?_
  (conv => whnf)
  ((cases b1 with | false => ((try simp only [Bool.and_false, Bool.false_and, Bool.false_eq_true, if_false]); ((conv => whnf)); (exact Wk.tuple (Wks.cons (Wk.natN rfl) (Wks.cons (Wk.refl _) Wks.nil)))) | true => ?_); ((conv => whnf)))
  ((cases b2 with | false => ((try simp only [Bool.and_false, Bool.false_and, Bool.false_eq_true, if_false]); ((conv => whnf)); (exact Wk.tuple (Wks.cons (Wk.natN rfl) (Wks.cons (Wk.refl _) Wks.nil)))) | true => ?_); ((conv => whnf)))
  ((cases b3 with | false => ((try simp only [Bool.and_false, Bool.false_and, Bool.false_eq_true, if_false]); ((conv => whnf)); (exact Wk.tuple (Wks.cons (Wk.natN rfl) (Wks.cons (Wk.refl _) Wks.nil)))) | true => ?_); ((conv => whnf)))
  ((cases b4 with | false => ((try simp only [Bool.and_false, Bool.false_and, Bool.false_eq_true, if_false]); ((conv => whnf)); (exact Wk.tuple (Wks.cons (Wk.natN rfl) (Wks.cons (Wk.refl _) Wks.nil)))) | true => ?_); ((conv => whnf)))
  ((cases b5 with | false => ((try simp only [Bool.and_false, Bool.false_and, Bool.false_eq_true, if_false]); ((conv => whnf)); (exact Wk.tuple (Wks.cons (Wk.natN rfl) (Wks.cons (Wk.refl _) Wks.nil)))) | true => ?_); ((conv => whnf)))
  simp only [Bool.and_self, if_true]
  have S := spaces_ (16 - nm.length) (by omega)
  (conv => whnf)
  refine ⟨by show nm.length ≤ _; omega, ?_⟩
  (conv => whnf)
  refine ⟨((16 - nm.length : Nat) : Int), sub64 (by omega) (by omega), ?_⟩
  (conv => whnf)
  refine CallLeaf.wa (S) rfl ?_
  (conv => whnf)
  refine ⟨_, appL (f := byteD) (xs := nm) (ys := sp (16 - nm.length)) (zs := nm ++ sp (16 - nm.length)) (by simp) rfl (fun _ => rfl) rfl (by simp only [List.length_append, List.length_replicate, List.length_cons, List.length_nil]; show _ * 1 ≤ _; omega), ?_⟩
  (conv => whnf)
  refine ⟨_, appL (f := byteD) (xs := nm ++ sp (16 - nm.length)) (ys := a1) (zs := nm ++ sp (16 - nm.length) ++ a1) (by simp) rfl (fun _ => rfl) rfl (by simp only [List.length_append, List.length_replicate, List.length_cons, List.length_nil]; show _ * 1 ≤ _; omega), ?_⟩
  (conv => whnf)
  refine ⟨_, appL (f := byteD) (xs := nm ++ sp (16 - nm.length) ++ a1) (ys := a2) (zs := nm ++ sp (16 - nm.length) ++ a1 ++ a2) (by simp) rfl (fun _ => rfl) rfl (by simp only [List.length_append, List.length_replicate, List.length_cons, List.length_nil]; show _ * 1 ≤ _; omega), ?_⟩
  (conv => whnf)
  refine ⟨_, appL (f := byteD) (xs := nm ++ sp (16 - nm.length) ++ a1 ++ a2) (ys := a3) (zs := nm ++ sp (16 - nm.length) ++ a1 ++ a2 ++ a3) (by simp) rfl (fun _ => rfl) rfl (by simp only [List.length_append, List.length_replicate, List.length_cons, List.length_nil]; show _ * 1 ≤ _; omega), ?_⟩
  (conv => whnf)
  refine ⟨_, appL (f := byteD) (xs := nm ++ sp (16 - nm.length) ++ a1 ++ a2 ++ a3) (ys := a4) (zs := nm ++ sp (16 - nm.length) ++ a1 ++ a2 ++ a3 ++ a4) (by simp) rfl (fun _ => rfl) rfl (by simp only [List.length_append, List.length_replicate, List.length_cons, List.length_nil]; show _ * 1 ≤ _; omega), ?_⟩
  (conv => whnf)
  refine ⟨_, appL (f := byteD) (xs := nm ++ sp (16 - nm.length) ++ a1 ++ a2 ++ a3 ++ a4) (ys := a5) (zs := nm ++ sp (16 - nm.length) ++ a1 ++ a2 ++ a3 ++ a4 ++ a5) (by simp) rfl (fun _ => rfl) rfl (by simp only [List.length_append, List.length_replicate, List.length_cons, List.length_nil]; show _ * 1 ≤ _; omega), ?_⟩
  (conv => whnf)
  refine ⟨_, appL (f := byteD) (xs := nm ++ sp (16 - nm.length) ++ a1 ++ a2 ++ a3 ++ a4 ++ a5) (ys := [96, 10]) (zs := nm ++ sp (16 - nm.length) ++ a1 ++ a2 ++ a3 ++ a4 ++ a5 ++ [96, 10]) (by simp) rfl (fun _ => rfl) rfl (by simp only [List.length_append, List.length_replicate, List.length_cons, List.length_nil]; show _ * 1 ≤ _; omega), ?_⟩
  (conv => whnf)
  exact Wk.tuple (Wks.cons (Wk.nat' rfl) (Wks.cons (Wk.refl _) Wks.nil))
end Go.Proofs.YtimnnknfcfongaaDoor.H

namespace Go.Proofs.YtimnnknfcfongaaDoor.H
open Go Go.AL Go.AL.Hd
set_option maxRecDepth 100000
set_option maxHeartbeats 4000000
theorem dbased_ [Go.AL.MX] (b : Int) : FCall Tryd.prog Gl 65 [vI b] [] (vB (decide (b = 8) || decide (b = 10))) [] := by
 refine FCall.enterL hT hmix [] Tryd.func65 rfl rfl rfl fun hbd => ?_
 (conv => whnf)
 refine split_intro (fun h => ?_) (fun h => ?_)
 ·obtain rfl : b = 8 := of_decide_eq_true h
  (conv => whnf)
  exact Wk.refl _
 ·have h' : decide (b = 8) = false := h
  (conv => whnf)
  exact Wk.bool (by simp [h']; rfl)
theorem blank_ [Go.AL.MX] (l : List UInt8) : FCall Tryd.prog Gl 66 [LB l] [] (vB (l.all (· == 32))) [] := by
 refine FCall.enterL hT hmix [] Tryd.func66 rfl rfl rfl fun hbd => ?_
 have ha := bds_list hbd (.head _)
 (conv => whnf)
 refine LWp.loop hT hmix [] (fun k : Nat => [(7, vI k)]) (fun _ => []) (fun k => k ≤ l.length ∧ (l.take k).all (· == 32) = true) (fun k => l.length - k) 0 ⟨Nat.zero_le _, rfl⟩ ?_
 (conv => whnf)
 refine ⟨?_, fun k hk => ?_⟩
 ·(repeat' (first | exact trivial | exact Wk.refl _ | exact ObWk.refl _ | exact rfl | exact ⟨_, rfl⟩ | exact Nat.zero_lt_one | refine And.intro ?_ ?_ | unfold okTo | (unfold okO; conv => whnf) | (unfold okS; conv => whnf) | (unfold SlotOk; conv => whnf) | (unfold ObjOk; conv => whnf) | (unfold okCells; conv => whnf) | (unfold liveTo; conv => whnf) | exact Nat.zero_lt_succ _))
 ·(conv => whnf)
  refine split_intro (fun h => ?_) (fun h => ?_)
  ·have hlt : k < l.length := by have := of_decide_eq_true h; simp only [List.length_map] at this; omega
   obtain ⟨x, hx⟩ : ∃ x, l[k]? = some x := ⟨_, List.getElem?_eq_getElem hlt⟩
   (conv => whnf)
   refine ⟨_, ⟨by omega, getMap hx⟩, ?_⟩
   (conv => whnf)
   refine split_intro (fun h2 => ?_) (fun h2 => ?_)
   ·have hx2 : (x == 32) = false := by
     cases hq : (x == 32) with
     | false => rfl
     | true => have := eq_of_beq hq; subst this; simp at h2
    have e : l.all (· == 32) = false := by
     rw [List.all_eq_false]
     exact ⟨x, List.mem_of_getElem? hx, by simp [hx2]⟩
    rw [e]
    (conv => whnf)
    exact Wk.refl _
   ·have hx2 : x = 32 := UInt8.toNat_inj.1 (by
     have : ((x.toNat : Int) != 32) = false := h2
     simp at this; simp; omega)
    subst hx2
    (conv => whnf)
    refine ⟨_, add64 (c := ((k + 1 : Nat) : Int)) (by (try simp only []); omega) (by omega), ?_⟩
    (conv => whnf)
    refine ⟨k + 1, ⟨⟨by omega, by rw [List.take_add_one, hx]; simp [hk.2]⟩, by simp only []; omega⟩, ?_⟩
    (repeat' (first | exact trivial | exact Wk.refl _ | exact ObWk.refl _ | exact rfl | exact ⟨_, rfl⟩ | exact Nat.zero_lt_one | refine And.intro ?_ ?_ | unfold okTo | (unfold okO; conv => whnf) | (unfold okS; conv => whnf) | (unfold SlotOk; conv => whnf) | (unfold ObjOk; conv => whnf) | (unfold okCells; conv => whnf) | (unfold liveTo; conv => whnf) | exact Nat.zero_lt_succ _))
  ·have hge : l.length ≤ k := by have := of_decide_eq_false h; simp only [List.length_map] at this; omega
   have e := hk.2
   rw [List.take_of_length_le hge] at e
   rw [e]
   (conv => whnf)
   exact Wk.refl _
theorem sp_take {w k : Nat} (h : k ≤ w) : (sp k ++ List.replicate (w - k) 0).length = w := by simp; omega
theorem put_dig (L : Str) (j : Nat) (x : UInt8) (r : Str) (h : L[j]? = some x) : (sp (j + 1) ++ L.drop (j + 1) ++ r).set j x = sp j ++ L.drop j ++ r := by
 obtain ⟨hj, hx⟩ := List.getElem?_eq_some_iff.1 h
 rw [← sp_snoc, List.drop_eq_getElem_cons hj, hx]
 simp [List.set_append]
theorem put_sp (w k : Nat) (h : k < w) : (sp k ++ List.replicate (w - k) (0 : UInt8)).set k 32 = sp (k + 1) ++ List.replicate (w - (k + 1)) 0 := by
 rw [← sp_snoc, show w - k = (w - (k + 1)) + 1 by omega, List.replicate_succ]
 simp [List.set_append]
theorem get_sp (w k : Nat) (h : k < w) : (sp k ++ List.replicate (w - k) (0 : UInt8))[k]? = some 0 := by
 rw [List.getElem?_append_right (by simp)]
 simp only [List.length_replicate, Nat.sub_self]
 rw [List.getElem?_replicate, if_pos (by omega)]
theorem get_dig (L : Str) (j : Nat) (r : Str) : (sp (j + 1) ++ L.drop (j + 1) ++ r)[j]? = some 32 := by
 rw [List.append_assoc, List.getElem?_append_left (by simp)]; simp
theorem set_map (l : Str) (i : Nat) (c : UInt8) : (l.map byteD).set i (byteD c) = (l.set i c).map byteD := by rw [List.map_set]
theorem dig_last {b q : Nat} (hb : 2 ≤ b) : (dig b q).getLast? = some (dgt (q % b)) := by
 by_cases h : q < b
 ·rw [dig_lt h, Nat.mod_eq_of_lt h]; rfl
 ·rw [dig_ge hb (by omega)]; simp
theorem dig_step {b q : Nat} (hb : 2 ≤ b) {L : Str} {j : Nat} (hj : j < L.length) (h : L.take (j + 1) = dig b q) : L[j]? = some (dgt (q % b)) ∧ (0 < j → L.take j = dig b (q / b)) := by
 have hl := congrArg List.length h
 simp only [List.length_take] at hl
 have e1 : (L.take (j + 1)).getLast? = L[j]? := by
  rw [List.getLast?_eq_getElem?, List.length_take, Nat.min_eq_left (by omega), List.getElem?_take]; simp
 refine ⟨by rw [← e1, h]; exact dig_last hb, fun h0 => ?_⟩
 have hq : ¬ q < b := fun hq => by rw [dig_lt hq] at hl; simp at hl; omega
 rw [dig_ge hb (by omega)] at h
 have e2 : L.take j = (L.take (j + 1)).dropLast := by
  rw [List.dropLast_eq_take, List.length_take, List.take_take]; congr 1; omega
 rw [e2, h]; simp
end Go.Proofs.YtimnnknfcfongaaDoor.H

namespace Go.Proofs.YtimnnknfcfongaaDoor.O
open Go Go.AL Go.AL.Ap
set_option maxRecDepth 100000
theorem ibs (s : Str) (c : Int) : ECall Tryd.prog 106 [sD s, .v (.int .u8 c)] (vI (Lib.indexByte s c.toNat.toUInt8)) :=
 ibs_ Tryd.func106 (by kernel_rfl) (by kernel_rfl) (by kernel_rfl) (by kernel_rfl) s c
theorem ibb (s : List UInt8) (c : Int) : ECall Tryd.prog 91 [LB s, .v (.int .u8 c)] (vI (Lib.indexByte s c.toNat.toUInt8)) :=
 ibb_ Tryd.func91 (by kernel_rfl) (by kernel_rfl) (by kernel_rfl) (by kernel_rfl) s c
theorem has0 (s : Str) : decide (0 ≤ Lib.indexByte s 0) = decide ((0 : UInt8) ∈ s) := by
 rw [ib_spec]
 by_cases h : (0 : UInt8) ∈ s
 ·have : s.dropWhile isz ≠ [] := by
   intro e
   have h2 := List.takeWhile_append_dropWhile (p := isz) (l := s)
   rw [e, List.append_nil] at h2
   have h3 := List.all_takeWhile (p := isz) (l := s)
   rw [h2] at h3
   have := List.all_eq_true.1 h3 0 h
   simp [isz] at this
  rw [if_neg this]; simp [h]
 ·have := dw_app (isz_of h) []
  simp only [List.append_nil, List.dropWhile_nil] at this
  rw [if_pos this]; simp [h]
theorem sibyte_ [Go.AL.MX] (s : Str) (c : Int) : FCall Tryd.prog Gl 96 [sD s, .v (.int .u8 c)] [] (vI (Lib.indexByte s c.toNat.toUInt8)) [] := by
 refine FCall.enterL hT hmix [] Tryd.func96 rfl rfl rfl fun hbd => ?_
 (conv => whnf)
 refine CallLeaf.e (Wks.cons (Wk.refl _) (Wks.cons (Wk.refl _) Wks.nil)) (ibs s c) ?_
 (conv => whnf)
 exact Wk.refl _
theorem bibyte_ [Go.AL.MX] (s : List UInt8) (c : Int) : FCall Tryd.prog Gl 73 [LB s, .v (.int .u8 c)] [] (vI (Lib.indexByte s c.toNat.toUInt8)) [] := by
 refine FCall.enterL hT hmix [] Tryd.func73 rfl rfl rfl fun hbd => ?_
 (conv => whnf)
 refine CallLeaf.e (Wks.cons (Wk.refl _) (Wks.cons (Wk.refl _) Wks.nil)) (ibb s c) ?_
 (conv => whnf)
 exact Wk.refl _
theorem slindex_ [Go.AL.MX] (s : Str) (c : UInt8) : FCall Tryd.prog Gl 83 [sD s, sD [c]] [] (vI (Lib.indexByte s c)) [] := by
 have h1 := sibyte_ s (c.toNat : Int)
 simp only [Int.toNat_natCast, Nat.toUInt8] at h1
 refine FCall.enterL hT hmix [] Tryd.func83 rfl rfl rfl fun hbd => ?_
 (conv => whnf)
 refine split_intro (fun h => ?_) (fun h => ?_)
 ·have e : [c] = s := of_decide_eq_true h
  subst e
  (conv => whnf)
  exact Wk.int (by simp [Lib.indexByte])
 ·(conv => whnf)
  refine ⟨c, ⟨by decide, rfl⟩, ?_⟩
  (conv => whnf)
  refine CallLeaf.wa (h1) rfl ?_
  (conv => whnf)
  exact Wk.int (by simp)
theorem sindex_ [Go.AL.MX] (s : Str) (c : UInt8) : FCall Tryd.prog Gl 64 [sD s, sD [c]] [] (vI (Lib.indexByte s c)) [] := by
 refine FCall.enterL hT hmix [] Tryd.func64 rfl rfl rfl fun hbd => ?_
 (conv => whnf)
 refine CallLeaf.wa (slindex_ s c) rfl ?_
 (conv => whnf)
 exact Wk.refl _
theorem contains0_ [Go.AL.MX] (s : Str) : FCall Tryd.prog Gl 47 [sD s, sD [0]] [] (vB (decide ((0 : UInt8) ∈ s))) [] := by
 refine FCall.enterL hT hmix [] Tryd.func47 rfl rfl rfl fun hbd => ?_
 (conv => whnf)
 refine CallLeaf.wa (sindex_ s 0) rfl ?_
 (conv => whnf)
 exact Wk.bool (has0 s)
end Go.Proofs.YtimnnknfcfongaaDoor.O

namespace Go.Proofs.YtimnnknfcfongaaDoor.O
open Go Go.AL Go.AL.Ap
set_option maxRecDepth 100000
abbrev B (l : List UInt8) : List (List D) := l.map byteD
end Go.Proofs.YtimnnknfcfongaaDoor.O

namespace Go.Proofs.YtimnnknfcfongaaDoor.O
open Go Go.AL Go.AL.Ap
set_option maxRecDepth 100000
theorem num4 (a b c d : UInt8) (r : List UInt8) : num (a :: b :: c :: d :: r) = ((a.toNat * 256 + b.toNat) * 256 + c.toNat) * 256 + d.toNat := rfl
theorem split4 : ∀ {b : List UInt8}, 4 ≤ b.length → ∃ x y z w r, b = x :: y :: z :: w :: r
 | x :: y :: z :: w :: r, _ => ⟨x, y, z, w, r, rfl⟩
end Go.Proofs.YtimnnknfcfongaaDoor.O

namespace Go.Proofs.YtimnnknfcfongaaDoor.O
open Go Go.AL Go.AL.Ap
set_option maxRecDepth 100000
end Go.Proofs.YtimnnknfcfongaaDoor.O

namespace Go.Proofs.YtimnnknfcfongaaDoor.O
open Go Go.AL Go.AL.Ap
set_option maxRecDepth 100000
abbrev LE (l : List Ent) : D := .list .any (l.map Ent.enc)
abbrev LEn (l : List Ent) : D := .list .nat (l.map Ent.enc)
def encR (l : List Ent) : List UInt8 × Int := if l.all fits then (encB l, 0) else ([], 9)
theorem offs_take {l : List Ent} {k : Nat} {e : Ent} (h : l[k]? = some e) : offs (l.take (k + 1)) = offs (l.take k) ++ W4 e.2.toNat := by
 rw [List.take_add_one, h]; simp [offs]
theorem nams_take {l : List Ent} {k : Nat} {e : Ent} (h : l[k]? = some e) : nams (l.take (k + 1)) = (nams (l.take k) ++ e.1) ++ [0] := by
 rw [List.take_add_one, h]; simp [nams]
theorem nams_le (l : List Ent) (k : Nat) : (nams (l.take k)).length ≤ (nams l).length := by
 conv => rhs; rw [← List.take_append_drop k l]
 simp only [nams, List.flatMap_append, List.length_append]
 omega
theorem all_take {l : List Ent} {k : Nat} {e : Ent} (h : l[k]? = some e) : (l.take (k + 1)).all fits = ((l.take k).all fits && fits e) := by
 rw [List.take_add_one, h]; simp
theorem all_false {l : List Ent} {k : Nat} {e : Ent} (h : l[k]? = some e) (hf : fits e = false) : l.all fits = false := by
 rw [List.all_eq_false]
 exact ⟨e, List.mem_of_getElem? h, by simp [hf]⟩
end Go.Proofs.YtimnnknfcfongaaDoor.O

namespace Go.Proofs.YtimnnknfcfongaaDoor.O
open Go Go.AL Go.AL.Ap
set_option maxRecDepth 100000
def decR (b : List UInt8) : List Ent × Int := match dec b with | some q => (q, 0) | none => ([], 8)
theorem decR_none {b : List UInt8} (h : dec b = none) : decR b = ([], 8) := by simp [decR, h]
theorem decR_some {b : List UInt8} {q : List Ent} (h : dec b = some q) : decR b = (q, 0) := by simp [decR, h]
end Go.Proofs.YtimnnknfcfongaaDoor.O

namespace Go.Proofs.YtimnnknfcfongaaDoor.O
open Go Go.AL Go.AL.Ap
set_option maxRecDepth 100000
theorem num_take {x : List UInt8} (h : 4 ≤ x.length) : num (x.take 4) = num x := by
 obtain ⟨a, b, c, d, r, rfl⟩ := split4 h
 rfl
theorem sB_app (a b : Str) : sB a ++ sB b = sB (a ++ b) := by
 simp [sB, ByteArray.append]
 apply ByteArray.ext
 simp
theorem sB_sz (s : Str) : (sB s).size = s.length := by simp [sB, ByteArray.size]
end Go.Proofs.YtimnnknfcfongaaDoor.O

namespace Go.Proofs.YtimnnknfcfongaaDoor.O
open Go Go.AL Go.AL.Ap
set_option maxRecDepth 100000
theorem not_t {b : Bool} (h : (!b) = true) : b = false := by cases b <;> simp_all
theorem not_f {b : Bool} (h : (!b) = false) : b = true := by cases b <;> simp_all
theorem len_ne {a b : Nat} (h : ((a : Int) != (b : Int)) = true) : a ≠ b := by intro e; subst e; simp at h
theorem len_eq {a b : Nat} (h : ((a : Int) != (b : Int)) = false) : a = b := by
 by_cases e : a = b
 ·exact e
 ·have : ((a : Int) != (b : Int)) = true := by simp; omega
  rw [this] at h; exact absurd h (by decide)
theorem u8_ne {x y : UInt8} (h : ((x.toNat : Int) != (y.toNat : Int)) = true) : x ≠ y := fun e => by subst e; simp at h
theorem u8_eq {x y : UInt8} (h : ((x.toNat : Int) != (y.toNat : Int)) = false) : x = y := UInt8.toNat_inj.1 (len_eq h)
theorem same_ [Go.AL.MX] (a b : List UInt8) : FCall Tryd.prog Gl 20 [LB a, LB b] [] (vB (decide (a = b))) [] := by
 refine FCall.enterL hT hmix [] Tryd.func20 rfl rfl rfl fun hbd => ?_
 have ha := bds_list hbd (.head _)
 (conv => whnf)
 refine split_intro (fun h => ?_) (fun h => ?_)
 ·have hne : a.length ≠ b.length := by have := len_ne h; simpa using this
  (conv => whnf)
  exact Wk.bool (by symm; simp; intro e; subst e; exact hne rfl)
 ·have hl : a.length = b.length := by have := len_eq h; simpa using this
  (conv => whnf)
  refine LWp.loop hT hmix [] (fun k : Nat => [(5, vI k)]) (fun _ => []) (fun k => k ≤ a.length ∧ a.take k = b.take k) (fun k => a.length - k) 0 ⟨Nat.zero_le _, rfl⟩ ?_
  (conv => whnf)
  refine ⟨?_, fun k ⟨hk, hkk⟩ => ?_⟩
  ·(repeat' (first | exact trivial | exact Wk.refl _ | exact ObWk.refl _ | exact rfl | exact ⟨_, rfl⟩ | exact Nat.zero_lt_one | refine And.intro ?_ ?_ | unfold okTo | (unfold okO; conv => whnf) | (unfold okS; conv => whnf) | (unfold SlotOk; conv => whnf) | (unfold ObjOk; conv => whnf) | (unfold okCells; conv => whnf) | (unfold liveTo; conv => whnf) | exact Nat.zero_lt_succ _))
  ·(conv => whnf)
   refine split_intro (fun h1 => ?_) (fun h1 => ?_)
   ·have hlt : k < a.length := by have := of_decide_eq_true h1; simp at this; omega
    obtain ⟨x, hx⟩ := exI hlt
    obtain ⟨y, hy⟩ := exI (l := b) (k := k) (by omega)
    (conv => whnf)
    refine ⟨_, ⟨by omega, getMap hx⟩, ?_⟩
    (conv => whnf)
    refine ⟨_, ⟨by omega, getMap hy⟩, ?_⟩
    (conv => whnf)
    refine split_intro (fun h2 => ?_) (fun h2 => ?_)
    ·have := u8_ne h2
     (conv => whnf)
     exact Wk.bool (by
      symm; simp; intro e; subst e
      rw [hx] at hy; injection hy with hy; exact this hy)
    ·have := u8_eq h2
     subst this
     (conv => whnf)
     refine ⟨_, add64 (c := ((k + 1 : Nat) : Int)) (by omega) (by omega), ?_⟩
     (conv => whnf)
     refine ⟨k + 1, ⟨⟨by omega, by rw [List.take_add_one, List.take_add_one, hx, hy, hkk]⟩, by simp only []; omega⟩, ?_⟩
     (repeat' (first | exact trivial | exact Wk.refl _ | exact ObWk.refl _ | exact rfl | exact ⟨_, rfl⟩ | exact Nat.zero_lt_one | refine And.intro ?_ ?_ | unfold okTo | (unfold okO; conv => whnf) | (unfold okS; conv => whnf) | (unfold SlotOk; conv => whnf) | (unfold ObjOk; conv => whnf) | (unfold okCells; conv => whnf) | (unfold liveTo; conv => whnf) | exact Nat.zero_lt_succ _))
   ·have hge : a.length ≤ k := by have := of_decide_eq_false h1; simp at this; omega
    rw [List.take_of_length_le hge, List.take_of_length_le (by omega)] at hkk
    (conv => whnf)
    exact Wk.bool (by simp [hkk])
theorem eqE (a b : Ent) : eqCellsD a.enc b.enc = some (decide (a.1 = b.1) && (a.2 == b.2 && true)) := rfl
theorem eqE' (a b : Ent) : (decide (a.1 = b.1) && (a.2 == b.2 && true)) = decide (a = b) := by
 rw [Bool.eq_iff_iff]; simp [Prod.ext_iff]
def few (l : List Ent) : Bool := (l.take 101).all (fun e => decide (e.1.length ≤ 300)) && decide (l.length ≤ 100)
theorem few_iff {l : List Ent} (h : few l = true) : l.length ≤ 100 ∧ ∀ e ∈ l, e.1.length ≤ 300 := by
 simp only [few, Bool.and_eq_true, decide_eq_true_eq] at h
 obtain ⟨h1, h2⟩ := h
 rw [List.take_of_length_le (by omega)] at h1
 exact ⟨h2, fun e he => of_decide_eq_true (List.all_eq_true.1 h1 e he)⟩
def szs (l : List Str) : Nat := (l.map fun s => 5 + s.length).sum
theorem szs_take {l : List Str} {k : Nat} {s : Str} (h : l[k]? = some s) : szs (l.take (k + 1)) = szs (l.take k) + (5 + s.length) := by
 rw [List.take_add_one, h]
 simp only [szs, List.map_append, List.sum_append, Option.toList_some, List.map_cons, List.map_nil, List.sum_cons, List.sum_nil]
 omega
theorem szs_le {l : List Str} (hb : ∀ s ∈ l, s.length ≤ 1000) : ∀ k, szs (l.take k) ≤ 1005 * k
 | 0 => by simp [szs]
 | k + 1 => by
  have ih := szs_le hb k
  cases hs : l[k]? with
  | none => rw [List.take_add_one, hs]; simp only [Option.toList_none, List.append_nil]; omega
  | some s =>
   have := hb s (List.mem_of_getElem? hs)
   rw [szs_take hs]; omega
end Go.Proofs.YtimnnknfcfongaaDoor.O

namespace Go.Proofs.YtimnnknfcfongaaDoor.H
open Go Go.AL Go.AL.Hd
set_option maxRecDepth 100000
set_option maxHeartbeats 4000000
theorem isd_of {b : Nat} {c : UInt8} (h1 : 48 ≤ c.toNat) (h2 : ((c.toNat : Int) - 48) < (b : Int)) : isd b c = true := isd_iff.2 ⟨h1, by omega⟩
theorem dparse_ [Go.AL.MX] (b : Nat) (hb : b = 8 ∨ b = 10) (l : List UInt8) : FCall Tryd.prog Gl 48 [LB l, vI b] [] (.tuple [vI (parseR b l).1, vI (parseR b l).2]) [] := by
 have B := dbased_ b
 rw [based_of hb] at B
 have hb2 : 2 ≤ b := by omega
 have hb10 : b ≤ 10 := by omega
 refine FCall.enterL hT hmix [] Tryd.func48 rfl rfl rfl fun hbd => ?_
 have ha := bds_list hbd (.head _)
 (conv => whnf)
 refine LWp.scope hT hmix [4] ?_
 (conv => whnf)
 refine CallLeaf.wa (B) rfl ?_
 (conv => whnf)
 refine split_intro (fun g1 => ?_) (fun g1 => ?_)
 ·have e : parseR b l = (0, 13) := by have := of_decide_eq_true g1; simp only [List.length_map] at this; unfold parseR; rw [if_pos (by omega)]
  rw [e]
  (conv => whnf)
  refine Wk.tuple (Wks.cons (Wk.refl _) (Wks.cons (Wk.refl _) Wks.nil))
 ·have g1' := of_decide_eq_false g1
  simp only [List.length_map] at g1'
  (conv => whnf)
  refine split_intro (fun g2 => ?_) (fun g2 => ?_)
  ·have e : parseR b l = (0, 13) := by have := of_decide_eq_true g2; simp only [List.length_map] at this; unfold parseR; rw [if_pos (by omega)]
   rw [e]
   (conv => whnf)
   refine Wk.tuple (Wks.cons (Wk.refl _) (Wks.cons (Wk.refl _) Wks.nil))
  ·have g2' := of_decide_eq_false g2
   simp only [List.length_map] at g2'
   have e0 : parseR b l = opR (pf b l) := by unfold parseR; rw [if_neg (by omega)]
   rw [e0]
   (conv => whnf)
   refine LWp.cut hT hmix [] [] (fun k : Nat => [(6, vI (val b (l.take k))), (7, vI k)]) (fun _ => []) [] (fun k => k ≤ l.length ∧ (l.take k).all (isd b) = true ∧ (k < l.length → l[k]? = some 32)) ?_
   (conv => whnf)
   refine ⟨?_, fun k ⟨hk, hd, hs⟩ => ?_⟩
   ·refine LWp.loop hT hmix [] (fun k : Nat => [(25, vI k), (6, vI (val b (l.take k))), (7, vI k)]) (fun _ => []) (fun k => k ≤ l.length ∧ (l.take k).all (isd b) = true) (fun k => l.length - k) 0 ⟨Nat.zero_le _, rfl⟩ ?_
    (conv => whnf)
    refine ⟨?_, fun k ⟨hk, hd⟩ => ?_⟩
    ·(repeat' (first | exact trivial | exact Wk.refl _ | exact ObWk.refl _ | exact rfl | exact ⟨_, rfl⟩ | exact Nat.zero_lt_one | refine And.intro ?_ ?_ | unfold okTo | (unfold okO; conv => whnf) | (unfold okS; conv => whnf) | (unfold SlotOk; conv => whnf) | (unfold ObjOk; conv => whnf) | (unfold okCells; conv => whnf) | (unfold liveTo; conv => whnf) | exact Nat.zero_lt_succ _))
    ·(conv => whnf)
     refine split_intro (fun h => ?_) (fun h => ?_)
     ·have hlt : k < l.length := by have := of_decide_eq_true h; simp only [List.length_map] at this; omega
      obtain ⟨x, hx⟩ : ∃ x, l[k]? = some x := ⟨_, List.getElem?_eq_getElem hlt⟩
      (conv => whnf)
      refine ⟨_, ⟨by omega, getMap hx⟩, ?_⟩
      (conv => whnf)
      refine split_intro (fun h2 => ?_) (fun h2 => ?_)
      ·obtain rfl : x = 32 := byte_eq (c := 32) h2
       (conv => whnf)
       refine ⟨k, ⟨hk, hd, fun _ => hx⟩, ?_⟩
       (repeat' (first | exact trivial | exact Wk.refl _ | exact ObWk.refl _ | exact rfl | exact ⟨_, rfl⟩ | exact Nat.zero_lt_one | refine And.intro ?_ ?_ | unfold okTo | (unfold okO; conv => whnf) | (unfold okS; conv => whnf) | (unfold SlotOk; conv => whnf) | (unfold ObjOk; conv => whnf) | (unfold okCells; conv => whnf) | (unfold liveTo; conv => whnf) | exact Nat.zero_lt_succ _))
      ·have hx32 : ¬ x = 32 := byte_ne (c := 32) h2
       (conv => whnf)
       refine split_intro (fun h3 => ?_) (fun h3 => ?_)
       ·have h48 : x.toNat < 48 := by have := of_decide_eq_true h3; omega
        have e : pf b l = none := pf_none hx hd (by cases hq : isd b x with | false => rfl | true => have := isd_iff.1 hq; omega) hx32
        rw [e]
        (conv => whnf)
        refine Wk.tuple (Wks.cons (Wk.refl _) (Wks.cons (Wk.refl _) Wks.nil))
       ·have h48 : 48 ≤ x.toNat := by have := of_decide_eq_false h3; omega
        (conv => whnf)
        refine ⟨_, sub8 h48, ?_⟩
        (conv => whnf)
        refine ⟨_, wrap64 (by have := x.toNat_lt; omega), ?_⟩
        (conv => whnf)
        refine split_intro (fun h4 => ?_) (fun h4 => ?_)
        ·have hge : b ≤ x.toNat - 48 := by have := of_decide_eq_true h4; omega
         have e : pf b l = none := pf_none hx hd (by cases hq : isd b x with | false => rfl | true => have := isd_iff.1 hq; omega) hx32
         rw [e]
         (conv => whnf)
         refine Wk.tuple (Wks.cons (Wk.refl _) (Wks.cons (Wk.refl _) Wks.nil))
        ·have hlb : x.toNat - 48 < b := by have := of_decide_eq_false h4; omega
         have hix : isd b x = true := isd_iff.2 ⟨h48, hlb⟩
         have hd2 : (l.take (k + 1)).all (isd b) = true := by rw [List.take_add_one, hx]; simp [hd, hix]
         have ev := val_take_succ (b := b) hx
         have vl := val_lt hb2 (l.take (k + 1)) (List.all_eq_true.1 hd2)
         have pw := pow_le (b := b) (k := (l.take (k + 1)).length) hb10 (by rw [List.length_take]; omega)
         have hv1 : val b (l.take k) * b ≤ 1000000000000000000 := by omega
         (conv => whnf)
         refine ⟨_, mul64 (c := ((val b (l.take k) * b : Nat) : Int)) (by omega) (by omega), ?_⟩
         (conv => whnf)
         refine ⟨_, sub8 h48, ?_⟩
         (conv => whnf)
         refine ⟨_, wrap64 (by have := x.toNat_lt; omega), ?_⟩
         (conv => whnf)
         refine ⟨_, add64 (c := ((val b (l.take (k + 1)) : Nat) : Int)) (by omega) (by omega), ?_⟩
         (conv => whnf)
         refine ⟨_, add64 (c := ((k + 1 : Nat) : Int)) (by (try simp only []); omega) (by omega), ?_⟩
         (conv => whnf)
         refine ⟨_, add64 (c := ((k + 1 : Nat) : Int)) (by (try simp only []); omega) (by omega), ?_⟩
         (conv => whnf)
         refine ⟨k + 1, ⟨⟨by omega, hd2⟩, by simp only []; omega⟩, ?_⟩
         (repeat' (first | exact trivial | exact Wk.refl _ | exact ObWk.refl _ | exact rfl | exact ⟨_, rfl⟩ | exact Nat.zero_lt_one | refine And.intro ?_ ?_ | unfold okTo | (unfold okO; conv => whnf) | (unfold okS; conv => whnf) | (unfold SlotOk; conv => whnf) | (unfold ObjOk; conv => whnf) | (unfold okCells; conv => whnf) | (unfold liveTo; conv => whnf) | exact Nat.zero_lt_succ _))
     ·have hge : k = l.length := by have := of_decide_eq_false h; simp only [List.length_map] at this; omega
      (conv => whnf)
      refine ⟨k, ⟨hk, hd, fun h => absurd h (by omega)⟩, ?_⟩
      (repeat' (first | exact trivial | exact Wk.refl _ | exact ObWk.refl _ | exact rfl | exact ⟨_, rfl⟩ | exact Nat.zero_lt_one | refine And.intro ?_ ?_ | unfold okTo | (unfold okO; conv => whnf) | (unfold okS; conv => whnf) | (unfold SlotOk; conv => whnf) | (unfold ObjOk; conv => whnf) | (unfold okCells; conv => whnf) | (unfold liveTo; conv => whnf) | exact Nat.zero_lt_succ _))
   ·have hn : ∀ c, l[k]? = some c → isd b c = false := fun c hc => by
     have hkl := (List.getElem?_eq_some_iff.1 hc).1
     rw [hs hkl] at hc
     injection hc with hc
     rw [← hc]; exact isd_sp hb10
    have pfa := pf_at hk hd hn
    (conv => whnf)
    refine split_intro (fun q1 => ?_) (fun q1 => ?_)
    ·obtain rfl : k = 0 := by have := eq_of_beq q1; omega
     have e : pf b l = none := by rw [pfa, if_neg (by simp)]
     rw [e]
     (conv => whnf)
     refine Wk.tuple (Wks.cons (Wk.refl _) (Wks.cons (Wk.refl _) Wks.nil))
    ·have hk0 : 0 < k := by
      rcases Nat.eq_zero_or_pos k with rfl | h
      ·simp at q1
      ·exact h
     obtain ⟨c, r, rfl⟩ : ∃ c r, l = c :: r := by cases l with | nil => simp at hk; omega | cons c r => exact ⟨c, r, rfl⟩
     have hsz : ((c :: r).map byteD).length = (c :: r).length := List.length_map _
     have fin : ∀ (hc : k = 1 ∨ c ≠ 48), pf b (c :: r) = if ((c :: r).drop k).all (· == 32) = true then some (val b ((c :: r).take k)) else none := fun hc => by
      rw [pfa]
      have : (k = 1 ∨ (c :: r).head? ≠ some 48) := hc.imp_right fun h => by simpa using h
      by_cases hb : ((c :: r).drop k).all (· == 32) = true
      ·rw [if_pos ⟨hk0, hb, this⟩, if_pos hb]
      ·rw [if_neg (fun h => hb h.2.1), if_neg hb]
     (conv => whnf)
     refine split_intro (fun q2 => ?_) (fun q2 => ?_)
     ·have hk1 : 1 < k := by have := of_decide_eq_true q2; omega
      (conv => whnf)
      refine ⟨_, ⟨by omega, getMap (l := c :: r) (x := c) rfl⟩, ?_⟩
      (conv => whnf)
      refine split_intro (fun q3 => ?_) (fun q3 => ?_)
      ·obtain rfl : c = 48 := byte_eq (c := 48) q3
       have e : pf b (48 :: r) = none := by rw [pfa, if_neg (fun h => by rcases h.2.2 with h | h; omega; exact h rfl)]
       rw [e]
       (conv => whnf)
       refine Wk.tuple (Wks.cons (Wk.refl _) (Wks.cons (Wk.refl _) Wks.nil))
      ·have hc48 : c ≠ 48 := byte_ne (c := 48) q3
       rw [fin (.inr hc48)]
       (conv => whnf)
       (refine ⟨((c :: r).drop k).map byteD, ⟨by omega, by rw [hsz]; omega, by omega, (fun q hq => by obtain ⟨y, _, rfl⟩ := List.mem_map.1 hq; rfl), by rw [Int.toNat_natCast, Int.toNat_natCast, List.take_of_length_le (Nat.le_refl _), List.map_drop]⟩, ?_⟩; ((conv => whnf)); (refine CallLeaf.wa (blank_ ((c :: r).drop k)) rfl ?_); ((conv => whnf)); (cases hbb : ((c :: r).drop k).all (· == 32) with | true => (((conv => whnf)); (exact Wk.tuple (Wks.cons (Wk.refl _) (Wks.cons (Wk.refl _) Wks.nil)))) | false => (((conv => whnf)); (exact Wk.tuple (Wks.cons (Wk.refl _) (Wks.cons (Wk.refl _) Wks.nil))))))
     ·have hk1 : k = 1 := by have := of_decide_eq_false q2; omega
      rw [fin (.inl hk1)]
      (conv => whnf)
      (refine ⟨((c :: r).drop k).map byteD, ⟨by omega, by rw [hsz]; omega, by omega, (fun q hq => by obtain ⟨y, _, rfl⟩ := List.mem_map.1 hq; rfl), by rw [Int.toNat_natCast, Int.toNat_natCast, List.take_of_length_le (Nat.le_refl _), List.map_drop]⟩, ?_⟩; ((conv => whnf)); (refine CallLeaf.wa (blank_ ((c :: r).drop k)) rfl ?_); ((conv => whnf)); (cases hbb : ((c :: r).drop k).all (· == 32) with | true => (((conv => whnf)); (exact Wk.tuple (Wks.cons (Wk.refl _) (Wks.cons (Wk.refl _) Wks.nil)))) | false => (((conv => whnf)); (exact Wk.tuple (Wks.cons (Wk.refl _) (Wks.cons (Wk.refl _) Wks.nil))))))
end Go.Proofs.YtimnnknfcfongaaDoor.H

namespace Go.Proofs.YtimnnknfcfongaaDoor.H
open Go Go.AL Go.AL.Hd
set_option maxRecDepth 100000
set_option maxHeartbeats 4000000
theorem rparse_ [Go.AL.MX] (b : Nat) (hb : b = 8 ∨ b = 10) (l : List UInt8) : FCall Tryd.prog Gl 70 [LB l, vI b] [] (.tuple [vI (parseR b l).1, vI (parseR b l).2]) [] := by
 have B := based_ b
 rw [based_of hb] at B
 have hb2 : 2 ≤ b := by omega
 have hb10 : b ≤ 10 := by omega
 refine FCall.enterL hT hmix [5] Tryd.func70 rfl rfl rfl fun hbd => ?_
 have ha := bds_list hbd (.head _)
 (conv => whnf)
 refine CallLeaf.wa (B) rfl ?_
 (conv => whnf)
 refine split_intro (fun g1 => ?_) (fun g1 => ?_)
 ·have e : parseR b l = (0, 13) := by have := of_decide_eq_true g1; simp only [List.length_map] at this; unfold parseR; rw [if_pos (by omega)]
  rw [e]
  (conv => whnf)
  refine Wk.tuple (Wks.cons (Wk.refl _) (Wks.cons (Wk.refl _) Wks.nil))
 ·have g1' := of_decide_eq_false g1
  simp only [List.length_map] at g1'
  (conv => whnf)
  refine split_intro (fun g2 => ?_) (fun g2 => ?_)
  ·have e : parseR b l = (0, 13) := by have := of_decide_eq_true g2; simp only [List.length_map] at this; unfold parseR; rw [if_pos (by omega)]
   rw [e]
   (conv => whnf)
   refine Wk.tuple (Wks.cons (Wk.refl _) (Wks.cons (Wk.refl _) Wks.nil))
  ·have g2' := of_decide_eq_false g2
   simp only [List.length_map] at g2'
   have e0 : parseR b l = opR (pf b l) := by unfold parseR; rw [if_neg (by omega)]
   rw [e0]
   (conv => whnf)
   refine LWp.cut hT hmix [] [] (fun k : Nat => [(6, vI (val b (l.take k))), (7, vI k)]) (fun _ => []) [] (fun k => k ≤ l.length ∧ (l.take k).all (isd b) = true ∧ (∀ c, l[k]? = some c → isd b c = false)) ?_
   (conv => whnf)
   refine ⟨?_, fun k ⟨hk, hd, hn⟩ => ?_⟩
   ·refine LWp.loop hT hmix [] (fun k : Nat => [(6, vI (val b (l.take k))), (7, vI k)]) (fun _ => []) (fun k => k ≤ l.length ∧ (l.take k).all (isd b) = true) (fun k => l.length - k) 0 ⟨Nat.zero_le _, rfl⟩ ?_
    (conv => whnf)
    refine ⟨?_, fun k ⟨hk, hd⟩ => ?_⟩
    ·(repeat' (first | exact trivial | exact Wk.refl _ | exact ObWk.refl _ | exact rfl | exact ⟨_, rfl⟩ | exact Nat.zero_lt_one | refine And.intro ?_ ?_ | unfold okTo | (unfold okO; conv => whnf) | (unfold okS; conv => whnf) | (unfold SlotOk; conv => whnf) | (unfold ObjOk; conv => whnf) | (unfold okCells; conv => whnf) | (unfold liveTo; conv => whnf) | exact Nat.zero_lt_succ _))
    ·(conv => whnf)
     refine split_intro (fun h => ?_) (fun h => ?_)
     ·have hlt : k < l.length := by have := of_decide_eq_true h; simp only [List.length_map] at this; omega
      obtain ⟨x, hx⟩ : ∃ x, l[k]? = some x := ⟨_, List.getElem?_eq_getElem hlt⟩
      have hnx : isd b x = false → ∀ c, l[k]? = some c → isd b c = false := fun h c hc => by rw [hx] at hc; injection hc with hc; rw [← hc]; exact h
      (conv => whnf)
      refine ⟨_, ⟨by omega, getMap hx⟩, ?_⟩
      (conv => whnf)
      refine split_intro (fun h3 => ?_) (fun h3 => ?_)
      ·have h48 : 48 ≤ x.toNat := by have := of_decide_eq_true h3; omega
       (conv => whnf)
       refine ⟨_, ⟨by omega, getMap hx⟩, ?_⟩
       (conv => whnf)
       refine ⟨_, wrap64 (by have := x.toNat_lt; omega), ?_⟩
       (conv => whnf)
       refine ⟨_, sub64 (c := ((x.toNat - 48 : Nat) : Int)) (by omega) (by have := x.toNat_lt; omega), ?_⟩
       (conv => whnf)
       refine split_intro (fun h4 => ?_) (fun h4 => ?_)
       ·have hlb : x.toNat - 48 < b := by have := of_decide_eq_true h4; omega
        have hix : isd b x = true := isd_iff.2 ⟨h48, hlb⟩
        have hd2 : (l.take (k + 1)).all (isd b) = true := by rw [List.take_add_one, hx]; simp [hd, hix]
        have ev := val_take_succ (b := b) hx
        have vl := val_lt hb2 (l.take (k + 1)) (List.all_eq_true.1 hd2)
        have pw := pow_le (b := b) (k := (l.take (k + 1)).length) hb10 (by rw [List.length_take]; omega)
        have hv1 : val b (l.take k) * b ≤ 1000000000000000000 := by omega
        (conv => whnf)
        refine ⟨_, mul64 (c := ((val b (l.take k) * b : Nat) : Int)) (by omega) (by omega), ?_⟩
        (conv => whnf)
        refine ⟨_, ⟨by omega, getMap hx⟩, ?_⟩
        (conv => whnf)
        refine ⟨_, wrap64 (by have := x.toNat_lt; omega), ?_⟩
        (conv => whnf)
        refine ⟨_, add64 (c := ((val b (l.take k) * b + x.toNat : Nat) : Int)) (by omega) (by have := x.toNat_lt; omega), ?_⟩
        (conv => whnf)
        refine ⟨_, sub64 (c := ((val b (l.take (k + 1)) : Nat) : Int)) (by omega) (by omega), ?_⟩
        (conv => whnf)
        refine ⟨_, add64 (c := ((k + 1 : Nat) : Int)) (by (try simp only []); omega) (by omega), ?_⟩
        (conv => whnf)
        refine ⟨k + 1, ⟨⟨by omega, hd2⟩, by simp only []; omega⟩, ?_⟩
        (repeat' (first | exact trivial | exact Wk.refl _ | exact ObWk.refl _ | exact rfl | exact ⟨_, rfl⟩ | exact Nat.zero_lt_one | refine And.intro ?_ ?_ | unfold okTo | (unfold okO; conv => whnf) | (unfold okS; conv => whnf) | (unfold SlotOk; conv => whnf) | (unfold ObjOk; conv => whnf) | (unfold okCells; conv => whnf) | (unfold liveTo; conv => whnf) | exact Nat.zero_lt_succ _))
       ·have hge : ¬ x.toNat - 48 < b := by have := of_decide_eq_false h4; omega
        (conv => whnf)
        refine ⟨k, ⟨hk, hd, hnx (by cases hq : isd b x with | false => rfl | true => have := isd_iff.1 hq; omega)⟩, ?_⟩
        (repeat' (first | exact trivial | exact Wk.refl _ | exact ObWk.refl _ | exact rfl | exact ⟨_, rfl⟩ | exact Nat.zero_lt_one | refine And.intro ?_ ?_ | unfold okTo | (unfold okO; conv => whnf) | (unfold okS; conv => whnf) | (unfold SlotOk; conv => whnf) | (unfold ObjOk; conv => whnf) | (unfold okCells; conv => whnf) | (unfold liveTo; conv => whnf) | exact Nat.zero_lt_succ _))
      ·have h48 : ¬ 48 ≤ x.toNat := by have := of_decide_eq_false h3; omega
       (conv => whnf)
       refine ⟨k, ⟨hk, hd, hnx (by cases hq : isd b x with | false => rfl | true => have := isd_iff.1 hq; omega)⟩, ?_⟩
       (repeat' (first | exact trivial | exact Wk.refl _ | exact ObWk.refl _ | exact rfl | exact ⟨_, rfl⟩ | exact Nat.zero_lt_one | refine And.intro ?_ ?_ | unfold okTo | (unfold okO; conv => whnf) | (unfold okS; conv => whnf) | (unfold SlotOk; conv => whnf) | (unfold ObjOk; conv => whnf) | (unfold okCells; conv => whnf) | (unfold liveTo; conv => whnf) | exact Nat.zero_lt_succ _))
     ·have hge : k = l.length := by have := of_decide_eq_false h; simp only [List.length_map] at this; omega
      (conv => whnf)
      refine ⟨k, ⟨hk, hd, fun c hc => by rw [hge, List.getElem?_eq_none (Nat.le_refl _)] at hc; simp at hc⟩, ?_⟩
      (repeat' (first | exact trivial | exact Wk.refl _ | exact ObWk.refl _ | exact rfl | exact ⟨_, rfl⟩ | exact Nat.zero_lt_one | refine And.intro ?_ ?_ | unfold okTo | (unfold okO; conv => whnf) | (unfold okS; conv => whnf) | (unfold SlotOk; conv => whnf) | (unfold ObjOk; conv => whnf) | (unfold okCells; conv => whnf) | (unfold liveTo; conv => whnf) | exact Nat.zero_lt_succ _))
   ·have pfa := pf_at hk hd hn
    have vl := val_lt hb2 (l.take k) (List.all_eq_true.1 hd)
    have pw := pow_le (b := b) (k := (l.take k).length) hb10 (by rw [List.length_take]; omega)
    have F := format_ (val b (l.take k)) b l.length hb (by omega) (by omega) (by omega)
    have hnone : fmt b l.length (val b (l.take k)) ≠ some l → pf b l = none := fun h => by
     cases hp : pf b l with
     | none => rfl
     | some n =>
      rw [pfa] at hp
      split at hp
      ·injection hp with hp; subst hp
       exact absurd ((pf_iff_fmt hb2 hb10).1 (by rw [pfa, if_pos (by assumption)])) h
      ·simp at hp
    (conv => whnf)
    rw [show ((l.map byteD).length : Int) = ((l.length : Nat) : Int) by rw [List.length_map]]
    refine CallLeaf.wa (F) rfl ?_
    (conv => whnf)
    refine split_intro (fun q1 => ?_) (fun q1 => ?_)
    ·obtain rfl : k = 0 := by have := eq_of_beq q1; omega
     have e : pf b l = none := by rw [pfa, if_neg (by simp)]
     rw [e]
     (conv => whnf)
     refine Wk.tuple (Wks.cons (Wk.refl _) (Wks.cons (Wk.refl _) Wks.nil))
    ·cases hf : fmt b l.length (val b (l.take k)) with
     | none =>
      rw [hnone (by rw [hf]; simp)]
      simp only [fmtR, hf]
      (conv => whnf)
      refine Wk.tuple (Wks.cons (Wk.refl _) (Wks.cons (Wk.refl _) Wks.nil))
     | some w =>
      simp only [fmtR, hf]
      (conv => whnf)
      refine CallLeaf.wa (O.same_ w l) rfl ?_
      (conv => whnf)
      cases he : decide (w = l) with
      | true =>
       have hw : w = l := of_decide_eq_true he
       rw [(pf_iff_fmt hb2 hb10).2 (by rw [hf, hw])]
       (conv => whnf)
       refine Wk.tuple (Wks.cons (Wk.refl _) (Wks.cons (Wk.refl _) Wks.nil))
      | false =>
       have hw : ¬ w = l := of_decide_eq_false he
       rw [hnone (by rw [hf]; simpa using hw)]
       (conv => whnf)
       refine Wk.tuple (Wks.cons (Wk.refl _) (Wks.cons (Wk.refl _) Wks.nil))
theorem number_ [Go.AL.MX] (b : Nat) (hb : b = 8 ∨ b = 10) (l : List UInt8) (bl : Bool) (hl : l.length ≤ 1000) : FCall Tryd.prog Gl 55 [LB l, vI b, vB bl] [] (.tuple [vI (numR b l bl).1, vB (numR b l bl).2]) [] := by
 refine FCall.enterL hT hmix [] Tryd.func55 rfl rfl rfl fun hbd => ?_
 (conv => whnf)
 cases bl with
 | true =>
  (conv => whnf)
  rw [show ((l.map byteD).length : Int) = ((l.length : Nat) : Int) by rw [List.length_map]]
  refine CallLeaf.wa (spaces_ l.length hl) rfl ?_
  (conv => whnf)
  refine CallLeaf.wa (O.same_ l (sp l.length)) rfl ?_
  (conv => whnf)
  exact Wk.tuple (Wks.cons (Wk.refl _) (Wks.cons (Wk.refl _) Wks.nil))
 | false =>
  (conv => whnf)
  refine CallLeaf.wa (rparse_ b hb l) rfl ?_
  (conv => whnf)
  exact Wk.tuple (Wks.cons (Wk.refl _) (Wks.cons (Wk.refl _) Wks.nil))
end Go.Proofs.YtimnnknfcfongaaDoor.H

namespace Go.Proofs
open Go.RowKit Go.Shelf
def YtimnnknfcfongaaDoor.lays137_ren : Go.Shelf.Ren := ⟨fun | 137 => 93 | 217 => 96 | 266 => 106 | n => n, fun | 9 => 9 | 5 => 5 | 3 => 3 | n => n, fun | n => n⟩
theorem YtimnnknfcfongaaDoor.lays137 : Go.Proofs.Lays.n137 Tryd.prog YtimnnknfcfongaaDoor.lays137_ren := {
 mixed := by kernel_rfl
 f137 := Tryd.func93.trans (congrArg some (by kernel_rfl))
 f217 := Tryd.func96.trans (congrArg some (by kernel_rfl))
 f266 := Tryd.func106.trans (congrArg some (by kernel_rfl))
 t3 := Tryd.underlying3
 a3 := Tryd.isAgg3
 z3 := Tryd.sizeOf3
 v3 := Tryd.zeroValue3
 t5 := Tryd.underlying5
 a5 := Tryd.isAgg5
 z5 := Tryd.sizeOf5
 v5 := Tryd.zeroValue5
 t9 := Tryd.underlying9
 a9 := Tryd.isAgg9
 z9 := Tryd.sizeOf9
 v9 := Tryd.zeroValue9 }
def YtimnnknfcfongaaDoor.lays162_ren : Go.Shelf.Ren := ⟨fun | 162 => 98 | 232 => 108 | 227 => 80 | 234 => 109 | 236 => 110 | 228 => 81 | 271 => 118 | 151 => 119 | 120 => 120 | 197 => 121 | 152 => 78 | 260 => 122 | 137 => 93 | 119 => 94 | 224 => 76 | 225 => 95 | 217 => 96 | 266 => 106 | n => n, fun | 9 => 9 | 4 => 4 | 3 => 3 | 5 => 5 | 117 => 117 | 116 => 116 | 0 => 0 | 124 => 134 | 21 => 21 | 105 => 152 | 46 => 113 | 119 => 157 | 139 => 160 | 138 => 159 | n => n, fun | 3 => 4 | 4 => 5 | n => n⟩
theorem YtimnnknfcfongaaDoor.lays162 : Go.Proofs.Lays.n162 Tryd.prog YtimnnknfcfongaaDoor.lays162_ren := {
 mixed := by kernel_rfl
 f119 := Tryd.func94.trans (congrArg some (by kernel_rfl))
 f120 := Tryd.func120.trans (congrArg some (by kernel_rfl))
 f137 := Tryd.func93.trans (congrArg some (by kernel_rfl))
 f151 := Tryd.func119.trans (congrArg some (by kernel_rfl))
 f152 := Tryd.func78.trans (congrArg some (by kernel_rfl))
 f162 := Tryd.func98.trans (congrArg some (by kernel_rfl))
 f197 := Tryd.func121.trans (congrArg some (by kernel_rfl))
 f217 := Tryd.func96.trans (congrArg some (by kernel_rfl))
 f224 := Tryd.func76.trans (congrArg some (by kernel_rfl))
 f225 := Tryd.func95.trans (congrArg some (by kernel_rfl))
 f227 := Tryd.func80.trans (congrArg some (by kernel_rfl))
 f228 := Tryd.func81.trans (congrArg some (by kernel_rfl))
 f232 := Tryd.func108.trans (congrArg some (by kernel_rfl))
 f234 := Tryd.func109.trans (congrArg some (by kernel_rfl))
 f236 := Tryd.func110.trans (congrArg some (by kernel_rfl))
 f260 := Tryd.func122.trans (congrArg some (by kernel_rfl))
 f266 := Tryd.func106.trans (congrArg some (by kernel_rfl))
 f271 := Tryd.func118.trans (congrArg some (by kernel_rfl))
 t0 := Tryd.underlying0
 a0 := Tryd.isAgg0
 z0 := Tryd.sizeOf0
 v0 := Tryd.zeroValue0
 t3 := Tryd.underlying3
 a3 := Tryd.isAgg3
 z3 := Tryd.sizeOf3
 v3 := Tryd.zeroValue3
 t4 := Tryd.underlying4
 a4 := Tryd.isAgg4
 z4 := Tryd.sizeOf4
 v4 := Tryd.zeroValue4
 t5 := Tryd.underlying5
 a5 := Tryd.isAgg5
 z5 := Tryd.sizeOf5
 v5 := Tryd.zeroValue5
 t9 := Tryd.underlying9
 a9 := Tryd.isAgg9
 z9 := Tryd.sizeOf9
 v9 := Tryd.zeroValue9
 t21 := Tryd.underlying21
 a21 := Tryd.isAgg21
 z21 := Tryd.sizeOf21
 v21 := Tryd.zeroValue21
 t46 := Tryd.underlying113
 a46 := Tryd.isAgg113
 z46 := Tryd.sizeOf113
 v46 := Tryd.zeroValue113
 t105 := Tryd.underlying152
 a105 := Tryd.isAgg152
 z105 := Tryd.sizeOf152
 v105 := Tryd.zeroValue152
 t116 := Tryd.underlying116
 a116 := Tryd.isAgg116
 z116 := Tryd.sizeOf116
 t117 := Tryd.underlying117
 a117 := Tryd.isAgg117
 z117 := Tryd.sizeOf117
 v117 := Tryd.zeroValue117
 t119 := Tryd.underlying157
 a119 := Tryd.isAgg157
 z119 := Tryd.sizeOf157
 t124 := Tryd.underlying134
 a124 := Tryd.isAgg134
 z124 := Tryd.sizeOf134
 v124 := Tryd.zeroValue134
 t138 := Tryd.underlying159
 a138 := Tryd.isAgg159
 z138 := Tryd.sizeOf159
 v138 := Tryd.zeroValue159
 t139 := Tryd.underlying160
 a139 := Tryd.isAgg160
 z139 := Tryd.sizeOf160
 v139 := Tryd.zeroValue160
 g3 := by kernel_rfl
 g4 := by kernel_rfl }
end Go.Proofs
namespace Go.Proofs.YtimnnknfcfongaaDoor.H
open Go Go.AL Go.AL.Hd
set_option maxRecDepth 100000
theorem isIndexByte : IsFn Tryd.prog 93 := ⟨_, Tryd.func93, by kernel_rfl, by kernel_rfl⟩
theorem isTrimRight : IsFn Tryd.prog 98 := ⟨_, Tryd.func98, by kernel_rfl, by kernel_rfl⟩
theorem ibyte_ [Go.AL.MX] (s : Str) (c : UInt8) : FCall Tryd.prog Gl 93 [sD s, .v (.int .u8 c.toNat)] [] (vI (Lib.indexByte s c)) [] :=
 FCall.val (xs := [.string (sB s), .int .u8 c.toNat]) isIndexByte fun w => (Any.strings_IndexByte YtimnnknfcfongaaDoor.lays137 (sB s) (c.toNat : Int) w).mono fun e w' ⟨he, hw⟩ => ⟨by rw [he]; simp [sB], hw ▸ RowKit.Below.refl _ _⟩
theorem trim_ [Go.AL.MX] (s : Str) (hs : s.length ≤ 9223372036854775807) : FCall Tryd.prog Gl 98 [sD s, sD [32]] [] (sD (trimR s)) [] :=
 FCall.val (xs := [.string (sB s), .string (sB [32])]) isTrimRight fun w => (Any.strings_TrimRight_one YtimnnknfcfongaaDoor.lays162 (sB s) 32 (by decide) w (by rw [sB_sz]; exact hs)).mono fun e w' ⟨he, hw⟩ => ⟨he, hw ▸ RowKit.Below.refl _ _⟩
end Go.Proofs.YtimnnknfcfongaaDoor.H

namespace Go.Proofs
open Go.RowKit Go.Shelf
def YtimnnknfcfongaaDoor.lays153_ren : Go.Shelf.Ren := ⟨fun | 153 => 61 | 152 => 78 | 226 => 79 | 227 => 80 | 228 => 81 | 137 => 93 | 119 => 94 | 224 => 76 | 225 => 95 | 217 => 96 | 266 => 106 | n => n, fun | 9 => 9 | 3 => 3 | 4 => 4 | 5 => 5 | 21 => 21 | 117 => 117 | 116 => 116 | 0 => 0 | 46 => 113 | 124 => 134 | n => n, fun | n => n⟩
theorem YtimnnknfcfongaaDoor.lays153 : Go.Proofs.Lays.n153 Tryd.prog YtimnnknfcfongaaDoor.lays153_ren := {
 mixed := by kernel_rfl
 f119 := Tryd.func94.trans (congrArg some (by kernel_rfl))
 f137 := Tryd.func93.trans (congrArg some (by kernel_rfl))
 f152 := Tryd.func78.trans (congrArg some (by kernel_rfl))
 f153 := Tryd.func61.trans (congrArg some (by kernel_rfl))
 f217 := Tryd.func96.trans (congrArg some (by kernel_rfl))
 f224 := Tryd.func76.trans (congrArg some (by kernel_rfl))
 f225 := Tryd.func95.trans (congrArg some (by kernel_rfl))
 f226 := Tryd.func79.trans (congrArg some (by kernel_rfl))
 f227 := Tryd.func80.trans (congrArg some (by kernel_rfl))
 f228 := Tryd.func81.trans (congrArg some (by kernel_rfl))
 f266 := Tryd.func106.trans (congrArg some (by kernel_rfl))
 t0 := Tryd.underlying0
 a0 := Tryd.isAgg0
 z0 := Tryd.sizeOf0
 v0 := Tryd.zeroValue0
 t3 := Tryd.underlying3
 a3 := Tryd.isAgg3
 z3 := Tryd.sizeOf3
 v3 := Tryd.zeroValue3
 t4 := Tryd.underlying4
 a4 := Tryd.isAgg4
 z4 := Tryd.sizeOf4
 v4 := Tryd.zeroValue4
 t5 := Tryd.underlying5
 a5 := Tryd.isAgg5
 z5 := Tryd.sizeOf5
 v5 := Tryd.zeroValue5
 t9 := Tryd.underlying9
 a9 := Tryd.isAgg9
 z9 := Tryd.sizeOf9
 v9 := Tryd.zeroValue9
 t21 := Tryd.underlying21
 a21 := Tryd.isAgg21
 z21 := Tryd.sizeOf21
 v21 := Tryd.zeroValue21
 t46 := Tryd.underlying113
 a46 := Tryd.isAgg113
 z46 := Tryd.sizeOf113
 v46 := Tryd.zeroValue113
 t116 := Tryd.underlying116
 a116 := Tryd.isAgg116
 z116 := Tryd.sizeOf116
 t117 := Tryd.underlying117
 a117 := Tryd.isAgg117
 z117 := Tryd.sizeOf117
 v117 := Tryd.zeroValue117
 t124 := Tryd.underlying134
 a124 := Tryd.isAgg134
 z124 := Tryd.sizeOf134
 v124 := Tryd.zeroValue134 }
end Go.Proofs
namespace Go.Proofs.YtimnnknfcfongaaDoor.H
open Go Go.AL Go.AL.Hd Go.AL.U8
set_option maxRecDepth 100000
set_option maxHeartbeats 4000000
abbrev vR (r : Int) : D := .v (.int .i32 r)
theorem vrune_ [Go.AL.MX] (r : Int) (hv : Utf8.valid r = true) : FCall Tryd.prog Gl 94 [vR r] [] (vB true) [] := by
 refine FCall.enterL hT hmix [] Tryd.func94 rfl rfl rfl fun hbd => ?_
 simp only [Utf8.valid, Bool.or_eq_true, Bool.and_eq_true, decide_eq_true_eq] at hv
 (conv => whnf)
 refine split_intro (fun h0 => ?_) (fun h0 => ?_)
 ·(conv => whnf)
  refine split_intro (fun h1 => ?_) (fun h1 => ?_)
  ·(conv => whnf)
   exact Wk.refl _
  ·have h1' := of_decide_eq_false h1
   (conv => whnf)
   refine split_intro (fun h2 => ?_) (fun h2 => ?_)
   ·(conv => whnf)
    refine split_intro (fun h3 => ?_) (fun h3 => ?_)
    ·(conv => whnf)
     exact Wk.refl _
    ·exfalso; have := of_decide_eq_false h3; omega
   ·exfalso; have := of_decide_eq_false h2; omega
 ·exfalso; have := of_decide_eq_false h0; omega
theorem enc_moreI {r : Int} (h : 128 ≤ r) (hv : Utf8.valid r = true) : ∃ m : List UInt8, Utf8.encode r = ⟨m.toArray⟩ ∧ 2 ≤ m.length ∧ m.length ≤ 4 ∧ ∀ x ∈ m, 128 ≤ x.toNat := by
 obtain ⟨n, rfl⟩ : ∃ n : Nat, r = n := ⟨r.toNat, by omega⟩
 exact enc_more (by omega) hv
theorem ext_drop (l : Str) (n : Nat) : (sB l).extract n (sB l).size = sB (l.drop n) := by
 apply ByteArray.ext
 apply Array.ext'
 simp only [sB, ByteArray.size, ByteArray.data_extract, Array.toList_extract, List.size_toArray, List.extract_eq_take_drop]
 exact List.take_of_length_le (by simp)
theorem irA_ [Go.AL.MX] (cs : Str) (c : UInt8) (hc : c.toNat < 128) : FCall Tryd.prog Gl 78 [sD cs, vR c.toNat] [] (vI (Lib.indexByte cs c)) [] := by
 refine FCall.enterL hT hmix [] Tryd.func78 rfl rfl rfl fun hbd => ?_
 (conv => whnf)
 refine split_intro (fun h1 => ?_) (fun h1 => ?_)
 ·(conv => whnf)
  refine ⟨_, wrapU8' (u := c) (by simp), ?_⟩
  (conv => whnf)
  refine CallLeaf.wa (ibyte_ cs c) rfl ?_
  (conv => whnf)
  exact Wk.refl _
 ·exfalso; have := of_decide_eq_false h1; omega
theorem irB_ [Go.AL.MX] (cs : Str) (h2 : 2 ≤ cs.length) (h3 : cs.length ≤ 3) (has : ∀ x ∈ cs, x.toNat < 128) (r : Int) (hr : 128 ≤ r) (hv : Utf8.valid r = true) : FCall Tryd.prog Gl 78 [sD cs, vR r] [] (vI (-1)) [] := by
 have hs := sB_sz cs
 have VR := vrune_ r hv
 refine FCall.enterL hT hmix [] Tryd.func78 rfl rfl rfl fun hbd => ?_
 (conv => whnf)
 refine split_intro (fun h0 => ?_) (fun h0 => ?_)
 ·(conv => whnf)
  refine split_intro (fun h1 => ?_) (fun h1 => ?_)
  ·exfalso; have := of_decide_eq_true h1; omega
  ·(conv => whnf)
   refine split_intro (fun q => ?_) (fun q => ?_)
   ·(conv => whnf)
    refine LWp.loop hT hmix [] (fun _ : Nat => []) (fun k => [(18952, .bag (Bag.siter (sB cs) k))]) (fun k => k ≤ cs.length) (fun k => cs.length - k) 0 (Nat.zero_le _) ?_
    (conv => whnf)
    refine ⟨?_, fun k hk => ?_⟩
    ·(repeat' (first | exact trivial | exact Wk.refl _ | exact ObWk.refl _ | exact rfl | exact ⟨_, rfl⟩ | exact Nat.zero_lt_one | refine And.intro ?_ ?_ | unfold okTo | (unfold okO; conv => whnf) | (unfold okS; conv => whnf) | (unfold SlotOk; conv => whnf) | (unfold ObjOk; conv => whnf) | (unfold okCells; conv => whnf) | (unfold liveTo; conv => whnf) | exact Nat.zero_lt_succ _))
    ·by_cases hlt : k < cs.length
     ·obtain ⟨x, hx⟩ : ∃ x, cs[k]? = some x := ⟨_, List.getElem?_eq_getElem hlt⟩
      have hx8 := has x (List.mem_of_getElem? hx)
      have ed : Utf8.decode (sB cs) k = (x.toNat, 1) := dec_ascii hx hx8
      (conv => whnf)
      refine ⟨sB cs, k, rfl, .inl ⟨by rw [hs]; exact hlt, ?_⟩⟩
      (conv => whnf)
      refine split_intro (fun q2 => ?_) (fun q2 => ?_)
      ·exfalso; rw [ed] at q2; have := eq_of_beq q2; simp only [] at this; omega
      ·(conv => whnf)
       refine ⟨k + 1, ⟨by omega, by simp only []; omega⟩, ?_⟩
       (repeat' (first | exact trivial | exact Wk.refl _ | exact ObWk.refl _ | exact rfl | exact ⟨_, rfl⟩ | exact Nat.zero_lt_one | refine And.intro ?_ ?_ | unfold okTo | (unfold okO; conv => whnf) | (unfold okS; conv => whnf) | (unfold SlotOk; conv => whnf) | (unfold ObjOk; conv => whnf) | (unfold okCells; conv => whnf) | (unfold liveTo; conv => whnf) | exact Nat.zero_lt_succ _))
       exact ObWk.of_eq (by rw [ed])
     ·(conv => whnf)
      refine ⟨sB cs, k, rfl, .inr ⟨by rw [hs]; exact hlt, ?_⟩⟩
      (conv => whnf)
      exact Wk.refl _
   ·obtain ⟨m, em, m2, m4, mh⟩ := enc_moreI hr hv
    have hms := sB_sz m
    (conv => whnf)
    refine CallLeaf.wa (VR) rfl ?_
    (conv => whnf)
    refine LWp.scope hT hmix [] ?_
    (conv => whnf)
    refine ⟨sB m, em, ?_⟩
    (conv => whnf)
    refine ⟨_, sub64 (c := ((m.length - 1 : Nat) : Int)) (by rw [hms]; omega) (by omega), ?_⟩
    (conv => whnf)
    refine LWp.loop hT hmix [] (fun _ : Unit => [(9, vI (m.length - 1 : Nat))]) (fun _ => []) (fun _ => True) (fun _ => 0) () trivial ?_
    (conv => whnf)
    refine ⟨?_, fun _ _ => ?_⟩
    ·(repeat' (first | exact trivial | exact Wk.refl _ | exact ObWk.refl _ | exact rfl | exact ⟨_, rfl⟩ | exact Nat.zero_lt_one | refine And.intro ?_ ?_ | unfold okTo | (unfold okO; conv => whnf) | (unfold okS; conv => whnf) | (unfold SlotOk; conv => whnf) | (unfold ObjOk; conv => whnf) | (unfold okCells; conv => whnf) | (unfold liveTo; conv => whnf) | exact Nat.zero_lt_succ _))
    ·(conv => whnf)
     refine split_intro (fun g => ?_) (fun g => ?_)
     ·have hlt : m.length - 1 < cs.length := by have := of_decide_eq_true g; rw [hs] at this; omega
      obtain ⟨x, hx⟩ : ∃ x, cs[m.length - 1]? = some x := ⟨_, List.getElem?_eq_getElem hlt⟩
      obtain ⟨y, hy⟩ : ∃ y, m[m.length - 1]? = some y := ⟨_, List.getElem?_eq_getElem (by omega)⟩
      have hx8 := has x (List.mem_of_getElem? hx)
      have hy8 := mh y (List.mem_of_getElem? hy)
      (conv => whnf)
      refine LWp.scope hT hmix [] ?_
      (conv => whnf)
      refine ⟨x, ⟨by omega, by rw [Int.toNat_natCast]; exact hx⟩, ?_⟩
      (conv => whnf)
      refine ⟨y, ⟨by omega, by rw [Int.toNat_natCast]; exact hy⟩, ?_⟩
      (conv => whnf)
      refine split_intro (fun g2 => ?_) (fun g2 => ?_)
      ·(conv => whnf)
       refine ⟨_, add64 (c := ((m.length : Nat) : Int)) (by omega) (by omega), ?_⟩
       (conv => whnf)
       refine ⟨sB (cs.drop m.length), ⟨by omega, by rw [hs]; omega, Int.le_refl _, by rw [Int.toNat_natCast, Int.toNat_natCast]; exact ext_drop cs m.length⟩, ?_⟩
       (conv => whnf)
       refine ⟨y, ⟨by omega, by rw [Int.toNat_natCast]; exact hy⟩, ?_⟩
       (conv => whnf)
       have IB := ibyte_ (cs.drop m.length) y
       rw [ibyte_none (l := cs.drop m.length) (c := y) (fun z hz e => by have := has z (List.mem_of_mem_drop hz); rw [e] at this; omega)] at IB
       refine CallLeaf.wa (IB) rfl ?_
       (conv => whnf)
       exact Wk.refl _
      ·exfalso
       have : x = y := O.u8_eq g2
       rw [this] at hx8; omega
     ·(conv => whnf)
      exact Wk.refl _
 ·exfalso; have := of_decide_eq_false h0; omega
theorem should_ [Go.AL.MX] (n : Int) : FCall Tryd.prog Gl 79 [vI n] [] (vB (decide (8 < n))) [] := by
 refine FCall.enterL hT hmix [] Tryd.func79 rfl rfl rfl fun hbd => ?_
 (conv => whnf)
 exact Wk.refl _
theorem not_in {cs : Str} (has : ∀ x ∈ cs, x.toNat < 128) {x : UInt8} (h : 128 ≤ x.toNat) : cs.contains x = false := by
 cases hq : cs.contains x with
 | false => rfl
 | true => have := has x (by simpa using hq); omega
theorem ianyS_ [Go.AL.MX] (s cs : Str) (h8 : s.length ≤ 8) (h2 : 2 ≤ cs.length) (h3 : cs.length ≤ 3) (has : ∀ x ∈ cs, x.toNat < 128) : FCall Tryd.prog Gl 61 [sD s, sD cs] [] (vI (Lib.indexAny s cs)) [] := by
 have hs := sB_sz s
 have hc := sB_sz cs
 refine FCall.enterL hT hmix [] Tryd.func61 rfl rfl rfl fun hbd => ?_
 (conv => whnf)
 refine split_intro (fun q0 => ?_) (fun q0 => ?_)
 ·exfalso
  have : cs = [] := by
   exact of_decide_eq_true q0
  subst this; simp at h2
 ·(conv => whnf)
  refine split_intro (fun q1 => ?_) (fun q1 => ?_)
  ·exfalso; have := eq_of_beq q1; omega
  ·(conv => whnf)
   refine CallLeaf.wa (should_ ((sB s).size : Int)) rfl ?_
   (conv => whnf)
   refine split_intro (fun q2 => ?_) (fun q2 => ?_)
   ·exfalso; have := of_decide_eq_true q2; omega
   ·(conv => whnf)
    refine LWp.loop hT hmix [] (fun _ : Nat => []) (fun k => [(8712, .bag (Bag.siter (sB s) k))]) (fun k => k ≤ s.length ∧ Lib.NoAny s cs k) (fun k => s.length - k) 0 ⟨Nat.zero_le _, fun j b hj => absurd hj (by omega)⟩ ?_
    (conv => whnf)
    refine ⟨?_, fun k ⟨hk, hn⟩ => ?_⟩
    ·(repeat' (first | exact trivial | exact Wk.refl _ | exact ObWk.refl _ | exact rfl | exact ⟨_, rfl⟩ | exact Nat.zero_lt_one | refine And.intro ?_ ?_ | unfold okTo | (unfold okO; conv => whnf) | (unfold okS; conv => whnf) | (unfold SlotOk; conv => whnf) | (unfold ObjOk; conv => whnf) | (unfold okCells; conv => whnf) | (unfold liveTo; conv => whnf) | exact Nat.zero_lt_succ _))
    ·by_cases hlt : k < s.length
     ·obtain ⟨x, hx⟩ : ∃ x, s[k]? = some x := ⟨_, List.getElem?_eq_getElem hlt⟩
      by_cases hx8 : x.toNat < 128
      ·have ed : Utf8.decode (sB s) k = (x.toNat, 1) := dec_ascii hx hx8
       have IR := irA_ cs x hx8
       by_cases hin : x ∈ cs
       ·have hi := ibyte_some hin
        rw [Lib.indexAny_hit hn hx (by simpa using hin)]
        revert IR hi
        generalize Lib.indexByte cs x = v
        intro IR hi
        (conv => whnf)
        refine ⟨sB s, k, rfl, .inl ⟨by rw [hs]; exact hlt, ?_⟩⟩
        (conv => whnf)
        rw [show ((Utf8.decode (sB s) k).1 : Int) = ((x.toNat : Nat) : Int) by rw [ed]]
        refine CallLeaf.wa (IR) rfl ?_
        (conv => whnf)
        refine split_intro (fun q3 => ?_) (fun q3 => ?_)
        ·(conv => whnf)
         exact Wk.refl _
        ·exfalso; have := of_decide_eq_false q3; omega
       ·rw [ibyte_none (l := cs) (c := x) (fun z hz e => hin (e ▸ hz))] at IR
        (conv => whnf)
        refine ⟨sB s, k, rfl, .inl ⟨by rw [hs]; exact hlt, ?_⟩⟩
        (conv => whnf)
        rw [show ((Utf8.decode (sB s) k).1 : Int) = ((x.toNat : Nat) : Int) by rw [ed]]
        refine CallLeaf.wa (IR) rfl ?_
        (conv => whnf)
        refine ⟨k + 1, ⟨⟨by omega, fun j b hj hb => ?_⟩, by simp only []; omega⟩, ?_⟩
        ·rcases Nat.lt_or_ge j k with h | h
         ·exact hn j b h hb
         ·obtain rfl : j = k := by omega
          rw [hx] at hb; injection hb with hb; subst hb
          simpa using hin
        ·(repeat' (first | exact trivial | exact Wk.refl _ | exact ObWk.refl _ | exact rfl | exact ⟨_, rfl⟩ | exact Nat.zero_lt_one | refine And.intro ?_ ?_ | unfold okTo | (unfold okO; conv => whnf) | (unfold okS; conv => whnf) | (unfold SlotOk; conv => whnf) | (unfold ObjOk; conv => whnf) | (unfold okCells; conv => whnf) | (unfold liveTo; conv => whnf) | exact Nat.zero_lt_succ _))
         exact ObWk.of_eq (by rw [ed])
      ·obtain ⟨d1, d2, d3, d4⟩ := dec_more hx (by omega)
       have d5 := d4 ((Utf8.decode (sB s) k).2 - 1) (by show (Utf8.decode (sB s) k).2 - 1 < (Utf8.decode (sB s) k).2; have : 1 ≤ (Utf8.decode (sB s) k).2 := d3; omega)
       have d3' : 1 ≤ (Utf8.decode (sB s) k).2 := d3
       have IR := irB_ cs h2 h3 has ((Utf8.decode (sB s) k).1 : Nat) (by have : 128 ≤ (Utf8.decode (sB s) k).1 := d1; omega) d2
       (conv => whnf)
       refine ⟨sB s, k, rfl, .inl ⟨by rw [hs]; exact hlt, ?_⟩⟩
       (conv => whnf)
       refine CallLeaf.wa (IR) rfl ?_
       (conv => whnf)
       refine ⟨k + (Utf8.decode (sB s) k).2, ⟨⟨by have := d5.1; omega, fun j b hj hb => ?_⟩, by simp only []; omega⟩, ?_⟩
       ·rcases Nat.lt_or_ge j k with h | h
        ·exact hn j b h hb
        ·obtain ⟨i, rfl⟩ : ∃ i, j = k + i := ⟨j - k, by omega⟩
         have := (d4 i (by show i < (Utf8.decode (sB s) k).2; omega)).2
         rw [List.getD_eq_getElem?_getD, hb] at this
         exact not_in has (by simpa using this)
       ·(repeat' (first | exact trivial | exact Wk.refl _ | exact ObWk.refl _ | exact rfl | exact ⟨_, rfl⟩ | exact Nat.zero_lt_one | refine And.intro ?_ ?_ | unfold okTo | (unfold okO; conv => whnf) | (unfold okS; conv => whnf) | (unfold SlotOk; conv => whnf) | (unfold ObjOk; conv => whnf) | (unfold okCells; conv => whnf) | (unfold liveTo; conv => whnf) | exact Nat.zero_lt_succ _))
     ·obtain rfl : k = s.length := by omega
      rw [Lib.indexAny_none hn]
      (conv => whnf)
      refine ⟨sB s, s.length, rfl, .inr ⟨by rw [hs]; exact hlt, ?_⟩⟩
      (conv => whnf)
      exact Wk.refl _
theorem isIndexAny : IsFn Tryd.prog 61 := ⟨_, Tryd.func61, by kernel_rfl, by kernel_rfl⟩
theorem ianyL_ [Go.AL.MX] (s cs : Str) (h8 : 8 < s.length) (hl : s.length < 4294967281) (h2 : 2 ≤ cs.length) (h3 : cs.length ≤ 3) (has : ∀ x ∈ cs, x.toNat < 128) : FCall Tryd.prog Gl 61 [sD s, sD cs] [] (vI (Lib.indexAny s cs)) [] :=
 FCall.val (xs := [.string (sB s), .string (sB cs)]) isIndexAny fun w =>
  (Any.strings_IndexAny_long YtimnnknfcfongaaDoor.lays153 Tryd.zeroValue116 (by kernel_rfl) (sB s) (sB cs) w (by rw [sB_sz]; exact h2) (by rw [sB_sz]; exact h8) (by rw [sB_sz]; exact hl) (by rw [sB_sz]; omega)
   (fun j b hb => has b (List.mem_of_getElem? (l := cs) hb))).mono fun e w' ⟨he, hw⟩ => ⟨he, by
    subst hw
    exact (((RowKit.Below.refl _ w).alloc (Nat.le_refl _) _).alloc (by simp) _)⟩
theorem iany_ [Go.AL.MX] (s cs : Str) (hl : s.length < 4294967281) (h2 : 2 ≤ cs.length) (h3 : cs.length ≤ 3) (has : ∀ x ∈ cs, x.toNat < 128) : FCall Tryd.prog Gl 61 [sD s, sD cs] [] (vI (Lib.indexAny s cs)) [] := by
 rcases Nat.lt_or_ge 8 s.length with h | h
 ·exact ianyL_ s cs h hl h2 h3 has
 ·exact ianyS_ s cs h h2 h3 has
theorem cany_ [Go.AL.MX] (s cs : Str) (hl : s.length < 4294967281) (h2 : 2 ≤ cs.length) (h3 : cs.length ≤ 3) (has : ∀ x ∈ cs, x.toNat < 128) : FCall Tryd.prog Gl 44 [sD s, sD cs] [] (vB (Lib.containsAny s cs)) [] := by
 have I := iany_ s cs hl h2 h3 has
 refine FCall.enterL hT hmix [] Tryd.func44 rfl rfl rfl fun hbd => ?_
 (conv => whnf)
 refine CallLeaf.wa (I) rfl ?_
 (conv => whnf)
 exact Wk.refl _
theorem cany_any (s cs : Str) : Lib.containsAny s cs = s.any fun x => cs.contains x := by
 induction s with
 | nil => rfl
 | cons b l ih =>
  unfold Lib.containsAny at ih ⊢
  have hg := Lib.indexAny_ge cs l
  rw [List.any_cons, ← ih, Lib.indexAny]
  by_cases h : cs.contains b = true
  ·simp only [h, if_true]; rfl
  ·simp only [h, if_false, Bool.false_or]
   by_cases h1 : Lib.indexAny l cs = -1
   ·simp [h1]
   ·have h2 : ¬ (Lib.indexAny l cs == -1) = true := by simpa using h1
    rw [if_neg h2]
    apply decide_eq_decide.2
    constructor <;> intro <;> omega
theorem cany2_ [Go.AL.MX] (s : Str) (hl : s.length < 4294967281) : FCall Tryd.prog Gl 44 [sD s, sD [10, 0]] [] (vB (s.any bad2)) [] := by
 have := cany_ s [10, 0] hl (by decide) (by decide) (by decide)
 rw [cany_any] at this
 rwa [show (fun x => ([10, 0] : Str).contains x) = bad2 from funext fun x => by rw [Bool.eq_iff_iff, List.contains_iff_mem]; simp only [List.mem_cons, List.not_mem_nil, or_false, bad2, Bool.or_eq_true, decide_eq_true_eq]] at this
theorem cany3_ [Go.AL.MX] (s : Str) (hl : s.length < 4294967281) : FCall Tryd.prog Gl 44 [sD s, sD [47, 10, 0]] [] (vB (s.any bad3)) [] := by
 have := cany_ s [47, 10, 0] hl (by decide) (by decide) (by decide)
 rw [cany_any] at this
 rwa [show (fun x => ([47, 10, 0] : Str).contains x) = bad3 from funext fun x => by rw [Bool.eq_iff_iff, List.contains_iff_mem]; simp only [List.mem_cons, List.not_mem_nil, or_false, bad3, Bool.or_eq_true, decide_eq_true_eq]] at this
end Go.Proofs.YtimnnknfcfongaaDoor.H
