/- The library: searching, cutting. No condition. -/
import Derived.Test.YtimnnknfcfongaaDoorAWa
import Derived.Test.YtimnnknfcfongaaDoorAAd
import Derived.Test.YtimnnknfcfongaaDoorAPa
import Derived.Shelf.Bytes.SlIndexWhole
import Derived.Shelf.Strings.Search3
import Derived.Test.YtimnnknfcfongaaDoorAAc
set_option linter.unusedVariables false
set_option linter.unusedSimpArgs false
namespace Go.Proofs
open Go.RowKit Go.Shelf
def YtimnnknfcfongaaDoor.lays185_ren : Go.Shelf.Ren := ⟨fun | 185 => 60 | 187 => 73 | 115 => 74 | 253 => 75 | 224 => 76 | 254 => 77 | 255 => 91 | 291 => 92 | n => n, fun | 37 => 23 | 3 => 3 | 4 => 4 | 0 => 0 | 5 => 5 | 46 => 113 | 9 => 9 | 146 => 130 | 51 => 129 | n => n, fun | 1 => 0 | n => n⟩
theorem YtimnnknfcfongaaDoor.lays185 : Go.Proofs.Lays.n185 Tryd.prog YtimnnknfcfongaaDoor.lays185_ren := {
 mixed := by kernel_rfl
 f115 := Tryd.func74.trans (congrArg some (by kernel_rfl))
 f185 := Tryd.func60.trans (congrArg some (by kernel_rfl))
 f187 := Tryd.func73.trans (congrArg some (by kernel_rfl))
 f224 := Tryd.func76.trans (congrArg some (by kernel_rfl))
 f253 := Tryd.func75.trans (congrArg some (by kernel_rfl))
 f254 := Tryd.func77.trans (congrArg some (by kernel_rfl))
 f255 := Tryd.func91.trans (congrArg some (by kernel_rfl))
 f291 := Tryd.func92.trans (congrArg some (by kernel_rfl))
 t0 := Tryd.underlying0
 a0 := Tryd.isAgg0
 z0 := Tryd.sizeOf0
 v0 := Tryd.zeroValue0
 t3 := Tryd.underlying3
 a3 := Tryd.isAgg3
 z3 := Tryd.sizeOf3
 v3 := Tryd.zeroValue3
 t4 := Tryd.underlying4
 a4 := Tryd.isAgg4
 z4 := Tryd.sizeOf4
 v4 := Tryd.zeroValue4
 t5 := Tryd.underlying5
 a5 := Tryd.isAgg5
 z5 := Tryd.sizeOf5
 v5 := Tryd.zeroValue5
 t9 := Tryd.underlying9
 a9 := Tryd.isAgg9
 z9 := Tryd.sizeOf9
 v9 := Tryd.zeroValue9
 t37 := Tryd.underlying23
 a37 := Tryd.isAgg23
 z37 := Tryd.sizeOf23
 v37 := Tryd.zeroValue23
 t46 := Tryd.underlying113
 a46 := Tryd.isAgg113
 z46 := Tryd.sizeOf113
 v46 := Tryd.zeroValue113
 t51 := Tryd.underlying129
 a51 := Tryd.isAgg129
 z51 := Tryd.sizeOf129
 v51 := Tryd.zeroValue129
 t146 := Tryd.underlying130
 a146 := Tryd.isAgg130
 z146 := Tryd.sizeOf130
 v146 := Tryd.zeroValue130
 g1 := by kernel_rfl }
def YtimnnknfcfongaaDoor.lays144_ren : Go.Shelf.Ren := ⟨fun | 144 => 47 | 143 => 64 | 219 => 83 | 217 => 96 | 225 => 95 | 224 => 76 | 267 => 97 | 266 => 106 | 314 => 107 | n => n, fun | 9 => 9 | 4 => 4 | 3 => 3 | 5 => 5 | 46 => 113 | 146 => 130 | 51 => 129 | n => n, fun | 1 => 0 | n => n⟩
theorem YtimnnknfcfongaaDoor.lays144 : Go.Proofs.Lays.n144 Tryd.prog YtimnnknfcfongaaDoor.lays144_ren := {
 mixed := by kernel_rfl
 f143 := Tryd.func64.trans (congrArg some (by kernel_rfl))
 f144 := Tryd.func47.trans (congrArg some (by kernel_rfl))
 f217 := Tryd.func96.trans (congrArg some (by kernel_rfl))
 f219 := Tryd.func83.trans (congrArg some (by kernel_rfl))
 f224 := Tryd.func76.trans (congrArg some (by kernel_rfl))
 f225 := Tryd.func95.trans (congrArg some (by kernel_rfl))
 f266 := Tryd.func106.trans (congrArg some (by kernel_rfl))
 f267 := Tryd.func97.trans (congrArg some (by kernel_rfl))
 f314 := Tryd.func107.trans (congrArg some (by kernel_rfl))
 t3 := Tryd.underlying3
 a3 := Tryd.isAgg3
 z3 := Tryd.sizeOf3
 v3 := Tryd.zeroValue3
 t4 := Tryd.underlying4
 a4 := Tryd.isAgg4
 z4 := Tryd.sizeOf4
 v4 := Tryd.zeroValue4
 t5 := Tryd.underlying5
 a5 := Tryd.isAgg5
 z5 := Tryd.sizeOf5
 v5 := Tryd.zeroValue5
 t9 := Tryd.underlying9
 a9 := Tryd.isAgg9
 z9 := Tryd.sizeOf9
 v9 := Tryd.zeroValue9
 t46 := Tryd.underlying113
 a46 := Tryd.isAgg113
 z46 := Tryd.sizeOf113
 v46 := Tryd.zeroValue113
 t51 := Tryd.underlying129
 a51 := Tryd.isAgg129
 z51 := Tryd.sizeOf129
 v51 := Tryd.zeroValue129
 t146 := Tryd.underlying130
 a146 := Tryd.isAgg130
 z146 := Tryd.sizeOf130
 v146 := Tryd.zeroValue130
 g1 := by kernel_rfl }
end Go.Proofs
namespace Go.Proofs.YtimnnknfcfongaaDoor.H
open Go Go.AL Go.AL.Hd Go.AL.Ln Go.AL.U8
set_option maxRecDepth 100000
theorem isBIndex : IsFn Tryd.prog 60 := ⟨_, Tryd.func60, by kernel_rfl, by kernel_rfl⟩
theorem isContains : IsFn Tryd.prog 47 := ⟨_, Tryd.func47, by kernel_rfl, by kernel_rfl⟩
theorem bytes_toBytes (l : Str) : Lib.bytesOf (l.map fun x => (x.toNat : Int)) = l := by
 unfold Lib.bytesOf
 rw [List.map_map]
 conv => rhs; rw [← List.map_id l]
 refine List.map_congr_left fun x _ => ?_
 simp
theorem bindex_ [Go.AL.MX] (l : Str) (t1 t2 : Tg) (hl : l.length < 4294967281) : FCall Tryd.prog Gl 60 [.list t1 (l.map byteD), .list t2 (([47, 10] : Str).map byteD)] [] (vI (cutI l)) [] := by
 rw [← index_cutI]
 refine FCall.below isBIndex fun E w vs C hv => ?_
 obtain ⟨v1, r, rfl, h1, g2⟩ := VRs_cons_inv hv
 obtain ⟨v2, r, rfl, h2, h3⟩ := VRs_cons_inv g2
 obtain rfl := VRs_nil.1 h3
 obtain ⟨A1, c1, rfl, hc1, hb1, hn1, hz1, hx1⟩ := h1.bytes
 obtain ⟨A2, c2, rfl, hc2, hb2, hn2, hz2, hx2⟩ := h2.bytes
 have hm := (C.glob 0).cell (x := .int .i64 MX.val) (r := []) rfl
 obtain ⟨a2, rfl⟩ : ∃ a, A2 = some a := by
  cases A2 with
  | none => simp at hn2
  | some a => exact ⟨a, rfl⟩
 have hr : ∀ (l : Str), ∀ x ∈ l.map (fun x => (x.toNat : Int)), 0 ≤ x ∧ x < 256 := fun l x hx => by
  obtain ⟨y, _, rfl⟩ := List.mem_map.1 hx
  have := y.toNat_lt
  omega
 cases A1 with
 | some a1 =>
  refine (Any.bytes_Index_at YtimnnknfcfongaaDoor.lays185 a1 a2 l.length c1 2 c2 (l.map fun x => (x.toNat : Int)) (([47, 10] : Str).map fun x => (x.toNat : Int)) MX.val w (by simp) (by simp) (hr l) (hr _) (fun i hi => hx1 a1 rfl i hi) (fun i hi => hx2 a2 rfl i (by simpa using hi)) hc1 hl (by omega) hm).mono fun e w' ⟨he, q, hw⟩ => ⟨_, he, fun E' => ?_, hw ▸ below_drewN w q⟩
  rw [bytes_toBytes, bytes_toBytes]
  exact .v _
 | none =>
  obtain rfl := hn1 rfl
  obtain rfl : c1 = 0 := hz1 rfl
  refine (Any.bytes_Index_nil YtimnnknfcfongaaDoor.lays185 (some a2) 2 c2 w (by omega) (fun h => by omega)).mono fun e w' ⟨he, hw⟩ => ⟨_, he, fun E' => ?_, hw ▸ RowKit.Below.refl _ _⟩
  exact .v _
theorem contains_ [Go.AL.MX] (s : Str) (hs : s.length < 4294967281) : FCall Tryd.prog Gl 47 [sD s, sD [32]] [] (vB (s.contains 32)) [] :=
 FCall.val (xs := [.string (sB s), .string (sB [32])]) isContains fun w => (Any.strings_Contains_one YtimnnknfcfongaaDoor.lays144 (sB s) 32 w).mono fun e w' ⟨he, hw⟩ => ⟨by
  rw [he]
  congr 2
  show decide (0 ≤ Lib.indexByte s 32) = s.contains 32
  cases h : s.contains 32 with
  | true => exact decide_eq_true (ibyte_some (by simpa using h))
  | false => exact decide_eq_false (by rw [ibyte_none (fun x hx e => by subst e; rw [List.contains_iff_mem.2 hx] at h; simp at h)]; omega), hw ▸ RowKit.Below.refl _ _⟩
end Go.Proofs.YtimnnknfcfongaaDoor.H

namespace Go.Proofs.YtimnnknfcfongaaDoor.H
open Go Go.AL Go.AL.Hd
set_option maxRecDepth 100000
set_option maxHeartbeats 8000000
theorem rhdecode_ [Go.AL.MX] (l : List UInt8) : FCall Tryd.prog Gl 38 [LB l] [] (.tuple [.agg (decR l).1.enc, vI (decR l).2]) [] := by
 refine FCall.enterL hT hmix [6] Tryd.func38 rfl rfl rfl fun hbd => ?_
 have ha := bds_list hbd (.head _)
 (conv => whnf)
 refine split_intro (fun g1 => ?_) (fun g1 => ?_)
 ·have e : decR l = (hdr0, 2) := by have := of_decide_eq_true g1; simp only [List.length_map] at this; unfold decR; rw [if_pos (by omega)]
  rw [e]
  (conv => whnf)
  refine Wk.tuple (Wks.cons (Wk.refl _) (Wks.cons (Wk.refl _) Wks.nil))
 ·have g1' := of_decide_eq_false g1
  simp only [List.length_map] at g1'
  obtain ⟨x, hx⟩ : ∃ x, l[58]? = some x := ⟨_, List.getElem?_eq_getElem (show 58 < l.length by omega)⟩
  obtain ⟨y, hy⟩ : ∃ y, l[59]? = some y := ⟨_, List.getElem?_eq_getElem (show 59 < l.length by omega)⟩
  (conv => whnf)
  refine ⟨_, ⟨by omega, getMap hx⟩, ?_⟩
  (conv => whnf)
  refine split_intro (fun g2 => ?_) (fun g2 => ?_)
  ·have hx2 : x ≠ 96 := by intro e; subst e; simp at g2
   have e : decR l = (hdr0, 4) := by unfold decR; rw [if_neg (by omega), if_neg (by rw [hx]; simp [hx2])]
   rw [e]
   (conv => whnf)
   refine Wk.tuple (Wks.cons (Wk.refl _) (Wks.cons (Wk.refl _) Wks.nil))
  ·obtain rfl : x = 96 := O.u8_eq (y := 96) g2
   (conv => whnf)
   refine ⟨_, ⟨by omega, getMap hy⟩, ?_⟩
   (conv => whnf)
   refine split_intro (fun g3 => ?_) (fun g3 => ?_)
   ·have hx2 : y ≠ 10 := by intro e; subst e; simp at g3
    have e : decR l = (hdr0, 4) := by unfold decR; rw [if_neg (by omega), if_neg (by rw [hy]; simp [hx2])]
    rw [e]
    (conv => whnf)
    refine Wk.tuple (Wks.cons (Wk.refl _) (Wks.cons (Wk.refl _) Wks.nil))
   ·obtain rfl : y = 10 := O.u8_eq (y := 10) g3
    (conv => whnf)
    refine LWp.cut hT hmix [] [] (fun n : Nat => [(4, vI n)]) (fun _ => []) [] (fun n => n ≤ 16 ∧ trimR (l.take 16) = l.take n) ?_
    (conv => whnf)
    refine ⟨?_, fun n ⟨hn, ht⟩ => ?_⟩
    ·refine LWp.loop hT hmix [] (fun n : Nat => [(4, vI n)]) (fun _ => []) (fun n => n ≤ 16 ∧ ((l.take 16).drop n).all (· == 32) = true) (fun n => n) 16 ⟨Nat.le_refl _, by rw [List.drop_of_length_le (by rw [List.length_take]; omega)]; rfl⟩ ?_
     (conv => whnf)
     refine ⟨?_, fun n ⟨hn, hd⟩ => ?_⟩
     ·(repeat' (first | exact trivial | exact Wk.refl _ | exact ObWk.refl _ | exact rfl | exact ⟨_, rfl⟩ | exact Nat.zero_lt_one | refine And.intro ?_ ?_ | unfold okTo | (unfold okO; conv => whnf) | (unfold okS; conv => whnf) | (unfold SlotOk; conv => whnf) | (unfold ObjOk; conv => whnf) | (unfold okCells; conv => whnf) | (unfold liveTo; conv => whnf) | exact Nat.zero_lt_succ _))
     ·(conv => whnf)
      refine split_intro (fun h1 => ?_) (fun h1 => ?_)
      ·have hpos : 0 < n := by have := of_decide_eq_true h1; omega
       obtain ⟨z, hz⟩ : ∃ z, l[n - 1]? = some z := ⟨_, List.getElem?_eq_getElem (show n - 1 < l.length by omega)⟩
       (conv => whnf)
       refine ⟨_, sub64 (c := ((n - 1 : Nat) : Int)) (by omega) (by omega), ?_⟩
       (conv => whnf)
       refine ⟨_, ⟨by omega, getMap hz⟩, ?_⟩
       (conv => whnf)
       refine split_intro (fun h2 => ?_) (fun h2 => ?_)
       ·obtain rfl : z = 32 := byte_eq (c := 32) h2
        (conv => whnf)
        refine ⟨_, sub64 (c := ((n - 1 : Nat) : Int)) (by omega) (by omega), ?_⟩
        (conv => whnf)
        refine ⟨n - 1, ⟨⟨by omega, ?_⟩, by simp only []; omega⟩, ?_⟩
        ·have hz' : (l.take 16)[n - 1]? = some 32 := by rw [List.getElem?_take, if_pos (by omega)]; exact hz
         obtain ⟨hq1, hq2⟩ := List.getElem?_eq_some_iff.1 hz'
         rw [List.drop_eq_getElem_cons hq1, hq2, show n - 1 + 1 = n by omega, List.all_cons, hd]; rfl
        ·(repeat' (first | exact trivial | exact Wk.refl _ | exact ObWk.refl _ | exact rfl | exact ⟨_, rfl⟩ | exact Nat.zero_lt_one | refine And.intro ?_ ?_ | unfold okTo | (unfold okO; conv => whnf) | (unfold okS; conv => whnf) | (unfold SlotOk; conv => whnf) | (unfold ObjOk; conv => whnf) | (unfold okCells; conv => whnf) | (unfold liveTo; conv => whnf) | exact Nat.zero_lt_succ _))
       ·have hz2 : ¬ z = 32 := byte_ne (c := 32) h2
        (conv => whnf)
        refine ⟨n, ⟨hn, ?_⟩, ?_⟩
        ·rw [trimR_at (n := n) (by rw [List.length_take]; omega) hd (.inr (by rw [List.getElem?_take, if_pos (by omega), hz]; simpa using hz2)), List.take_take, Nat.min_eq_left hn]
        ·(repeat' (first | exact trivial | exact Wk.refl _ | exact ObWk.refl _ | exact rfl | exact ⟨_, rfl⟩ | exact Nat.zero_lt_one | refine And.intro ?_ ?_ | unfold okTo | (unfold okO; conv => whnf) | (unfold okS; conv => whnf) | (unfold SlotOk; conv => whnf) | (unfold ObjOk; conv => whnf) | (unfold okCells; conv => whnf) | (unfold liveTo; conv => whnf) | exact Nat.zero_lt_succ _))
      ·obtain rfl : n = 0 := by have := of_decide_eq_false h1; omega
       (conv => whnf)
       refine ⟨0, ⟨by omega, ?_⟩, ?_⟩
       ·rw [trimR_at (n := 0) (Nat.zero_le _) hd (.inl rfl), List.take_zero, List.take_zero]
       ·(repeat' (first | exact trivial | exact Wk.refl _ | exact ObWk.refl _ | exact rfl | exact ⟨_, rfl⟩ | exact Nat.zero_lt_one | refine And.intro ?_ ?_ | unfold okTo | (unfold okO; conv => whnf) | (unfold okS; conv => whnf) | (unfold SlotOk; conv => whnf) | (unfold ObjOk; conv => whnf) | (unfold okCells; conv => whnf) | (unfold liveTo; conv => whnf) | exact Nat.zero_lt_succ _))
    ·have hnl : (l.take n).length ≤ 16 := by rw [List.length_take]; omega
     (conv => whnf)
     refine ⟨(l.take n).map byteD, ⟨by omega, by omega, by rw [List.length_map]; omega, (fun q hq => by obtain ⟨y, _, rfl⟩ := List.mem_map.1 hq; rfl), by simp [List.map_take]⟩, ?_⟩
     (conv => whnf)
     refine ⟨l.take n, rfl, ?_⟩
     (conv => whnf)
     refine CallLeaf.wa (fits_ (l.take n) (by omega)) rfl ?_
     (conv => whnf)
     cases hf : fitN (l.take n) with
     | false =>
      have e : decR l = (hdr0, 6) := by unfold decR; rw [if_neg (by omega), if_pos ⟨hx, hy⟩, ht, if_neg (by rw [hf]; simp)]
      rw [e]
      (conv => whnf)
      refine Wk.tuple (Wks.cons (Wk.refl _) (Wks.cons (Wk.refl _) Wks.nil))
     | true =>
      have e : decR l = decR l := rfl
      conv at e => rhs; unfold decR; rw [if_neg (show ¬ l.length < 60 by omega), if_pos (show l[58]? = some 96 ∧ l[59]? = some 10 from ⟨hx, hy⟩), ht, if_pos hf]
      rw [e]
      have F1 := number_ 10 (.inr rfl) (prt l 16 28) (decide (l.take n = [47, 47])) (by rw [prt_len (by omega) (by omega)]; omega)
      have F2 := number_ 10 (.inr rfl) (prt l 28 34) (decide (l.take n = [47, 47])) (by rw [prt_len (by omega) (by omega)]; omega)
      have F3 := number_ 10 (.inr rfl) (prt l 34 40) (decide (l.take n = [47, 47])) (by rw [prt_len (by omega) (by omega)]; omega)
      have F4 := number_ 8 (.inl rfl) (prt l 40 48) (decide (l.take n = [47, 47])) (by rw [prt_len (by omega) (by omega)]; omega)
      have F5 := number_ 10 (.inr rfl) (prt l 48 58) false (by rw [prt_len (by omega) (by omega)]; omega)
      clear e
      revert F1 F2 F3 F4 F5
      generalize numR 10 (prt l 16 28) (decide (l.take n = [47, 47])) = p1
      generalize numR 10 (prt l 28 34) (decide (l.take n = [47, 47])) = p2
      generalize numR 10 (prt l 34 40) (decide (l.take n = [47, 47])) = p3
      generalize numR 8 (prt l 40 48) (decide (l.take n = [47, 47])) = p4
      generalize numR 10 (prt l 48 58) false = p5
      obtain ⟨a1, b1⟩ := p1
      obtain ⟨a2, b2⟩ := p2
      obtain ⟨a3, b3⟩ := p3
      obtain ⟨a4, b4⟩ := p4
      obtain ⟨a5, b5⟩ := p5
      intro F1 F2 F3 F4 F5
      (conv => whnf)
      refine ⟨⟨by omega, rfl, by decide, by omega⟩, ?_⟩
      (conv => whnf)
      refine ⟨(prt l 16 28).map byteD, ⟨by omega, by omega, by rw [List.length_map]; omega, (fun q hq => by obtain ⟨y, _, rfl⟩ := List.mem_map.1 hq; rfl), by simp [prt, List.map_take, List.map_drop]⟩, ?_⟩
      (conv => whnf)
      refine CallLeaf.wa (F1) rfl ?_
      (conv => whnf)
      refine ⟨⟨rfl, rfl, by decide, by decide, Nat.le_refl 5⟩, ?_⟩
      (conv => whnf)
      refine ⟨[vB false], [[vB b1], [vB false], [vB false], [vB false], [vB false]], ⟨rfl, rfl, rfl⟩, ⟨by decide, rfl⟩, ?_⟩
      (conv => whnf)
      refine ⟨(prt l 28 34).map byteD, ⟨by omega, by omega, by rw [List.length_map]; omega, (fun q hq => by obtain ⟨y, _, rfl⟩ := List.mem_map.1 hq; rfl), by simp [prt, List.map_take, List.map_drop]⟩, ?_⟩
      (conv => whnf)
      refine CallLeaf.wa (F2) rfl ?_
      (conv => whnf)
      refine ⟨⟨rfl, rfl, by decide, by decide, Nat.le_refl 5⟩, ?_⟩
      (conv => whnf)
      refine ⟨[vB false], [[vB b1], [vB b2], [vB false], [vB false], [vB false]], ⟨rfl, rfl, rfl⟩, ⟨by decide, rfl⟩, ?_⟩
      (conv => whnf)
      refine ⟨(prt l 34 40).map byteD, ⟨by omega, by omega, by rw [List.length_map]; omega, (fun q hq => by obtain ⟨y, _, rfl⟩ := List.mem_map.1 hq; rfl), by simp [prt, List.map_take, List.map_drop]⟩, ?_⟩
      (conv => whnf)
      refine CallLeaf.wa (F3) rfl ?_
      (conv => whnf)
      refine ⟨⟨rfl, rfl, by decide, by decide, Nat.le_refl 5⟩, ?_⟩
      (conv => whnf)
      refine ⟨[vB false], [[vB b1], [vB b2], [vB b3], [vB false], [vB false]], ⟨rfl, rfl, rfl⟩, ⟨by decide, rfl⟩, ?_⟩
      (conv => whnf)
      refine ⟨(prt l 40 48).map byteD, ⟨by omega, by omega, by rw [List.length_map]; omega, (fun q hq => by obtain ⟨y, _, rfl⟩ := List.mem_map.1 hq; rfl), by simp [prt, List.map_take, List.map_drop]⟩, ?_⟩
      (conv => whnf)
      refine CallLeaf.wa (F4) rfl ?_
      (conv => whnf)
      refine ⟨⟨rfl, rfl, by decide, by decide, Nat.le_refl 5⟩, ?_⟩
      (conv => whnf)
      refine ⟨[vB false], [[vB b1], [vB b2], [vB b3], [vB b4], [vB false]], ⟨rfl, rfl, rfl⟩, ⟨by decide, rfl⟩, ?_⟩
      (conv => whnf)
      refine ⟨(prt l 48 58).map byteD, ⟨by omega, by omega, by rw [List.length_map]; omega, (fun q hq => by obtain ⟨y, _, rfl⟩ := List.mem_map.1 hq; rfl), by simp [prt, List.map_take, List.map_drop]⟩, ?_⟩
      (conv => whnf)
      refine CallLeaf.wa (F5) rfl ?_
      (conv => whnf)
      refine ⟨⟨rfl, rfl, by decide, by decide, Nat.le_refl 5⟩, ?_⟩
      (conv => whnf)
      refine ⟨[vB false], [[vB b1], [vB b2], [vB b3], [vB b4], [vB b5]], ⟨rfl, rfl, rfl⟩, ⟨by decide, rfl⟩, ?_⟩
      (conv => whnf)
      have hall : (b1 && (b2 && (b3 && (b4 && b5)))) = ([b1, b2, b3, b4, b5].all fun b => b) := by simp
      simp only [hall]
      generalize hbs : [b1, b2, b3, b4, b5] = bs
      have hbl : bs.length = 5 := by rw [← hbs]; rfl
      have hxs : [[vB b1], [vB b2], [vB b3], [vB b4], [vB b5]] = bs.map fun b => [vB b] := by rw [← hbs]; rfl
      rw [hxs]
      refine LWp.loop hT hmix [] (fun k : Nat => [(8, vI k)]) (fun _ => []) (fun k => k ≤ 5 ∧ (bs.take k).all (fun b => b) = true) (fun k => 5 - k) 0 ⟨Nat.zero_le _, rfl⟩ ?_
      (conv => whnf)
      refine ⟨?_, fun k ⟨hk, hd⟩ => ?_⟩
      ·(repeat' (first | exact trivial | exact Wk.refl _ | exact ObWk.refl _ | exact rfl | exact ⟨_, rfl⟩ | exact Nat.zero_lt_one | refine And.intro ?_ ?_ | unfold okTo | (unfold okO; conv => whnf) | (unfold okS; conv => whnf) | (unfold SlotOk; conv => whnf) | (unfold ObjOk; conv => whnf) | (unfold okCells; conv => whnf) | (unfold liveTo; conv => whnf) | exact Nat.zero_lt_succ _))
      ·(conv => whnf)
       refine split_intro (fun h1 => ?_) (fun h1 => ?_)
       ·have hlt : k < 5 := by have := of_decide_eq_true h1; omega
        obtain ⟨z, hz⟩ : ∃ z, bs[k]? = some z := ⟨_, List.getElem?_eq_getElem (by omega)⟩
        (conv => whnf)
        refine ⟨⟨rfl, rfl, by omega, by show (k : Int) < 5; omega, by rw [List.length_map, hbl]; decide⟩, ?_⟩
        (conv => whnf)
        refine ⟨[vB z], ⟨rfl, rfl, by rw [show 0 + ((k : Int)).toNat = k by omega]; exact getMap (f := fun b => [vB b]) hz⟩, ?_⟩
        (conv => whnf)
        cases z with
        | false =>
         have e : (bs.all fun b => b) = false := by rw [List.all_eq_false]; exact ⟨false, List.mem_of_getElem? hz, by simp⟩
         simp only [e]
         (conv => whnf)
         refine Wk.tuple (Wks.cons (Wk.refl _) (Wks.cons (Wk.refl _) Wks.nil))
        | true =>
         (conv => whnf)
         refine ⟨_, add64 (c := ((k + 1 : Nat) : Int)) (by (try simp only []); omega) (by omega), ?_⟩
         (conv => whnf)
         refine ⟨k + 1, ⟨⟨by omega, by rw [List.take_add_one, hz]; simp at hd ⊢; exact hd⟩, by simp only []; omega⟩, ?_⟩
         (repeat' (first | exact trivial | exact Wk.refl _ | exact ObWk.refl _ | exact rfl | exact ⟨_, rfl⟩ | exact Nat.zero_lt_one | refine And.intro ?_ ?_ | unfold okTo | (unfold okO; conv => whnf) | (unfold okS; conv => whnf) | (unfold SlotOk; conv => whnf) | (unfold ObjOk; conv => whnf) | (unfold okCells; conv => whnf) | (unfold liveTo; conv => whnf) | exact Nat.zero_lt_succ _))
       ·obtain rfl : k = 5 := by have := of_decide_eq_false h1; omega
        have e : (bs.all fun b => b) = true := by rw [List.take_of_length_le (by omega)] at hd; exact hd
        simp only [e]
        (conv => whnf)
        refine Wk.tuple (Wks.cons (Wk.refl _) (Wks.cons (Wk.refl _) Wks.nil))
end Go.Proofs.YtimnnknfcfongaaDoor.H

namespace Go.Proofs.YtimnnknfcfongaaDoor.H
open Go Go.AL Go.AL.Hd
set_option maxRecDepth 100000
set_option maxHeartbeats 8000000
theorem hfits_ [Go.AL.MX] (l : Str) (hl : l.length < 4294967281) : FCall Tryd.prog Gl 99 [sD l] [] (vB (fitN l)) [] := by
 have hs := sB_sz l
 have CA := cany2_ l hl
 refine FCall.enterL hT hmix [] Tryd.func99 rfl rfl rfl fun hbd => ?_
 (conv => whnf)
 refine split_intro (fun h1 => ?_) (fun h1 => ?_)
 ·have h1' := of_decide_eq_true h1
  (conv => whnf)
  refine split_intro (fun h2 => ?_) (fun h2 => ?_)
  ·have h2' := of_decide_eq_true h2
   (conv => whnf)
   refine CallLeaf.wa (CA) rfl ?_
   (conv => whnf)
   cases ha : l.any bad2 with
   | true =>
    have e : fitN l = false := by simp [fitN, ha]
    rw [e]
    (conv => whnf)
    exact Wk.refl _
   | false =>
    obtain ⟨x, hx, hg⟩ := last_at (l := l) (by omega)
    (conv => whnf)
    refine ⟨_, sub64 (c := (l.length : Int) - 1) (by omega) (by omega), ?_⟩
    (conv => whnf)
    refine ⟨x, ⟨by omega, hx⟩, ?_⟩
    (conv => whnf)
    cases hq : ((x.toNat : Int) != 32) with
    | true =>
     have hx2 : x ≠ 32 := fun e => by subst e; simp at hq
     have e : fitN l = true := by simp only [fitN, ha, hg]; simp [hx2]; omega
     rw [e]
     exact Wk.bool rfl
    | false =>
     obtain rfl : x = 32 := O.u8_eq (y := 32) hq
     have e : fitN l = false := by simp [fitN, hg]
     rw [e]
     exact Wk.bool rfl
  ·have h2' := of_decide_eq_false h2
   have e : fitN l = false := by simp [fitN]; intros; omega
   rw [e]
   (conv => whnf)
   exact Wk.refl _
 ·have h1' := of_decide_eq_false h1
  have e : fitN l = false := by simp [fitN]; intros; omega
  rw [e]
  (conv => whnf)
  exact Wk.refl _
abbrev fF (w b : Int) (bl : Bool) (f : FuncId) : List D := [vI w, vI b, vB bl, .func (.func f) [] []]
abbrev F5 : List (List D) := [fF 12 10 true 111, fF 6 10 true 112, fF 6 10 true 113, fF 8 8 true 114, fF 10 10 false 115]
theorem fields_ [Go.AL.MX] : FCall Tryd.prog Gl 100 [] [] (.list .nat F5) [] := by
 refine FCall.enterL hT hmix [] Tryd.func100 rfl rfl rfl fun hbd => ?_
 (conv => whnf)

 exact Wk.refl _
theorem at1_ [Go.AL.MX] (h : Hdr) : FCall Tryd.prog Gl 111 [.ptr 0 0] [.cells h.enc] (.ptr 0 1) [.cells h.enc] := by
 refine FCall.enterO hT hmix [] Tryd.func111 rfl rfl rfl fun hbd => ?_
 (conv => whnf)
 refine ⟨[0], rfl, by (try unfold pullOk); (repeat' (first | exact trivial | exact ObWk.refl _ | refine And.intro ?_ ?_ | unfold pullOk)), ?_⟩
 exact Wk.refl _
theorem at2_ [Go.AL.MX] (h : Hdr) : FCall Tryd.prog Gl 112 [.ptr 0 0] [.cells h.enc] (.ptr 0 2) [.cells h.enc] := by
 refine FCall.enterO hT hmix [] Tryd.func112 rfl rfl rfl fun hbd => ?_
 (conv => whnf)
 refine ⟨[0], rfl, by (try unfold pullOk); (repeat' (first | exact trivial | exact ObWk.refl _ | refine And.intro ?_ ?_ | unfold pullOk)), ?_⟩
 exact Wk.refl _
theorem at3_ [Go.AL.MX] (h : Hdr) : FCall Tryd.prog Gl 113 [.ptr 0 0] [.cells h.enc] (.ptr 0 3) [.cells h.enc] := by
 refine FCall.enterO hT hmix [] Tryd.func113 rfl rfl rfl fun hbd => ?_
 (conv => whnf)
 refine ⟨[0], rfl, by (try unfold pullOk); (repeat' (first | exact trivial | exact ObWk.refl _ | refine And.intro ?_ ?_ | unfold pullOk)), ?_⟩
 exact Wk.refl _
theorem at4_ [Go.AL.MX] (h : Hdr) : FCall Tryd.prog Gl 114 [.ptr 0 0] [.cells h.enc] (.ptr 0 4) [.cells h.enc] := by
 refine FCall.enterO hT hmix [] Tryd.func114 rfl rfl rfl fun hbd => ?_
 (conv => whnf)
 refine ⟨[0], rfl, by (try unfold pullOk); (repeat' (first | exact trivial | exact ObWk.refl _ | refine And.intro ?_ ?_ | unfold pullOk)), ?_⟩
 exact Wk.refl _
theorem at5_ [Go.AL.MX] (h : Hdr) : FCall Tryd.prog Gl 115 [.ptr 0 0] [.cells h.enc] (.ptr 0 5) [.cells h.enc] := by
 refine FCall.enterO hT hmix [] Tryd.func115 rfl rfl rfl fun hbd => ?_
 (conv => whnf)
 refine ⟨[0], rfl, by (try unfold pullOk); (repeat' (first | exact trivial | exact ObWk.refl _ | refine And.intro ?_ ?_ | unfold pullOk)), ?_⟩
 exact Wk.refl _
end Go.Proofs.YtimnnknfcfongaaDoor.H

namespace Go.Proofs.YtimnnknfcfongaaDoor.H
open Go Go.AL Go.AL.Hd
set_option maxRecDepth 100000
set_option maxHeartbeats 16000000
abbrev hN (nm : Str) (a1 a2 a3 a4 a5 : Nat) (k : Nat) : Hdr := ⟨nm, bif Nat.blt 0 k then a1 else 0, bif Nat.blt 1 k then a2 else 0, bif Nat.blt 2 k then a3 else 0, bif Nat.blt 3 k then a4 else 0, bif Nat.blt 4 k then a5 else 0⟩
abbrev offN : Nat → Nat
 | 0 => 16
 | 1 => 28
 | 2 => 34
 | 3 => 40
 | 4 => 48
 | _ => 58
theorem num_f {b : Nat} {l : Str} (h1 : 1 ≤ l.length) (h2 : l.length ≤ 18) : (numR b l false).2 = false → (parseR b l).2 = 3 := by
 have e : parseR b l = opR (pf b l) := by unfold parseR; rw [if_neg (by omega)]
 simp only [numR, e]
 cases pf b l with
 | none => intro _; rfl
 | some n => intro h; simp [opR] at h
theorem hdecode_ [Go.AL.MX] (l : List UInt8) : FCall Tryd.prog Gl 84 [LB l] [] (.tuple [.agg (decR l).1.enc, vI (decR l).2]) [] := by
 refine FCall.enterL hT hmix [] Tryd.func84 rfl rfl rfl fun hbd => ?_
 have ha := bds_list hbd (.head _)
 (conv => whnf)
 refine split_intro (fun g1 => ?_) (fun g1 => ?_)
 ·have e : decR l = (hdr0, 2) := by have := of_decide_eq_true g1; simp only [List.length_map] at this; unfold decR; rw [if_pos (by omega)]
  rw [e]
  (conv => whnf)
  refine Wk.tuple (Wks.cons (Wk.refl _) (Wks.cons (Wk.refl _) Wks.nil))
 ·have g1' := of_decide_eq_false g1
  simp only [List.length_map] at g1'
  obtain ⟨x, hx⟩ : ∃ x, l[58]? = some x := ⟨_, List.getElem?_eq_getElem (show 58 < l.length by omega)⟩
  obtain ⟨y, hy⟩ : ∃ y, l[59]? = some y := ⟨_, List.getElem?_eq_getElem (show 59 < l.length by omega)⟩
  have em : prt l 58 60 = [x, y] := by
   have h2 : (prt l 58 60).length = 2 := prt_len (by omega) (by omega)
   have e0 : (prt l 58 60)[0]? = some x := by rw [prt, List.getElem?_drop, List.getElem?_take, if_pos (by omega)]; exact hx
   have e1 : (prt l 58 60)[1]? = some y := by rw [prt, List.getElem?_drop, List.getElem?_take, if_pos (by omega)]; exact hy
   match hp : prt l 58 60, h2 with
   | [p, q], _ => rw [hp] at e0 e1; simp at e0 e1; rw [e0, e1]
  (conv => whnf)
  refine ⟨(prt l 58 60).map byteD, ⟨by omega, by omega, by rw [List.length_map]; omega, (fun q hq => by obtain ⟨y, _, rfl⟩ := List.mem_map.1 hq; rfl), by simp [prt, List.map_take, List.map_drop]⟩, ?_⟩
  (conv => whnf)
  refine ⟨prt l 58 60, rfl, ?_⟩
  rw [em]
  (conv => whnf)
  refine split_intro (fun g2 => ?_) (fun g2 => ?_)
  ·have e : decR l = (hdr0, 4) := by
    unfold decR; rw [if_neg (by omega), if_neg (fun h => ?_)]
    rw [hx, hy] at h
    obtain ⟨h1, h2⟩ := h
    injection h1 with h1; injection h2 with h2; subst h1; subst h2
    exact absurd g2 (by decide)
   rw [e]
   (conv => whnf)
   refine Wk.tuple (Wks.cons (Wk.refl _) (Wks.cons (Wk.refl _) Wks.nil))
  ·have hxy : x = 96 ∧ y = 10 := by
    have h3 := of_decide_eq_true (show decide (([x, y] : List UInt8) = [96, 10]) = true by simpa using g2)
    simpa using h3
   obtain ⟨rfl, rfl⟩ := hxy
   have T := trim_ (l.take 16) (by rw [List.length_take]; omega)
   have hnl : (trimR (l.take 16)).length ≤ 16 := by
    have := (List.dropWhile_sublist (fun c : UInt8 => c == 32) (l := (l.take 16).reverse)).length_le
    simp only [trimR, List.length_reverse, List.length_take] at this ⊢
    omega
   (conv => whnf)
   refine ⟨(l.take 16).map byteD, ⟨by omega, by omega, by rw [List.length_map]; omega, (fun q hq => by obtain ⟨y, _, rfl⟩ := List.mem_map.1 hq; rfl), by simp [List.map_take]⟩, ?_⟩
   (conv => whnf)
   refine ⟨l.take 16, rfl, ?_⟩
   (conv => whnf)
   refine CallLeaf.wa (T) rfl ?_
   have e : decR l = decR l := rfl
   conv at e => rhs; unfold decR; rw [if_neg (show ¬ l.length < 60 by omega), if_pos (show l[58]? = some 96 ∧ l[59]? = some 10 from ⟨hx, hy⟩)]
   rw [e]
   clear e T
   revert hnl
   generalize trimR (l.take 16) = nm
   intro hnl
   (conv => whnf)
   refine CallLeaf.wa (hfits_ nm (by omega)) rfl ?_
   (conv => whnf)
   cases hf : fitN nm with
   | false =>
    simp only [Bool.false_eq_true, if_false]
    (conv => whnf)
    refine Wk.tuple (Wks.cons (Wk.refl _) (Wks.cons (Wk.refl _) Wks.nil))
   | true =>
    simp only [if_true]
    (conv => whnf)
    refine CallLeaf.wa (fields_) rfl ?_
    (conv => whnf)
    have L1 : (prt l 16 28).length = 12 := prt_len (by omega) (by omega)
    have L2 : (prt l 28 34).length = 6 := prt_len (by omega) (by omega)
    have L3 : (prt l 34 40).length = 6 := prt_len (by omega) (by omega)
    have L4 : (prt l 40 48).length = 8 := prt_len (by omega) (by omega)
    have L5 : (prt l 48 58).length = 10 := prt_len (by omega) (by omega)
    obtain ⟨p1, hp1⟩ : ∃ p, p = numR 10 (prt l 16 28) (decide (nm = [47, 47])) := ⟨_, rfl⟩
    obtain ⟨p2, hp2⟩ : ∃ p, p = numR 10 (prt l 28 34) (decide (nm = [47, 47])) := ⟨_, rfl⟩
    obtain ⟨p3, hp3⟩ : ∃ p, p = numR 10 (prt l 34 40) (decide (nm = [47, 47])) := ⟨_, rfl⟩
    obtain ⟨p4, hp4⟩ : ∃ p, p = numR 8 (prt l 40 48) (decide (nm = [47, 47])) := ⟨_, rfl⟩
    obtain ⟨p5, hp5⟩ : ∃ p, p = numR 10 (prt l 48 58) false := ⟨_, rfl⟩
    rw [← hp1, ← hp2, ← hp3, ← hp4, ← hp5]
    refine LWp.loop hT hmix [] (fun k : Nat => [(32, vI k), (5, vI (offN k))]) (fun k => [(2600, .cells (hN nm p1.1 p2.1 p3.1 p4.1 p5.1 k).enc)]) (fun k => k ≤ 5 ∧ (0 < k → p1.2 = true) ∧ (1 < k → p2.2 = true) ∧ (2 < k → p3.2 = true) ∧ (3 < k → p4.2 = true) ∧ (4 < k → p5.2 = true)) (fun k => 5 - k) 0 ⟨by omega, by omega, by omega, by omega, by omega, by omega⟩ ?_
    (conv => whnf)
    refine ⟨?_, fun k ⟨hk, i1, i2, i3, i4, i5⟩ => ?_⟩
    ·(repeat' (first | exact trivial | exact Wk.refl _ | exact ObWk.refl _ | exact rfl | exact ⟨_, rfl⟩ | exact Nat.zero_lt_one | refine And.intro ?_ ?_ | unfold okTo | (unfold okO; conv => whnf) | (unfold okS; conv => whnf) | (unfold SlotOk; conv => whnf) | (unfold ObjOk; conv => whnf) | (unfold okCells; conv => whnf) | (unfold liveTo; conv => whnf) | exact Nat.zero_lt_succ _))
    ·rcases (show k = 0 ∨ k = 1 ∨ k = 2 ∨ k = 3 ∨ k = 4 ∨ k = 5 by omega) with rfl | rfl | rfl | rfl | rfl | rfl
     ·(conv => whnf)
      refine ⟨_, ⟨by decide, rfl⟩, ?_⟩
      (conv => whnf)
      refine ⟨_, add64 (c := ((28 : Nat) : Int)) rfl (by omega), ?_⟩
      (conv => whnf)
      refine ⟨(prt l 16 28).map byteD, ⟨by decide, by decide, by rw [List.length_map]; show ((28 : Nat) : Int) ≤ _; omega, (fun q hq => by obtain ⟨y, _, rfl⟩ := List.mem_map.1 hq; rfl), by show ((l.map byteD).take 28).drop 16 = _; simp [prt, List.map_take, List.map_drop]⟩, ?_⟩
      (conv => whnf)
      refine ⟨_, add64 (c := ((28 : Nat) : Int)) rfl (by omega), ?_⟩
      (conv => whnf)
      refine split_intro (fun bq => ?_) (fun bq => ?_)
      ·have hb : nm = [47, 47] := of_decide_eq_true bq
       have hpv : p1 = (0, decide (prt l 16 28 = sp (prt l 16 28).length)) := by rw [hp1, decide_eq_true hb]; rfl
       have BL := blank_ (prt l 16 28)
       cases hall : (prt l 16 28).all (· == 32) with
       | true =>
        have h2 : p1.2 = true := by rw [hpv]; exact decide_eq_true (all_sp.1 hall)
        have h1 : p1.1 = 0 := by rw [hpv]
        rw [hall] at BL
        (conv => whnf)
        refine CallLeaf.wa (BL) rfl ?_
        (conv => whnf)
        refine ⟨_, add64 (c := ((1 : Nat) : Int)) rfl (by omega), ?_⟩
        (conv => whnf)
        refine ⟨1, ⟨⟨by omega, fun _ => by first | exact h2 | rfl, fun h => absurd h (by omega), fun h => absurd h (by omega), fun h => absurd h (by omega), fun h => absurd h (by omega)⟩, by show 5 - 1 < 5 - 0; omega⟩, ?_⟩
        (repeat' (first | exact trivial | exact Wk.refl _ | exact ObWk.refl _ | exact rfl | exact ⟨_, rfl⟩ | exact Nat.zero_lt_one | refine And.intro ?_ ?_ | unfold okTo | (unfold okO; conv => whnf) | (unfold okS; conv => whnf) | (unfold SlotOk; conv => whnf) | (unfold ObjOk; conv => whnf) | (unfold okCells; conv => whnf) | (unfold liveTo; conv => whnf) | exact Nat.zero_lt_succ _))
        exact Wk.of_eq (show vI ((0 : Nat) : Int) = vI ((p1.1 : Nat) : Int) by rw [h1])
       | false =>
        have h2 : p1.2 = false := by rw [hpv]; exact decide_eq_false (fun h => by rw [all_sp.2 h] at hall; cases hall)
        rw [hall] at BL
        (conv => whnf)
        refine CallLeaf.wa (BL) rfl ?_
        (conv => whnf)
        simp only [h2, Bool.false_and, Bool.and_false, Bool.false_eq_true, if_false]
        (conv => whnf)
        refine Wk.tuple (Wks.cons (Wk.refl _) (Wks.cons (Wk.refl _) Wks.nil))
      ·have nb : decide (nm = [47, 47]) = false := decide_eq_false (of_decide_eq_false bq)
       have hpv : p1 = numR 10 (prt l 16 28) false := by rw [hp1, nb]
       have DP := dparse_ 10 (.inr rfl) (prt l 16 28)
       cases h2 : p1.2 with
       | true =>
        have hz : (parseR 10 (prt l 16 28)).2 = 0 := by rw [hpv] at h2; exact of_decide_eq_true h2
        have h1 : (parseR 10 (prt l 16 28)).1 = p1.1 := by rw [hpv]; rfl
        rw [hz, h1] at DP
        (conv => whnf)
        refine CallLeaf.wa (DP) rfl ?_
        (conv => whnf)
        refine CallLeaf.oa [2600] (at1_ ⟨nm, 0, 0, 0, 0, 0⟩) rfl rfl rfl rfl ?_
        (conv => whnf)
        refine ⟨_, add64 (c := ((1 : Nat) : Int)) rfl (by omega), ?_⟩
        (conv => whnf)
        refine ⟨1, ⟨⟨by omega, fun _ => by first | exact h2 | rfl, fun h => absurd h (by omega), fun h => absurd h (by omega), fun h => absurd h (by omega), fun h => absurd h (by omega)⟩, by show 5 - 1 < 5 - 0; omega⟩, ?_⟩
        (repeat' (first | exact trivial | exact Wk.refl _ | exact ObWk.refl _ | exact rfl | exact ⟨_, rfl⟩ | exact Nat.zero_lt_one | refine And.intro ?_ ?_ | unfold okTo | (unfold okO; conv => whnf) | (unfold okS; conv => whnf) | (unfold SlotOk; conv => whnf) | (unfold ObjOk; conv => whnf) | (unfold okCells; conv => whnf) | (unfold liveTo; conv => whnf) | exact Nat.zero_lt_succ _))
       | false =>
        have hz : (parseR 10 (prt l 16 28)).2 = 3 := num_f (by omega) (by omega) (by rw [← hpv]; exact h2)
        rw [hz] at DP
        (conv => whnf)
        refine CallLeaf.wa (DP) rfl ?_
        (conv => whnf)
        simp only [h2, Bool.false_and, Bool.and_false, Bool.false_eq_true, if_false]
        (conv => whnf)
        refine Wk.tuple (Wks.cons (Wk.refl _) (Wks.cons (Wk.refl _) Wks.nil))
     ·(conv => whnf)
      refine ⟨_, ⟨by decide, rfl⟩, ?_⟩
      (conv => whnf)
      refine ⟨_, add64 (c := ((34 : Nat) : Int)) rfl (by omega), ?_⟩
      (conv => whnf)
      refine ⟨(prt l 28 34).map byteD, ⟨by decide, by decide, by rw [List.length_map]; show ((34 : Nat) : Int) ≤ _; omega, (fun q hq => by obtain ⟨y, _, rfl⟩ := List.mem_map.1 hq; rfl), by show ((l.map byteD).take 34).drop 28 = _; simp [prt, List.map_take, List.map_drop]⟩, ?_⟩
      (conv => whnf)
      refine ⟨_, add64 (c := ((34 : Nat) : Int)) rfl (by omega), ?_⟩
      (conv => whnf)
      refine split_intro (fun bq => ?_) (fun bq => ?_)
      ·have hb : nm = [47, 47] := of_decide_eq_true bq
       have hpv : p2 = (0, decide (prt l 28 34 = sp (prt l 28 34).length)) := by rw [hp2, decide_eq_true hb]; rfl
       have BL := blank_ (prt l 28 34)
       cases hall : (prt l 28 34).all (· == 32) with
       | true =>
        have h2 : p2.2 = true := by rw [hpv]; exact decide_eq_true (all_sp.1 hall)
        have h1 : p2.1 = 0 := by rw [hpv]
        rw [hall] at BL
        (conv => whnf)
        refine CallLeaf.wa (BL) rfl ?_
        (conv => whnf)
        refine ⟨_, add64 (c := ((2 : Nat) : Int)) rfl (by omega), ?_⟩
        (conv => whnf)
        refine ⟨2, ⟨⟨by omega, fun _ => i1 (by omega), fun _ => by first | exact h2 | rfl, fun h => absurd h (by omega), fun h => absurd h (by omega), fun h => absurd h (by omega)⟩, by show 5 - 2 < 5 - 1; omega⟩, ?_⟩
        (repeat' (first | exact trivial | exact Wk.refl _ | exact ObWk.refl _ | exact rfl | exact ⟨_, rfl⟩ | exact Nat.zero_lt_one | refine And.intro ?_ ?_ | unfold okTo | (unfold okO; conv => whnf) | (unfold okS; conv => whnf) | (unfold SlotOk; conv => whnf) | (unfold ObjOk; conv => whnf) | (unfold okCells; conv => whnf) | (unfold liveTo; conv => whnf) | exact Nat.zero_lt_succ _))
        exact Wk.of_eq (show vI ((0 : Nat) : Int) = vI ((p2.1 : Nat) : Int) by rw [h1])
       | false =>
        have h2 : p2.2 = false := by rw [hpv]; exact decide_eq_false (fun h => by rw [all_sp.2 h] at hall; cases hall)
        rw [hall] at BL
        (conv => whnf)
        refine CallLeaf.wa (BL) rfl ?_
        (conv => whnf)
        simp only [h2, Bool.false_and, Bool.and_false, Bool.false_eq_true, if_false]
        (conv => whnf)
        refine Wk.tuple (Wks.cons (Wk.refl _) (Wks.cons (Wk.refl _) Wks.nil))
      ·have nb : decide (nm = [47, 47]) = false := decide_eq_false (of_decide_eq_false bq)
       have hpv : p2 = numR 10 (prt l 28 34) false := by rw [hp2, nb]
       have DP := dparse_ 10 (.inr rfl) (prt l 28 34)
       cases h2 : p2.2 with
       | true =>
        have hz : (parseR 10 (prt l 28 34)).2 = 0 := by rw [hpv] at h2; exact of_decide_eq_true h2
        have h1 : (parseR 10 (prt l 28 34)).1 = p2.1 := by rw [hpv]; rfl
        rw [hz, h1] at DP
        (conv => whnf)
        refine CallLeaf.wa (DP) rfl ?_
        (conv => whnf)
        refine CallLeaf.oa [2600] (at2_ ⟨nm, p1.1, 0, 0, 0, 0⟩) rfl rfl rfl rfl ?_
        (conv => whnf)
        refine ⟨_, add64 (c := ((2 : Nat) : Int)) rfl (by omega), ?_⟩
        (conv => whnf)
        refine ⟨2, ⟨⟨by omega, fun _ => i1 (by omega), fun _ => by first | exact h2 | rfl, fun h => absurd h (by omega), fun h => absurd h (by omega), fun h => absurd h (by omega)⟩, by show 5 - 2 < 5 - 1; omega⟩, ?_⟩
        (repeat' (first | exact trivial | exact Wk.refl _ | exact ObWk.refl _ | exact rfl | exact ⟨_, rfl⟩ | exact Nat.zero_lt_one | refine And.intro ?_ ?_ | unfold okTo | (unfold okO; conv => whnf) | (unfold okS; conv => whnf) | (unfold SlotOk; conv => whnf) | (unfold ObjOk; conv => whnf) | (unfold okCells; conv => whnf) | (unfold liveTo; conv => whnf) | exact Nat.zero_lt_succ _))
       | false =>
        have hz : (parseR 10 (prt l 28 34)).2 = 3 := num_f (by omega) (by omega) (by rw [← hpv]; exact h2)
        rw [hz] at DP
        (conv => whnf)
        refine CallLeaf.wa (DP) rfl ?_
        (conv => whnf)
        simp only [h2, Bool.false_and, Bool.and_false, Bool.false_eq_true, if_false]
        (conv => whnf)
        refine Wk.tuple (Wks.cons (Wk.refl _) (Wks.cons (Wk.refl _) Wks.nil))
     ·(conv => whnf)
      refine ⟨_, ⟨by decide, rfl⟩, ?_⟩
      (conv => whnf)
      refine ⟨_, add64 (c := ((40 : Nat) : Int)) rfl (by omega), ?_⟩
      (conv => whnf)
      refine ⟨(prt l 34 40).map byteD, ⟨by decide, by decide, by rw [List.length_map]; show ((40 : Nat) : Int) ≤ _; omega, (fun q hq => by obtain ⟨y, _, rfl⟩ := List.mem_map.1 hq; rfl), by show ((l.map byteD).take 40).drop 34 = _; simp [prt, List.map_take, List.map_drop]⟩, ?_⟩
      (conv => whnf)
      refine ⟨_, add64 (c := ((40 : Nat) : Int)) rfl (by omega), ?_⟩
      (conv => whnf)
      refine split_intro (fun bq => ?_) (fun bq => ?_)
      ·have hb : nm = [47, 47] := of_decide_eq_true bq
       have hpv : p3 = (0, decide (prt l 34 40 = sp (prt l 34 40).length)) := by rw [hp3, decide_eq_true hb]; rfl
       have BL := blank_ (prt l 34 40)
       cases hall : (prt l 34 40).all (· == 32) with
       | true =>
        have h2 : p3.2 = true := by rw [hpv]; exact decide_eq_true (all_sp.1 hall)
        have h1 : p3.1 = 0 := by rw [hpv]
        rw [hall] at BL
        (conv => whnf)
        refine CallLeaf.wa (BL) rfl ?_
        (conv => whnf)
        refine ⟨_, add64 (c := ((3 : Nat) : Int)) rfl (by omega), ?_⟩
        (conv => whnf)
        refine ⟨3, ⟨⟨by omega, fun _ => i1 (by omega), fun _ => i2 (by omega), fun _ => by first | exact h2 | rfl, fun h => absurd h (by omega), fun h => absurd h (by omega)⟩, by show 5 - 3 < 5 - 2; omega⟩, ?_⟩
        (repeat' (first | exact trivial | exact Wk.refl _ | exact ObWk.refl _ | exact rfl | exact ⟨_, rfl⟩ | exact Nat.zero_lt_one | refine And.intro ?_ ?_ | unfold okTo | (unfold okO; conv => whnf) | (unfold okS; conv => whnf) | (unfold SlotOk; conv => whnf) | (unfold ObjOk; conv => whnf) | (unfold okCells; conv => whnf) | (unfold liveTo; conv => whnf) | exact Nat.zero_lt_succ _))
        exact Wk.of_eq (show vI ((0 : Nat) : Int) = vI ((p3.1 : Nat) : Int) by rw [h1])
       | false =>
        have h2 : p3.2 = false := by rw [hpv]; exact decide_eq_false (fun h => by rw [all_sp.2 h] at hall; cases hall)
        rw [hall] at BL
        (conv => whnf)
        refine CallLeaf.wa (BL) rfl ?_
        (conv => whnf)
        simp only [h2, Bool.false_and, Bool.and_false, Bool.false_eq_true, if_false]
        (conv => whnf)
        refine Wk.tuple (Wks.cons (Wk.refl _) (Wks.cons (Wk.refl _) Wks.nil))
      ·have nb : decide (nm = [47, 47]) = false := decide_eq_false (of_decide_eq_false bq)
       have hpv : p3 = numR 10 (prt l 34 40) false := by rw [hp3, nb]
       have DP := dparse_ 10 (.inr rfl) (prt l 34 40)
       cases h2 : p3.2 with
       | true =>
        have hz : (parseR 10 (prt l 34 40)).2 = 0 := by rw [hpv] at h2; exact of_decide_eq_true h2
        have h1 : (parseR 10 (prt l 34 40)).1 = p3.1 := by rw [hpv]; rfl
        rw [hz, h1] at DP
        (conv => whnf)
        refine CallLeaf.wa (DP) rfl ?_
        (conv => whnf)
        refine CallLeaf.oa [2600] (at3_ ⟨nm, p1.1, p2.1, 0, 0, 0⟩) rfl rfl rfl rfl ?_
        (conv => whnf)
        refine ⟨_, add64 (c := ((3 : Nat) : Int)) rfl (by omega), ?_⟩
        (conv => whnf)
        refine ⟨3, ⟨⟨by omega, fun _ => i1 (by omega), fun _ => i2 (by omega), fun _ => by first | exact h2 | rfl, fun h => absurd h (by omega), fun h => absurd h (by omega)⟩, by show 5 - 3 < 5 - 2; omega⟩, ?_⟩
        (repeat' (first | exact trivial | exact Wk.refl _ | exact ObWk.refl _ | exact rfl | exact ⟨_, rfl⟩ | exact Nat.zero_lt_one | refine And.intro ?_ ?_ | unfold okTo | (unfold okO; conv => whnf) | (unfold okS; conv => whnf) | (unfold SlotOk; conv => whnf) | (unfold ObjOk; conv => whnf) | (unfold okCells; conv => whnf) | (unfold liveTo; conv => whnf) | exact Nat.zero_lt_succ _))
       | false =>
        have hz : (parseR 10 (prt l 34 40)).2 = 3 := num_f (by omega) (by omega) (by rw [← hpv]; exact h2)
        rw [hz] at DP
        (conv => whnf)
        refine CallLeaf.wa (DP) rfl ?_
        (conv => whnf)
        simp only [h2, Bool.false_and, Bool.and_false, Bool.false_eq_true, if_false]
        (conv => whnf)
        refine Wk.tuple (Wks.cons (Wk.refl _) (Wks.cons (Wk.refl _) Wks.nil))
     ·(conv => whnf)
      refine ⟨_, ⟨by decide, rfl⟩, ?_⟩
      (conv => whnf)
      refine ⟨_, add64 (c := ((48 : Nat) : Int)) rfl (by omega), ?_⟩
      (conv => whnf)
      refine ⟨(prt l 40 48).map byteD, ⟨by decide, by decide, by rw [List.length_map]; show ((48 : Nat) : Int) ≤ _; omega, (fun q hq => by obtain ⟨y, _, rfl⟩ := List.mem_map.1 hq; rfl), by show ((l.map byteD).take 48).drop 40 = _; simp [prt, List.map_take, List.map_drop]⟩, ?_⟩
      (conv => whnf)
      refine ⟨_, add64 (c := ((48 : Nat) : Int)) rfl (by omega), ?_⟩
      (conv => whnf)
      refine split_intro (fun bq => ?_) (fun bq => ?_)
      ·have hb : nm = [47, 47] := of_decide_eq_true bq
       have hpv : p4 = (0, decide (prt l 40 48 = sp (prt l 40 48).length)) := by rw [hp4, decide_eq_true hb]; rfl
       have BL := blank_ (prt l 40 48)
       cases hall : (prt l 40 48).all (· == 32) with
       | true =>
        have h2 : p4.2 = true := by rw [hpv]; exact decide_eq_true (all_sp.1 hall)
        have h1 : p4.1 = 0 := by rw [hpv]
        rw [hall] at BL
        (conv => whnf)
        refine CallLeaf.wa (BL) rfl ?_
        (conv => whnf)
        refine ⟨_, add64 (c := ((4 : Nat) : Int)) rfl (by omega), ?_⟩
        (conv => whnf)
        refine ⟨4, ⟨⟨by omega, fun _ => i1 (by omega), fun _ => i2 (by omega), fun _ => i3 (by omega), fun _ => by first | exact h2 | rfl, fun h => absurd h (by omega)⟩, by show 5 - 4 < 5 - 3; omega⟩, ?_⟩
        (repeat' (first | exact trivial | exact Wk.refl _ | exact ObWk.refl _ | exact rfl | exact ⟨_, rfl⟩ | exact Nat.zero_lt_one | refine And.intro ?_ ?_ | unfold okTo | (unfold okO; conv => whnf) | (unfold okS; conv => whnf) | (unfold SlotOk; conv => whnf) | (unfold ObjOk; conv => whnf) | (unfold okCells; conv => whnf) | (unfold liveTo; conv => whnf) | exact Nat.zero_lt_succ _))
        exact Wk.of_eq (show vI ((0 : Nat) : Int) = vI ((p4.1 : Nat) : Int) by rw [h1])
       | false =>
        have h2 : p4.2 = false := by rw [hpv]; exact decide_eq_false (fun h => by rw [all_sp.2 h] at hall; cases hall)
        rw [hall] at BL
        (conv => whnf)
        refine CallLeaf.wa (BL) rfl ?_
        (conv => whnf)
        simp only [h2, Bool.false_and, Bool.and_false, Bool.false_eq_true, if_false]
        (conv => whnf)
        refine Wk.tuple (Wks.cons (Wk.refl _) (Wks.cons (Wk.refl _) Wks.nil))
      ·have nb : decide (nm = [47, 47]) = false := decide_eq_false (of_decide_eq_false bq)
       have hpv : p4 = numR 8 (prt l 40 48) false := by rw [hp4, nb]
       have DP := dparse_ 8 (.inl rfl) (prt l 40 48)
       cases h2 : p4.2 with
       | true =>
        have hz : (parseR 8 (prt l 40 48)).2 = 0 := by rw [hpv] at h2; exact of_decide_eq_true h2
        have h1 : (parseR 8 (prt l 40 48)).1 = p4.1 := by rw [hpv]; rfl
        rw [hz, h1] at DP
        (conv => whnf)
        refine CallLeaf.wa (DP) rfl ?_
        (conv => whnf)
        refine CallLeaf.oa [2600] (at4_ ⟨nm, p1.1, p2.1, p3.1, 0, 0⟩) rfl rfl rfl rfl ?_
        (conv => whnf)
        refine ⟨_, add64 (c := ((4 : Nat) : Int)) rfl (by omega), ?_⟩
        (conv => whnf)
        refine ⟨4, ⟨⟨by omega, fun _ => i1 (by omega), fun _ => i2 (by omega), fun _ => i3 (by omega), fun _ => by first | exact h2 | rfl, fun h => absurd h (by omega)⟩, by show 5 - 4 < 5 - 3; omega⟩, ?_⟩
        (repeat' (first | exact trivial | exact Wk.refl _ | exact ObWk.refl _ | exact rfl | exact ⟨_, rfl⟩ | exact Nat.zero_lt_one | refine And.intro ?_ ?_ | unfold okTo | (unfold okO; conv => whnf) | (unfold okS; conv => whnf) | (unfold SlotOk; conv => whnf) | (unfold ObjOk; conv => whnf) | (unfold okCells; conv => whnf) | (unfold liveTo; conv => whnf) | exact Nat.zero_lt_succ _))
       | false =>
        have hz : (parseR 8 (prt l 40 48)).2 = 3 := num_f (by omega) (by omega) (by rw [← hpv]; exact h2)
        rw [hz] at DP
        (conv => whnf)
        refine CallLeaf.wa (DP) rfl ?_
        (conv => whnf)
        simp only [h2, Bool.false_and, Bool.and_false, Bool.false_eq_true, if_false]
        (conv => whnf)
        refine Wk.tuple (Wks.cons (Wk.refl _) (Wks.cons (Wk.refl _) Wks.nil))
     ·(conv => whnf)
      refine ⟨_, ⟨by decide, rfl⟩, ?_⟩
      (conv => whnf)
      refine ⟨_, add64 (c := ((58 : Nat) : Int)) rfl (by omega), ?_⟩
      (conv => whnf)
      refine ⟨(prt l 48 58).map byteD, ⟨by decide, by decide, by rw [List.length_map]; show ((58 : Nat) : Int) ≤ _; omega, (fun q hq => by obtain ⟨y, _, rfl⟩ := List.mem_map.1 hq; rfl), by show ((l.map byteD).take 58).drop 48 = _; simp [prt, List.map_take, List.map_drop]⟩, ?_⟩
      (conv => whnf)
      refine ⟨_, add64 (c := ((58 : Nat) : Int)) rfl (by omega), ?_⟩
      (conv => whnf)
      refine split_intro (fun bq => ?_) (fun bq => ?_)
      ·skip
       have hpv : p5 = numR 10 (prt l 48 58) false := by exact hp5
       have DP := dparse_ 10 (.inr rfl) (prt l 48 58)
       cases h2 : p5.2 with
       | true =>
        have hz : (parseR 10 (prt l 48 58)).2 = 0 := by rw [hpv] at h2; exact of_decide_eq_true h2
        have h1 : (parseR 10 (prt l 48 58)).1 = p5.1 := by rw [hpv]; rfl
        rw [hz, h1] at DP
        (conv => whnf)
        refine CallLeaf.wa (DP) rfl ?_
        (conv => whnf)
        refine CallLeaf.oa [2600] (at5_ ⟨nm, p1.1, p2.1, p3.1, p4.1, 0⟩) rfl rfl rfl rfl ?_
        (conv => whnf)
        refine ⟨_, add64 (c := ((5 : Nat) : Int)) rfl (by omega), ?_⟩
        (conv => whnf)
        refine ⟨5, ⟨⟨by omega, fun _ => i1 (by omega), fun _ => i2 (by omega), fun _ => i3 (by omega), fun _ => i4 (by omega), fun _ => by first | exact h2 | rfl⟩, by show 5 - 5 < 5 - 4; omega⟩, ?_⟩
        (repeat' (first | exact trivial | exact Wk.refl _ | exact ObWk.refl _ | exact rfl | exact ⟨_, rfl⟩ | exact Nat.zero_lt_one | refine And.intro ?_ ?_ | unfold okTo | (unfold okO; conv => whnf) | (unfold okS; conv => whnf) | (unfold SlotOk; conv => whnf) | (unfold ObjOk; conv => whnf) | (unfold okCells; conv => whnf) | (unfold liveTo; conv => whnf) | exact Nat.zero_lt_succ _))
       | false =>
        have hz : (parseR 10 (prt l 48 58)).2 = 3 := num_f (by omega) (by omega) (by rw [← hpv]; exact h2)
        rw [hz] at DP
        (conv => whnf)
        refine CallLeaf.wa (DP) rfl ?_
        (conv => whnf)
        simp only [h2, Bool.false_and, Bool.and_false, Bool.false_eq_true, if_false]
        (conv => whnf)
        refine Wk.tuple (Wks.cons (Wk.refl _) (Wks.cons (Wk.refl _) Wks.nil))
      ·skip
       have hpv : p5 = numR 10 (prt l 48 58) false := by exact hp5
       have DP := dparse_ 10 (.inr rfl) (prt l 48 58)
       cases h2 : p5.2 with
       | true =>
        have hz : (parseR 10 (prt l 48 58)).2 = 0 := by rw [hpv] at h2; exact of_decide_eq_true h2
        have h1 : (parseR 10 (prt l 48 58)).1 = p5.1 := by rw [hpv]; rfl
        rw [hz, h1] at DP
        (conv => whnf)
        refine CallLeaf.wa (DP) rfl ?_
        (conv => whnf)
        refine CallLeaf.oa [2600] (at5_ ⟨nm, p1.1, p2.1, p3.1, p4.1, 0⟩) rfl rfl rfl rfl ?_
        (conv => whnf)
        refine ⟨_, add64 (c := ((5 : Nat) : Int)) rfl (by omega), ?_⟩
        (conv => whnf)
        refine ⟨5, ⟨⟨by omega, fun _ => i1 (by omega), fun _ => i2 (by omega), fun _ => i3 (by omega), fun _ => i4 (by omega), fun _ => by first | exact h2 | rfl⟩, by show 5 - 5 < 5 - 4; omega⟩, ?_⟩
        (repeat' (first | exact trivial | exact Wk.refl _ | exact ObWk.refl _ | exact rfl | exact ⟨_, rfl⟩ | exact Nat.zero_lt_one | refine And.intro ?_ ?_ | unfold okTo | (unfold okO; conv => whnf) | (unfold okS; conv => whnf) | (unfold SlotOk; conv => whnf) | (unfold ObjOk; conv => whnf) | (unfold okCells; conv => whnf) | (unfold liveTo; conv => whnf) | exact Nat.zero_lt_succ _))
       | false =>
        have hz : (parseR 10 (prt l 48 58)).2 = 3 := num_f (by omega) (by omega) (by rw [← hpv]; exact h2)
        rw [hz] at DP
        (conv => whnf)
        refine CallLeaf.wa (DP) rfl ?_
        (conv => whnf)
        simp only [h2, Bool.false_and, Bool.and_false, Bool.false_eq_true, if_false]
        (conv => whnf)
        refine Wk.tuple (Wks.cons (Wk.refl _) (Wks.cons (Wk.refl _) Wks.nil))
     ·have j1 := i1 (by omega)
      have j2 := i2 (by omega)
      have j3 := i3 (by omega)
      have j4 := i4 (by omega)
      have j5 := i5 (by omega)
      simp only [j1, j2, j3, j4, j5, Bool.and_self, if_true]
      (conv => whnf)
      refine Wk.tuple (Wks.cons (Wk.refl _) (Wks.cons (Wk.refl _) Wks.nil))
end Go.Proofs.YtimnnknfcfongaaDoor.H

namespace Go.Proofs.YtimnnknfcfongaaDoor.H
open Go Go.AL Go.AL.Hd Go.AL.Ln
set_option maxRecDepth 100000
set_option maxHeartbeats 8000000
theorem lvalid_ [Go.AL.MX] (l : Str) (hl : l.length < 4294967281) : FCall Tryd.prog Gl 22 [sD l] [] (vB (validN l)) [] := by
 have hs := sB_sz l
 have CA := cany3_ l hl
 refine FCall.enterL hT hmix [] Tryd.func22 rfl rfl rfl fun hbd => ?_
 (conv => whnf)
 refine split_intro (fun h1 => ?_) (fun h1 => ?_)
 ·have h1' := of_decide_eq_true h1
  (conv => whnf)
  refine split_intro (fun h2 => ?_) (fun h2 => ?_)
  ·have h2' := of_decide_eq_true h2
   (conv => whnf)
   refine CallLeaf.wa (CA) rfl ?_
   have e : validN l = !(l.any bad3) := by
    unfold validN
    rw [decide_eq_true (show 1 ≤ l.length ∧ l.length ≤ 255 by omega)]; rfl
   rw [e]
   (conv => whnf)
   exact Wk.refl _
  ·have h2' := of_decide_eq_false h2
   have e : validN l = false := by unfold validN; rw [decide_eq_false (by omega)]; rfl
   rw [e]
   (conv => whnf)
   exact Wk.refl _
 ·have h1' := of_decide_eq_false h1
  have e : validN l = false := by unfold validN; rw [decide_eq_false (by omega)]; rfl
  rw [e]
  (conv => whnf)
  exact Wk.refl _
theorem lshort_ [Go.AL.MX] (l : Str) (hl : l.length < 4294967281) : FCall Tryd.prog Gl 24 [sD l] [] (vB (shortN l)) [] := by
 have hs := sB_sz l
 have CA := lvalid_ l hl
 refine FCall.enterL hT hmix [] Tryd.func24 rfl rfl rfl fun hbd => ?_
 (conv => whnf)
 refine CallLeaf.wa (CA) rfl ?_
 cases hv : validN l with
 | false =>
  have e : shortN l = false := by unfold shortN; rw [hv]; rfl
  rw [e]
  (conv => whnf)
  exact Wk.refl _
 | true =>
  have hlen := valid_not hv
  (conv => whnf)
  refine split_intro (fun h2 => ?_) (fun h2 => ?_)
  ·have h2' := of_decide_eq_true h2
   obtain ⟨x, hx, hg⟩ := last_at (l := l) (by omega)
   (conv => whnf)
   refine ⟨_, sub64 (c := (l.length : Int) - 1) (by omega) (by omega), ?_⟩
   (conv => whnf)
   refine ⟨x, ⟨by omega, hx⟩, ?_⟩
   (conv => whnf)
   cases hq : ((x.toNat : Int) != 32) with
   | true =>
    have hx2 : x ≠ 32 := fun e => by subst e; simp at hq
    have e : shortN l = true := by unfold shortN; rw [hv, hg]; simp [hx2]; omega
    rw [e]
    exact Wk.bool rfl
   | false =>
    obtain rfl : x = 32 := O.u8_eq (y := 32) hq
    have e : shortN l = false := by unfold shortN; rw [hg]; simp
    rw [e]
    exact Wk.bool rfl
  ·have h2' := of_decide_eq_false h2
   have e : shortN l = false := by unfold shortN; rw [decide_eq_false (show ¬ l.length ≤ 15 by omega)]; simp
   rw [e]
   (conv => whnf)
   exact Wk.refl _
theorem ext_prt (l : Str) (a b : Nat) : (sB l).extract a b = sB (prt l a b) := by
 apply ByteArray.ext
 apply Array.ext'
 simp only [sB, ByteArray.data_extract, Array.toList_extract, List.extract_eq_take_drop, prt]
 rw [List.drop_take]
theorem sB_inj {a b : Str} (h : sB a = sB b) : a = b := by
 have := congrArg (fun x : ByteArray => x.data.toList) h
 simpa [sB] using this
theorem last_drop {l : Str} (h : 1 ≤ l.length) (x : UInt8) : l.drop (l.length - 1) = [x] ↔ l.getLast? = some x := by
 rcases List.eq_nil_or_concat l with rfl | ⟨a, y, rfl⟩
 ·simp at h
 ·simp
theorem dropLast_take (l : Str) : l.take (l.length - 1) = l.dropLast := (List.dropLast_eq_take).symm
theorem len1 : (sB [47]).size = 1 := rfl
theorem hsuf_ [Go.AL.MX] (l : Str) (hl : l.length < 4294967281) : FCall Tryd.prog Gl 82 [sD l, sD [47]] [] (vB (decide (l.getLast? = some 47))) [] := by
 have hs := sB_sz l
 have h1s := len1
 refine FCall.enterL hT hmix [] Tryd.func82 rfl rfl rfl fun hbd => ?_
 (conv => whnf)
 refine split_intro (fun h1 => ?_) (fun h1 => ?_)
 ·have h1' := of_decide_eq_true h1
  have h1' : 1 ≤ l.length := by omega
  (conv => whnf)
  refine ⟨_, sub64 (c := ((l.length - 1 : Nat) : Int)) (by omega) (by omega), ?_⟩
  (conv => whnf)
  refine ⟨sB (l.drop (l.length - 1)), ⟨by omega, by omega, by omega, by rw [ext_prt]; congr 1; simp only [prt]; rw [hs]; rw [List.take_of_length_le (by omega)]; congr 1⟩, ?_⟩
  (conv => whnf)
  refine Wk.bool ?_
  rw [Bool.eq_iff_iff]
  simp only [decide_eq_true_eq]
  rw [← last_drop h1']
 ·have h1' := of_decide_eq_false h1
  have e : l = [] := List.eq_nil_of_length_eq_zero (by omega)
  subst e
  (conv => whnf)
  exact Wk.refl _
theorem csuf0_ [Go.AL.MX] (l : Str) (hl : l.length < 4294967281) : FCall Tryd.prog Gl 62 [sD l, sD [47]] [] (.tuple [sD (if l.getLast? = some 47 then l.dropLast else l), vB (decide (l.getLast? = some 47))]) [] := by
 have hs := sB_sz l
 have h1s := len1
 refine FCall.enterL hT hmix [] Tryd.func62 rfl rfl rfl fun hbd => ?_
 (conv => whnf)
 refine CallLeaf.wa (hsuf_ l hl) rfl ?_
 (conv => whnf)
 refine split_intro (fun h1 => ?_) (fun h1 => ?_)
 ·have h1' : ¬ List.getLast? l = some 47 := by simpa using h1
  rw [if_neg h1', decide_eq_false h1']
  (conv => whnf)
  exact Wk.refl _
 ·have h1' : List.getLast? l = some 47 := by simpa using h1
  have hp : 1 ≤ l.length := by cases l with | nil => simp at h1' | cons => simp
  rw [if_pos h1', decide_eq_true h1']
  (conv => whnf)
  refine ⟨_, sub64 (c := ((l.length - 1 : Nat) : Int)) (by omega) (by omega), ?_⟩
  (conv => whnf)
  refine ⟨sB l.dropLast, ⟨by omega, by omega, by omega, by rw [ext_prt]; congr 1; simp only [prt]; rw [← dropLast_take]; rfl⟩, ?_⟩
  (conv => whnf)
  exact Wk.refl _
theorem csuf_ [Go.AL.MX] (l : Str) (hl : l.length < 4294967281) : FCall Tryd.prog Gl 45 [sD l, sD [47]] [] (.tuple [sD (if l.getLast? = some 47 then l.dropLast else l), vB (decide (l.getLast? = some 47))]) [] := by
 refine FCall.enterL hT hmix [] Tryd.func45 rfl rfl rfl fun hbd => ?_
 (conv => whnf)
 refine CallLeaf.wa (csuf0_ l hl) rfl ?_
 (conv => whnf)
 exact Wk.refl _
theorem hpre_ [Go.AL.MX] (l : Str) (hl : l.length < 4294967281) : FCall Tryd.prog Gl 69 [sD l, sD [47]] [] (vB (decide (l.head? = some 47))) [] := by
 have hs := sB_sz l
 have h1s := len1
 refine FCall.enterL hT hmix [] Tryd.func69 rfl rfl rfl fun hbd => ?_
 (conv => whnf)
 refine split_intro (fun h1 => ?_) (fun h1 => ?_)
 ·have h1' := of_decide_eq_true h1
  have h1' : 1 ≤ l.length := by omega
  (conv => whnf)
  refine ⟨sB (l.take 1), ⟨by omega, by omega, by omega, by rw [ext_prt]; rfl⟩, ?_⟩
  (conv => whnf)
  refine Wk.bool ?_
  rw [Bool.eq_iff_iff]
  simp only [decide_eq_true_eq]
  cases l with
  | nil => simp at h1'
  | cons x r =>
   simp only [List.take_succ_cons, List.take_zero, List.head?_cons, Option.some.injEq]
   simp
 ·have h1' := of_decide_eq_false h1
  have e : l = [] := List.eq_nil_of_length_eq_zero (by omega)
  subst e
  (conv => whnf)
  exact Wk.refl _
theorem cpre0_ [Go.AL.MX] (l : Str) (hl : l.length < 4294967281) : FCall Tryd.prog Gl 63 [sD l, sD [47]] [] (.tuple [sD (if l.head? = some 47 then l.tail else l), vB (decide (l.head? = some 47))]) [] := by
 have hs := sB_sz l
 have h1s := len1
 refine FCall.enterL hT hmix [] Tryd.func63 rfl rfl rfl fun hbd => ?_
 (conv => whnf)
 refine CallLeaf.wa (hpre_ l hl) rfl ?_
 (conv => whnf)
 refine split_intro (fun h1 => ?_) (fun h1 => ?_)
 ·have h1' : ¬ l.head? = some 47 := by simpa using h1
  rw [if_neg h1', decide_eq_false h1']
  (conv => whnf)
  exact Wk.refl _
 ·have h1' : l.head? = some 47 := by simpa using h1
  have hp : 1 ≤ l.length := by cases l with | nil => simp at h1' | cons => simp
  rw [if_pos h1', decide_eq_true h1']
  (conv => whnf)
  refine ⟨sB l.tail, ⟨by omega, by omega, by omega, by rw [ext_prt]; congr 1; simp only [prt]; rw [hs, List.take_of_length_le (by omega)]; simp [len1]⟩, ?_⟩
  (conv => whnf)
  exact Wk.refl _
theorem cpre_ [Go.AL.MX] (l : Str) (hl : l.length < 4294967281) : FCall Tryd.prog Gl 46 [sD l, sD [47]] [] (.tuple [sD (if l.head? = some 47 then l.tail else l), vB (decide (l.head? = some 47))]) [] := by
 refine FCall.enterL hT hmix [] Tryd.func46 rfl rfl rfl fun hbd => ?_
 (conv => whnf)
 refine CallLeaf.wa (cpre0_ l hl) rfl ?_
 (conv => whnf)
 exact Wk.refl _
end Go.Proofs.YtimnnknfcfongaaDoor.H

namespace Go.Proofs.YtimnnknfcfongaaDoor.H
open Go Go.AL Go.AL.Hd Go.AL.Ln
set_option maxRecDepth 100000
set_option maxHeartbeats 8000000
abbrev eLn (p : Nat × Str) : List D := [vI p.1, sD p.2]
theorem lines_ [Go.AL.MX] (t : Str) : FCall Tryd.prog Gl 43 [LB t] [] (.func (.func 59) [] [.ptr 0 0]) [.cells [LB t]] := by
 refine FCall.enterO hT hmix [] Tryd.func43 rfl rfl rfl fun hbd => ?_
 (conv => whnf)
 refine ⟨[0], rfl, by (try unfold pullOk); (repeat' (first | exact trivial | exact ObWk.refl _ | refine And.intro ?_ ?_ | unfold pullOk)), ?_⟩
 (conv => whnf)
 exact Wk.refl _
theorem cutI_none {t : Str} (h : cut2 t = none) : cutI t = -1 := by unfold cutI; rw [h]
theorem cutI_some {t a b : Str} (h : cut2 t = some (a, b)) : cutI t = (a.length : Int) := by unfold cutI; rw [h]
theorem cut_drop {t a b : Str} {k : Nat} (h : cut2 (t.drop k) = some (a, b)) : b = t.drop (k + a.length + 2) ∧ k + a.length + 2 ≤ t.length ∧ prt t k (k + a.length) = a := by
 have h1 := cut2_some h
 have h2 := congrArg List.length h1
 simp only [List.length_drop, List.length_append, List.length_cons] at h2
 have h3 : k + a.length + 2 ≤ t.length := by omega
 have h4 : List.drop (a.length + 2) (a ++ 47 :: 10 :: b) = b := by rw [List.drop_append]; simp
 refine ⟨?_, h3, ?_⟩
 ·have := congrArg (List.drop (a.length + 2)) h1
  rw [List.drop_drop, h4] at this
  rw [Nat.add_assoc]
  exact this.symm
 ·unfold prt
  rw [List.drop_take, h1]
  simp
theorem iter_ [Go.AL.MX] (t : Str) (hl : t.length < 4294967281) : IterSpec Tryd.prog Gl 59 (.cells [LB t]) eLn (linesP 0 t) := by
 refine ⟨⟨_, Tryd.func59, by kernel_rfl, by kernel_rfl⟩, fun l B ok HY => ?_⟩
 refine FCall.enterO hT hmix [] Tryd.func59 rfl rfl rfl fun hbd => ?_
 (conv => whnf)
 refine LWp.loop hT hmix [] (fun x : List (Nat × Str) × Nat => [(3, vI x.2)]) (fun x => [(0, .bag (B x.1))]) (fun x => x.2 ≤ t.length ∧ linesP 0 t = x.1 ++ linesP x.2 (t.drop x.2) ∧ (∀ p y s, x.1 = p ++ y :: s → ok (p ++ [y]) = true) ∧ visitR ok [] (linesP 0 t) = visitR ok x.1 (linesP x.2 (t.drop x.2))) (fun x => t.length - x.2) ([], 0) ⟨Nat.zero_le _, rfl, (fun p y s h => by simp at h), rfl⟩ ?_
 (conv => whnf)
 refine ⟨?_, fun ⟨pre, k⟩ ⟨hk, hx, hok, hv⟩ => ?_⟩
 ·(repeat' (first | exact trivial | exact Wk.refl _ | exact ObWk.refl _ | exact rfl | exact ⟨_, rfl⟩ | exact Nat.zero_lt_one | refine And.intro ?_ ?_ | unfold okTo | (unfold okO; conv => whnf) | (unfold okS; conv => whnf) | (unfold SlotOk; conv => whnf) | (unfold ObjOk; conv => whnf) | (unfold okCells; conv => whnf) | (unfold liveTo; conv => whnf) | exact Nat.zero_lt_succ _))
 ·(conv => whnf)
  refine split_intro (fun h => ?_) (fun h => ?_)
  ·have hlt : k < t.length := by have := of_decide_eq_true h; simp only [List.length_map] at this; omega
   have hne : t.drop k ≠ [] := fun e => by have := congrArg List.length e; simp at this; omega
   have hdl : (t.drop k).length < 4294967281 := by simp; omega
   (conv => whnf)
   refine ⟨(t.drop k).map byteD, slL (by omega) (by simp; omega) (by simp) (fun _ => rfl) (by simp), ?_⟩
   (conv => whnf)
   refine CallLeaf.wa (bindex_ (t.drop k) .any .any hdl) rfl ?_
   cases hc : cut2 (t.drop k) with
   | none =>
    have hxs := linesP_none (k := k) hc
    rw [if_neg hne] at hxs
    have HYx := HY pre (k, t.drop k ++ [47]) [] (by rw [hx, hxs]) hok
    have hvv : visitR ok pre (linesP k (t.drop k)) = pre ++ [(k, t.drop k ++ [47])] := by
     rw [hxs]; simp only [visitR]; cases ok (pre ++ [(k, t.drop k ++ [47])]) <;> rfl
    rw [hv, hvv, cutI_none hc]
    (conv => whnf)
    refine ⟨(t.drop k).map byteD, slL (by omega) (by simp; omega) (by simp) (fun _ => rfl) (by simp), ?_⟩
    (conv => whnf)
    refine ⟨t.drop k, rfl, ?_⟩
    (conv => whnf)
    refine ⟨sB (t.drop k ++ [47]), ⟨by rw [sB_sz]; show (t.drop k).length + 1 ≤ _; omega, sB_ap _ _⟩, ?_⟩
    (conv => whnf)
    refine YLeaf.o [0] (by (repeat' (first | exact ArgsTo.nil | refine ArgsTo.cons ?_ ?_ | exact ArgTo.mk' rfl (Wk.refl _) | exact ArgTo.mk' rfl Wk.nilm | exact ArgTo.mk' rfl (Wk.int (by simp)) | exact ArgTo.mk' rfl (Wk.list _ _) | exact ArgTo.mk' rfl (Wk.agg (by (repeat' (first | exact Wks.nil | refine Wks.cons ?_ ?_ | exact Wk.refl _ | exact Wk.nilm | exact Wk.list _ _  | exact Wk.natN rfl | refine Wk.agg ?_))))))) (HYx) rfl rfl (by (repeat' (first | exact trivial | exact rfl | refine And.intro ?_ ?_))) (by (repeat' (first | exact trivial | exact rfl | refine And.intro ?_ ?_))) (by (repeat' (first | exact trivial | exact rfl | refine And.intro ?_ ?_))) rfl rfl ?_
    (conv => whnf)
    refine ⟨[0, 1], rfl, by (try unfold pullOk); (repeat' (first | exact trivial | exact ObWk.refl _ | refine And.intro ?_ ?_ | unfold pullOk)), ?_⟩
    exact Wk.refl _
   | some q =>
    obtain ⟨a, b⟩ := q
    obtain ⟨hb, hkb, ha⟩ := cut_drop hc
    have hxs := linesP_some (k := k) hc
    have HYx := HY pre (k, a) (linesP (k + a.length + 2) b) (by rw [hx, hxs]) hok
    rw [cutI_some hc]
    (conv => whnf)
    refine ⟨_, add64 (c := ((k + a.length : Nat) : Int)) (by show (k : Int) + (a.length : Int) = _; omega) (by omega), ?_⟩
    (conv => whnf)
    refine ⟨a.map byteD, slL (by show 0 ≤ (k : Int); omega) (by show (k : Int) ≤ _; omega) (by simp; omega) (fun _ => rfl) (by show (t.take (k + a.length)).drop k = a; exact ha), ?_⟩
    (conv => whnf)
    refine ⟨a, rfl, ?_⟩
    (conv => whnf)
    refine YLeaf.o [0] (by (repeat' (first | exact ArgsTo.nil | refine ArgsTo.cons ?_ ?_ | exact ArgTo.mk' rfl (Wk.refl _) | exact ArgTo.mk' rfl Wk.nilm | exact ArgTo.mk' rfl (Wk.int (by simp)) | exact ArgTo.mk' rfl (Wk.list _ _) | exact ArgTo.mk' rfl (Wk.agg (by (repeat' (first | exact Wks.nil | refine Wks.cons ?_ ?_ | exact Wk.refl _ | exact Wk.nilm | exact Wk.list _ _  | exact Wk.natN rfl | refine Wk.agg ?_))))))) (HYx) rfl rfl (by (repeat' (first | exact trivial | exact rfl | refine And.intro ?_ ?_))) (by (repeat' (first | exact trivial | exact rfl | refine And.intro ?_ ?_))) (by (repeat' (first | exact trivial | exact rfl | refine And.intro ?_ ?_))) rfl rfl ?_
    (conv => whnf)
    have hvv : visitR ok [] (linesP 0 t) = match ok (pre ++ [(k, a)]) with | true => visitR ok (pre ++ [(k, a)]) (linesP (k + a.length + 2) b) | false => pre ++ [(k, a)] := by rw [hv, hxs]; rfl
    cases ho : ok (pre ++ [(k, a)]) with
    | true =>
     rw [ho] at hvv
     (conv => whnf)
     refine ⟨_, add64 (c := ((a.length + 2 : Nat) : Int)) (by omega) (by omega), ?_⟩
     (conv => whnf)
     refine ⟨_, add64 (c := ((k + a.length + 2 : Nat) : Int)) (by show (k : Int) + _ = _; omega) (by omega), ?_⟩
     (conv => whnf)
     refine ⟨(pre ++ [(k, a)], k + a.length + 2), ⟨⟨by omega, by rw [hx, hxs, ← hb]; simp, ?_, by rw [hvv, ← hb]⟩, by show t.length - (k + a.length + 2) < t.length - k; omega⟩, ?_⟩
     ·intro p y s h
      replace h : pre ++ [(k, a)] = p ++ y :: s := h
      rcases List.eq_nil_or_concat s with rfl | ⟨s', z, rfl⟩
      ·have := List.append_inj' h rfl
       obtain ⟨e1, e2⟩ := this
       simp at e2
       rw [← e1, ← e2]; exact ho
      ·have e3 : pre ++ [(k, a)] = (p ++ y :: s') ++ [z] := by rw [h]; simp
       exact hok p y s' (List.append_inj' e3 rfl).1
     ·(repeat' (first | exact trivial | exact Wk.refl _ | exact ObWk.refl _ | exact rfl | exact ⟨_, rfl⟩ | exact Nat.zero_lt_one | refine And.intro ?_ ?_ | unfold okTo | (unfold okO; conv => whnf) | (unfold okS; conv => whnf) | (unfold SlotOk; conv => whnf) | (unfold ObjOk; conv => whnf) | (unfold okCells; conv => whnf) | (unfold liveTo; conv => whnf) | exact Nat.zero_lt_succ _))
    | false =>
     rw [ho] at hvv
     rw [hvv]
     (conv => whnf)
     refine ⟨[0, 1], rfl, by (try unfold pullOk); (repeat' (first | exact trivial | exact ObWk.refl _ | refine And.intro ?_ ?_ | unfold pullOk)), ?_⟩
     exact Wk.refl _
  ·have hk' : k = t.length := by have := of_decide_eq_false h; simp only [List.length_map] at this; omega
   subst hk'
   have e0 : linesP t.length (t.drop t.length) = [] := by rw [List.drop_length]; exact linesP_none rfl
   rw [hv, e0]
   (conv => whnf)
   refine ⟨[0, 1], rfl, by (try unfold pullOk); (repeat' (first | exact trivial | exact ObWk.refl _ | refine And.intro ?_ ?_ | unfold pullOk)), ?_⟩
   exact Wk.refl _
end Go.Proofs.YtimnnknfcfongaaDoor.H

namespace Go.Proofs.YtimnnknfcfongaaDoor.H
open Go Go.AL Go.AL.Hd Go.AL.Ln
set_option maxRecDepth 100000
set_option maxHeartbeats 8000000
abbrev okL (p : List (Nat × Str)) : Bool := p.all fun x => validN x.2
abbrev pvL (p : List (Nat × Str)) : List Str := (p.map (·.2)).takeWhile validN
theorem pvL_ok : ∀ {p : List (Nat × Str)}, okL p = true → pvL p = p.map (·.2)
 | [], _ => rfl
 | x :: p, h => by
  simp only [okL, List.all_cons, Bool.and_eq_true] at h
  have := pvL_ok (p := p) h.2
  simp only [pvL, List.map_cons, List.takeWhile_cons, h.1, if_true] at this ⊢
  rw [this]
theorem pvL_bad {p : List (Nat × Str)} {x : Nat × Str} (h : okL p = true) (hx : validN x.2 = false) : pvL (p ++ [x]) = p.map (·.2) := by
 have := pvL_ok h
 simp only [pvL, List.map_append, List.map_cons, List.map_nil] at this ⊢
 rw [List.takeWhile_append, this]
 simp [hx]
theorem okL_snoc (p : List (Nat × Str)) (x : Nat × Str) : okL (p ++ [x]) = (okL p && validN x.2) := by simp [okL]
abbrev coE (p : List (Nat × Str)) : So := [(0, .cells [.nil]), (8, .cells [vI (if okL p then 0 else 7)]), (512, .cells [.list (.tok 403) ((pvL p).map eS)]), (403, .tok ((pvL p).map eS).length 1)]
abbrev juE (p : List (Nat × Str)) : Exit := if okL p then .normal else .ret
theorem pre_ok {p : List (Nat × Str)} (h : ∀ a y s, p = a ++ y :: s → juE (a ++ [y]) = .normal) : okL p = true := by
 rcases List.eq_nil_or_concat p with rfl | ⟨a, y, rfl⟩
 ·rfl
 ·have := h a y [] (by simp)
  cases ho : okL (a ++ [y]) with
  | true => simpa using ho
  | false => rw [juE, ho] at this; simp at this
theorem visitE : ∀ (r pre : List (Nat × Str)), okL pre = true → (okL (visitR (fun p => (jcode (juE p)).isNone) pre r) = true → visitR (fun p => (jcode (juE p)).isNone) pre r = pre ++ r) ∧
  (okL (visitR (fun p => (jcode (juE p)).isNone) pre r) = false → okL (pre ++ r) = false)
 | [], pre, h => by simp [visitR, h]
 | x :: r, pre, h => by
  have e : (jcode (juE (pre ++ [x]))).isNone = okL (pre ++ [x]) := by cases ho : okL (pre ++ [x]) <;> simp only [juE, ho] <;> rfl
  simp only [visitR, e]
  cases ho : okL (pre ++ [x]) with
  | true =>
   have := visitE r (pre ++ [x]) ho
   simpa using this
  | false =>
   simp only []
   refine ⟨fun h2 => by rw [ho] at h2; simp at h2, fun _ => ?_⟩
   have := ho
   simp only [okL, List.all_append, List.all_cons, List.all_nil, Bool.and_true, Bool.and_eq_false_iff] at this ⊢
   rcases this with h | h
   ·exact .inl h
   ·exact .inr (.inl h)
theorem ent_ok {t : Str} (h : okL (linesP 0 t) = true) : entR t = ((linesP 0 t).map (·.2), 0) := by
 unfold entR; rw [ent_lines _ 0 (Nat.le_refl _), if_pos h]
theorem ent_bad {t : Str} (h : okL (linesP 0 t) = false) : entR t = ([], 7) := by
 unfold entR; rw [ent_lines _ 0 (Nat.le_refl _), if_neg (by have h' : ((linesP 0 t).all fun p => validN p.snd) = false := h; rw [h']; simp)]
theorem entries_ [Go.AL.MX] (t : Str) (hl : t.length < 4294967280) : FCall Tryd.prog Gl 18 [LB t] [] (.tuple [LSn (entR t).1, vI (entR t).2]) [] := by
 refine FCall.enterM hT hmix [] Tryd.func18 rfl rfl rfl fun hbd base => ?_
 (conv => whnf)
 refine CallLeaf.oa [1032] (lines_ t) rfl rfl rfl rfl ?_
 (conv => whnf)
 have hL := lines_len _ 0 (Nat.le_refl t.length)
 refine LWp.rangeFunc hT hmix rfl [] [] 400000 1032 [8] coE juE (iter_ t (by omega)) (fun _ => rfl) (fun _ => rfl) rfl (fun p => by cases h : okL p <;> simp [juE, h, jok]) rfl rfl rfl rfl (by simp) rfl (fun p => ?_) ?_
 ·(repeat' (first | exact trivial | exact rfl | refine And.intro ?_ ?_ | (conv => whnf)))
 ·(conv => whnf)
  refine ⟨?_, ?_, ?_, fun pre x r he hn => ?_, fun v hv => ?_⟩
  ·(repeat' (first | exact trivial | exact Wk.refl _ | exact ObWk.refl _ | exact rfl | exact ⟨_, rfl⟩ | exact Nat.zero_lt_one | refine And.intro ?_ ?_ | unfold okTo | (unfold okO; conv => whnf) | (unfold okS; conv => whnf) | (unfold SlotOk; conv => whnf) | (unfold ObjOk; conv => whnf) | (unfold okCells; conv => whnf) | (unfold liveTo; conv => whnf) | exact Nat.zero_lt_succ _))
  ·(repeat' (first | exact trivial | exact rfl | refine And.intro ?_ ?_ | (conv => whnf)))
  ·(repeat' (first | exact trivial | exact rfl | refine And.intro ?_ ?_ | (conv => whnf)))
  ·have hok := pre_ok hn
   have hmem : x ∈ linesP 0 t := by rw [he]; simp
   have hval : x.2.length < 4294967281 := by have := (hL.2 x hmem).1; omega
   have hpl : pre.length + 1 ≤ t.length := by have := hL.1; rw [he] at this; simp at this; omega
   (conv => whnf)
   refine CallLeaf.wa (lvalid_ x.2 hval) rfl ?_
   (conv => whnf)
   cases hx : validN x.2 with
   | false =>
    have e1 : okL (pre ++ [x]) = false := by rw [okL_snoc, hx]; simp
    have e2 := pvL_bad hok hx
    have eC : coE (pre ++ [x]) = [(0, .cells [.nil]), (8, .cells [vI 7]), (512, .cells [.list (.tok 403) ((pvL pre).map eS)]), (403, .tok ((pvL pre).map eS).length 1)] := by simp only [coE, e1, e2, pvL_ok hok]; rfl
    (conv => whnf)
    refine ⟨by simp only [juE, e1]; rfl, ?_⟩
    rw [eC]
    (repeat' (first | exact trivial | exact Wk.refl _ | exact ObWk.refl _ | exact rfl | exact ⟨_, rfl⟩ | exact Nat.zero_lt_one | refine And.intro ?_ ?_ | unfold okToR | (unfold liveKs; conv => whnf) | (unfold okO; conv => whnf) | (unfold okS; conv => whnf) | (unfold SlotOk; conv => whnf) | (unfold ObjOk; conv => whnf) | (unfold okCells; conv => whnf) | exact Nat.zero_lt_succ _))
   | true =>
    have e1 : okL (pre ++ [x]) = true := by rw [okL_snoc, hx, hok]; rfl
    have e2 := pvL_ok e1
    have eC : coE (pre ++ [x]) = [(0, .cells [.nil]), (8, .cells [vI 0]), (512, .cells [.list (.tok 403) ((pvL pre ++ [x.2]).map eS)]), (403, .tok ((pvL pre ++ [x.2]).map eS).length 1)] := by simp only [coE, e1, e2, pvL_ok hok, List.map_append, List.map_cons, List.map_nil]; rfl
    have eD : coE pre = [(0, .cells [.nil]), (8, .cells [vI 0]), (512, .cells [.list (.tok 403) ((pvL pre).map eS)]), (403, .tok ((pvL pre).map eS).length 1)] := by simp only [coE, hok]; rfl
    (conv => whnf)
    refine ⟨_, appL (f := eS) (xs := pvL pre) (ys := [x.2]) (zs := pvL pre ++ [x.2]) (by simp) rfl (fun _ => rfl) rfl (by rw [pvL_ok hok]; show _ * 16 ≤ _; simp; omega), ?_⟩
    (conv => whnf)
    refine ⟨by simp only [juE, e1]; rfl, ?_⟩
    rw [eC, eD]
    (repeat' (first | exact trivial | exact Wk.refl _ | exact ObWk.refl _ | exact rfl | exact ⟨_, rfl⟩ | exact Nat.zero_lt_one | refine And.intro ?_ ?_ | unfold okToR | (unfold liveKs; conv => whnf) | (unfold okO; conv => whnf) | (unfold okS; conv => whnf) | (unfold SlotOk; conv => whnf) | (unfold ObjOk; conv => whnf) | (unfold okCells; conv => whnf) | exact Nat.zero_lt_succ _))
  ·obtain ⟨hv1, hv2⟩ := visitE (linesP 0 t) [] rfl
   rw [← hv] at hv1 hv2
   have hok : okL v = true ∨ okL v = false := by cases okL v <;> simp
   rcases hok with hok | hok
   ·have e3 := hv1 hok
    simp only [List.nil_append] at e3
    rw [show juE v = .normal by simp [juE, hok]]
    have e4 := pvL_ok hok
    rw [ent_ok (by rw [← e3]; exact hok), ← e3, ← e4]
    (conv => whnf)
    refine ⟨[], rfl, by (try unfold pullOk); (repeat' (first | exact trivial | exact ObWk.refl _ | refine And.intro ?_ ?_ | unfold pullOk)), ?_⟩
    (conv => whnf)
    exact Wk.tuple (Wks.cons (Wk.refl _) (Wks.cons (Wk.refl _) Wks.nil))
   ·have e3 := hv2 hok
    rw [show juE v = .ret by simp [juE, hok], ent_bad (by simpa using e3)]
    (conv => whnf)
    refine ⟨[], rfl, by (try unfold pullOk); (repeat' (first | exact trivial | exact ObWk.refl _ | refine And.intro ?_ ?_ | unfold pullOk)), ?_⟩
    rw [hok]
    (conv => whnf)
    exact Wk.tuple (Wks.cons (Wk.natN rfl) (Wks.cons (Wk.refl _) Wks.nil))
end Go.Proofs.YtimnnknfcfongaaDoor.H

namespace Go.Proofs.YtimnnknfcfongaaDoor.H
open Go Go.AL Go.AL.Hd Go.AL.Ln
set_option maxRecDepth 100000
set_option maxHeartbeats 8000000
abbrev Few (ns : List Str) : Prop := ns.length ≤ 100000 ∧ ∀ n ∈ ns, n.length ≤ 100000
theorem few_tab {ns : List Str} (h : Few ns) (k : Nat) : (tabP (longs (ns.take k))).length ≤ 10000200000 := by
 have h1 := tabP_len (l := longs (ns.take k)) (c := 100000) fun n hn => h.2 n (List.mem_of_mem_take (longs_mem hn))
 have h2 := longs_len (ns.take k)
 have h3 : (ns.take k).length ≤ 100000 := by have := h.1; simp; omega
 have := Nat.mul_le_mul_right 100002 (show (longs (ns.take k)).length ≤ 100000 by omega)
 omega
theorem take_snoc {α : Type} {l : List α} {k : Nat} {x : α} (h : l[k]? = some x) : l.take (k + 1) = l.take k ++ [x] := by
 rw [List.take_add_one, h]; rfl
end Go.Proofs.YtimnnknfcfongaaDoor.H
