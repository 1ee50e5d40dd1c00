/- Headers: the references read. No condition. -/
import Derived.Test.YtenbpnlmpjndgaaGreatDoorCAc
import Derived.Test.YtenbpnlmpjndgaaGreatDoorCWa
import Derived.KernelRfl
import Derived.Shelf.Small.Strs
import Derived.Shelf.Strings.Trim
import Derived.Shelf.Small.Wraps
import Derived.Ground.NamesProg
import Derived.Test.YtenbpnlmpjndgaaGreatDoorCPa
import Derived.Shelf.Strings.IndexAnyAll
import Derived.Shelf.Bytes.SlIndexWhole
import Derived.Shelf.Strings.Search3
set_option linter.unusedVariables false
set_option linter.unusedSimpArgs false
namespace Go.Proofs.YtenbpnlmpjndgaaGreatDoor.H
open Go Go.AL Go.AL.Hd
set_option maxRecDepth 100000
set_option maxHeartbeats 4000000
theorem rparse_ [Go.AL.MX] (b : Nat) (hb : b = 8 ∨ b = 10) (l : List UInt8) : FCall Tryz.prog Gl 91 [LB l, vI b] [] (.tuple [vI (parseR b l).1, vI (parseR b l).2]) [] := by
 have B := based_ b
 rw [based_of hb] at B
 have hb2 : 2 ≤ b := by omega
 have hb10 : b ≤ 10 := by omega
 refine FCall.enterL hT hmix [5] Tryz.func91 rfl rfl rfl fun hbd => ?_
 have ha := bds_list hbd (.head _)
 (conv => whnf)
 refine CallLeaf.wa (B) rfl ?_
 (conv => whnf)
 refine split_intro (fun g1 => ?_) (fun g1 => ?_)
 ·have e : parseR b l = (0, 13) := by have := of_decide_eq_true g1; simp only [List.length_map] at this; unfold parseR; rw [if_pos (by omega)]
  rw [e]
  (conv => whnf)
  refine Wk.tuple (Wks.cons (Wk.refl _) (Wks.cons (Wk.refl _) Wks.nil))
 ·have g1' := of_decide_eq_false g1
  simp only [List.length_map] at g1'
  (conv => whnf)
  refine split_intro (fun g2 => ?_) (fun g2 => ?_)
  ·have e : parseR b l = (0, 13) := by have := of_decide_eq_true g2; simp only [List.length_map] at this; unfold parseR; rw [if_pos (by omega)]
   rw [e]
   (conv => whnf)
   refine Wk.tuple (Wks.cons (Wk.refl _) (Wks.cons (Wk.refl _) Wks.nil))
  ·have g2' := of_decide_eq_false g2
   simp only [List.length_map] at g2'
   have e0 : parseR b l = opR (pf b l) := by unfold parseR; rw [if_neg (by omega)]
   rw [e0]
   (conv => whnf)
   refine LWp.cut hT hmix [] [] (fun k : Nat => [(6, vI (val b (l.take k))), (7, vI k)]) (fun _ => []) [] (fun k => k ≤ l.length ∧ (l.take k).all (isd b) = true ∧ (∀ c, l[k]? = some c → isd b c = false)) ?_
   (conv => whnf)
   refine ⟨?_, fun k ⟨hk, hd, hn⟩ => ?_⟩
   ·refine LWp.loop hT hmix [] (fun k : Nat => [(6, vI (val b (l.take k))), (7, vI k)]) (fun _ => []) (fun k => k ≤ l.length ∧ (l.take k).all (isd b) = true) (fun k => l.length - k) 0 ⟨Nat.zero_le _, rfl⟩ ?_
    (conv => whnf)
    refine ⟨?_, fun k ⟨hk, hd⟩ => ?_⟩
    ·(repeat' (first | exact trivial | exact Wk.refl _ | exact ObWk.refl _ | exact rfl | exact ⟨_, rfl⟩ | exact Nat.zero_lt_one | refine And.intro ?_ ?_ | unfold okTo | (unfold okO; conv => whnf) | (unfold okS; conv => whnf) | (unfold SlotOk; conv => whnf) | (unfold ObjOk; conv => whnf) | (unfold okCells; conv => whnf) | (unfold liveTo; conv => whnf) | exact Nat.zero_lt_succ _))
    ·(conv => whnf)
     refine split_intro (fun h => ?_) (fun h => ?_)
     ·have hlt : k < l.length := by have := of_decide_eq_true h; simp only [List.length_map] at this; omega
      obtain ⟨x, hx⟩ : ∃ x, l[k]? = some x := ⟨_, List.getElem?_eq_getElem hlt⟩
      have hnx : isd b x = false → ∀ c, l[k]? = some c → isd b c = false := fun h c hc => by rw [hx] at hc; injection hc with hc; rw [← hc]; exact h
      (conv => whnf)
      refine ⟨_, ⟨by omega, getMap hx⟩, ?_⟩
      (conv => whnf)
      refine split_intro (fun h3 => ?_) (fun h3 => ?_)
      ·have h48 : 48 ≤ x.toNat := by have := of_decide_eq_true h3; omega
       (conv => whnf)
       refine ⟨_, ⟨by omega, getMap hx⟩, ?_⟩
       (conv => whnf)
       refine ⟨_, wrap64 (by have := x.toNat_lt; omega), ?_⟩
       (conv => whnf)
       refine ⟨_, sub64 (c := ((x.toNat - 48 : Nat) : Int)) (by omega) (by have := x.toNat_lt; omega), ?_⟩
       (conv => whnf)
       refine split_intro (fun h4 => ?_) (fun h4 => ?_)
       ·have hlb : x.toNat - 48 < b := by have := of_decide_eq_true h4; omega
        have hix : isd b x = true := isd_iff.2 ⟨h48, hlb⟩
        have hd2 : (l.take (k + 1)).all (isd b) = true := by rw [List.take_add_one, hx]; simp [hd, hix]
        have ev := val_take_succ (b := b) hx
        have vl := val_lt hb2 (l.take (k + 1)) (List.all_eq_true.1 hd2)
        have pw := pow_le (b := b) (k := (l.take (k + 1)).length) hb10 (by rw [List.length_take]; omega)
        have hv1 : val b (l.take k) * b ≤ 1000000000000000000 := by omega
        (conv => whnf)
        refine ⟨_, mul64 (c := ((val b (l.take k) * b : Nat) : Int)) (by omega) (by omega), ?_⟩
        (conv => whnf)
        refine ⟨_, ⟨by omega, getMap hx⟩, ?_⟩
        (conv => whnf)
        refine ⟨_, wrap64 (by have := x.toNat_lt; omega), ?_⟩
        (conv => whnf)
        refine ⟨_, add64 (c := ((val b (l.take k) * b + x.toNat : Nat) : Int)) (by omega) (by have := x.toNat_lt; omega), ?_⟩
        (conv => whnf)
        refine ⟨_, sub64 (c := ((val b (l.take (k + 1)) : Nat) : Int)) (by omega) (by omega), ?_⟩
        (conv => whnf)
        refine ⟨_, add64 (c := ((k + 1 : Nat) : Int)) (by (try simp only []); omega) (by omega), ?_⟩
        (conv => whnf)
        refine ⟨k + 1, ⟨⟨by omega, hd2⟩, by simp only []; omega⟩, ?_⟩
        (repeat' (first | exact trivial | exact Wk.refl _ | exact ObWk.refl _ | exact rfl | exact ⟨_, rfl⟩ | exact Nat.zero_lt_one | refine And.intro ?_ ?_ | unfold okTo | (unfold okO; conv => whnf) | (unfold okS; conv => whnf) | (unfold SlotOk; conv => whnf) | (unfold ObjOk; conv => whnf) | (unfold okCells; conv => whnf) | (unfold liveTo; conv => whnf) | exact Nat.zero_lt_succ _))
       ·have hge : ¬ x.toNat - 48 < b := by have := of_decide_eq_false h4; omega
        (conv => whnf)
        refine ⟨k, ⟨hk, hd, hnx (by cases hq : isd b x with | false => rfl | true => have := isd_iff.1 hq; omega)⟩, ?_⟩
        (repeat' (first | exact trivial | exact Wk.refl _ | exact ObWk.refl _ | exact rfl | exact ⟨_, rfl⟩ | exact Nat.zero_lt_one | refine And.intro ?_ ?_ | unfold okTo | (unfold okO; conv => whnf) | (unfold okS; conv => whnf) | (unfold SlotOk; conv => whnf) | (unfold ObjOk; conv => whnf) | (unfold okCells; conv => whnf) | (unfold liveTo; conv => whnf) | exact Nat.zero_lt_succ _))
      ·have h48 : ¬ 48 ≤ x.toNat := by have := of_decide_eq_false h3; omega
       (conv => whnf)
       refine ⟨k, ⟨hk, hd, hnx (by cases hq : isd b x with | false => rfl | true => have := isd_iff.1 hq; omega)⟩, ?_⟩
       (repeat' (first | exact trivial | exact Wk.refl _ | exact ObWk.refl _ | exact rfl | exact ⟨_, rfl⟩ | exact Nat.zero_lt_one | refine And.intro ?_ ?_ | unfold okTo | (unfold okO; conv => whnf) | (unfold okS; conv => whnf) | (unfold SlotOk; conv => whnf) | (unfold ObjOk; conv => whnf) | (unfold okCells; conv => whnf) | (unfold liveTo; conv => whnf) | exact Nat.zero_lt_succ _))
     ·have hge : k = l.length := by have := of_decide_eq_false h; simp only [List.length_map] at this; omega
      (conv => whnf)
      refine ⟨k, ⟨hk, hd, fun c hc => by rw [hge, List.getElem?_eq_none (Nat.le_refl _)] at hc; simp at hc⟩, ?_⟩
      (repeat' (first | exact trivial | exact Wk.refl _ | exact ObWk.refl _ | exact rfl | exact ⟨_, rfl⟩ | exact Nat.zero_lt_one | refine And.intro ?_ ?_ | unfold okTo | (unfold okO; conv => whnf) | (unfold okS; conv => whnf) | (unfold SlotOk; conv => whnf) | (unfold ObjOk; conv => whnf) | (unfold okCells; conv => whnf) | (unfold liveTo; conv => whnf) | exact Nat.zero_lt_succ _))
   ·have pfa := pf_at hk hd hn
    have vl := val_lt hb2 (l.take k) (List.all_eq_true.1 hd)
    have pw := pow_le (b := b) (k := (l.take k).length) hb10 (by rw [List.length_take]; omega)
    have F := format_ (val b (l.take k)) b l.length hb (by omega) (by omega) (by omega)
    have hnone : fmt b l.length (val b (l.take k)) ≠ some l → pf b l = none := fun h => by
     cases hp : pf b l with
     | none => rfl
     | some n =>
      rw [pfa] at hp
      split at hp
      ·injection hp with hp; subst hp
       exact absurd ((pf_iff_fmt hb2 hb10).1 (by rw [pfa, if_pos (by assumption)])) h
      ·simp at hp
    (conv => whnf)
    rw [show ((l.map byteD).length : Int) = ((l.length : Nat) : Int) by rw [List.length_map]]
    refine CallLeaf.wa (F) rfl ?_
    (conv => whnf)
    refine split_intro (fun q1 => ?_) (fun q1 => ?_)
    ·obtain rfl : k = 0 := by have := eq_of_beq q1; omega
     have e : pf b l = none := by rw [pfa, if_neg (by simp)]
     rw [e]
     (conv => whnf)
     refine Wk.tuple (Wks.cons (Wk.refl _) (Wks.cons (Wk.refl _) Wks.nil))
    ·cases hf : fmt b l.length (val b (l.take k)) with
     | none =>
      rw [hnone (by rw [hf]; simp)]
      simp only [fmtR, hf]
      (conv => whnf)
      refine Wk.tuple (Wks.cons (Wk.refl _) (Wks.cons (Wk.refl _) Wks.nil))
     | some w =>
      simp only [fmtR, hf]
      (conv => whnf)
      refine CallLeaf.wa (O.same_ w l) rfl ?_
      (conv => whnf)
      cases he : decide (w = l) with
      | true =>
       have hw : w = l := of_decide_eq_true he
       rw [(pf_iff_fmt hb2 hb10).2 (by rw [hf, hw])]
       (conv => whnf)
       refine Wk.tuple (Wks.cons (Wk.refl _) (Wks.cons (Wk.refl _) Wks.nil))
      | false =>
       have hw : ¬ w = l := of_decide_eq_false he
       rw [hnone (by rw [hf]; simpa using hw)]
       (conv => whnf)
       refine Wk.tuple (Wks.cons (Wk.refl _) (Wks.cons (Wk.refl _) Wks.nil))
theorem number_ [Go.AL.MX] (b : Nat) (hb : b = 8 ∨ b = 10) (l : List UInt8) (bl : Bool) (hl : l.length ≤ 1000) : FCall Tryz.prog Gl 71 [LB l, vI b, vB bl] [] (.tuple [vI (numR b l bl).1, vB (numR b l bl).2]) [] := by
 refine FCall.enterL hT hmix [] Tryz.func71 rfl rfl rfl fun hbd => ?_
 (conv => whnf)
 cases bl with
 | true =>
  (conv => whnf)
  rw [show ((l.map byteD).length : Int) = ((l.length : Nat) : Int) by rw [List.length_map]]
  refine CallLeaf.wa (spaces_ l.length hl) rfl ?_
  (conv => whnf)
  refine CallLeaf.wa (O.same_ l (sp l.length)) rfl ?_
  (conv => whnf)
  exact Wk.tuple (Wks.cons (Wk.refl _) (Wks.cons (Wk.refl _) Wks.nil))
 | false =>
  (conv => whnf)
  refine CallLeaf.wa (rparse_ b hb l) rfl ?_
  (conv => whnf)
  exact Wk.tuple (Wks.cons (Wk.refl _) (Wks.cons (Wk.refl _) Wks.nil))
end Go.Proofs.YtenbpnlmpjndgaaGreatDoor.H

namespace Go.Proofs
open Go.RowKit Go.Shelf
def YtenbpnlmpjndgaaGreatDoor.lays137_ren : Go.Shelf.Ren := ⟨fun | 137 => 140 | 217 => 135 | 266 => 142 | n => n, fun | 9 => 9 | 5 => 5 | 3 => 3 | n => n, fun | n => n⟩
theorem YtenbpnlmpjndgaaGreatDoor.lays137 : Go.Proofs.Lays.n137 Tryz.prog YtenbpnlmpjndgaaGreatDoor.lays137_ren := {
 mixed := by kernel_rfl
 f137 := Tryz.func140.trans (congrArg some (by kernel_rfl))
 f217 := Tryz.func135.trans (congrArg some (by kernel_rfl))
 f266 := Tryz.func142.trans (congrArg some (by kernel_rfl))
 t3 := Tryz.underlying3
 a3 := Tryz.isAgg3
 z3 := Tryz.sizeOf3
 v3 := Tryz.zeroValue3
 t5 := Tryz.underlying5
 a5 := Tryz.isAgg5
 z5 := Tryz.sizeOf5
 v5 := Tryz.zeroValue5
 t9 := Tryz.underlying9
 a9 := Tryz.isAgg9
 z9 := Tryz.sizeOf9
 v9 := Tryz.zeroValue9 }
def YtenbpnlmpjndgaaGreatDoor.lays162_ren : Go.Shelf.Ren := ⟨fun | 162 => 93 | 232 => 112 | 227 => 113 | 234 => 114 | 236 => 115 | 228 => 129 | 271 => 130 | 151 => 131 | 120 => 138 | 197 => 139 | 152 => 133 | 260 => 144 | 137 => 140 | 119 => 141 | 224 => 123 | 225 => 136 | 217 => 135 | 266 => 142 | n => n, fun | 9 => 9 | 4 => 4 | 3 => 3 | 5 => 5 | 117 => 183 | 116 => 182 | 0 => 0 | 124 => 186 | 21 => 21 | 105 => 190 | 46 => 159 | 119 => 200 | 139 => 203 | 138 => 202 | n => n, fun | 3 => 1 | 4 => 2 | n => n⟩
theorem YtenbpnlmpjndgaaGreatDoor.lays162 : Go.Proofs.Lays.n162 Tryz.prog YtenbpnlmpjndgaaGreatDoor.lays162_ren := {
 mixed := by kernel_rfl
 f119 := Tryz.func141.trans (congrArg some (by kernel_rfl))
 f120 := Tryz.func138.trans (congrArg some (by kernel_rfl))
 f137 := Tryz.func140.trans (congrArg some (by kernel_rfl))
 f151 := Tryz.func131.trans (congrArg some (by kernel_rfl))
 f152 := Tryz.func133.trans (congrArg some (by kernel_rfl))
 f162 := Tryz.func93.trans (congrArg some (by kernel_rfl))
 f197 := Tryz.func139.trans (congrArg some (by kernel_rfl))
 f217 := Tryz.func135.trans (congrArg some (by kernel_rfl))
 f224 := Tryz.func123.trans (congrArg some (by kernel_rfl))
 f225 := Tryz.func136.trans (congrArg some (by kernel_rfl))
 f227 := Tryz.func113.trans (congrArg some (by kernel_rfl))
 f228 := Tryz.func129.trans (congrArg some (by kernel_rfl))
 f232 := Tryz.func112.trans (congrArg some (by kernel_rfl))
 f234 := Tryz.func114.trans (congrArg some (by kernel_rfl))
 f236 := Tryz.func115.trans (congrArg some (by kernel_rfl))
 f260 := Tryz.func144.trans (congrArg some (by kernel_rfl))
 f266 := Tryz.func142.trans (congrArg some (by kernel_rfl))
 f271 := Tryz.func130.trans (congrArg some (by kernel_rfl))
 t0 := Tryz.underlying0
 a0 := Tryz.isAgg0
 z0 := Tryz.sizeOf0
 v0 := Tryz.zeroValue0
 t3 := Tryz.underlying3
 a3 := Tryz.isAgg3
 z3 := Tryz.sizeOf3
 v3 := Tryz.zeroValue3
 t4 := Tryz.underlying4
 a4 := Tryz.isAgg4
 z4 := Tryz.sizeOf4
 v4 := Tryz.zeroValue4
 t5 := Tryz.underlying5
 a5 := Tryz.isAgg5
 z5 := Tryz.sizeOf5
 v5 := Tryz.zeroValue5
 t9 := Tryz.underlying9
 a9 := Tryz.isAgg9
 z9 := Tryz.sizeOf9
 v9 := Tryz.zeroValue9
 t21 := Tryz.underlying21
 a21 := Tryz.isAgg21
 z21 := Tryz.sizeOf21
 v21 := Tryz.zeroValue21
 t46 := Tryz.underlying159
 a46 := Tryz.isAgg159
 z46 := Tryz.sizeOf159
 v46 := Tryz.zeroValue159
 t105 := Tryz.underlying190
 a105 := Tryz.isAgg190
 z105 := Tryz.sizeOf190
 v105 := Tryz.zeroValue190
 t116 := Tryz.underlying182
 a116 := Tryz.isAgg182
 z116 := Tryz.sizeOf182
 t117 := Tryz.underlying183
 a117 := Tryz.isAgg183
 z117 := Tryz.sizeOf183
 v117 := Tryz.zeroValue183
 t119 := Tryz.underlying200
 a119 := Tryz.isAgg200
 z119 := Tryz.sizeOf200
 t124 := Tryz.underlying186
 a124 := Tryz.isAgg186
 z124 := Tryz.sizeOf186
 v124 := Tryz.zeroValue186
 t138 := Tryz.underlying202
 a138 := Tryz.isAgg202
 z138 := Tryz.sizeOf202
 v138 := Tryz.zeroValue202
 t139 := Tryz.underlying203
 a139 := Tryz.isAgg203
 z139 := Tryz.sizeOf203
 v139 := Tryz.zeroValue203
 g3 := by kernel_rfl
 g4 := by kernel_rfl }
end Go.Proofs
namespace Go.Proofs.YtenbpnlmpjndgaaGreatDoor.H
open Go Go.AL Go.AL.Hd
set_option maxRecDepth 100000
theorem isIndexByte : IsFn Tryz.prog 140 := ⟨_, Tryz.func140, by kernel_rfl, by kernel_rfl⟩
theorem isTrimRight : IsFn Tryz.prog 93 := ⟨_, Tryz.func93, by kernel_rfl, by kernel_rfl⟩
theorem ibyte_ [Go.AL.MX] (s : Str) (c : UInt8) : FCall Tryz.prog Gl 140 [sD s, .v (.int .u8 c.toNat)] [] (vI (Lib.indexByte s c)) [] :=
 FCall.val (xs := [.string (sB s), .int .u8 c.toNat]) isIndexByte fun w => (Any.strings_IndexByte YtenbpnlmpjndgaaGreatDoor.lays137 (sB s) (c.toNat : Int) w).mono fun e w' ⟨he, hw⟩ => ⟨by rw [he]; simp [sB], hw ▸ RowKit.Below.refl _ _⟩
theorem trim_ [Go.AL.MX] (s : Str) (hs : s.length ≤ 9223372036854775807) : FCall Tryz.prog Gl 93 [sD s, sD [32]] [] (sD (trimR s)) [] :=
 FCall.val (xs := [.string (sB s), .string (sB [32])]) isTrimRight fun w => (Any.strings_TrimRight_one YtenbpnlmpjndgaaGreatDoor.lays162 (sB s) 32 (by decide) w (by rw [sB_sz]; exact hs)).mono fun e w' ⟨he, hw⟩ => ⟨he, hw ▸ RowKit.Below.refl _ _⟩
end Go.Proofs.YtenbpnlmpjndgaaGreatDoor.H

namespace Go.Proofs
open Go.RowKit Go.Shelf
def YtenbpnlmpjndgaaGreatDoor.lays153_ren : Go.Shelf.Ren := ⟨fun | 153 => 125 | 152 => 133 | 226 => 134 | 227 => 113 | 228 => 129 | 137 => 140 | 119 => 141 | 224 => 123 | 225 => 136 | 217 => 135 | 266 => 142 | n => n, fun | 9 => 9 | 3 => 3 | 4 => 4 | 5 => 5 | 21 => 21 | 117 => 183 | 116 => 182 | 0 => 0 | 46 => 159 | 124 => 186 | n => n, fun | n => n⟩
theorem YtenbpnlmpjndgaaGreatDoor.lays153 : Go.Proofs.Lays.n153 Tryz.prog YtenbpnlmpjndgaaGreatDoor.lays153_ren := {
 mixed := by kernel_rfl
 f119 := Tryz.func141.trans (congrArg some (by kernel_rfl))
 f137 := Tryz.func140.trans (congrArg some (by kernel_rfl))
 f152 := Tryz.func133.trans (congrArg some (by kernel_rfl))
 f153 := Tryz.func125.trans (congrArg some (by kernel_rfl))
 f217 := Tryz.func135.trans (congrArg some (by kernel_rfl))
 f224 := Tryz.func123.trans (congrArg some (by kernel_rfl))
 f225 := Tryz.func136.trans (congrArg some (by kernel_rfl))
 f226 := Tryz.func134.trans (congrArg some (by kernel_rfl))
 f227 := Tryz.func113.trans (congrArg some (by kernel_rfl))
 f228 := Tryz.func129.trans (congrArg some (by kernel_rfl))
 f266 := Tryz.func142.trans (congrArg some (by kernel_rfl))
 t0 := Tryz.underlying0
 a0 := Tryz.isAgg0
 z0 := Tryz.sizeOf0
 v0 := Tryz.zeroValue0
 t3 := Tryz.underlying3
 a3 := Tryz.isAgg3
 z3 := Tryz.sizeOf3
 v3 := Tryz.zeroValue3
 t4 := Tryz.underlying4
 a4 := Tryz.isAgg4
 z4 := Tryz.sizeOf4
 v4 := Tryz.zeroValue4
 t5 := Tryz.underlying5
 a5 := Tryz.isAgg5
 z5 := Tryz.sizeOf5
 v5 := Tryz.zeroValue5
 t9 := Tryz.underlying9
 a9 := Tryz.isAgg9
 z9 := Tryz.sizeOf9
 v9 := Tryz.zeroValue9
 t21 := Tryz.underlying21
 a21 := Tryz.isAgg21
 z21 := Tryz.sizeOf21
 v21 := Tryz.zeroValue21
 t46 := Tryz.underlying159
 a46 := Tryz.isAgg159
 z46 := Tryz.sizeOf159
 v46 := Tryz.zeroValue159
 t116 := Tryz.underlying182
 a116 := Tryz.isAgg182
 z116 := Tryz.sizeOf182
 t117 := Tryz.underlying183
 a117 := Tryz.isAgg183
 z117 := Tryz.sizeOf183
 v117 := Tryz.zeroValue183
 t124 := Tryz.underlying186
 a124 := Tryz.isAgg186
 z124 := Tryz.sizeOf186
 v124 := Tryz.zeroValue186 }
end Go.Proofs
namespace Go.Proofs.YtenbpnlmpjndgaaGreatDoor.H
open Go Go.AL Go.AL.Hd Go.AL.U8
set_option maxRecDepth 100000
set_option maxHeartbeats 4000000
abbrev vR (r : Int) : D := .v (.int .i32 r)
theorem vrune_ [Go.AL.MX] (r : Int) (hv : Utf8.valid r = true) : FCall Tryz.prog Gl 141 [vR r] [] (vB true) [] := by
 refine FCall.enterL hT hmix [] Tryz.func141 rfl rfl rfl fun hbd => ?_
 simp only [Utf8.valid, Bool.or_eq_true, Bool.and_eq_true, decide_eq_true_eq] at hv
 (conv => whnf)
 refine split_intro (fun h0 => ?_) (fun h0 => ?_)
 ·(conv => whnf)
  refine split_intro (fun h1 => ?_) (fun h1 => ?_)
  ·(conv => whnf)
   exact Wk.refl _
  ·have h1' := of_decide_eq_false h1
   (conv => whnf)
   refine split_intro (fun h2 => ?_) (fun h2 => ?_)
   ·(conv => whnf)
    refine split_intro (fun h3 => ?_) (fun h3 => ?_)
    ·(conv => whnf)
     exact Wk.refl _
    ·exfalso; have := of_decide_eq_false h3; omega
   ·exfalso; have := of_decide_eq_false h2; omega
 ·exfalso; have := of_decide_eq_false h0; omega
theorem enc_moreI {r : Int} (h : 128 ≤ r) (hv : Utf8.valid r = true) : ∃ m : List UInt8, Utf8.encode r = ⟨m.toArray⟩ ∧ 2 ≤ m.length ∧ m.length ≤ 4 ∧ ∀ x ∈ m, 128 ≤ x.toNat := by
 obtain ⟨n, rfl⟩ : ∃ n : Nat, r = n := ⟨r.toNat, by omega⟩
 exact enc_more (by omega) hv
theorem ext_drop (l : Str) (n : Nat) : (sB l).extract n (sB l).size = sB (l.drop n) := by
 apply ByteArray.ext
 apply Array.ext'
 simp only [sB, ByteArray.size, ByteArray.data_extract, Array.toList_extract, List.size_toArray, List.extract_eq_take_drop]
 exact List.take_of_length_le (by simp)
theorem irA_ [Go.AL.MX] (cs : Str) (c : UInt8) (hc : c.toNat < 128) : FCall Tryz.prog Gl 133 [sD cs, vR c.toNat] [] (vI (Lib.indexByte cs c)) [] := by
 refine FCall.enterL hT hmix [] Tryz.func133 rfl rfl rfl fun hbd => ?_
 (conv => whnf)
 refine split_intro (fun h1 => ?_) (fun h1 => ?_)
 ·(conv => whnf)
  refine ⟨_, wrapU8' (u := c) (by simp), ?_⟩
  (conv => whnf)
  refine CallLeaf.wa (ibyte_ cs c) rfl ?_
  (conv => whnf)
  exact Wk.refl _
 ·exfalso; have := of_decide_eq_false h1; omega
theorem irB_ [Go.AL.MX] (cs : Str) (h2 : 2 ≤ cs.length) (h3 : cs.length ≤ 3) (has : ∀ x ∈ cs, x.toNat < 128) (r : Int) (hr : 128 ≤ r) (hv : Utf8.valid r = true) : FCall Tryz.prog Gl 133 [sD cs, vR r] [] (vI (-1)) [] := by
 have hs := sB_sz cs
 have VR := vrune_ r hv
 refine FCall.enterL hT hmix [] Tryz.func133 rfl rfl rfl fun hbd => ?_
 (conv => whnf)
 refine split_intro (fun h0 => ?_) (fun h0 => ?_)
 ·(conv => whnf)
  refine split_intro (fun h1 => ?_) (fun h1 => ?_)
  ·exfalso; have := of_decide_eq_true h1; omega
  ·(conv => whnf)
   refine split_intro (fun q => ?_) (fun q => ?_)
   ·(conv => whnf)
    refine LWp.loop hT hmix [] (fun _ : Nat => []) (fun k => [(18952, .bag (Bag.siter (sB cs) k))]) (fun k => k ≤ cs.length) (fun k => cs.length - k) 0 (Nat.zero_le _) ?_
    (conv => whnf)
    refine ⟨?_, fun k hk => ?_⟩
    ·(repeat' (first | exact trivial | exact Wk.refl _ | exact ObWk.refl _ | exact rfl | exact ⟨_, rfl⟩ | exact Nat.zero_lt_one | refine And.intro ?_ ?_ | unfold okTo | (unfold okO; conv => whnf) | (unfold okS; conv => whnf) | (unfold SlotOk; conv => whnf) | (unfold ObjOk; conv => whnf) | (unfold okCells; conv => whnf) | (unfold liveTo; conv => whnf) | exact Nat.zero_lt_succ _))
    ·by_cases hlt : k < cs.length
     ·obtain ⟨x, hx⟩ : ∃ x, cs[k]? = some x := ⟨_, List.getElem?_eq_getElem hlt⟩
      have hx8 := has x (List.mem_of_getElem? hx)
      have ed : Utf8.decode (sB cs) k = (x.toNat, 1) := dec_ascii hx hx8
      (conv => whnf)
      refine ⟨sB cs, k, rfl, .inl ⟨by rw [hs]; exact hlt, ?_⟩⟩
      (conv => whnf)
      refine split_intro (fun q2 => ?_) (fun q2 => ?_)
      ·exfalso; rw [ed] at q2; have := eq_of_beq q2; simp only [] at this; omega
      ·(conv => whnf)
       refine ⟨k + 1, ⟨by omega, by simp only []; omega⟩, ?_⟩
       (repeat' (first | exact trivial | exact Wk.refl _ | exact ObWk.refl _ | exact rfl | exact ⟨_, rfl⟩ | exact Nat.zero_lt_one | refine And.intro ?_ ?_ | unfold okTo | (unfold okO; conv => whnf) | (unfold okS; conv => whnf) | (unfold SlotOk; conv => whnf) | (unfold ObjOk; conv => whnf) | (unfold okCells; conv => whnf) | (unfold liveTo; conv => whnf) | exact Nat.zero_lt_succ _))
       exact ObWk.of_eq (by rw [ed])
     ·(conv => whnf)
      refine ⟨sB cs, k, rfl, .inr ⟨by rw [hs]; exact hlt, ?_⟩⟩
      (conv => whnf)
      exact Wk.refl _
   ·obtain ⟨m, em, m2, m4, mh⟩ := enc_moreI hr hv
    have hms := sB_sz m
    (conv => whnf)
    refine CallLeaf.wa (VR) rfl ?_
    (conv => whnf)
    refine LWp.scope hT hmix [] ?_
    (conv => whnf)
    refine ⟨sB m, em, ?_⟩
    (conv => whnf)
    refine ⟨_, sub64 (c := ((m.length - 1 : Nat) : Int)) (by rw [hms]; omega) (by omega), ?_⟩
    (conv => whnf)
    refine LWp.loop hT hmix [] (fun _ : Unit => [(9, vI (m.length - 1 : Nat))]) (fun _ => []) (fun _ => True) (fun _ => 0) () trivial ?_
    (conv => whnf)
    refine ⟨?_, fun _ _ => ?_⟩
    ·(repeat' (first | exact trivial | exact Wk.refl _ | exact ObWk.refl _ | exact rfl | exact ⟨_, rfl⟩ | exact Nat.zero_lt_one | refine And.intro ?_ ?_ | unfold okTo | (unfold okO; conv => whnf) | (unfold okS; conv => whnf) | (unfold SlotOk; conv => whnf) | (unfold ObjOk; conv => whnf) | (unfold okCells; conv => whnf) | (unfold liveTo; conv => whnf) | exact Nat.zero_lt_succ _))
    ·(conv => whnf)
     refine split_intro (fun g => ?_) (fun g => ?_)
     ·have hlt : m.length - 1 < cs.length := by have := of_decide_eq_true g; rw [hs] at this; omega
      obtain ⟨x, hx⟩ : ∃ x, cs[m.length - 1]? = some x := ⟨_, List.getElem?_eq_getElem hlt⟩
      obtain ⟨y, hy⟩ : ∃ y, m[m.length - 1]? = some y := ⟨_, List.getElem?_eq_getElem (by omega)⟩
      have hx8 := has x (List.mem_of_getElem? hx)
      have hy8 := mh y (List.mem_of_getElem? hy)
      (conv => whnf)
      refine LWp.scope hT hmix [] ?_
      (conv => whnf)
      refine ⟨x, ⟨by omega, by rw [Int.toNat_natCast]; exact hx⟩, ?_⟩
      (conv => whnf)
      refine ⟨y, ⟨by omega, by rw [Int.toNat_natCast]; exact hy⟩, ?_⟩
      (conv => whnf)
      refine split_intro (fun g2 => ?_) (fun g2 => ?_)
      ·(conv => whnf)
       refine ⟨_, add64 (c := ((m.length : Nat) : Int)) (by omega) (by omega), ?_⟩
       (conv => whnf)
       refine ⟨sB (cs.drop m.length), ⟨by omega, by rw [hs]; omega, Int.le_refl _, by rw [Int.toNat_natCast, Int.toNat_natCast]; exact ext_drop cs m.length⟩, ?_⟩
       (conv => whnf)
       refine ⟨y, ⟨by omega, by rw [Int.toNat_natCast]; exact hy⟩, ?_⟩
       (conv => whnf)
       have IB := ibyte_ (cs.drop m.length) y
       rw [ibyte_none (l := cs.drop m.length) (c := y) (fun z hz e => by have := has z (List.mem_of_mem_drop hz); rw [e] at this; omega)] at IB
       refine CallLeaf.wa (IB) rfl ?_
       (conv => whnf)
       exact Wk.refl _
      ·exfalso
       have : x = y := O.u8_eq g2
       rw [this] at hx8; omega
     ·(conv => whnf)
      exact Wk.refl _
 ·exfalso; have := of_decide_eq_false h0; omega
theorem should_ [Go.AL.MX] (n : Int) : FCall Tryz.prog Gl 134 [vI n] [] (vB (decide (8 < n))) [] := by
 refine FCall.enterL hT hmix [] Tryz.func134 rfl rfl rfl fun hbd => ?_
 (conv => whnf)
 exact Wk.refl _
theorem not_in {cs : Str} (has : ∀ x ∈ cs, x.toNat < 128) {x : UInt8} (h : 128 ≤ x.toNat) : cs.contains x = false := by
 cases hq : cs.contains x with
 | false => rfl
 | true => have := has x (by simpa using hq); omega
theorem ianyS_ [Go.AL.MX] (s cs : Str) (h8 : s.length ≤ 8) (h2 : 2 ≤ cs.length) (h3 : cs.length ≤ 3) (has : ∀ x ∈ cs, x.toNat < 128) : FCall Tryz.prog Gl 125 [sD s, sD cs] [] (vI (Lib.indexAny s cs)) [] := by
 have hs := sB_sz s
 have hc := sB_sz cs
 refine FCall.enterL hT hmix [] Tryz.func125 rfl rfl rfl fun hbd => ?_
 (conv => whnf)
 refine split_intro (fun q0 => ?_) (fun q0 => ?_)
 ·exfalso
  have : cs = [] := by
   exact of_decide_eq_true q0
  subst this; simp at h2
 ·(conv => whnf)
  refine split_intro (fun q1 => ?_) (fun q1 => ?_)
  ·exfalso; have := eq_of_beq q1; omega
  ·(conv => whnf)
   refine CallLeaf.wa (should_ ((sB s).size : Int)) rfl ?_
   (conv => whnf)
   refine split_intro (fun q2 => ?_) (fun q2 => ?_)
   ·exfalso; have := of_decide_eq_true q2; omega
   ·(conv => whnf)
    refine LWp.loop hT hmix [] (fun _ : Nat => []) (fun k => [(8712, .bag (Bag.siter (sB s) k))]) (fun k => k ≤ s.length ∧ Lib.NoAny s cs k) (fun k => s.length - k) 0 ⟨Nat.zero_le _, fun j b hj => absurd hj (by omega)⟩ ?_
    (conv => whnf)
    refine ⟨?_, fun k ⟨hk, hn⟩ => ?_⟩
    ·(repeat' (first | exact trivial | exact Wk.refl _ | exact ObWk.refl _ | exact rfl | exact ⟨_, rfl⟩ | exact Nat.zero_lt_one | refine And.intro ?_ ?_ | unfold okTo | (unfold okO; conv => whnf) | (unfold okS; conv => whnf) | (unfold SlotOk; conv => whnf) | (unfold ObjOk; conv => whnf) | (unfold okCells; conv => whnf) | (unfold liveTo; conv => whnf) | exact Nat.zero_lt_succ _))
    ·by_cases hlt : k < s.length
     ·obtain ⟨x, hx⟩ : ∃ x, s[k]? = some x := ⟨_, List.getElem?_eq_getElem hlt⟩
      by_cases hx8 : x.toNat < 128
      ·have ed : Utf8.decode (sB s) k = (x.toNat, 1) := dec_ascii hx hx8
       have IR := irA_ cs x hx8
       by_cases hin : x ∈ cs
       ·have hi := ibyte_some hin
        rw [Lib.indexAny_hit hn hx (by simpa using hin)]
        revert IR hi
        generalize Lib.indexByte cs x = v
        intro IR hi
        (conv => whnf)
        refine ⟨sB s, k, rfl, .inl ⟨by rw [hs]; exact hlt, ?_⟩⟩
        (conv => whnf)
        rw [show ((Utf8.decode (sB s) k).1 : Int) = ((x.toNat : Nat) : Int) by rw [ed]]
        refine CallLeaf.wa (IR) rfl ?_
        (conv => whnf)
        refine split_intro (fun q3 => ?_) (fun q3 => ?_)
        ·(conv => whnf)
         exact Wk.refl _
        ·exfalso; have := of_decide_eq_false q3; omega
       ·rw [ibyte_none (l := cs) (c := x) (fun z hz e => hin (e ▸ hz))] at IR
        (conv => whnf)
        refine ⟨sB s, k, rfl, .inl ⟨by rw [hs]; exact hlt, ?_⟩⟩
        (conv => whnf)
        rw [show ((Utf8.decode (sB s) k).1 : Int) = ((x.toNat : Nat) : Int) by rw [ed]]
        refine CallLeaf.wa (IR) rfl ?_
        (conv => whnf)
        refine ⟨k + 1, ⟨⟨by omega, fun j b hj hb => ?_⟩, by simp only []; omega⟩, ?_⟩
        ·rcases Nat.lt_or_ge j k with h | h
         ·exact hn j b h hb
         ·obtain rfl : j = k := by omega
          rw [hx] at hb; injection hb with hb; subst hb
          simpa using hin
        ·(repeat' (first | exact trivial | exact Wk.refl _ | exact ObWk.refl _ | exact rfl | exact ⟨_, rfl⟩ | exact Nat.zero_lt_one | refine And.intro ?_ ?_ | unfold okTo | (unfold okO; conv => whnf) | (unfold okS; conv => whnf) | (unfold SlotOk; conv => whnf) | (unfold ObjOk; conv => whnf) | (unfold okCells; conv => whnf) | (unfold liveTo; conv => whnf) | exact Nat.zero_lt_succ _))
         exact ObWk.of_eq (by rw [ed])
      ·obtain ⟨d1, d2, d3, d4⟩ := dec_more hx (by omega)
       have d5 := d4 ((Utf8.decode (sB s) k).2 - 1) (by show (Utf8.decode (sB s) k).2 - 1 < (Utf8.decode (sB s) k).2; have : 1 ≤ (Utf8.decode (sB s) k).2 := d3; omega)
       have d3' : 1 ≤ (Utf8.decode (sB s) k).2 := d3
       have IR := irB_ cs h2 h3 has ((Utf8.decode (sB s) k).1 : Nat) (by have : 128 ≤ (Utf8.decode (sB s) k).1 := d1; omega) d2
       (conv => whnf)
       refine ⟨sB s, k, rfl, .inl ⟨by rw [hs]; exact hlt, ?_⟩⟩
       (conv => whnf)
       refine CallLeaf.wa (IR) rfl ?_
       (conv => whnf)
       refine ⟨k + (Utf8.decode (sB s) k).2, ⟨⟨by have := d5.1; omega, fun j b hj hb => ?_⟩, by simp only []; omega⟩, ?_⟩
       ·rcases Nat.lt_or_ge j k with h | h
        ·exact hn j b h hb
        ·obtain ⟨i, rfl⟩ : ∃ i, j = k + i := ⟨j - k, by omega⟩
         have := (d4 i (by show i < (Utf8.decode (sB s) k).2; omega)).2
         rw [List.getD_eq_getElem?_getD, hb] at this
         exact not_in has (by simpa using this)
       ·(repeat' (first | exact trivial | exact Wk.refl _ | exact ObWk.refl _ | exact rfl | exact ⟨_, rfl⟩ | exact Nat.zero_lt_one | refine And.intro ?_ ?_ | unfold okTo | (unfold okO; conv => whnf) | (unfold okS; conv => whnf) | (unfold SlotOk; conv => whnf) | (unfold ObjOk; conv => whnf) | (unfold okCells; conv => whnf) | (unfold liveTo; conv => whnf) | exact Nat.zero_lt_succ _))
     ·obtain rfl : k = s.length := by omega
      rw [Lib.indexAny_none hn]
      (conv => whnf)
      refine ⟨sB s, s.length, rfl, .inr ⟨by rw [hs]; exact hlt, ?_⟩⟩
      (conv => whnf)
      exact Wk.refl _
theorem isIndexAny : IsFn Tryz.prog 125 := ⟨_, Tryz.func125, by kernel_rfl, by kernel_rfl⟩
theorem ianyL_ [Go.AL.MX] (s cs : Str) (h8 : 8 < s.length) (hl : s.length < 4294967281) (h2 : 2 ≤ cs.length) (h3 : cs.length ≤ 3) (has : ∀ x ∈ cs, x.toNat < 128) : FCall Tryz.prog Gl 125 [sD s, sD cs] [] (vI (Lib.indexAny s cs)) [] :=
 FCall.val (xs := [.string (sB s), .string (sB cs)]) isIndexAny fun w =>
  (Any.strings_IndexAny_long YtenbpnlmpjndgaaGreatDoor.lays153 Tryz.zeroValue182 (by kernel_rfl) (sB s) (sB cs) w (by rw [sB_sz]; exact h2) (by rw [sB_sz]; exact h8) (by rw [sB_sz]; exact hl) (by rw [sB_sz]; omega)
   (fun j b hb => has b (List.mem_of_getElem? (l := cs) hb))).mono fun e w' ⟨he, hw⟩ => ⟨he, by
    subst hw
    exact (((RowKit.Below.refl _ w).alloc (Nat.le_refl _) _).alloc (by simp) _)⟩
theorem iany_ [Go.AL.MX] (s cs : Str) (hl : s.length < 4294967281) (h2 : 2 ≤ cs.length) (h3 : cs.length ≤ 3) (has : ∀ x ∈ cs, x.toNat < 128) : FCall Tryz.prog Gl 125 [sD s, sD cs] [] (vI (Lib.indexAny s cs)) [] := by
 rcases Nat.lt_or_ge 8 s.length with h | h
 ·exact ianyL_ s cs h hl h2 h3 has
 ·exact ianyS_ s cs h h2 h3 has
theorem cany_ [Go.AL.MX] (s cs : Str) (hl : s.length < 4294967281) (h2 : 2 ≤ cs.length) (h3 : cs.length ≤ 3) (has : ∀ x ∈ cs, x.toNat < 128) : FCall Tryz.prog Gl 99 [sD s, sD cs] [] (vB (Lib.containsAny s cs)) [] := by
 have I := iany_ s cs hl h2 h3 has
 refine FCall.enterL hT hmix [] Tryz.func99 rfl rfl rfl fun hbd => ?_
 (conv => whnf)
 refine CallLeaf.wa (I) rfl ?_
 (conv => whnf)
 exact Wk.refl _
theorem cany_any (s cs : Str) : Lib.containsAny s cs = s.any fun x => cs.contains x := by
 induction s with
 | nil => rfl
 | cons b l ih =>
  unfold Lib.containsAny at ih ⊢
  have hg := Lib.indexAny_ge cs l
  rw [List.any_cons, ← ih, Lib.indexAny]
  by_cases h : cs.contains b = true
  ·simp only [h, if_true]; rfl
  ·simp only [h, if_false, Bool.false_or]
   by_cases h1 : Lib.indexAny l cs = -1
   ·simp [h1]
   ·have h2 : ¬ (Lib.indexAny l cs == -1) = true := by simpa using h1
    rw [if_neg h2]
    apply decide_eq_decide.2
    constructor <;> intro <;> omega
theorem cany2_ [Go.AL.MX] (s : Str) (hl : s.length < 4294967281) : FCall Tryz.prog Gl 99 [sD s, sD [10, 0]] [] (vB (s.any bad2)) [] := by
 have := cany_ s [10, 0] hl (by decide) (by decide) (by decide)
 rw [cany_any] at this
 rwa [show (fun x => ([10, 0] : Str).contains x) = bad2 from funext fun x => by rw [Bool.eq_iff_iff, List.contains_iff_mem]; simp only [List.mem_cons, List.not_mem_nil, or_false, bad2, Bool.or_eq_true, decide_eq_true_eq]] at this
theorem cany3_ [Go.AL.MX] (s : Str) (hl : s.length < 4294967281) : FCall Tryz.prog Gl 99 [sD s, sD [47, 10, 0]] [] (vB (s.any bad3)) [] := by
 have := cany_ s [47, 10, 0] hl (by decide) (by decide) (by decide)
 rw [cany_any] at this
 rwa [show (fun x => ([47, 10, 0] : Str).contains x) = bad3 from funext fun x => by rw [Bool.eq_iff_iff, List.contains_iff_mem]; simp only [List.mem_cons, List.not_mem_nil, or_false, bad3, Bool.or_eq_true, decide_eq_true_eq]] at this
end Go.Proofs.YtenbpnlmpjndgaaGreatDoor.H

namespace Go.Proofs
open Go.RowKit Go.Shelf
def YtenbpnlmpjndgaaGreatDoor.lays185_ren : Go.Shelf.Ren := ⟨fun | 185 => 98 | 187 => 87 | 115 => 121 | 253 => 122 | 224 => 123 | 254 => 124 | 255 => 109 | 291 => 132 | n => n, fun | 37 => 22 | 3 => 3 | 4 => 4 | 0 => 0 | 5 => 5 | 46 => 159 | 9 => 9 | 146 => 194 | 51 => 193 | n => n, fun | 1 => 0 | n => n⟩
theorem YtenbpnlmpjndgaaGreatDoor.lays185 : Go.Proofs.Lays.n185 Tryz.prog YtenbpnlmpjndgaaGreatDoor.lays185_ren := {
 mixed := by kernel_rfl
 f115 := Tryz.func121.trans (congrArg some (by kernel_rfl))
 f185 := Tryz.func98.trans (congrArg some (by kernel_rfl))
 f187 := Tryz.func87.trans (congrArg some (by kernel_rfl))
 f224 := Tryz.func123.trans (congrArg some (by kernel_rfl))
 f253 := Tryz.func122.trans (congrArg some (by kernel_rfl))
 f254 := Tryz.func124.trans (congrArg some (by kernel_rfl))
 f255 := Tryz.func109.trans (congrArg some (by kernel_rfl))
 f291 := Tryz.func132.trans (congrArg some (by kernel_rfl))
 t0 := Tryz.underlying0
 a0 := Tryz.isAgg0
 z0 := Tryz.sizeOf0
 v0 := Tryz.zeroValue0
 t3 := Tryz.underlying3
 a3 := Tryz.isAgg3
 z3 := Tryz.sizeOf3
 v3 := Tryz.zeroValue3
 t4 := Tryz.underlying4
 a4 := Tryz.isAgg4
 z4 := Tryz.sizeOf4
 v4 := Tryz.zeroValue4
 t5 := Tryz.underlying5
 a5 := Tryz.isAgg5
 z5 := Tryz.sizeOf5
 v5 := Tryz.zeroValue5
 t9 := Tryz.underlying9
 a9 := Tryz.isAgg9
 z9 := Tryz.sizeOf9
 v9 := Tryz.zeroValue9
 t37 := Tryz.underlying22
 a37 := Tryz.isAgg22
 z37 := Tryz.sizeOf22
 v37 := Tryz.zeroValue22
 t46 := Tryz.underlying159
 a46 := Tryz.isAgg159
 z46 := Tryz.sizeOf159
 v46 := Tryz.zeroValue159
 t51 := Tryz.underlying193
 a51 := Tryz.isAgg193
 z51 := Tryz.sizeOf193
 v51 := Tryz.zeroValue193
 t146 := Tryz.underlying194
 a146 := Tryz.isAgg194
 z146 := Tryz.sizeOf194
 v146 := Tryz.zeroValue194
 g1 := by kernel_rfl }
def YtenbpnlmpjndgaaGreatDoor.lays144_ren : Go.Shelf.Ren := ⟨fun | 144 => 82 | 143 => 102 | 219 => 127 | 217 => 135 | 225 => 136 | 224 => 123 | 267 => 137 | 266 => 142 | 314 => 143 | n => n, fun | 9 => 9 | 4 => 4 | 3 => 3 | 5 => 5 | 46 => 159 | 146 => 194 | 51 => 193 | n => n, fun | 1 => 0 | n => n⟩
theorem YtenbpnlmpjndgaaGreatDoor.lays144 : Go.Proofs.Lays.n144 Tryz.prog YtenbpnlmpjndgaaGreatDoor.lays144_ren := {
 mixed := by kernel_rfl
 f143 := Tryz.func102.trans (congrArg some (by kernel_rfl))
 f144 := Tryz.func82.trans (congrArg some (by kernel_rfl))
 f217 := Tryz.func135.trans (congrArg some (by kernel_rfl))
 f219 := Tryz.func127.trans (congrArg some (by kernel_rfl))
 f224 := Tryz.func123.trans (congrArg some (by kernel_rfl))
 f225 := Tryz.func136.trans (congrArg some (by kernel_rfl))
 f266 := Tryz.func142.trans (congrArg some (by kernel_rfl))
 f267 := Tryz.func137.trans (congrArg some (by kernel_rfl))
 f314 := Tryz.func143.trans (congrArg some (by kernel_rfl))
 t3 := Tryz.underlying3
 a3 := Tryz.isAgg3
 z3 := Tryz.sizeOf3
 v3 := Tryz.zeroValue3
 t4 := Tryz.underlying4
 a4 := Tryz.isAgg4
 z4 := Tryz.sizeOf4
 v4 := Tryz.zeroValue4
 t5 := Tryz.underlying5
 a5 := Tryz.isAgg5
 z5 := Tryz.sizeOf5
 v5 := Tryz.zeroValue5
 t9 := Tryz.underlying9
 a9 := Tryz.isAgg9
 z9 := Tryz.sizeOf9
 v9 := Tryz.zeroValue9
 t46 := Tryz.underlying159
 a46 := Tryz.isAgg159
 z46 := Tryz.sizeOf159
 v46 := Tryz.zeroValue159
 t51 := Tryz.underlying193
 a51 := Tryz.isAgg193
 z51 := Tryz.sizeOf193
 v51 := Tryz.zeroValue193
 t146 := Tryz.underlying194
 a146 := Tryz.isAgg194
 z146 := Tryz.sizeOf194
 v146 := Tryz.zeroValue194
 g1 := by kernel_rfl }
end Go.Proofs
namespace Go.Proofs.YtenbpnlmpjndgaaGreatDoor.H
open Go Go.AL Go.AL.Hd Go.AL.Ln Go.AL.U8
set_option maxRecDepth 100000
theorem isBIndex : IsFn Tryz.prog 98 := ⟨_, Tryz.func98, by kernel_rfl, by kernel_rfl⟩
theorem isContains : IsFn Tryz.prog 82 := ⟨_, Tryz.func82, by kernel_rfl, by kernel_rfl⟩
theorem bytes_toBytes (l : Str) : Lib.bytesOf (l.map fun x => (x.toNat : Int)) = l := by
 unfold Lib.bytesOf
 rw [List.map_map]
 conv => rhs; rw [← List.map_id l]
 refine List.map_congr_left fun x _ => ?_
 simp
theorem bindex_ [Go.AL.MX] (l : Str) (t1 t2 : Tg) (hl : l.length < 4294967281) : FCall Tryz.prog Gl 98 [.list t1 (l.map byteD), .list t2 (([47, 10] : Str).map byteD)] [] (vI (cutI l)) [] := by
 rw [← index_cutI]
 refine FCall.below isBIndex fun E w vs C hv => ?_
 obtain ⟨v1, r, rfl, h1, g2⟩ := VRs_cons_inv hv
 obtain ⟨v2, r, rfl, h2, h3⟩ := VRs_cons_inv g2
 obtain rfl := VRs_nil.1 h3
 obtain ⟨A1, c1, rfl, hc1, hb1, hn1, hz1, hx1⟩ := h1.bytes
 obtain ⟨A2, c2, rfl, hc2, hb2, hn2, hz2, hx2⟩ := h2.bytes
 have hm := (C.glob 0).cell (x := .int .i64 MX.val) (r := []) rfl
 obtain ⟨a2, rfl⟩ : ∃ a, A2 = some a := by
  cases A2 with
  | none => simp at hn2
  | some a => exact ⟨a, rfl⟩
 have hr : ∀ (l : Str), ∀ x ∈ l.map (fun x => (x.toNat : Int)), 0 ≤ x ∧ x < 256 := fun l x hx => by
  obtain ⟨y, _, rfl⟩ := List.mem_map.1 hx
  have := y.toNat_lt
  omega
 cases A1 with
 | some a1 =>
  refine (Any.bytes_Index_at YtenbpnlmpjndgaaGreatDoor.lays185 a1 a2 l.length c1 2 c2 (l.map fun x => (x.toNat : Int)) (([47, 10] : Str).map fun x => (x.toNat : Int)) MX.val w (by simp) (by simp) (hr l) (hr _) (fun i hi => hx1 a1 rfl i hi) (fun i hi => hx2 a2 rfl i (by simpa using hi)) hc1 hl (by omega) hm).mono fun e w' ⟨he, q, hw⟩ => ⟨_, he, fun E' => ?_, hw ▸ below_drewN w q⟩
  rw [bytes_toBytes, bytes_toBytes]
  exact .v _
 | none =>
  obtain rfl := hn1 rfl
  obtain rfl : c1 = 0 := hz1 rfl
  refine (Any.bytes_Index_nil YtenbpnlmpjndgaaGreatDoor.lays185 (some a2) 2 c2 w (by omega) (fun h => by omega)).mono fun e w' ⟨he, hw⟩ => ⟨_, he, fun E' => ?_, hw ▸ RowKit.Below.refl _ _⟩
  exact .v _
theorem contains_ [Go.AL.MX] (s : Str) (hs : s.length < 4294967281) : FCall Tryz.prog Gl 82 [sD s, sD [32]] [] (vB (s.contains 32)) [] :=
 FCall.val (xs := [.string (sB s), .string (sB [32])]) isContains fun w => (Any.strings_Contains_one YtenbpnlmpjndgaaGreatDoor.lays144 (sB s) 32 w).mono fun e w' ⟨he, hw⟩ => ⟨by
  rw [he]
  congr 2
  show decide (0 ≤ Lib.indexByte s 32) = s.contains 32
  cases h : s.contains 32 with
  | true => exact decide_eq_true (ibyte_some (by simpa using h))
  | false => exact decide_eq_false (by rw [ibyte_none (fun x hx e => by subst e; rw [List.contains_iff_mem.2 hx] at h; simp at h)]; omega), hw ▸ RowKit.Below.refl _ _⟩
end Go.Proofs.YtenbpnlmpjndgaaGreatDoor.H

namespace Go.Proofs.YtenbpnlmpjndgaaGreatDoor.H
open Go Go.AL Go.AL.Hd
set_option maxRecDepth 100000
set_option maxHeartbeats 8000000
theorem rhdecode_ [Go.AL.MX] (l : List UInt8) : FCall Tryz.prog Gl 47 [LB l] [] (.tuple [.agg (decR l).1.enc, vI (decR l).2]) [] := by
 refine FCall.enterL hT hmix [6] Tryz.func47 rfl rfl rfl fun hbd => ?_
 have ha := bds_list hbd (.head _)
 (conv => whnf)
 refine split_intro (fun g1 => ?_) (fun g1 => ?_)
 ·have e : decR l = (hdr0, 2) := by have := of_decide_eq_true g1; simp only [List.length_map] at this; unfold decR; rw [if_pos (by omega)]
  rw [e]
  (conv => whnf)
  refine Wk.tuple (Wks.cons (Wk.refl _) (Wks.cons (Wk.refl _) Wks.nil))
 ·have g1' := of_decide_eq_false g1
  simp only [List.length_map] at g1'
  obtain ⟨x, hx⟩ : ∃ x, l[58]? = some x := ⟨_, List.getElem?_eq_getElem (show 58 < l.length by omega)⟩
  obtain ⟨y, hy⟩ : ∃ y, l[59]? = some y := ⟨_, List.getElem?_eq_getElem (show 59 < l.length by omega)⟩
  (conv => whnf)
  refine ⟨_, ⟨by omega, getMap hx⟩, ?_⟩
  (conv => whnf)
  refine split_intro (fun g2 => ?_) (fun g2 => ?_)
  ·have hx2 : x ≠ 96 := by intro e; subst e; simp at g2
   have e : decR l = (hdr0, 4) := by unfold decR; rw [if_neg (by omega), if_neg (by rw [hx]; simp [hx2])]
   rw [e]
   (conv => whnf)
   refine Wk.tuple (Wks.cons (Wk.refl _) (Wks.cons (Wk.refl _) Wks.nil))
  ·obtain rfl : x = 96 := O.u8_eq (y := 96) g2
   (conv => whnf)
   refine ⟨_, ⟨by omega, getMap hy⟩, ?_⟩
   (conv => whnf)
   refine split_intro (fun g3 => ?_) (fun g3 => ?_)
   ·have hx2 : y ≠ 10 := by intro e; subst e; simp at g3
    have e : decR l = (hdr0, 4) := by unfold decR; rw [if_neg (by omega), if_neg (by rw [hy]; simp [hx2])]
    rw [e]
    (conv => whnf)
    refine Wk.tuple (Wks.cons (Wk.refl _) (Wks.cons (Wk.refl _) Wks.nil))
   ·obtain rfl : y = 10 := O.u8_eq (y := 10) g3
    (conv => whnf)
    refine LWp.cut hT hmix [] [] (fun n : Nat => [(4, vI n)]) (fun _ => []) [] (fun n => n ≤ 16 ∧ trimR (l.take 16) = l.take n) ?_
    (conv => whnf)
    refine ⟨?_, fun n ⟨hn, ht⟩ => ?_⟩
    ·refine LWp.loop hT hmix [] (fun n : Nat => [(4, vI n)]) (fun _ => []) (fun n => n ≤ 16 ∧ ((l.take 16).drop n).all (· == 32) = true) (fun n => n) 16 ⟨Nat.le_refl _, by rw [List.drop_of_length_le (by rw [List.length_take]; omega)]; rfl⟩ ?_
     (conv => whnf)
     refine ⟨?_, fun n ⟨hn, hd⟩ => ?_⟩
     ·(repeat' (first | exact trivial | exact Wk.refl _ | exact ObWk.refl _ | exact rfl | exact ⟨_, rfl⟩ | exact Nat.zero_lt_one | refine And.intro ?_ ?_ | unfold okTo | (unfold okO; conv => whnf) | (unfold okS; conv => whnf) | (unfold SlotOk; conv => whnf) | (unfold ObjOk; conv => whnf) | (unfold okCells; conv => whnf) | (unfold liveTo; conv => whnf) | exact Nat.zero_lt_succ _))
     ·(conv => whnf)
      refine split_intro (fun h1 => ?_) (fun h1 => ?_)
      ·have hpos : 0 < n := by have := of_decide_eq_true h1; omega
       obtain ⟨z, hz⟩ : ∃ z, l[n - 1]? = some z := ⟨_, List.getElem?_eq_getElem (show n - 1 < l.length by omega)⟩
       (conv => whnf)
       refine ⟨_, sub64 (c := ((n - 1 : Nat) : Int)) (by omega) (by omega), ?_⟩
       (conv => whnf)
       refine ⟨_, ⟨by omega, getMap hz⟩, ?_⟩
       (conv => whnf)
       refine split_intro (fun h2 => ?_) (fun h2 => ?_)
       ·obtain rfl : z = 32 := byte_eq (c := 32) h2
        (conv => whnf)
        refine ⟨_, sub64 (c := ((n - 1 : Nat) : Int)) (by omega) (by omega), ?_⟩
        (conv => whnf)
        refine ⟨n - 1, ⟨⟨by omega, ?_⟩, by simp only []; omega⟩, ?_⟩
        ·have hz' : (l.take 16)[n - 1]? = some 32 := by rw [List.getElem?_take, if_pos (by omega)]; exact hz
         obtain ⟨hq1, hq2⟩ := List.getElem?_eq_some_iff.1 hz'
         rw [List.drop_eq_getElem_cons hq1, hq2, show n - 1 + 1 = n by omega, List.all_cons, hd]; rfl
        ·(repeat' (first | exact trivial | exact Wk.refl _ | exact ObWk.refl _ | exact rfl | exact ⟨_, rfl⟩ | exact Nat.zero_lt_one | refine And.intro ?_ ?_ | unfold okTo | (unfold okO; conv => whnf) | (unfold okS; conv => whnf) | (unfold SlotOk; conv => whnf) | (unfold ObjOk; conv => whnf) | (unfold okCells; conv => whnf) | (unfold liveTo; conv => whnf) | exact Nat.zero_lt_succ _))
       ·have hz2 : ¬ z = 32 := byte_ne (c := 32) h2
        (conv => whnf)
        refine ⟨n, ⟨hn, ?_⟩, ?_⟩
        ·rw [trimR_at (n := n) (by rw [List.length_take]; omega) hd (.inr (by rw [List.getElem?_take, if_pos (by omega), hz]; simpa using hz2)), List.take_take, Nat.min_eq_left hn]
        ·(repeat' (first | exact trivial | exact Wk.refl _ | exact ObWk.refl _ | exact rfl | exact ⟨_, rfl⟩ | exact Nat.zero_lt_one | refine And.intro ?_ ?_ | unfold okTo | (unfold okO; conv => whnf) | (unfold okS; conv => whnf) | (unfold SlotOk; conv => whnf) | (unfold ObjOk; conv => whnf) | (unfold okCells; conv => whnf) | (unfold liveTo; conv => whnf) | exact Nat.zero_lt_succ _))
      ·obtain rfl : n = 0 := by have := of_decide_eq_false h1; omega
       (conv => whnf)
       refine ⟨0, ⟨by omega, ?_⟩, ?_⟩
       ·rw [trimR_at (n := 0) (Nat.zero_le _) hd (.inl rfl), List.take_zero, List.take_zero]
       ·(repeat' (first | exact trivial | exact Wk.refl _ | exact ObWk.refl _ | exact rfl | exact ⟨_, rfl⟩ | exact Nat.zero_lt_one | refine And.intro ?_ ?_ | unfold okTo | (unfold okO; conv => whnf) | (unfold okS; conv => whnf) | (unfold SlotOk; conv => whnf) | (unfold ObjOk; conv => whnf) | (unfold okCells; conv => whnf) | (unfold liveTo; conv => whnf) | exact Nat.zero_lt_succ _))
    ·have hnl : (l.take n).length ≤ 16 := by rw [List.length_take]; omega
     (conv => whnf)
     refine ⟨(l.take n).map byteD, ⟨by omega, by omega, by rw [List.length_map]; omega, (fun q hq => by obtain ⟨y, _, rfl⟩ := List.mem_map.1 hq; rfl), by simp [List.map_take]⟩, ?_⟩
     (conv => whnf)
     refine ⟨l.take n, rfl, ?_⟩
     (conv => whnf)
     refine CallLeaf.wa (fits_ (l.take n) (by omega)) rfl ?_
     (conv => whnf)
     cases hf : fitN (l.take n) with
     | false =>
      have e : decR l = (hdr0, 6) := by unfold decR; rw [if_neg (by omega), if_pos ⟨hx, hy⟩, ht, if_neg (by rw [hf]; simp)]
      rw [e]
      (conv => whnf)
      refine Wk.tuple (Wks.cons (Wk.refl _) (Wks.cons (Wk.refl _) Wks.nil))
     | true =>
      have e : decR l = decR l := rfl
      conv at e => rhs; unfold decR; rw [if_neg (show ¬ l.length < 60 by omega), if_pos (show l[58]? = some 96 ∧ l[59]? = some 10 from ⟨hx, hy⟩), ht, if_pos hf]
      rw [e]
      have F1 := number_ 10 (.inr rfl) (prt l 16 28) (decide (l.take n = [47, 47])) (by rw [prt_len (by omega) (by omega)]; omega)
      have F2 := number_ 10 (.inr rfl) (prt l 28 34) (decide (l.take n = [47, 47])) (by rw [prt_len (by omega) (by omega)]; omega)
      have F3 := number_ 10 (.inr rfl) (prt l 34 40) (decide (l.take n = [47, 47])) (by rw [prt_len (by omega) (by omega)]; omega)
      have F4 := number_ 8 (.inl rfl) (prt l 40 48) (decide (l.take n = [47, 47])) (by rw [prt_len (by omega) (by omega)]; omega)
      have F5 := number_ 10 (.inr rfl) (prt l 48 58) false (by rw [prt_len (by omega) (by omega)]; omega)
      clear e
      revert F1 F2 F3 F4 F5
      generalize numR 10 (prt l 16 28) (decide (l.take n = [47, 47])) = p1
      generalize numR 10 (prt l 28 34) (decide (l.take n = [47, 47])) = p2
      generalize numR 10 (prt l 34 40) (decide (l.take n = [47, 47])) = p3
      generalize numR 8 (prt l 40 48) (decide (l.take n = [47, 47])) = p4
      generalize numR 10 (prt l 48 58) false = p5
      obtain ⟨a1, b1⟩ := p1
      obtain ⟨a2, b2⟩ := p2
      obtain ⟨a3, b3⟩ := p3
      obtain ⟨a4, b4⟩ := p4
      obtain ⟨a5, b5⟩ := p5
      intro F1 F2 F3 F4 F5
      (conv => whnf)
      refine ⟨⟨by omega, rfl, by decide, by omega⟩, ?_⟩
      (conv => whnf)
      refine ⟨(prt l 16 28).map byteD, ⟨by omega, by omega, by rw [List.length_map]; omega, (fun q hq => by obtain ⟨y, _, rfl⟩ := List.mem_map.1 hq; rfl), by simp [prt, List.map_take, List.map_drop]⟩, ?_⟩
      (conv => whnf)
      refine CallLeaf.wa (F1) rfl ?_
      (conv => whnf)
      refine ⟨⟨rfl, rfl, by decide, by decide, Nat.le_refl 5⟩, ?_⟩
      (conv => whnf)
      refine ⟨[vB false], [[vB b1], [vB false], [vB false], [vB false], [vB false]], ⟨rfl, rfl, rfl⟩, ⟨by decide, rfl⟩, ?_⟩
      (conv => whnf)
      refine ⟨(prt l 28 34).map byteD, ⟨by omega, by omega, by rw [List.length_map]; omega, (fun q hq => by obtain ⟨y, _, rfl⟩ := List.mem_map.1 hq; rfl), by simp [prt, List.map_take, List.map_drop]⟩, ?_⟩
      (conv => whnf)
      refine CallLeaf.wa (F2) rfl ?_
      (conv => whnf)
      refine ⟨⟨rfl, rfl, by decide, by decide, Nat.le_refl 5⟩, ?_⟩
      (conv => whnf)
      refine ⟨[vB false], [[vB b1], [vB b2], [vB false], [vB false], [vB false]], ⟨rfl, rfl, rfl⟩, ⟨by decide, rfl⟩, ?_⟩
      (conv => whnf)
      refine ⟨(prt l 34 40).map byteD, ⟨by omega, by omega, by rw [List.length_map]; omega, (fun q hq => by obtain ⟨y, _, rfl⟩ := List.mem_map.1 hq; rfl), by simp [prt, List.map_take, List.map_drop]⟩, ?_⟩
      (conv => whnf)
      refine CallLeaf.wa (F3) rfl ?_
      (conv => whnf)
      refine ⟨⟨rfl, rfl, by decide, by decide, Nat.le_refl 5⟩, ?_⟩
      (conv => whnf)
      refine ⟨[vB false], [[vB b1], [vB b2], [vB b3], [vB false], [vB false]], ⟨rfl, rfl, rfl⟩, ⟨by decide, rfl⟩, ?_⟩
      (conv => whnf)
      refine ⟨(prt l 40 48).map byteD, ⟨by omega, by omega, by rw [List.length_map]; omega, (fun q hq => by obtain ⟨y, _, rfl⟩ := List.mem_map.1 hq; rfl), by simp [prt, List.map_take, List.map_drop]⟩, ?_⟩
      (conv => whnf)
      refine CallLeaf.wa (F4) rfl ?_
      (conv => whnf)
      refine ⟨⟨rfl, rfl, by decide, by decide, Nat.le_refl 5⟩, ?_⟩
      (conv => whnf)
      refine ⟨[vB false], [[vB b1], [vB b2], [vB b3], [vB b4], [vB false]], ⟨rfl, rfl, rfl⟩, ⟨by decide, rfl⟩, ?_⟩
      (conv => whnf)
      refine ⟨(prt l 48 58).map byteD, ⟨by omega, by omega, by rw [List.length_map]; omega, (fun q hq => by obtain ⟨y, _, rfl⟩ := List.mem_map.1 hq; rfl), by simp [prt, List.map_take, List.map_drop]⟩, ?_⟩
      (conv => whnf)
      refine CallLeaf.wa (F5) rfl ?_
      (conv => whnf)
      refine ⟨⟨rfl, rfl, by decide, by decide, Nat.le_refl 5⟩, ?_⟩
      (conv => whnf)
      refine ⟨[vB false], [[vB b1], [vB b2], [vB b3], [vB b4], [vB b5]], ⟨rfl, rfl, rfl⟩, ⟨by decide, rfl⟩, ?_⟩
      (conv => whnf)
      have hall : (b1 && (b2 && (b3 && (b4 && b5)))) = ([b1, b2, b3, b4, b5].all fun b => b) := by simp
      simp only [hall]
      generalize hbs : [b1, b2, b3, b4, b5] = bs
      have hbl : bs.length = 5 := by rw [← hbs]; rfl
      have hxs : [[vB b1], [vB b2], [vB b3], [vB b4], [vB b5]] = bs.map fun b => [vB b] := by rw [← hbs]; rfl
      rw [hxs]
      refine LWp.loop hT hmix [] (fun k : Nat => [(8, vI k)]) (fun _ => []) (fun k => k ≤ 5 ∧ (bs.take k).all (fun b => b) = true) (fun k => 5 - k) 0 ⟨Nat.zero_le _, rfl⟩ ?_
      (conv => whnf)
      refine ⟨?_, fun k ⟨hk, hd⟩ => ?_⟩
      ·(repeat' (first | exact trivial | exact Wk.refl _ | exact ObWk.refl _ | exact rfl | exact ⟨_, rfl⟩ | exact Nat.zero_lt_one | refine And.intro ?_ ?_ | unfold okTo | (unfold okO; conv => whnf) | (unfold okS; conv => whnf) | (unfold SlotOk; conv => whnf) | (unfold ObjOk; conv => whnf) | (unfold okCells; conv => whnf) | (unfold liveTo; conv => whnf) | exact Nat.zero_lt_succ _))
      ·(conv => whnf)
       refine split_intro (fun h1 => ?_) (fun h1 => ?_)
       ·have hlt : k < 5 := by have := of_decide_eq_true h1; omega
        obtain ⟨z, hz⟩ : ∃ z, bs[k]? = some z := ⟨_, List.getElem?_eq_getElem (by omega)⟩
        (conv => whnf)
        refine ⟨⟨rfl, rfl, by omega, by show (k : Int) < 5; omega, by rw [List.length_map, hbl]; decide⟩, ?_⟩
        (conv => whnf)
        refine ⟨[vB z], ⟨rfl, rfl, by rw [show 0 + ((k : Int)).toNat = k by omega]; exact getMap (f := fun b => [vB b]) hz⟩, ?_⟩
        (conv => whnf)
        cases z with
        | false =>
         have e : (bs.all fun b => b) = false := by rw [List.all_eq_false]; exact ⟨false, List.mem_of_getElem? hz, by simp⟩
         simp only [e]
         (conv => whnf)
         refine Wk.tuple (Wks.cons (Wk.refl _) (Wks.cons (Wk.refl _) Wks.nil))
        | true =>
         (conv => whnf)
         refine ⟨_, add64 (c := ((k + 1 : Nat) : Int)) (by (try simp only []); omega) (by omega), ?_⟩
         (conv => whnf)
         refine ⟨k + 1, ⟨⟨by omega, by rw [List.take_add_one, hz]; simp at hd ⊢; exact hd⟩, by simp only []; omega⟩, ?_⟩
         (repeat' (first | exact trivial | exact Wk.refl _ | exact ObWk.refl _ | exact rfl | exact ⟨_, rfl⟩ | exact Nat.zero_lt_one | refine And.intro ?_ ?_ | unfold okTo | (unfold okO; conv => whnf) | (unfold okS; conv => whnf) | (unfold SlotOk; conv => whnf) | (unfold ObjOk; conv => whnf) | (unfold okCells; conv => whnf) | (unfold liveTo; conv => whnf) | exact Nat.zero_lt_succ _))
       ·obtain rfl : k = 5 := by have := of_decide_eq_false h1; omega
        have e : (bs.all fun b => b) = true := by rw [List.take_of_length_le (by omega)] at hd; exact hd
        simp only [e]
        (conv => whnf)
        refine Wk.tuple (Wks.cons (Wk.refl _) (Wks.cons (Wk.refl _) Wks.nil))
end Go.Proofs.YtenbpnlmpjndgaaGreatDoor.H

namespace Go.Proofs.YtenbpnlmpjndgaaGreatDoor.H
open Go Go.AL Go.AL.Hd
set_option maxRecDepth 100000
set_option maxHeartbeats 8000000
theorem hfits_ [Go.AL.MX] (l : Str) (hl : l.length < 4294967281) : FCall Tryz.prog Gl 94 [sD l] [] (vB (fitN l)) [] := by
 have hs := sB_sz l
 have CA := cany2_ l hl
 refine FCall.enterL hT hmix [] Tryz.func94 rfl rfl rfl fun hbd => ?_
 (conv => whnf)
 refine split_intro (fun h1 => ?_) (fun h1 => ?_)
 ·have h1' := of_decide_eq_true h1
  (conv => whnf)
  refine split_intro (fun h2 => ?_) (fun h2 => ?_)
  ·have h2' := of_decide_eq_true h2
   (conv => whnf)
   refine CallLeaf.wa (CA) rfl ?_
   (conv => whnf)
   cases ha : l.any bad2 with
   | true =>
    have e : fitN l = false := by simp [fitN, ha]
    rw [e]
    (conv => whnf)
    exact Wk.refl _
   | false =>
    obtain ⟨x, hx, hg⟩ := last_at (l := l) (by omega)
    (conv => whnf)
    refine ⟨_, sub64 (c := (l.length : Int) - 1) (by omega) (by omega), ?_⟩
    (conv => whnf)
    refine ⟨x, ⟨by omega, hx⟩, ?_⟩
    (conv => whnf)
    cases hq : ((x.toNat : Int) != 32) with
    | true =>
     have hx2 : x ≠ 32 := fun e => by subst e; simp at hq
     have e : fitN l = true := by simp only [fitN, ha, hg]; simp [hx2]; omega
     rw [e]
     exact Wk.bool rfl
    | false =>
     obtain rfl : x = 32 := O.u8_eq (y := 32) hq
     have e : fitN l = false := by simp [fitN, hg]
     rw [e]
     exact Wk.bool rfl
  ·have h2' := of_decide_eq_false h2
   have e : fitN l = false := by simp [fitN]; intros; omega
   rw [e]
   (conv => whnf)
   exact Wk.refl _
 ·have h1' := of_decide_eq_false h1
  have e : fitN l = false := by simp [fitN]; intros; omega
  rw [e]
  (conv => whnf)
  exact Wk.refl _
abbrev fF (w b : Int) (bl : Bool) (f : FuncId) : List D := [vI w, vI b, vB bl, .func (.func f) [] []]
abbrev F5 : List (List D) := [fF 12 10 true 116, fF 6 10 true 117, fF 6 10 true 118, fF 8 8 true 119, fF 10 10 false 120]
theorem fields_ [Go.AL.MX] : FCall Tryz.prog Gl 95 [] [] (.list .nat F5) [] := by
 refine FCall.enterL hT hmix [] Tryz.func95 rfl rfl rfl fun hbd => ?_
 (conv => whnf)

 exact Wk.refl _
theorem at1_ [Go.AL.MX] (h : Hdr) : FCall Tryz.prog Gl 116 [.ptr 0 0] [.cells h.enc] (.ptr 0 1) [.cells h.enc] := by
 refine FCall.enterO hT hmix [] Tryz.func116 rfl rfl rfl fun hbd => ?_
 (conv => whnf)
 refine ⟨[0], rfl, by (try unfold pullOk); (repeat' (first | exact trivial | exact ObWk.refl _ | refine And.intro ?_ ?_ | unfold pullOk)), ?_⟩
 exact Wk.refl _
theorem at2_ [Go.AL.MX] (h : Hdr) : FCall Tryz.prog Gl 117 [.ptr 0 0] [.cells h.enc] (.ptr 0 2) [.cells h.enc] := by
 refine FCall.enterO hT hmix [] Tryz.func117 rfl rfl rfl fun hbd => ?_
 (conv => whnf)
 refine ⟨[0], rfl, by (try unfold pullOk); (repeat' (first | exact trivial | exact ObWk.refl _ | refine And.intro ?_ ?_ | unfold pullOk)), ?_⟩
 exact Wk.refl _
theorem at3_ [Go.AL.MX] (h : Hdr) : FCall Tryz.prog Gl 118 [.ptr 0 0] [.cells h.enc] (.ptr 0 3) [.cells h.enc] := by
 refine FCall.enterO hT hmix [] Tryz.func118 rfl rfl rfl fun hbd => ?_
 (conv => whnf)
 refine ⟨[0], rfl, by (try unfold pullOk); (repeat' (first | exact trivial | exact ObWk.refl _ | refine And.intro ?_ ?_ | unfold pullOk)), ?_⟩
 exact Wk.refl _
theorem at4_ [Go.AL.MX] (h : Hdr) : FCall Tryz.prog Gl 119 [.ptr 0 0] [.cells h.enc] (.ptr 0 4) [.cells h.enc] := by
 refine FCall.enterO hT hmix [] Tryz.func119 rfl rfl rfl fun hbd => ?_
 (conv => whnf)
 refine ⟨[0], rfl, by (try unfold pullOk); (repeat' (first | exact trivial | exact ObWk.refl _ | refine And.intro ?_ ?_ | unfold pullOk)), ?_⟩
 exact Wk.refl _
theorem at5_ [Go.AL.MX] (h : Hdr) : FCall Tryz.prog Gl 120 [.ptr 0 0] [.cells h.enc] (.ptr 0 5) [.cells h.enc] := by
 refine FCall.enterO hT hmix [] Tryz.func120 rfl rfl rfl fun hbd => ?_
 (conv => whnf)
 refine ⟨[0], rfl, by (try unfold pullOk); (repeat' (first | exact trivial | exact ObWk.refl _ | refine And.intro ?_ ?_ | unfold pullOk)), ?_⟩
 exact Wk.refl _
end Go.Proofs.YtenbpnlmpjndgaaGreatDoor.H
