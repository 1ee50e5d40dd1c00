/- The names of a table. No condition. -/
import Derived.Test.YtfbmknghfhancaaGreatDoorGWa
import Derived.Test.YtfbmknghfhancaaGreatDoorGAc
import Derived.Shelf.SlIter.Nil
import Derived.Shelf.SortM.Plain
import Derived.Shelf.SortM.SortNone
import Derived.Ground.GgzProg
import Derived.Ground.SlgmProg
import Derived.Test.YtfbmknghfhancaaGreatDoorGPa
set_option linter.unusedVariables false
set_option linter.unusedSimpArgs false
namespace Go.Proofs
open Go.RowKit Go.Maps Go.Sort Go.Shelf
def YtfbmknghfhancaaGreatDoor.keysA_ren : Go.Shelf.Ren := ⟨fun | 7 => 64 | 10 => 83 | n => n, fun | 23 => 35 | 26 => 9 | 3 => 106 | 28 => 131 | 0 => 0 | 27 => 130 | 33 => 107 | 4 => 4 | n => n, fun | n => n⟩
theorem YtfbmknghfhancaaGreatDoor.keysA : Go.Proofs.SlLaysZ.n7 Tryz.prog YtfbmknghfhancaaGreatDoor.keysA_ren := {
  mixed := by kernel_rfl
  f7 := ⟨Tryz.f64.name, by decide, Tryz.func64.trans (congrArg some (by kernel_rfl))⟩
  f10 := ⟨Tryz.f83.name, by decide, Tryz.func83.trans (congrArg some (by kernel_rfl))⟩
  t0 := Tryz.underlying0
  a0 := Tryz.isAgg0
  z0 := Tryz.sizeOf0
  v0 := Tryz.zeroValue0
  t4 := Tryz.underlying4
  a4 := Tryz.isAgg4
  z4 := Tryz.sizeOf4
  v4 := Tryz.zeroValue4
  t23 := Tryz.underlying35
  a23 := Tryz.isAgg35
  z23 := Tryz.sizeOf35
  v23 := Tryz.zeroValue35
  t26 := Tryz.underlying9
  a26 := Tryz.isAgg9
  z26 := Tryz.sizeOf9
  v26 := Tryz.zeroValue9
  t27 := Tryz.underlying130
  a27 := Tryz.isAgg130
  z27 := Tryz.sizeOf130
  v27 := Tryz.zeroValue130
  t28 := Tryz.underlying131
  a28 := Tryz.isAgg131
  z28 := Tryz.sizeOf131
  v28 := Tryz.zeroValue131
  t33 := Tryz.underlying107
  a33 := Tryz.isAgg107
  z33 := Tryz.sizeOf107
  v33 := Tryz.zeroValue107 }
def YtfbmknghfhancaaGreatDoor.sortedA_ren : Go.Shelf.Ren := ⟨fun | 6 => 63 | 8 => 81 | 9 => 82 | 11 => 91 | 13 => 93 | 12 => 92 | 23 => 107 | 24 => 108 | 14 => 98 | 15 => 99 | 16 => 100 | 17 => 101 | 18 => 102 | 19 => 103 | 20 => 104 | 21 => 105 | 22 => 106 | 25 => 111 | 26 => 112 | 27 => 113 | 28 => 114 | 29 => 115 | 30 => 116 | 31 => 121 | n => n, fun | 26 => 9 | 28 => 131 | 24 => 73 | 0 => 0 | 3 => 3 | 37 => 161 | 48 => 175 | 50 => 177 | 4 => 4 | 40 => 168 | 39 => 167 | 45 => 172 | 5 => 5 | 9 => 9 | 51 => 180 | 55 => 184 | 57 => 188 | 58 => 81 | 33 => 107 | n => n, fun | n => n⟩
theorem YtfbmknghfhancaaGreatDoor.sortedA : Go.Proofs.SlLaysZ.n6 Tryz.prog YtfbmknghfhancaaGreatDoor.sortedA_ren := {
  mixed := by kernel_rfl
  f6 := ⟨Tryz.f63.name, by decide, Tryz.func63.trans (congrArg some (by kernel_rfl))⟩
  f8 := ⟨Tryz.f81.name, by decide, Tryz.func81.trans (congrArg some (by kernel_rfl))⟩
  f11 := ⟨Tryz.f91.name, by decide, Tryz.func91.trans (congrArg some (by kernel_rfl))⟩
  t0 := Tryz.underlying0
  a0 := Tryz.isAgg0
  z0 := Tryz.sizeOf0
  v0 := Tryz.zeroValue0
  t24 := Tryz.underlying73
  a24 := Tryz.isAgg73
  z24 := Tryz.sizeOf73
  v24 := Tryz.zeroValue73
  t26 := Tryz.underlying9
  a26 := Tryz.isAgg9
  z26 := Tryz.sizeOf9
  v26 := Tryz.zeroValue9
  t28 := Tryz.underlying131
  a28 := Tryz.isAgg131
  z28 := Tryz.sizeOf131
  v28 := Tryz.zeroValue131
  i26 := by kernel_rfl }
def YtfbmknghfhancaaGreatDoor.sortA_ren : Go.Shelf.Ren := ⟨fun | 6 => 82 | 8 => 93 | 9 => 92 | 19 => 107 | 20 => 108 | 21 => 98 | 22 => 99 | 23 => 100 | 24 => 101 | 25 => 102 | 26 => 103 | 27 => 104 | 28 => 105 | 29 => 106 | 36 => 111 | 31 => 112 | 32 => 113 | 37 => 114 | 38 => 115 | 39 => 116 | 41 => 121 | n => n, fun | 27 => 73 | 29 => 9 | 3 => 3 | 32 => 161 | 26 => 73 | 0 => 0 | 44 => 175 | 46 => 177 | 4 => 4 | 36 => 168 | 35 => 167 | 41 => 172 | 5 => 5 | 9 => 9 | 53 => 180 | 57 => 184 | 63 => 188 | 64 => 81 | n => n, fun | n => n⟩
theorem YtfbmknghfhancaaGreatDoor.sortA : Go.Proofs.SlLaysM.n6 Tryz.prog YtfbmknghfhancaaGreatDoor.sortA_ren := {
  mixed := by kernel_rfl
  f6 := ⟨Tryz.f82.name, by decide, Tryz.func82.trans (congrArg some (by kernel_rfl))⟩
  f8 := Tryz.func93.trans (congrArg some (by kernel_rfl))
  f9 := ⟨Tryz.f92.name, by decide, Tryz.func92.trans (congrArg some (by kernel_rfl))⟩
  f19 := Tryz.func107.trans (congrArg some (by kernel_rfl))
  f20 := Tryz.func108.trans (congrArg some (by kernel_rfl))
  f21 := ⟨Tryz.f98.name, by decide, Tryz.func98.trans (congrArg some (by kernel_rfl))⟩
  f22 := ⟨Tryz.f99.name, by decide, Tryz.func99.trans (congrArg some (by kernel_rfl))⟩
  f23 := ⟨Tryz.f100.name, by decide, Tryz.func100.trans (congrArg some (by kernel_rfl))⟩
  f24 := ⟨Tryz.f101.name, by decide, Tryz.func101.trans (congrArg some (by kernel_rfl))⟩
  f25 := ⟨Tryz.f102.name, by decide, Tryz.func102.trans (congrArg some (by kernel_rfl))⟩
  f26 := ⟨Tryz.f103.name, by decide, Tryz.func103.trans (congrArg some (by kernel_rfl))⟩
  f27 := ⟨Tryz.f104.name, by decide, Tryz.func104.trans (congrArg some (by kernel_rfl))⟩
  f28 := ⟨Tryz.f105.name, by decide, Tryz.func105.trans (congrArg some (by kernel_rfl))⟩
  f29 := ⟨Tryz.f106.name, by decide, Tryz.func106.trans (congrArg some (by kernel_rfl))⟩
  f31 := Tryz.func112.trans (congrArg some (by kernel_rfl))
  f32 := Tryz.func113.trans (congrArg some (by kernel_rfl))
  f36 := ⟨Tryz.f111.name, by decide, Tryz.func111.trans (congrArg some (by kernel_rfl))⟩
  f37 := ⟨Tryz.f114.name, by decide, Tryz.func114.trans (congrArg some (by kernel_rfl))⟩
  f38 := ⟨Tryz.f115.name, by decide, Tryz.func115.trans (congrArg some (by kernel_rfl))⟩
  f39 := ⟨Tryz.f116.name, by decide, Tryz.func116.trans (congrArg some (by kernel_rfl))⟩
  f41 := ⟨Tryz.f121.name, by decide, Tryz.func121.trans (congrArg some (by kernel_rfl))⟩
  t0 := Tryz.underlying0
  a0 := Tryz.isAgg0
  z0 := Tryz.sizeOf0
  v0 := Tryz.zeroValue0
  t3 := Tryz.underlying3
  a3 := Tryz.isAgg3
  z3 := Tryz.sizeOf3
  v3 := Tryz.zeroValue3
  t4 := Tryz.underlying4
  a4 := Tryz.isAgg4
  z4 := Tryz.sizeOf4
  v4 := Tryz.zeroValue4
  t5 := Tryz.underlying5
  a5 := Tryz.isAgg5
  z5 := Tryz.sizeOf5
  v5 := Tryz.zeroValue5
  t9 := Tryz.underlying9
  a9 := Tryz.isAgg9
  z9 := Tryz.sizeOf9
  v9 := Tryz.zeroValue9
  t26 := Tryz.underlying73
  a26 := Tryz.isAgg73
  z26 := Tryz.sizeOf73
  v26 := Tryz.zeroValue73
  t27 := Tryz.underlying73
  a27 := Tryz.isAgg73
  z27 := Tryz.sizeOf73
  v27 := Tryz.zeroValue73
  t29 := Tryz.underlying9
  a29 := Tryz.isAgg9
  z29 := Tryz.sizeOf9
  v29 := Tryz.zeroValue9
  t32 := Tryz.underlying161
  a32 := Tryz.isAgg161
  z32 := Tryz.sizeOf161
  v32 := Tryz.zeroValue161
  t35 := Tryz.underlying167
  a35 := Tryz.isAgg167
  z35 := Tryz.sizeOf167
  v35 := Tryz.zeroValue167
  t36 := Tryz.underlying168
  a36 := Tryz.isAgg168
  z36 := Tryz.sizeOf168
  v36 := Tryz.zeroValue168
  t41 := Tryz.underlying172
  a41 := Tryz.isAgg172
  z41 := Tryz.sizeOf172
  v41 := Tryz.zeroValue172
  t44 := Tryz.underlying175
  a44 := Tryz.isAgg175
  z44 := Tryz.sizeOf175
  v44 := Tryz.zeroValue175
  t46 := Tryz.underlying177
  a46 := Tryz.isAgg177
  z46 := Tryz.sizeOf177
  v46 := Tryz.zeroValue177
  t53 := Tryz.underlying180
  a53 := Tryz.isAgg180
  z53 := Tryz.sizeOf180
  v53 := Tryz.zeroValue180
  t57 := Tryz.underlying184
  a57 := Tryz.isAgg184
  z57 := Tryz.sizeOf184
  v57 := Tryz.zeroValue184
  t63 := Tryz.underlying188
  a63 := Tryz.isAgg188
  z63 := Tryz.sizeOf188
  v63 := Tryz.zeroValue188
  t64 := Tryz.underlying81
  a64 := Tryz.isAgg81
  z64 := Tryz.sizeOf81
  v64 := Tryz.zeroValue81 }
theorem YtfbmknghfhancaaGreatDoor.sortsA (m : Nat) : AnyZ.SortsIn Tryz.prog YtfbmknghfhancaaGreatDoor.sortedA_ren Fence.wide m :=
  ⟨fun blk off cap ss W hH hblk hsz => callsIn_wide.2 (AnyM.slices_Sort_string YtfbmknghfhancaaGreatDoor.sortA blk off cap ss W hH hblk hsz),
   fun p cap W => callsIn_wide.2 (AnyM.slices_Sort_string_none YtfbmknghfhancaaGreatDoor.sortA p cap W)⟩
theorem YtfbmknghfhancaaGreatDoor.sorted_at {H : Type} (Bm b nn : Nat) (D0 : DataW H) (R : Value → Option (DataW H × List MemPlace)) (w : World) (hBm : Bm < w.heap.size) (hm : w.cell? ⟨Bm, 0, none⟩ = some (.map (some b)))
    (hown : w.ownsMap Tryz.prog 9 R b nn D0) (hmax : Maps.size D0 ≤ maxLen) (hbytes : Maps.size D0 * 16 ≤ 140737488355328) :
    Calls Tryz.prog 63 #[.func (.func 83) #[] #[.pointer (some ⟨Bm, 0, none⟩)]] w fun e w' => ∃ (v : Value) (ss : List (List UInt8)), e = .returned v ∧ ss.Perm (strKeys D0) ∧
      w'.ownsRow w.heap.size 9 1 v ss.length ((ss.mergeSort (fun x y => decide (x ≤ y))).map encStr) ∧ (v = .slice none 0 0 ↔ ss = []) ∧ Below w.heap.size w w' := by
  refine (callsIn_wide (n := 5)).1 ?_
  have hseq : SeqGives Fence.wide 2 Tryz.prog 83 #[.pointer (some ⟨Bm, 0, none⟩)] encStr (fun ss => ss.Perm (strKeys D0)) (Maps.size D0) w :=
    AnyZ.keys_gives (ρ := YtfbmknghfhancaaGreatDoor.keysA_ren) { YtfbmknghfhancaaGreatDoor.keysA with } Fence.wide _ trivial rfl (by omega) Bm b nn D0 _ hBm hm hown
  have cS := AnyZ.sorted_in YtfbmknghfhancaaGreatDoor.sortedA Fence.wide 5 trivial trivial trivial trivial rfl (by omega) (YtfbmknghfhancaaGreatDoor.sortsA _) (enters_of Tryz.func82 (by kernel_rfl) rfl) 83 #[.pointer (some ⟨Bm, 0, none⟩)] trivial (enters_of Tryz.func83 (by kernel_rfl) rfl) _ _ hmax hbytes _ hseq
  exact cS
theorem YtfbmknghfhancaaGreatDoor.sorted_nil (Bm : Nat) (w : World) (hBm : Bm < w.heap.size) (hm : w.cell? ⟨Bm, 0, none⟩ = some (.map none)) :
    Calls Tryz.prog 63 #[.func (.func 83) #[] #[.pointer (some ⟨Bm, 0, none⟩)]] w fun e w' => ∃ (v : Value) (ss : List (List UInt8)), e = .returned v ∧ ss = [] ∧
      w'.ownsRow w.heap.size 9 1 v ss.length ((ss.mergeSort (fun x y => decide (x ≤ y))).map encStr) ∧ (v = .slice none 0 0 ↔ ss = []) ∧ Below w.heap.size w w' := by
  refine (callsIn_wide (n := 5)).1 ?_
  have hseq : SeqGives Fence.wide 2 Tryz.prog 83 #[.pointer (some ⟨Bm, 0, none⟩)] encStr (fun ss : List (List UInt8) => ss = []) 0 w :=
    AnyZ.keys_gives_nil (ρ := YtfbmknghfhancaaGreatDoor.keysA_ren) { YtfbmknghfhancaaGreatDoor.keysA with } Fence.wide _ trivial rfl Bm w hBm hm
  have cS := AnyZ.sorted_in YtfbmknghfhancaaGreatDoor.sortedA Fence.wide 5 trivial trivial trivial trivial rfl (by omega) (YtfbmknghfhancaaGreatDoor.sortsA _) (enters_of Tryz.func82 (by kernel_rfl) rfl) 83 #[.pointer (some ⟨Bm, 0, none⟩)] trivial (enters_of Tryz.func83 (by kernel_rfl) rfl) _ 0 (by unfold maxLen; omega) (by omega) _ hseq
  exact cS
end Go.Proofs
namespace Go.Proofs.YtfbmknghfhancaaGreatDoor
open Go Go.AL Go.AL.Bd Go.AL.Tb
set_option maxRecDepth 100000
set_option maxHeartbeats 4000000
abbrev mN : D := .v (.map none)
abbrev pN : D := .v (.pointer none)
abbrev kF : D := .func (.func 83) [] [.ptr 0 0]
abbrev Kq (T : Sy.Tb) : List AObj := [.cells [.map 1], .map (Sy.ents T)]
theorem sorted_run (U : List Use) (hU : ∀ u ∈ U, u.sym.name.length ≤ 1000000) (hl : U.length ≤ 1000000) :
    ∀ E (w : World) vs, Core Gl E w.heap (sto (Kq (Sy.build U))) (Kq (Sy.build U)).length → VRs E w.heap (sto (Kq (Sy.build U))) [kF] vs →
      Calls Tryz.prog 63 vs.toArray w fun e w' => ∃ (v : Value) (t : TypeId), e = .returned v ∧ w'.ownsRow w.heap.size t 1 v (Sy.names U).length ((Sy.names U).map encStr) ∧ RowKit.Below w.heap.size w w' := by
  intro E w vs C hv
  have h0 : OR E w.heap (sto (Kq (Sy.build U))) 0 (.cells [.map 1]) := C.objs 0
  have h1 : OR E w.heap (sto (Kq (Sy.build U))) 1 (.map (Sy.ents (Sy.build U))) := C.objs 1
  obtain ⟨us, e, hb0, hv0, _⟩ := h0
  obtain ⟨ents, clk, hb1, ⟨hsz, hst⟩, hev, _⟩ := h1
  have hus : us = #[.map (some (E.φ 1))] := by
    have hl0 := hv0.1
    have hx := hv0.2 0 (by simp) (by rw [hl0]; simp)
    simp only [List.getElem_cons_zero] at hx
    have := hx.map_inv.1
    match hh : us.toList, hl0 with
    | [y], _ =>
      simp only [hh, List.getElem_cons_zero] at this
      apply Array.ext'
      rw [hh, this]
  have hvs : vs = [.func (.func 83) #[] #[.pointer (some ⟨E.φ 0, 0, none⟩)]] := by
    have hl0 := hv.1
    match vs, hl0 with
    | [y], _ =>
      have hx := hv.2 0 (by simp) (by simp)
      simp only [List.getElem_cons_zero] at hx
      cases hx with
      | func fn fs cs us' vs' l1 l2 g1 g2 =>
        have e1 : us' = [] := List.eq_nil_of_length_eq_zero (by simpa using l1)
        subst e1
        match vs', l2 with
        | [z], _ =>
          have hz := g2 0 (by simp) (by simp)
          simp only [List.getElem_cons_zero] at hz
          rw [hz.ptr_inv.1]
  have hkl := Sy.keys_len U
  have hcl : (Sy.ents (Sy.build U)).length = (Sy.keys (Sy.build U)).length := by simp [Sy.ents, Sy.keys]
  have hnm : ∀ s ∈ Sy.keys (Sy.build U), s.length ≤ maxLen := by
    intro s hs
    have := (Sy.mem_keys_names s U).1 hs
    rw [Sy.mem_names] at this
    obtain ⟨u, hu⟩ := List.exists_mem_of_ne_nil _ this
    have h2 := List.mem_filter.1 hu
    have h3 := of_decide_eq_true h2.2
    have := hU u h2.1
    rw [h3] at this
    unfold maxLen; omega
  obtain ⟨D0, o1, o2, o3⟩ := map_owns (P := Tryz.prog) (k := 9) Tryz.underlying9 hb1 hst (Sy.keys (Sy.build U)) (by rw [hsz, hcl]) (fun i hi hi' => by
    have h2 := (hev i (by rw [← hsz]; exact hi) hi).1
    rw [h2]; simp [Sy.ents, Sy.keys]) hnm (by unfold maxLen; omega)
  subst hvs
  have hbm : w.cell? ⟨E.φ 0, 0, none⟩ = some (.map (some (E.φ 1))) := by
    rw [cell?_eq]; simp [cellH, hb0, hus]
  refine (sorted_at (E.φ 0) (E.φ 1) _ D0 RN w (lt_of_get hb0) hbm o1 (by rw [o3]; unfold maxLen; omega) (by rw [o3]; omega)).mono fun e w' ⟨v, ss, he, hp, hr, _, hbl⟩ => ?_
  have hs := Sy.sort_names (hp.trans o2)
  have hlen : ss.length = (Sy.names U).length := by rw [← hs]; simp
  rw [hs, hlen] at hr
  exact ⟨v, _, he, hr, hbl⟩
theorem isSorted : IsFn Tryz.prog 63 := ⟨_, Tryz.func63, by kernel_rfl, by kernel_rfl⟩
theorem sortedL_ (U : List Use) (hU : ∀ u ∈ U, u.sym.name.length ≤ 1000000) (hl : U.length ≤ 1000000) :
    FCall Tryz.prog Gl 63 [kF] (Kq (Sy.build U)) (LSn (Sy.names U)) (Kq (Sy.build U)) :=
  FCall.rowL isSorted (by have := names_len U; omega) (sorted_run U hU hl)
theorem sortedA_ (U : List Use) (hU : ∀ u ∈ U, u.sym.name.length ≤ 1000000) (hl : U.length ≤ 1000000) :
    FCall Tryz.prog Gl 63 [kF] (Kq (Sy.build U)) (.sl 2 0 0 (Sy.names U).length) (Kq (Sy.build U) ++ [.arr 0 1 ((Sy.names U).map eS)]) :=
  FCall.rowA isSorted (sorted_run U hU hl)
theorem keys_ (T : Sy.Tb) : FCall Tryz.prog Gl 64 [.map 0] [.map (Sy.ents T)] (.func (.func 83) [] [.ptr 1 0]) [.map (Sy.ents T), .cells [.map 0]] := by
  refine FCall.enterO hT hmix [] Tryz.func64 rfl rfl rfl fun hbd => ?_
  (conv => whnf)
  refine ⟨[0, 1], rfl, by (try unfold pullOk); (repeat' (first | exact trivial | exact ObWk.refl _ | refine And.intro ?_ ?_ | unfold pullOk)), ?_⟩
  exact Wk.refl _
theorem keysZ_ : FCall Tryz.prog Gl 64 [mN] [] (.func (.func 83) [] [.ptr 0 0]) [.cells [mN]] := by
  refine FCall.enterO hT hmix [] Tryz.func64 rfl rfl rfl fun hbd => ?_
  (conv => whnf)
  refine ⟨[0], rfl, by (try unfold pullOk); (repeat' (first | exact trivial | exact ObWk.refl _ | refine And.intro ?_ ?_ | unfold pullOk)), ?_⟩
  exact Wk.refl _
theorem sortedZ_run :
    ∀ E (w : World) vs, Core Gl E w.heap (sto [.cells [mN]]) ([.cells [mN]] : List AObj).length → VRs E w.heap (sto [.cells [mN]]) [kF] vs →
      Calls Tryz.prog 63 vs.toArray w fun e w' => ∃ (v : Value) (t : TypeId), e = .returned v ∧ w'.ownsRow w.heap.size t 1 v ([] : List Str).length (([] : List Str).map encStr) ∧ RowKit.Below w.heap.size w w' := by
  intro E w vs C hv
  have h0 : OR E w.heap (sto [.cells [mN]]) 0 (.cells [mN]) := C.objs 0
  obtain ⟨us, e, hb0, hv0, _⟩ := h0
  have hus : us = #[.map none] := by
    have hl0 := hv0.1
    have hx := hv0.2 0 (by simp) (by rw [hl0]; simp)
    simp only [List.getElem_cons_zero] at hx
    have := hx.v_inv
    match hh : us.toList, hl0 with
    | [y], _ =>
      simp only [hh, List.getElem_cons_zero] at this
      apply Array.ext'
      rw [hh, this]
  have hvs : vs = [.func (.func 83) #[] #[.pointer (some ⟨E.φ 0, 0, none⟩)]] := by
    have hl0 := hv.1
    match vs, hl0 with
    | [y], _ =>
      have hx := hv.2 0 (by simp) (by simp)
      simp only [List.getElem_cons_zero] at hx
      cases hx with
      | func fn fs cs us' vs' l1 l2 g1 g2 =>
        have e1 : us' = [] := List.eq_nil_of_length_eq_zero (by simpa using l1)
        subst e1
        match vs', l2 with
        | [z], _ =>
          have hz := g2 0 (by simp) (by simp)
          simp only [List.getElem_cons_zero] at hz
          rw [hz.ptr_inv.1]
  subst hvs
  have hbm : w.cell? ⟨E.φ 0, 0, none⟩ = some (.map none) := by
    rw [cell?_eq]; simp [cellH, hb0, hus]
  refine (sorted_nil (E.φ 0) w (lt_of_get hb0) hbm).mono fun e w' ⟨v, ss, he, hp, hr, _, hbl⟩ => ?_
  subst hp
  rw [List.mergeSort_nil] at hr
  exact ⟨v, _, he, hr, hbl⟩
theorem sortedZA_ : FCall Tryz.prog Gl 63 [kF] [.cells [mN]] (.sl 1 0 0 0) ([.cells [mN]] ++ [.arr 0 1 (([] : List Str).map eS)]) :=
  FCall.rowA (l := []) isSorted sortedZ_run
theorem sortedZ_ : FCall Tryz.prog Gl 63 [kF] [.cells [mN]] (LSn []) [.cells [mN]] :=
  FCall.rowL (l := []) isSorted (by simp) sortedZ_run
end Go.Proofs.YtfbmknghfhancaaGreatDoor

namespace Go.Proofs.YtfbmknghfhancaaGreatDoor.O
open Go Go.AL Go.AL.Ap
set_option maxRecDepth 100000
theorem ibs (s : Str) (c : Int) : ECall Tryz.prog 122 [sD s, .v (.int .u8 c)] (vI (Lib.indexByte s c.toNat.toUInt8)) :=
 ibs_ Tryz.func122 (by kernel_rfl) (by kernel_rfl) (by kernel_rfl) (by kernel_rfl) s c
theorem has0 (s : Str) : decide (0 ≤ Lib.indexByte s 0) = decide ((0 : UInt8) ∈ s) := by
 rw [ib_spec]
 by_cases h : (0 : UInt8) ∈ s
 ·have : s.dropWhile isz ≠ [] := by
   intro e
   have h2 := List.takeWhile_append_dropWhile (p := isz) (l := s)
   rw [e, List.append_nil] at h2
   have h3 := List.all_takeWhile (p := isz) (l := s)
   rw [h2] at h3
   have := List.all_eq_true.1 h3 0 h
   simp [isz] at this
  rw [if_neg this]; simp [h]
 ·have := dw_app (isz_of h) []
  simp only [List.append_nil, List.dropWhile_nil] at this
  rw [if_pos this]; simp [h]
theorem sibyte_ (s : Str) (c : Int) : FCall Tryz.prog Gl 117 [sD s, .v (.int .u8 c)] [] (vI (Lib.indexByte s c.toNat.toUInt8)) [] := by
 refine FCall.enterL hT hmix [] Tryz.func117 rfl rfl rfl fun hbd => ?_
 (conv => whnf)
 refine CallLeaf.e (Wks.cons (Wk.refl _) (Wks.cons (Wk.refl _) Wks.nil)) (ibs s c) ?_
 (conv => whnf)
 exact Wk.refl _
theorem slindex_ (s : Str) (c : UInt8) : FCall Tryz.prog Gl 109 [sD s, sD [c]] [] (vI (Lib.indexByte s c)) [] := by
 have h1 := sibyte_ s (c.toNat : Int)
 simp only [Int.toNat_natCast, Nat.toUInt8] at h1
 refine FCall.enterL hT hmix [] Tryz.func109 rfl rfl rfl fun hbd => ?_
 (conv => whnf)
 refine split_intro (fun h => ?_) (fun h => ?_)
 ·have e : [c] = s := of_decide_eq_true h
  subst e
  (conv => whnf)
  exact Wk.int (by simp [Lib.indexByte])
 ·(conv => whnf)
  refine ⟨c, ⟨by decide, rfl⟩, ?_⟩
  (conv => whnf)
  refine CallLeaf.wa (h1) rfl ?_
  (conv => whnf)
  exact Wk.int (by simp)
theorem sindex_ (s : Str) (c : UInt8) : FCall Tryz.prog Gl 96 [sD s, sD [c]] [] (vI (Lib.indexByte s c)) [] := by
 refine FCall.enterL hT hmix [] Tryz.func96 rfl rfl rfl fun hbd => ?_
 (conv => whnf)
 refine CallLeaf.wa (slindex_ s c) rfl ?_
 (conv => whnf)
 exact Wk.refl _
theorem contains0_ (s : Str) : FCall Tryz.prog Gl 88 [sD s, sD [0]] [] (vB (decide ((0 : UInt8) ∈ s))) [] := by
 refine FCall.enterL hT hmix [] Tryz.func88 rfl rfl rfl fun hbd => ?_
 (conv => whnf)
 refine CallLeaf.wa (sindex_ s 0) rfl ?_
 (conv => whnf)
 exact Wk.bool (has0 s)
end Go.Proofs.YtfbmknghfhancaaGreatDoor.O

namespace Go.Proofs.YtfbmknghfhancaaGreatDoor.O
open Go Go.AL Go.AL.Ap
set_option maxRecDepth 100000
abbrev B (l : List UInt8) : List (List D) := l.map byteD
theorem word_ (n : Nat) (hn : n < 4294967296) : FCall Tryz.prog Gl 70 [vI n] [] (LBn (W4 n)) [] := by
 refine FCall.enterL hT hmix [] Tryz.func70 rfl rfl rfl fun hbd => ?_
 (conv => whnf)
 refine ⟨_, quo64k (b := 16777216) rfl (by omega) (by omega), ?_⟩
 (conv => whnf)
 refine ⟨_, wrapU8 _, ?_⟩
 (conv => whnf)
 refine ⟨_, quo64k (b := 65536) rfl (by omega) (by omega), ?_⟩
 (conv => whnf)
 refine ⟨_, wrapU8 _, ?_⟩
 (conv => whnf)
 refine ⟨_, quo64k (b := 256) rfl (by omega) (by omega), ?_⟩
 (conv => whnf)
 refine ⟨_, wrapU8 _, ?_⟩
 (conv => whnf)
 refine ⟨_, wrapU8 _, ?_⟩
 (conv => whnf)
 exact Wk.nat' rfl
theorem wordT_ (n : Nat) (hn : n < 4294967296) : FCall Tryz.prog Gl 70 [vI n] [] (.list (.tok 0) (B (W4 n))) [.tok (B (W4 n)).length 1] := by
 refine FCall.enterO hT hmix [] Tryz.func70 rfl rfl rfl fun hbd => ?_
 (conv => whnf)
 refine ⟨_, quo64k (b := 16777216) rfl (by omega) (by omega), ?_⟩
 (conv => whnf)
 refine ⟨_, wrapU8 _, ?_⟩
 (conv => whnf)
 refine ⟨_, quo64k (b := 65536) rfl (by omega) (by omega), ?_⟩
 (conv => whnf)
 refine ⟨_, wrapU8 _, ?_⟩
 (conv => whnf)
 refine ⟨_, quo64k (b := 256) rfl (by omega) (by omega), ?_⟩
 (conv => whnf)
 refine ⟨_, wrapU8 _, ?_⟩
 (conv => whnf)
 refine ⟨_, wrapU8 _, ?_⟩
 (conv => whnf)
 refine ⟨[600], rfl, by (try unfold pullOk); (repeat' (first | exact trivial | exact ObWk.refl _ | refine And.intro ?_ ?_ | unfold pullOk)), ?_⟩
 exact Wk.refl _
end Go.Proofs.YtfbmknghfhancaaGreatDoor.O

namespace Go.Proofs.YtfbmknghfhancaaGreatDoor.O
open Go Go.AL Go.AL.Ap
set_option maxRecDepth 100000
theorem num4 (a b c d : UInt8) (r : List UInt8) : num (a :: b :: c :: d :: r) = ((a.toNat * 256 + b.toNat) * 256 + c.toNat) * 256 + d.toNat := rfl
theorem split4 : ∀ {b : List UInt8}, 4 ≤ b.length → ∃ x y z w r, b = x :: y :: z :: w :: r
 | x :: y :: z :: w :: r, _ => ⟨x, y, z, w, r, rfl⟩
theorem number_ (b : List UInt8) (hb : 4 ≤ b.length) : FCall Tryz.prog Gl 41 [LB b] [] (vI (num b)) [] := by
 obtain ⟨x, y, z, w, r, rfl⟩ := split4 hb
 have hx := x.toNat_lt
 have hy := y.toNat_lt
 have hz := z.toNat_lt
 have hw := w.toNat_lt
 refine FCall.enterL hT hmix [] Tryz.func41 rfl rfl rfl fun hbd => ?_
 (conv => whnf)
 refine ⟨_, ⟨by decide, rfl⟩, ?_⟩
 (conv => whnf)
 refine ⟨_, wrap64 (by omega), ?_⟩
 (conv => whnf)
 refine ⟨_, mulN (b := 256) rfl rfl (by omega), ?_⟩
 (conv => whnf)
 refine ⟨_, ⟨by decide, rfl⟩, ?_⟩
 (conv => whnf)
 refine ⟨_, wrap64 (by omega), ?_⟩
 (conv => whnf)
 refine ⟨_, addN rfl (by omega), ?_⟩
 (conv => whnf)
 refine ⟨_, mulN (b := 256) rfl rfl (by omega), ?_⟩
 (conv => whnf)
 refine ⟨_, ⟨by decide, rfl⟩, ?_⟩
 (conv => whnf)
 refine ⟨_, wrap64 (by omega), ?_⟩
 (conv => whnf)
 refine ⟨_, addN rfl (by omega), ?_⟩
 (conv => whnf)
 refine ⟨_, mulN (b := 256) rfl rfl (by omega), ?_⟩
 (conv => whnf)
 refine ⟨_, ⟨by decide, rfl⟩, ?_⟩
 (conv => whnf)
 refine ⟨_, wrap64 (by omega), ?_⟩
 (conv => whnf)
 refine ⟨_, addN rfl (by omega), ?_⟩
 (conv => whnf)
 exact Wk.refl _
end Go.Proofs.YtfbmknghfhancaaGreatDoor.O

namespace Go.Proofs.YtfbmknghfhancaaGreatDoor.O
open Go Go.AL Go.AL.Ap
set_option maxRecDepth 100000
end Go.Proofs.YtfbmknghfhancaaGreatDoor.O

namespace Go.Proofs.YtfbmknghfhancaaGreatDoor.O
open Go Go.AL Go.AL.Ap
set_option maxRecDepth 100000
abbrev LE (l : List Ent) : D := .list .any (l.map Ent.enc)
abbrev LEn (l : List Ent) : D := .list .nat (l.map Ent.enc)
def encR (l : List Ent) : List UInt8 × Int := if l.all fits then (encB l, 0) else ([], 9)
theorem offs_take {l : List Ent} {k : Nat} {e : Ent} (h : l[k]? = some e) : offs (l.take (k + 1)) = offs (l.take k) ++ W4 e.2.toNat := by
 rw [List.take_add_one, h]; simp [offs]
theorem nams_take {l : List Ent} {k : Nat} {e : Ent} (h : l[k]? = some e) : nams (l.take (k + 1)) = (nams (l.take k) ++ e.1) ++ [0] := by
 rw [List.take_add_one, h]; simp [nams]
theorem nams_le (l : List Ent) (k : Nat) : (nams (l.take k)).length ≤ (nams l).length := by
 conv => rhs; rw [← List.take_append_drop k l]
 simp only [nams, List.flatMap_append, List.length_append]
 omega
theorem all_take {l : List Ent} {k : Nat} {e : Ent} (h : l[k]? = some e) : (l.take (k + 1)).all fits = ((l.take k).all fits && fits e) := by
 rw [List.take_add_one, h]; simp
theorem all_false {l : List Ent} {k : Nat} {e : Ent} (h : l[k]? = some e) (hf : fits e = false) : l.all fits = false := by
 rw [List.all_eq_false]
 exact ⟨e, List.mem_of_getElem? h, by simp [hf]⟩
end Go.Proofs.YtfbmknghfhancaaGreatDoor.O

namespace Go.Proofs.YtfbmknghfhancaaGreatDoor.O
open Go Go.AL Go.AL.Ap
set_option maxRecDepth 100000
def decR (b : List UInt8) : List Ent × Int := match dec b with | some q => (q, 0) | none => ([], 8)
theorem decR_none {b : List UInt8} (h : dec b = none) : decR b = ([], 8) := by simp [decR, h]
theorem decR_some {b : List UInt8} {q : List Ent} (h : dec b = some q) : decR b = (q, 0) := by simp [decR, h]
end Go.Proofs.YtfbmknghfhancaaGreatDoor.O

namespace Go.Proofs.YtfbmknghfhancaaGreatDoor.O
open Go Go.AL Go.AL.Ap
set_option maxRecDepth 100000
theorem num_take {x : List UInt8} (h : 4 ≤ x.length) : num (x.take 4) = num x := by
 obtain ⟨a, b, c, d, r, rfl⟩ := split4 h
 rfl
theorem sB_app (a b : Str) : sB a ++ sB b = sB (a ++ b) := by
 simp [sB, ByteArray.append]
 apply ByteArray.ext
 simp
theorem sB_sz (s : Str) : (sB s).size = s.length := by simp [sB, ByteArray.size]
end Go.Proofs.YtfbmknghfhancaaGreatDoor.O

namespace Go.Proofs.YtfbmknghfhancaaGreatDoor.O
open Go Go.AL Go.AL.Ap
set_option maxRecDepth 100000
theorem not_t {b : Bool} (h : (!b) = true) : b = false := by cases b <;> simp_all
theorem not_f {b : Bool} (h : (!b) = false) : b = true := by cases b <;> simp_all
theorem len_ne {a b : Nat} (h : ((a : Int) != (b : Int)) = true) : a ≠ b := by intro e; subst e; simp at h
theorem len_eq {a b : Nat} (h : ((a : Int) != (b : Int)) = false) : a = b := by
 by_cases e : a = b
 ·exact e
 ·have : ((a : Int) != (b : Int)) = true := by simp; omega
  rw [this] at h; exact absurd h (by decide)
theorem u8_ne {x y : UInt8} (h : ((x.toNat : Int) != (y.toNat : Int)) = true) : x ≠ y := fun e => by subst e; simp at h
theorem u8_eq {x y : UInt8} (h : ((x.toNat : Int) != (y.toNat : Int)) = false) : x = y := UInt8.toNat_inj.1 (len_eq h)
theorem same_ (a b : List UInt8) : FCall Tryz.prog Gl 58 [LB a, LB b] [] (vB (decide (a = b))) [] := by
 refine FCall.enterL hT hmix [] Tryz.func58 rfl rfl rfl fun hbd => ?_
 have ha := bds_list hbd (.head _)
 (conv => whnf)
 refine split_intro (fun h => ?_) (fun h => ?_)
 ·have hne : a.length ≠ b.length := by have := len_ne h; simpa using this
  (conv => whnf)
  exact Wk.bool (by symm; simp; intro e; subst e; exact hne rfl)
 ·have hl : a.length = b.length := by have := len_eq h; simpa using this
  (conv => whnf)
  refine LWp.loop hT hmix [] (fun k : Nat => [(5, vI k)]) (fun _ => []) (fun k => k ≤ a.length ∧ a.take k = b.take k) (fun k => a.length - k) 0 ⟨Nat.zero_le _, rfl⟩ ?_
  (conv => whnf)
  refine ⟨?_, fun k ⟨hk, hkk⟩ => ?_⟩
  ·(repeat' (first | exact trivial | exact Wk.refl _ | exact ObWk.refl _ | exact rfl | exact ⟨_, rfl⟩ | exact Nat.zero_lt_one | refine And.intro ?_ ?_ | unfold okTo | (unfold okO; conv => whnf) | (unfold okS; conv => whnf) | (unfold SlotOk; conv => whnf) | (unfold ObjOk; conv => whnf) | (unfold okCells; conv => whnf) | (unfold liveTo; conv => whnf) | exact Nat.zero_lt_succ _))
  ·(conv => whnf)
   refine split_intro (fun h1 => ?_) (fun h1 => ?_)
   ·have hlt : k < a.length := by have := of_decide_eq_true h1; simp at this; omega
    obtain ⟨x, hx⟩ := exI hlt
    obtain ⟨y, hy⟩ := exI (l := b) (k := k) (by omega)
    (conv => whnf)
    refine ⟨_, ⟨by omega, getMap hx⟩, ?_⟩
    (conv => whnf)
    refine ⟨_, ⟨by omega, getMap hy⟩, ?_⟩
    (conv => whnf)
    refine split_intro (fun h2 => ?_) (fun h2 => ?_)
    ·have := u8_ne h2
     (conv => whnf)
     exact Wk.bool (by
      symm; simp; intro e; subst e
      rw [hx] at hy; injection hy with hy; exact this hy)
    ·have := u8_eq h2
     subst this
     (conv => whnf)
     refine ⟨_, add64 (c := ((k + 1 : Nat) : Int)) (by omega) (by omega), ?_⟩
     (conv => whnf)
     refine ⟨k + 1, ⟨⟨by omega, by rw [List.take_add_one, List.take_add_one, hx, hy, hkk]⟩, by simp only []; omega⟩, ?_⟩
     (repeat' (first | exact trivial | exact Wk.refl _ | exact ObWk.refl _ | exact rfl | exact ⟨_, rfl⟩ | exact Nat.zero_lt_one | refine And.intro ?_ ?_ | unfold okTo | (unfold okO; conv => whnf) | (unfold okS; conv => whnf) | (unfold SlotOk; conv => whnf) | (unfold ObjOk; conv => whnf) | (unfold okCells; conv => whnf) | (unfold liveTo; conv => whnf) | exact Nat.zero_lt_succ _))
   ·have hge : a.length ≤ k := by have := of_decide_eq_false h1; simp at this; omega
    rw [List.take_of_length_le hge, List.take_of_length_le (by omega)] at hkk
    (conv => whnf)
    exact Wk.bool (by simp [hkk])
theorem eqE (a b : Ent) : eqCellsD a.enc b.enc = some (decide (a.1 = b.1) && (a.2 == b.2 && true)) := rfl
theorem eqE' (a b : Ent) : (decide (a.1 = b.1) && (a.2 == b.2 && true)) = decide (a = b) := by
 rw [Bool.eq_iff_iff]; simp [Prod.ext_iff]
def few (l : List Ent) : Bool := (l.take 101).all (fun e => decide (e.1.length ≤ 300)) && decide (l.length ≤ 100)
theorem few_iff {l : List Ent} (h : few l = true) : l.length ≤ 100 ∧ ∀ e ∈ l, e.1.length ≤ 300 := by
 simp only [few, Bool.and_eq_true, decide_eq_true_eq] at h
 obtain ⟨h1, h2⟩ := h
 rw [List.take_of_length_le (by omega)] at h1
 exact ⟨h2, fun e he => of_decide_eq_true (List.all_eq_true.1 h1 e he)⟩
def szs (l : List Str) : Nat := (l.map fun s => 5 + s.length).sum
theorem szs_take {l : List Str} {k : Nat} {s : Str} (h : l[k]? = some s) : szs (l.take (k + 1)) = szs (l.take k) + (5 + s.length) := by
 rw [List.take_add_one, h]
 simp only [szs, List.map_append, List.sum_append, Option.toList_some, List.map_cons, List.map_nil, List.sum_cons, List.sum_nil]
 omega
theorem szs_le {l : List Str} (hb : ∀ s ∈ l, s.length ≤ 1000) : ∀ k, szs (l.take k) ≤ 1005 * k
 | 0 => by simp [szs]
 | k + 1 => by
  have ih := szs_le hb k
  cases hs : l[k]? with
  | none => rw [List.take_add_one, hs]; simp only [Option.toList_none, List.append_nil]; omega
  | some s =>
   have := hb s (List.mem_of_getElem? hs)
   rw [szs_take hs]; omega
end Go.Proofs.YtfbmknghfhancaaGreatDoor.O

namespace Go.Proofs.YtfbmknghfhancaaGreatDoor.O
open Go Go.AL Go.AL.Ap Go.AL.Ob
set_option maxRecDepth 100000
abbrev SE (l : List Ob.Sym) : List (List D) := l.map Ob.Sym.enc
abbrev oD (o : Ob.Obj) : D := .agg [.list .any (SE o.syms), LB o.body]
abbrev oDn (o : Ob.Obj) : D := .agg [.list .nat (SE o.syms), LBn o.body]
theorem oget_ (b : List UInt8) (hb : 4 ≤ b.length) : FCall Tryz.prog Gl 87 [LB b] [] (vI (num b)) [] := by
 obtain ⟨x, y, z, w, r, rfl⟩ := split4 hb
 have hx := x.toNat_lt
 have hy := y.toNat_lt
 have hz := z.toNat_lt
 have hw := w.toNat_lt
 refine FCall.enterL hT hmix [] Tryz.func87 rfl rfl rfl fun hbd => ?_
 (conv => whnf)
 refine ⟨_, ⟨by decide, rfl⟩, ?_⟩
 (conv => whnf)
 refine ⟨_, wrap64 (by omega), ?_⟩
 (conv => whnf)
 refine ⟨_, shl64n (k := 24) (by omega) rfl (by omega), ?_⟩
 (conv => whnf)
 refine ⟨_, ⟨by decide, rfl⟩, ?_⟩
 (conv => whnf)
 refine ⟨_, wrap64 (by omega), ?_⟩
 (conv => whnf)
 refine ⟨_, shl64n (k := 16) (by omega) rfl (by omega), ?_⟩
 (conv => whnf)
 refine ⟨_, or64n (x.toNat) 24 rfl (by omega) rfl (by omega), ?_⟩
 (conv => whnf)
 refine ⟨_, ⟨by decide, rfl⟩, ?_⟩
 (conv => whnf)
 refine ⟨_, wrap64 (by omega), ?_⟩
 (conv => whnf)
 refine ⟨_, shl64n (k := 8) (by omega) rfl (by omega), ?_⟩
 (conv => whnf)
 refine ⟨_, or64n (x.toNat * 256 + y.toNat) 16 (by omega) (by omega) rfl (by omega), ?_⟩
 (conv => whnf)
 refine ⟨_, ⟨by decide, rfl⟩, ?_⟩
 (conv => whnf)
 refine ⟨_, wrap64 (by omega), ?_⟩
 (conv => whnf)
 refine ⟨_, or64n ((x.toNat * 256 + y.toNat) * 256 + z.toNat) 8 (by omega) (by omega) rfl (by omega), ?_⟩
 (conv => whnf)
 exact Wk.int (by rw [num4]; omega)
abbrev thr (n : Int) : D := .iface 121 (.agg [vI n])
abbrev Dr (r : List UInt8) : List AObj := [.cells [LB r]]
theorem must_t (n : Int) : FCall Tryz.prog Gl 72 [vB true, vI n] [] (.tuple []) [] := by
 refine FCall.enterL hT hmix [] Tryz.func72 rfl rfl rfl fun hbd => ?_
 (conv => whnf)
 exact Wk.refl _
theorem must_f (n : Int) : PCall Tryz.prog Gl 72 [vB false, vI n] [] (thr n) [] := by
 refine PCall.enter hT hmix [] Tryz.func72 rfl rfl rfl fun hbd => ?_
 (conv => whnf)
 refine ⟨[], rfl, by (try unfold pullOk); (repeat' (first | exact trivial | exact ObWk.refl _ | refine And.intro ?_ ?_ | unfold pullOk)), ?_⟩
 exact Wk.refl _
theorem take_ (r : List UInt8) (n : Nat) (hn : n ≤ r.length) : FCall Tryz.prog Gl 73 [.ptr 0 0, vI n] (Dr r) (LB (r.take n)) (Dr (r.drop n)) := by
 refine FCall.enterO hT hmix [] Tryz.func73 rfl rfl rfl fun hbd => ?_
 (conv => whnf)
 refine split_intro (fun h => absurd h (by (simp; omega))) (fun _ => ?_)
 (conv => whnf)
 refine ⟨_, slTake (f := byteD) (l := r) (b := n) (r := r.take n) rfl hn (fun _ => rfl) rfl, ?_⟩
 (conv => whnf)
 refine ⟨_, slDrop (f := byteD) (l := r) (a := n) (r := r.drop n) rfl hn (fun _ => rfl) rfl, ?_⟩
 (conv => whnf)
 refine ⟨[0], rfl, by (try unfold pullOk); (repeat' (first | exact trivial | exact ObWk.refl _ | refine And.intro ?_ ?_ | unfold pullOk)), ?_⟩
 exact Wk.refl _
theorem take_f (r : List UInt8) (n : Nat) (hn : ¬ n ≤ r.length) : PCall Tryz.prog Gl 73 [.ptr 0 0, vI n] (Dr r) (thr 2) (Dr r) := by
 refine PCall.enter hT hmix [] Tryz.func73 rfl rfl rfl fun hbd => ?_
 (conv => whnf)
 refine split_intro (fun _ => ?_) (fun h => absurd h (by (simp; omega)))
 (conv => whnf)
 refine ⟨[0], rfl, by (try unfold pullOk); (repeat' (first | exact trivial | exact ObWk.refl _ | refine And.intro ?_ ?_ | unfold pullOk)), ?_⟩
 exact Wk.refl _
end Go.Proofs.YtfbmknghfhancaaGreatDoor.O

namespace Go.Proofs.YtfbmknghfhancaaGreatDoor.O
open Go Go.AL Go.AL.Ap Go.AL.Ob
set_option maxRecDepth 100000
abbrev Dj : List AObj := [.cells [.junk]]
theorem number_ok (r : List UInt8) (hn : 4 ≤ r.length) : FCall Tryz.prog Gl 74 [.ptr 0 0] (Dr r) (vI (num r)) (Dr (r.drop 4)) := by
 have hg := oget_ (r.take 4) (by simp; omega)
 rw [num_take hn] at hg
 refine FCall.enterO hT hmix [] Tryz.func74 rfl rfl rfl fun hbd => ?_
 (conv => whnf)
 refine CallLeaf.oa [0] (take_ r 4 hn) rfl rfl rfl rfl ?_
 (conv => whnf)
 refine CallLeaf.wa (hg) rfl ?_
 (conv => whnf)
 refine ⟨[0], rfl, by (try unfold pullOk); (repeat' (first | exact trivial | exact ObWk.refl _ | refine And.intro ?_ ?_ | unfold pullOk)), ?_⟩
 exact Wk.refl _
theorem number_f (r : List UInt8) (hn : ¬ 4 ≤ r.length) : PCall Tryz.prog Gl 74 [.ptr 0 0] (Dr r) (thr 2) (Dr r) := by
 refine PCall.enter hT hmix [] Tryz.func74 rfl rfl rfl fun hbd => ?_
 (conv => whnf)
 refine CallLeaf.po [0] (by (repeat' (first | exact ArgsTo.nil | refine ArgsTo.cons ?_ ?_ | exact ArgTo.mk' rfl (Wk.refl _) | exact ArgTo.mk' rfl Wk.nilm | exact ArgTo.mk' rfl (Wk.int (by simp)) | exact ArgTo.mk' rfl (Wk.list _ _) | exact ArgTo.mk' rfl (Wk.agg (by (repeat' (first | exact Wks.nil | refine Wks.cons ?_ ?_ | exact Wk.refl _ | exact Wk.nilm | exact Wk.list _ _  | exact Wk.natN rfl | refine Wk.agg ?_))))))) (take_f r 4 hn) rfl rfl (by (repeat' (first | exact trivial | exact rfl | refine And.intro ?_ ?_))) (by (repeat' (first | exact trivial | exact rfl | refine And.intro ?_ ?_))) (by (repeat' (first | exact trivial | exact rfl | refine And.intro ?_ ?_))) rfl rfl ?_
 refine ⟨[0], rfl, by (try unfold pullOk); (repeat' (first | exact trivial | exact ObWk.refl _ | refine And.intro ?_ ?_ | unfold pullOk)), ?_⟩
 exact Wk.refl _
theorem hd_take (r : List UInt8) (k n : Nat) (h1 : k < n) (h2 : k < r.length) : (List.map byteD (r.take n))[k]? = some (byteD (r.getD k 0)) := by
 simp [List.getElem?_take_of_lt h1, List.getD, h2]
theorem symbol_ok (r r' : List UInt8) (s : Ob.Sym) (h : nextS r = some (s, r')) : FCall Tryz.prog Gl 75 [.ptr 0 0] (Dr r) (.agg s.enc) (Dr r') := by
 unfold nextS at h
 split at h
 ·simp at h
 ·rename_i hl
  simp only [Option.some.injEq, Prod.mk.injEq] at h
  obtain ⟨hs, hr⟩ := h
  have h10 : 10 ≤ r.length := by omega
  refine FCall.enterO hT hmix [] Tryz.func75 rfl rfl rfl fun hbd => ?_
  (conv => whnf)
  refine split_intro (fun h => absurd h (by (simp; omega))) (fun _ => ?_)
  (conv => whnf)
  have T1 := take_ r 1 (by omega)
  have N1 := number_ok (r.drop 1) (by simp; omega)
  have N2 := number_ok (r.drop 5) (by simp; omega)
  have T2 := take_ (r.drop 9) 1 (by simp; omega)
  have T3 := take_ (r.drop 10) (r.getD 9 0).toNat (by rw [List.length_drop]; omega)
  rw [List.drop_drop] at N1 N2 T2 T3
  have u0 := (r.getD 0 0).toNat_lt
  have u9 := (r.getD 9 0).toNat_lt
  have g0 := hd_take r 0 1 (by omega) (by omega)
  have g9 := hd_take (r.drop 9) 0 1 (by omega) (by simp; omega)
  have e9 : (r.drop 9).getD 0 0 = r.getD 9 0 := by simp [List.getD]
  rw [e9] at g9
  subst hs; subst hr
  refine CallLeaf.oa [0] (T1) rfl rfl rfl rfl ?_
  (conv => whnf)
  refine ⟨_, ⟨by decide, g0⟩, ?_⟩
  (conv => whnf)
  refine ⟨_, wrap64 (by omega), ?_⟩
  (conv => whnf)
  refine CallLeaf.oa [0] (N1) rfl rfl rfl rfl ?_
  (conv => whnf)
  refine CallLeaf.oa [0] (N2) rfl rfl rfl rfl ?_
  (conv => whnf)
  refine CallLeaf.oa [0] (T2) rfl rfl rfl rfl ?_
  (conv => whnf)
  refine ⟨_, ⟨by decide, g9⟩, ?_⟩
  (conv => whnf)
  refine ⟨_, wrap64 (by omega), ?_⟩
  (conv => whnf)
  refine CallLeaf.oa [0] (T3) rfl rfl rfl rfl ?_
  (conv => whnf)
  refine ⟨_, rfl, ?_⟩
  (conv => whnf)
  refine ⟨[0], rfl, by (try unfold pullOk); (repeat' (first | exact trivial | exact ObWk.refl _ | refine And.intro ?_ ?_ | unfold pullOk)), ?_⟩
  exact Wk.refl _
theorem symbol_f (r : List UInt8) (h : nextS r = none) : PCall Tryz.prog Gl 75 [.ptr 0 0] (Dr r) (thr 2) Dj := by
 unfold nextS at h
 split at h
 case isFalse => simp at h
 rename_i hl
 refine PCall.enter hT hmix [] Tryz.func75 rfl rfl rfl fun hbd => ?_
 (conv => whnf)
 refine split_intro (fun h10 => ?_) (fun h10 => ?_)
 ·(conv => whnf)
  refine ⟨[0], rfl, by (repeat' (first | exact trivial | exact ObWk.refl _ | exact ObWk.cells _ _ (Wks.cons (Wk.junk _) Wks.nil) | refine And.intro ?_ ?_ | unfold pullOk)), ?_⟩
  exact Wk.refl _
 ·have h10' : 10 ≤ r.length := by have := of_decide_eq_false h10; simp at this; omega
  have T1 := take_ r 1 (by omega)
  have N1 := number_ok (r.drop 1) (by simp; omega)
  have N2 := number_ok (r.drop 5) (by simp; omega)
  have T2 := take_ (r.drop 9) 1 (by simp; omega)
  have T3 := take_f (r.drop 10) (r.getD 9 0).toNat (by rw [List.length_drop]; omega)
  rw [List.drop_drop] at N1 N2 T2
  have u0 := (r.getD 0 0).toNat_lt
  have u9 := (r.getD 9 0).toNat_lt
  have g0 := hd_take r 0 1 (by omega) (by omega)
  have g9 := hd_take (r.drop 9) 0 1 (by omega) (by simp; omega)
  have e9 : (r.drop 9).getD 0 0 = r.getD 9 0 := by simp [List.getD]
  rw [e9] at g9
  (conv => whnf)
  refine CallLeaf.oa [0] (T1) rfl rfl rfl rfl ?_
  (conv => whnf)
  refine ⟨_, ⟨by decide, g0⟩, ?_⟩
  (conv => whnf)
  refine ⟨_, wrap64 (by omega), ?_⟩
  (conv => whnf)
  refine CallLeaf.oa [0] (N1) rfl rfl rfl rfl ?_
  (conv => whnf)
  refine CallLeaf.oa [0] (N2) rfl rfl rfl rfl ?_
  (conv => whnf)
  refine CallLeaf.oa [0] (T2) rfl rfl rfl rfl ?_
  (conv => whnf)
  refine ⟨_, ⟨by decide, g9⟩, ?_⟩
  (conv => whnf)
  refine ⟨_, wrap64 (by omega), ?_⟩
  (conv => whnf)
  refine CallLeaf.po [0] (by (repeat' (first | exact ArgsTo.nil | refine ArgsTo.cons ?_ ?_ | exact ArgTo.mk' rfl (Wk.refl _) | exact ArgTo.mk' rfl Wk.nilm | exact ArgTo.mk' rfl (Wk.int (by simp)) | exact ArgTo.mk' rfl (Wk.list _ _) | exact ArgTo.mk' rfl (Wk.agg (by (repeat' (first | exact Wks.nil | refine Wks.cons ?_ ?_ | exact Wk.refl _ | exact Wk.nilm | exact Wk.list _ _  | exact Wk.natN rfl | refine Wk.agg ?_))))))) (T3) rfl rfl (by (repeat' (first | exact trivial | exact rfl | refine And.intro ?_ ?_))) (by (repeat' (first | exact trivial | exact rfl | refine And.intro ?_ ?_))) (by (repeat' (first | exact trivial | exact rfl | refine And.intro ?_ ?_))) rfl rfl ?_
  refine ⟨[0], rfl, by (repeat' (first | exact trivial | exact ObWk.refl _ | exact ObWk.cells _ _ (Wks.cons (Wk.junk _) Wks.nil) | refine And.intro ?_ ?_ | unfold pullOk)), ?_⟩
  exact Wk.refl _
end Go.Proofs.YtfbmknghfhancaaGreatDoor.O

namespace Go.Proofs.YtfbmknghfhancaaGreatDoor.O
open Go Go.AL Go.AL.Ap Go.AL.Ob
set_option maxRecDepth 100000
theorem vbad {s : Ob.Sym} (h : ¬ (1 ≤ s.name.length ∧ s.name.length ≤ 255 ∧ (0 : UInt8) ∉ s.name ∧ 0 ≤ s.size ∧ s.size ≤ 4294967295)) : valid s = false := by
 cases hv : valid s with
 | false => rfl
 | true =>
  obtain ⟨h1, h2, h3, h4, h5, _⟩ := valid_iff.1 hv
  exact absurd ⟨h1, h2, h3, h4, h5⟩ h
theorem vgood {s : Ob.Sym} (h1 : 1 ≤ s.name.length) (h2 : s.name.length ≤ 255) (h3 : (0 : UInt8) ∉ s.name) (h4 : 0 ≤ s.size) (h5 : s.size ≤ 4294967295) : valid s = bindOk s := by
 simp [valid, h1, h2, h3, h4, h5]
theorem valid_ (s : Ob.Sym) : FCall Tryz.prog Gl 76 [.agg s.enc] [] (vB (valid s)) [] := by
 obtain ⟨nm, bd, sz, al⟩ := s
 have hsz := sB_sz nm
 refine FCall.enterL hT hmix [] Tryz.func76 rfl rfl rfl fun hbd => ?_
 (conv => whnf)
 refine split_intro (fun h1 => ?_) (fun h1 => ?_)
 ·have h1' : ((sB nm).size : Int) < 1 := of_decide_eq_true h1
  (conv => whnf)
  exact Wk.bool (vbad (by simp only; omega)).symm
 ·have h1' : ¬ (((sB nm).size : Int) < 1) := of_decide_eq_false h1
  (conv => whnf)
  refine split_intro (fun h2 => ?_) (fun h2 => ?_)
  ·have h2' : (255 : Int) < (sB nm).size := of_decide_eq_true h2
   (conv => whnf)
   exact Wk.bool (vbad (by simp only; omega)).symm
  ·have h2' : ¬ ((255 : Int) < (sB nm).size) := of_decide_eq_false h2
   (conv => whnf)
   refine CallLeaf.wa (contains0_ nm) rfl ?_
   (conv => whnf)
   refine split_intro (fun h3 => ?_) (fun h3 => ?_)
   ·have h3' : (0 : UInt8) ∈ nm := of_decide_eq_true h3
    (conv => whnf)
    exact Wk.bool (vbad (fun h => h.2.2.1 h3')).symm
   ·have h3' : ¬ ((0 : UInt8) ∈ nm) := of_decide_eq_false h3
    (conv => whnf)
    refine split_intro (fun h4 => ?_) (fun h4 => ?_)
    ·have h4' : sz < 0 := of_decide_eq_true h4
     (conv => whnf)
     exact Wk.bool (vbad (by simp only; omega)).symm
    ·have h4' : ¬ (sz < 0) := of_decide_eq_false h4
     (conv => whnf)
     refine split_intro (fun h5 => ?_) (fun h5 => ?_)
     ·have h5' : (4294967295 : Int) < sz := of_decide_eq_true h5
      (conv => whnf)
      exact Wk.bool (vbad (by simp only; omega)).symm
     ·have h5' : ¬ ((4294967295 : Int) < sz) := of_decide_eq_false h5
      rw [vgood (s := ⟨nm, bd, sz, al⟩) (by simp only; omega) (by simp only; omega) h3' (by simp only; omega) (by simp only; omega)]
      (conv => whnf)
      refine split_intro (fun b1 => ?_) (fun b1 => ?_)
      ·have b1' : bd = 1 := eq_of_beq b1
       subst b1'
       (conv => whnf)
       exact Wk.bool (by simp [bindOk]; rw [Bool.eq_iff_iff]; simp)
      ·have b1' : ¬ bd = 1 := by simpa using b1
       (conv => whnf)
       refine split_intro (fun b2 => ?_) (fun b2 => ?_)
       ·have b2' : bd = 2 := eq_of_beq b2
        subst b2'
        (conv => whnf)
        exact Wk.bool (by simp [bindOk]; rw [Bool.eq_iff_iff]; simp)
       ·have b2' : ¬ bd = 2 := by simpa using b2
        (conv => whnf)
        refine split_intro (fun b3 => ?_) (fun b3 => ?_)
        ·have b3' : bd = 3 := eq_of_beq b3
         subst b3'
         (conv => whnf)
         refine split_intro (fun a1 => ?_) (fun a1 => ?_)
         ·have a1' : (1 : Int) ≤ al := of_decide_eq_true a1
          (conv => whnf)
          refine split_intro (fun a2 => ?_) (fun a2 => ?_)
          ·have a2' : al ≤ 65536 := of_decide_eq_true a2
           obtain ⟨n, rfl⟩ := Int.eq_ofNat_of_zero_le (show 0 ≤ al by omega)
           (conv => whnf)
           refine ⟨((n - 1 : Nat) : Int), sub64 (by show (n : Int) - 1 = _; omega) (by omega), ?_⟩
           (conv => whnf)
           refine ⟨_, and64n (by omega) (by omega), ?_⟩
           (conv => whnf)
           exact Wk.bool (by simp only [bindOk, if_true]; rw [pow_and (by omega) (by omega), Bool.eq_iff_iff]; simp; try omega)
          ·have a2' : ¬ (al ≤ 65536) := of_decide_eq_false a2
           (conv => whnf)
           exact Wk.bool (by
            symm; simp only [bindOk, if_true]
            rw [Bool.eq_false_iff]; intro hp; have := pow_le hp; omega)
         ·have a1' : ¬ ((1 : Int) ≤ al) := of_decide_eq_false a1
          (conv => whnf)
          exact Wk.bool (by
           symm; simp only [bindOk, if_true]
           rw [Bool.eq_false_iff]; intro hp; have := of_decide_eq_true hp
           simp only [pows, List.mem_cons, List.not_mem_nil, or_false] at this; omega)
        ·have b3' : ¬ bd = 3 := by simpa using b3
         (conv => whnf)
         refine split_intro (fun b4 => ?_) (fun b4 => ?_)
         ·have b4' : bd = 4 := eq_of_beq b4
          subst b4'
          (conv => whnf)
          ((refine split_intro (fun a1 => ?_) (fun a1 => ?_)); (((conv => whnf)); exact Wk.bool (by have a1' : al = 0 := eq_of_beq a1; simp [bindOk, a1']; (try rw [Bool.eq_iff_iff]); (try simp))); (((conv => whnf)); exact Wk.bool (by have a1' : ¬ al = 0 := (by simpa using a1); simp [bindOk, a1'])))
         ·have b4' : ¬ bd = 4 := by simpa using b4
          (conv => whnf)
          refine split_intro (fun b5 => ?_) (fun b5 => ?_)
          ·have b5' : bd = 5 := eq_of_beq b5
           subst b5'
           (conv => whnf)
           ((refine split_intro (fun a1 => ?_) (fun a1 => ?_)); (((conv => whnf)); exact Wk.bool (by have a1' : al = 0 := eq_of_beq a1; simp [bindOk, a1']; (try rw [Bool.eq_iff_iff]); (try simp))); (((conv => whnf)); exact Wk.bool (by have a1' : ¬ al = 0 := (by simpa using a1); simp [bindOk, a1'])))
          ·have b5' : ¬ bd = 5 := by simpa using b5
           (conv => whnf)
           exact Wk.bool (by simp [bindOk, b1', b2', b3', b4', b5'])
end Go.Proofs.YtfbmknghfhancaaGreatDoor.O

namespace Go.Proofs.YtfbmknghfhancaaGreatDoor.O
open Go Go.AL Go.AL.Ap Go.AL.Ob
set_option maxRecDepth 100000
set_option maxHeartbeats 4000000
theorem must_t' (b : Bool) (n : Int) (h : b = true) : FCall Tryz.prog Gl 72 [vB b, vI n] [] (.tuple []) [] := by subst h; exact must_t n
theorem must_f' (b : Bool) (n : Int) (h : b = false) : PCall Tryz.prog Gl 72 [vB b, vI n] [] (thr n) [] := by subst h; exact must_f n
theorem clone_ (r : List UInt8) (hr : r.length ≤ 1000000000) : FCall Tryz.prog Gl 77 [LB r] [] (LBn r) [] := by
 refine FCall.enterL hT hmix [] Tryz.func77 rfl rfl rfl fun hbd => ?_
 (conv => whnf)
 refine And.intro (fun he => ?_) (fun he => ?_)
 ·have hr0 : r = [] := by simpa using he
  subst hr0
  (conv => whnf)
  refine And.intro ?_ ?_
  ·(conv => whnf)
   exact Wk.natN rfl
  ·(conv => whnf)
   refine ⟨_, appL (f := byteD) (xs := []) (ys := []) (zs := []) rfl rfl (fun _ => rfl) rfl (by decide), ?_⟩
   (conv => whnf)
   exact Wk.nat' rfl
 ·(conv => whnf)
  refine ⟨_, appL (f := byteD) (xs := []) (ys := r) (zs := r) rfl rfl (fun _ => rfl) rfl (by show _ * 1 ≤ _; omega), ?_⟩
  (conv => whnf)
  exact Wk.nat' rfl
theorem has_mem (l : List Ob.Sym) (n : Str) : Ob.has l n = decide (n ∈ l.map Ob.Sym.name) := by
 rw [Bool.eq_iff_iff, Ob.has_iff]; simp
theorem object_ok (r : List UInt8) (l : List Ob.Sym) (x : List UInt8) (h : decO r = .ok (l, x)) (hr : r.length ≤ 1000000000) :
  FCall Tryz.prog Gl 60 [.ptr 0 0] (Dr r) (oDn ⟨l, x⟩) Dj := by
 unfold decO at h
 split at h
 ·simp at h
 rename_i h4
 split at h
 ·simp at h
 rename_i hm
 split at h
 ·simp at h
 rename_i h8
 split at h
 ·simp at h
 rename_i hn
 simp only [ne_eq, Decidable.not_not] at hm
 have T1 := take_ r 4 (by omega)
 have N1 := number_ok (r.drop 4) (by simp; omega)
 rw [List.drop_drop] at N1
 have hn32 := num_lt (r.drop 4)
 generalize hnn : num (r.drop 4) = n at *
 refine FCall.enterO hT hmix [] Tryz.func60 rfl rfl rfl fun hbd => ?_
 (conv => whnf)
 refine CallLeaf.o [0] (by (repeat' (first | exact ArgsTo.nil | refine ArgsTo.cons ?_ ?_ | exact ArgTo.mk' rfl (Wk.refl _) | exact ArgTo.mk' rfl Wk.nilm | exact ArgTo.mk' rfl (Wk.int (by simp)) | exact ArgTo.mk' rfl (Wk.list _ _) | exact ArgTo.mk' rfl (Wk.agg (by (repeat' (first | exact Wks.nil | refine Wks.cons ?_ ?_ | exact Wk.refl _ | exact Wk.nilm | exact Wk.list _ _  | exact Wk.natN rfl | refine Wk.agg ?_))))))) (T1) rfl rfl (by (repeat' (first | exact trivial | exact rfl | refine And.intro ?_ ?_))) (by (repeat' (first | exact trivial | exact rfl | refine And.intro ?_ ?_))) (by (repeat' (first | exact trivial | exact rfl | refine And.intro ?_ ?_))) rfl rfl ?_
 (conv => whnf)
 (refine ⟨(r.take 4), rfl, ?_⟩)
 (conv => whnf)
 refine CallLeaf.w (by (repeat' (first | exact ArgsTo.nil | refine ArgsTo.cons ?_ ?_ | exact ArgTo.mk' rfl (Wk.refl _) | exact ArgTo.mk' rfl Wk.nilm | exact ArgTo.mk' rfl (Wk.int (by simp)) | exact ArgTo.mk' rfl (Wk.list _ _) | exact ArgTo.mk' rfl (Wk.agg (by (repeat' (first | exact Wks.nil | refine Wks.cons ?_ ?_ | exact Wk.refl _ | exact Wk.nilm | exact Wk.list _ _  | exact Wk.natN rfl | refine Wk.agg ?_))))))) (must_t' _ 1 (decide_eq_true hm)) rfl ?_
 (conv => whnf)
 refine CallLeaf.o [0] (by (repeat' (first | exact ArgsTo.nil | refine ArgsTo.cons ?_ ?_ | exact ArgTo.mk' rfl (Wk.refl _) | exact ArgTo.mk' rfl Wk.nilm | exact ArgTo.mk' rfl (Wk.int (by simp)) | exact ArgTo.mk' rfl (Wk.list _ _) | exact ArgTo.mk' rfl (Wk.agg (by (repeat' (first | exact Wks.nil | refine Wks.cons ?_ ?_ | exact Wk.refl _ | exact Wk.nilm | exact Wk.list _ _  | exact Wk.natN rfl | refine Wk.agg ?_))))))) (N1) rfl rfl (by (repeat' (first | exact trivial | exact rfl | refine And.intro ?_ ?_))) (by (repeat' (first | exact trivial | exact rfl | refine And.intro ?_ ?_))) (by (repeat' (first | exact trivial | exact rfl | refine And.intro ?_ ?_))) rfl rfl ?_
 (conv => whnf)
 refine CallLeaf.w (by (repeat' (first | exact ArgsTo.nil | refine ArgsTo.cons ?_ ?_ | exact ArgTo.mk' rfl (Wk.refl _) | exact ArgTo.mk' rfl Wk.nilm | exact ArgTo.mk' rfl (Wk.int (by simp)) | exact ArgTo.mk' rfl (Wk.list _ _) | exact ArgTo.mk' rfl (Wk.agg (by (repeat' (first | exact Wks.nil | refine Wks.cons ?_ ?_ | exact Wk.refl _ | exact Wk.nilm | exact Wk.list _ _  | exact Wk.natN rfl | refine Wk.agg ?_))))))) (must_t' _ 12 (by simp; omega)) rfl ?_
 (conv => whnf)
 refine LWp.loop hT hmix [] (fun x : Nat × List UInt8 × List Ob.Sym × Ents => [(19, vI x.1)]) (fun x => [(0, .cells [LB x.2.1]), (2049, .cells [.list (.tok 403) (SE x.2.2.1), .nil]), (403, .tok (SE x.2.2.1).length 4), (2561, .map x.2.2.2)]) (fun y => y.1 ≤ n ∧ y.2.1.length ≤ r.length ∧ y.2.2.1.length = y.1 ∧ Wt.Sn y.2.2.2 (y.2.2.1.map Ob.Sym.name) ∧ Ob.decL (n - y.1) y.2.1 y.2.2.1 = .ok (l, x)) (fun x => n - x.1) (0, r.drop 8, [], []) ⟨Nat.zero_le _, by simp, rfl, Wt.Sn.nil, h⟩ ?_
 (conv => whnf)
 refine ⟨?_, fun ⟨k, q, acc, es⟩ ⟨hk, hql, hal, hS, hd⟩ => ?_⟩
 ·(repeat' (first | exact trivial | exact Wk.refl _ | exact ObWk.refl _ | exact rfl | exact ⟨_, rfl⟩ | exact Nat.zero_lt_one | refine And.intro ?_ ?_ | unfold okTo | (unfold okO; conv => whnf) | (unfold okS; conv => whnf) | (unfold SlotOk; conv => whnf) | (unfold ObjOk; conv => whnf) | (unfold okCells; conv => whnf) | (unfold liveTo; conv => whnf) | exact Nat.zero_lt_succ _))
 ·replace hk : k ≤ n := hk
  replace hql : q.length ≤ r.length := hql
  replace hal : acc.length = k := hal
  replace hS : Wt.Sn es (acc.map Ob.Sym.name) := hS
  replace hd : Ob.decL (n - k) q acc = .ok (l, x) := hd
  (conv => whnf)
  refine split_intro (fun h2 => ?_) (fun h2 => ?_)
  ·have hlt : k < n := by have := of_decide_eq_true h2; omega
   obtain ⟨m, hmm⟩ : ∃ m, n - k = m + 1 := ⟨n - k - 1, by omega⟩
   rw [hmm, Ob.decL] at hd
   split at hd
   ·simp at hd
   rename_i s q' hnx
   split at hd
   case isFalse => simp at hd
   rename_i hvs
   simp only [Bool.and_eq_true, Bool.not_eq_true'] at hvs
   rw [has_mem] at hvs
   have hq' := congrArg List.length (nextS_some hnx hvs.1)
   simp at hq'
   (conv => whnf)
   refine CallLeaf.o [0] (by (repeat' (first | exact ArgsTo.nil | refine ArgsTo.cons ?_ ?_ | exact ArgTo.mk' rfl (Wk.refl _) | exact ArgTo.mk' rfl Wk.nilm | exact ArgTo.mk' rfl (Wk.int (by simp)) | exact ArgTo.mk' rfl (Wk.list _ _) | exact ArgTo.mk' rfl (Wk.agg (by (repeat' (first | exact Wks.nil | refine Wks.cons ?_ ?_ | exact Wk.refl _ | exact Wk.nilm | exact Wk.list _ _  | exact Wk.natN rfl | refine Wk.agg ?_))))))) (symbol_ok q q' s hnx) rfl rfl (by (repeat' (first | exact trivial | exact rfl | refine And.intro ?_ ?_))) (by (repeat' (first | exact trivial | exact rfl | refine And.intro ?_ ?_))) (by (repeat' (first | exact trivial | exact rfl | refine And.intro ?_ ?_))) rfl rfl ?_
   (conv => whnf)
   refine CallLeaf.w (by (repeat' (first | exact ArgsTo.nil | refine ArgsTo.cons ?_ ?_ | exact ArgTo.mk' rfl (Wk.refl _) | exact ArgTo.mk' rfl Wk.nilm | exact ArgTo.mk' rfl (Wk.int (by simp)) | exact ArgTo.mk' rfl (Wk.list _ _) | exact ArgTo.mk' rfl (Wk.agg (by (repeat' (first | exact Wks.nil | refine Wks.cons ?_ ?_ | exact Wk.refl _ | exact Wk.nilm | exact Wk.list _ _  | exact Wk.natN rfl | refine Wk.agg ?_))))))) (valid_ s) rfl ?_
   (conv => whnf)
   refine split_intro (fun _ => ?_) (fun h => absurd h (by (simp [hvs.1])))
   (conv => whnf)
   refine ⟨_, ⟨hS.keys, hS.look' s.name⟩, ?_⟩
   (conv => whnf)
   refine CallLeaf.w (by (repeat' (first | exact ArgsTo.nil | refine ArgsTo.cons ?_ ?_ | exact ArgTo.mk' rfl (Wk.refl _) | exact ArgTo.mk' rfl Wk.nilm | exact ArgTo.mk' rfl (Wk.int (by simp)) | exact ArgTo.mk' rfl (Wk.list _ _) | exact ArgTo.mk' rfl (Wk.agg (by (repeat' (first | exact Wks.nil | refine Wks.cons ?_ ?_ | exact Wk.refl _ | exact Wk.nilm | exact Wk.list _ _  | exact Wk.natN rfl | refine Wk.agg ?_))))))) (must_t' _ 12 (by rw [hvs.2]; rfl)) rfl ?_
   (conv => whnf)
   refine ⟨_, ⟨hS.keys, rfl⟩, ?_⟩
   (conv => whnf)
   refine ⟨_, appL (f := Ob.Sym.enc) (xs := acc) (ys := [s]) (zs := acc ++ [s]) rfl rfl (fun _ => rfl) rfl (by rw [List.length_append]; show (_ + 1) * 40 ≤ _; omega), ?_⟩
   (conv => whnf)
   refine ⟨_, add64 (c := ((k + 1 : Nat) : Int)) (by omega) (by omega), ?_⟩
   (conv => whnf)
   refine ⟨(k + 1, q', acc ++ [s], mset es (.string (sB s.name)) (vB true)), ⟨⟨by show k + 1 ≤ n; omega, by show q'.length ≤ _; omega, by simp [hal], by have := hS.set s.name; simpa using this, ?_⟩, by show n - (k + 1) < n - k; omega⟩, ?_⟩
   ·show Ob.decL (n - (k + 1)) q' (acc ++ [s]) = _
    rw [show n - (k + 1) = m by omega]; exact hd
   ·(repeat' (first | exact trivial | exact Wk.refl _ | exact ObWk.refl _ | exact rfl | exact ⟨_, rfl⟩ | exact Nat.zero_lt_one | refine And.intro ?_ ?_ | unfold okTo | (unfold okO; conv => whnf) | (unfold okS; conv => whnf) | (unfold SlotOk; conv => whnf) | (unfold ObjOk; conv => whnf) | (unfold okCells; conv => whnf) | (unfold liveTo; conv => whnf) | exact Nat.zero_lt_succ _))
  ·have hge : n - k = 0 := by have := of_decide_eq_false h2; omega
   rw [hge, Ob.decL] at hd
   simp only [Except.ok.injEq, Prod.mk.injEq] at hd
   obtain ⟨e1, e2⟩ := hd
   subst e1; subst e2
   (conv => whnf)
   refine CallLeaf.w (by (repeat' (first | exact ArgsTo.nil | refine ArgsTo.cons ?_ ?_ | exact ArgTo.mk' rfl (Wk.refl _) | exact ArgTo.mk' rfl Wk.nilm | exact ArgTo.mk' rfl (Wk.int (by simp)) | exact ArgTo.mk' rfl (Wk.list _ _) | exact ArgTo.mk' rfl (Wk.agg (by (repeat' (first | exact Wks.nil | refine Wks.cons ?_ ?_ | exact Wk.refl _ | exact Wk.nilm | exact Wk.list _ _  | exact Wk.natN rfl | refine Wk.agg ?_))))))) (clone_ q (by omega)) rfl ?_
   (conv => whnf)
   refine ⟨[0], rfl, by (repeat' (first | exact trivial | exact ObWk.refl _ | exact ObWk.cells _ _ (Wks.cons (Wk.junk _) Wks.nil) | refine And.intro ?_ ?_ | unfold pullOk)), ?_⟩
   exact Wk.agg (Wks.cons (Wk.nat' rfl) (Wks.cons (Wk.nat' rfl) Wks.nil))
end Go.Proofs.YtfbmknghfhancaaGreatDoor.O

namespace Go.Proofs.YtfbmknghfhancaaGreatDoor.O
open Go Go.AL Go.AL.Ap Go.AL.Ob
set_option maxRecDepth 100000
set_option maxHeartbeats 4000000
theorem object_f (r : List UInt8) (e : Int) (h : decO r = .error e) (hr : r.length ≤ 1000000000) :
  PCall Tryz.prog Gl 60 [.ptr 0 0] (Dr r) (thr e) Dj := by
 unfold decO at h
 split at h
 ·rename_i h4
  injection h with h
  subst h
  refine PCall.enter hT hmix [] Tryz.func60 rfl rfl rfl fun hbd => ?_
  (conv => whnf)
  refine CallLeaf.po [0] (by (repeat' (first | exact ArgsTo.nil | refine ArgsTo.cons ?_ ?_ | exact ArgTo.mk' rfl (Wk.refl _) | exact ArgTo.mk' rfl Wk.nilm | exact ArgTo.mk' rfl (Wk.int (by simp)) | exact ArgTo.mk' rfl (Wk.list _ _) | exact ArgTo.mk' rfl (Wk.agg (by (repeat' (first | exact Wks.nil | refine Wks.cons ?_ ?_ | exact Wk.refl _ | exact Wk.nilm | exact Wk.list _ _  | exact Wk.natN rfl | refine Wk.agg ?_))))))) (take_f r 4 (by omega)) rfl rfl (by (repeat' (first | exact trivial | exact rfl | refine And.intro ?_ ?_))) (by (repeat' (first | exact trivial | exact rfl | refine And.intro ?_ ?_))) (by (repeat' (first | exact trivial | exact rfl | refine And.intro ?_ ?_))) rfl rfl ?_
  refine ⟨[0], rfl, by (repeat' (first | exact trivial | exact ObWk.refl _ | exact ObWk.cells _ _ (Wks.cons (Wk.junk _) Wks.nil) | refine And.intro ?_ ?_ | unfold pullOk)), ?_⟩
  exact Wk.refl _
 rename_i h4
 have T1 := take_ r 4 (by omega)
 split at h
 ·rename_i hm
  injection h with h
  subst h
  refine PCall.enter hT hmix [] Tryz.func60 rfl rfl rfl fun hbd => ?_
  (conv => whnf)
  refine CallLeaf.o [0] (by (repeat' (first | exact ArgsTo.nil | refine ArgsTo.cons ?_ ?_ | exact ArgTo.mk' rfl (Wk.refl _) | exact ArgTo.mk' rfl Wk.nilm | exact ArgTo.mk' rfl (Wk.int (by simp)) | exact ArgTo.mk' rfl (Wk.list _ _) | exact ArgTo.mk' rfl (Wk.agg (by (repeat' (first | exact Wks.nil | refine Wks.cons ?_ ?_ | exact Wk.refl _ | exact Wk.nilm | exact Wk.list _ _  | exact Wk.natN rfl | refine Wk.agg ?_))))))) (T1) rfl rfl (by (repeat' (first | exact trivial | exact rfl | refine And.intro ?_ ?_))) (by (repeat' (first | exact trivial | exact rfl | refine And.intro ?_ ?_))) (by (repeat' (first | exact trivial | exact rfl | refine And.intro ?_ ?_))) rfl rfl ?_
  (conv => whnf)
  refine ⟨(r.take 4), rfl, ?_⟩
  (conv => whnf)
  refine CallLeaf.po [] (by (repeat' (first | exact ArgsTo.nil | refine ArgsTo.cons ?_ ?_ | exact ArgTo.mk' rfl (Wk.refl _) | exact ArgTo.mk' rfl Wk.nilm | exact ArgTo.mk' rfl (Wk.int (by simp)) | exact ArgTo.mk' rfl (Wk.list _ _) | exact ArgTo.mk' rfl (Wk.agg (by (repeat' (first | exact Wks.nil | refine Wks.cons ?_ ?_ | exact Wk.refl _ | exact Wk.nilm | exact Wk.list _ _  | exact Wk.natN rfl | refine Wk.agg ?_))))))) (must_f' _ 1 (decide_eq_false hm)) rfl rfl (by (repeat' (first | exact trivial | exact rfl | refine And.intro ?_ ?_))) (by (repeat' (first | exact trivial | exact rfl | refine And.intro ?_ ?_))) (by (repeat' (first | exact trivial | exact rfl | refine And.intro ?_ ?_))) rfl rfl ?_
  refine ⟨[0], rfl, by (repeat' (first | exact trivial | exact ObWk.refl _ | exact ObWk.cells _ _ (Wks.cons (Wk.junk _) Wks.nil) | refine And.intro ?_ ?_ | unfold pullOk)), ?_⟩
  exact Wk.refl _
 rename_i hm
 simp only [ne_eq, Decidable.not_not] at hm
 split at h
 ·rename_i h8
  injection h with h
  subst h
  have N1 := number_f (r.drop 4) (by simp; omega)
  refine PCall.enter hT hmix [] Tryz.func60 rfl rfl rfl fun hbd => ?_
  (conv => whnf)
  refine CallLeaf.o [0] (by (repeat' (first | exact ArgsTo.nil | refine ArgsTo.cons ?_ ?_ | exact ArgTo.mk' rfl (Wk.refl _) | exact ArgTo.mk' rfl Wk.nilm | exact ArgTo.mk' rfl (Wk.int (by simp)) | exact ArgTo.mk' rfl (Wk.list _ _) | exact ArgTo.mk' rfl (Wk.agg (by (repeat' (first | exact Wks.nil | refine Wks.cons ?_ ?_ | exact Wk.refl _ | exact Wk.nilm | exact Wk.list _ _  | exact Wk.natN rfl | refine Wk.agg ?_))))))) (T1) rfl rfl (by (repeat' (first | exact trivial | exact rfl | refine And.intro ?_ ?_))) (by (repeat' (first | exact trivial | exact rfl | refine And.intro ?_ ?_))) (by (repeat' (first | exact trivial | exact rfl | refine And.intro ?_ ?_))) rfl rfl ?_
  (conv => whnf)
  refine ⟨(r.take 4), rfl, ?_⟩
  (conv => whnf)
  refine CallLeaf.w (by (repeat' (first | exact ArgsTo.nil | refine ArgsTo.cons ?_ ?_ | exact ArgTo.mk' rfl (Wk.refl _) | exact ArgTo.mk' rfl Wk.nilm | exact ArgTo.mk' rfl (Wk.int (by simp)) | exact ArgTo.mk' rfl (Wk.list _ _) | exact ArgTo.mk' rfl (Wk.agg (by (repeat' (first | exact Wks.nil | refine Wks.cons ?_ ?_ | exact Wk.refl _ | exact Wk.nilm | exact Wk.list _ _  | exact Wk.natN rfl | refine Wk.agg ?_))))))) (must_t' _ 1 (decide_eq_true hm)) rfl ?_
  (conv => whnf)
  refine CallLeaf.po [0] (by (repeat' (first | exact ArgsTo.nil | refine ArgsTo.cons ?_ ?_ | exact ArgTo.mk' rfl (Wk.refl _) | exact ArgTo.mk' rfl Wk.nilm | exact ArgTo.mk' rfl (Wk.int (by simp)) | exact ArgTo.mk' rfl (Wk.list _ _) | exact ArgTo.mk' rfl (Wk.agg (by (repeat' (first | exact Wks.nil | refine Wks.cons ?_ ?_ | exact Wk.refl _ | exact Wk.nilm | exact Wk.list _ _  | exact Wk.natN rfl | refine Wk.agg ?_))))))) (N1) rfl rfl (by (repeat' (first | exact trivial | exact rfl | refine And.intro ?_ ?_))) (by (repeat' (first | exact trivial | exact rfl | refine And.intro ?_ ?_))) (by (repeat' (first | exact trivial | exact rfl | refine And.intro ?_ ?_))) rfl rfl ?_
  refine ⟨[0], rfl, by (repeat' (first | exact trivial | exact ObWk.refl _ | exact ObWk.cells _ _ (Wks.cons (Wk.junk _) Wks.nil) | refine And.intro ?_ ?_ | unfold pullOk)), ?_⟩
  exact Wk.refl _
 rename_i h8
 have N1 := number_ok (r.drop 4) (by simp; omega)
 rw [List.drop_drop] at N1
 have hn32 := num_lt (r.drop 4)
 split at h
 ·rename_i hn
  injection h with h
  subst h
  generalize hnn : num (r.drop 4) = n at *
  refine PCall.enter hT hmix [] Tryz.func60 rfl rfl rfl fun hbd => ?_
  (conv => whnf)
  refine CallLeaf.o [0] (by (repeat' (first | exact ArgsTo.nil | refine ArgsTo.cons ?_ ?_ | exact ArgTo.mk' rfl (Wk.refl _) | exact ArgTo.mk' rfl Wk.nilm | exact ArgTo.mk' rfl (Wk.int (by simp)) | exact ArgTo.mk' rfl (Wk.list _ _) | exact ArgTo.mk' rfl (Wk.agg (by (repeat' (first | exact Wks.nil | refine Wks.cons ?_ ?_ | exact Wk.refl _ | exact Wk.nilm | exact Wk.list _ _  | exact Wk.natN rfl | refine Wk.agg ?_))))))) (T1) rfl rfl (by (repeat' (first | exact trivial | exact rfl | refine And.intro ?_ ?_))) (by (repeat' (first | exact trivial | exact rfl | refine And.intro ?_ ?_))) (by (repeat' (first | exact trivial | exact rfl | refine And.intro ?_ ?_))) rfl rfl ?_
  (conv => whnf)
  refine ⟨(r.take 4), rfl, ?_⟩
  (conv => whnf)
  refine CallLeaf.w (by (repeat' (first | exact ArgsTo.nil | refine ArgsTo.cons ?_ ?_ | exact ArgTo.mk' rfl (Wk.refl _) | exact ArgTo.mk' rfl Wk.nilm | exact ArgTo.mk' rfl (Wk.int (by simp)) | exact ArgTo.mk' rfl (Wk.list _ _) | exact ArgTo.mk' rfl (Wk.agg (by (repeat' (first | exact Wks.nil | refine Wks.cons ?_ ?_ | exact Wk.refl _ | exact Wk.nilm | exact Wk.list _ _  | exact Wk.natN rfl | refine Wk.agg ?_))))))) (must_t' _ 1 (decide_eq_true hm)) rfl ?_
  (conv => whnf)
  refine CallLeaf.o [0] (by (repeat' (first | exact ArgsTo.nil | refine ArgsTo.cons ?_ ?_ | exact ArgTo.mk' rfl (Wk.refl _) | exact ArgTo.mk' rfl Wk.nilm | exact ArgTo.mk' rfl (Wk.int (by simp)) | exact ArgTo.mk' rfl (Wk.list _ _) | exact ArgTo.mk' rfl (Wk.agg (by (repeat' (first | exact Wks.nil | refine Wks.cons ?_ ?_ | exact Wk.refl _ | exact Wk.nilm | exact Wk.list _ _  | exact Wk.natN rfl | refine Wk.agg ?_))))))) (N1) rfl rfl (by (repeat' (first | exact trivial | exact rfl | refine And.intro ?_ ?_))) (by (repeat' (first | exact trivial | exact rfl | refine And.intro ?_ ?_))) (by (repeat' (first | exact trivial | exact rfl | refine And.intro ?_ ?_))) rfl rfl ?_
  (conv => whnf)
  refine CallLeaf.po [] (by (repeat' (first | exact ArgsTo.nil | refine ArgsTo.cons ?_ ?_ | exact ArgTo.mk' rfl (Wk.refl _) | exact ArgTo.mk' rfl Wk.nilm | exact ArgTo.mk' rfl (Wk.int (by simp)) | exact ArgTo.mk' rfl (Wk.list _ _) | exact ArgTo.mk' rfl (Wk.agg (by (repeat' (first | exact Wks.nil | refine Wks.cons ?_ ?_ | exact Wk.refl _ | exact Wk.nilm | exact Wk.list _ _  | exact Wk.natN rfl | refine Wk.agg ?_))))))) (must_f' _ 12 (by simp; omega)) rfl rfl (by (repeat' (first | exact trivial | exact rfl | refine And.intro ?_ ?_))) (by (repeat' (first | exact trivial | exact rfl | refine And.intro ?_ ?_))) (by (repeat' (first | exact trivial | exact rfl | refine And.intro ?_ ?_))) rfl rfl ?_
  refine ⟨[0], rfl, by (repeat' (first | exact trivial | exact ObWk.refl _ | exact ObWk.cells _ _ (Wks.cons (Wk.junk _) Wks.nil) | refine And.intro ?_ ?_ | unfold pullOk)), ?_⟩
  exact Wk.refl _
 rename_i hn
 generalize hnn : num (r.drop 4) = n at *
 refine PCall.enter hT hmix [] Tryz.func60 rfl rfl rfl fun hbd => ?_
 (conv => whnf)
 refine CallLeaf.o [0] (by (repeat' (first | exact ArgsTo.nil | refine ArgsTo.cons ?_ ?_ | exact ArgTo.mk' rfl (Wk.refl _) | exact ArgTo.mk' rfl Wk.nilm | exact ArgTo.mk' rfl (Wk.int (by simp)) | exact ArgTo.mk' rfl (Wk.list _ _) | exact ArgTo.mk' rfl (Wk.agg (by (repeat' (first | exact Wks.nil | refine Wks.cons ?_ ?_ | exact Wk.refl _ | exact Wk.nilm | exact Wk.list _ _  | exact Wk.natN rfl | refine Wk.agg ?_))))))) (T1) rfl rfl (by (repeat' (first | exact trivial | exact rfl | refine And.intro ?_ ?_))) (by (repeat' (first | exact trivial | exact rfl | refine And.intro ?_ ?_))) (by (repeat' (first | exact trivial | exact rfl | refine And.intro ?_ ?_))) rfl rfl ?_
 (conv => whnf)
 refine ⟨(r.take 4), rfl, ?_⟩
 (conv => whnf)
 refine CallLeaf.w (by (repeat' (first | exact ArgsTo.nil | refine ArgsTo.cons ?_ ?_ | exact ArgTo.mk' rfl (Wk.refl _) | exact ArgTo.mk' rfl Wk.nilm | exact ArgTo.mk' rfl (Wk.int (by simp)) | exact ArgTo.mk' rfl (Wk.list _ _) | exact ArgTo.mk' rfl (Wk.agg (by (repeat' (first | exact Wks.nil | refine Wks.cons ?_ ?_ | exact Wk.refl _ | exact Wk.nilm | exact Wk.list _ _  | exact Wk.natN rfl | refine Wk.agg ?_))))))) (must_t' _ 1 (decide_eq_true hm)) rfl ?_
 (conv => whnf)
 refine CallLeaf.o [0] (by (repeat' (first | exact ArgsTo.nil | refine ArgsTo.cons ?_ ?_ | exact ArgTo.mk' rfl (Wk.refl _) | exact ArgTo.mk' rfl Wk.nilm | exact ArgTo.mk' rfl (Wk.int (by simp)) | exact ArgTo.mk' rfl (Wk.list _ _) | exact ArgTo.mk' rfl (Wk.agg (by (repeat' (first | exact Wks.nil | refine Wks.cons ?_ ?_ | exact Wk.refl _ | exact Wk.nilm | exact Wk.list _ _  | exact Wk.natN rfl | refine Wk.agg ?_))))))) (N1) rfl rfl (by (repeat' (first | exact trivial | exact rfl | refine And.intro ?_ ?_))) (by (repeat' (first | exact trivial | exact rfl | refine And.intro ?_ ?_))) (by (repeat' (first | exact trivial | exact rfl | refine And.intro ?_ ?_))) rfl rfl ?_
 (conv => whnf)
 refine CallLeaf.w (by (repeat' (first | exact ArgsTo.nil | refine ArgsTo.cons ?_ ?_ | exact ArgTo.mk' rfl (Wk.refl _) | exact ArgTo.mk' rfl Wk.nilm | exact ArgTo.mk' rfl (Wk.int (by simp)) | exact ArgTo.mk' rfl (Wk.list _ _) | exact ArgTo.mk' rfl (Wk.agg (by (repeat' (first | exact Wks.nil | refine Wks.cons ?_ ?_ | exact Wk.refl _ | exact Wk.nilm | exact Wk.list _ _  | exact Wk.natN rfl | refine Wk.agg ?_))))))) (must_t' _ 12 (by simp; omega)) rfl ?_
 (conv => whnf)
 refine LWp.loop hT hmix [] (fun x : Nat × List UInt8 × List Ob.Sym × Ents => [(19, vI x.1)]) (fun x => [(0, .cells [LB x.2.1]), (2049, .cells [.list (.tok 403) (SE x.2.2.1), .nil]), (403, .tok (SE x.2.2.1).length 4), (2561, .map x.2.2.2)]) (fun y => y.1 ≤ n ∧ y.2.1.length ≤ r.length ∧ y.2.2.1.length = y.1 ∧ Wt.Sn y.2.2.2 (y.2.2.1.map Ob.Sym.name) ∧ Ob.decL (n - y.1) y.2.1 y.2.2.1 = .error e) (fun x => n - x.1) (0, r.drop 8, [], []) ⟨Nat.zero_le _, by simp, rfl, Wt.Sn.nil, h⟩ ?_
 (conv => whnf)
 refine ⟨?_, fun ⟨k, q, acc, es⟩ ⟨hk, hql, hal, hS, hd⟩ => ?_⟩
 ·(repeat' (first | exact trivial | exact Wk.refl _ | exact ObWk.refl _ | exact rfl | exact ⟨_, rfl⟩ | exact Nat.zero_lt_one | refine And.intro ?_ ?_ | unfold okTo | (unfold okO; conv => whnf) | (unfold okS; conv => whnf) | (unfold SlotOk; conv => whnf) | (unfold ObjOk; conv => whnf) | (unfold okCells; conv => whnf) | (unfold liveTo; conv => whnf) | exact Nat.zero_lt_succ _))
 ·replace hk : k ≤ n := hk
  replace hql : q.length ≤ r.length := hql
  replace hal : acc.length = k := hal
  replace hS : Wt.Sn es (acc.map Ob.Sym.name) := hS
  replace hd : Ob.decL (n - k) q acc = .error e := hd
  (conv => whnf)
  refine split_intro (fun h2 => ?_) (fun h2 => ?_)
  ·have hlt : k < n := by have := of_decide_eq_true h2; omega
   obtain ⟨m, hmm⟩ : ∃ m, n - k = m + 1 := ⟨n - k - 1, by omega⟩
   rw [hmm, Ob.decL] at hd
   split at hd
   ·rename_i hnx
    injection hd with hd
    subst hd
    (conv => whnf)
    refine CallLeaf.po [0] (by (repeat' (first | exact ArgsTo.nil | refine ArgsTo.cons ?_ ?_ | exact ArgTo.mk' rfl (Wk.refl _) | exact ArgTo.mk' rfl Wk.nilm | exact ArgTo.mk' rfl (Wk.int (by simp)) | exact ArgTo.mk' rfl (Wk.list _ _) | exact ArgTo.mk' rfl (Wk.agg (by (repeat' (first | exact Wks.nil | refine Wks.cons ?_ ?_ | exact Wk.refl _ | exact Wk.nilm | exact Wk.list _ _  | exact Wk.natN rfl | refine Wk.agg ?_))))))) (symbol_f q hnx) rfl rfl (by (repeat' (first | exact trivial | exact rfl | refine And.intro ?_ ?_))) (by (repeat' (first | exact trivial | exact rfl | refine And.intro ?_ ?_))) (by (repeat' (first | exact trivial | exact rfl | refine And.intro ?_ ?_))) rfl rfl ?_
    refine ⟨[0], rfl, by (repeat' (first | exact trivial | exact ObWk.refl _ | exact ObWk.cells _ _ (Wks.cons (Wk.junk _) Wks.nil) | refine And.intro ?_ ?_ | unfold pullOk)), ?_⟩
    exact Wk.refl _
   rename_i s q' hnx
   split at hd
   case isFalse =>
    rename_i hvs
    injection hd with hd
    subst hd
    (conv => whnf)
    refine CallLeaf.o [0] (by (repeat' (first | exact ArgsTo.nil | refine ArgsTo.cons ?_ ?_ | exact ArgTo.mk' rfl (Wk.refl _) | exact ArgTo.mk' rfl Wk.nilm | exact ArgTo.mk' rfl (Wk.int (by simp)) | exact ArgTo.mk' rfl (Wk.list _ _) | exact ArgTo.mk' rfl (Wk.agg (by (repeat' (first | exact Wks.nil | refine Wks.cons ?_ ?_ | exact Wk.refl _ | exact Wk.nilm | exact Wk.list _ _  | exact Wk.natN rfl | refine Wk.agg ?_))))))) (symbol_ok q q' s hnx) rfl rfl (by (repeat' (first | exact trivial | exact rfl | refine And.intro ?_ ?_))) (by (repeat' (first | exact trivial | exact rfl | refine And.intro ?_ ?_))) (by (repeat' (first | exact trivial | exact rfl | refine And.intro ?_ ?_))) rfl rfl ?_
    (conv => whnf)
    refine CallLeaf.w (by (repeat' (first | exact ArgsTo.nil | refine ArgsTo.cons ?_ ?_ | exact ArgTo.mk' rfl (Wk.refl _) | exact ArgTo.mk' rfl Wk.nilm | exact ArgTo.mk' rfl (Wk.int (by simp)) | exact ArgTo.mk' rfl (Wk.list _ _) | exact ArgTo.mk' rfl (Wk.agg (by (repeat' (first | exact Wks.nil | refine Wks.cons ?_ ?_ | exact Wk.refl _ | exact Wk.nilm | exact Wk.list _ _  | exact Wk.natN rfl | refine Wk.agg ?_))))))) (valid_ s) rfl ?_
    (conv => whnf)
    refine split_intro (fun hv => ?_) (fun hv => ?_)
    ·have hh : Ob.has acc s.name = true := by
      cases hc : Ob.has acc s.name with
      | true => rfl
      | false => exact absurd (by simp [hv, hc]) hvs
     rw [has_mem] at hh
     (conv => whnf)
     refine ⟨_, ⟨hS.keys, hS.look' s.name⟩, ?_⟩
     (conv => whnf)
     refine CallLeaf.po [] (by (repeat' (first | exact ArgsTo.nil | refine ArgsTo.cons ?_ ?_ | exact ArgTo.mk' rfl (Wk.refl _) | exact ArgTo.mk' rfl Wk.nilm | exact ArgTo.mk' rfl (Wk.int (by simp)) | exact ArgTo.mk' rfl (Wk.list _ _) | exact ArgTo.mk' rfl (Wk.agg (by (repeat' (first | exact Wks.nil | refine Wks.cons ?_ ?_ | exact Wk.refl _ | exact Wk.nilm | exact Wk.list _ _  | exact Wk.natN rfl | refine Wk.agg ?_))))))) (must_f' _ 12 (by rw [hh]; rfl)) rfl rfl (by (repeat' (first | exact trivial | exact rfl | refine And.intro ?_ ?_))) (by (repeat' (first | exact trivial | exact rfl | refine And.intro ?_ ?_))) (by (repeat' (first | exact trivial | exact rfl | refine And.intro ?_ ?_))) rfl rfl ?_
     refine ⟨[0], rfl, by (repeat' (first | exact trivial | exact ObWk.refl _ | exact ObWk.cells _ _ (Wks.cons (Wk.junk _) Wks.nil) | refine And.intro ?_ ?_ | unfold pullOk)), ?_⟩
     exact Wk.refl _
    ·(conv => whnf)
     refine CallLeaf.po [] (by (repeat' (first | exact ArgsTo.nil | refine ArgsTo.cons ?_ ?_ | exact ArgTo.mk' rfl (Wk.refl _) | exact ArgTo.mk' rfl Wk.nilm | exact ArgTo.mk' rfl (Wk.int (by simp)) | exact ArgTo.mk' rfl (Wk.list _ _) | exact ArgTo.mk' rfl (Wk.agg (by (repeat' (first | exact Wks.nil | refine Wks.cons ?_ ?_ | exact Wk.refl _ | exact Wk.nilm | exact Wk.list _ _  | exact Wk.natN rfl | refine Wk.agg ?_))))))) (must_f' _ 12 rfl) rfl rfl (by (repeat' (first | exact trivial | exact rfl | refine And.intro ?_ ?_))) (by (repeat' (first | exact trivial | exact rfl | refine And.intro ?_ ?_))) (by (repeat' (first | exact trivial | exact rfl | refine And.intro ?_ ?_))) rfl rfl ?_
     refine ⟨[0], rfl, by (repeat' (first | exact trivial | exact ObWk.refl _ | exact ObWk.cells _ _ (Wks.cons (Wk.junk _) Wks.nil) | refine And.intro ?_ ?_ | unfold pullOk)), ?_⟩
     exact Wk.refl _
   rename_i hvs
   simp only [Bool.and_eq_true, Bool.not_eq_true'] at hvs
   rw [has_mem] at hvs
   have hq' := congrArg List.length (nextS_some hnx hvs.1)
   simp at hq'
   (conv => whnf)
   refine CallLeaf.o [0] (by (repeat' (first | exact ArgsTo.nil | refine ArgsTo.cons ?_ ?_ | exact ArgTo.mk' rfl (Wk.refl _) | exact ArgTo.mk' rfl Wk.nilm | exact ArgTo.mk' rfl (Wk.int (by simp)) | exact ArgTo.mk' rfl (Wk.list _ _) | exact ArgTo.mk' rfl (Wk.agg (by (repeat' (first | exact Wks.nil | refine Wks.cons ?_ ?_ | exact Wk.refl _ | exact Wk.nilm | exact Wk.list _ _  | exact Wk.natN rfl | refine Wk.agg ?_))))))) (symbol_ok q q' s hnx) rfl rfl (by (repeat' (first | exact trivial | exact rfl | refine And.intro ?_ ?_))) (by (repeat' (first | exact trivial | exact rfl | refine And.intro ?_ ?_))) (by (repeat' (first | exact trivial | exact rfl | refine And.intro ?_ ?_))) rfl rfl ?_
   (conv => whnf)
   refine CallLeaf.w (by (repeat' (first | exact ArgsTo.nil | refine ArgsTo.cons ?_ ?_ | exact ArgTo.mk' rfl (Wk.refl _) | exact ArgTo.mk' rfl Wk.nilm | exact ArgTo.mk' rfl (Wk.int (by simp)) | exact ArgTo.mk' rfl (Wk.list _ _) | exact ArgTo.mk' rfl (Wk.agg (by (repeat' (first | exact Wks.nil | refine Wks.cons ?_ ?_ | exact Wk.refl _ | exact Wk.nilm | exact Wk.list _ _  | exact Wk.natN rfl | refine Wk.agg ?_))))))) (valid_ s) rfl ?_
   (conv => whnf)
   refine split_intro (fun _ => ?_) (fun h => absurd h (by (simp [hvs.1])))
   (conv => whnf)
   refine ⟨_, ⟨hS.keys, hS.look' s.name⟩, ?_⟩
   (conv => whnf)
   refine CallLeaf.w (by (repeat' (first | exact ArgsTo.nil | refine ArgsTo.cons ?_ ?_ | exact ArgTo.mk' rfl (Wk.refl _) | exact ArgTo.mk' rfl Wk.nilm | exact ArgTo.mk' rfl (Wk.int (by simp)) | exact ArgTo.mk' rfl (Wk.list _ _) | exact ArgTo.mk' rfl (Wk.agg (by (repeat' (first | exact Wks.nil | refine Wks.cons ?_ ?_ | exact Wk.refl _ | exact Wk.nilm | exact Wk.list _ _  | exact Wk.natN rfl | refine Wk.agg ?_))))))) (must_t' _ 12 (by rw [hvs.2]; rfl)) rfl ?_
   (conv => whnf)
   refine ⟨_, ⟨hS.keys, rfl⟩, ?_⟩
   (conv => whnf)
   refine ⟨_, appL (f := Ob.Sym.enc) (xs := acc) (ys := [s]) (zs := acc ++ [s]) rfl rfl (fun _ => rfl) rfl (by rw [List.length_append]; show (_ + 1) * 40 ≤ _; omega), ?_⟩
   (conv => whnf)
   refine ⟨_, add64 (c := ((k + 1 : Nat) : Int)) (by omega) (by omega), ?_⟩
   (conv => whnf)
   refine ⟨(k + 1, q', acc ++ [s], mset es (.string (sB s.name)) (vB true)), ⟨⟨by show k + 1 ≤ n; omega, by show q'.length ≤ _; omega, by simp [hal], by have := hS.set s.name; simpa using this, ?_⟩, by show n - (k + 1) < n - k; omega⟩, ?_⟩
   ·show Ob.decL (n - (k + 1)) q' (acc ++ [s]) = _
    rw [show n - (k + 1) = m by omega]; exact hd
   ·(repeat' (first | exact trivial | exact Wk.refl _ | exact ObWk.refl _ | exact rfl | exact ⟨_, rfl⟩ | exact Nat.zero_lt_one | refine And.intro ?_ ?_ | unfold okTo | (unfold okO; conv => whnf) | (unfold okS; conv => whnf) | (unfold SlotOk; conv => whnf) | (unfold ObjOk; conv => whnf) | (unfold okCells; conv => whnf) | (unfold liveTo; conv => whnf) | exact Nat.zero_lt_succ _))
  ·have hge : n - k = 0 := by have := of_decide_eq_false h2; omega
   rw [hge, Ob.decL] at hd
   simp at hd
end Go.Proofs.YtfbmknghfhancaaGreatDoor.O

namespace Go.Proofs.YtfbmknghfhancaaGreatDoor.O
open Go Go.AL Go.AL.Ap Go.AL.Ob
set_option maxRecDepth 100000
set_option maxHeartbeats 4000000
theorem door_n (l : List Ob.Sym) (x : List UInt8) (c : Int) : DCall Tryz.prog Gl 59 [.ptr 0 0, .ptr 1 0] [.cells [.list .nat (SE l), LBn x], .cells [vI c]] none [.cells [.list .nat (SE l), LBn x], .cells [vI c]] := by
 refine DCall.enter hT hmix Tryz.func59 rfl rfl rfl rfl rfl rfl rfl rfl rfl rfl rfl rfl ?_
 (conv => whnf)
 refine ⟨[0, 1], rfl, by (try unfold pullOk); (repeat' (first | exact trivial | exact ObWk.refl _ | refine And.intro ?_ ?_ | unfold pullOk)), ?_⟩
 exact Wk.refl _
theorem door_p (c n : Int) : DCall Tryz.prog Gl 59 [.ptr 0 0, .ptr 1 0] [.cells [.nil, .nil], .cells [vI c]] (some (thr n)) [.cells [.nil, .nil], .cells [vI n]] := by
 refine DCall.enter hT hmix Tryz.func59 rfl rfl rfl rfl rfl rfl rfl rfl rfl rfl rfl rfl ?_
 (conv => whnf)
 refine ⟨[0, 1], rfl, by (try unfold pullOk); (repeat' (first | exact trivial | exact ObWk.refl _ | refine And.intro ?_ ?_ | unfold pullOk)), ?_⟩
 exact Wk.refl _
def encRO (r : Except Int (List Ob.Sym × List UInt8)) : Ob.Obj × Int := match r with | .ok (l, x) => (⟨l, x⟩, 0) | .error e => (⟨[], []⟩, e)
theorem odecode_ (r : List UInt8) (hr : r.length ≤ 1000000000) : FCall Tryz.prog Gl 45 [LB r] [] (.tuple [oDn (encRO (decO r)).1, vI (encRO (decO r)).2]) [] := by
 refine FCall.enterD hT hmix Tryz.func45 rfl rfl rfl rfl rfl rfl rfl rfl rfl rfl (fun hbd => ?_)
 (conv => whnf)
 refine ⟨[(0, 0), (8, 0)], rfl, by simp, fun ds => ?_⟩
 cases hd : decO r with
 | ok p =>
  obtain ⟨l, x⟩ := p
  (conv => whnf)
  refine CallLeaf.oa [5136] (object_ok r l x hd hr) rfl rfl rfl rfl ?_
  (conv => whnf)
  refine Door.o [0, 8] (by (repeat' (first | exact ArgsTo.nil | refine ArgsTo.cons ?_ ?_ | exact ArgTo.mk' rfl (Wk.refl _) | exact ArgTo.mk' rfl Wk.nilm | exact ArgTo.mk' rfl (Wk.int (by simp)) | exact ArgTo.mk' rfl (Wk.list _ _) | exact ArgTo.mk' rfl (Wk.agg (by (repeat' (first | exact Wks.nil | refine Wks.cons ?_ ?_ | exact Wk.refl _ | exact Wk.nilm | exact Wk.list _ _  | exact Wk.natN rfl | refine Wk.agg ?_))))))) (door_n l x 0) rfl rfl (by (repeat' (first | exact trivial | exact rfl | refine And.intro ?_ ?_))) (by (repeat' (first | exact trivial | exact rfl | refine And.intro ?_ ?_))) (by (repeat' (first | exact trivial | exact rfl | refine And.intro ?_ ?_))) rfl rfl (fun d h => nomatch h) ?_
  (conv => whnf)
  refine ⟨[], rfl, by (try unfold pullOk); (repeat' (first | exact trivial | exact ObWk.refl _ | refine And.intro ?_ ?_ | unfold pullOk)), ?_⟩
  exact Wk.refl _
 | error e =>
  (conv => whnf)
  refine CallLeaf.po [5136] (by (repeat' (first | exact ArgsTo.nil | refine ArgsTo.cons ?_ ?_ | exact ArgTo.mk' rfl (Wk.refl _) | exact ArgTo.mk' rfl Wk.nilm | exact ArgTo.mk' rfl (Wk.int (by simp)) | exact ArgTo.mk' rfl (Wk.list _ _) | exact ArgTo.mk' rfl (Wk.agg (by (repeat' (first | exact Wks.nil | refine Wks.cons ?_ ?_ | exact Wk.refl _ | exact Wk.nilm | exact Wk.list _ _  | exact Wk.natN rfl | refine Wk.agg ?_))))))) (object_f r e hd hr) rfl rfl (by (repeat' (first | exact trivial | exact rfl | refine And.intro ?_ ?_))) (by (repeat' (first | exact trivial | exact rfl | refine And.intro ?_ ?_))) (by (repeat' (first | exact trivial | exact rfl | refine And.intro ?_ ?_))) rfl rfl ?_
  (conv => whnf)
  refine Door.o [0, 8] (by (repeat' (first | exact ArgsTo.nil | refine ArgsTo.cons ?_ ?_ | exact ArgTo.mk' rfl (Wk.refl _) | exact ArgTo.mk' rfl Wk.nilm | exact ArgTo.mk' rfl (Wk.int (by simp)) | exact ArgTo.mk' rfl (Wk.list _ _) | exact ArgTo.mk' rfl (Wk.agg (by (repeat' (first | exact Wks.nil | refine Wks.cons ?_ ?_ | exact Wk.refl _ | exact Wk.nilm | exact Wk.list _ _  | exact Wk.natN rfl | refine Wk.agg ?_))))))) (door_p 0 e) rfl rfl (by (repeat' (first | exact trivial | exact rfl | refine And.intro ?_ ?_))) (by (repeat' (first | exact trivial | exact rfl | refine And.intro ?_ ?_))) (by (repeat' (first | exact trivial | exact rfl | refine And.intro ?_ ?_))) rfl rfl (fun d h => by injection h with h; subst h; exact fun _ => rfl) ?_
  (conv => whnf)
  refine ⟨[], rfl, by (try unfold pullOk); (repeat' (first | exact trivial | exact ObWk.refl _ | refine And.intro ?_ ?_ | unfold pullOk)), ?_⟩
  exact Wk.tuple (Wks.cons (Wk.agg (Wks.cons (Wk.natN rfl) (Wks.cons (Wk.natN rfl) Wks.nil))) (Wks.cons (Wk.refl _) Wks.nil))
end Go.Proofs.YtfbmknghfhancaaGreatDoor.O

namespace Go.Proofs.YtfbmknghfhancaaGreatDoor.O
open Go Go.AL Go.AL.Ap Go.AL.Ob
set_option maxRecDepth 100000
set_option maxHeartbeats 4000000
theorem okL_step {l : List Ob.Sym} {k : Nat} {s : Ob.Sym} (h : l[k]? = some s) : okL [] (l.take (k + 1)) = (okL [] (l.take k) && (valid s && !Ob.has (l.take k) s.name)) := by
 rw [List.take_add_one, h, Option.toList_some, okL_app]
 simp [okL]
theorem okL_bad {l : List Ob.Sym} {k : Nat} {s : Ob.Sym} (h : l[k]? = some s) (hb : (valid s && !Ob.has (l.take k) s.name) = false) : validO l = false := by
 have h1 := okL_step h
 rw [hb, Bool.and_false] at h1
 have h2 := okL_app (l.take (k + 1)) (l.drop (k + 1)) []
 rw [List.take_append_drop, h1, Bool.false_and] at h2
 simp [validO, h2]
theorem find_step {l : List Ob.Sym} {k : Nat} {s : Ob.Sym} {n : Str} (h : l[k]? = some s) (hkk : Ob.find (l.take k) n = none) : Ob.find (l.take (k + 1)) n = if s.name = n then some s else none := by
 unfold Ob.find at *
 rw [List.take_add_one, h, Option.toList_some, List.find?_append, hkk]
 by_cases e : s.name = n <;> simp [e]
theorem find_hit {l : List Ob.Sym} {k : Nat} {s : Ob.Sym} {n : Str} (h : l[k]? = some s) (hkk : Ob.find (l.take k) n = none) (e : s.name = n) : Ob.find l n = some s := by
 have h1 := find_step h hkk
 rw [if_pos e] at h1
 unfold Ob.find at *
 have h2 : l = l.take (k + 1) ++ l.drop (k + 1) := (List.take_append_drop _ _).symm
 rw [h2, List.find?_append, h1]; rfl
end Go.Proofs.YtfbmknghfhancaaGreatDoor.O

namespace Go.Proofs.YtfbmknghfhancaaGreatDoor.O
open Go Go.AL Go.AL.Ap Go.AL.Ob
set_option maxRecDepth 100000
set_option maxHeartbeats 4000000
def encRO' (o : Ob.Obj) : List UInt8 × Int := if validO o.syms then (encO o, 0) else ([], 12)
theorem encL_take {l : List Ob.Sym} {k : Nat} {s : Ob.Sym} (h : l[k]? = some s) : encL (l.take (k + 1)) = encL (l.take k) ++ Ob.encS s := by
 rw [List.take_add_one, h]; simp [encL]
theorem encL_le (l : List Ob.Sym) (k : Nat) : (encL (l.take k)).length ≤ (encL l).length := by
 conv => rhs; rw [← List.take_append_drop k l]
 simp only [encL, List.flatMap_append, List.length_append]
 omega
theorem okL_mem : ∀ (l acc : List Ob.Sym), okL acc l = true → ∀ s ∈ l, valid s = true
 | [], _, _, s, h => by simp at h
 | x :: l, acc, h, s, hs => by
  simp only [okL, Bool.and_eq_true] at h
  rcases List.mem_cons.1 hs with rfl | hs
  ·exact h.1.1
  ·exact okL_mem l _ h.2 s hs
end Go.Proofs.YtfbmknghfhancaaGreatDoor.O

namespace Go.Proofs.YtfbmknghfhancaaGreatDoor.O
open Go Go.AL Go.AL.Ap Go.AL.Ob
set_option maxRecDepth 100000
set_option maxHeartbeats 4000000
theorem pows_at : ∀ i < 17, pows[i]? = some ((2 ^ i : Nat) : Int) := by decide
theorem pow_le16 {j : Nat} (h : (2 ^ j : Nat) ≤ 65536) : j ≤ 16 := by
 rcases Nat.lt_or_ge 16 j with hj | hj
 ·have : 2 ^ 17 ≤ 2 ^ j := Nat.pow_le_pow_right (by decide) hj
  omega
 ·exact hj
theorem two_step {j : Nat} (h : (2 ^ j : Nat) ≤ 65536) : intBin .mul .i64 2 ((2 ^ j : Nat) : Int) = some ((2 ^ (j + 1) : Nat) : Int) := by
 rw [Nat.pow_succ]
 generalize 2 ^ j = m at *
 exact mul64 (by push_cast; omega) (by push_cast; omega)
theorem power_ (n : Int) : FCall Tryz.prog Gl 57 [vI n] [] (vB (power n)) [] := by
 refine FCall.enterL hT hmix [] Tryz.func57 rfl rfl rfl fun hbd => ?_
 (conv => whnf)
 refine LWp.loop hT hmix [] (fun j : Nat => [(3, vI ((2 ^ j : Nat) : Int))]) (fun _ => []) (fun j => j ≤ 17 ∧ n ∉ pows.take j) (fun j => 17 - j) 0 ⟨Nat.zero_le _, (List.not_mem_nil : n ∉ ([] : List Int))⟩ ?_
 (conv => whnf)
 refine ⟨?_, fun j ⟨hj, hn⟩ => ?_⟩
 ·(repeat' (first | exact trivial | exact Wk.refl _ | exact ObWk.refl _ | exact rfl | exact ⟨_, rfl⟩ | exact Nat.zero_lt_one | refine And.intro ?_ ?_ | unfold okTo | (unfold okO; conv => whnf) | (unfold okS; conv => whnf) | (unfold SlotOk; conv => whnf) | (unfold ObjOk; conv => whnf) | (unfold okCells; conv => whnf) | (unfold liveTo; conv => whnf) | exact Nat.zero_lt_succ _))
 ·(conv => whnf)
  refine split_intro (fun h => ?_) (fun h => ?_)
  ·have h' : (2 ^ j : Nat) ≤ 65536 := Int.ofNat_le.1 (show ((2 ^ j : Nat) : Int) ≤ ((65536 : Nat) : Int) from of_decide_eq_true h)
   have hj16 := pow_le16 h'
   have hp := pows_at j (by omega)
   (conv => whnf)
   refine split_intro (fun h2 => ?_) (fun h2 => ?_)
   ·have e : ((2 ^ j : Nat) : Int) = n := eq_of_beq h2
    (conv => whnf)
    exact Wk.bool (by
     symm; unfold power; rw [decide_eq_true_eq, ← e]
     exact List.mem_of_getElem? hp)
   ·have e : ¬ ((2 ^ j : Nat) : Int) = n := fun e => by rw [e] at h2; simp at h2
    (conv => whnf)
    refine ⟨_, two_step h', ?_⟩
    (conv => whnf)
    refine ⟨j + 1, ⟨⟨by omega, ?_⟩, by simp only []; omega⟩, ?_⟩
    ·rw [List.take_add_one, hp]
     simp only [Option.toList_some, List.mem_append, List.mem_singleton, not_or]
     exact ⟨hn, fun h => e h.symm⟩
    ·(repeat' (first | exact trivial | exact Wk.refl _ | exact ObWk.refl _ | exact rfl | exact ⟨_, rfl⟩ | exact Nat.zero_lt_one | refine And.intro ?_ ?_ | unfold okTo | (unfold okO; conv => whnf) | (unfold okS; conv => whnf) | (unfold SlotOk; conv => whnf) | (unfold ObjOk; conv => whnf) | (unfold okCells; conv => whnf) | (unfold liveTo; conv => whnf) | exact Nat.zero_lt_succ _))
  ·have h' : ¬ ((2 ^ j : Nat) : Int) ≤ 65536 := of_decide_eq_false h
   have hj17 : j = 17 := by
    rcases Nat.lt_or_ge j 17 with hlt | hge
    ·have : 2 ^ j ≤ 65536 := Nat.pow_le_pow_right (j := 16) (by decide) (by omega)
     exact absurd (show ((2 ^ j : Nat) : Int) ≤ ((65536 : Nat) : Int) from Int.ofNat_le.2 this) h'
    ·omega
   subst hj17
   (conv => whnf)
   exact Wk.bool (by symm; unfold power; rw [decide_eq_false_iff_not]; exact hn)
theorem rsym_ (s : Ob.Sym) (hb : s.name.length ≤ 1000000000) : FCall Tryz.prog Gl 42 [.agg s.enc] [] (vB (valid s)) [] := by
 obtain ⟨nm, bd, sz, al⟩ := s
 have hsz := sB_sz nm
 replace hb : nm.length ≤ 1000000000 := hb
 refine FCall.enterL hT hmix [] Tryz.func42 rfl rfl rfl fun hbd => ?_
 (conv => whnf)
 refine split_intro (fun h1 => ?_) (fun h1 => ?_)
 ·have h1' : ((sB nm).size : Int) = 0 := eq_of_beq h1
  (conv => whnf)
  exact Wk.bool (vbad (by simp only; omega)).symm
 ·have h1' : ¬ ((sB nm).size : Int) = 0 := by simpa using h1
  (conv => whnf)
  refine split_intro (fun h2 => ?_) (fun h2 => ?_)
  ·have h2' : (255 : Int) < (sB nm).size := of_decide_eq_true h2
   (conv => whnf)
   exact Wk.bool (vbad (by simp only; omega)).symm
  ·have h2' : ¬ ((255 : Int) < (sB nm).size) := of_decide_eq_false h2
   (conv => whnf)
   refine split_intro (fun h4 => ?_) (fun h4 => ?_)
   ·have h4' : sz < 0 := of_decide_eq_true h4
    (conv => whnf)
    exact Wk.bool (vbad (by simp only; omega)).symm
   ·have h4' : ¬ (sz < 0) := of_decide_eq_false h4
    (conv => whnf)
    refine split_intro (fun h5 => ?_) (fun h5 => ?_)
    ·have h5' : (4294967295 : Int) < sz := of_decide_eq_true h5
     (conv => whnf)
     exact Wk.bool (vbad (by simp only; omega)).symm
    ·have h5' : ¬ ((4294967295 : Int) < sz) := of_decide_eq_false h5
     (conv => whnf)
     refine LWp.loop hT hmix [] (fun k : Nat => [(3, vI k)]) (fun _ => []) (fun k => k ≤ nm.length ∧ (0 : UInt8) ∉ nm.take k) (fun k => nm.length - k) 0 ⟨Nat.zero_le _, by simp⟩ ?_
     (conv => whnf)
     refine ⟨?_, fun k ⟨hk, hkk⟩ => ?_⟩
     ·(repeat' (first | exact trivial | exact Wk.refl _ | exact ObWk.refl _ | exact rfl | exact ⟨_, rfl⟩ | exact Nat.zero_lt_one | refine And.intro ?_ ?_ | unfold okTo | (unfold okO; conv => whnf) | (unfold okS; conv => whnf) | (unfold SlotOk; conv => whnf) | (unfold ObjOk; conv => whnf) | (unfold okCells; conv => whnf) | (unfold liveTo; conv => whnf) | exact Nat.zero_lt_succ _))
     ·(conv => whnf)
      refine split_intro (fun h => ?_) (fun h => ?_)
      ·have hlt : k < nm.length := by have := of_decide_eq_true h; simp only at this; omega
       obtain ⟨x, hx⟩ := exI hlt
       (conv => whnf)
       refine ⟨x, ⟨by omega, by simpa using hx⟩, ?_⟩
       (conv => whnf)
       refine split_intro (fun h6 => ?_) (fun h6 => ?_)
       ·have hx0 : x = 0 := by
         have : (x.toNat : Int) = 0 := by simpa using h6
         exact UInt8.toNat_inj.1 (by simpa using this)
        (conv => whnf)
        exact Wk.bool (vbad (fun h => h.2.2.1 (by rw [← hx0]; exact List.mem_of_getElem? hx))).symm
       ·have hx0 : ¬ 0 = x := by
         intro e; subst e; simp at h6
        (conv => whnf)
        refine ⟨_, add64 (c := ((k + 1 : Nat) : Int)) (by omega) (by omega), ?_⟩
        (conv => whnf)
        refine ⟨k + 1, ⟨⟨by omega, ?_⟩, by simp only []; omega⟩, ?_⟩
        ·rw [List.take_add_one, hx]; simp [hkk, hx0]
        ·(repeat' (first | exact trivial | exact Wk.refl _ | exact ObWk.refl _ | exact rfl | exact ⟨_, rfl⟩ | exact Nat.zero_lt_one | refine And.intro ?_ ?_ | unfold okTo | (unfold okO; conv => whnf) | (unfold okS; conv => whnf) | (unfold SlotOk; conv => whnf) | (unfold ObjOk; conv => whnf) | (unfold okCells; conv => whnf) | (unfold liveTo; conv => whnf) | exact Nat.zero_lt_succ _))
      ·have hge : nm.length ≤ k := by have := of_decide_eq_false h; simp only at this; omega
       rw [List.take_of_length_le hge] at hkk
       rw [vgood (s := ⟨nm, bd, sz, al⟩) (by simp only; omega) (by simp only; omega) hkk (by simp only; omega) (by simp only; omega)]
       (conv => whnf)
       refine split_intro (fun b3 => ?_) (fun b3 => ?_)
       ·have b3' : bd = 3 := eq_of_beq b3
        (conv => whnf)
        refine CallLeaf.wa (power_ al) rfl ?_
        (conv => whnf)
        exact Wk.bool (by simp [bindOk, b3'])
       ·have b3' : ¬ bd = 3 := by simpa using b3
        (conv => whnf)
        refine split_intro (fun b4 => ?_) (fun b4 => ?_)
        ·have b4' : bd = 4 := eq_of_beq b4
         (conv => whnf)
         refine split_intro (fun z => ?_) (fun z => ?_)
         ·have z' : sz = 0 := eq_of_beq z
          (conv => whnf)
          exact Wk.bool (by rw [Bool.eq_iff_iff]; simp [bindOk, b4', z'])
         ·have z' : ¬ sz = 0 := by simpa using z
          (conv => whnf)
          exact Wk.bool (by simp [bindOk, b4', z'])
        ·have b4' : ¬ bd = 4 := by simpa using b4
         (conv => whnf)
         refine split_intro (fun b5 => ?_) (fun b5 => ?_)
         ·have b5' : bd = 5 := eq_of_beq b5
          (conv => whnf)
          refine split_intro (fun z => ?_) (fun z => ?_)
          ·have z' : sz = 0 := eq_of_beq z
           (conv => whnf)
           exact Wk.bool (by rw [Bool.eq_iff_iff]; simp [bindOk, b5', z'])
          ·have z' : ¬ sz = 0 := by simpa using z
           (conv => whnf)
           exact Wk.bool (by simp [bindOk, b5', z'])
         ·have b5' : ¬ bd = 5 := by simpa using b5
          (conv => whnf)
          refine split_intro (fun b1 => ?_) (fun b1 => ?_)
          ·have b1' : bd = 1 := eq_of_beq b1
           (conv => whnf)
           exact Wk.bool (by rw [Bool.eq_iff_iff]; simp [bindOk, b1'])
          ·have b1' : ¬ bd = 1 := by simpa using b1
           (conv => whnf)
           refine split_intro (fun b2 => ?_) (fun b2 => ?_)
           ·have b2' : bd = 2 := eq_of_beq b2
            (conv => whnf)
            exact Wk.bool (by rw [Bool.eq_iff_iff]; simp [bindOk, b2'])
           ·have b2' : ¬ bd = 2 := by simpa using b2
            (conv => whnf)
            exact Wk.bool (by simp [bindOk, b1', b2', b3', b4', b5'])
theorem rhas_ (l : List Ob.Sym) (n : Str) (hl : l.length ≤ 1000000000) : FCall Tryz.prog Gl 43 [.list .any (SE l), sD n] [] (vB (Ob.has l n)) [] := by
 refine FCall.enterL hT hmix [] Tryz.func43 rfl rfl rfl fun hbd => ?_
 (conv => whnf)
 refine LWp.loop hT hmix [] (fun k : Nat => [(5, vI k)]) (fun _ => []) (fun k => k ≤ l.length ∧ Ob.has (l.take k) n = false) (fun k => l.length - k) 0 ⟨Nat.zero_le _, rfl⟩ ?_
 (conv => whnf)
 refine ⟨?_, fun k ⟨hk, hkk⟩ => ?_⟩
 ·(repeat' (first | exact trivial | exact Wk.refl _ | exact ObWk.refl _ | exact rfl | exact ⟨_, rfl⟩ | exact Nat.zero_lt_one | refine And.intro ?_ ?_ | unfold okTo | (unfold okO; conv => whnf) | (unfold okS; conv => whnf) | (unfold SlotOk; conv => whnf) | (unfold ObjOk; conv => whnf) | (unfold okCells; conv => whnf) | (unfold liveTo; conv => whnf) | exact Nat.zero_lt_succ _))
 ·(conv => whnf)
  refine split_intro (fun h => ?_) (fun h => ?_)
  ·have hlt : k < l.length := by simpa using h
   obtain ⟨s, hs⟩ := exI hlt
   (conv => whnf)
   refine ⟨_, ⟨by omega, getMap hs⟩, ?_⟩
   (conv => whnf)
   refine split_intro (fun hc => ?_) (fun hc => ?_)
   ·have hc' : s.name = n := of_decide_eq_true hc
    (conv => whnf)
    exact Wk.bool (Ob.has_iff.2 ⟨s, List.mem_of_getElem? hs, hc'⟩).symm
   ·have hc' : ¬ s.name = n := of_decide_eq_false hc
    (conv => whnf)
    refine ⟨_, add64 (c := ((k + 1 : Nat) : Int)) (by omega) (by omega), ?_⟩
    (conv => whnf)
    refine ⟨k + 1, ⟨⟨by omega, ?_⟩, by simp only []; omega⟩, ?_⟩
    ·rw [List.take_add_one, hs]
     unfold Ob.has at *
     rw [List.any_append, hkk]; simp [hc']
    ·(repeat' (first | exact trivial | exact Wk.refl _ | exact ObWk.refl _ | exact rfl | exact ⟨_, rfl⟩ | exact Nat.zero_lt_one | refine And.intro ?_ ?_ | unfold okTo | (unfold okO; conv => whnf) | (unfold okS; conv => whnf) | (unfold SlotOk; conv => whnf) | (unfold ObjOk; conv => whnf) | (unfold okCells; conv => whnf) | (unfold liveTo; conv => whnf) | exact Nat.zero_lt_succ _))
  ·have hge : l.length ≤ k := by simpa using h
   rw [List.take_of_length_le hge] at hkk
   (conv => whnf)
   exact Wk.bool hkk.symm
end Go.Proofs.YtfbmknghfhancaaGreatDoor.O
