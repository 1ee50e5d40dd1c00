/- The laws of groups, walked. No condition. -/
import Derived.Test.YtfbmknghfhancaaDoorGAc
import Derived.Test.YtfbmknghfhancaaDoorGWf
import Derived.Test.YtfbmknghfhancaaDoorGPa
import Derived.Test.YtfbmknghfhancaaDoorGWe
import Derived.Test.YtfbmknghfhancaaDoorRows
import Derived.LaidMore
import Derived.Stop.Joined
import Derived.SevenTiedAt
import Derived.Lib.LaidTab
import Derived.Test.YtfbmknghfhancaaDoorGWa
import Derived.Test.YtfbmknghfhancaaDoorGWb
set_option linter.unusedVariables false
set_option linter.unusedSimpArgs false
namespace Go.Proofs.YtfbmknghfhancaaDoor
open Go Go.AL Go.AL.Bd Go.AL.Tb Go.AL.Sc Go.AL.Gp
set_option maxRecDepth 100000
set_option maxHeartbeats 4000000
theorem groupMaximal_ (l : List Ob.Obj) (fs : List Fil) (hfs : ∀ x ∈ fs, ∀ m ∈ x.members, OkM m) : FCall Tryd.prog Gl 3 [LO l, LF fs] [] (vB true) [] := by
 have I := inputs_ fs hfs
 refine FCall.enterL hT hmix [] Tryd.func3 rfl rfl rfl fun hbd => ?_
 cases hv : (inputsR fs).2 with
 | false =>
  rw [hv] at I
  generalize (inputsR fs).1 = v at I
  (conv => whnf)
  refine CallLeaf.wa (I) rfl ?_
  (conv => whnf)
  refine CallLeaf.wa (awake_20_) rfl ?_
  (((conv => whnf)); (refine CallLeaf.wa (awake_20_) rfl ?_); ((conv => whnf)); exact Wk.refl _)
 | true =>
  obtain ⟨e1, gd⟩ := inputs_good hv
  rw [hv, e1] at I
  generalize insL 0 fs = il at *
  have hl := gd.len
  have hmg := gd.mg
  have hmga := gd.mga
  (conv => whnf)
  refine CallLeaf.wa (I) rfl ?_
  (conv => whnf)
  refine CallLeaf.wa (awake_20_) rfl ?_
  (conv => whnf)
  refine CallLeaf.wa (right_ l) rfl ?_
  (conv => whnf)
  refine split_intro (fun hr => ?_) (fun hr => ?_)
  ·(((conv => whnf)); (refine CallLeaf.wa (awake_20_) rfl ?_); ((conv => whnf)); exact Wk.refl _)
  ·have hR := not_f hr
   have FW := forward20_ il (by omega)
   have okl := ldO_ok' (f := [111]) hR
   have G1 := gload_ (ldO [111] l) 12 il 61 (by omega) (by omega) (by omega) (by omega) okl gd.ok
   have okg := grp_ok gd okl (F := 61) (by omega)
   obtain ⟨d1, d2, d3⟩ := grp_done gd (ldO [111] l) (F := 61) (by omega)
   have M := members_ il (by omega) (fun x hx => by have := gd.mem x hx; omega)
   have C := gcan_ (grp il 61 (ldO [111] l)).1 54 (by omega) okg il (by omega) gd.ok
   rw [canG_done d1] at C
   have U := unitsS_ (grp il 61 (ldO [111] l)).1 (by have := okg.len; have := okg.us; omega)
   have ga := gd.archs
   have FA := forward20_ (archs il) (by have := ga.len; omega)
   have G2 := gload_ (grp il 61 (ldO [111] l)).1 54 (archs il) 61 (by rw [archs_archs]; omega) (by have := ga.len; omega) (by rw [archs_archs]; omega) (by omega) okg ga.ok
   rw [grp_again d1] at G2
   simp only [] at G2
   have SU := sameU_ (grp il 61 (ldO [111] l)).1.us (grp il 61 (ldO [111] l)).1.us
   obtain ⟨n, hn⟩ : ∃ n, n = (grp il 61 (ldO [111] l)).2 := ⟨_, rfl⟩
   rw [← hn] at d2 d3 G1
   have L := FCall.wk (lload20_ l hR) (Wk.refl _)
   (conv => whnf)
   refine CallLeaf.oa [2048] (L) rfl rfl rfl rfl ?_
   (conv => whnf)
   refine CallLeaf.wa (FW) rfl ?_
   (conv => whnf)
   refine CallLeaf.oa [2048] (G1) rfl rfl rfl rfl ?_
   (conv => whnf)
   refine CallLeaf.oa [2048] (U) rfl rfl rfl rfl ?_
   (conv => whnf)
   refine LWp.loop hT hmix [] (fun k : Nat => [(11, vI k), (10, .list (.tok 403) ((archs (il.take k)).map Inp.enc))]) (fun k => [(403, .tok ((archs (il.take k)).map Inp.enc).length 6)]) (fun k => k ≤ il.length) (fun k => il.length - k) 0 (Nat.zero_le _) ?_
   (conv => whnf)
   refine ⟨?_, fun k hk => ?_⟩
   ·(repeat' (first | exact trivial | exact Wk.refl _ | exact ObWk.refl _ | exact rfl | exact ⟨_, rfl⟩ | exact Nat.zero_lt_one | refine And.intro ?_ ?_ | unfold okTo | (unfold okO; conv => whnf) | (unfold okS; conv => whnf) | (unfold SlotOk; conv => whnf) | (unfold ObjOk; conv => whnf) | (unfold okCells; conv => whnf) | (unfold liveTo; conv => whnf) | exact Nat.zero_lt_succ _))
   ·have hz := filter_le il (fun x : Inp => x.arch) (k + 1)
    (conv => whnf)
    refine split_intro (fun h => ?_) (fun h => ?_)
    ·have hlt : k < il.length := by have := of_decide_eq_true h; rw [List.length_map] at this; omega
     obtain ⟨x, hx⟩ := exI hlt
     (conv => whnf)
     refine ⟨_, ⟨by omega, getMap hx⟩, ?_⟩
     (conv => whnf)
     refine split_intro (fun ha => ?_) (fun ha => ?_)
     ·have hst : archs (il.take (k + 1)) = archs (il.take k) ++ [x] := filter_t hx ha
      (conv => whnf)
      refine ⟨_, ⟨by omega, getMap hx⟩, ?_⟩
      (conv => whnf)
      refine ⟨_, appL (f := Inp.enc) (xs := archs (il.take k)) (ys := [x]) (zs := archs (il.take (k + 1))) rfl rfl (fun _ => rfl) hst.symm (by show _ * 120 ≤ _; have hz' : (archs (il.take (k + 1))).length ≤ k + 1 := hz; omega), ?_⟩
      (conv => whnf)
      refine ⟨_, add64 (c := ((k + 1 : Nat) : Int)) (by (try simp only []); omega) (by omega), ?_⟩
      (conv => whnf)
      refine ⟨k + 1, ⟨by omega, by simp only []; omega⟩, ?_⟩
      (repeat' (first | exact trivial | exact Wk.refl _ | exact ObWk.refl _ | exact rfl | exact ⟨_, rfl⟩ | exact Nat.zero_lt_one | refine And.intro ?_ ?_ | unfold okTo | (unfold okO; conv => whnf) | (unfold okS; conv => whnf) | (unfold SlotOk; conv => whnf) | (unfold ObjOk; conv => whnf) | (unfold okCells; conv => whnf) | (unfold liveTo; conv => whnf) | exact Nat.zero_lt_succ _))
     ·have hst : archs (il.take (k + 1)) = archs (il.take k) := filter_f hx ha
      (conv => whnf)
      refine ⟨_, add64 (c := ((k + 1 : Nat) : Int)) (by (try simp only []); omega) (by omega), ?_⟩
      (conv => whnf)
      refine ⟨k + 1, ⟨by omega, by simp only []; omega⟩, ?_⟩
      dsimp only
      rw [hst]
      (repeat' (first | exact trivial | exact Wk.refl _ | exact ObWk.refl _ | exact rfl | exact ⟨_, rfl⟩ | exact Nat.zero_lt_one | refine And.intro ?_ ?_ | unfold okTo | (unfold okO; conv => whnf) | (unfold okS; conv => whnf) | (unfold SlotOk; conv => whnf) | (unfold ObjOk; conv => whnf) | (unfold okCells; conv => whnf) | (unfold liveTo; conv => whnf) | exact Nat.zero_lt_succ _))
    ·have hge : il.length ≤ k := by have := of_decide_eq_false h; rw [List.length_map] at this; omega
     have e3 : il.take k = il := List.take_of_length_le hge
     have FA' : FCall Tryd.prog Gl 15 [LIp (archs (il.take k))] [] (LIpn (archs il)) [] := by rw [e3]; exact FA
     (conv => whnf)
     refine split_intro (fun h1 => absurd (of_decide_eq_true h1) (by omega)) (fun _ => ?_)
     (conv => whnf)
     refine CallLeaf.wa (M) rfl ?_
     (conv => whnf)
     refine ⟨_, add64 (c := ((memG il + 1 : Nat) : Int)) (by (try simp only []); omega) (by omega), ?_⟩
     (conv => whnf)
     refine split_intro (fun h1 => absurd (of_decide_eq_true h1) (by omega)) (fun _ => ?_)
     (conv => whnf)
     refine CallLeaf.wa (FW) rfl ?_
     (conv => whnf)
     refine CallLeaf.oa [2048] (C) rfl rfl rfl rfl ?_
     (conv => whnf)
     refine CallLeaf.wa (FA') rfl ?_
     (conv => whnf)
     refine CallLeaf.oa [2048] (G2) rfl rfl rfl rfl ?_
     (conv => whnf)
     refine CallLeaf.oa [2048] (U) rfl rfl rfl rfl ?_
     (conv => whnf)
     refine CallLeaf.wa (SU) rfl ?_
     (conv => whnf)
     exact Wk.bool (by simp)
theorem groupSingle_ (l : List Ob.Obj) (x : List Mem) (hx : ∀ m ∈ x, OkM m) : FCall Tryd.prog Gl 5 [LO l, LM x] [] (vB true) [] := by
 have I := inputs_ [⟨true, x, ⟨[], []⟩⟩] (fun y hy m hm => by simp at hy; subst hy; exact hx m hm)
 refine FCall.enterL hT hmix [] Tryd.func5 rfl rfl rfl fun hbd => ?_
 cases hv : (inputsR [⟨true, x, ⟨[], []⟩⟩]).2 with
 | false =>
  rw [hv] at I
  generalize (inputsR [⟨true, x, ⟨[], []⟩⟩]).1 = v at I
  (conv => whnf)
  refine CallLeaf.w (by repeat' (first | exact ArgsTo.nil | refine ArgsTo.cons ?_ ?_ | exact ArgTo.mk' rfl (Wk.refl _) | exact ArgTo.mk' rfl (Wk.listW (by (repeat' (first | exact WkLL.nil | refine WkLL.cons ?_ rfl ?_ | exact Wks.nil | refine Wks.cons ?_ ?_ | exact Wk.refl _ | exact Wk.nil | exact Wk.list _ _))) rfl))) (I) rfl ?_
  (conv => whnf)
  refine CallLeaf.wa (awake_20_) rfl ?_
  (((conv => whnf)); (refine CallLeaf.wa (awake_20_) rfl ?_); ((conv => whnf)); exact Wk.refl _)
 | true =>
  obtain ⟨e1, gd⟩ := inputs_good hv
  rw [hv, e1] at I
  obtain ⟨y, hy, hya⟩ : ∃ y : Inp, insL 0 [⟨true, x, ⟨[], []⟩⟩] = [y] ∧ y.arch = true := ⟨_, rfl, rfl⟩
  rw [hy] at I gd
  have hmg := gd.mg
  have hmga := gd.mga
  have hyI := gd.ok y (by simp)
  have hym := gd.mem y (by simp)
  (conv => whnf)
  refine CallLeaf.w (by repeat' (first | exact ArgsTo.nil | refine ArgsTo.cons ?_ ?_ | exact ArgTo.mk' rfl (Wk.refl _) | exact ArgTo.mk' rfl (Wk.listW (by (repeat' (first | exact WkLL.nil | refine WkLL.cons ?_ rfl ?_ | exact Wks.nil | refine Wks.cons ?_ ?_ | exact Wk.refl _ | exact Wk.nil | exact Wk.list _ _))) rfl))) (I) rfl ?_
  (conv => whnf)
  refine CallLeaf.wa (awake_20_) rfl ?_
  (conv => whnf)
  refine CallLeaf.wa (right_ l) rfl ?_
  (conv => whnf)
  refine split_intro (fun hr => ?_) (fun hr => ?_)
  ·(((conv => whnf)); (refine CallLeaf.wa (awake_20_) rfl ?_); ((conv => whnf)); exact Wk.refl _)
  ·have hR := not_f hr
   have FW := forward20_ [y] (by simp)
   have okl := ldO_ok' (f := [111]) hR
   have G1 := gload_ (ldO [111] l) 12 [y] 61 (by omega) (by simp) (by omega) (by omega) okl gd.ok
   have e2 : grp [y] 61 (ldO [111] l) = arch y.name y.view 61 (ldO [111] l) := by
    unfold grp
    rw [show objs [y] = [] by simp [objs, hya], show archs [y] = [y] by simp [archs, hya]]
    exact rounds_one y 61 _
   rw [e2] at G1
   have A := archS_ y.name y.view (ldO [111] l) 61 12 (by have := lft_le y.name y.view (ldO [111] l); omega) (by omega) okl hyI.v hyI.n
   have ok2 := OkS.arch hyI.v hyI.n 61 okl
   have U := unitsS_ (arch y.name y.view 61 (ldO [111] l)).1 (by have := ok2.len; have := ok2.us; have := lft_le y.name y.view (ldO [111] l); omega)
   have SU := sameU_ (arch y.name y.view 61 (ldO [111] l)).1.us (arch y.name y.view 61 (ldO [111] l)).1.us
   have L := FCall.wk (lload20_ l hR) (Wk.refl _)
   (conv => whnf)
   refine CallLeaf.oa [2048] (L) rfl rfl rfl rfl ?_
   (conv => whnf)
   refine CallLeaf.oa [2560] (L) rfl rfl rfl rfl ?_
   (conv => whnf)
   refine CallLeaf.wa (FW) rfl ?_
   (conv => whnf)
   refine CallLeaf.oa [2048] (G1) rfl rfl rfl rfl ?_
   (conv => whnf)
   refine ⟨_, ⟨by decide, getMap (get1 y)⟩, ?_⟩
   (conv => whnf)
   refine ⟨_, ⟨by decide, getMap (get1 y)⟩, ?_⟩
   (conv => whnf)
   refine CallLeaf.oa [2560] (A) rfl rfl rfl rfl ?_
   (conv => whnf)
   refine split_intro (fun _ => ?_) (fun h => by simp at h)
   (conv => whnf)
   refine CallLeaf.oa [2048] (U) rfl rfl rfl rfl ?_
   (conv => whnf)
   refine CallLeaf.oa [2560] (U) rfl rfl rfl rfl ?_
   (conv => whnf)
   refine CallLeaf.wa (SU) rfl ?_
   (conv => whnf)
   exact Wk.bool (by simp)
end Go.Proofs.YtfbmknghfhancaaDoor

namespace Go.Proofs.YtfbmknghfhancaaDoor
open Go Go.AL Go.AL.Bd Go.AL.Tb Go.AL.Sc Go.AL.Gp
open Go.ChangeShapes Go.WideShapes Go.ChangeAt Go.RowKit
set_option maxRecDepth 100000
theorem own : ownKnob Tryd.prog.godebug = none := by kernel_rfl
theorem laidOut : laidOutB Tryd.prog = true := by kernel_rfl
abbrev laidL {H : Type} : List (String × DataW H) := [("arlink/bind.strength", Rows.laid_arlink_bind_strength)]
abbrev doorSteps : Nat := 400
theorem door_met (os : Os) (args : Array Value) : laidMetH Tryd.prog laidL ((World.doorLaid Tryd.prog doorSteps os).forCall (fun _ _ => 0) ⟨#[], args, []⟩).memory :=
 laidMetH_of_parts3 (fuel := 8) (laidMet_of_run' 8 (by kernel_rfl) (by kernel_rfl)) (by kernel_rfl) (by kernel_rfl)
theorem gStrength : Tryd.prog.globalNamed "arlink/bind.strength" = some 0 := by kernel_rfl
theorem tStrength : (Tryd.prog.globals[0]?).map (·.type) = some 178 := by kernel_rfl
theorem globOk {W : World} (h : laidMetH Tryd.prog laidL W) : GlobOk Gl W := by
 rw [MakeChecks.laidMetH_plain _ _ _ (by kernel_rfl)] at h
 have hT := Lib.tabIs_of_head (P := Tryd.prog) (W := W) (name := "arlink/bind.strength") (k := .i64) (zs := [0, 3, 1, 2, 0, 0]) (rest := []) gStrength tStrength Tryd.underlying178 Tryd.underlying3 (by kernel_rfl) (by kernel_rfl) h
 intro g j hj
 by_cases hg : g = 0
 ·subst hg
  have hj' : j < 6 := hj
  have hc := hT.cell gStrength j hj'
  rw [cell?_eq] at hc
  refine ⟨_, hc, ?_, ?_⟩
  ·have : j = 0 ∨ j = 1 ∨ j = 2 ∨ j = 3 ∨ j = 4 ∨ j = 5 := by omega
   rcases this with rfl | rfl | rfl | rfl | rfl | rfl <;> exact .v _
  ·have : j = 0 ∨ j = 1 ∨ j = 2 ∨ j = 3 ∨ j = 4 ∨ j = 5 := by omega
   rcases this with rfl | rfl | rfl | rfl | rfl | rfl <;> rfl
 ·exfalso
  have : Gl g = [] := by
   first
    | (simp only [Gl]; done)
    | (simp only [Gl]; split; all_goals first | rfl | simp_all)
    | simp_all [Gl]
  rw [this] at hj; (try simp at hj)

theorem sym_of {n : Nat} {ds : List D} (h : Rd Tryd.prog (n + 2) 86 ds) : ∃ e : Ob.Sym, ds = e.enc := by
 simp only [Rd, Tryd.underlying86, Tryd.underlying3, Tryd.underlying9, RdFs] at h
 obtain ⟨a, b, rfl, ⟨s, _, rfl⟩, a2, b2, rfl, ⟨x, _, rfl⟩, a3, b3, rfl, ⟨y, _, rfl⟩, a4, b4, rfl, ⟨z, _, rfl⟩, rfl⟩ := h
 exact ⟨⟨s, x, y, z⟩, rfl⟩
theorem byte_of {n : Nat} {ds : List D} (h : Rd Tryd.prog (n + 1) 5 ds) : ∃ u : UInt8, ds = byteD u := by
 simp only [Rd, Tryd.underlying5] at h
 obtain ⟨x, hw, rfl⟩ := h
 simp [Lit.wf] at hw
 have h1 : IntKind.u8.min = 0 := rfl
 have h2 : IntKind.u8.max = 255 := rfl
 obtain ⟨m, rfl⟩ := Int.eq_ofNat_of_zero_le (show 0 ≤ x by omega)
 refine ⟨UInt8.ofNat m, ?_⟩
 simp only [byteD, List.cons.injEq, and_true, D.v.injEq, Value.int.injEq, true_and]
 simp; omega
theorem obj_of {n : Nat} {ds : List D} (h : Rd Tryd.prog (n + 5) 49 ds) : ∃ o : Ob.Obj, ds = Oe o := by
 rw [show n + 5 = (n + 4) + 1 from rfl, Rd, Tryd.underlying49] at h
 simp only [RdFs] at h
 obtain ⟨a, b, rfl, h1, a2, b2, rfl, h2, rfl⟩ := h
 obtain ⟨l, rfl⟩ := list_of' (n := n + 3) (f := Ob.Sym.enc) Tryd.underlying46 (fun x => sym_of (n := n + 1)) h1
 obtain ⟨x, rfl⟩ := list_of' (n := n + 3) (f := byteD) Tryd.underlying47 (fun x => byte_of (n := n + 2)) h2
 exact ⟨⟨l, x⟩, rfl⟩
theorem arg_LO {ds : List D} (h : Rd Tryd.prog 8 22 ds) : ∃ l : List Ob.Obj, True ∧ argD Tryd.prog 22 ds = LO l := by
 obtain ⟨l, e⟩ := list_of (f := Oe) Tryd.underlying22 (fun x => obj_of (n := 2)) h
 exact ⟨l, trivial, e⟩
theorem arg_sD {ds : List D} (h : Rd Tryd.prog 8 9 ds) : ∃ s : Str, True ∧ argD Tryd.prog 9 ds = sD s := by
 simp only [Rd, Tryd.underlying9] at h
 obtain ⟨s, _, rfl⟩ := h
 refine ⟨s, trivial, ?_⟩
 simp only [argD, Tryd.underlying9]
theorem arg_u8 {ds : List D} (h : Rd Tryd.prog 8 5 ds) : ∃ n : Nat, n ≤ 255 ∧ argD Tryd.prog 5 ds = .v (.int .u8 (n : Int)) := by
 obtain ⟨x, h1, h2⟩ := arg_u8' (n := 7) Tryd.underlying5 h
 obtain ⟨m, rfl⟩ := Int.eq_ofNat_of_zero_le h1.1
 exact ⟨m, by omega, h2⟩
theorem strs_of {n : Nat} {ds : List D} (h : Rd Tryd.prog (n + 1) 9 ds) : ∃ s : Str, ds = eS s := by
 simp only [Rd, Tryd.underlying9] at h
 obtain ⟨s, hs, rfl⟩ := h
 exact ⟨_, rfl⟩
theorem arg_LS {ds : List D} (h : Rd Tryd.prog 8 105 ds) : ∃ l : List Str, True ∧ argD Tryd.prog 105 ds = LS l := by
 obtain ⟨l, e⟩ := list_of (f := eS) Tryd.underlying105 (fun x => strs_of (n := 6)) h
 exact ⟨l, trivial, e⟩

theorem list_ofP {n : Nat} {α : Type} {f : α → List D} {p : α → Prop} {e t : TypeId} {ds : List D} (hu : Tryd.prog.underlying t = some (.slice e)) (he : ∀ x, Rd Tryd.prog n e x → ∃ y, p y ∧ x = f y) (h : Rd Tryd.prog (n + 1) t ds) :
  ∃ l : List α, (∀ a ∈ l, p a) ∧ l.length * Tryd.prog.bytesOf e ≤ 140737488351232 ∧ ds = [.list .any (l.map f)] ∧ argD Tryd.prog t ds = .list .any (l.map f) := by
 simp only [Rd, hu] at h
 obtain ⟨xs, rfl, hb, hx⟩ := h
 have hc : ∀ x : { x // x ∈ xs }, ∃ y, p y ∧ x.1 = f y := fun x => he x.1 (hx x.1 x.2)
 have hm : (xs.attach.map fun x => (hc x).choose).map f = xs := by
  rw [List.map_map]
  have : (xs.attach.map (f ∘ fun x => (hc x).choose)) = xs.attach.map (fun x => x.1) := List.map_congr_left fun x _ => ((hc x).choose_spec).2.symm
  rw [this, List.attach_map_subtype_val]
 refine ⟨xs.attach.map fun x => (hc x).choose, fun a ha => ?_, by simpa using hb, by rw [hm], ?_⟩
 ·obtain ⟨x, _, rfl⟩ := List.mem_map.1 ha
  exact ((hc x).choose_spec).1
 ·rw [hm]; simp only [argD, hu]
theorem i64_of {x : Int} (h : (Lit.int .i64 x).wf = true) : x ≤ 9223372036854775807 := by
 have m1 : IntKind.i64.min = -9223372036854775808 := rfl
 have m2 : IntKind.i64.max = 9223372036854775807 := rfl
 simp only [Lit.wf, m1, m2, Bool.and_eq_true, decide_eq_true_eq] at h
 exact h.2
theorem bytes_u8 : Tryd.prog.bytesOf 5 = 1 := by kernel_rfl
theorem mem_of {n : Nat} {ds : List D} (h : Rd Tryd.prog (n + 5) 92 ds) : ∃ m : Mem, OkM m ∧ ds = m.enc := by
 rw [show n + 5 = (n + 4) + 1 from rfl, Rd, Tryd.underlying92] at h
 simp only [RdFs] at h
 obtain ⟨a, b, rfl, h1, a2, b2, rfl, h2, a3, b3, rfl, h3, a4, b4, rfl, h4, a5, b5, rfl, h5, a6, b6, rfl, h6, rfl⟩ := h
 simp only [Rd, Tryd.underlying9] at h1
 simp only [Rd, Tryd.underlying3] at h2 h3 h4 h5
 obtain ⟨s, hs, rfl⟩ := h1
 obtain ⟨x2, w2, rfl⟩ := h2
 obtain ⟨x3, w3, rfl⟩ := h3
 obtain ⟨x4, w4, rfl⟩ := h4
 obtain ⟨x5, w5, rfl⟩ := h5
 obtain ⟨d, _, hd, rfl, _⟩ := list_ofP (n := n + 3) (f := byteD) (p := fun _ => True) Tryd.underlying47 (fun x hx => by
  obtain ⟨u, e⟩ := byte_of (n := n + 2) hx
  exact ⟨u, trivial, e⟩) h6
 rw [bytes_u8, Nat.mul_one] at hd
 exact ⟨⟨s, x2, x3, x4, x5, d⟩, ⟨hs, hd, i64_of w2, i64_of w3, i64_of w4, i64_of w5⟩, rfl⟩
theorem arg_LM {ds : List D} (h : Rd Tryd.prog 8 50 ds) : ∃ l : List Mem, (∀ m ∈ l, OkM m) ∧ argD Tryd.prog 50 ds = LM l := by
 obtain ⟨l, h1, _, _, e⟩ := list_ofP (n := 7) (f := Mem.enc) (p := OkM) Tryd.underlying50 (fun x hx => mem_of (n := 2) hx) h
 exact ⟨l, h1, e⟩
theorem fil_of {n : Nat} {ds : List D} (h : Rd Tryd.prog (n + 7) 66 ds) : ∃ x : Fil, (∀ m ∈ x.members, OkM m) ∧ ds = x.enc := by
 rw [show n + 7 = (n + 6) + 1 from rfl, Rd, Tryd.underlying66] at h
 simp only [RdFs] at h
 obtain ⟨a, b, rfl, h1, a2, b2, rfl, h2, a3, b3, rfl, h3, rfl⟩ := h
 simp only [Rd, Tryd.underlying4] at h1
 obtain ⟨q, rfl⟩ := h1
 obtain ⟨ms, hm, _, rfl, _⟩ := list_ofP (n := n + 5) (f := Mem.enc) (p := OkM) Tryd.underlying50 (fun x hx => mem_of (n := n) hx) h2
 obtain ⟨o, rfl⟩ := obj_of (n := n + 1) h3
 exact ⟨⟨q, ms, o⟩, hm, rfl⟩
theorem arg_LF {ds : List D} (h : Rd Tryd.prog 8 23 ds) : ∃ l : List Fil, (∀ x ∈ l, ∀ m ∈ x.members, OkM m) ∧ argD Tryd.prog 23 ds = LF l := by
 obtain ⟨l, h1, _, _, e⟩ := list_ofP (n := 7) (f := Fil.enc) (p := fun x => ∀ m ∈ x.members, OkM m) Tryd.underlying23 (fun x hx => fil_of (n := 0) hx) h
 exact ⟨l, h1, e⟩
end Go.Proofs.YtfbmknghfhancaaDoor

namespace Go.Proofs.YtfbmknghfhancaaDoor
open Go Go.AL Go.AL.Bd Go.AL.Tb Go.AL.Sc Go.AL.Gp
set_option maxRecDepth 100000
set_option maxHeartbeats 4000000
theorem sl1 {l : List Inp} {k : Nat} {x : Inp} (h : l[k]? = some x) : ((l.map Inp.enc).take (((k + 1 : Nat) : Int)).toNat).drop ((k : Nat) : Int).toNat = ([x] : List Inp).map Inp.enc := by
 rw [Int.toNat_natCast, Int.toNat_natCast, List.take_add_one]
 have h1 : (l.map Inp.enc)[k]? = some x.enc := by simp [h]
 have h2 : ((l.map Inp.enc).take k).length = k := by
  have := (List.getElem?_eq_some_iff.1 h).1
  rw [List.length_take, List.length_map]; omega
 rw [h1, Option.toList_some, List.drop_append_of_le_length (by omega), List.drop_of_length_le (by omega)]
 rfl
theorem groupMatches_ (l : List Ob.Obj) (fs : List Fil) (hfs : ∀ x ∈ fs, ∀ m ∈ x.members, OkM m) : FCall Tryd.prog Gl 7 [LO l, LF fs] [] (vB true) [] := by
 have I := inputs_ fs hfs
 refine FCall.enterL hT hmix [] Tryd.func7 rfl rfl rfl fun hbd => ?_
 cases hv : (inputsR fs).2 with
 | false =>
  rw [hv] at I
  generalize (inputsR fs).1 = v at I
  (conv => whnf)
  refine CallLeaf.wa (I) rfl ?_
  (conv => whnf)
  refine CallLeaf.wa (awake_20_) rfl ?_
  (((conv => whnf)); (refine CallLeaf.wa (awake_20_) rfl ?_); ((conv => whnf)); exact Wk.refl _)
 | true =>
  obtain ⟨e1, gd⟩ := inputs_good hv
  rw [hv, e1] at I
  generalize insL 0 fs = il at *
  have hl := gd.len
  have hmg := gd.mg
  have hmga := gd.mga
  (conv => whnf)
  refine CallLeaf.wa (I) rfl ?_
  (conv => whnf)
  refine CallLeaf.wa (awake_20_) rfl ?_
  (conv => whnf)
  refine CallLeaf.wa (right_ l) rfl ?_
  (conv => whnf)
  refine split_intro (fun hr => ?_) (fun hr => ?_)
  ·(((conv => whnf)); (refine CallLeaf.wa (awake_20_) rfl ?_); ((conv => whnf)); exact Wk.refl _)
  ·have hR := not_f hr
   have FW := forward20_ il (by omega)
   have okl := ldO_ok' (f := [111]) hR
   have okL := okl.okL (by omega)
   have inv0 := ldO_invG gd l
   have C0 := gcan_ (ldO [111] l) 12 (by omega) okl il (by omega) gd.ok
   have R0 := rgcan_ (ldO [111] l) il 12 (by omega) gd.ok (fun x hx => inv0 x (List.mem_filter.1 hx).1) okL
   have G1 := gitemG_ (ldO [111] l) 12 il 61 (by omega) (by omega) (by omega) (by omega) okl gd.ok
   have G2 := rgload_ (ldO [111] l) 12 il 61 (by omega) (by omega) (by omega) (by omega) okl gd.ok gd.dis (gd.inv inv0)
   have okg := grp_ok gd okl (F := 61) (by omega)
   have U := unitsS_ (grp il 61 (ldO [111] l)).1 (by have := okg.len; have := okg.us; omega)
   have SU := sameU_ (grp il 61 (ldO [111] l)).1.us (grp il 61 (ldO [111] l)).1.us
   have C1 := gcan_ (grp il 61 (ldO [111] l)).1 54 (by omega) okg il (by omega) gd.ok
   have R1 := rgcan_ (grp il 61 (ldO [111] l)).1 il 54 (by omega) gd.ok (grp_inv gd inv0) (okg.okL (by omega))
   have L := FCall.wk (lload20_ l hR) (Wk.refl _)
   have okI : ∀ k, OkS (itemsL 61 (il.take k) (ldO [111] l)) 60 := fun k => (itemsL_ok (fun x hx => gd.ok x (List.mem_of_mem_take hx)) 61 okl).mono (by
    have a : (il.take k).length ≤ 6 := Nat.le_trans (List.length_take_le' _ _) hl
    have b := memG_le (l := il.take k) (fun x hx => gd.mem x (List.mem_of_mem_take hx))
    omega)
   (conv => whnf)
   refine CallLeaf.oa [2048] (L) rfl rfl rfl rfl ?_
   (conv => whnf)
   refine CallLeaf.wa (FW) rfl ?_
   (conv => whnf)
   refine CallLeaf.oa [2048] (C0) rfl rfl rfl rfl ?_
   (conv => whnf)
   refine CallLeaf.wa (R0) rfl ?_
   (conv => whnf)
   refine split_intro (fun h => absurd h (by simp)) (fun _ => ?_)
   (conv => whnf)
   refine CallLeaf.wa (FW) rfl ?_
   (conv => whnf)
   refine CallLeaf.oa [2048] (G1) rfl rfl rfl rfl ?_
   (conv => whnf)
   refine CallLeaf.wa (G2) rfl ?_
   (conv => whnf)
   refine split_intro (fun h => absurd h (by simp)) (fun _ => ?_)
   (conv => whnf)
   refine CallLeaf.oa [2048] (U) rfl rfl rfl rfl ?_
   (conv => whnf)
   refine CallLeaf.wa (SU) rfl ?_
   (conv => whnf)
   refine split_intro (fun h => absurd h (by simp)) (fun _ => ?_)
   (conv => whnf)
   refine CallLeaf.wa (FW) rfl ?_
   (conv => whnf)
   refine CallLeaf.oa [2048] (C1) rfl rfl rfl rfl ?_
   (conv => whnf)
   refine CallLeaf.wa (R1) rfl ?_
   (conv => whnf)
   refine split_intro (fun h => absurd h (by simp)) (fun _ => ?_)
   (conv => whnf)
   refine CallLeaf.oa [6144] (L) rfl rfl rfl rfl ?_
   (conv => whnf)
   refine LWp.loop hT hmix [] (fun k : Nat => [(14, vI k)]) (fun k => [(6144, stB (itemsL 61 (il.take k) (ldO [111] l))), (6672, .cells [LUt (itemsL 61 (il.take k) (ldO [111] l)).us, LO (itemsL 61 (il.take k) (ldO [111] l)).os])]) (fun k => k ≤ il.length) (fun k => il.length - k) 0 (Nat.zero_le _) ?_
   (conv => whnf)
   refine ⟨?_, fun k hk => ?_⟩
   ·(repeat' (first | exact trivial | exact Wk.refl _ | exact ObWk.refl _ | exact rfl | exact ⟨_, rfl⟩ | exact Nat.zero_lt_one | refine And.intro ?_ ?_ | unfold okTo | (unfold okO; conv => whnf) | (unfold okS; conv => whnf) | (unfold SlotOk; conv => whnf) | (unfold ObjOk; conv => whnf) | (unfold okCells; conv => whnf) | (unfold liveTo; conv => whnf) | exact Nat.zero_lt_succ _))
   ·have okk := okI k
    (conv => whnf)
    refine split_intro (fun h => ?_) (fun h => ?_)
    ·have hlt : k < il.length := by have := of_decide_eq_true h; rw [List.length_map] at this; omega
     obtain ⟨x, hx⟩ := exI hlt
     have hxm := List.mem_of_getElem? hx
     have hxn := gd.mem x hxm
     have A := gitem1_ (itemsL 61 (il.take k) (ldO [111] l)) 60 x 61 (by omega) (by omega) okk (gd.ok x hxm)
     have B := ritem1_ (itemsL 61 (il.take k) (ldO [111] l)) 60 x 61 (by omega) (by omega) okk (gd.ok x hxm) (fun _ => itemsL_inv (gd.dis.take_ne hx) 61 (inv0 x hxm))
     rw [← itemsL_take hx] at A B
     have F1 := forward20_ [x] (by simp)
     (conv => whnf)
     refine ⟨_, add64 (c := ((k + 1 : Nat) : Int)) (by (try simp only []); omega) (by omega), ?_⟩
     (conv => whnf)
     refine ⟨_, ⟨by omega, by omega, by rw [List.length_map]; omega, fun c hc => (by obtain ⟨y, _, rfl⟩ := List.mem_map.1 hc; rfl), sl1 hx⟩, ?_⟩
     (conv => whnf)
     refine CallLeaf.wa (F1) rfl ?_
     (conv => whnf)
     refine CallLeaf.oa [6144] (A) rfl rfl rfl rfl ?_
     (conv => whnf)
     refine ⟨_, add64 (c := ((k + 1 : Nat) : Int)) (by (try simp only []); omega) (by omega), ?_⟩
     (conv => whnf)
     refine ⟨_, ⟨by omega, by omega, by rw [List.length_map]; omega, fun c hc => (by obtain ⟨y, _, rfl⟩ := List.mem_map.1 hc; rfl), sl1 hx⟩, ?_⟩
     (conv => whnf)
     refine CallLeaf.wa (B) rfl ?_
     (conv => whnf)
     refine split_intro (fun h => absurd h (by simp)) (fun _ => ?_)
     (conv => whnf)
     refine ⟨_, add64 (c := ((k + 1 : Nat) : Int)) (by (try simp only []); omega) (by omega), ?_⟩
     (conv => whnf)
     refine ⟨k + 1, ⟨by omega, by simp only []; omega⟩, ?_⟩
     (repeat' (first | exact trivial | exact Wk.refl _ | exact ObWk.refl _ | exact rfl | exact ⟨_, rfl⟩ | exact Nat.zero_lt_one | refine And.intro ?_ ?_ | unfold okTo | (unfold okO; conv => whnf) | (unfold okS; conv => whnf) | (unfold SlotOk; conv => whnf) | (unfold ObjOk; conv => whnf) | (unfold okCells; conv => whnf) | (unfold liveTo; conv => whnf) | exact Nat.zero_lt_succ _))
    ·have U2 := unitsS_ (itemsL 61 (il.take k) (ldO [111] l)) (by have := okk.len; have := okk.us; omega)
     have SU2 := sameU_ (itemsL 61 (il.take k) (ldO [111] l)).us (itemsL 61 (il.take k) (ldO [111] l)).us
     (conv => whnf)
     refine CallLeaf.oa [6144] (U2) rfl rfl rfl rfl ?_
     (conv => whnf)
     refine CallLeaf.wa (SU2) rfl ?_
     (conv => whnf)
     exact Wk.bool (by simp)
theorem twice_ (l : List Inp) (hl : l.length ≤ 6) (hv : ∀ x ∈ l, x.view.defs.length ≤ 12 ∧ ∀ d ∈ x.view.defs, d.length ≤ 100) : FCall Tryd.prog Gl 23 [LIp l] [] (vB (!decide (flatD l).Nodup)) [] := by
 have hf1 : ∀ (ds : List (List Str)), ds.length ≤ 12 → (∀ d ∈ ds, d.length ≤ 100) → ds.flatten.length ≤ 1200 := fun ds h1 h2 => by
  have : ds.flatten.length ≤ 100 * ds.length := by
   clear h1
   induction ds with
   | nil => simp
   | cons d ds ih =>
    have := ih fun y hy => h2 y (by simp [hy])
    have := h2 d (by simp)
    simp only [List.flatten_cons, List.length_append, List.length_cons]; omega
  omega
 have hf2 : ∀ i, (flatD (l.take i)).length ≤ 7200 := fun i => by
  have h3 : (l.take i).length ≤ 6 := Nat.le_trans (List.length_take_le' _ _) hl
  have h4 : ∀ m : List Inp, (∀ x ∈ m, x ∈ l) → (flatD m).length ≤ 1200 * m.length := fun m => by
   induction m with
   | nil => intro _; simp [flatD]
   | cons x m ih =>
    intro hm
    have a := ih fun y hy => hm y (by simp [hy])
    have b := hf1 x.view.defs (hv x (hm x (by simp))).1 (hv x (hm x (by simp))).2
    have e : flatD (x :: m) = x.view.defs.flatten ++ flatD m := rfl
    rw [e]
    simp only [List.length_append, List.length_cons]; omega
  have := h4 (l.take i) (fun x hx => List.mem_of_mem_take hx)
  omega
 refine FCall.enterL hT hmix [] Tryd.func23 rfl rfl rfl fun hbd => ?_
 (conv => whnf)
 refine LWp.loop hT hmix [] (fun i : Nat => [(4, vI i), (3, .list (.tok 403) ((flatD (l.take i)).map eS))]) (fun i => [(403, .tok ((flatD (l.take i)).map eS).length 1)]) (fun i => i ≤ l.length ∧ (flatD (l.take i)).Nodup) (fun i => l.length - i) 0 ⟨Nat.zero_le _, List.nodup_nil⟩ ?_
 (conv => whnf)
 refine ⟨?_, fun i ⟨hi, hin⟩ => ?_⟩
 ·(repeat' (first | exact trivial | exact Wk.refl _ | exact ObWk.refl _ | exact rfl | exact ⟨_, rfl⟩ | exact Nat.zero_lt_one | refine And.intro ?_ ?_ | unfold okTo | (unfold okO; conv => whnf) | (unfold okS; conv => whnf) | (unfold SlotOk; conv => whnf) | (unfold ObjOk; conv => whnf) | (unfold okCells; conv => whnf) | (unfold liveTo; conv => whnf) | exact Nat.zero_lt_succ _))
 ·have hfi := hf2 i
  (conv => whnf)
  refine split_intro (fun h => ?_) (fun h => ?_)
  ·have hlt : i < l.length := by have := of_decide_eq_true h; rw [List.length_map] at this; omega
   obtain ⟨x, hx⟩ := exI hlt
   obtain ⟨hxd, hxs⟩ := hv x (List.mem_of_getElem? hx)
   (conv => whnf)
   refine LWp.loop hT hmix [] (fun j : Nat => [(5, vI j), (3, .list (.tok 403) ((pre l i x.view.defs j [] 0).map eS))]) (fun j => [(403, .tok ((pre l i x.view.defs j [] 0).map eS).length 1)]) (fun j => j ≤ x.view.defs.length ∧ (pre l i x.view.defs j [] 0).Nodup) (fun j => x.view.defs.length - j) 0 ⟨Nat.zero_le _, by simpa [pre] using hin⟩ ?_
   (conv => whnf)
   refine ⟨?_, fun j ⟨hj, hjn⟩ => ?_⟩
   ·(repeat' (first | exact trivial | exact Wk.refl _ | exact ObWk.refl _ | exact rfl | exact ⟨_, rfl⟩ | exact Nat.zero_lt_one | refine And.intro ?_ ?_ | unfold okTo | (unfold okO; conv => whnf) | (unfold okS; conv => whnf) | (unfold SlotOk; conv => whnf) | (unfold ObjOk; conv => whnf) | (unfold okCells; conv => whnf) | (unfold liveTo; conv => whnf) | exact Nat.zero_lt_succ _))
    ·exact ObWk.of_eq (by simp [pre])
    ·exact Wk.of_eq (by simp [pre]; rfl)
   ·(conv => whnf)
    refine ⟨_, ⟨by omega, getMap hx⟩, ?_⟩
    (conv => whnf)
    refine split_intro (fun h2 => ?_) (fun h2 => ?_)
    ·have hlt2 : j < x.view.defs.length := by have := of_decide_eq_true h2; rw [List.length_map] at this; omega
     obtain ⟨d, hd⟩ := exI hlt2
     have hds := hxs d (List.mem_of_getElem? hd)
     have hpl : ∀ k, k ≤ d.length → (pre l i x.view.defs j d k).length ≤ 9000 := fun k hk => by
      have a := hf1 (x.view.defs.take j) (by rw [List.length_take]; omega) (fun y hy => hxs y (List.mem_of_mem_take hy))
      simp only [pre, List.length_append, List.length_take]
      omega
     (conv => whnf)
     refine LWp.loop hT hmix [] (fun k : Nat => [(6, vI k), (3, .list (.tok 403) ((pre l i x.view.defs j d k).map eS))]) (fun k => [(403, .tok ((pre l i x.view.defs j d k).map eS).length 1)]) (fun k => k ≤ d.length ∧ (pre l i x.view.defs j d k).Nodup) (fun k => d.length - k) 0 ⟨Nat.zero_le _, by simpa [pre] using hjn⟩ ?_
     (conv => whnf)
     refine ⟨?_, fun k ⟨hk, hkn⟩ => ?_⟩
     ·(repeat' (first | exact trivial | exact Wk.refl _ | exact ObWk.refl _ | exact rfl | exact ⟨_, rfl⟩ | exact Nat.zero_lt_one | refine And.intro ?_ ?_ | unfold okTo | (unfold okO; conv => whnf) | (unfold okS; conv => whnf) | (unfold SlotOk; conv => whnf) | (unfold ObjOk; conv => whnf) | (unfold okCells; conv => whnf) | (unfold liveTo; conv => whnf) | exact Nat.zero_lt_succ _))
     ·(conv => whnf)
      refine ⟨_, ⟨by omega, getMap hx⟩, ?_⟩
      (conv => whnf)
      refine ⟨_, ⟨by omega, getMap hd⟩, ?_⟩
      (conv => whnf)
      refine split_intro (fun h3 => ?_) (fun h3 => ?_)
      ·have hlt3 : k < d.length := by have := of_decide_eq_true h3; rw [List.length_map] at this; omega
       obtain ⟨s, hs⟩ := exI hlt3
       have hnext := pre_next (l := l) (i := i) (j := j) (ds := x.view.defs) hs
       have hp1 := hpl (k + 1) (by omega)
       have hdup := dup_at hx hd hs
       obtain ⟨N, hN⟩ : ∃ N, N = pre l i x.view.defs j d k := ⟨_, rfl⟩
       rw [← hN] at hnext hkn hdup
       have hNl : N.length ≤ 9000 := by rw [hN]; exact hpl k (by omega)
       (conv => whnf)
       refine LWp.loop hT hmix [] (fun t : Nat => [(7, vI t)]) (fun _ => []) (fun t => t ≤ N.length ∧ ¬ s ∈ N.take t) (fun t => N.length - t) 0 ⟨Nat.zero_le _, by simp⟩ ?_
       (conv => whnf)
       refine ⟨?_, fun t ⟨ht, htn⟩ => ?_⟩
       ·(repeat' (first | exact trivial | exact Wk.refl _ | exact ObWk.refl _ | exact rfl | exact ⟨_, rfl⟩ | exact Nat.zero_lt_one | refine And.intro ?_ ?_ | unfold okTo | (unfold okO; conv => whnf) | (unfold okS; conv => whnf) | (unfold SlotOk; conv => whnf) | (unfold ObjOk; conv => whnf) | (unfold okCells; conv => whnf) | (unfold liveTo; conv => whnf) | exact Nat.zero_lt_succ _))
       ·(conv => whnf)
        refine split_intro (fun h4 => ?_) (fun h4 => ?_)
        ·have hlt4 : t < N.length := by rw [hN]; have := of_decide_eq_true h4; rw [List.length_map] at this; omega
         obtain ⟨u, hu⟩ := exI hlt4
         have hu' := hu
         rw [hN] at hu'
         (conv => whnf)
         refine ⟨_, ⟨by omega, getMap hu'⟩, ?_⟩
         (conv => whnf)
         refine ⟨_, ⟨by omega, getMap hx⟩, ?_⟩
         (conv => whnf)
         refine ⟨_, ⟨by omega, getMap hd⟩, ?_⟩
         (conv => whnf)
         refine ⟨_, ⟨by omega, getMap hs⟩, ?_⟩
         (conv => whnf)
         refine split_intro (fun h5 => ?_) (fun h5 => ?_)
         ·have he : u = s := by simpa using h5
          have hnd := hdup (by rw [← he]; exact List.mem_of_getElem? hu)
          rw [decide_eq_false hnd]
          (conv => whnf)
          exact Wk.refl _
         ·have he : ¬ u = s := by simpa using h5
          (conv => whnf)
          refine ⟨_, add64 (c := ((t + 1 : Nat) : Int)) (by (try simp only []); omega) (by omega), ?_⟩
          (conv => whnf)
          refine ⟨t + 1, ⟨⟨by omega, ?_⟩, by simp only []; omega⟩, ?_⟩
          ·rw [List.take_add_one, hu]
           simp only [Option.toList_some, List.mem_append, List.mem_singleton, not_or]
           exact ⟨htn, fun e => he e.symm⟩
          ·(repeat' (first | exact trivial | exact Wk.refl _ | exact ObWk.refl _ | exact rfl | exact ⟨_, rfl⟩ | exact Nat.zero_lt_one | refine And.intro ?_ ?_ | unfold okTo | (unfold okO; conv => whnf) | (unfold okS; conv => whnf) | (unfold SlotOk; conv => whnf) | (unfold ObjOk; conv => whnf) | (unfold okCells; conv => whnf) | (unfold liveTo; conv => whnf) | exact Nat.zero_lt_succ _))
        ·have hge4 : N.length ≤ t := by rw [hN]; have := of_decide_eq_false h4; rw [List.length_map] at this; omega
         rw [List.take_of_length_le hge4] at htn
         (conv => whnf)
         refine ⟨_, ⟨by omega, getMap hx⟩, ?_⟩
         (conv => whnf)
         refine ⟨_, ⟨by omega, getMap hd⟩, ?_⟩
         (conv => whnf)
         refine ⟨_, ⟨by omega, getMap hs⟩, ?_⟩
         (conv => whnf)
         refine ⟨_, appL (f := eS) (xs := pre l i x.view.defs j d k) (ys := [s]) (zs := pre l i x.view.defs j d (k + 1)) rfl rfl (fun _ => rfl) (by rw [hnext, hN]) (by show _ * 16 ≤ _; omega), ?_⟩
         (conv => whnf)
         refine ⟨_, add64 (c := ((k + 1 : Nat) : Int)) (by (try simp only []); omega) (by omega), ?_⟩
         (conv => whnf)
         refine ⟨k + 1, ⟨⟨by omega, by rw [hnext]; exact nodup_snoc hkn htn⟩, by simp only []; omega⟩, ?_⟩
         (repeat' (first | exact trivial | exact Wk.refl _ | exact ObWk.refl _ | exact rfl | exact ⟨_, rfl⟩ | exact Nat.zero_lt_one | refine And.intro ?_ ?_ | unfold okTo | (unfold okO; conv => whnf) | (unfold okS; conv => whnf) | (unfold SlotOk; conv => whnf) | (unfold ObjOk; conv => whnf) | (unfold okCells; conv => whnf) | (unfold liveTo; conv => whnf) | exact Nat.zero_lt_succ _))
      ·have hge3 : d.length ≤ k := by have := of_decide_eq_false h3; rw [List.length_map] at this; omega
       have e6 : pre l i x.view.defs j d k = pre l i x.view.defs (j + 1) [] 0 := by simp only [pre, List.take_of_length_le hge3, fl_at hd, List.take_nil, List.append_nil, List.append_assoc]
       (conv => whnf)
       refine ⟨_, add64 (c := ((j + 1 : Nat) : Int)) (by (try simp only []); omega) (by omega), ?_⟩
       (conv => whnf)
       refine ⟨j + 1, ⟨⟨by omega, by rw [← e6]; exact hkn⟩, by simp only []; omega⟩, ?_⟩
       dsimp only
       rw [← e6]
       (repeat' (first | exact trivial | exact Wk.refl _ | exact ObWk.refl _ | exact rfl | exact ⟨_, rfl⟩ | exact Nat.zero_lt_one | refine And.intro ?_ ?_ | unfold okTo | (unfold okO; conv => whnf) | (unfold okS; conv => whnf) | (unfold SlotOk; conv => whnf) | (unfold ObjOk; conv => whnf) | (unfold okCells; conv => whnf) | (unfold liveTo; conv => whnf) | exact Nat.zero_lt_succ _))
    ·have hge2 : x.view.defs.length ≤ j := by have := of_decide_eq_false h2; rw [List.length_map] at this; omega
     have e7 : pre l i x.view.defs j [] 0 = flatD (l.take (i + 1)) := by simp only [pre, List.take_of_length_le hge2, flatD_at hx, List.take_nil, List.append_nil]
     (conv => whnf)
     refine ⟨_, add64 (c := ((i + 1 : Nat) : Int)) (by (try simp only []); omega) (by omega), ?_⟩
     (conv => whnf)
     refine ⟨i + 1, ⟨⟨by omega, by rw [← e7]; exact hjn⟩, by simp only []; omega⟩, ?_⟩
     dsimp only
     rw [← e7]
     (repeat' (first | exact trivial | exact Wk.refl _ | exact ObWk.refl _ | exact rfl | exact ⟨_, rfl⟩ | exact Nat.zero_lt_one | refine And.intro ?_ ?_ | unfold okTo | (unfold okO; conv => whnf) | (unfold okS; conv => whnf) | (unfold SlotOk; conv => whnf) | (unfold ObjOk; conv => whnf) | (unfold okCells; conv => whnf) | (unfold liveTo; conv => whnf) | exact Nat.zero_lt_succ _))
  ·have hge : l.length ≤ i := by have := of_decide_eq_false h; rw [List.length_map] at this; omega
   rw [List.take_of_length_le hge] at hin
   rw [decide_eq_true hin]
   (conv => whnf)
   exact Wk.refl _
end Go.Proofs.YtfbmknghfhancaaDoor

namespace Go.Proofs.YtfbmknghfhancaaDoor
open Go Go.AL Go.AL.Bd Go.AL.Tb Go.AL.Sc
set_option maxRecDepth 100000
set_option maxHeartbeats 4000000
theorem sameM_ (a b : Mem) : FCall Tryd.prog Gl 83 [.agg a.enc, .agg b.enc] [] (vB (decide (a = b))) [] := by
 obtain ⟨a1, a2, a3, a4, a5, a6⟩ := a
 obtain ⟨b1, b2, b3, b4, b5, b6⟩ := b
 have S := O.same_ a6 b6
 refine FCall.enterL hT hmix [] Tryd.func83 rfl rfl rfl fun hbd => ?_
 (conv => whnf)
 refine split_intro (fun h1 => ?_) (fun h1 => ?_)
 ·(conv => whnf)
  refine split_intro (fun h2 => ?_) (fun h2 => ?_)
  ·(conv => whnf)
   refine split_intro (fun h3 => ?_) (fun h3 => ?_)
   ·(conv => whnf)
    refine split_intro (fun h4 => ?_) (fun h4 => ?_)
    ·(conv => whnf)
     refine split_intro (fun h5 => ?_) (fun h5 => ?_)
     ·(conv => whnf)
      refine CallLeaf.wa (S) rfl ?_
      (conv => whnf)
      exact Wk.bool (by simp at h1 h2 h3 h4 h5; rw [decide_eq_decide]; simp [h1, h2, h3, h4, h5])
     ·(conv => whnf)
      exact Wk.bool (by simp at h1 h2 h3 h4 h5; simp [h1, h2, h3, h4, h5])
    ·(conv => whnf)
     exact Wk.bool (by simp at h1 h2 h3 h4; simp [h1, h2, h3, h4])
   ·(conv => whnf)
    exact Wk.bool (by simp at h1 h2 h3; simp [h1, h2, h3])
  ·(conv => whnf)
   exact Wk.bool (by simp at h1 h2; simp [h1, h2])
 ·(conv => whnf)
  exact Wk.bool (by simp at h1; simp [h1])
theorem sameMs_ (a b : List Mem) : FCall Tryd.prog Gl 67 [LM a, LM b] [] (vB (decide (a = b))) [] := by
 refine FCall.enterL hT hmix [] Tryd.func67 rfl rfl rfl fun hbd => ?_
 have ha := bds_list hbd (.head _)
 (conv => whnf)
 refine split_intro (fun h => ?_) (fun h => ?_)
 ·have h' := len_ne h
  simp at h'
  (conv => whnf)
  exact Wk.bool (by symm; simp; intro e; subst e; exact h' rfl)
 ·have hab : a.length = b.length := by have := len_eq h; simpa using this
  (conv => whnf)
  refine LWp.loop hT hmix [] (fun k : Nat => [(5, vI k)]) (fun _ => []) (fun k => k ≤ a.length ∧ a.take k = b.take k) (fun k => a.length - k) 0 ⟨Nat.zero_le _, rfl⟩ ?_
  (conv => whnf)
  refine ⟨?_, fun k ⟨hk, hkk⟩ => ?_⟩
  ·(repeat' (first | exact trivial | exact Wk.refl _ | exact ObWk.refl _ | exact rfl | exact ⟨_, rfl⟩ | exact Nat.zero_lt_one | refine And.intro ?_ ?_ | unfold okTo | (unfold okO; conv => whnf) | (unfold okS; conv => whnf) | (unfold SlotOk; conv => whnf) | (unfold ObjOk; conv => whnf) | (unfold okCells; conv => whnf) | (unfold liveTo; conv => whnf) | exact Nat.zero_lt_succ _))
  ·(conv => whnf)
   refine split_intro (fun h => ?_) (fun h => ?_)
   ·have hlt : k < a.length := by simpa using h
    obtain ⟨x, hx⟩ := exI hlt
    obtain ⟨y, hy⟩ := exI (hab ▸ hlt : k < b.length)
    (conv => whnf)
    refine ⟨_, ⟨by omega, getMap hx⟩, ?_⟩
    (conv => whnf)
    refine ⟨_, ⟨by omega, getMap hy⟩, ?_⟩
    (conv => whnf)
    refine CallLeaf.wa (sameM_ x y) rfl ?_
    (conv => whnf)
    refine split_intro (fun hxy => ?_) (fun hxy => ?_)
    ·have hne : ¬ x = y := by simpa using hxy
     (conv => whnf)
     exact Wk.bool (by
      symm; rw [decide_eq_false_iff_not]; intro e; subst e
      rw [hx] at hy; injection hy with hy; exact hne hy)
    ·have he : x = y := by simpa using hxy
     (conv => whnf)
     refine ⟨_, add64 (c := ((k + 1 : Nat) : Int)) (by (try simp only []); omega) (by omega), ?_⟩
     (conv => whnf)
     refine ⟨k + 1, ⟨⟨by omega, ?_⟩, by simp only []; omega⟩, ?_⟩
     ·subst he
      rw [List.take_add_one, List.take_add_one, hx, hy, hkk]
     ·(repeat' (first | exact trivial | exact Wk.refl _ | exact ObWk.refl _ | exact rfl | exact ⟨_, rfl⟩ | exact Nat.zero_lt_one | refine And.intro ?_ ?_ | unfold okTo | (unfold okO; conv => whnf) | (unfold okS; conv => whnf) | (unfold SlotOk; conv => whnf) | (unfold ObjOk; conv => whnf) | (unfold okCells; conv => whnf) | (unfold liveTo; conv => whnf) | exact Nat.zero_lt_succ _))
   ·(conv => whnf)
    exact Wk.bool (by
     have hge : a.length ≤ k := by simpa using h
     symm; simp
     rwa [List.take_of_length_le hge, List.take_of_length_le (by omega)] at hkk)
theorem sameV_ (a b : View) : FCall Tryd.prog Gl 46 [.agg a.enc, .agg b.enc] [] (vB (decide (a.members = b.members) && decide (a.defs = b.defs))) [] := by
 obtain ⟨am, a⟩ := a
 obtain ⟨bm, b⟩ := b
 refine FCall.enterL hT hmix [] Tryd.func46 rfl rfl rfl fun hbd => ?_
 have ha : a.length ≤ 140737488355328 := by
  have := (hbd _ (.head _) (LD a) (.tail _ (.head _))).1
  simpa using this
 (conv => whnf)
 refine CallLeaf.wa (sameMs_ am bm) rfl ?_
 (conv => whnf)
 refine split_intro (fun h1 => ?_) (fun h1 => ?_)
 ·(conv => whnf)
  exact Wk.bool (by simp at h1; simp [h1])
 ·have hm : am = bm := by simpa using h1
  (conv => whnf)
  refine split_intro (fun h => ?_) (fun h => ?_)
  ·have h' := len_ne h
   simp at h'
   (conv => whnf)
   exact Wk.bool (by symm; simp; intro _ e; subst e; exact h' rfl)
  ·have hab : a.length = b.length := by have := len_eq h; simpa using this
   (conv => whnf)
   refine LWp.loop hT hmix [] (fun k : Nat => [(5, vI k)]) (fun _ => []) (fun k => k ≤ a.length ∧ a.take k = b.take k) (fun k => a.length - k) 0 ⟨Nat.zero_le _, rfl⟩ ?_
   (conv => whnf)
   refine ⟨?_, fun k ⟨hk, hkk⟩ => ?_⟩
   ·(repeat' (first | exact trivial | exact Wk.refl _ | exact ObWk.refl _ | exact rfl | exact ⟨_, rfl⟩ | exact Nat.zero_lt_one | refine And.intro ?_ ?_ | unfold okTo | (unfold okO; conv => whnf) | (unfold okS; conv => whnf) | (unfold SlotOk; conv => whnf) | (unfold ObjOk; conv => whnf) | (unfold okCells; conv => whnf) | (unfold liveTo; conv => whnf) | exact Nat.zero_lt_succ _))
   ·(conv => whnf)
    refine split_intro (fun h => ?_) (fun h => ?_)
    ·have hlt : k < a.length := by simpa using h
     obtain ⟨x, hx⟩ := exI hlt
     obtain ⟨y, hy⟩ := exI (hab ▸ hlt : k < b.length)
     (conv => whnf)
     refine ⟨_, ⟨by omega, getMap hx⟩, ?_⟩
     (conv => whnf)
     refine ⟨_, ⟨by omega, getMap hy⟩, ?_⟩
     (conv => whnf)
     refine CallLeaf.wa (texts_ x y) rfl ?_
     (conv => whnf)
     refine split_intro (fun hxy => ?_) (fun hxy => ?_)
     ·have hne : ¬ x = y := by simpa using hxy
      (conv => whnf)
      exact Wk.bool (by
       symm; rw [Bool.and_eq_false_iff]; right; rw [decide_eq_false_iff_not]; intro e
       have e' : a = b := e
       subst e'
       rw [hx] at hy; injection hy with hy; exact hne hy)
     ·have he : x = y := by simpa using hxy
      (conv => whnf)
      refine ⟨_, add64 (c := ((k + 1 : Nat) : Int)) (by (try simp only []); omega) (by omega), ?_⟩
      (conv => whnf)
      refine ⟨k + 1, ⟨⟨by omega, ?_⟩, by simp only []; omega⟩, ?_⟩
      ·subst he
       rw [List.take_add_one, List.take_add_one, hx, hy, hkk]
      ·(repeat' (first | exact trivial | exact Wk.refl _ | exact ObWk.refl _ | exact rfl | exact ⟨_, rfl⟩ | exact Nat.zero_lt_one | refine And.intro ?_ ?_ | unfold okTo | (unfold okO; conv => whnf) | (unfold okS; conv => whnf) | (unfold SlotOk; conv => whnf) | (unfold ObjOk; conv => whnf) | (unfold okCells; conv => whnf) | (unfold liveTo; conv => whnf) | exact Nat.zero_lt_succ _))
    ·(conv => whnf)
     exact Wk.bool (by
      have hge : a.length ≤ k := by simpa using h
      rw [List.take_of_length_le hge, List.take_of_length_le (by omega)] at hkk
      symm; simp [hm, hkk])
abbrev Mem_encN (m : Mem) : List D := [sD m.name, vI m.time, vI m.uid, vI m.gid, vI m.mode, LBn m.data]
theorem mem_wk (t : Tg) (l : List Mem) : Wk (.list t (l.map Mem_encN)) (LM l) :=
 Wk.listE t l (fun _ => rfl) (fun a i h1 h2 => by
  have hi : i < 6 := h1
  have : i = 0 ∨ i = 1 ∨ i = 2 ∨ i = 3 ∨ i = 4 ∨ i = 5 := by omega
  rcases this with rfl | rfl | rfl | rfl | rfl | rfl
  ·exact Wk.refl _
  ·exact Wk.refl _
  ·exact Wk.refl _
  ·exact Wk.refl _
  ·exact Wk.refl _
  ·exact Wk.list _ _) (fun a d hd => by simp at hd; rcases hd with rfl | rfl | rfl | rfl | rfl | rfl <;> rfl)
theorem copy_ (l : List Mem) (hl : l.length ≤ 1000000) (hd : ∀ m ∈ l, m.data.length ≤ 1000000000) : FCall Tryd.prog Gl 20 [LM l] [] (LM l) [] := by
 refine FCall.enterL hT hmix [] Tryd.func20 rfl rfl rfl fun hbd => ?_
 (conv => whnf)
 refine LWp.loop hT hmix [] (fun k : Nat => [(4, vI k), (3, .list (.tok 403) ((l.take k).map Mem_encN))]) (fun k => [(403, .tok ((l.take k).map Mem_encN).length 6)]) (fun k => k ≤ l.length) (fun k => l.length - k) 0 (Nat.zero_le _) ?_
 (conv => whnf)
 refine ⟨?_, fun k hk => ?_⟩
 ·(repeat' (first | exact trivial | exact Wk.refl _ | exact ObWk.refl _ | exact rfl | exact ⟨_, rfl⟩ | exact Nat.zero_lt_one | refine And.intro ?_ ?_ | unfold okTo | (unfold okO; conv => whnf) | (unfold okS; conv => whnf) | (unfold SlotOk; conv => whnf) | (unfold ObjOk; conv => whnf) | (unfold okCells; conv => whnf) | (unfold liveTo; conv => whnf) | exact Nat.zero_lt_succ _))
 ·have hz : (l.take (k + 1)).length ≤ k + 1 := List.length_take_le _ _
  (conv => whnf)
  refine split_intro (fun h => ?_) (fun h => ?_)
  ·have hlt : k < l.length := by have := of_decide_eq_true h; rw [List.length_map] at this; omega
   obtain ⟨m, hm⟩ := exI hlt
   have hmd := hd m (List.mem_of_getElem? hm)
   (conv => whnf)
   refine ⟨_, ⟨by omega, getMap hm⟩, ?_⟩
   (conv => whnf)
   refine ⟨_, appL (f := byteD) (xs := []) (ys := m.data) (zs := m.data) rfl rfl (fun _ => rfl) rfl (by show _ * 1 ≤ _; omega), ?_⟩
   (conv => whnf)
   refine ⟨_, appL (f := Mem_encN) (xs := l.take k) (ys := [m]) (zs := l.take (k + 1)) rfl rfl (fun _ => rfl) (by rw [List.take_add_one, hm]; rfl) (by show _ * 72 ≤ _; omega), ?_⟩
   (conv => whnf)
   refine ⟨_, add64 (c := ((k + 1 : Nat) : Int)) (by (try simp only []); omega) (by omega), ?_⟩
   (conv => whnf)
   refine ⟨k + 1, ⟨by omega, by simp only []; omega⟩, ?_⟩
   (repeat' (first | exact trivial | exact Wk.refl _ | exact ObWk.refl _ | exact rfl | exact ⟨_, rfl⟩ | exact Nat.zero_lt_one | refine And.intro ?_ ?_ | unfold okTo | (unfold okO; conv => whnf) | (unfold okS; conv => whnf) | (unfold SlotOk; conv => whnf) | (unfold ObjOk; conv => whnf) | (unfold okCells; conv => whnf) | (unfold liveTo; conv => whnf) | exact Nat.zero_lt_succ _))
  ·have hge : l.length ≤ k := by have := of_decide_eq_false h; rw [List.length_map] at this; omega
   (conv => whnf)
   rw [List.take_of_length_le hge]
   exact mem_wk _ _
end Go.Proofs.YtfbmknghfhancaaDoor

namespace Go.Proofs.YtfbmknghfhancaaDoor
open Go Go.AL Go.AL.Bd Go.AL.Tb Go.AL.Sc Go.AL.Gp
set_option maxRecDepth 100000
set_option maxHeartbeats 4000000
theorem defs_len {x : Inp} (h : OkI x) (w : Wf x) : x.view.defs.length ≤ 12 ∧ ∀ d ∈ x.view.defs, d.length ≤ 100 := by
 refine ⟨by rw [h.v.d]; exact h.v.n, fun d hd => ?_⟩
 rw [w] at hd
 obtain ⟨m, hm, rfl⟩ := List.mem_map.1 hd
 have h1 := (dec_ok (h.v.b m hm)).n
 unfold defsOf
 rw [List.length_map]
 exact Nat.le_trans (List.length_filter_le _ _) h1
theorem flatD_sub (p : Inp → Bool) : ∀ l : List Inp, (flatD (l.filter p)).Sublist (flatD l)
 | [] => List.Sublist.refl _
 | x :: l => by
  have ih := flatD_sub p l
  have e : flatD (x :: l) = x.view.defs.flatten ++ flatD l := rfl
  rw [List.filter_cons, e]
  split
  ·exact List.Sublist.append (List.Sublist.refl _) ih
  ·exact ih.trans (List.sublist_append_right _ _)
theorem any_snoc' {us : List Unt} {k : Nat} {u w : Unt} (h : us[k]? = some u) : (us.take (k + 1)).any (fun y => decide (y = w)) = ((us.take k).any (fun y => decide (y = w)) || decide (u = w)) := by
 rw [List.take_add_one, h]; simp
theorem groupMore_ (l : List Ob.Obj) (fs : List Fil) (hfs : ∀ x ∈ fs, ∀ m ∈ x.members, OkM m) : FCall Tryd.prog Gl 6 [LO l, LF fs] [] (vB true) [] := by
 have I := inputs_ fs hfs
 refine FCall.enterL hT hmix [] Tryd.func6 rfl rfl rfl fun hbd => ?_
 cases hv : (inputsR fs).2 with
 | false =>
  rw [hv] at I
  generalize (inputsR fs).1 = v at I
  (conv => whnf)
  refine CallLeaf.wa (I) rfl ?_
  (conv => whnf)
  refine CallLeaf.wa (awake_20_) rfl ?_
  (((conv => whnf)); (refine CallLeaf.wa (awake_20_) rfl ?_); ((conv => whnf)); exact Wk.refl _)
 | true =>
  obtain ⟨e1, gd⟩ := inputs_good hv
  rw [hv, e1] at I
  generalize insL 0 fs = il at *
  have hl := gd.len
  have hmg := gd.mg
  have hmga := gd.mga
  have T := twice_ il hl (fun x hx => defs_len (gd.ok x hx) (gd.wf x hx))
  (conv => whnf)
  refine CallLeaf.wa (I) rfl ?_
  (conv => whnf)
  refine CallLeaf.wa (awake_20_) rfl ?_
  (conv => whnf)
  refine CallLeaf.wa (right_ l) rfl ?_
  (conv => whnf)
  refine split_intro (fun hr => ?_) (fun hr => ?_)
  ·(((conv => whnf)); (refine CallLeaf.wa (awake_20_) rfl ?_); ((conv => whnf)); exact Wk.refl _)
  ·have hR := not_f hr
   (conv => whnf)
   refine CallLeaf.wa (T) rfl ?_
   (conv => whnf)
   refine split_intro (fun ht => ?_) (fun ht => ?_)
   ·(((conv => whnf)); (refine CallLeaf.wa (awake_20_) rfl ?_); ((conv => whnf)); exact Wk.refl _)
   ·have hnd : (flatD il).Nodup := by simpa using ht
    have huq : Uniq (archs il) := uniq_of (by
     exact List.Nodup.sublist (flatD_sub _ il) hnd) (fun x hx => gd.wf x (List.mem_filter.1 hx).1)
    have FW := forward20_ il (by omega)
    have okl := ldO_ok' (f := [111]) hR
    have G1 := gload_ (ldO [111] l) 12 il 61 (by omega) (by omega) (by omega) (by omega) okl gd.ok
    have okg := grp_ok gd okl (F := 61) (by omega)
    obtain ⟨d1, d2, d3⟩ := grp_done gd (ldO [111] l) (F := 61) (by omega)
    have U := unitsS_ (grp il 61 (ldO [111] l)).1 (by have := okg.len; have := okg.us; omega)
    have L := FCall.wk (lload20_ l hR) (Wk.refl _)
    obtain ⟨B, hB⟩ : ∃ B, B = ldG (objs il) (ldO [111] l) := ⟨_, rfl⟩
    have okk : ∀ k, OkS (ldG (objs (il.take k)) (ldO [111] l)) 20 := fun k => (OkS.ldG (fun x hx => gd.ok x (List.mem_of_mem_take (List.mem_filter.1 hx).1)) okl).mono (by
     have h3 : (objs (il.take k)).length ≤ 6 := Nat.le_trans (List.length_filter_le _ _) (Nat.le_trans (List.length_take_le' _ _) hl)
     exact Nat.le_trans (Nat.add_le_add_left h3 12) (by omega))
    have okB : OkS B 20 := by
     have := okk il.length
     rw [List.take_length] at this
     rw [hB]; exact this
    have okA : ∀ k, OkS (archsL 61 (archs (il.take k)) B) 60 := fun k => (archsL_ok (fun x hx => gd.ok x (List.mem_of_mem_take (List.mem_filter.1 hx).1)) 61 okB).mono (by
     have a : (archs (il.take k)).length ≤ 6 := Nat.le_trans (List.length_filter_le _ _) (Nat.le_trans (List.length_take_le' _ _) hl)
     have b : memG (archs (il.take k)) ≤ 36 := Nat.le_trans (memG_le (l := archs (il.take k)) (fun x hx => gd.mem x (List.mem_of_mem_take (List.mem_filter.1 hx).1))) (Nat.mul_le_mul_left 6 a)
     exact Nat.le_trans (Nat.add_le_add_left b 20) (by omega))
    have hBld : B.ld = [] := by rw [hB, (ldG_len (objs il) (ldO [111] l)).2.2]; rfl
    have hBk : Bk B.os := fun o ho s hs => by have := (okB.os o ho).ok s hs; exact ⟨this.1, this.2.1⟩
    have hIa : ∀ x ∈ archs il, OkI x := fun x hx => gd.ok x (List.mem_filter.1 hx).1
    have hS : RG (archs il) B (grp il 61 (ldO [111] l)).1 := by rw [hB]; exact RG.rounds 61 .refl
    have hX : RG (archs il) B (archsL 61 (archs il) B) := archsL_rg 61 (archs il) (fun _ h => h) .refl
    obtain ⟨m1, m2⟩ := more hBld (fun x hx => gd.wf x (List.mem_filter.1 hx).1) huq (gd.dis.filter _) (fun {T} h => h.bk hIa hBk) hS d1 hX
    (conv => whnf)
    refine CallLeaf.oa [2048] (L) rfl rfl rfl rfl ?_
    (conv => whnf)
    refine CallLeaf.oa [2560] (L) rfl rfl rfl rfl ?_
    (conv => whnf)
    refine CallLeaf.wa (FW) rfl ?_
    (conv => whnf)
    refine CallLeaf.oa [2048] (G1) rfl rfl rfl rfl ?_
    (conv => whnf)
    refine LWp.loop hT hmix [] (fun k : Nat => [(10, vI k)]) (fun k => [(2560, stB (ldG (objs (il.take k)) (ldO [111] l)))]) (fun k => k ≤ il.length) (fun k => il.length - k) 0 (Nat.zero_le _) ?_
    (conv => whnf)
    refine ⟨?_, fun k hk => ?_⟩
    ·(repeat' (first | exact trivial | exact Wk.refl _ | exact ObWk.refl _ | exact rfl | exact ⟨_, rfl⟩ | exact Nat.zero_lt_one | refine And.intro ?_ ?_ | unfold okTo | (unfold okO; conv => whnf) | (unfold okS; conv => whnf) | (unfold SlotOk; conv => whnf) | (unfold ObjOk; conv => whnf) | (unfold okCells; conv => whnf) | (unfold liveTo; conv => whnf) | exact Nat.zero_lt_succ _))
    ·have okk1 := okk k
     (conv => whnf)
     refine split_intro (fun h => ?_) (fun h => ?_)
     ·have hlt : k < il.length := by have := of_decide_eq_true h; rw [List.length_map] at this; omega
      obtain ⟨x, hx⟩ := exI hlt
      (conv => whnf)
      refine ⟨_, ⟨by omega, getMap hx⟩, ?_⟩
      (conv => whnf)
      refine split_intro (fun ha => ?_) (fun ha => ?_)
      ·have ha' : x.arch = false := by simpa using ha
       have hst : objs (il.take (k + 1)) = objs (il.take k) ++ [x] := filter_t hx (by simp [ha'])
       have P := objS_ x.name (ldG (objs (il.take k)) (ldO [111] l)) x.obj 20 (by omega) okk1 (gd.ok x (List.mem_of_getElem? hx)).o
       rw [← ldG_snoc, ← hst] at P
       (conv => whnf)
       refine ⟨_, ⟨by omega, getMap hx⟩, ?_⟩
       (conv => whnf)
       refine ⟨_, ⟨by omega, getMap hx⟩, ?_⟩
       (conv => whnf)
       refine CallLeaf.oa [2560] (P) rfl rfl rfl rfl ?_
       (conv => whnf)
       refine ⟨_, add64 (c := ((k + 1 : Nat) : Int)) (by (try simp only []); omega) (by omega), ?_⟩
       (conv => whnf)
       refine ⟨k + 1, ⟨by omega, by simp only []; omega⟩, ?_⟩
       (repeat' (first | exact trivial | exact Wk.refl _ | exact ObWk.refl _ | exact rfl | exact ⟨_, rfl⟩ | exact Nat.zero_lt_one | refine And.intro ?_ ?_ | unfold okTo | (unfold okO; conv => whnf) | (unfold okS; conv => whnf) | (unfold SlotOk; conv => whnf) | (unfold ObjOk; conv => whnf) | (unfold okCells; conv => whnf) | (unfold liveTo; conv => whnf) | exact Nat.zero_lt_succ _))
      ·have ha' : x.arch = true := by simpa using ha
       have hst : objs (il.take (k + 1)) = objs (il.take k) := filter_f hx (by simp [ha'])
       (conv => whnf)
       refine ⟨_, add64 (c := ((k + 1 : Nat) : Int)) (by (try simp only []); omega) (by omega), ?_⟩
       (conv => whnf)
       refine ⟨k + 1, ⟨by omega, by simp only []; omega⟩, ?_⟩
       dsimp only
       rw [hst]
       (repeat' (first | exact trivial | exact Wk.refl _ | exact ObWk.refl _ | exact rfl | exact ⟨_, rfl⟩ | exact Nat.zero_lt_one | refine And.intro ?_ ?_ | unfold okTo | (unfold okO; conv => whnf) | (unfold okS; conv => whnf) | (unfold SlotOk; conv => whnf) | (unfold ObjOk; conv => whnf) | (unfold okCells; conv => whnf) | (unfold liveTo; conv => whnf) | exact Nat.zero_lt_succ _))
     ·have hge : il.length ≤ k := by have := of_decide_eq_false h; rw [List.length_map] at this; omega
      have e3 : ldG (objs (il.take k)) (ldO [111] l) = B := by rw [hB, List.take_of_length_le hge]
      (conv => whnf)
      refine LWp.loop hT hmix [] (fun k : Nat => [(11, vI k)]) (fun k => [(2560, stB (archsL 61 (archs (il.take k)) B))]) (fun k => k ≤ il.length) (fun k => il.length - k) 0 (Nat.zero_le _) ?_
      (conv => whnf)
      refine ⟨?_, fun k hk => ?_⟩
      ·(repeat' (first | exact trivial | exact Wk.refl _ | exact ObWk.refl _ | exact rfl | exact ⟨_, rfl⟩ | exact Nat.zero_lt_one | refine And.intro ?_ ?_ | unfold okTo | (unfold okO; conv => whnf) | (unfold okS; conv => whnf) | (unfold SlotOk; conv => whnf) | (unfold ObjOk; conv => whnf) | (unfold okCells; conv => whnf) | (unfold liveTo; conv => whnf) | exact Nat.zero_lt_succ _))
       exact ObWk.of_eq (by rw [e3]; rfl)
      ·have okk2 := okA k
       (conv => whnf)
       refine split_intro (fun h => ?_) (fun h => ?_)
       ·have hlt : k < il.length := by have := of_decide_eq_true h; rw [List.length_map] at this; omega
        obtain ⟨x, hx⟩ := exI hlt
        have hxm := List.mem_of_getElem? hx
        have hxn := gd.mem x hxm
        (conv => whnf)
        refine ⟨_, ⟨by omega, getMap hx⟩, ?_⟩
        (conv => whnf)
        refine split_intro (fun ha => ?_) (fun ha => ?_)
        ·have hst : archs (il.take (k + 1)) = archs (il.take k) ++ [x] := filter_t hx ha
         have A := archS_ x.name x.view (archsL 61 (archs (il.take k)) B) 61 60 (by have := lft_le x.name x.view (archsL 61 (archs (il.take k)) B); omega) (by omega) okk2 (gd.ok x hxm).v (gd.ok x hxm).n
         rw [← archsL_snoc, ← hst] at A
         (conv => whnf)
         refine ⟨_, ⟨by omega, getMap hx⟩, ?_⟩
         (conv => whnf)
         refine ⟨_, ⟨by omega, getMap hx⟩, ?_⟩
         (conv => whnf)
         refine CallLeaf.oa [2560] (A) rfl rfl rfl rfl ?_
         (conv => whnf)
         refine ⟨_, add64 (c := ((k + 1 : Nat) : Int)) (by (try simp only []); omega) (by omega), ?_⟩
         (conv => whnf)
         refine ⟨k + 1, ⟨by omega, by simp only []; omega⟩, ?_⟩
         (repeat' (first | exact trivial | exact Wk.refl _ | exact ObWk.refl _ | exact rfl | exact ⟨_, rfl⟩ | exact Nat.zero_lt_one | refine And.intro ?_ ?_ | unfold okTo | (unfold okO; conv => whnf) | (unfold okS; conv => whnf) | (unfold SlotOk; conv => whnf) | (unfold ObjOk; conv => whnf) | (unfold okCells; conv => whnf) | (unfold liveTo; conv => whnf) | exact Nat.zero_lt_succ _))
        ·have hst : archs (il.take (k + 1)) = archs (il.take k) := filter_f hx ha
         (conv => whnf)
         refine ⟨_, add64 (c := ((k + 1 : Nat) : Int)) (by (try simp only []); omega) (by omega), ?_⟩
         (conv => whnf)
         refine ⟨k + 1, ⟨by omega, by simp only []; omega⟩, ?_⟩
         dsimp only
         rw [hst]
         (repeat' (first | exact trivial | exact Wk.refl _ | exact ObWk.refl _ | exact rfl | exact ⟨_, rfl⟩ | exact Nat.zero_lt_one | refine And.intro ?_ ?_ | unfold okTo | (unfold okO; conv => whnf) | (unfold okS; conv => whnf) | (unfold SlotOk; conv => whnf) | (unfold ObjOk; conv => whnf) | (unfold okCells; conv => whnf) | (unfold liveTo; conv => whnf) | exact Nat.zero_lt_succ _))
       ·have hge : il.length ≤ k := by have := of_decide_eq_false h; rw [List.length_map] at this; omega
        have e4 : archsL 61 (archs (il.take k)) B = archsL 61 (archs il) B := by rw [List.take_of_length_le hge]
        rw [← e4] at m1 m2
        have V := unitsS_ (archsL 61 (archs (il.take k)) B) (by have := okk2.len; have := okk2.us; omega)
        obtain ⟨us, hus⟩ : ∃ us, us = (grp il 61 (ldO [111] l)).1.us := ⟨_, rfl⟩
        obtain ⟨vs, hvs⟩ : ∃ vs, vs = (archsL 61 (archs (il.take k)) B).us := ⟨_, rfl⟩
        have hul : us.length ≤ 100 := by rw [hus]; have := okg.len; have := okg.us; omega
        rw [← hus] at U m1 m2
        rw [← hvs] at V m1 m2
        have hvl : vs.length ≤ 100 := by omega
        (conv => whnf)
        refine CallLeaf.oa [2048] (U) rfl rfl rfl rfl ?_
        (conv => whnf)
        refine CallLeaf.oa [2560] (V) rfl rfl rfl rfl ?_
        (conv => whnf)
        refine LWp.loop hT hmix [] (fun i : Nat => [(14, vI i)]) (fun _ => []) (fun i => i ≤ vs.length) (fun i => vs.length - i) 0 (Nat.zero_le _) ?_
        (conv => whnf)
        refine ⟨?_, fun i hi => ?_⟩
        ·(repeat' (first | exact trivial | exact Wk.refl _ | exact ObWk.refl _ | exact rfl | exact ⟨_, rfl⟩ | exact Nat.zero_lt_one | refine And.intro ?_ ?_ | unfold okTo | (unfold okO; conv => whnf) | (unfold okS; conv => whnf) | (unfold SlotOk; conv => whnf) | (unfold ObjOk; conv => whnf) | (unfold okCells; conv => whnf) | (unfold liveTo; conv => whnf) | exact Nat.zero_lt_succ _))
        ·(conv => whnf)
         refine split_intro (fun h1 => ?_) (fun h1 => ?_)
         ·have hlt1 : i < vs.length := by have := of_decide_eq_true h1; rw [List.length_map] at this; omega
          obtain ⟨w, hw⟩ := exI hlt1
          have hwm := m1 w (List.mem_of_getElem? hw)
          (conv => whnf)
          refine LWp.loop hT hmix [] (fun j : Nat => [(16, vI j), (15, vB ((us.take j).any fun y => decide (y = w)))]) (fun _ => []) (fun j => j ≤ us.length) (fun j => us.length - j) 0 (Nat.zero_le _) ?_
          (conv => whnf)
          refine ⟨?_, fun j hj => ?_⟩
          ·(repeat' (first | exact trivial | exact Wk.refl _ | exact ObWk.refl _ | exact rfl | exact ⟨_, rfl⟩ | exact Nat.zero_lt_one | refine And.intro ?_ ?_ | unfold okTo | (unfold okO; conv => whnf) | (unfold okS; conv => whnf) | (unfold SlotOk; conv => whnf) | (unfold ObjOk; conv => whnf) | (unfold okCells; conv => whnf) | (unfold liveTo; conv => whnf) | exact Nat.zero_lt_succ _))
          ·(conv => whnf)
           refine split_intro (fun h2 => ?_) (fun h2 => ?_)
           ·have hlt2 : j < us.length := by have := of_decide_eq_true h2; rw [List.length_map] at this; omega
            obtain ⟨u, hu⟩ := exI hlt2
            have hst := any_snoc' (w := w) hu
            (conv => whnf)
            refine split_intro (fun h3 => ?_) (fun h3 => ?_)
            ·rw [h3, Bool.true_or] at hst
             (conv => whnf)
             refine ⟨_, add64 (c := ((j + 1 : Nat) : Int)) (by (try simp only []); omega) (by omega), ?_⟩
             (conv => whnf)
             refine ⟨j + 1, ⟨by omega, by simp only []; omega⟩, ?_⟩
             dsimp only
             rw [hst]
             (repeat' (first | exact trivial | exact Wk.refl _ | exact ObWk.refl _ | exact rfl | exact ⟨_, rfl⟩ | exact Nat.zero_lt_one | refine And.intro ?_ ?_ | unfold okTo | (unfold okO; conv => whnf) | (unfold okS; conv => whnf) | (unfold SlotOk; conv => whnf) | (unfold ObjOk; conv => whnf) | (unfold okCells; conv => whnf) | (unfold liveTo; conv => whnf) | exact Nat.zero_lt_succ _))
            ·rw [h3, Bool.false_or] at hst
             (conv => whnf)
             refine ⟨_, ⟨by omega, getMap hu⟩, ?_⟩
             (conv => whnf)
             refine ⟨_, ⟨by omega, getMap hw⟩, ?_⟩
             (conv => whnf)
             refine ⟨plainU u, ?_⟩
             (conv => whnf)
             refine ⟨_, add64 (c := ((j + 1 : Nat) : Int)) (by (try simp only []); omega) (by omega), ?_⟩
             (conv => whnf)
             refine ⟨j + 1, ⟨by omega, by simp only []; omega⟩, ?_⟩
             dsimp only
             rw [hst]
             (repeat' (first | exact trivial | exact Wk.refl _ | exact ObWk.refl _ | exact rfl | exact ⟨_, rfl⟩ | exact Nat.zero_lt_one | refine And.intro ?_ ?_ | unfold okTo | (unfold okO; conv => whnf) | (unfold okS; conv => whnf) | (unfold SlotOk; conv => whnf) | (unfold ObjOk; conv => whnf) | (unfold okCells; conv => whnf) | (unfold liveTo; conv => whnf) | exact Nat.zero_lt_succ _))
             all_goals exact Wk.bool (eqU u w)
           ·have hge2 : us.length ≤ j := by have := of_decide_eq_false h2; rw [List.length_map] at this; omega
            have hT : ((us.take j).any fun y => decide (y = w)) = true := by
             rw [List.take_of_length_le hge2, List.any_eq_true]
             exact ⟨w, hwm, by simp⟩
            (conv => whnf)
            refine split_intro (fun h5 => by rw [hT] at h5; simp at h5) (fun _ => ?_)
            (conv => whnf)
            refine ⟨_, add64 (c := ((i + 1 : Nat) : Int)) (by (try simp only []); omega) (by omega), ?_⟩
            (conv => whnf)
            refine ⟨i + 1, ⟨by omega, by simp only []; omega⟩, ?_⟩
            (repeat' (first | exact trivial | exact Wk.refl _ | exact ObWk.refl _ | exact rfl | exact ⟨_, rfl⟩ | exact Nat.zero_lt_one | refine And.intro ?_ ?_ | unfold okTo | (unfold okO; conv => whnf) | (unfold okS; conv => whnf) | (unfold SlotOk; conv => whnf) | (unfold ObjOk; conv => whnf) | (unfold okCells; conv => whnf) | (unfold liveTo; conv => whnf) | exact Nat.zero_lt_succ _))
         ·(conv => whnf)
          exact Wk.bool (by simp only [List.length_map, decide_eq_true_eq]; omega)
end Go.Proofs.YtfbmknghfhancaaDoor
