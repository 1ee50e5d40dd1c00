/- The laws of groups, walked. No condition. -/
import Derived.Test.YtfbmknghfhancaaDoorGAc
import Derived.Test.YtfbmknghfhancaaDoorGWg
import Derived.Test.YtfbmknghfhancaaDoorGWf
set_option linter.unusedVariables false
set_option linter.unusedSimpArgs false
namespace Go.Proofs.YtfbmknghfhancaaDoor
open Go Go.AL Go.AL.Bd Go.AL.Tb Go.AL.Sc Go.AL.Gp
set_option maxRecDepth 100000
set_option maxHeartbeats 4000000
def sameI (a b : Inp) : Bool := decide (a.name = b.name) && (decide (a.arch = b.arch) && (decide (a.obj = b.obj) && (decide (a.view.members = b.view.members) && decide (a.view.defs = b.view.defs))))
theorem sameI_ (a b : Inp) (ha : a.obj.syms.length ≤ 1000000000) : FCall Tryd.prog Gl 21 [iD a, iD b] [] (vB (sameI a b)) [] := by
 obtain ⟨an, aa, ⟨asy, ab⟩, av⟩ := a
 obtain ⟨bn, ba, ⟨bs, bb⟩, bv⟩ := b
 have O := O.osame_ asy ab bs bb ha
 have V := sameV_ av bv
 refine FCall.enterL hT hmix [] Tryd.func21 rfl rfl rfl fun hbd => ?_
 (conv => whnf)
 refine split_intro (fun h1 => ?_) (fun h1 => ?_)
 ·have h1' : an = bn := by simpa using h1
  (conv => whnf)
  refine split_intro (fun h2 => ?_) (fun h2 => ?_)
  ·have h2' : aa = ba := by simpa using h2
   (conv => whnf)
   refine CallLeaf.wa (O) rfl ?_
   (conv => whnf)
   refine split_intro (fun h3 => ?_) (fun h3 => ?_)
   ·have h3' : (⟨asy, ab⟩ : Ob.Obj) = ⟨bs, bb⟩ := of_decide_eq_true h3
    (conv => whnf)
    refine CallLeaf.wa (V) rfl ?_
    (conv => whnf)
    exact Wk.bool (by simp only [sameI, h1', h2', h3', decide_true, Bool.true_and])
   ·have h3' : ¬ (⟨asy, ab⟩ : Ob.Obj) = ⟨bs, bb⟩ := of_decide_eq_false h3
    (conv => whnf)
    exact Wk.bool (by simp only [sameI, h1', h2', decide_eq_false h3', decide_true, Bool.true_and, Bool.false_and])
  ·have h2' : ¬ aa = ba := by simpa using h2
   (conv => whnf)
   exact Wk.bool (by simp only [sameI, h1', decide_eq_false h2', decide_true, Bool.true_and, Bool.false_and])
 ·have h1' : ¬ an = bn := by simpa using h1
  (conv => whnf)
  exact Wk.bool (by simp only [sameI, decide_eq_false h1', Bool.false_and])
theorem sameI_refl (a : Inp) : sameI a a = true := by simp [sameI]
theorem forward20A_ (l : List Inp) (hl : l.length ≤ 1000000) : FCall Tryd.prog Gl 15 [LIp l] [] (.sl 0 l.length 0 l.length) [.arr l.length 6 (l.map Inp.enc)] := by
 refine FCall.enterO hT hmix [] Tryd.func15 rfl rfl rfl fun hbd => ?_
 (conv => whnf)
 refine LWp.loop hT hmix [] (fun k : Nat => [(4, vI k), (3, .sl 403 k 0 k)]) (fun k => [(403, .arr k 6 ((l.take k).map Inp.enc))]) (fun k => k ≤ l.length) (fun k => l.length - k) 0 (Nat.zero_le _) ?_
 (conv => whnf)
 refine ⟨?_, fun k hk => ?_⟩
 ·(repeat' (first | exact trivial | exact Wk.refl _ | exact ObWk.refl _ | exact rfl | exact ⟨_, rfl⟩ | exact Nat.zero_lt_one | refine And.intro ?_ ?_ | unfold okTo | (unfold okO; conv => whnf) | (unfold okS; conv => whnf) | (unfold SlotOk; conv => whnf) | (unfold ObjOk; conv => whnf) | (unfold okCells; conv => whnf) | (unfold liveTo; conv => whnf) | exact Nat.zero_lt_succ _))
 ·have hlk : ((l.take k).map Inp.enc).length = k := by rw [List.length_map, List.length_take]; omega
  (conv => whnf)
  refine split_intro (fun h => ?_) (fun h => ?_)
  ·have hlt : k < l.length := by have := of_decide_eq_true h; rw [List.length_map] at this; omega
   obtain ⟨x, hx⟩ := exI hlt
   have hst : (l.take (k + 1)).map Inp.enc = (l.take k).map Inp.enc ++ [x.enc] := by rw [List.take_add_one, hx]; simp
   (((conv => whnf)); (refine ⟨_, ⟨by omega, getMap hx⟩, ?_⟩); ((conv => whnf)); (refine ⟨_, ⟨by omega, getMap hx⟩, ?_⟩); ((conv => whnf)); (refine ⟨_, ⟨by omega, getMap hx⟩, ?_⟩); ((conv => whnf)); (refine ⟨_, ⟨by omega, getMap hx⟩, ?_⟩); ((conv => whnf)); (refine ⟨_, ⟨by omega, getMap hx⟩, ?_⟩); ((conv => whnf)))
   refine ⟨(l.take (k + 1)).map Inp.enc, ⟨rfl, rfl, by rw [hlk]; omega, by rw [List.drop_zero, List.take_of_length_le (by omega)]; exact hst.symm, fun c hc => (by simp at hc; subst hc; rfl), by show (k + 1) * 120 ≤ _; omega⟩, ?_⟩
   (conv => whnf)
   refine ⟨_, add64 (c := ((k + 1 : Nat) : Int)) (by (try simp only []); omega) (by omega), ?_⟩
   (conv => whnf)
   refine ⟨k + 1, ⟨by omega, by simp only []; omega⟩, ?_⟩
   (repeat' (first | exact trivial | exact Wk.refl _ | exact ObWk.refl _ | exact rfl | exact ⟨_, rfl⟩ | exact Nat.zero_lt_one | refine And.intro ?_ ?_ | unfold okTo | (unfold okO; conv => whnf) | (unfold okS; conv => whnf) | (unfold SlotOk; conv => whnf) | (unfold ObjOk; conv => whnf) | (unfold okCells; conv => whnf) | (unfold liveTo; conv => whnf) | exact Nat.zero_lt_succ _))
  ·have hge : l.length ≤ k := by have := of_decide_eq_false h; rw [List.length_map] at this; omega
   obtain rfl : k = l.length := by omega
   (conv => whnf)
   refine ⟨[403], rfl, by (try unfold pullOk); (repeat' (first | exact trivial | exact ObWk.refl _ | exact ObWk.of_eq (by rw [List.take_length]) | refine And.intro ?_ ?_ | unfold pullOk)), ?_⟩
   exact Wk.refl _
theorem groupKeeps_ (l : List Ob.Obj) (fs : List Fil) (hfs : ∀ x ∈ fs, ∀ m ∈ x.members, OkM m) : FCall Tryd.prog Gl 4 [LO l, LF fs] [] (vB true) [] := by
 have I := inputs_ fs hfs
 refine FCall.enterL hT hmix [9] Tryd.func4 rfl rfl rfl fun hbd => ?_
 cases hv : (inputsR fs).2 with
 | false =>
  rw [hv] at I
  generalize (inputsR fs).1 = v at I
  (conv => whnf)
  refine CallLeaf.wa (I) rfl ?_
  (conv => whnf)
  refine CallLeaf.wa (awake_20_) rfl ?_
  (((conv => whnf)); (refine CallLeaf.wa (awake_20_) rfl ?_); ((conv => whnf)); exact Wk.refl _)
 | true =>
  obtain ⟨e1, gd⟩ := inputs_good hv
  rw [hv, e1] at I
  generalize insL 0 fs = il at *
  have hl := gd.len
  have hmg := gd.mg
  have hmga := gd.mga
  (conv => whnf)
  refine CallLeaf.wa (I) rfl ?_
  (conv => whnf)
  refine CallLeaf.wa (awake_20_) rfl ?_
  (conv => whnf)
  refine CallLeaf.wa (right_ l) rfl ?_
  (conv => whnf)
  refine split_intro (fun hr => ?_) (fun hr => ?_)
  ·(((conv => whnf)); (refine CallLeaf.wa (awake_20_) rfl ?_); ((conv => whnf)); exact Wk.refl _)
  ·have hR := not_f hr
   have FA := forward20A_ il (by omega)
   have okl := ldO_ok' (f := [111]) hR
   have G1 := gload_ (ldO [111] l) 12 il 61 (by omega) (by omega) (by omega) (by omega) okl gd.ok
   have okg := grp_ok gd okl (F := 61) (by omega)
   have C1 := gcan_ (grp il 61 (ldO [111] l)).1 54 (by omega) okg il (by omega) gd.ok
   have L := FCall.wk (lload20_ l hR) (Wk.refl _)
   (conv => whnf)
   refine CallLeaf.oa [2056] (FA) rfl rfl rfl rfl ?_
   (conv => whnf)
   refine LWp.loop hT hmix [] (fun k : Nat => [(8, vI k)]) (fun k => [(2056, .arr il.length 6 (il.map Inp.enc))]) (fun k => k ≤ il.length) (fun k => il.length - k) 0 (Nat.zero_le _) ?_
   (conv => whnf)
   refine ⟨?_, fun k hk => ?_⟩
   ·(repeat' (first | exact trivial | exact Wk.refl _ | exact ObWk.refl _ | exact rfl | exact ⟨_, rfl⟩ | exact Nat.zero_lt_one | refine And.intro ?_ ?_ | unfold okTo | (unfold okO; conv => whnf) | (unfold okS; conv => whnf) | (unfold SlotOk; conv => whnf) | (unfold ObjOk; conv => whnf) | (unfold okCells; conv => whnf) | (unfold liveTo; conv => whnf) | exact Nat.zero_lt_succ _))
   ·(conv => whnf)
    refine split_intro (fun h => ?_) (fun h => ?_)
    ·have hlt : k < il.length := by have := of_decide_eq_true h; omega
     obtain ⟨x, hx⟩ := exI hlt
     have hxm := List.mem_of_getElem? hx
     have CP := copy_ x.view.members (by have := gd.mem x hxm; omega) (fun m hm => by have := (gd.ok x hxm).v.b m hm; omega)
     (conv => whnf)
     refine ⟨⟨rfl, rfl, by omega, by omega, by rw [List.length_map]; omega⟩, ?_⟩
     (conv => whnf)
     refine ⟨rfl, ?_⟩
     (conv => whnf)
     refine ⟨rfl, ?_⟩
     (conv => whnf)
     refine ⟨x.enc, ⟨rfl, rfl, by simp [hx]⟩, ?_⟩
     (conv => whnf)
     refine CallLeaf.wa (CP) rfl ?_
     (conv => whnf)
     refine ⟨⟨rfl, rfl, by omega, by omega, by rw [List.length_map]; omega⟩, ?_⟩
     (conv => whnf)
     refine ⟨rfl, ?_⟩
     (conv => whnf)
     refine ⟨rfl, ?_⟩
     (conv => whnf)
     refine ⟨x.enc, il.map Inp.enc, ⟨rfl, rfl, by simp [hx]⟩, ⟨by show (5 : Nat) ≤ 6; decide, ?_⟩, ?_⟩
     ·have hk' : (il.map Inp.enc)[k]? = some x.enc := by simp [hx]
      rw [Int.toNat_natCast, Nat.zero_add]
      have hlt' : k < (il.map Inp.enc).length := by rw [List.length_map]; exact hlt
      rw [List.getElem?_eq_getElem hlt'] at hk'
      injection hk' with hk'
      show (il.map Inp.enc).set k x.enc = _
      rw [← hk']
      exact List.set_getElem_self hlt'
     ·(conv => whnf)
      refine ⟨_, add64 (c := ((k + 1 : Nat) : Int)) (by (try simp only []); omega) (by omega), ?_⟩
      (conv => whnf)
      refine ⟨k + 1, ⟨by omega, by simp only []; omega⟩, ?_⟩
      (repeat' (first | exact trivial | exact Wk.refl _ | exact ObWk.refl _ | exact rfl | exact ⟨_, rfl⟩ | exact Nat.zero_lt_one | refine And.intro ?_ ?_ | unfold okTo | (unfold okO; conv => whnf) | (unfold okS; conv => whnf) | (unfold SlotOk; conv => whnf) | (unfold ObjOk; conv => whnf) | (unfold okCells; conv => whnf) | (unfold liveTo; conv => whnf) | exact Nat.zero_lt_succ _))
    ·(conv => whnf)
     refine LWp.cutN hT hmix 7 [] [] (fun _ : Unit => [(7, .list .nat (il.map Inp.enc)), (9, .ptr 4608 0)]) (fun _ => [(4608, .cells [.nil, mN, vI 0, mN])]) [2056] (fun _ => True) ?_
     (conv => whnf)
     refine ⟨?_, fun _ _ => ?_⟩
     ·refine ⟨(), trivial, ?_⟩
      (repeat' (first | exact trivial | exact Wk.refl _ | exact ObWk.refl _ | exact rfl | exact ⟨_, rfl⟩ | exact Nat.zero_lt_one | refine And.intro ?_ ?_ | unfold okTo | (unfold okO; conv => whnf) | (unfold okS; conv => whnf) | (unfold SlotOk; conv => whnf) | (unfold ObjOk; conv => whnf) | (unfold okCells; conv => whnf) | (unfold liveTo; conv => whnf) | exact Nat.zero_lt_succ _))
      ·simp
      ·omega
      ·exact Wk.of_eq (by rw [List.drop_zero, List.take_of_length_le (by simp)])
     ·(conv => whnf)
      refine CallLeaf.oa [4608] (L) rfl rfl rfl rfl ?_
      (conv => whnf)
      refine CallLeaf.oa [4608] (G1) rfl rfl rfl rfl ?_
      (conv => whnf)
      refine CallLeaf.oa [4608] (C1) rfl rfl rfl rfl ?_
      (conv => whnf)
      refine LWp.loop hT hmix [] (fun k : Nat => [(10, vI k)]) (fun _ => []) (fun k => k ≤ il.length) (fun k => il.length - k) 0 (Nat.zero_le _) ?_
      (conv => whnf)
      refine ⟨?_, fun k hk => ?_⟩
      ·(repeat' (first | exact trivial | exact Wk.refl _ | exact ObWk.refl _ | exact rfl | exact ⟨_, rfl⟩ | exact Nat.zero_lt_one | refine And.intro ?_ ?_ | unfold okTo | (unfold okO; conv => whnf) | (unfold okS; conv => whnf) | (unfold SlotOk; conv => whnf) | (unfold ObjOk; conv => whnf) | (unfold okCells; conv => whnf) | (unfold liveTo; conv => whnf) | exact Nat.zero_lt_succ _))
      ·(conv => whnf)
       refine split_intro (fun h6 => ?_) (fun h6 => ?_)
       ·have hlt : k < il.length := by have := of_decide_eq_true h6; rw [List.length_map] at this; omega
        obtain ⟨x, hx⟩ := exI hlt
        have hxo := (gd.ok x (List.mem_of_getElem? hx)).o.n
        have SI := sameI_ x x (by omega)
        rw [sameI_refl] at SI
        (conv => whnf)
        refine ⟨_, ⟨by omega, getMap hx⟩, ?_⟩
        (conv => whnf)
        refine ⟨_, ⟨by omega, getMap hx⟩, ?_⟩
        (conv => whnf)
        refine ⟨_, ⟨by omega, getMap hx⟩, ?_⟩
        (conv => whnf)
        refine ⟨_, ⟨by omega, getMap hx⟩, ?_⟩
        (conv => whnf)
        refine ⟨_, ⟨by omega, getMap hx⟩, ?_⟩
        (conv => whnf)
        refine ⟨_, ⟨by omega, getMap hx⟩, ?_⟩
        (conv => whnf)
        refine CallLeaf.wa (SI) rfl ?_
        (conv => whnf)
        refine ⟨_, add64 (c := ((k + 1 : Nat) : Int)) (by (try simp only []); omega) (by omega), ?_⟩
        (conv => whnf)
        refine ⟨k + 1, ⟨by omega, by simp only []; omega⟩, ?_⟩
        (repeat' (first | exact trivial | exact Wk.refl _ | exact ObWk.refl _ | exact rfl | exact ⟨_, rfl⟩ | exact Nat.zero_lt_one | refine And.intro ?_ ?_ | unfold okTo | (unfold okO; conv => whnf) | (unfold okS; conv => whnf) | (unfold SlotOk; conv => whnf) | (unfold ObjOk; conv => whnf) | (unfold okCells; conv => whnf) | (unfold liveTo; conv => whnf) | exact Nat.zero_lt_succ _))
       ·(conv => whnf)
        exact Wk.refl _
end Go.Proofs.YtfbmknghfhancaaDoor

namespace Go.Proofs.YtfbmknghfhancaaDoor
open Go Go.AL Go.AL.Bd Go.AL.Tb Go.AL.Sc
set_option maxRecDepth 100000
set_option maxHeartbeats 4000000
abbrev vw (x : List Mem) : View := ⟨x, x.map fun m => defsOf m.data⟩
theorem scanOnce_ (l : List Ob.Obj) (x : List Mem) (hx : ∀ m ∈ x, OkM m) : FCall Tryd.prog Gl 8 [LO l, LM x] [] (vB true) [] := by
 have V := view_ x hx
 refine FCall.enterL hT hmix [] Tryd.func8 rfl rfl rfl fun hbd => ?_
 cases hv : (viewR x).2 with
 | false =>
  rw [hv] at V
  generalize (viewR x).1 = v at V
  (conv => whnf)
  refine CallLeaf.wa (V) rfl ?_
  (conv => whnf)
  refine CallLeaf.wa (awake_19_) rfl ?_
  (((conv => whnf)); (refine CallLeaf.wa (awake_19_) rfl ?_); ((conv => whnf)); exact Wk.refl _)
 | true =>
  obtain ⟨e1, okv, hnm⟩ := viewR_ok hv
  rw [hv, e1] at V
  have hn := okv.n
  replace hn : x.length ≤ 12 := hn
  (conv => whnf)
  refine CallLeaf.wa (V) rfl ?_
  (conv => whnf)
  refine CallLeaf.wa (awake_19_) rfl ?_
  (conv => whnf)
  refine CallLeaf.wa (right_ l) rfl ?_
  (conv => whnf)
  refine split_intro (fun hr => ?_) (fun hr => ?_)
  ·(((conv => whnf)); (refine CallLeaf.wa (awake_19_) rfl ?_); ((conv => whnf)); exact Wk.refl _)
  ·have hR := not_f hr
   have hll := (rightO_iff.1 hR).1
   have inv := fun k => onceS_inv (f := xa) (g := [111]) (by decide) okv (by decide) (x.length + 1) (l.take k) (fun o ho => right_okO hR o (List.mem_of_mem_take ho))
   (conv => whnf)
   refine LWp.loop hT hmix [] (fun k : Nat => [(8, vI k)]) (fun k => [(2048, stB (onceS xa [111] (vw x) (x.length + 1) (l.take k)))]) (fun k => k ≤ l.length) (fun k => l.length - k) 0 (Nat.zero_le _) ?_
   (conv => whnf)
   refine ⟨?_, fun k hk => ?_⟩
   ·(repeat' (first | exact trivial | exact Wk.refl _ | exact ObWk.refl _ | exact rfl | exact ⟨_, rfl⟩ | exact Nat.zero_lt_one | refine And.intro ?_ ?_ | unfold okTo | (unfold okO; conv => whnf) | (unfold okS; conv => whnf) | (unfold SlotOk; conv => whnf) | (unfold ObjOk; conv => whnf) | (unfold okCells; conv => whnf) | (unfold liveTo; conv => whnf) | exact Nat.zero_lt_succ _))
    exact stB_zero
   ·obtain ⟨i1, i2, i3, i4⟩ := inv k
    have hlk : (l.take k).length ≤ 12 := by rw [List.length_take]; omega
    have hlf := lft_le xa (vw x) (onceS xa [111] (vw x) (x.length + 1) (l.take k))
    replace i3 : (onceS xa [111] (vw x) (x.length + 1) (l.take k)).us.length + lft xa (vw x) (onceS xa [111] (vw x) (x.length + 1) (l.take k)) = (l.take k).length + x.length := i3
    replace hlf : lft xa (vw x) (onceS xa [111] (vw x) (x.length + 1) (l.take k)) ≤ x.length := hlf
    have i5 := i4.mono (w' := 24) (by show (l.take k).length + x.length - _ ≤ 24; omega)
    (conv => whnf)
    refine split_intro (fun h => ?_) (fun h => ?_)
    ·have hlt : k < l.length := by have := of_decide_eq_true h; rw [List.length_map] at this; omega
     obtain ⟨o, ho⟩ := exI hlt
     have hoo := right_okO hR o (List.mem_of_getElem? ho)
     have O := objS_ [111] (onceS xa [111] (vw x) (x.length + 1) (l.take k)) o 24 (by omega) i5 hoo
     have A := archS_ xa (vw x) (Sc.loadO (onceS xa [111] (vw x) (x.length + 1) (l.take k)) [111] o) (x.length + 1) 25 (by have := lft_le xa (vw x) (Sc.loadO (onceS xa [111] (vw x) (x.length + 1) (l.take k)) [111] o); show _ < x.length + 1; exact Nat.lt_succ_of_le this) (by show 25 + 2 * x.length ≤ 300; omega) (i5.loadO [111] hoo) okv (by decide)
     rw [← onceS_snoc ho] at A
     (conv => whnf)
     refine ⟨_, ⟨by omega, getMap ho⟩, ?_⟩
     (conv => whnf)
     refine CallLeaf.oa [2048] (O) rfl rfl rfl rfl ?_
     (conv => whnf)
     refine CallLeaf.wa (forward_ (vw x)) rfl ?_
     (conv => whnf)
     refine CallLeaf.oa [2048] (A) rfl rfl rfl rfl ?_
     (conv => whnf)
     refine ⟨_, add64 (c := ((k + 1 : Nat) : Int)) (by (try simp only []); omega) (by omega), ?_⟩
     (conv => whnf)
     refine ⟨k + 1, ⟨by omega, by simp only []; omega⟩, ?_⟩
     (repeat' (first | exact trivial | exact Wk.refl _ | exact ObWk.refl _ | exact rfl | exact ⟨_, rfl⟩ | exact Nat.zero_lt_one | refine And.intro ?_ ?_ | unfold okTo | (unfold okO; conv => whnf) | (unfold okS; conv => whnf) | (unfold SlotOk; conv => whnf) | (unfold ObjOk; conv => whnf) | (unfold okCells; conv => whnf) | (unfold liveTo; conv => whnf) | exact Nat.zero_lt_succ _))
    ·have hge : l.length ≤ k := by have := of_decide_eq_false h; rw [List.length_map] at this; omega
     have hnd := i2.nodup i1
     have hcnt : (onceS xa [111] (vw x) (x.length + 1) (l.take k)).us.length ≤ l.length + x.length := by
      have : (l.take k).length ≤ l.length := List.length_take_le' _ _
      omega
     have U := unitsS_ (onceS xa [111] (vw x) (x.length + 1) (l.take k)) (by omega)
     obtain ⟨us, hus⟩ : ∃ us, us = (onceS xa [111] (vw x) (x.length + 1) (l.take k)).us := ⟨_, rfl⟩
     rw [← hus] at U hcnt hnd
     (conv => whnf)
     refine CallLeaf.oa [2048] (U) rfl rfl rfl rfl ?_
     (conv => whnf)
     refine LWp.loop hT hmix [] (fun i : Nat => [(10, vI i)]) (fun _ => []) (fun i => i ≤ us.length) (fun i => us.length - i) 0 (Nat.zero_le _) ?_
     (conv => whnf)
     refine ⟨?_, fun i hi => ?_⟩
     ·(repeat' (first | exact trivial | exact Wk.refl _ | exact ObWk.refl _ | exact rfl | exact ⟨_, rfl⟩ | exact Nat.zero_lt_one | refine And.intro ?_ ?_ | unfold okTo | (unfold okO; conv => whnf) | (unfold okS; conv => whnf) | (unfold SlotOk; conv => whnf) | (unfold ObjOk; conv => whnf) | (unfold okCells; conv => whnf) | (unfold liveTo; conv => whnf) | exact Nat.zero_lt_succ _))
     ·(conv => whnf)
      refine split_intro (fun h1 => ?_) (fun h1 => ?_)
      ·have hlt1 : i < us.length := by have := of_decide_eq_true h1; rw [List.length_map] at this; omega
       obtain ⟨u, hu⟩ := exI hlt1
       (conv => whnf)
       refine LWp.loop hT hmix [] (fun k : Nat => [(11, vI k)]) (fun _ => []) (fun k => k ≤ i) (fun k => i - k) 0 (Nat.zero_le _) ?_
       (conv => whnf)
       refine ⟨?_, fun k hk => ?_⟩
       ·(repeat' (first | exact trivial | exact Wk.refl _ | exact ObWk.refl _ | exact rfl | exact ⟨_, rfl⟩ | exact Nat.zero_lt_one | refine And.intro ?_ ?_ | unfold okTo | (unfold okO; conv => whnf) | (unfold okS; conv => whnf) | (unfold SlotOk; conv => whnf) | (unfold ObjOk; conv => whnf) | (unfold okCells; conv => whnf) | (unfold liveTo; conv => whnf) | exact Nat.zero_lt_succ _))
       ·(conv => whnf)
        refine split_intro (fun h2 => ?_) (fun h2 => ?_)
        ·have hlt2 : k < i := by have := of_decide_eq_true h2; omega
         obtain ⟨u', hu'⟩ := exI (show k < us.length by omega)
         (conv => whnf)
         refine ⟨_, ⟨by omega, getMap hu⟩, ?_⟩
         (conv => whnf)
         refine split_intro (fun h3 => ?_) (fun h3 => ?_)
         ·have hf : u.file = xa := by simpa using h3
          (conv => whnf)
          refine ⟨_, ⟨by omega, getMap hu⟩, ?_⟩
          (conv => whnf)
          refine ⟨_, ⟨by omega, getMap hu'⟩, ?_⟩
          (conv => whnf)
          refine ⟨plainU u, ?_⟩
          (conv => whnf)
          refine split_intro (fun h4 => ?_) (fun h4 => ?_)
          ·exfalso
           have he : u = u' := of_decide_eq_true (by rw [← eqU]; exact h4)
           rw [← he] at hu'
           exact nodup_at hnd hlt2 hu hu' (by simp [hf])
          ·(conv => whnf)
           refine ⟨_, add64 (c := ((k + 1 : Nat) : Int)) (by (try simp only []); omega) (by omega), ?_⟩
           (conv => whnf)
           refine ⟨k + 1, ⟨by omega, by simp only []; omega⟩, ?_⟩
           (repeat' (first | exact trivial | exact Wk.refl _ | exact ObWk.refl _ | exact rfl | exact ⟨_, rfl⟩ | exact Nat.zero_lt_one | refine And.intro ?_ ?_ | unfold okTo | (unfold okO; conv => whnf) | (unfold okS; conv => whnf) | (unfold SlotOk; conv => whnf) | (unfold ObjOk; conv => whnf) | (unfold okCells; conv => whnf) | (unfold liveTo; conv => whnf) | exact Nat.zero_lt_succ _))
         ·(conv => whnf)
          refine ⟨_, add64 (c := ((k + 1 : Nat) : Int)) (by (try simp only []); omega) (by omega), ?_⟩
          (conv => whnf)
          refine ⟨k + 1, ⟨by omega, by simp only []; omega⟩, ?_⟩
          (repeat' (first | exact trivial | exact Wk.refl _ | exact ObWk.refl _ | exact rfl | exact ⟨_, rfl⟩ | exact Nat.zero_lt_one | refine And.intro ?_ ?_ | unfold okTo | (unfold okO; conv => whnf) | (unfold okS; conv => whnf) | (unfold SlotOk; conv => whnf) | (unfold ObjOk; conv => whnf) | (unfold okCells; conv => whnf) | (unfold liveTo; conv => whnf) | exact Nat.zero_lt_succ _))
        ·(conv => whnf)
         refine ⟨_, add64 (c := ((i + 1 : Nat) : Int)) (by (try simp only []); omega) (by omega), ?_⟩
         (conv => whnf)
         refine ⟨i + 1, ⟨by omega, by simp only []; omega⟩, ?_⟩
         (repeat' (first | exact trivial | exact Wk.refl _ | exact ObWk.refl _ | exact rfl | exact ⟨_, rfl⟩ | exact Nat.zero_lt_one | refine And.intro ?_ ?_ | unfold okTo | (unfold okO; conv => whnf) | (unfold okS; conv => whnf) | (unfold SlotOk; conv => whnf) | (unfold ObjOk; conv => whnf) | (unfold okCells; conv => whnf) | (unfold liveTo; conv => whnf) | exact Nat.zero_lt_succ _))
      ·(conv => whnf)
       refine ⟨_, add64 (c := ((l.length + x.length : Nat) : Int)) (by simp only [List.length_map]; omega) (by omega), ?_⟩
       (conv => whnf)
       exact Wk.bool (by rw [List.length_map]; simp only [decide_eq_true_eq]; omega)
theorem scanNothing_ (l : List Ob.Obj) (x : List Mem) (hx : ∀ m ∈ x, OkM m) : FCall Tryd.prog Gl 9 [LO l, LM x] [] (vB true) [] := by
 have V := view_ x hx
 refine FCall.enterL hT hmix [] Tryd.func9 rfl rfl rfl fun hbd => ?_
 cases hv : (viewR x).2 with
 | false =>
  rw [hv] at V
  generalize (viewR x).1 = v at V
  (conv => whnf)
  refine CallLeaf.wa (V) rfl ?_
  (conv => whnf)
  refine CallLeaf.wa (awake_19_) rfl ?_
  (((conv => whnf)); (refine CallLeaf.wa (awake_19_) rfl ?_); ((conv => whnf)); exact Wk.refl _)
 | true =>
  obtain ⟨e1, okv, hnm⟩ := viewR_ok hv
  rw [hv, e1] at V
  have hn := okv.n
  replace hn : x.length ≤ 12 := hn
  (conv => whnf)
  refine CallLeaf.wa (V) rfl ?_
  (conv => whnf)
  refine CallLeaf.wa (awake_19_) rfl ?_
  (conv => whnf)
  refine CallLeaf.wa (right_ l) rfl ?_
  (conv => whnf)
  refine split_intro (fun hr => ?_) (fun hr => ?_)
  ·(((conv => whnf)); (refine CallLeaf.wa (awake_19_) rfl ?_); ((conv => whnf)); exact Wk.refl _)
  ·have hR := not_f hr
   have hll := (rightO_iff.1 hR).1
   have okw : ∀ k, OkS (ldO [111] ((l.map weakO).take k)) 12 := fun k => by
    refine ⟨by show ((l.map weakO).take k).length ≤ 12; rw [List.length_take, List.length_map]; omega, fun o ho => ?_, by simp [ldO], fun p hp => by simp [ldO] at hp⟩
    obtain ⟨o', ho', rfl⟩ := List.mem_map.1 (List.mem_of_mem_take (show o ∈ (l.map weakO).take k from ho))
    exact weakO_ok (right_okO hR o' ho')
   (conv => whnf)
   refine LWp.loop hT hmix [] (fun k : Nat => [(8, vI k)]) (fun k => [(2048, stB (ldO [111] ((l.map weakO).take k)))]) (fun k => k ≤ l.length) (fun k => l.length - k) 0 (Nat.zero_le _) ?_
   (conv => whnf)
   refine ⟨?_, fun k hk => ?_⟩
   ·(repeat' (first | exact trivial | exact Wk.refl _ | exact ObWk.refl _ | exact rfl | exact ⟨_, rfl⟩ | exact Nat.zero_lt_one | refine And.intro ?_ ?_ | unfold okTo | (unfold okO; conv => whnf) | (unfold okS; conv => whnf) | (unfold SlotOk; conv => whnf) | (unfold ObjOk; conv => whnf) | (unfold okCells; conv => whnf) | (unfold liveTo; conv => whnf) | exact Nat.zero_lt_succ _))
    exact stB_zero
   ·(conv => whnf)
    refine split_intro (fun h => ?_) (fun h => ?_)
    ·have hlt : k < l.length := by have := of_decide_eq_true h; rw [List.length_map] at this; omega
     obtain ⟨o, ho⟩ := exI hlt
     have hoo := right_okO hR o (List.mem_of_getElem? ho)
     have how : (l.map weakO)[k]? = some (weakO o) := by simp [ho]
     have O := objS_ [111] (ldO [111] ((l.map weakO).take k)) (weakO o) 12 (by omega) (okw k) (weakO_ok hoo)
     rw [ldO_snoc how] at O
     obtain ⟨sy, bo⟩ := o
     have hsl : sy.length ≤ 100 := hoo.n
     clear hoo
     (conv => whnf)
     refine LWp.loop hT hmix [] (fun i : Nat => [(10, vI i)]) (fun i => [(4096, .cells [.list (.tok 403) (((sy.take i).map weakS).map Ob.Sym.enc), .nil]), (403, .tok (((sy.take i).map weakS).map Ob.Sym.enc).length 4)]) (fun i => i ≤ sy.length) (fun i => sy.length - i) 0 (Nat.zero_le _) ?_
     (conv => whnf)
     refine ⟨?_, fun i hi => ?_⟩
     ·(repeat' (first | exact trivial | exact Wk.refl _ | exact ObWk.refl _ | exact rfl | exact ⟨_, rfl⟩ | exact Nat.zero_lt_one | refine And.intro ?_ ?_ | unfold okTo | (unfold okO; conv => whnf) | (unfold okS; conv => whnf) | (unfold SlotOk; conv => whnf) | (unfold ObjOk; conv => whnf) | (unfold okCells; conv => whnf) | (unfold liveTo; conv => whnf) | exact Nat.zero_lt_succ _))
     ·(conv => whnf)
      refine ⟨_, ⟨by omega, getMap ho⟩, ?_⟩
      (conv => whnf)
      refine split_intro (fun h1 => ?_) (fun h1 => ?_)
      ·have hlt1 : i < sy.length := by have := of_decide_eq_true h1; rw [List.length_map] at this; exact Int.ofNat_lt.1 this
       obtain ⟨s, hs⟩ := exI hlt1
       have hst : (sy.take (i + 1)).map weakS = (sy.take i).map weakS ++ [weakS s] := by rw [List.take_add_one, hs]; simp
       have hz : ((sy.take (i + 1)).map weakS).length ≤ i + 1 := by rw [List.length_map]; exact List.length_take_le _ _
       (conv => whnf)
       refine ⟨_, ⟨by omega, getMap ho⟩, ?_⟩
       (conv => whnf)
       refine ⟨_, ⟨by omega, getMap hs⟩, ?_⟩
       (conv => whnf)
       refine split_intro (fun h2 => ?_) (fun h2 => ?_)
       ·have hb : s.bind = 4 := by simpa using h2
        have hw : weakS s = ⟨s.name, 5, s.size, s.align⟩ := by simp [weakS, hb]
        rw [hw] at hst
        (conv => whnf)
        refine ⟨_, appL (f := Ob.Sym.enc) (xs := (sy.take i).map weakS) (ys := [⟨s.name, 5, s.size, s.align⟩]) (zs := (sy.take (i + 1)).map weakS) rfl rfl (fun _ => rfl) hst.symm (by show _ * 40 ≤ _; omega), ?_⟩
        (conv => whnf)
        refine ⟨_, add64 (c := ((i + 1 : Nat) : Int)) (by (try simp only []); omega) (by omega), ?_⟩
        (conv => whnf)
        refine ⟨i + 1, ⟨by omega, by simp only []; omega⟩, ?_⟩
        (repeat' (first | exact trivial | exact Wk.refl _ | exact ObWk.refl _ | exact rfl | exact ⟨_, rfl⟩ | exact Nat.zero_lt_one | refine And.intro ?_ ?_ | unfold okTo | (unfold okO; conv => whnf) | (unfold okS; conv => whnf) | (unfold SlotOk; conv => whnf) | (unfold ObjOk; conv => whnf) | (unfold okCells; conv => whnf) | (unfold liveTo; conv => whnf) | exact Nat.zero_lt_succ _))
       ·have hb : ¬ s.bind = 4 := by simpa using h2
        have hw : weakS s = s := by simp [weakS, hb]
        rw [hw] at hst
        (conv => whnf)
        refine ⟨_, appL (f := Ob.Sym.enc) (xs := (sy.take i).map weakS) (ys := [s]) (zs := (sy.take (i + 1)).map weakS) rfl rfl (fun _ => rfl) hst.symm (by show _ * 40 ≤ _; omega), ?_⟩
        (conv => whnf)
        refine ⟨_, add64 (c := ((i + 1 : Nat) : Int)) (by (try simp only []); omega) (by omega), ?_⟩
        (conv => whnf)
        refine ⟨i + 1, ⟨by omega, by simp only []; omega⟩, ?_⟩
        (repeat' (first | exact trivial | exact Wk.refl _ | exact ObWk.refl _ | exact rfl | exact ⟨_, rfl⟩ | exact Nat.zero_lt_one | refine And.intro ?_ ?_ | unfold okTo | (unfold okO; conv => whnf) | (unfold okS; conv => whnf) | (unfold SlotOk; conv => whnf) | (unfold ObjOk; conv => whnf) | (unfold okCells; conv => whnf) | (unfold liveTo; conv => whnf) | exact Nat.zero_lt_succ _))
      ·have hge1 : sy.length ≤ i := by have := of_decide_eq_false h1; rw [List.length_map] at this; exact Nat.not_lt.1 fun h => this (Int.ofNat_lt.2 h)
       have e2 : (sy.take i).map weakS = sy.map weakS := by rw [List.take_of_length_le hge1]
       have O' : FCall Tryd.prog Gl 24 [.ptr 0 0, sD [111], .agg [.list .any (((sy.take i).map weakS).map Ob.Sym.enc), LB []]] [stB (ldO [111] ((l.map weakO).take k))] (vI (ldO [111] ((l.map weakO).take k)).os.length) [stB (ldO [111] ((l.map weakO).take (k + 1)))] := by
        rw [e2]; exact O
       (conv => whnf)
       refine CallLeaf.oa [2048] (O') rfl rfl rfl rfl ?_
       (conv => whnf)
       refine ⟨_, add64 (c := ((k + 1 : Nat) : Int)) (by (try simp only []); omega) (by omega), ?_⟩
       (conv => whnf)
       refine ⟨k + 1, ⟨by omega, by simp only []; omega⟩, ?_⟩
       (repeat' (first | exact trivial | exact Wk.refl _ | exact ObWk.refl _ | exact rfl | exact ⟨_, rfl⟩ | exact Nat.zero_lt_one | refine And.intro ?_ ?_ | unfold okTo | (unfold okO; conv => whnf) | (unfold okS; conv => whnf) | (unfold SlotOk; conv => whnf) | (unfold ObjOk; conv => whnf) | (unfold okCells; conv => whnf) | (unfold liveTo; conv => whnf) | exact Nat.zero_lt_succ _))
    ·have hge : l.length ≤ k := by have := of_decide_eq_false h; rw [List.length_map] at this; omega
     have e3 : (l.map weakO).take k = l.map weakO := List.take_of_length_le (by simpa using hge)
     have okk := okw k
     have A := archS_ xa (vw x) (ldO [111] (l.map weakO)) (x.length + 1) 12 (by have := lft_le xa (vw x) (ldO [111] (l.map weakO)); show _ < x.length + 1; exact Nat.lt_succ_of_le this) (by show 12 + 2 * x.length ≤ 300; omega) (by rw [← e3]; exact okk) okv (by decide)
     rw [weak_arch] at A
     have U := unitsS_ (ldO [111] (l.map weakO)) (by simp only [ldO, List.length_map]; omega)
     have C := canS_ xa (vw x) (ldO [111] (l.map weakO)) 12 (by omega) (by rw [← e3]; exact okk) (by decide) (by show x.length ≤ 1000; omega)
     rw [weak_canL] at C
     have hul : (ldO [111] (l.map weakO)).us.length = l.length := by simp [ldO]
     rw [← e3] at A U C hul
     (conv => whnf)
     refine CallLeaf.wa (forward_ (vw x)) rfl ?_
     (conv => whnf)
     refine CallLeaf.oa [2048] (A) rfl rfl rfl rfl ?_
     (conv => whnf)
     refine CallLeaf.oa [2048] (U) rfl rfl rfl rfl ?_
     (conv => whnf)
     refine split_intro (fun h5 => ?_) (fun h5 => absurd (congrArg (fun n : Nat => (n : Int)) hul) (by simpa using h5))
     (conv => whnf)
     refine CallLeaf.wa (forward_ (vw x)) rfl ?_
     (conv => whnf)
     refine CallLeaf.oa [2048] (C) rfl rfl rfl rfl ?_
     (conv => whnf)
     exact Wk.refl _
end Go.Proofs.YtfbmknghfhancaaDoor
