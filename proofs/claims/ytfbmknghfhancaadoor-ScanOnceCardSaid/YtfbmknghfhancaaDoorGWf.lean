/- Groups. No condition. -/
import Derived.Test.YtfbmknghfhancaaDoorGAc
import Derived.Test.YtfbmknghfhancaaDoorGWe
import Derived.Test.YtfbmknghfhancaaDoorGPa
set_option linter.unusedVariables false
set_option linter.unusedSimpArgs false
namespace Go.Proofs.YtfbmknghfhancaaDoor
open Go Go.AL Go.AL.Bd Go.AL.Tb Go.AL.Sc Go.AL.Gp
set_option maxRecDepth 100000
set_option maxHeartbeats 4000000
abbrev iD (x : Inp) : D := .agg x.enc
abbrev fF (f : Nat) : D := .func (.func f) [] []
theorem isObj_ (x : Inp) : FCall Tryd.prog Gl 61 [iD x] [] (vB (!x.arch)) [] := by
 refine FCall.enterL hT hmix [] Tryd.func61 rfl rfl rfl fun hbd => ?_
 (conv => whnf)
 exact Wk.refl _
theorem isArch_ (x : Inp) : FCall Tryd.prog Gl 64 [iD x] [] (vB x.arch) [] := by
 refine FCall.enterL hT hmix [] Tryd.func64 rfl rfl rfl fun hbd => ?_
 (conv => whnf)
 exact Wk.refl _
theorem filter_step {α : Type} {l : List α} {p : α → Bool} {k : Nat} {x : α} (h : l[k]? = some x) : (l.take (k + 1)).filter p = (l.take k).filter p ++ (if p x = true then [x] else []) := by
 rw [List.take_add_one, h, Option.toList_some, List.filter_append]
 congr 1
 cases hp : p x <;> simp [List.filter, hp]
theorem filter_le {α : Type} (l : List α) (p : α → Bool) (k : Nat) : ((l.take k).filter p).length ≤ k := Nat.le_trans (List.length_filter_le _ _) (List.length_take_le _ _)
theorem whereO_ (l : List Inp) (hl : l.length ≤ 1000000) : FCall Tryd.prog Gl 43 [LIp l, fF 61] [] (LIpn (objs l)) [] := by
 refine FCall.enterL hT hmix [] Tryd.func43 rfl rfl rfl fun hbd => ?_
 (conv => whnf)
 generalize hp : (fun x : Inp => !x.arch) = p
 have hpx : ∀ x : Inp, p x = !x.arch := fun x => by rw [← hp]
 (refine LWp.loop hT hmix [] (fun k : Nat => [(10, vI k), (5, .list (.tok 403) (((l.take k).filter p).map Inp.enc))]) (fun k => [(403, .tok (((l.take k).filter p).map Inp.enc).length 6)]) (fun k => k ≤ l.length) (fun k => l.length - k) 0 (Nat.zero_le _) ?_)
 (conv => whnf)
 refine ⟨?_, fun k hk => ?_⟩
 ·(repeat' (first | exact trivial | exact Wk.refl _ | exact ObWk.refl _ | exact rfl | exact ⟨_, rfl⟩ | exact Nat.zero_lt_one | refine And.intro ?_ ?_ | unfold okTo | (unfold okO; conv => whnf) | (unfold okS; conv => whnf) | (unfold SlotOk; conv => whnf) | (unfold ObjOk; conv => whnf) | (unfold okCells; conv => whnf) | (unfold liveTo; conv => whnf) | exact Nat.zero_lt_succ _))
 ·have hz := filter_le l p (k + 1)
  (conv => whnf)
  refine split_intro (fun h => ?_) (fun h => ?_)
  ·have hlt : k < l.length := by have := of_decide_eq_true h; rw [List.length_map] at this; omega
   obtain ⟨x, hx⟩ := exI hlt
   have hst := filter_step (p := p) hx
   have hc := isObj_ x
   rw [← hpx x] at hc
   (conv => whnf)
   refine ⟨_, ⟨by omega, getMap hx⟩, ?_⟩
   (conv => whnf)
   refine CallLeaf.wa (hc) rfl ?_
   (conv => whnf)
   refine split_intro (fun h1 => ?_) (fun h1 => ?_)
   ·rw [if_pos h1] at hst
    (conv => whnf)
    refine ⟨_, appL (f := Inp.enc) (xs := (l.take k).filter p) (ys := [x]) (zs := (l.take (k + 1)).filter p) rfl rfl (fun _ => rfl) hst.symm (by show _ * 120 ≤ _; omega), ?_⟩
    (conv => whnf)
    refine ⟨_, add64 (c := ((k + 1 : Nat) : Int)) (by (try simp only []); omega) (by omega), ?_⟩
    (conv => whnf)
    refine ⟨k + 1, ⟨by omega, by simp only []; omega⟩, ?_⟩
    (repeat' (first | exact trivial | exact Wk.refl _ | exact ObWk.refl _ | exact rfl | exact ⟨_, rfl⟩ | exact Nat.zero_lt_one | refine And.intro ?_ ?_ | unfold okTo | (unfold okO; conv => whnf) | (unfold okS; conv => whnf) | (unfold SlotOk; conv => whnf) | (unfold ObjOk; conv => whnf) | (unfold okCells; conv => whnf) | (unfold liveTo; conv => whnf) | exact Nat.zero_lt_succ _))
   ·rw [if_neg (by rw [h1]; simp), List.append_nil] at hst
    (conv => whnf)
    refine ⟨_, add64 (c := ((k + 1 : Nat) : Int)) (by (try simp only []); omega) (by omega), ?_⟩
    (conv => whnf)
    refine ⟨k + 1, ⟨by omega, by simp only []; omega⟩, ?_⟩
    dsimp only
    rw [hst]
    (repeat' (first | exact trivial | exact Wk.refl _ | exact ObWk.refl _ | exact rfl | exact ⟨_, rfl⟩ | exact Nat.zero_lt_one | refine And.intro ?_ ?_ | unfold okTo | (unfold okO; conv => whnf) | (unfold okS; conv => whnf) | (unfold SlotOk; conv => whnf) | (unfold ObjOk; conv => whnf) | (unfold okCells; conv => whnf) | (unfold liveTo; conv => whnf) | exact Nat.zero_lt_succ _))
  ·have hge : l.length ≤ k := by have := of_decide_eq_false h; rw [List.length_map] at this; omega
   (conv => whnf)
   exact Wk.of_eq (by subst hp; rw [List.take_of_length_le hge]; rfl)
theorem whereA_ (l : List Inp) (hl : l.length ≤ 1000000) : FCall Tryd.prog Gl 43 [LIp l, fF 64] [] (LIpn (archs l)) [] := by
 refine FCall.enterL hT hmix [] Tryd.func43 rfl rfl rfl fun hbd => ?_
 (conv => whnf)
 generalize hp : (fun x : Inp => x.arch) = p
 have hpx : ∀ x : Inp, p x = x.arch := fun x => by rw [← hp]
 (refine LWp.loop hT hmix [] (fun k : Nat => [(10, vI k), (5, .list (.tok 403) (((l.take k).filter p).map Inp.enc))]) (fun k => [(403, .tok (((l.take k).filter p).map Inp.enc).length 6)]) (fun k => k ≤ l.length) (fun k => l.length - k) 0 (Nat.zero_le _) ?_)
 (conv => whnf)
 refine ⟨?_, fun k hk => ?_⟩
 ·(repeat' (first | exact trivial | exact Wk.refl _ | exact ObWk.refl _ | exact rfl | exact ⟨_, rfl⟩ | exact Nat.zero_lt_one | refine And.intro ?_ ?_ | unfold okTo | (unfold okO; conv => whnf) | (unfold okS; conv => whnf) | (unfold SlotOk; conv => whnf) | (unfold ObjOk; conv => whnf) | (unfold okCells; conv => whnf) | (unfold liveTo; conv => whnf) | exact Nat.zero_lt_succ _))
 ·have hz := filter_le l p (k + 1)
  (conv => whnf)
  refine split_intro (fun h => ?_) (fun h => ?_)
  ·have hlt : k < l.length := by have := of_decide_eq_true h; rw [List.length_map] at this; omega
   obtain ⟨x, hx⟩ := exI hlt
   have hst := filter_step (p := p) hx
   have hc := isArch_ x
   rw [← hpx x] at hc
   (conv => whnf)
   refine ⟨_, ⟨by omega, getMap hx⟩, ?_⟩
   (conv => whnf)
   refine CallLeaf.wa (hc) rfl ?_
   (conv => whnf)
   refine split_intro (fun h1 => ?_) (fun h1 => ?_)
   ·rw [if_pos h1] at hst
    (conv => whnf)
    refine ⟨_, appL (f := Inp.enc) (xs := (l.take k).filter p) (ys := [x]) (zs := (l.take (k + 1)).filter p) rfl rfl (fun _ => rfl) hst.symm (by show _ * 120 ≤ _; omega), ?_⟩
    (conv => whnf)
    refine ⟨_, add64 (c := ((k + 1 : Nat) : Int)) (by (try simp only []); omega) (by omega), ?_⟩
    (conv => whnf)
    refine ⟨k + 1, ⟨by omega, by simp only []; omega⟩, ?_⟩
    (repeat' (first | exact trivial | exact Wk.refl _ | exact ObWk.refl _ | exact rfl | exact ⟨_, rfl⟩ | exact Nat.zero_lt_one | refine And.intro ?_ ?_ | unfold okTo | (unfold okO; conv => whnf) | (unfold okS; conv => whnf) | (unfold SlotOk; conv => whnf) | (unfold ObjOk; conv => whnf) | (unfold okCells; conv => whnf) | (unfold liveTo; conv => whnf) | exact Nat.zero_lt_succ _))
   ·rw [if_neg (by rw [h1]; simp), List.append_nil] at hst
    (conv => whnf)
    refine ⟨_, add64 (c := ((k + 1 : Nat) : Int)) (by (try simp only []); omega) (by omega), ?_⟩
    (conv => whnf)
    refine ⟨k + 1, ⟨by omega, by simp only []; omega⟩, ?_⟩
    dsimp only
    rw [hst]
    (repeat' (first | exact trivial | exact Wk.refl _ | exact ObWk.refl _ | exact rfl | exact ⟨_, rfl⟩ | exact Nat.zero_lt_one | refine And.intro ?_ ?_ | unfold okTo | (unfold okO; conv => whnf) | (unfold okS; conv => whnf) | (unfold SlotOk; conv => whnf) | (unfold ObjOk; conv => whnf) | (unfold okCells; conv => whnf) | (unfold liveTo; conv => whnf) | exact Nat.zero_lt_succ _))
  ·have hge : l.length ≤ k := by have := of_decide_eq_false h; rw [List.length_map] at this; omega
   (conv => whnf)
   exact Wk.of_eq (by subst hp; rw [List.take_of_length_le hge]; rfl)
theorem objects_ (l : List Inp) (hl : l.length ≤ 1000000) : FCall Tryd.prog Gl 38 [LIp l] [] (LIpn (objs l)) [] := by
 refine FCall.enterL hT hmix [] Tryd.func38 rfl rfl rfl fun hbd => ?_
 (conv => whnf)
 refine CallLeaf.wa (whereO_ l hl) rfl ?_
 (conv => whnf)
 exact Wk.refl _
theorem archives_ (l : List Inp) (hl : l.length ≤ 1000000) : FCall Tryd.prog Gl 40 [LIp l] [] (LIpn (archs l)) [] := by
 refine FCall.enterL hT hmix [] Tryd.func40 rfl rfl rfl fun hbd => ?_
 (conv => whnf)
 refine CallLeaf.wa (whereA_ l hl) rfl ?_
 (conv => whnf)
 exact Wk.refl _
abbrev fAgain : D := .func (.func 62) [] [.ptr 0 0]
abbrev fCalls : D := .func (.func 63) [] [.ptr 0 0]
theorem counting_ : FCall Tryd.prog Gl 39 [] [] (.tuple [fAgain, fCalls]) [.cells [vI 0]] := by
 refine FCall.enterO hT hmix [] Tryd.func39 rfl rfl rfl fun hbd => ?_
 (conv => whnf)
 refine ⟨[512], rfl, by (try unfold pullOk); (repeat' (first | exact trivial | exact ObWk.refl _ | refine And.intro ?_ ?_ | unfold pullOk)), ?_⟩
 exact Wk.refl _
theorem again_ (m : Int) (n : Nat) (hn : n ≤ 1000000) : FCall Tryd.prog Gl 62 [vI m, .ptr 0 0] [.cells [vI n]] (vB (decide (0 < m))) [.cells [vI ((n + 1 : Nat) : Int)]] := by
 refine FCall.enterO hT hmix [] Tryd.func62 rfl rfl rfl fun hbd => ?_
 (conv => whnf)
 refine ⟨_, add64 (c := ((n + 1 : Nat) : Int)) (by (try simp only []); omega) (by omega), ?_⟩
 (conv => whnf)
 refine ⟨[0], rfl, by (try unfold pullOk); (repeat' (first | exact trivial | exact ObWk.refl _ | refine And.intro ?_ ?_ | unfold pullOk)), ?_⟩
 exact Wk.refl _
theorem calls_ (n : Int) : FCall Tryd.prog Gl 63 [.ptr 0 0] [.cells [vI n]] (vI n) [.cells [vI n]] := by
 refine FCall.enterO hT hmix [] Tryd.func63 rfl rfl rfl fun hbd => ?_
 (conv => whnf)
 refine ⟨[0], rfl, by (try unfold pullOk); (repeat' (first | exact trivial | exact ObWk.refl _ | refine And.intro ?_ ?_ | unfold pullOk)), ?_⟩
 exact Wk.refl _
theorem gcan1_ (S : Ls) (w : Nat) (hw : w ≤ 400) (ok : OkS S w) (x : Inp) (hx : OkI x) : FCall Tryd.prog Gl 44 [iD x, .ptr 0 0] [.cells [.ptr 1 0], stB S] (vB (decide (0 < (canL S x.name x.view).length))) [.cells [.ptr 1 0], stB S] := by
 have C := canS_ x.name x.view S w hw ok hx.n (by have := hx.v.n; omega)
 refine FCall.enterO hT hmix [] Tryd.func44 rfl rfl rfl fun hbd => ?_
 (conv => whnf)
 refine CallLeaf.oa [1] (C) rfl rfl rfl rfl ?_
 (conv => whnf)
 refine ⟨[0, 1], rfl, by (try unfold pullOk); (repeat' (first | exact trivial | exact ObWk.refl _ | refine And.intro ?_ ?_ | unfold pullOk)), ?_⟩
 exact Wk.bool (by rw [List.length_map]; rw [decide_eq_decide]; omega)
theorem whereS_ (S : Ls) (w : Nat) (hw : w ≤ 400) (ok : OkS S w) (l : List Inp) (hl : l.length ≤ 1000000) (hI : ∀ x ∈ l, OkI x) :
  FCall Tryd.prog Gl 43 [LIp l, .func (.func 44) [] [.ptr 0 0]] [.cells [.ptr 1 0], stB S] (LIpn (l.filter fun x => decide (0 < (canL S x.name x.view).length))) [.cells [.ptr 1 0], stB S] := by
 refine FCall.enterO hT hmix [] Tryd.func43 rfl rfl rfl fun hbd => ?_
 (conv => whnf)
 generalize hp : (fun x : Inp => decide (0 < (canL S x.name x.view).length)) = p
 have hpx : ∀ x : Inp, p x = decide (0 < (canL S x.name x.view).length) := fun x => by rw [← hp]
 (refine LWp.loop hT hmix [] (fun k : Nat => [(10, vI k), (5, .list (.tok 403) (((l.take k).filter p).map Inp.enc))]) (fun k => [(403, .tok (((l.take k).filter p).map Inp.enc).length 6)]) (fun k => k ≤ l.length) (fun k => l.length - k) 0 (Nat.zero_le _) ?_)
 (conv => whnf)
 refine ⟨?_, fun k hk => ?_⟩
 ·(repeat' (first | exact trivial | exact Wk.refl _ | exact ObWk.refl _ | exact rfl | exact ⟨_, rfl⟩ | exact Nat.zero_lt_one | refine And.intro ?_ ?_ | unfold okTo | (unfold okO; conv => whnf) | (unfold okS; conv => whnf) | (unfold SlotOk; conv => whnf) | (unfold ObjOk; conv => whnf) | (unfold okCells; conv => whnf) | (unfold liveTo; conv => whnf) | exact Nat.zero_lt_succ _))
 ·have hz := filter_le l p (k + 1)
  (conv => whnf)
  refine split_intro (fun h => ?_) (fun h => ?_)
  ·have hlt : k < l.length := by have := of_decide_eq_true h; rw [List.length_map] at this; omega
   obtain ⟨x, hx⟩ := exI hlt
   have hst := filter_step (p := p) hx
   have hc := gcan1_ S w hw ok x (hI x (List.mem_of_getElem? hx))
   rw [← hpx x] at hc
   (conv => whnf)
   refine ⟨_, ⟨by omega, getMap hx⟩, ?_⟩
   (conv => whnf)
   refine CallLeaf.oa [0, 1] (hc) rfl rfl rfl rfl ?_
   (conv => whnf)
   refine split_intro (fun h1 => ?_) (fun h1 => ?_)
   ·rw [if_pos h1] at hst
    (conv => whnf)
    refine ⟨_, appL (f := Inp.enc) (xs := (l.take k).filter p) (ys := [x]) (zs := (l.take (k + 1)).filter p) rfl rfl (fun _ => rfl) hst.symm (by show _ * 120 ≤ _; omega), ?_⟩
    (conv => whnf)
    refine ⟨_, add64 (c := ((k + 1 : Nat) : Int)) (by (try simp only []); omega) (by omega), ?_⟩
    (conv => whnf)
    refine ⟨k + 1, ⟨by omega, by simp only []; omega⟩, ?_⟩
    (repeat' (first | exact trivial | exact Wk.refl _ | exact ObWk.refl _ | exact rfl | exact ⟨_, rfl⟩ | exact Nat.zero_lt_one | refine And.intro ?_ ?_ | unfold okTo | (unfold okO; conv => whnf) | (unfold okS; conv => whnf) | (unfold SlotOk; conv => whnf) | (unfold ObjOk; conv => whnf) | (unfold okCells; conv => whnf) | (unfold liveTo; conv => whnf) | exact Nat.zero_lt_succ _))
   ·rw [if_neg (by rw [h1]; simp), List.append_nil] at hst
    (conv => whnf)
    refine ⟨_, add64 (c := ((k + 1 : Nat) : Int)) (by (try simp only []); omega) (by omega), ?_⟩
    (conv => whnf)
    refine ⟨k + 1, ⟨by omega, by simp only []; omega⟩, ?_⟩
    dsimp only
    rw [hst]
    (repeat' (first | exact trivial | exact Wk.refl _ | exact ObWk.refl _ | exact rfl | exact ⟨_, rfl⟩ | exact Nat.zero_lt_one | refine And.intro ?_ ?_ | unfold okTo | (unfold okO; conv => whnf) | (unfold okS; conv => whnf) | (unfold SlotOk; conv => whnf) | (unfold ObjOk; conv => whnf) | (unfold okCells; conv => whnf) | (unfold liveTo; conv => whnf) | exact Nat.zero_lt_succ _))
  ·have hge : l.length ≤ k := by have := of_decide_eq_false h; rw [List.length_map] at this; omega
   (conv => whnf)
   refine ⟨[0, 1], rfl, by (try unfold pullOk); (repeat' (first | exact trivial | exact ObWk.refl _ | refine And.intro ?_ ?_ | unfold pullOk)), ?_⟩
   exact Wk.of_eq (by subst hp; rw [List.take_of_length_le hge]; rfl)
theorem canG_eq (l : List Inp) (S : Ls) : canG l S = decide (0 < ((archs l).filter fun x => decide (0 < (canL S x.name x.view).length)).length) := by
 rw [Bool.eq_iff_iff, decide_eq_true_eq, List.length_pos_iff_exists_mem, canG, List.any_eq_true]
 constructor
 ·rintro ⟨x, hx, h⟩
  simp only [Bool.and_eq_true] at h
  exact ⟨x, List.mem_filter.2 ⟨List.mem_filter.2 ⟨hx, h.1⟩, h.2⟩⟩
 ·rintro ⟨x, hx⟩
  obtain ⟨h1, h2⟩ := List.mem_filter.1 hx
  obtain ⟨h3, h4⟩ := List.mem_filter.1 h1
  exact ⟨x, h3, by simp only [Bool.and_eq_true]; exact ⟨h4, h2⟩⟩
theorem gcan_ (S : Ls) (w : Nat) (hw : w ≤ 400) (ok : OkS S w) (l : List Inp) (hl : l.length ≤ 1000000) (hI : ∀ x ∈ l, OkI x) :
  FCall Tryd.prog Gl 18 [.ptr 0 0, LIp l] [stB S] (vB (canG l S)) [stB S] := by
 have A := archives_ l hl
 have W := whereS_ S w hw ok (archs l) (Nat.le_trans (List.length_filter_le _ _) hl) (fun x hx => hI x (List.mem_filter.1 hx).1)
 rw [canG_eq]
 refine FCall.enterO hT hmix [] Tryd.func18 rfl rfl rfl fun hbd => ?_
 (conv => whnf)
 refine CallLeaf.wa (A) rfl ?_
 (conv => whnf)
 refine CallLeaf.oa [1, 0] (W) rfl rfl rfl rfl ?_
 (conv => whnf)
 refine ⟨[0], rfl, by (try unfold pullOk); (repeat' (first | exact trivial | exact ObWk.refl _ | refine And.intro ?_ ?_ | unfold pullOk)), ?_⟩
 exact Wk.bool (by rw [List.length_map]; rw [decide_eq_decide]; omega)
theorem round_take {l : List Inp} {k : Nat} {x : Inp} (h : l[k]? = some x) (S : Ls) : round (l.take (k + 1)) S = ((pass x.name x.view (round (l.take k) S).1).1, (round (l.take k) S).2 + (pass x.name x.view (round (l.take k) S).1).2) := by
 rw [List.take_add_one, h, Option.toList_some, round_snoc]
theorem ldG_take {l : List Inp} {k : Nat} {x : Inp} (h : l[k]? = some x) (S : Ls) : ldG (l.take (k + 1)) S = Sc.loadO (ldG (l.take k) S) x.name x.obj := by
 rw [List.take_add_one, h, Option.toList_some, ldG_snoc]
theorem gload_ (S : Ls) (w : Nat) (l : List Inp) (F : Nat) (hF : memG (archs l) < F) (hl : l.length ≤ 20) (hm : memG (archs l) ≤ 60) (hw : w ≤ 60) (ok : OkS S w) (hI : ∀ x ∈ l, OkI x) :
  FCall Tryd.prog Gl 14 [.ptr 0 0, LIp l] [stB S] (vI (grp l F S).2) [stB (grp l F S).1] := by
 have O := objects_ l (by omega)
 have A := archives_ l (by omega)
 have hol : (objs l).length ≤ 20 := Nat.le_trans (List.length_filter_le _ _) hl
 have hal : (archs l).length ≤ 20 := Nat.le_trans (List.length_filter_le _ _) hl
 have hIo : ∀ x ∈ objs l, OkI x := fun x hx => hI x (List.mem_filter.1 hx).1
 have hIa : ∀ x ∈ archs l, OkI x := fun x hx => hI x (List.mem_filter.1 hx).1
 have okk : ∀ k, OkS (ldG ((objs l).take k) S) 80 := fun k => (OkS.ldG (fun x hx => hIo x (List.mem_of_mem_take hx)) ok).mono (by have : ((objs l).take k).length ≤ (objs l).length := List.length_take_le' _ _; omega)
 refine FCall.enterO hT hmix [] Tryd.func14 rfl rfl rfl fun hbd => ?_
 unfold grp
 revert O A hol hal hIo hIa okk hm hF
 generalize objs l = ol
 generalize archs l = al
 intro hF hm O A hol hal hIo hIa okk
 (conv => whnf)
 refine CallLeaf.wa (O) rfl ?_
 (conv => whnf)
 refine LWp.loop hT hmix [] (fun k : Nat => [(18, vI k)]) (fun k => [(0, stB (ldG (ol.take k) S))]) (fun k => k ≤ ol.length) (fun k => ol.length - k) 0 (Nat.zero_le _) ?_
 (conv => whnf)
 refine ⟨?_, fun k hk => ?_⟩
 ·(repeat' (first | exact trivial | exact Wk.refl _ | exact ObWk.refl _ | exact rfl | exact ⟨_, rfl⟩ | exact Nat.zero_lt_one | refine And.intro ?_ ?_ | unfold okTo | (unfold okO; conv => whnf) | (unfold okS; conv => whnf) | (unfold SlotOk; conv => whnf) | (unfold ObjOk; conv => whnf) | (unfold okCells; conv => whnf) | (unfold liveTo; conv => whnf) | exact Nat.zero_lt_succ _))
 ·(conv => whnf)
  refine split_intro (fun h => ?_) (fun h => ?_)
  ·have hlt : k < ol.length := by have := of_decide_eq_true h; rw [List.length_map] at this; omega
   obtain ⟨x, hx⟩ := exI hlt
   have P := objS_ x.name (ldG (ol.take k) S) x.obj 80 (by omega) (okk k) (hIo x (List.mem_of_getElem? hx)).o
   rw [← ldG_take hx] at P
   (conv => whnf)
   refine ⟨_, ⟨by omega, getMap hx⟩, ?_⟩
   (conv => whnf)
   refine CallLeaf.oa [0] (P) rfl rfl rfl rfl ?_
   (conv => whnf)
   refine ⟨_, add64 (c := ((k + 1 : Nat) : Int)) (by (try simp only []); omega) (by omega), ?_⟩
   (conv => whnf)
   refine ⟨k + 1, ⟨by omega, by simp only []; omega⟩, ?_⟩
   (repeat' (first | exact trivial | exact Wk.refl _ | exact ObWk.refl _ | exact rfl | exact ⟨_, rfl⟩ | exact Nat.zero_lt_one | refine And.intro ?_ ?_ | unfold okTo | (unfold okO; conv => whnf) | (unfold okS; conv => whnf) | (unfold SlotOk; conv => whnf) | (unfold ObjOk; conv => whnf) | (unfold okCells; conv => whnf) | (unfold liveTo; conv => whnf) | exact Nat.zero_lt_succ _))
  ·have hge : ol.length ≤ k := by have := of_decide_eq_false h; rw [List.length_map] at this; omega
   have e : ol.take k = ol := List.take_of_length_le hge
   obtain ⟨S1, hS1⟩ : ∃ S1, S1 = ldG (ol.take k) S := ⟨_, rfl⟩
   have ok1 : OkS S1 80 := by rw [hS1]; exact okk k
   have e0 : ldG ol S = S1 := by rw [hS1, e]
   rw [e0]
   clear okk
   (conv => whnf)
   refine CallLeaf.oa [4097] (counting_) rfl rfl rfl rfl ?_
   (conv => whnf)
   refine LWp.loop hT hmix [] (fun x : Bool × Nat × Ls => [(9, vB x.1)]) (fun x => [(0, stB x.2.2), (4097, .cells [vI x.2.1])]) (fun x => (x.1 = true → GI al F S1 80 x.2.1 x.2.2) ∧ (x.1 = false → rounds al F S1 = (x.2.2, x.2.1) ∧ x.2.1 ≤ 100)) (fun x => if x.1 = true then lftG al x.2.2 + 1 else 0) (true, 0, S1) ⟨fun _ => GI.start (Nat.lt_of_le_of_lt (lftG_le _ _) hF) ok1, fun h => by simp at h⟩ ?_
   (conv => whnf)
   refine ⟨?_, fun ⟨b, n, S2⟩ ⟨h1, h2⟩ => ?_⟩
   ·(repeat' (first | exact trivial | exact Wk.refl _ | exact ObWk.refl _ | exact rfl | exact ⟨_, rfl⟩ | exact Nat.zero_lt_one | refine And.intro ?_ ?_ | unfold okTo | (unfold okO; conv => whnf) | (unfold okS; conv => whnf) | (unfold SlotOk; conv => whnf) | (unfold ObjOk; conv => whnf) | (unfold okCells; conv => whnf) | (unfold liveTo; conv => whnf) | exact Nat.zero_lt_succ _))
    exact ObWk.of_eq (by rw [hS1])
   ·cases b with
    | false =>
     obtain ⟨h3, _⟩ := h2 rfl
     replace h3 : rounds al F S1 = (S2, n) := h3
     rw [h3]
     (conv => whnf)
     refine CallLeaf.oa [4097] (calls_ (n : Int)) rfl rfl rfl rfl ?_
     (conv => whnf)
     refine ⟨[0], rfl, by (try unfold pullOk); (repeat' (first | exact trivial | exact ObWk.refl _ | refine And.intro ?_ ?_ | unfold pullOk)), ?_⟩
     exact Wk.refl _
    | true =>
     have hI2 : GI al F S1 80 n S2 := h1 rfl
     have hn := hI2.kle
     have ok2 := hI2.ok
     have okr : ∀ k, OkS (round (al.take k) S2).1 (80 + 2 * memG al) ∧ (round (al.take k) S2).2 ≤ memG al := fun k => by
      have a1 := OkS.round (l := al.take k) (fun x hx => hIa x (List.mem_of_mem_take hx)) ok2
      have a2 := lftG_round al S2 (al.take k) (fun x hx => List.mem_of_mem_take hx)
      have a3 := lftG_le al S2
      exact ⟨a1.mono (by omega), by omega⟩
     have hlast := hI2.last
     have hnext := hI2.next hIa
     (conv => whnf)
     refine CallLeaf.wa (A) rfl ?_
     (conv => whnf)
     refine LWp.loop hT hmix [] (fun k : Nat => [(37, vI k), (10, vI (round (al.take k) S2).2)]) (fun k => [(0, stB (round (al.take k) S2).1)]) (fun k => k ≤ al.length) (fun k => al.length - k) 0 (Nat.zero_le _) ?_
     (conv => whnf)
     refine ⟨?_, fun k hk => ?_⟩
     ·(repeat' (first | exact trivial | exact Wk.refl _ | exact ObWk.refl _ | exact rfl | exact ⟨_, rfl⟩ | exact Nat.zero_lt_one | refine And.intro ?_ ?_ | unfold okTo | (unfold okO; conv => whnf) | (unfold okS; conv => whnf) | (unfold SlotOk; conv => whnf) | (unfold ObjOk; conv => whnf) | (unfold okCells; conv => whnf) | (unfold liveTo; conv => whnf) | exact Nat.zero_lt_succ _))
     ·obtain ⟨okr1, okr2⟩ := okr k
      (conv => whnf)
      refine split_intro (fun h => ?_) (fun h => ?_)
      ·have hlt : k < al.length := by have := of_decide_eq_true h; rw [List.length_map] at this; omega
       obtain ⟨x, hx⟩ := exI hlt
       have hIx := hIa x (List.mem_of_getElem? hx)
       have hxm : x.view.members.length ≤ 12 := hIx.v.n
       have P := passS_ x.name x.view (round (al.take k) S2).1 (80 + 2 * memG al) (by omega) okr1 hIx.v hIx.n
       have hrt := round_take hx S2
       have hk1 := (okr (k + 1)).2
       rw [hrt] at hk1
       simp only [] at hk1
       have e1 : (round (al.take (k + 1)) S2).1 = (pass x.name x.view (round (al.take k) S2).1).1 := by rw [hrt]
       have e2 : (round (al.take (k + 1)) S2).2 = (round (al.take k) S2).2 + (pass x.name x.view (round (al.take k) S2).1).2 := by rw [hrt]
       rw [← e1] at P
       (conv => whnf)
       refine ⟨_, ⟨by omega, getMap hx⟩, ?_⟩
       (conv => whnf)
       refine CallLeaf.oa [0] (P) rfl rfl rfl rfl ?_
       (conv => whnf)
       refine ⟨_, add64 (c := (((round (al.take (k + 1)) S2).2 : Nat) : Int)) (by rw [e2]; omega) (by omega), ?_⟩
       (conv => whnf)
       refine ⟨_, add64 (c := ((k + 1 : Nat) : Int)) (by (try simp only []); omega) (by omega), ?_⟩
       (conv => whnf)
       refine ⟨k + 1, ⟨by omega, by simp only []; omega⟩, ?_⟩
       (repeat' (first | exact trivial | exact Wk.refl _ | exact ObWk.refl _ | exact rfl | exact ⟨_, rfl⟩ | exact Nat.zero_lt_one | refine And.intro ?_ ?_ | unfold okTo | (unfold okO; conv => whnf) | (unfold okS; conv => whnf) | (unfold SlotOk; conv => whnf) | (unfold ObjOk; conv => whnf) | (unfold okCells; conv => whnf) | (unfold liveTo; conv => whnf) | exact Nat.zero_lt_succ _))
      ·have hge : al.length ≤ k := by have := of_decide_eq_false h; rw [List.length_map] at this; omega
       have e3 : al.take k = al := List.take_of_length_le hge
       have hr : round (al.take k) S2 = round al S2 := by rw [e3]
       rw [← hr] at hlast hnext
       obtain ⟨okr3, okr4⟩ := okr k
       obtain ⟨c, hcc⟩ : ∃ c, c = (round (al.take k) S2).2 := ⟨_, rfl⟩
       rw [← hcc] at hlast hnext okr4
       (conv => whnf)
       refine CallLeaf.oa [4097] (again_ ((round (al.take k) S2).2 : Int) n (by omega)) rfl rfl rfl rfl ?_
       (conv => whnf)
       by_cases hc : c = 0
       ·have h0 : (round (al.take k) S2).2 = 0 := by rw [← hcc]; exact hc
        refine ⟨(false, n + 1, (round (al.take k) S2).1), ⟨⟨fun h => by simp at h, fun _ => ⟨hlast hc, by show n + 1 ≤ 100; omega⟩⟩, by simp⟩, ?_⟩
        have hd : decide ((0 : Int) < ((round (al.take k) S2).2 : Int)) = false := by rw [decide_eq_false_iff_not]; omega
        (repeat' (first | exact trivial | exact Wk.refl _ | exact ObWk.refl _ | exact rfl | exact ⟨_, rfl⟩ | exact Nat.zero_lt_one | refine And.intro ?_ ?_ | unfold okTo | (unfold okO; conv => whnf) | (unfold okS; conv => whnf) | (unfold SlotOk; conv => whnf) | (unfold ObjOk; conv => whnf) | (unfold okCells; conv => whnf) | (unfold liveTo; conv => whnf) | exact Nat.zero_lt_succ _))
        exact Wk.bool hd
       ·obtain ⟨h4, h5⟩ := hnext hc
        refine ⟨(true, n + 1, (round (al.take k) S2).1), ⟨⟨fun _ => h4, fun h => by simp at h⟩, by simp only [if_true]; exact Nat.succ_lt_succ h5⟩, ?_⟩
        have hd : decide ((0 : Int) < ((round (al.take k) S2).2 : Int)) = true := by rw [decide_eq_true_eq]; omega
        (repeat' (first | exact trivial | exact Wk.refl _ | exact ObWk.refl _ | exact rfl | exact ⟨_, rfl⟩ | exact Nat.zero_lt_one | refine And.intro ?_ ?_ | unfold okTo | (unfold okO; conv => whnf) | (unfold okS; conv => whnf) | (unfold SlotOk; conv => whnf) | (unfold ObjOk; conv => whnf) | (unfold okCells; conv => whnf) | (unfold liveTo; conv => whnf) | exact Nat.zero_lt_succ _))
        exact Wk.bool hd
end Go.Proofs.YtfbmknghfhancaaDoor

namespace Go.Proofs.YtfbmknghfhancaaDoor
open Go Go.AL Go.AL.Bd Go.AL.Tb Go.AL.Sc
set_option maxRecDepth 100000
set_option maxHeartbeats 4000000
abbrev SyL (l : List Ob.Sym) : D := .list .any (SE l)
theorem objectA_19_ (l : List Ob.Sym) (hx : (Ob.encO ⟨l, []⟩).length ≤ 1000000000) (hn : ∀ s ∈ l, s.name.length ≤ 1000000000) : FCall Tryd.prog Gl 53 [SyL l] [] (LB (O.encRO' ⟨l, []⟩).1) [] := by
 have E := O.orencode_ l [] hx hn
 refine FCall.enterL hT hmix [] Tryd.func53 rfl rfl rfl fun hbd => ?_
 (conv => whnf)
 refine CallLeaf.wa (E) rfl ?_
 (conv => whnf)
 exact Wk.list _ _
theorem forward_ (v : View) : FCall Tryd.prog Gl 31 [vD v] [] (vD v) [] := by
 refine FCall.enterL hT hmix [] Tryd.func31 rfl rfl rfl fun hbd => ?_
 (conv => whnf)
 exact Wk.refl _
def oA : Ob.Obj := ⟨[⟨[103], 1, 0, 0⟩], []⟩
def oB : Ob.Obj := ⟨[⟨[102], 1, 0, 0⟩, ⟨[103], 4, 0, 0⟩], []⟩
def oM : Ob.Obj := ⟨[⟨[102], 4, 0, 0⟩], []⟩
def L2 : List Mem := [⟨[97], 0, 0, 0, 0, Ob.encO oA⟩, ⟨[98], 0, 0, 0, 0, Ob.encO oB⟩]
def v2 : View := ⟨L2, L2.map fun m => defsOf m.data⟩
def S1 : Ls := ⟨[⟨[109, 97, 105, 110, 46, 111], [], 0⟩], [oM], []⟩
theorem L2_ok : ∀ m ∈ L2, OkM m := by
 intro m hm
 have h : m = ⟨[97], 0, 0, 0, 0, Ob.encO oA⟩ ∨ m = ⟨[98], 0, 0, 0, 0, Ob.encO oB⟩ := by simpa [L2] using hm
 rcases h with rfl | rfl <;> exact ⟨by decide, by decide +kernel, by decide, by decide, by decide, by decide⟩
theorem L2_view : (viewR L2).2 = true := by decide +kernel
theorem v2_ok : OkV v2 := (viewR_ok L2_view).2.1
theorem OkO_of (o : Ob.Obj) (h : (decide (o.syms.length ≤ 100) && o.syms.all fun s => decide (s.name.length ≤ 300) && (decide (1 ≤ s.bind) && (decide (s.bind ≤ 5) && (decide (0 ≤ s.size) && decide (0 ≤ s.align))))) = true) : OkO o := by
 simp only [Bool.and_eq_true, List.all_eq_true, decide_eq_true_eq] at h
 exact ⟨h.1, fun s hs => (h.2 s hs).1, fun s hs => ⟨(h.2 s hs).2.1, (h.2 s hs).2.2.1, (h.2 s hs).2.2.2.1, (h.2 s hs).2.2.2.2⟩⟩
theorem S1_ok : OkS S1 1 := ⟨by decide, fun o ho => by simp [S1] at ho; subst ho; exact OkO_of _ (by decide), rfl, fun p hp => by simp [S1] at hp⟩
abbrev xa : Str := [120, 46, 97]
abbrev ya : Str := [121, 46, 97]
theorem awake_19_ : FCall Tryd.prog Gl 30 [] [] (vB true) [] := by
 have EA := objectA_19_ oA.syms (by decide +kernel) (by decide)
 have EB := objectA_19_ oB.syms (by decide +kernel) (by decide)
 rw [show (O.encRO' ⟨oA.syms, []⟩).1 = Ob.encO oA by decide +kernel] at EA
 rw [show (O.encRO' ⟨oB.syms, []⟩).1 = Ob.encO oB by decide +kernel] at EB
 have V := view_ L2 L2_ok
 rw [L2_view, (viewR_ok L2_view).1] at V
 have O0 := FCall.pre1 stB_zero (objS_ [109, 97, 105, 110, 46, 111] ⟨[], [], []⟩ oM 0 (by omega) ⟨by simp, fun o ho => by simp at ho, rfl, fun p hp => by simp at hp⟩ (OkO_of _ (by decide)))
 have C := canS_ xa v2 S1 1 (by omega) S1_ok (by decide) (by decide)
 rw [show canL S1 xa v2 = [1] by decide +kernel] at C
 have A := archS_ xa v2 S1 5 1 (by decide +kernel) (by decide) S1_ok v2_ok (by decide)
 have OK2 : OkS (arch xa v2 5 S1).1 10 := (OkS.arch v2_ok (by decide) 5 S1_ok).mono (by have := lft_le xa v2 S1; have : v2.members.length = 2 := rfl; omega)
 have U := unitsS_ (arch xa v2 5 S1).1 (by decide +kernel)
 have W := wantedS_ (arch xa v2 5 S1).1 10 (by omega) OK2
 rw [show wantedL (Us (arch xa v2 5 S1).1.os) = [] by decide +kernel] at W
 rw [show (arch xa v2 5 S1).2 = 3 by decide +kernel] at A
 rw [show (arch xa v2 5 S1).1.us = [⟨[109, 97, 105, 110, 46, 111], [], 0⟩, ⟨xa, [98], 1⟩, ⟨xa, [97], 0⟩] by decide +kernel] at U
 have T := tableS_ (arch xa v2 5 S1).1
 generalize (arch xa v2 5 S1).1 = S2 at *
 have SU := sameU_ [⟨[109, 97, 105, 110, 46, 111], [], 0⟩, ⟨xa, [98], 1⟩, ⟨xa, [97], 0⟩] [⟨[109, 97, 105, 110, 46, 111], [], 0⟩, ⟨xa, [98], 1⟩, ⟨xa, [97], 0⟩]
 have NU := numbers_ [1] [1]
 have F := forward_ v2
 have N1 := objectN_ [] ⟨[], []⟩
 have N2 := passN_ [] ⟨[], []⟩
 refine FCall.enterL hT hmix [] Tryd.func30 rfl rfl rfl fun hbd => ?_
 (conv => whnf)
 refine CallLeaf.wa (EA) rfl ?_
 (conv => whnf)
 refine CallLeaf.wa (EB) rfl ?_
 (conv => whnf)
 refine CallLeaf.wa (V) rfl ?_
 (conv => whnf)
 refine CallLeaf.oa [1024] (O0) rfl rfl rfl rfl ?_
 (conv => whnf)
 refine CallLeaf.wa (F) rfl ?_
 (conv => whnf)
 refine CallLeaf.oa [1024] (C) rfl rfl rfl rfl ?_
 (conv => whnf)
 refine CallLeaf.wa (F) rfl ?_
 (conv => whnf)
 refine CallLeaf.oa [1024] (A) rfl rfl rfl rfl ?_
 (conv => whnf)
 refine CallLeaf.wa (NU) rfl ?_
 (conv => whnf)
 refine CallLeaf.oa [1024] (U) rfl rfl rfl rfl ?_
 (conv => whnf)
 refine CallLeaf.wa (SU) rfl ?_
 (conv => whnf)
 refine CallLeaf.oa [1024] (T) rfl rfl rfl rfl ?_
 (conv => whnf)
 refine CallLeaf.oa [1024] (W) rfl rfl rfl rfl ?_
 (conv => whnf)
 refine CallLeaf.wa (N1) rfl ?_
 (conv => whnf)
 refine CallLeaf.wa (N2) rfl ?_
 (conv => whnf)
 refine CallLeaf.wa (tableN_) rfl ?_
 (conv => whnf)
 refine CallLeaf.wa (unitsN_) rfl ?_
 (conv => whnf)
 exact Wk.refl _
end Go.Proofs.YtfbmknghfhancaaDoor

namespace Go.Proofs.YtfbmknghfhancaaDoor
open Go Go.AL Go.AL.Bd Go.AL.Tb Go.AL.Sc Go.AL.Gp
set_option maxRecDepth 100000
set_option maxHeartbeats 4000000
theorem split_swap {b : Bool} {X Y : Prop} (h2 : b = false → Y) (h1 : b = true → X) : cond b X Y := split_intro h1 h2
theorem canG_step {l : List Inp} {k : Nat} {x : Inp} (h : l[k]? = some x) (S : Ls) : canG (l.take (k + 1)) S = (canG (l.take k) S || (x.arch && decide (0 < (canL S x.name x.view).length))) := by
 unfold canG
 rw [List.take_add_one, h]; simp
theorem rgcan_ (S : Ls) (l : List Inp) (w : Nat) (hl : l.length ≤ 1000) (hI : ∀ x ∈ l, OkI x) (inv : ∀ x ∈ archs l, Inv x.name x.view S) (ok : OkL S.os) :
  FCall Tryd.prog Gl 25 [rS S.us S.os, LIp l] [] (vB (canG l S)) [] := by
 refine FCall.enterL hT hmix [] Tryd.func25 rfl rfl rfl fun hbd => ?_
 (conv => whnf)
 refine LWp.loop hT hmix [] (fun k : Nat => [(5, vI k)]) (fun _ => []) (fun k => k ≤ l.length ∧ canG (l.take k) S = false) (fun k => l.length - k) 0 ⟨Nat.zero_le _, rfl⟩ ?_
 (conv => whnf)
 refine ⟨?_, fun k ⟨hk, hkk⟩ => ?_⟩
 ·(repeat' (first | exact trivial | exact Wk.refl _ | exact ObWk.refl _ | exact rfl | exact ⟨_, rfl⟩ | exact Nat.zero_lt_one | refine And.intro ?_ ?_ | unfold okTo | (unfold okO; conv => whnf) | (unfold okS; conv => whnf) | (unfold SlotOk; conv => whnf) | (unfold ObjOk; conv => whnf) | (unfold okCells; conv => whnf) | (unfold liveTo; conv => whnf) | exact Nat.zero_lt_succ _))
 ·(conv => whnf)
  refine split_intro (fun h => ?_) (fun h => ?_)
  ·have hlt : k < l.length := by have := of_decide_eq_true h; rw [List.length_map] at this; omega
   obtain ⟨x, hx⟩ := exI hlt
   have hst := canG_step hx S
   rw [hkk, Bool.false_or] at hst
   have hT : (x.arch && decide (0 < (canL S x.name x.view).length)) = true → canG l S = true := fun h => by unfold canG; exact any_here hx h
   (conv => whnf)
   refine ⟨_, ⟨by omega, getMap hx⟩, ?_⟩
   (conv => whnf)
   refine split_swap (fun ha => ?_) (fun ha => ?_)
   ·rw [ha, Bool.false_and] at hst
    (conv => whnf)
    refine ⟨_, add64 (c := ((k + 1 : Nat) : Int)) (by (try simp only []); omega) (by omega), ?_⟩
    (conv => whnf)
    refine ⟨k + 1, ⟨⟨by omega, hst⟩, by simp only []; omega⟩, ?_⟩
    (repeat' (first | exact trivial | exact Wk.refl _ | exact ObWk.refl _ | exact rfl | exact ⟨_, rfl⟩ | exact Nat.zero_lt_one | refine And.intro ?_ ?_ | unfold okTo | (unfold okO; conv => whnf) | (unfold okS; conv => whnf) | (unfold SlotOk; conv => whnf) | (unfold ObjOk; conv => whnf) | (unfold okCells; conv => whnf) | (unfold liveTo; conv => whnf) | exact Nat.zero_lt_succ _))
   ·have hm := List.mem_of_getElem? hx
    have C := rcanL_ S x.name x.view (inv x (List.mem_filter.2 ⟨hm, by simpa using ha⟩)) (hI x hm).v ok
    rw [ha, Bool.true_and] at hst hT
    (conv => whnf)
    refine ⟨_, ⟨by omega, getMap hx⟩, ?_⟩
    (conv => whnf)
    refine ⟨_, ⟨by omega, getMap hx⟩, ?_⟩
    (conv => whnf)
    refine CallLeaf.wa (C) rfl ?_
    (conv => whnf)
    refine split_intro (fun h1 => ?_) (fun h1 => ?_)
    ·have h1' : 0 < (canL S x.name x.view).length := by have := of_decide_eq_true h1; rw [List.length_map] at this; omega
     rw [hT (by rw [decide_eq_true_eq]; exact h1')]
     (conv => whnf)
     exact Wk.refl _
    ·have h1' : ¬ 0 < (canL S x.name x.view).length := by have := of_decide_eq_false h1; rw [List.length_map] at this; omega
     rw [decide_eq_false h1'] at hst
     (conv => whnf)
     refine ⟨_, add64 (c := ((k + 1 : Nat) : Int)) (by (try simp only []); omega) (by omega), ?_⟩
     (conv => whnf)
     refine ⟨k + 1, ⟨⟨by omega, hst⟩, by simp only []; omega⟩, ?_⟩
     (repeat' (first | exact trivial | exact Wk.refl _ | exact ObWk.refl _ | exact rfl | exact ⟨_, rfl⟩ | exact Nat.zero_lt_one | refine And.intro ?_ ?_ | unfold okTo | (unfold okO; conv => whnf) | (unfold okS; conv => whnf) | (unfold SlotOk; conv => whnf) | (unfold ObjOk; conv => whnf) | (unfold okCells; conv => whnf) | (unfold liveTo; conv => whnf) | exact Nat.zero_lt_succ _))
  ·have hge : l.length ≤ k := by have := of_decide_eq_false h; rw [List.length_map] at this; omega
   rw [List.take_of_length_le hge] at hkk
   rw [hkk]
   (conv => whnf)
   exact Wk.refl _
theorem filter_t {α : Type} {l : List α} {p : α → Bool} {k : Nat} {x : α} (h : l[k]? = some x) (hp : p x = true) : (l.take (k + 1)).filter p = (l.take k).filter p ++ [x] := by rw [filter_step h, if_pos hp]
theorem filter_f {α : Type} {l : List α} {p : α → Bool} {k : Nat} {x : α} (h : l[k]? = some x) (hp : p x = false) : (l.take (k + 1)).filter p = (l.take k).filter p := by rw [filter_step h, if_neg (by rw [hp]; simp), List.append_nil]
theorem rgload_ (S : Ls) (w : Nat) (l : List Inp) (F : Nat) (hF : memG (archs l) < F) (hl : l.length ≤ 20) (hm : memG (archs l) ≤ 60) (hw : w ≤ 60) (ok : OkS S w) (hI : ∀ x ∈ l, OkI x) (hd : Dis l) (hinv : ∀ x ∈ archs l, Inv x.name x.view (ldG (objs l) S)) :
  FCall Tryd.prog Gl 27 [rS S.us S.os, LIp l] [] (.tuple [rS (grp l F S).1.us (grp l F S).1.os, vI (grp l F S).2]) [] := by
 have hIo : ∀ x ∈ objs l, OkI x := fun x hx => hI x (List.mem_filter.1 hx).1
 have hIa : ∀ x ∈ archs l, OkI x := fun x hx => hI x (List.mem_filter.1 hx).1
 have hda : Dis (archs l) := hd.filter _
 have okk : ∀ k, OkS (ldG (objs (l.take k)) S) 80 := fun k => (OkS.ldG (fun x hx => hI x (List.mem_of_mem_take (List.mem_filter.1 hx).1)) ok).mono (by
  have h3 : (objs (l.take k)).length ≤ 20 := Nat.le_trans (List.length_filter_le _ _) (Nat.le_trans (List.length_take_le' _ _) hl)
  exact Nat.add_le_add hw h3)
 have hla : (archs l).length ≤ 20 := Nat.le_trans (List.length_filter_le _ _) hl
 refine FCall.enterL hT hmix [] Tryd.func27 rfl rfl rfl fun hbd => ?_
 unfold grp
 (conv => whnf)
 refine LWp.loop hT hmix [] (fun k : Nat => [(6, vI k)]) (fun k => [(0, .cells [LUt (ldG (objs (l.take k)) S).us, LO (ldG (objs (l.take k)) S).os])]) (fun k => k ≤ l.length) (fun k => l.length - k) 0 (Nat.zero_le _) ?_
 (conv => whnf)
 refine ⟨?_, fun k hk => ?_⟩
 ·(repeat' (first | exact trivial | exact Wk.refl _ | exact ObWk.refl _ | exact rfl | exact ⟨_, rfl⟩ | exact Nat.zero_lt_one | refine And.intro ?_ ?_ | unfold okTo | (unfold okO; conv => whnf) | (unfold okS; conv => whnf) | (unfold SlotOk; conv => whnf) | (unfold ObjOk; conv => whnf) | (unfold okCells; conv => whnf) | (unfold liveTo; conv => whnf) | exact Nat.zero_lt_succ _))
 ·have okk1 := okk k
  have hL1 := okk1.len
  have hL2 := okk1.us
  (conv => whnf)
  refine split_intro (fun h => ?_) (fun h => ?_)
  ·have hlt : k < l.length := by have := of_decide_eq_true h; rw [List.length_map] at this; omega
   obtain ⟨x, hx⟩ := exI hlt
   (conv => whnf)
   refine ⟨_, ⟨by omega, getMap hx⟩, ?_⟩
   (conv => whnf)
   refine split_swap (fun ha' => ?_) (fun ha' => ?_)
   ·have ha : x.arch = true := by simpa using ha'
    have hst : objs (l.take (k + 1)) = objs (l.take k) := filter_f hx (by simp [ha])
    (conv => whnf)
    refine ⟨_, add64 (c := ((k + 1 : Nat) : Int)) (by (try simp only []); omega) (by omega), ?_⟩
    (conv => whnf)
    refine ⟨k + 1, ⟨by omega, by simp only []; omega⟩, ?_⟩
    dsimp only
    rw [hst]
    (repeat' (first | exact trivial | exact Wk.refl _ | exact ObWk.refl _ | exact rfl | exact ⟨_, rfl⟩ | exact Nat.zero_lt_one | refine And.intro ?_ ?_ | unfold okTo | (unfold okO; conv => whnf) | (unfold okS; conv => whnf) | (unfold SlotOk; conv => whnf) | (unfold ObjOk; conv => whnf) | (unfold okCells; conv => whnf) | (unfold liveTo; conv => whnf) | exact Nat.zero_lt_succ _))
   ·have ha : x.arch = false := by simpa using ha'
    have hst : objs (l.take (k + 1)) = objs (l.take k) ++ [x] := filter_t hx (by simp [ha])
    have R := rload_ (ldG (objs (l.take k)) S).us (ldG (objs (l.take k)) S).os ⟨x.name, [], 0⟩ x.obj (by omega) (by omega)
    have e : (ldG (objs (l.take k)) S).us ++ [⟨x.name, [], 0⟩] = (ldG (objs (l.take (k + 1))) S).us ∧ (ldG (objs (l.take k)) S).os ++ [x.obj] = (ldG (objs (l.take (k + 1))) S).os := by rw [hst, ldG_snoc]; exact ⟨rfl, rfl⟩
    rw [e.1, e.2] at R
    (conv => whnf)
    refine ⟨_, ⟨by omega, getMap hx⟩, ?_⟩
    (conv => whnf)
    refine ⟨_, ⟨by omega, getMap hx⟩, ?_⟩
    (conv => whnf)
    refine CallLeaf.wa (R) rfl ?_
    (conv => whnf)
    refine ⟨_, add64 (c := ((k + 1 : Nat) : Int)) (by (try simp only []); omega) (by omega), ?_⟩
    (conv => whnf)
    refine ⟨k + 1, ⟨by omega, by simp only []; omega⟩, ?_⟩
    (repeat' (first | exact trivial | exact Wk.refl _ | exact ObWk.refl _ | exact rfl | exact ⟨_, rfl⟩ | exact Nat.zero_lt_one | refine And.intro ?_ ?_ | unfold okTo | (unfold okO; conv => whnf) | (unfold okS; conv => whnf) | (unfold SlotOk; conv => whnf) | (unfold ObjOk; conv => whnf) | (unfold okCells; conv => whnf) | (unfold liveTo; conv => whnf) | exact Nat.zero_lt_succ _))
    all_goals exact Wk.list _ _
  ·have hge : l.length ≤ k := by have := of_decide_eq_false h; rw [List.length_map] at this; omega
   have e : l.take k = l := List.take_of_length_le hge
   obtain ⟨S1, hS1⟩ : ∃ S1, S1 = ldG (objs (l.take k)) S := ⟨_, rfl⟩
   have ok1 : OkS S1 80 := by rw [hS1]; exact okk1
   have e0 : ldG (objs l) S = S1 := by rw [hS1, e]
   rw [e0] at hinv ⊢
   (conv => whnf)
   refine LWp.loop hT hmix [] (fun x : Nat × Ls => [(7, vI x.1)]) (fun x => [(0, .cells [LUt x.2.us, LO x.2.os])]) (fun x => GI (archs l) F S1 80 x.1 x.2 ∧ RG (archs l) S1 x.2) (fun x => lftG (archs l) x.2) (0, S1) ⟨GI.start (Nat.lt_of_le_of_lt (lftG_le _ _) hF) ok1, .refl⟩ ?_
   (conv => whnf)
   refine ⟨?_, fun ⟨n, S2⟩ ⟨hI2, hR2⟩ => ?_⟩
   ·(repeat' (first | exact trivial | exact Wk.refl _ | exact ObWk.refl _ | exact rfl | exact ⟨_, rfl⟩ | exact Nat.zero_lt_one | refine And.intro ?_ ?_ | unfold okTo | (unfold okO; conv => whnf) | (unfold okS; conv => whnf) | (unfold SlotOk; conv => whnf) | (unfold ObjOk; conv => whnf) | (unfold okCells; conv => whnf) | (unfold liveTo; conv => whnf) | exact Nat.zero_lt_succ _))
    ·exact Wk.of_eq (by rw [hS1]; rfl)
    ·exact Wk.of_eq (by rw [hS1]; rfl)
   ·replace hI2 : GI (archs l) F S1 80 n S2 := hI2
    replace hR2 : RG (archs l) S1 S2 := hR2
    have hn := hI2.kle
    have ok2 := hI2.ok
    have hsub : ∀ k, ∀ x ∈ archs (l.take k), x ∈ archs l := fun k x hx => List.mem_filter.2 ⟨List.mem_of_mem_take (List.mem_filter.1 hx).1, (List.mem_filter.1 hx).2⟩
    have okr : ∀ k, OkS (round (archs (l.take k)) S2).1 (80 + 2 * memG (archs l)) ∧ (round (archs (l.take k)) S2).2 ≤ memG (archs l) := fun k => by
     have a1 := OkS.round (l := archs (l.take k)) (fun x hx => hIa x (hsub k x hx)) ok2
     have a2 := lftG_round (archs l) S2 (archs (l.take k)) (hsub k)
     have a3 := lftG_le (archs l) S2
     exact ⟨a1.mono (by omega), by omega⟩
    have hlast := hI2.last
    have hnext := hI2.next hIa
    have hrl := round_len (archs l) S2
    (conv => whnf)
    refine LWp.loop hT hmix [] (fun k : Nat => [(9, vI k)]) (fun k => [(0, .cells [LUt (round (archs (l.take k)) S2).1.us, LO (round (archs (l.take k)) S2).1.os])]) (fun k => k ≤ l.length) (fun k => l.length - k) 0 (Nat.zero_le _) ?_
    (conv => whnf)
    refine ⟨?_, fun k hk => ?_⟩
    ·(repeat' (first | exact trivial | exact Wk.refl _ | exact ObWk.refl _ | exact rfl | exact ⟨_, rfl⟩ | exact Nat.zero_lt_one | refine And.intro ?_ ?_ | unfold okTo | (unfold okO; conv => whnf) | (unfold okS; conv => whnf) | (unfold SlotOk; conv => whnf) | (unfold ObjOk; conv => whnf) | (unfold okCells; conv => whnf) | (unfold liveTo; conv => whnf) | exact Nat.zero_lt_succ _))
    ·obtain ⟨okr1, okr2⟩ := okr k
     (conv => whnf)
     refine split_intro (fun h => ?_) (fun h => ?_)
     ·have hlt : k < l.length := by have := of_decide_eq_true h; rw [List.length_map] at this; omega
      obtain ⟨x, hx⟩ := exI hlt
      (conv => whnf)
      refine ⟨_, ⟨by omega, getMap hx⟩, ?_⟩
      (conv => whnf)
      refine split_swap (fun ha => ?_) (fun ha => ?_)
      ·have hst : archs (l.take (k + 1)) = archs (l.take k) := filter_f hx (by simp [ha])
       (conv => whnf)
       refine ⟨_, add64 (c := ((k + 1 : Nat) : Int)) (by (try simp only []); omega) (by omega), ?_⟩
       (conv => whnf)
       refine ⟨k + 1, ⟨by omega, by simp only []; omega⟩, ?_⟩
       dsimp only
       rw [hst]
       (repeat' (first | exact trivial | exact Wk.refl _ | exact ObWk.refl _ | exact rfl | exact ⟨_, rfl⟩ | exact Nat.zero_lt_one | refine And.intro ?_ ?_ | unfold okTo | (unfold okO; conv => whnf) | (unfold okS; conv => whnf) | (unfold SlotOk; conv => whnf) | (unfold ObjOk; conv => whnf) | (unfold okCells; conv => whnf) | (unfold liveTo; conv => whnf) | exact Nat.zero_lt_succ _))
      ·have hxa : x ∈ archs l := List.mem_filter.2 ⟨List.mem_of_getElem? hx, ha⟩
       have hst : archs (l.take (k + 1)) = archs (l.take k) ++ [x] := filter_t hx (by simp [ha])
       have hIx := hIa x hxa
       have hxm : x.view.members.length ≤ 12 := hIx.v.n
       have hRk : RG (archs l) S1 (round (archs (l.take k)) S2).1 := hR2.round _ (hsub k)
       have P := rpass_ (round (archs (l.take k)) S2).1 x.name x.view (80 + 2 * memG (archs l)) (hRk.inv hda hxa (hinv x hxa)) hIx.v okr1 (by omega) hIx.n
       have e1 : (round (archs (l.take (k + 1))) S2).1 = (pass x.name x.view (round (archs (l.take k)) S2).1).1 := by rw [hst, round_snoc]
       rw [← e1] at P
       (conv => whnf)
       refine ⟨_, ⟨by omega, getMap hx⟩, ?_⟩
       (conv => whnf)
       refine ⟨_, ⟨by omega, getMap hx⟩, ?_⟩
       (conv => whnf)
       refine CallLeaf.wa (P) rfl ?_
       (conv => whnf)
       refine ⟨_, add64 (c := ((k + 1 : Nat) : Int)) (by (try simp only []); omega) (by omega), ?_⟩
       (conv => whnf)
       refine ⟨k + 1, ⟨by omega, by simp only []; omega⟩, ?_⟩
       (repeat' (first | exact trivial | exact Wk.refl _ | exact ObWk.refl _ | exact rfl | exact ⟨_, rfl⟩ | exact Nat.zero_lt_one | refine And.intro ?_ ?_ | unfold okTo | (unfold okO; conv => whnf) | (unfold okS; conv => whnf) | (unfold SlotOk; conv => whnf) | (unfold ObjOk; conv => whnf) | (unfold okCells; conv => whnf) | (unfold liveTo; conv => whnf) | exact Nat.zero_lt_succ _))
     ·have hge : l.length ≤ k := by have := of_decide_eq_false h; rw [List.length_map] at this; omega
      have e3 : l.take k = l := List.take_of_length_le hge
      have hr : round (archs (l.take k)) S2 = round (archs l) S2 := by rw [e3]
      rw [← hr] at hlast hnext hrl
      have hRk : RG (archs l) S1 (round (archs (l.take k)) S2).1 := hR2.round _ (hsub k)
      (conv => whnf)
      refine ⟨_, add64 (c := ((n + 1 : Nat) : Int)) (by (try simp only []); omega) (by omega), ?_⟩
      (conv => whnf)
      refine split_intro (fun h5 => ?_) (fun h5 => ?_)
      ·have h6 : (round (archs (l.take k)) S2).2 = 0 := by
        have : ((round (archs (l.take k)) S2).1.us.length : Int) = (S2.us.length : Int) := by simpa using h5
        omega
       rw [hlast h6]
       (conv => whnf)
       exact Wk.refl _
      ·have h6 : ¬ (round (archs (l.take k)) S2).2 = 0 := by
        have : ¬ ((round (archs (l.take k)) S2).1.us.length : Int) = (S2.us.length : Int) := by simpa using h5
        omega
       obtain ⟨h7, h8⟩ := hnext h6
       (conv => whnf)
       refine ⟨(n + 1, (round (archs (l.take k)) S2).1), ⟨⟨h7, hRk⟩, h8⟩, ?_⟩
       (repeat' (first | exact trivial | exact Wk.refl _ | exact ObWk.refl _ | exact rfl | exact ⟨_, rfl⟩ | exact Nat.zero_lt_one | refine And.intro ?_ ?_ | unfold okTo | (unfold okO; conv => whnf) | (unfold okS; conv => whnf) | (unfold SlotOk; conv => whnf) | (unfold ObjOk; conv => whnf) | (unfold okCells; conv => whnf) | (unfold liveTo; conv => whnf) | exact Nat.zero_lt_succ _))
theorem ritemG_ (S : Ls) (w : Nat) (l : List Inp) (F : Nat) (hF : memG (archs l) < F) (hl : l.length ≤ 20) (hm : memG (archs l) ≤ 60) (hw : w ≤ 60) (ok : OkS S w) (hI : ∀ x ∈ l, OkI x) (hd : Dis l) (hinv : ∀ x ∈ archs l, Inv x.name x.view (ldG (objs l) S)) :
  FCall Tryd.prog Gl 28 [rS S.us S.os, .agg [vB true, LIp l]] [] (.tuple [rS (grp l F S).1.us (grp l F S).1.os, vI (grp l F S).2]) [] := by
 refine FCall.enterL hT hmix [] Tryd.func28 rfl rfl rfl fun hbd => ?_
 (conv => whnf)
 refine CallLeaf.wa (rgload_ S w l F hF hl hm hw ok hI hd hinv) rfl ?_
 (conv => whnf)
 exact Wk.refl _
theorem get1 (x : Inp) : ([x] : List Inp)[(0 : Int).toNat]? = some x := rfl
theorem ritem1_ (S : Ls) (w : Nat) (x : Inp) (F : Nat) (hF : x.view.members.length < F) (hw : w ≤ 200) (ok : OkS S w) (hI : OkI x) (hinv : x.arch = true → Inv x.name x.view S) :
  FCall Tryd.prog Gl 28 [rS S.us S.os, .agg [vB false, LIp [x]]] [] (.tuple [rS (item x F S).1.us (item x F S).1.os, vI (item x F S).2]) [] := by
 have hn := hI.v.n
 have hL1 := ok.len
 have hL2 := ok.us
 refine FCall.enterL hT hmix [] Tryd.func28 rfl rfl rfl fun hbd => ?_
 cases ha : x.arch with
 | true =>
  have A := rarch_ S x.name x.view F w (Nat.lt_of_le_of_lt (lft_le _ _ _) hF) (hinv ha) hI.v ok (by omega) hI.n
  have e : item x F S = arch x.name x.view F S := by simp [item, ha]
  rw [e]
  (conv => whnf)
  refine ⟨_, ⟨by decide, getMap (get1 x)⟩, ?_⟩
  (conv => whnf)
  refine split_intro (fun _ => ?_) (fun h => absurd h (by simp [ha]))
  (conv => whnf)
  refine CallLeaf.wa (A) rfl ?_
  (conv => whnf)
  exact Wk.refl _
 | false =>
  have R := rload_ S.us S.os ⟨x.name, [], 0⟩ x.obj (by omega) (by omega)
  have e : item x F S = (Sc.loadO S x.name x.obj, 0) := by simp [item, ha]
  rw [e]
  (conv => whnf)
  refine ⟨_, ⟨by decide, getMap (get1 x)⟩, ?_⟩
  (conv => whnf)
  refine split_intro (fun h => absurd h (by simp [ha])) (fun _ => ?_)
  (conv => whnf)
  refine CallLeaf.wa (R) rfl ?_
  (conv => whnf)
  exact Wk.tuple (Wks.cons (Wk.agg (Wks.cons (Wk.refl _) (Wks.cons (Wk.list _ _) Wks.nil))) (Wks.cons (Wk.refl _) Wks.nil))
theorem gitemG_ (S : Ls) (w : Nat) (l : List Inp) (F : Nat) (hF : memG (archs l) < F) (hl : l.length ≤ 20) (hm : memG (archs l) ≤ 60) (hw : w ≤ 60) (ok : OkS S w) (hI : ∀ x ∈ l, OkI x) :
  FCall Tryd.prog Gl 26 [.ptr 0 0, .agg [vB true, LIp l]] [stB S] (vI (grp l F S).2) [stB (grp l F S).1] := by
 refine FCall.enterO hT hmix [] Tryd.func26 rfl rfl rfl fun hbd => ?_
 (conv => whnf)
 refine CallLeaf.oa [0] (gload_ S w l F hF hl hm hw ok hI) rfl rfl rfl rfl ?_
 (conv => whnf)
 refine ⟨[0], rfl, by (try unfold pullOk); (repeat' (first | exact trivial | exact ObWk.refl _ | refine And.intro ?_ ?_ | unfold pullOk)), ?_⟩
 exact Wk.refl _
theorem gitem1_ (S : Ls) (w : Nat) (x : Inp) (F : Nat) (hF : x.view.members.length < F) (hw : w ≤ 200) (ok : OkS S w) (hI : OkI x) :
  FCall Tryd.prog Gl 26 [.ptr 0 0, .agg [vB false, LIp [x]]] [stB S] (vI (item x F S).2) [stB (item x F S).1] := by
 have hn := hI.v.n
 refine FCall.enterO hT hmix [] Tryd.func26 rfl rfl rfl fun hbd => ?_
 cases ha : x.arch with
 | true =>
  have A := archS_ x.name x.view S F w (Nat.lt_of_le_of_lt (lft_le _ _ _) hF) (by omega) ok hI.v hI.n
  have e : item x F S = arch x.name x.view F S := by simp [item, ha]
  rw [e]
  (conv => whnf)
  refine ⟨_, ⟨by decide, getMap (get1 x)⟩, ?_⟩
  (conv => whnf)
  refine split_intro (fun _ => ?_) (fun h => absurd h (by simp [ha]))
  (conv => whnf)
  refine ⟨_, ⟨by decide, getMap (get1 x)⟩, ?_⟩
  (conv => whnf)
  refine ⟨_, ⟨by decide, getMap (get1 x)⟩, ?_⟩
  (conv => whnf)
  refine CallLeaf.oa [0] (A) rfl rfl rfl rfl ?_
  (conv => whnf)
  refine ⟨[0], rfl, by (try unfold pullOk); (repeat' (first | exact trivial | exact ObWk.refl _ | refine And.intro ?_ ?_ | unfold pullOk)), ?_⟩
  exact Wk.refl _
 | false =>
  have R := objS_ x.name S x.obj w (by omega) ok hI.o
  have e : item x F S = (Sc.loadO S x.name x.obj, 0) := by simp [item, ha]
  rw [e]
  (conv => whnf)
  refine ⟨_, ⟨by decide, getMap (get1 x)⟩, ?_⟩
  (conv => whnf)
  refine split_intro (fun h => absurd h (by simp [ha])) (fun _ => ?_)
  (conv => whnf)
  refine ⟨_, ⟨by decide, getMap (get1 x)⟩, ?_⟩
  (conv => whnf)
  refine ⟨_, ⟨by decide, getMap (get1 x)⟩, ?_⟩
  (conv => whnf)
  refine CallLeaf.oa [0] (R) rfl rfl rfl rfl ?_
  (conv => whnf)
  refine ⟨[0], rfl, by (try unfold pullOk); (repeat' (first | exact trivial | exact ObWk.refl _ | refine And.intro ?_ ?_ | unfold pullOk)), ?_⟩
  exact Wk.refl _
end Go.Proofs.YtfbmknghfhancaaDoor

namespace Go.Proofs.YtfbmknghfhancaaDoor
open Go Go.AL Go.AL.Bd Go.AL.Tb Go.AL.Sc Go.AL.Gp
set_option maxRecDepth 100000
set_option maxHeartbeats 4000000
theorem data_ (l : List Ob.Sym) (hx : (Ob.encO ⟨l, []⟩).length ≤ 1000000000) (hn : ∀ s ∈ l, s.name.length ≤ 1000000000) : FCall Tryd.prog Gl 34 [SyL l] [] (LB (O.encRO' ⟨l, []⟩).1) [] := by
 have E := O.orencode_ l [] hx hn
 refine FCall.enterL hT hmix [] Tryd.func34 rfl rfl rfl fun hbd => ?_
 (conv => whnf)
 refine CallLeaf.wa (E) rfl ?_
 (conv => whnf)
 exact Wk.list _ _
theorem lload20_ (l : List Ob.Obj) (hr : rightO l = true) : FCall Tryd.prog Gl 13 [.ptr 0 0, LO l] Zs (rS (ldO [111] l).us l) [stB (ldO [111] l)] := by
 have hlen := (rightO_iff.1 hr).1
 refine FCall.enterO hT hmix [] Tryd.func13 rfl rfl rfl fun hbd => ?_
 (conv => whnf)
 refine LWp.loop hT hmix [] (fun k : Nat => [(6, vI k)]) (fun k => [(0, stB (ldO [111] (l.take k))), (513, .cells [LUt (ldO [111] (l.take k)).us, LO (l.take k)])]) (fun k => k ≤ l.length) (fun k => l.length - k) 0 (Nat.zero_le _) ?_
 (conv => whnf)
 refine ⟨?_, fun k hk => ?_⟩
 ·(repeat' (first | exact trivial | exact Wk.refl _ | exact ObWk.refl _ | exact rfl | exact ⟨_, rfl⟩ | exact Nat.zero_lt_one | refine And.intro ?_ ?_ | unfold okTo | (unfold okO; conv => whnf) | (unfold okS; conv => whnf) | (unfold SlotOk; conv => whnf) | (unfold ObjOk; conv => whnf) | (unfold okCells; conv => whnf) | (unfold liveTo; conv => whnf) | exact Nat.zero_lt_succ _))
  ·exact stB_zero
  all_goals exact Wk.nil
 ·have hlk : (l.take k).length ≤ 12 := by rw [List.length_take]; omega
  have hus : (ldO [111] (l.take k)).us.length ≤ 12 := by simp only [ldO, List.length_map]; exact hlk
  (conv => whnf)
  refine split_intro (fun h => ?_) (fun h => ?_)
  ·have hlt : k < l.length := by have := of_decide_eq_true h; rw [List.length_map] at this; omega
   obtain ⟨o, ho⟩ := exI hlt
   have hO := objS_ [111] (ldO [111] (l.take k)) o 12 (by omega) (ldO_ok hr k) (right_okO hr o (List.mem_of_getElem? ho))
   rw [ldO_snoc ho] at hO
   have hL := rload_ (ldO [111] (l.take k)).us (l.take k) ⟨[111], [], 0⟩ o (by omega) (by omega)
   have e1 : (ldO [111] (l.take k)).us ++ [⟨[111], [], 0⟩] = (ldO [111] (l.take (k + 1))).us := by rw [← ldO_snoc ho]; rfl
   have e2 : l.take k ++ [o] = l.take (k + 1) := by rw [List.take_add_one, ho]; rfl
   rw [e1, e2] at hL
   (conv => whnf)
   refine ⟨_, ⟨by omega, getMap ho⟩, ?_⟩
   (conv => whnf)
   refine CallLeaf.oa [0] (hO) rfl rfl rfl rfl ?_
   (conv => whnf)
   refine ⟨_, ⟨by omega, getMap ho⟩, ?_⟩
   (conv => whnf)
   refine CallLeaf.wa (hL) rfl ?_
   (conv => whnf)
   refine ⟨_, add64 (c := ((k + 1 : Nat) : Int)) (by (try simp only []); omega) (by omega), ?_⟩
   (conv => whnf)
   refine ⟨k + 1, ⟨by omega, by simp only []; omega⟩, ?_⟩
   (repeat' (first | exact trivial | exact Wk.refl _ | exact ObWk.refl _ | exact rfl | exact ⟨_, rfl⟩ | exact Nat.zero_lt_one | refine And.intro ?_ ?_ | unfold okTo | (unfold okO; conv => whnf) | (unfold okS; conv => whnf) | (unfold SlotOk; conv => whnf) | (unfold ObjOk; conv => whnf) | (unfold okCells; conv => whnf) | (unfold liveTo; conv => whnf) | exact Nat.zero_lt_succ _))
   all_goals exact Wk.list _ _
  ·have hge : l.length ≤ k := by have := of_decide_eq_false h; rw [List.length_map] at this; omega
   (conv => whnf)
   refine ⟨[0], rfl, by (try unfold pullOk); (repeat' (first | exact trivial | exact ObWk.refl _ | exact ObWk.of_eq (by rw [List.take_of_length_le hge]) | refine And.intro ?_ ?_ | unfold pullOk)), ?_⟩
   exact Wk.of_eq (by rw [List.take_of_length_le hge]; rfl)
theorem forward20_ (l : List Inp) (hl : l.length ≤ 1000000) : FCall Tryd.prog Gl 15 [LIp l] [] (LIpn l) [] := by
 refine FCall.enterL hT hmix [] Tryd.func15 rfl rfl rfl fun hbd => ?_
 (conv => whnf)
 refine LWp.loop hT hmix [] (fun k : Nat => [(4, vI k), (3, .list (.tok 403) ((l.take k).map Inp.enc))]) (fun k => [(403, .tok ((l.take k).map Inp.enc).length 6)]) (fun k => k ≤ l.length) (fun k => l.length - k) 0 (Nat.zero_le _) ?_
 (conv => whnf)
 refine ⟨?_, fun k hk => ?_⟩
 ·(repeat' (first | exact trivial | exact Wk.refl _ | exact ObWk.refl _ | exact rfl | exact ⟨_, rfl⟩ | exact Nat.zero_lt_one | refine And.intro ?_ ?_ | unfold okTo | (unfold okO; conv => whnf) | (unfold okS; conv => whnf) | (unfold SlotOk; conv => whnf) | (unfold ObjOk; conv => whnf) | (unfold okCells; conv => whnf) | (unfold liveTo; conv => whnf) | exact Nat.zero_lt_succ _))
 ·have hz : (l.take (k + 1)).length ≤ k + 1 := List.length_take_le _ _
  (conv => whnf)
  refine split_intro (fun h => ?_) (fun h => ?_)
  ·have hlt : k < l.length := by have := of_decide_eq_true h; rw [List.length_map] at this; omega
   obtain ⟨x, hx⟩ := exI hlt
   (((conv => whnf)); (refine ⟨_, ⟨by omega, getMap hx⟩, ?_⟩); ((conv => whnf)); (refine ⟨_, ⟨by omega, getMap hx⟩, ?_⟩); ((conv => whnf)); (refine ⟨_, ⟨by omega, getMap hx⟩, ?_⟩); ((conv => whnf)); (refine ⟨_, ⟨by omega, getMap hx⟩, ?_⟩); ((conv => whnf)); (refine ⟨_, ⟨by omega, getMap hx⟩, ?_⟩); ((conv => whnf)))
   refine ⟨_, appL (f := Inp.enc) (xs := l.take k) (ys := [x]) (zs := l.take (k + 1)) rfl rfl (fun _ => rfl) (by rw [List.take_add_one, hx]; rfl) (by show _ * 120 ≤ _; omega), ?_⟩
   (conv => whnf)
   refine ⟨_, add64 (c := ((k + 1 : Nat) : Int)) (by (try simp only []); omega) (by omega), ?_⟩
   (conv => whnf)
   refine ⟨k + 1, ⟨by omega, by simp only []; omega⟩, ?_⟩
   (repeat' (first | exact trivial | exact Wk.refl _ | exact ObWk.refl _ | exact rfl | exact ⟨_, rfl⟩ | exact Nat.zero_lt_one | refine And.intro ?_ ?_ | unfold okTo | (unfold okO; conv => whnf) | (unfold okS; conv => whnf) | (unfold SlotOk; conv => whnf) | (unfold ObjOk; conv => whnf) | (unfold okCells; conv => whnf) | (unfold liveTo; conv => whnf) | exact Nat.zero_lt_succ _))
  ·have hge : l.length ≤ k := by have := of_decide_eq_false h; rw [List.length_map] at this; omega
   (conv => whnf)
   exact Wk.of_eq (by rw [List.take_of_length_le hge]; rfl)
theorem name_ (k : Nat) (hk : k < 6) : FCall Tryd.prog Gl 33 [vI k] [] (sD (nameOf k)) [] := by
 have h : k = 0 ∨ k = 1 ∨ k = 2 ∨ k = 3 ∨ k = 4 ∨ k = 5 := by omega
 refine FCall.enterL hT hmix [] Tryd.func33 rfl rfl rfl fun hbd => ?_
 rcases h with rfl | rfl | rfl | rfl | rfl | rfl
 all_goals
  (conv => whnf)
  refine ⟨_, rem64 rfl (by decide), ?_⟩
  (conv => whnf)
  refine ⟨_, ⟨by decide, rfl⟩, ?_⟩
  (conv => whnf)
  exact Wk.refl _
theorem inputs_ (l : List Fil) (hm : ∀ x ∈ l, ∀ m ∈ x.members, OkM m) : FCall Tryd.prog Gl 10 [LF l] [] (.tuple [LIp (inputsR l).1, vB (inputsR l).2]) [] := by
 have e0 : ¬ (l.length ≤ 6 ∧ l.all filOk = true) → inputsR l = ([], false) := fun h => if_neg h
 have e1 : (l.length ≤ 6 ∧ l.all filOk = true) → inputsR l = (insL 0 l, true) := fun h => if_pos h
 refine FCall.enterL hT hmix [] Tryd.func10 rfl rfl rfl fun hbd => ?_
 (conv => whnf)
 refine split_intro (fun h0 => ?_) (fun h0 => ?_)
 ·have h' : 6 < l.length := by have := of_decide_eq_true h0; rw [List.length_map] at this; omega
  rw [e0 (by omega)]
  (conv => whnf)
  exact Wk.tuple (Wks.cons Wk.nil (Wks.cons (Wk.refl _) Wks.nil))
 ·have h' : l.length ≤ 6 := by have := of_decide_eq_false h0; rw [List.length_map] at this; omega
  (conv => whnf)
  refine LWp.loop hT hmix [8] (fun k : Nat => [(5, vI k), (4, .list (.tok 403) ((insL 0 (l.take k)).map Inp.enc))]) (fun k => [(403, .tok ((insL 0 (l.take k)).map Inp.enc).length 6)]) (fun k => k ≤ l.length ∧ (l.take k).all filOk = true) (fun k => l.length - k) 0 ⟨Nat.zero_le _, by simp⟩ ?_
  (conv => whnf)
  refine ⟨?_, fun k ⟨hk, hkk⟩ => ?_⟩
  ·(repeat' (first | exact trivial | exact Wk.refl _ | exact ObWk.refl _ | exact rfl | exact ⟨_, rfl⟩ | exact Nat.zero_lt_one | refine And.intro ?_ ?_ | unfold okTo | (unfold okO; conv => whnf) | (unfold okS; conv => whnf) | (unfold SlotOk; conv => whnf) | (unfold ObjOk; conv => whnf) | (unfold okCells; conv => whnf) | (unfold liveTo; conv => whnf) | exact Nat.zero_lt_succ _))
  ·(conv => whnf)
   refine split_intro (fun h => ?_) (fun h => ?_)
   ·have hlt : k < l.length := by have := of_decide_eq_true h; rw [List.length_map] at this; omega
    obtain ⟨x, hx⟩ := exI hlt
    have hz : (insL 0 (l.take (k + 1))).length ≤ k + 1 := by rw [insL_len]; exact List.length_take_le _ _
    have hst := insL_take hx
    have hal : filOk x = true → (l.take (k + 1)).all filOk = true := fun h => by rw [List.take_add_one, hx]; simp only [Option.toList_some, List.all_append, hkk, Bool.true_and, List.all_cons, List.all_nil, Bool.and_true]; exact h
    have hbad : filOk x = false → inputsR l = ([], false) := fun h => e0 (fun q => by have := List.all_eq_true.1 q.2 x (List.mem_of_getElem? hx); rw [h] at this; exact absurd this (by simp))
    have V := view_ x.members (hm x (List.mem_of_getElem? hx))
    have R := right_ [x.obj]
    (conv => whnf)
    refine CallLeaf.wa (name_ k (by omega)) rfl ?_
    (conv => whnf)
    refine ⟨_, ⟨by omega, getMap hx⟩, ?_⟩
    (conv => whnf)
    refine LWp.cut hT hmix [] [] (fun _ : Unit => []) (fun _ => [(3648, .cells (mkIn k x).enc)]) [3648] (fun _ => filOk x = true) ?_
    (conv => whnf)
    refine ⟨?_, fun _ hfx => ?_⟩
    ·(conv => whnf)
     refine ⟨_, ⟨by omega, getMap hx⟩, ?_⟩
     (conv => whnf)
     refine split_intro (fun ha => ?_) (fun ha => ?_)
     ·have hfo : filOk x = ((viewR x.members).2 && decide (x.members.length ≤ 6)) := by simp [filOk, ha]
      have hmk : (mkIn k x).enc = (⟨nameOf k, x.arch, ⟨[], []⟩, (viewR x.members).1⟩ : Inp).enc := by simp [mkIn, ha]
      rw [hmk]
      rw [hfo] at hbad ⊢
      revert V hbad
      generalize viewR x.members = p
      obtain ⟨v, b⟩ := p
      intro hbad V
      (conv => whnf)
      refine ⟨_, ⟨by omega, getMap hx⟩, ?_⟩
      (conv => whnf)
      refine CallLeaf.wa (V) rfl ?_
      (conv => whnf)
      cases b with
      | false =>
       rw [hbad rfl]
       (conv => whnf)
       exact Wk.tuple (Wks.cons Wk.nil (Wks.cons (Wk.refl _) Wks.nil))
      | true =>
       (conv => whnf)
       refine ⟨_, ⟨by omega, getMap hx⟩, ?_⟩
       (conv => whnf)
       refine split_intro (fun h6 => ?_) (fun h6 => ?_)
       ·have h6' : ¬ x.members.length ≤ 6 := by have := of_decide_eq_true h6; rw [List.length_map] at this; omega
        rw [hbad (by rw [decide_eq_false h6']; rfl)]
        (conv => whnf)
        exact Wk.tuple (Wks.cons Wk.nil (Wks.cons (Wk.refl _) Wks.nil))
       ·have h6' : x.members.length ≤ 6 := by have := of_decide_eq_false h6; rw [List.length_map] at this; omega
        (conv => whnf)
        refine ⟨(), by rw [decide_eq_true h6']; rfl, ?_⟩
        (repeat' (first | exact trivial | exact Wk.refl _ | exact ObWk.refl _ | exact rfl | exact ⟨_, rfl⟩ | exact Nat.zero_lt_one | refine And.intro ?_ ?_ | unfold okTo | (unfold okO; conv => whnf) | (unfold okS; conv => whnf) | (unfold SlotOk; conv => whnf) | (unfold ObjOk; conv => whnf) | (unfold okCells; conv => whnf) | (unfold liveTo; conv => whnf) | exact Nat.zero_lt_succ _))
        all_goals first | exact Wk.nil | exact Wk.of_eq rfl
     ·have hfo : filOk x = rightO [x.obj] := by simp [filOk, ha]
      have hmk : (mkIn k x).enc = (⟨nameOf k, x.arch, x.obj, ⟨[], []⟩⟩ : Inp).enc := by simp [mkIn, ha]
      rw [hmk]
      rw [hfo] at hbad ⊢
      (conv => whnf)
      refine ⟨_, ⟨by omega, getMap hx⟩, ?_⟩
      (conv => whnf)
      refine CallLeaf.wa (R) rfl ?_
      (conv => whnf)
      refine split_intro (fun hr => ?_) (fun hr => ?_)
      ·rw [hbad (by simpa using hr)]
       (conv => whnf)
       exact Wk.tuple (Wks.cons Wk.nil (Wks.cons (Wk.refl _) Wks.nil))
      ·(conv => whnf)
       refine ⟨_, ⟨by omega, getMap hx⟩, ?_⟩
       (conv => whnf)
       refine ⟨(), by simpa using hr, ?_⟩
       (repeat' (first | exact trivial | exact Wk.refl _ | exact ObWk.refl _ | exact rfl | exact ⟨_, rfl⟩ | exact Nat.zero_lt_one | refine And.intro ?_ ?_ | unfold okTo | (unfold okO; conv => whnf) | (unfold okS; conv => whnf) | (unfold SlotOk; conv => whnf) | (unfold ObjOk; conv => whnf) | (unfold okCells; conv => whnf) | (unfold liveTo; conv => whnf) | exact Nat.zero_lt_succ _))
       all_goals first | exact Wk.nil | exact Wk.of_eq rfl
    ·(conv => whnf)
     refine ⟨_, appL (f := Inp.enc) (xs := insL 0 (l.take k)) (ys := [mkIn k x]) (zs := insL 0 (l.take (k + 1))) rfl rfl (fun _ => rfl) hst.symm (by show _ * 120 ≤ _; omega), ?_⟩
     (conv => whnf)
     refine ⟨_, add64 (c := ((k + 1 : Nat) : Int)) (by (try simp only []); omega) (by omega), ?_⟩
     (conv => whnf)
     refine ⟨k + 1, ⟨⟨by omega, hal hfx⟩, by simp only []; omega⟩, ?_⟩
     (repeat' (first | exact trivial | exact Wk.refl _ | exact ObWk.refl _ | exact rfl | exact ⟨_, rfl⟩ | exact Nat.zero_lt_one | refine And.intro ?_ ?_ | unfold okTo | (unfold okO; conv => whnf) | (unfold okS; conv => whnf) | (unfold SlotOk; conv => whnf) | (unfold ObjOk; conv => whnf) | (unfold okCells; conv => whnf) | (unfold liveTo; conv => whnf) | exact Nat.zero_lt_succ _))
   ·have hge : l.length ≤ k := by have := of_decide_eq_false h; rw [List.length_map] at this; omega
    rw [List.take_of_length_le hge] at hkk
    rw [e1 ⟨h', hkk⟩]
    (conv => whnf)
    refine Wk.tuple (Wks.cons ?_ (Wks.cons (Wk.refl _) Wks.nil))
    rw [List.take_of_length_le hge]
    exact Wk.list _ _
theorem members_ (l : List Inp) (hl : l.length ≤ 1000) (hm : ∀ x ∈ l, x.view.members.length ≤ 1000) : FCall Tryd.prog Gl 17 [LIp l] [] (vI (memG l)) [] := by
 have hb : ∀ k, memG (l.take k) ≤ 1000 * k := fun k => by
  induction k with
  | zero => simp [memG]
  | succ k ih =>
   rcases Nat.lt_or_ge k l.length with h | h
   ·obtain ⟨x, hx⟩ := exI h
    rw [List.take_add_one, hx, Option.toList_some, memG_snoc]
    have := hm x (List.mem_of_getElem? hx)
    omega
   ·rw [List.take_of_length_le (by omega)]; rw [List.take_of_length_le h] at ih; omega
 refine FCall.enterL hT hmix [] Tryd.func17 rfl rfl rfl fun hbd => ?_
 (conv => whnf)
 refine LWp.loop hT hmix [] (fun k : Nat => [(4, vI k), (3, vI (memG (l.take k)))]) (fun _ => []) (fun k => k ≤ l.length) (fun k => l.length - k) 0 (Nat.zero_le _) ?_
 (conv => whnf)
 refine ⟨?_, fun k hk => ?_⟩
 ·(repeat' (first | exact trivial | exact Wk.refl _ | exact ObWk.refl _ | exact rfl | exact ⟨_, rfl⟩ | exact Nat.zero_lt_one | refine And.intro ?_ ?_ | unfold okTo | (unfold okO; conv => whnf) | (unfold okS; conv => whnf) | (unfold SlotOk; conv => whnf) | (unfold ObjOk; conv => whnf) | (unfold okCells; conv => whnf) | (unfold liveTo; conv => whnf) | exact Nat.zero_lt_succ _))
 ·have hb1 := hb (k + 1)
  (conv => whnf)
  refine split_intro (fun h => ?_) (fun h => ?_)
  ·have hlt : k < l.length := by have := of_decide_eq_true h; rw [List.length_map] at this; omega
   obtain ⟨x, hx⟩ := exI hlt
   have hst : memG (l.take (k + 1)) = memG (l.take k) + x.view.members.length := by rw [List.take_add_one, hx, Option.toList_some, memG_snoc]
   (conv => whnf)
   refine ⟨_, ⟨by omega, getMap hx⟩, ?_⟩
   (conv => whnf)
   refine ⟨_, add64 (c := ((memG (l.take (k + 1)) : Nat) : Int)) (by rw [hst, List.length_map]; omega) (by omega), ?_⟩
   (conv => whnf)
   refine ⟨_, add64 (c := ((k + 1 : Nat) : Int)) (by (try simp only []); omega) (by omega), ?_⟩
   (conv => whnf)
   refine ⟨k + 1, ⟨by omega, by simp only []; omega⟩, ?_⟩
   (repeat' (first | exact trivial | exact Wk.refl _ | exact ObWk.refl _ | exact rfl | exact ⟨_, rfl⟩ | exact Nat.zero_lt_one | refine And.intro ?_ ?_ | unfold okTo | (unfold okO; conv => whnf) | (unfold okS; conv => whnf) | (unfold SlotOk; conv => whnf) | (unfold ObjOk; conv => whnf) | (unfold okCells; conv => whnf) | (unfold liveTo; conv => whnf) | exact Nat.zero_lt_succ _))
  ·have hge : l.length ≤ k := by have := of_decide_eq_false h; rw [List.length_map] at this; omega
   (conv => whnf)
   exact Wk.of_eq (by rw [List.take_of_length_le hge])
end Go.Proofs.YtfbmknghfhancaaDoor

namespace Go.Proofs.YtfbmknghfhancaaDoor
open Go Go.AL Go.AL.Bd Go.AL.Tb Go.AL.Sc Go.AL.Gp
set_option maxRecDepth 100000
set_option maxHeartbeats 4000000
theorem gloadN_ : FCall Tryd.prog Gl 14 [pN, .nil] [] (vI 0) [] := by
 refine FCall.enterL hT hmix [] Tryd.func14 rfl rfl rfl fun hbd => ?_
 (conv => whnf)
 exact Wk.refl _
def F3 : List Fil := [⟨true, [⟨[97], 0, 0, 0, 0, Ob.encO oA⟩], ⟨[], []⟩⟩, ⟨true, [⟨[98], 0, 0, 0, 0, Ob.encO oB⟩], ⟨[], []⟩⟩, ⟨false, [], oM⟩]
theorem F3_ok : ∀ x ∈ F3, ∀ m ∈ x.members, OkM m := by
 intro x hx m hm
 refine L2_ok m ?_
 have h : x = ⟨true, [⟨[97], 0, 0, 0, 0, Ob.encO oA⟩], ⟨[], []⟩⟩ ∨ x = ⟨true, [⟨[98], 0, 0, 0, 0, Ob.encO oB⟩], ⟨[], []⟩⟩ ∨ x = ⟨false, [], oM⟩ := by simpa [F3] using hx
 rcases h with rfl | rfl | rfl
 ·simp at hm; subst hm; simp [L2]
 ·simp at hm; subst hm; simp [L2]
 ·simp at hm
theorem S0_ok : OkS ⟨[], [], []⟩ 0 := ⟨by simp, fun o ho => by simp at ho, rfl, fun p hp => by simp at hp⟩
theorem awake_20_ : FCall Tryd.prog Gl 11 [] [] (vB true) [] := by
 have EA := data_ oA.syms (by decide +kernel) (by decide)
 have EB := data_ oB.syms (by decide +kernel) (by decide)
 rw [show (O.encRO' ⟨oA.syms, []⟩).1 = Ob.encO oA by decide +kernel] at EA
 rw [show (O.encRO' ⟨oB.syms, []⟩).1 = Ob.encO oB by decide +kernel] at EB
 have I := inputs_ F3 F3_ok
 have hi : (inputsR F3).2 = true := by decide +kernel
 obtain ⟨e1, gd⟩ := inputs_good hi
 rw [hi, e1] at I
 have hl := gd.len
 have hmG : memG (archs (insL 0 F3)) ≤ 60 := by decide +kernel
 have G1 := FCall.pre1 stB_zero (gload_ ⟨[], [], []⟩ 0 (insL 0 F3) 61 (by omega) (by omega) hmG (by omega) S0_ok gd.ok)
 have okg : OkS (grp (insL 0 F3) 61 ⟨[], [], []⟩).1 100 := by
  have a := OkS.ldG (l := objs (insL 0 F3)) (fun x hx => gd.ok x (List.mem_filter.1 hx).1) S0_ok
  have b := (GI.start (F := 61) (Nat.lt_of_le_of_lt (lftG_le (archs (insL 0 F3)) (ldG (objs (insL 0 F3)) ⟨[], [], []⟩)) (by omega)) a).ok
  have c : ∀ (F : Nat) {S : Ls} {w : Nat}, OkS S w → lftG (archs (insL 0 F3)) S < F → OkS (rounds (archs (insL 0 F3)) F S).1 (w + lftG (archs (insL 0 F3)) S) := by
   intro F
   induction F with
   | zero => intro S w _ h; omega
   | succ F ih =>
    intro S w ok h
    have h1 := lftG_round (archs (insL 0 F3)) S (archs (insL 0 F3)) (fun _ h => h)
    have h2 := OkS.round (l := archs (insL 0 F3)) (fun x hx => gd.ok x (List.mem_filter.1 hx).1) ok
    simp only [rounds]
    split
    ·exact h2.mono (by omega)
    ·exact (ih h2 (by omega)).mono (by omega)
  have h3 := lftG_le (archs (insL 0 F3)) (ldG (objs (insL 0 F3)) ⟨[], [], []⟩)
  have h4 : (objs (insL 0 F3)).length ≤ 6 := Nat.le_trans (List.length_filter_le _ _) hl
  exact (c 61 a (by omega)).mono (by omega)
 have U := unitsS_ (grp (insL 0 F3) 61 ⟨[], [], []⟩).1 (by decide +kernel)
 have C := gcan_ (grp (insL 0 F3) 61 ⟨[], [], []⟩).1 100 (by omega) okg (insL 0 F3) (by omega) gd.ok
 rw [show canG (insL 0 F3) (grp (insL 0 F3) 61 ⟨[], [], []⟩).1 = false by decide +kernel] at C
 rw [show (grp (insL 0 F3) 61 ⟨[], [], []⟩).2 = 3 by decide +kernel] at G1
 rw [show (grp (insL 0 F3) 61 ⟨[], [], []⟩).1.us = [⟨[102, 50], [], 0⟩, ⟨[102, 49], [98], 0⟩, ⟨[102, 48], [97], 0⟩] by decide +kernel] at U
 have FW := forward20_ (insL 0 F3) (by omega)
 generalize insL 0 F3 = il at *
 generalize (grp il 61 ⟨[], [], []⟩).1 = S2 at *
 have SU := sameU_ [⟨[102, 50], [], 0⟩, ⟨[102, 49], [98], 0⟩, ⟨[102, 48], [97], 0⟩] [⟨[102, 50], [], 0⟩, ⟨[102, 49], [98], 0⟩, ⟨[102, 48], [97], 0⟩]
 refine FCall.enterL hT hmix [] Tryd.func11 rfl rfl rfl fun hbd => ?_
 (conv => whnf)
 refine CallLeaf.wa (EA) rfl ?_
 (conv => whnf)
 refine CallLeaf.wa (EB) rfl ?_
 (conv => whnf)
 refine CallLeaf.w (by repeat' (first | exact ArgsTo.nil | refine ArgsTo.cons ?_ ?_ | exact ArgTo.mk' rfl (Wk.refl _) | exact ArgTo.mk' rfl (Wk.listW (by (repeat' (first | exact WkLL.nil | refine WkLL.cons ?_ rfl ?_ | exact Wks.nil | refine Wks.cons ?_ ?_ | exact Wk.refl _ | exact Wk.nil | exact Wk.list _ _))) rfl))) (I) rfl ?_
 (conv => whnf)
 refine CallLeaf.wa (FW) rfl ?_
 (conv => whnf)
 refine CallLeaf.oa [1024] (G1) rfl rfl rfl rfl ?_
 (conv => whnf)
 refine CallLeaf.oa [1024] (U) rfl rfl rfl rfl ?_
 (conv => whnf)
 refine CallLeaf.wa (SU) rfl ?_
 (conv => whnf)
 refine CallLeaf.wa (FW) rfl ?_
 (conv => whnf)
 refine CallLeaf.oa [1024] (C) rfl rfl rfl rfl ?_
 (conv => whnf)
 refine CallLeaf.wa (gloadN_) rfl ?_
 (conv => whnf)
 exact Wk.refl _
end Go.Proofs.YtfbmknghfhancaaDoor
