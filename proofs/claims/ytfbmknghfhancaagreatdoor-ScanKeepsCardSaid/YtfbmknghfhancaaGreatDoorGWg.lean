/- Members and views compared. No condition. -/
import Derived.Test.YtfbmknghfhancaaGreatDoorGAc
import Derived.Test.YtfbmknghfhancaaGreatDoorGWa
import Derived.Test.YtfbmknghfhancaaGreatDoorGWc
import Derived.Test.YtfbmknghfhancaaGreatDoorGPa
import Derived.Test.YtfbmknghfhancaaGreatDoorGWf
import Derived.Test.YtfbmknghfhancaaGreatDoorRows
import Derived.LaidMore
import Derived.Stop.Joined
import Derived.SevenTiedAt
import Derived.Lib.LaidTab
set_option linter.unusedVariables false
set_option linter.unusedSimpArgs false
namespace Go.Proofs.YtfbmknghfhancaaGreatDoor
open Go Go.AL Go.AL.Bd Go.AL.Tb Go.AL.Sc
set_option maxRecDepth 100000
set_option maxHeartbeats 4000000
theorem sameM_ (a b : Mem) : FCall Tryz.prog Gl 44 [.agg a.enc, .agg b.enc] [] (vB (decide (a = b))) [] := by
 obtain ⟨a1, a2, a3, a4, a5, a6⟩ := a
 obtain ⟨b1, b2, b3, b4, b5, b6⟩ := b
 have S := O.same_ a6 b6
 refine FCall.enterL hT hmix [] Tryz.func44 rfl rfl rfl fun hbd => ?_
 (conv => whnf)
 refine split_intro (fun h1 => ?_) (fun h1 => ?_)
 ·(conv => whnf)
  refine split_intro (fun h2 => ?_) (fun h2 => ?_)
  ·(conv => whnf)
   refine split_intro (fun h3 => ?_) (fun h3 => ?_)
   ·(conv => whnf)
    refine split_intro (fun h4 => ?_) (fun h4 => ?_)
    ·(conv => whnf)
     refine split_intro (fun h5 => ?_) (fun h5 => ?_)
     ·(conv => whnf)
      refine CallLeaf.wa (S) rfl ?_
      (conv => whnf)
      exact Wk.bool (by simp at h1 h2 h3 h4 h5; rw [decide_eq_decide]; simp [h1, h2, h3, h4, h5])
     ·(conv => whnf)
      exact Wk.bool (by simp at h1 h2 h3 h4 h5; simp [h1, h2, h3, h4, h5])
    ·(conv => whnf)
     exact Wk.bool (by simp at h1 h2 h3 h4; simp [h1, h2, h3, h4])
   ·(conv => whnf)
    exact Wk.bool (by simp at h1 h2 h3; simp [h1, h2, h3])
  ·(conv => whnf)
   exact Wk.bool (by simp at h1 h2; simp [h1, h2])
 ·(conv => whnf)
  exact Wk.bool (by simp at h1; simp [h1])
theorem sameMs_ (a b : List Mem) : FCall Tryz.prog Gl 19 [LM a, LM b] [] (vB (decide (a = b))) [] := by
 refine FCall.enterL hT hmix [] Tryz.func19 rfl rfl rfl fun hbd => ?_
 have ha := bds_list hbd (.head _)
 (conv => whnf)
 refine split_intro (fun h => ?_) (fun h => ?_)
 ·have h' := len_ne h
  simp at h'
  (conv => whnf)
  exact Wk.bool (by symm; simp; intro e; subst e; exact h' rfl)
 ·have hab : a.length = b.length := by have := len_eq h; simpa using this
  (conv => whnf)
  refine LWp.loop hT hmix [] (fun k : Nat => [(5, vI k)]) (fun _ => []) (fun k => k ≤ a.length ∧ a.take k = b.take k) (fun k => a.length - k) 0 ⟨Nat.zero_le _, rfl⟩ ?_
  (conv => whnf)
  refine ⟨?_, fun k ⟨hk, hkk⟩ => ?_⟩
  ·(repeat' (first | exact trivial | exact Wk.refl _ | exact ObWk.refl _ | exact rfl | exact ⟨_, rfl⟩ | exact Nat.zero_lt_one | refine And.intro ?_ ?_ | unfold okTo | (unfold okO; conv => whnf) | (unfold okS; conv => whnf) | (unfold SlotOk; conv => whnf) | (unfold ObjOk; conv => whnf) | (unfold okCells; conv => whnf) | (unfold liveTo; conv => whnf) | exact Nat.zero_lt_succ _))
  ·(conv => whnf)
   refine split_intro (fun h => ?_) (fun h => ?_)
   ·have hlt : k < a.length := by simpa using h
    obtain ⟨x, hx⟩ := exI hlt
    obtain ⟨y, hy⟩ := exI (hab ▸ hlt : k < b.length)
    (conv => whnf)
    refine ⟨_, ⟨by omega, getMap hx⟩, ?_⟩
    (conv => whnf)
    refine ⟨_, ⟨by omega, getMap hy⟩, ?_⟩
    (conv => whnf)
    refine CallLeaf.wa (sameM_ x y) rfl ?_
    (conv => whnf)
    refine split_intro (fun hxy => ?_) (fun hxy => ?_)
    ·have hne : ¬ x = y := by simpa using hxy
     (conv => whnf)
     exact Wk.bool (by
      symm; rw [decide_eq_false_iff_not]; intro e; subst e
      rw [hx] at hy; injection hy with hy; exact hne hy)
    ·have he : x = y := by simpa using hxy
     (conv => whnf)
     refine ⟨_, add64 (c := ((k + 1 : Nat) : Int)) (by (try simp only []); omega) (by omega), ?_⟩
     (conv => whnf)
     refine ⟨k + 1, ⟨⟨by omega, ?_⟩, by simp only []; omega⟩, ?_⟩
     ·subst he
      rw [List.take_add_one, List.take_add_one, hx, hy, hkk]
     ·(repeat' (first | exact trivial | exact Wk.refl _ | exact ObWk.refl _ | exact rfl | exact ⟨_, rfl⟩ | exact Nat.zero_lt_one | refine And.intro ?_ ?_ | unfold okTo | (unfold okO; conv => whnf) | (unfold okS; conv => whnf) | (unfold SlotOk; conv => whnf) | (unfold ObjOk; conv => whnf) | (unfold okCells; conv => whnf) | (unfold liveTo; conv => whnf) | exact Nat.zero_lt_succ _))
   ·(conv => whnf)
    exact Wk.bool (by
     have hge : a.length ≤ k := by simpa using h
     symm; simp
     rwa [List.take_of_length_le hge, List.take_of_length_le (by omega)] at hkk)
abbrev Mem_encN (m : Mem) : List D := [sD m.name, vI m.time, vI m.uid, vI m.gid, vI m.mode, LBn m.data]
theorem mem_wk (t : Tg) (l : List Mem) : Wk (.list t (l.map Mem_encN)) (LM l) :=
 Wk.listE t l (fun _ => rfl) (fun a i h1 h2 => by
  have hi : i < 6 := h1
  have : i = 0 ∨ i = 1 ∨ i = 2 ∨ i = 3 ∨ i = 4 ∨ i = 5 := by omega
  rcases this with rfl | rfl | rfl | rfl | rfl | rfl
  ·exact Wk.refl _
  ·exact Wk.refl _
  ·exact Wk.refl _
  ·exact Wk.refl _
  ·exact Wk.refl _
  ·exact Wk.list _ _) (fun a d hd => by simp at hd; rcases hd with rfl | rfl | rfl | rfl | rfl | rfl <;> rfl)
theorem copy_ (l : List Mem) (hl : l.length ≤ 1000000) (hd : ∀ m ∈ l, m.data.length ≤ 1000000000) : FCall Tryz.prog Gl 18 [LM l] [] (LM l) [] := by
 refine FCall.enterL hT hmix [] Tryz.func18 rfl rfl rfl fun hbd => ?_
 (conv => whnf)
 refine LWp.loop hT hmix [] (fun k : Nat => [(4, vI k), (3, .list (.tok 403) ((l.take k).map Mem_encN))]) (fun k => [(403, .tok ((l.take k).map Mem_encN).length 6)]) (fun k => k ≤ l.length) (fun k => l.length - k) 0 (Nat.zero_le _) ?_
 (conv => whnf)
 refine ⟨?_, fun k hk => ?_⟩
 ·(repeat' (first | exact trivial | exact Wk.refl _ | exact ObWk.refl _ | exact rfl | exact ⟨_, rfl⟩ | exact Nat.zero_lt_one | refine And.intro ?_ ?_ | unfold okTo | (unfold okO; conv => whnf) | (unfold okS; conv => whnf) | (unfold SlotOk; conv => whnf) | (unfold ObjOk; conv => whnf) | (unfold okCells; conv => whnf) | (unfold liveTo; conv => whnf) | exact Nat.zero_lt_succ _))
 ·have hz : (l.take (k + 1)).length ≤ k + 1 := List.length_take_le _ _
  (conv => whnf)
  refine split_intro (fun h => ?_) (fun h => ?_)
  ·have hlt : k < l.length := by have := of_decide_eq_true h; rw [List.length_map] at this; omega
   obtain ⟨m, hm⟩ := exI hlt
   have hmd := hd m (List.mem_of_getElem? hm)
   (conv => whnf)
   refine ⟨_, ⟨by omega, getMap hm⟩, ?_⟩
   (conv => whnf)
   refine ⟨_, appL (f := byteD) (xs := []) (ys := m.data) (zs := m.data) rfl rfl (fun _ => rfl) rfl (by show _ * 1 ≤ _; omega), ?_⟩
   (conv => whnf)
   refine ⟨_, appL (f := Mem_encN) (xs := l.take k) (ys := [m]) (zs := l.take (k + 1)) rfl rfl (fun _ => rfl) (by rw [List.take_add_one, hm]; rfl) (by show _ * 72 ≤ _; omega), ?_⟩
   (conv => whnf)
   refine ⟨_, add64 (c := ((k + 1 : Nat) : Int)) (by (try simp only []); omega) (by omega), ?_⟩
   (conv => whnf)
   refine ⟨k + 1, ⟨by omega, by simp only []; omega⟩, ?_⟩
   (repeat' (first | exact trivial | exact Wk.refl _ | exact ObWk.refl _ | exact rfl | exact ⟨_, rfl⟩ | exact Nat.zero_lt_one | refine And.intro ?_ ?_ | unfold okTo | (unfold okO; conv => whnf) | (unfold okS; conv => whnf) | (unfold SlotOk; conv => whnf) | (unfold ObjOk; conv => whnf) | (unfold okCells; conv => whnf) | (unfold liveTo; conv => whnf) | exact Nat.zero_lt_succ _))
  ·have hge : l.length ≤ k := by have := of_decide_eq_false h; rw [List.length_map] at this; omega
   (conv => whnf)
   rw [List.take_of_length_le hge]
   exact mem_wk _ _
end Go.Proofs.YtfbmknghfhancaaGreatDoor

namespace Go.Proofs.YtfbmknghfhancaaGreatDoor
open Go Go.AL Go.AL.Bd Go.AL.Tb Go.AL.Sc
set_option maxRecDepth 100000
set_option maxHeartbeats 4000000
theorem numN_ (a b : List Nat) : FCall Tryz.prog Gl 22 [LNn a, LNn b] [] (vB (decide (a = b))) [] := by
 have h := numbers_ (a.map fun n : Nat => (n : Int)) (b.map fun n : Nat => (n : Int))
 have e : ∀ l : List Nat, LI (l.map fun n : Nat => (n : Int)) = LNn l := fun l => by
  simp only [LI, LNn, List.map_map]; rfl
 rw [e, e] at h
 have e2 : decide ((a.map fun n : Nat => (n : Int)) = (b.map fun n : Nat => (n : Int))) = decide (a = b) := by
  rw [decide_eq_decide]
  constructor
  ·intro h
   exact List.map_inj_right (f := fun n : Nat => (n : Int)) (fun x y e => Int.ofNat_inj.1 e) |>.1 h
  ·intro h; rw [h]
 rw [e2] at h
 exact h
abbrev vw (x : List Mem) : View := ⟨x, x.map fun m => defsOf m.data⟩
theorem scanMatches_ (l : List Ob.Obj) (x y : List Mem) (hx : ∀ m ∈ x, OkM m) (hy : ∀ m ∈ y, OkM m) : FCall Tryz.prog Gl 5 [LO l, LM x, LM y] [] (vB true) [] := by
 have V := view_ x hx
 have W := view_ y hy
 refine FCall.enterL hT hmix [] Tryz.func5 rfl rfl rfl fun hbd => ?_
 cases hv : (viewR x).2 with
 | false =>
  rw [hv] at V
  generalize (viewR x).1 = v at V
  generalize (viewR y).1 = w at W
  generalize (viewR y).2 = b at W
  (conv => whnf)
  refine CallLeaf.wa (V) rfl ?_
  (conv => whnf)
  refine CallLeaf.wa (W) rfl ?_
  (conv => whnf)
  refine CallLeaf.wa (awake_19_) rfl ?_
  (((conv => whnf)); (refine CallLeaf.wa (awake_19_) rfl ?_); ((conv => whnf)); exact Wk.refl _)
 | true =>
  obtain ⟨e1, okv, hnm⟩ := viewR_ok hv
  rw [hv, e1] at V
  have hn := okv.n
  replace hn : x.length ≤ 12 := hn
  cases hw : (viewR y).2 with
  | false =>
   rw [hw] at W
   generalize (viewR y).1 = w at W
   (conv => whnf)
   refine CallLeaf.wa (V) rfl ?_
   (conv => whnf)
   refine CallLeaf.wa (W) rfl ?_
   (conv => whnf)
   refine CallLeaf.wa (awake_19_) rfl ?_
   (((conv => whnf)); (refine CallLeaf.wa (awake_19_) rfl ?_); ((conv => whnf)); exact Wk.refl _)
  | true =>
   obtain ⟨e2, okw, hnm2⟩ := viewR_ok hw
   rw [hw, e2] at W
   have hn2 := okw.n
   replace hn2 : y.length ≤ 12 := hn2
   (conv => whnf)
   refine CallLeaf.wa (V) rfl ?_
   (conv => whnf)
   refine CallLeaf.wa (W) rfl ?_
   (conv => whnf)
   refine CallLeaf.wa (awake_19_) rfl ?_
   (conv => whnf)
   refine CallLeaf.wa (right_ l) rfl ?_
   (conv => whnf)
   refine split_intro (fun hr => ?_) (fun hr => ?_)
   ·(((conv => whnf)); (refine CallLeaf.wa (awake_19_) rfl ?_); ((conv => whnf)); exact Wk.refl _)
   ·have hR := not_f hr
    have L := lload_ l hR
    have ok0 := ldO_ok' (f := [111]) hR
    have ix0 : Inv xa (vw x) (ldO [111] l) := ldO_inv (by decide) _ l
    have iy0 : Inv ya (vw y) (ldO [111] l) := ldO_inv (by decide) _ l
    have P1 := passS_ xa (vw x) (ldO [111] l) 12 (by show 12 + x.length ≤ 300; omega) ok0 okv (by decide)
    have Q1 := rpass_ (ldO [111] l) xa (vw x) 12 ix0 okv ok0 (by show 12 + x.length ≤ 300; omega) (by decide)
    have ok1 : OkS (pass xa (vw x) (ldO [111] l)).1 24 := (ok0.pass okv (by decide)).mono (by have := (passN_len xa (vw x) (ldO [111] l) x.length).2.2.2; show 12 + (passN xa (vw x) x.length (ldO [111] l)).2 ≤ 24; omega)
    have ix1 : Inv xa (vw x) (pass xa (vw x) (ldO [111] l)).1 := ix0.pass
    have iy1 : Inv ya (vw y) (pass xa (vw x) (ldO [111] l)).1 := iy0.pass' (by decide)
    obtain ⟨n1, hn1⟩ : ∃ n, n = (pass xa (vw x) (ldO [111] l)).2 := ⟨_, rfl⟩
    rw [← hn1] at P1 Q1
    generalize (pass xa (vw x) (ldO [111] l)).1 = Sa at *
    have Ua := unitsS_ Sa (by have := ok1.len; have := ok1.us; omega)
    have SUa := sameU_ Sa.us Sa.us
    have Cx := canS_ xa (vw x) Sa 24 (by omega) ok1 (by decide) (by show x.length ≤ 1000; omega)
    have Cy := canS_ ya (vw y) Sa 24 (by omega) ok1 (by decide) (by show y.length ≤ 1000; omega)
    have Rx := rcanL_ Sa xa (vw x) ix1 okv (ok1.okL (by omega))
    have Ry := rcanL_ Sa ya (vw y) iy1 okw (ok1.okL (by omega))
    have Nx := numN_ (canL Sa xa (vw x)) (canL Sa xa (vw x))
    have Ny := numN_ (canL Sa ya (vw y)) (canL Sa ya (vw y))
    have A2 := archS_ ya (vw y) Sa 13 24 (Nat.lt_of_le_of_lt (lft_le _ _ _) (show y.length < 13 by omega)) (by show 24 + 2 * y.length ≤ 300; omega) ok1 okw (by decide)
    have B2 := rarch_ Sa ya (vw y) 13 24 (Nat.lt_of_le_of_lt (lft_le _ _ _) (show y.length < 13 by omega)) iy1 okw ok1 (by show 24 + 2 * y.length ≤ 300; omega) (by decide)
    have ok2 : OkS (arch ya (vw y) 13 Sa).1 36 := (OkS.arch okw (by decide) 13 ok1).mono (Nat.le_trans (Nat.add_le_add_left (Nat.le_trans (lft_le _ _ _) hn2) _) (by decide))
    have ix2 : Inv xa (vw x) (arch ya (vw y) 13 Sa).1 := Inv.arch' (by decide) 13 ix1
    obtain ⟨n2, hn2'⟩ : ∃ n, n = (arch ya (vw y) 13 Sa).2 := ⟨_, rfl⟩
    rw [← hn2'] at A2 B2
    generalize (arch ya (vw y) 13 Sa).1 = Sb at *
    have A3 := archS_ xa (vw x) Sb 13 36 (Nat.lt_of_le_of_lt (lft_le _ _ _) (show x.length < 13 by omega)) (by show 36 + 2 * x.length ≤ 300; omega) ok2 okv (by decide)
    have B3 := rarch_ Sb xa (vw x) 13 36 (Nat.lt_of_le_of_lt (lft_le _ _ _) (show x.length < 13 by omega)) ix2 okv ok2 (by show 36 + 2 * x.length ≤ 300; omega) (by decide)
    have ok3 : OkS (arch xa (vw x) 13 Sb).1 48 := (OkS.arch okv (by decide) 13 ok2).mono (Nat.le_trans (Nat.add_le_add_left (Nat.le_trans (lft_le _ _ _) hn) _) (by decide))
    obtain ⟨n3, hn3⟩ : ∃ n, n = (arch xa (vw x) 13 Sb).2 := ⟨_, rfl⟩
    rw [← hn3] at A3 B3
    generalize (arch xa (vw x) 13 Sb).1 = Sc3 at *
    have T := tableS_ Sc3
    have U3 := unitsS_ Sc3 (by have := ok3.len; have := ok3.us; omega)
    have SU3 := sameU_ Sc3.us Sc3.us
    have Wt := wantedS_ Sc3 48 (by omega) ok3
    have RW := rwanted_ Sc3.os (ok3.okL (by omega))
    have TX := texts_ (wantedL (Us Sc3.os)) (wantedL (Us Sc3.os))
    have Rs := resS_ Sc3 48 (by omega) ok3
    have RR := rres_ Sc3.os (ok3.okL (by omega))
    have SR := sameRes_ (resL (Us Sc3.os)) (resL (Us Sc3.os))
    have Fx := forward_ (vw x)
    have Fy := forward_ (vw y)
    (conv => whnf)
    refine CallLeaf.oa [2560] (L) rfl rfl rfl rfl ?_
    (conv => whnf)
    refine CallLeaf.wa (Fx) rfl ?_
    (conv => whnf)
    refine CallLeaf.oa [2560] (P1) rfl rfl rfl rfl ?_
    (conv => whnf)
    refine CallLeaf.wa (Q1) rfl ?_
    (conv => whnf)
    (refine split_intro (fun h => absurd h (by simp)) (fun _ => ?_); skip)
    (conv => whnf)
    refine CallLeaf.oa [2560] (Ua) rfl rfl rfl rfl ?_
    (conv => whnf)
    refine CallLeaf.wa (SUa) rfl ?_
    (conv => whnf)
    (refine split_intro (fun h => absurd h (by simp)) (fun _ => ?_); skip)
    (conv => whnf)
    refine CallLeaf.wa (Fx) rfl ?_
    (conv => whnf)
    refine CallLeaf.oa [2560] (Cx) rfl rfl rfl rfl ?_
    (conv => whnf)
    refine CallLeaf.wa (Rx) rfl ?_
    (conv => whnf)
    refine CallLeaf.wa (Nx) rfl ?_
    (conv => whnf)
    (refine split_intro (fun h => absurd h (by simp)) (fun _ => ?_); skip)
    (conv => whnf)
    refine CallLeaf.wa (Fy) rfl ?_
    (conv => whnf)
    refine CallLeaf.oa [2560] (Cy) rfl rfl rfl rfl ?_
    (conv => whnf)
    refine CallLeaf.wa (Ry) rfl ?_
    (conv => whnf)
    refine CallLeaf.wa (Ny) rfl ?_
    (conv => whnf)
    (refine split_intro (fun h => absurd h (by simp)) (fun _ => ?_); skip)
    (conv => whnf)
    refine CallLeaf.wa (Fy) rfl ?_
    (conv => whnf)
    refine CallLeaf.oa [2560] (A2) rfl rfl rfl rfl ?_
    (conv => whnf)
    refine CallLeaf.wa (B2) rfl ?_
    (conv => whnf)
    refine CallLeaf.wa (Fx) rfl ?_
    (conv => whnf)
    refine CallLeaf.oa [2560] (A3) rfl rfl rfl rfl ?_
    (conv => whnf)
    refine CallLeaf.wa (B3) rfl ?_
    (conv => whnf)
    refine CallLeaf.oa [2560] (T) rfl rfl rfl rfl ?_
    (conv => whnf)
    refine split_intro (fun _ => ?_) (fun h => by simp at h)
    (conv => whnf)
    refine split_intro (fun _ => ?_) (fun h => by simp at h)
    (conv => whnf)
    refine CallLeaf.oa [2560] (U3) rfl rfl rfl rfl ?_
    (conv => whnf)
    refine CallLeaf.wa (SU3) rfl ?_
    (conv => whnf)
    refine split_intro (fun _ => ?_) (fun h => by simp at h)
    (conv => whnf)
    refine CallLeaf.oa [2560] (Wt) rfl rfl rfl rfl ?_
    (conv => whnf)
    refine CallLeaf.wa (RW) rfl ?_
    (conv => whnf)
    refine CallLeaf.wa (TX) rfl ?_
    (conv => whnf)
    refine split_intro (fun _ => ?_) (fun h => by simp at h)
    (conv => whnf)
    refine CallLeaf.oa [2560] (Rs) rfl rfl rfl rfl ?_
    (conv => whnf)
    refine CallLeaf.wa (RR) rfl ?_
    (conv => whnf)
    refine CallLeaf.wa (SR) rfl ?_
    (conv => whnf)
    exact Wk.bool (by simp)
end Go.Proofs.YtfbmknghfhancaaGreatDoor

namespace Go.Proofs.YtfbmknghfhancaaGreatDoor
open Go Go.AL Go.AL.Bd Go.AL.Tb Go.AL.Sc Go.AL.Gp
open Go.ChangeShapes Go.WideShapes Go.ChangeAt Go.RowKit
set_option maxRecDepth 100000
theorem own : ownKnob Tryz.prog.godebug = none := by kernel_rfl
theorem laidOut : laidOutB Tryz.prog = true := by kernel_rfl
abbrev laidL {H : Type} : List (String × DataW H) := [("arlink/bind.strength", Rows.laid_arlink_bind_strength)]
abbrev doorSteps : Nat := 400
theorem door_met (os : Os) (args : Array Value) : laidMetH Tryz.prog laidL ((World.doorLaid Tryz.prog doorSteps os).forCall (fun _ _ => 0) ⟨#[], args, []⟩).memory :=
 laidMetH_of_parts3 (fuel := 8) (laidMet_of_run' 8 (by kernel_rfl) (by kernel_rfl)) (by kernel_rfl) (by kernel_rfl)
theorem gStrength : Tryz.prog.globalNamed "arlink/bind.strength" = some 0 := by kernel_rfl
theorem tStrength : (Tryz.prog.globals[0]?).map (·.type) = some 164 := by kernel_rfl
theorem globOk {W : World} (h : laidMetH Tryz.prog laidL W) : GlobOk Gl W := by
 rw [MakeChecks.laidMetH_plain _ _ _ (by kernel_rfl)] at h
 have hT := Lib.tabIs_of_head (P := Tryz.prog) (W := W) (name := "arlink/bind.strength") (k := .i64) (zs := [0, 3, 1, 2, 0, 0]) (rest := []) gStrength tStrength Tryz.underlying164 Tryz.underlying3 (by kernel_rfl) (by kernel_rfl) h
 intro g j hj
 by_cases hg : g = 0
 ·subst hg
  have hj' : j < 6 := hj
  have hc := hT.cell gStrength j hj'
  rw [cell?_eq] at hc
  refine ⟨_, hc, ?_, ?_⟩
  ·have : j = 0 ∨ j = 1 ∨ j = 2 ∨ j = 3 ∨ j = 4 ∨ j = 5 := by omega
   rcases this with rfl | rfl | rfl | rfl | rfl | rfl <;> exact .v _
  ·have : j = 0 ∨ j = 1 ∨ j = 2 ∨ j = 3 ∨ j = 4 ∨ j = 5 := by omega
   rcases this with rfl | rfl | rfl | rfl | rfl | rfl <;> rfl
 ·exfalso
  have : Gl g = [] := by
   first
    | (simp only [Gl]; done)
    | (simp only [Gl]; split; all_goals first | rfl | simp_all)
    | simp_all [Gl]
  rw [this] at hj; (try simp at hj)

theorem sym_of {n : Nat} {ds : List D} (h : Rd Tryz.prog (n + 2) 84 ds) : ∃ e : Ob.Sym, ds = e.enc := by
 simp only [Rd, Tryz.underlying84, Tryz.underlying3, Tryz.underlying9, RdFs] at h
 obtain ⟨a, b, rfl, ⟨s, _, rfl⟩, a2, b2, rfl, ⟨x, _, rfl⟩, a3, b3, rfl, ⟨y, _, rfl⟩, a4, b4, rfl, ⟨z, _, rfl⟩, rfl⟩ := h
 exact ⟨⟨s, x, y, z⟩, rfl⟩
theorem byte_of {n : Nat} {ds : List D} (h : Rd Tryz.prog (n + 1) 5 ds) : ∃ u : UInt8, ds = byteD u := by
 simp only [Rd, Tryz.underlying5] at h
 obtain ⟨x, hw, rfl⟩ := h
 simp [Lit.wf] at hw
 have h1 : IntKind.u8.min = 0 := rfl
 have h2 : IntKind.u8.max = 255 := rfl
 obtain ⟨m, rfl⟩ := Int.eq_ofNat_of_zero_le (show 0 ≤ x by omega)
 refine ⟨UInt8.ofNat m, ?_⟩
 simp only [byteD, List.cons.injEq, and_true, D.v.injEq, Value.int.injEq, true_and]
 simp; omega
theorem obj_of {n : Nat} {ds : List D} (h : Rd Tryz.prog (n + 5) 58 ds) : ∃ o : Ob.Obj, ds = Oe o := by
 rw [show n + 5 = (n + 4) + 1 from rfl, Rd, Tryz.underlying58] at h
 simp only [RdFs] at h
 obtain ⟨a, b, rfl, h1, a2, b2, rfl, h2, rfl⟩ := h
 obtain ⟨l, rfl⟩ := list_of' (n := n + 3) (f := Ob.Sym.enc) Tryz.underlying56 (fun x => sym_of (n := n + 1)) h1
 obtain ⟨x, rfl⟩ := list_of' (n := n + 3) (f := byteD) Tryz.underlying52 (fun x => byte_of (n := n + 2)) h2
 exact ⟨⟨l, x⟩, rfl⟩
theorem arg_LO {ds : List D} (h : Rd Tryz.prog 8 22 ds) : ∃ l : List Ob.Obj, True ∧ argD Tryz.prog 22 ds = LO l := by
 obtain ⟨l, e⟩ := list_of (f := Oe) Tryz.underlying22 (fun x => obj_of (n := 2)) h
 exact ⟨l, trivial, e⟩
theorem arg_sD {ds : List D} (h : Rd Tryz.prog 8 9 ds) : ∃ s : Str, True ∧ argD Tryz.prog 9 ds = sD s := by
 simp only [Rd, Tryz.underlying9] at h
 obtain ⟨s, _, rfl⟩ := h
 refine ⟨s, trivial, ?_⟩
 simp only [argD, Tryz.underlying9]
theorem arg_u8 {ds : List D} (h : Rd Tryz.prog 8 5 ds) : ∃ n : Nat, n ≤ 255 ∧ argD Tryz.prog 5 ds = .v (.int .u8 (n : Int)) := by
 obtain ⟨x, h1, h2⟩ := arg_u8' (n := 7) Tryz.underlying5 h
 obtain ⟨m, rfl⟩ := Int.eq_ofNat_of_zero_le h1.1
 exact ⟨m, by omega, h2⟩
theorem strs_of {n : Nat} {ds : List D} (h : Rd Tryz.prog (n + 1) 9 ds) : ∃ s : Str, ds = eS s := by
 simp only [Rd, Tryz.underlying9] at h
 obtain ⟨s, hs, rfl⟩ := h
 exact ⟨_, rfl⟩
theorem arg_LS {ds : List D} (h : Rd Tryz.prog 8 73 ds) : ∃ l : List Str, True ∧ argD Tryz.prog 73 ds = LS l := by
 obtain ⟨l, e⟩ := list_of (f := eS) Tryz.underlying73 (fun x => strs_of (n := 6)) h
 exact ⟨l, trivial, e⟩

theorem list_ofP {n : Nat} {α : Type} {f : α → List D} {p : α → Prop} {e t : TypeId} {ds : List D} (hu : Tryz.prog.underlying t = some (.slice e)) (he : ∀ x, Rd Tryz.prog n e x → ∃ y, p y ∧ x = f y) (h : Rd Tryz.prog (n + 1) t ds) :
  ∃ l : List α, (∀ a ∈ l, p a) ∧ l.length * Tryz.prog.bytesOf e ≤ 140737488351232 ∧ ds = [.list .any (l.map f)] ∧ argD Tryz.prog t ds = .list .any (l.map f) := by
 simp only [Rd, hu] at h
 obtain ⟨xs, rfl, hb, hx⟩ := h
 have hc : ∀ x : { x // x ∈ xs }, ∃ y, p y ∧ x.1 = f y := fun x => he x.1 (hx x.1 x.2)
 have hm : (xs.attach.map fun x => (hc x).choose).map f = xs := by
  rw [List.map_map]
  have : (xs.attach.map (f ∘ fun x => (hc x).choose)) = xs.attach.map (fun x => x.1) := List.map_congr_left fun x _ => ((hc x).choose_spec).2.symm
  rw [this, List.attach_map_subtype_val]
 refine ⟨xs.attach.map fun x => (hc x).choose, fun a ha => ?_, by simpa using hb, by rw [hm], ?_⟩
 ·obtain ⟨x, _, rfl⟩ := List.mem_map.1 ha
  exact ((hc x).choose_spec).1
 ·rw [hm]; simp only [argD, hu]
theorem i64_of {x : Int} (h : (Lit.int .i64 x).wf = true) : x ≤ 9223372036854775807 := by
 have m1 : IntKind.i64.min = -9223372036854775808 := rfl
 have m2 : IntKind.i64.max = 9223372036854775807 := rfl
 simp only [Lit.wf, m1, m2, Bool.and_eq_true, decide_eq_true_eq] at h
 exact h.2
theorem bytes_u8 : Tryz.prog.bytesOf 5 = 1 := by kernel_rfl
theorem mem_of {n : Nat} {ds : List D} (h : Rd Tryz.prog (n + 5) 54 ds) : ∃ m : Mem, OkM m ∧ ds = m.enc := by
 rw [show n + 5 = (n + 4) + 1 from rfl, Rd, Tryz.underlying54] at h
 simp only [RdFs] at h
 obtain ⟨a, b, rfl, h1, a2, b2, rfl, h2, a3, b3, rfl, h3, a4, b4, rfl, h4, a5, b5, rfl, h5, a6, b6, rfl, h6, rfl⟩ := h
 simp only [Rd, Tryz.underlying9] at h1
 simp only [Rd, Tryz.underlying3] at h2 h3 h4 h5
 obtain ⟨s, hs, rfl⟩ := h1
 obtain ⟨x2, w2, rfl⟩ := h2
 obtain ⟨x3, w3, rfl⟩ := h3
 obtain ⟨x4, w4, rfl⟩ := h4
 obtain ⟨x5, w5, rfl⟩ := h5
 obtain ⟨d, _, hd, rfl, _⟩ := list_ofP (n := n + 3) (f := byteD) (p := fun _ => True) Tryz.underlying52 (fun x hx => by
  obtain ⟨u, e⟩ := byte_of (n := n + 2) hx
  exact ⟨u, trivial, e⟩) h6
 rw [bytes_u8, Nat.mul_one] at hd
 exact ⟨⟨s, x2, x3, x4, x5, d⟩, ⟨hs, hd, i64_of w2, i64_of w3, i64_of w4, i64_of w5⟩, rfl⟩
theorem arg_LM {ds : List D} (h : Rd Tryz.prog 8 23 ds) : ∃ l : List Mem, (∀ m ∈ l, OkM m) ∧ argD Tryz.prog 23 ds = LM l := by
 obtain ⟨l, h1, _, _, e⟩ := list_ofP (n := 7) (f := Mem.enc) (p := OkM) Tryz.underlying23 (fun x hx => mem_of (n := 2) hx) h
 exact ⟨l, h1, e⟩
end Go.Proofs.YtfbmknghfhancaaGreatDoor

namespace Go.Proofs.YtfbmknghfhancaaGreatDoor
open Go Go.AL Go.AL.Bd Go.AL.Tb Go.AL.Sc
set_option maxRecDepth 100000
set_option maxHeartbeats 4000000
theorem scanMaximal_ (l : List Ob.Obj) (x : List Mem) (hx : ∀ m ∈ x, OkM m) : FCall Tryz.prog Gl 3 [LO l, LM x] [] (vB true) [] := by
 have V := view_ x hx
 refine FCall.enterL hT hmix [] Tryz.func3 rfl rfl rfl fun hbd => ?_
 cases hv : (viewR x).2 with
 | false =>
  rw [hv] at V
  generalize (viewR x).1 = v at V
  (conv => whnf)
  refine CallLeaf.wa (V) rfl ?_
  (conv => whnf)
  refine CallLeaf.wa (awake_19_) rfl ?_
  (((conv => whnf)); (refine CallLeaf.wa (awake_19_) rfl ?_); ((conv => whnf)); exact Wk.refl _)
 | true =>
  obtain ⟨e1, okv, hnm⟩ := viewR_ok hv
  rw [hv, e1] at V
  have hn := okv.n
  replace hn : x.length ≤ 12 := hn
  (conv => whnf)
  refine CallLeaf.wa (V) rfl ?_
  (conv => whnf)
  refine CallLeaf.wa (awake_19_) rfl ?_
  (conv => whnf)
  refine CallLeaf.wa (right_ l) rfl ?_
  (conv => whnf)
  refine split_intro (fun hr => ?_) (fun hr => ?_)
  ·(((conv => whnf)); (refine CallLeaf.wa (awake_19_) rfl ?_); ((conv => whnf)); exact Wk.refl _)
  ·have hR := not_f hr
   have hll := (rightO_iff.1 hR).1
   have L := lload_ l hR
   have ok0 := ldO_ok' (f := [111]) hR
   have ix0 : Inv xa (vw x) (ldO [111] l) := ldO_inv (by decide) _ l
   have hF : lft xa (vw x) (ldO [111] l) < 13 := Nat.lt_of_le_of_lt (lft_le _ _ _) (show x.length < 13 by omega)
   have A := archS_ xa (vw x) (ldO [111] l) 13 12 hF (by show 12 + 2 * x.length ≤ 300; omega) ok0 okv (by decide)
   have ok1 : OkS (arch xa (vw x) 13 (ldO [111] l)).1 24 := (OkS.arch okv (by decide) 13 ok0).mono (Nat.le_trans (Nat.add_le_add_left (Nat.le_trans (lft_le _ _ _) hn) _) (by decide))
   obtain ⟨d1, d2, d3⟩ := arch_done 13 hF
   have R : Sc.Reach xa (vw x) (ldO [111] l) (arch xa (vw x) 13 (ldO [111] l)).1 := Sc.Reach.arch 13 .refl
   have d4 : (arch xa (vw x) 13 (ldO [111] l)).2 ≤ x.length + 1 := by
    have h1 : lft xa (vw x) (ldO [111] l) ≤ x.length := lft_le _ _ _
    omega
   have A2 := archS_ xa (vw x) (arch xa (vw x) 13 (ldO [111] l)).1 13 24 (Nat.lt_of_le_of_lt (lft_le _ _ _) (show x.length < 13 by omega)) (by show 24 + 2 * x.length ≤ 300; omega) ok1 okv (by decide)
   rw [arch_again d1] at A2
   simp only [] at A2
   have C := canS_ xa (vw x) (arch xa (vw x) 13 (ldO [111] l)).1 24 (by omega) ok1 (by decide) (by show x.length ≤ 1000; omega)
   rw [canL_done d1] at C
   obtain ⟨n, hn'⟩ : ∃ n, n = (arch xa (vw x) 13 (ldO [111] l)).2 := ⟨_, rfl⟩
   rw [← hn'] at A d2 d4
   clear d1 d3
   generalize (arch xa (vw x) 13 (ldO [111] l)).1 = S at *
   obtain ⟨r1, _, r2, r3, r4⟩ := R.at (by simp [ldO])
   have hul : (ldO [111] l).us.length = l.length := by simp [ldO]
   have hlen := R.len ix0
   rw [hul] at r2 r3 r4 hlen
   replace hlen : S.us.length ≤ l.length + x.length := hlen
   have hlo : l.length ≤ S.us.length := by
    have := congrArg List.length r2
    rw [List.length_take, hul] at this; omega
   have U := unitsS_ S (by omega)
   have SU := sameU_ S.us S.us
   have Fx := forward_ (vw x)
   obtain ⟨us, hus⟩ : ∃ us, us = S.us := ⟨_, rfl⟩
   obtain ⟨os, hos⟩ : ∃ os, os = S.os := ⟨_, rfl⟩
   have okn := ok1.len
   rw [← hus] at r1 r2 r4 hlen hlo U SU
   rw [← hos] at r1 r3 r4 okn
   (conv => whnf)
   refine CallLeaf.oa [2048] (L) rfl rfl rfl rfl ?_
   (conv => whnf)
   refine CallLeaf.wa (Fx) rfl ?_
   (conv => whnf)
   refine CallLeaf.oa [2048] (A) rfl rfl rfl rfl ?_
   (conv => whnf)
   refine CallLeaf.oa [2048] (U) rfl rfl rfl rfl ?_
   (conv => whnf)
   refine split_intro (fun h => absurd (of_decide_eq_true h) (by omega)) (fun _ => ?_)
   (conv => whnf)
   refine ⟨_, add64 (c := ((x.length + 1 : Nat) : Int)) (by rw [List.length_map]; omega) (by omega), ?_⟩
   (conv => whnf)
   refine split_intro (fun h => absurd (of_decide_eq_true h) (by omega)) (fun _ => ?_)
   (conv => whnf)
   refine split_intro (fun h => absurd (of_decide_eq_true h) (by simp only [List.length_map]; omega)) (fun _ => ?_)
   (conv => whnf)
   refine ⟨_, add64 (c := ((l.length + x.length : Nat) : Int)) (by simp only [List.length_map]; omega) (by omega), ?_⟩
   (conv => whnf)
   refine split_intro (fun h => absurd (of_decide_eq_true h) (by simp only [List.length_map]; omega)) (fun _ => ?_)
   (conv => whnf)
   refine CallLeaf.wa (Fx) rfl ?_
   (conv => whnf)
   refine CallLeaf.oa [2048] (C) rfl rfl rfl rfl ?_
   (conv => whnf)
   refine LWp.loop hT hmix [] (fun i : Nat => [(11, vI i)]) (fun i => [(2576, .cells [LUt (us.take i), LO (os.take i)])]) (fun i => l.length ≤ i ∧ i ≤ us.length) (fun i => us.length - i) l.length ⟨Nat.le_refl _, hlo⟩ ?_
   (conv => whnf)
   refine ⟨?_, fun i ⟨hi0, hi⟩ => ?_⟩
   ·(repeat' (first | exact trivial | exact Wk.refl _ | exact ObWk.refl _ | exact rfl | exact ⟨_, rfl⟩ | exact Nat.zero_lt_one | refine And.intro ?_ ?_ | unfold okTo | (unfold okO; conv => whnf) | (unfold okS; conv => whnf) | (unfold SlotOk; conv => whnf) | (unfold ObjOk; conv => whnf) | (unfold okCells; conv => whnf) | (unfold liveTo; conv => whnf) | exact Nat.zero_lt_succ _))
    ·exact Wk.of_eq (by show D.list .any _ = LUt (us.take l.length); rw [r2])
    ·exact Wk.of_eq (by show D.list .any _ = LO (os.take l.length); rw [r3]; rfl)
    ·exact Wk.of_eq (by rw [List.length_map])
   ·(conv => whnf)
    refine split_intro (fun h => ?_) (fun h => ?_)
    ·have hlt : i < us.length := by have := of_decide_eq_true h; rw [List.length_map] at this; omega
     obtain ⟨X, j, x1, x2, x3, x4, x5, x6, x7⟩ := r4 i hi0 hlt
     replace x4 : j < x.length := x4
     have hm := (memAt_mem (v := vw x) x4).2
     replace hm : x[j]? = some (memAt (vw x) j) := hm
     have hXl : X.os.length ≤ 24 := by rw [x3, List.length_take]; omega
     have hXu : X.us.length ≤ 24 := by rw [x2, List.length_take]; omega
     have okX : OkL X.os := by
      have h1 : OkS ⟨us.take i, os.take i, S.ld⟩ 24 := ⟨by show (os.take i).length ≤ 24; rw [← x3]; exact hXl, fun o ho => ok1.os o (by rw [← hos]; exact List.mem_of_mem_take ho), by show (us.take i).length = (os.take i).length; rw [List.length_take, List.length_take, r1], ok1.ld⟩
      rw [x3]; exact h1.okL (by omega)
     have RC := rcan_ X xa (vw x) j (x1.inv ix0) okv.d x4 okX
     rw [x5, x2, x3] at RC
     have hD := O.ordecode_ (memAt (vw x) j).data (by have := okv.b _ (memAt_mem (v := vw x) x4).1; omega)
     rw [dec_eq] at hD
     have LD := rload_ (us.take i) (os.take i) ⟨xa, (memAt (vw x) j).name, (j : Int)⟩ (dec (memAt (vw x) j).data).1 (by rw [← x2]; omega) (by rw [← x3]; omega)
     have e1 : us.take i ++ [⟨xa, (memAt (vw x) j).name, (j : Int)⟩] = us.take (i + 1) := by rw [List.take_add_one, x6]; rfl
     have e2 : os.take i ++ [(dec (memAt (vw x) j).data).1] = os.take (i + 1) := by rw [List.take_add_one, x7]; rfl
     rw [e1, e2] at LD
     (conv => whnf)
     refine ⟨_, ⟨by omega, getMap x6⟩, ?_⟩
     (conv => whnf)
     refine split_intro (fun h => absurd (of_decide_eq_true h) (by rw [List.length_map]; show ¬ ((x.length : Int) ≤ (j : Int)); omega)) (fun _ => ?_)
     (conv => whnf)
     refine ⟨_, ⟨by omega, getMap x6⟩, ?_⟩
     (conv => whnf)
     refine ⟨_, ⟨by omega, getMap x6⟩, ?_⟩
     (conv => whnf)
     refine ⟨_, ⟨by show (0 : Int) ≤ (j : Int); omega, getMap hm⟩, ?_⟩
     (conv => whnf)
     refine split_intro (fun h => by simp at h) (fun _ => ?_)
     (conv => whnf)
     refine CallLeaf.wa (RC) rfl ?_
     (conv => whnf)
     refine ⟨_, ⟨by show (0 : Int) ≤ (j : Int); omega, getMap hm⟩, ?_⟩
     (conv => whnf)
     refine CallLeaf.wa (hD) rfl ?_
     (conv => whnf)
     refine ⟨_, ⟨by omega, getMap x6⟩, ?_⟩
     (conv => whnf)
     refine CallLeaf.wa (LD) rfl ?_
     (conv => whnf)
     refine ⟨_, add64 (c := ((i + 1 : Nat) : Int)) (by (try simp only []); omega) (by omega), ?_⟩
     (conv => whnf)
     refine ⟨i + 1, ⟨⟨by omega, by omega⟩, by simp only []; omega⟩, ?_⟩
     (repeat' (first | exact trivial | exact Wk.refl _ | exact ObWk.refl _ | exact rfl | exact ⟨_, rfl⟩ | exact Nat.zero_lt_one | refine And.intro ?_ ?_ | unfold okTo | (unfold okO; conv => whnf) | (unfold okS; conv => whnf) | (unfold SlotOk; conv => whnf) | (unfold ObjOk; conv => whnf) | (unfold okCells; conv => whnf) | (unfold liveTo; conv => whnf) | exact Nat.zero_lt_succ _))
     all_goals exact Wk.list _ _
    ·(conv => whnf)
     refine CallLeaf.wa (Fx) rfl ?_
     (conv => whnf)
     refine CallLeaf.oa [2048] (A2) rfl rfl rfl rfl ?_
     (conv => whnf)
     refine CallLeaf.oa [2048] (U) rfl rfl rfl rfl ?_
     (conv => whnf)
     refine CallLeaf.wa (SU) rfl ?_
     (conv => whnf)
     exact Wk.bool (by simp)
abbrev untW (u : Unt) : List D := [.sq .str, .sq .str, .sq (.int .i64)]
theorem al_Gl (g : Nat) : Al (.ro (Gl g)) := by
 refine .ro _ ?_
 unfold Gl
 show ∀ d ∈ (match g with | 0 => [vI 0, vI 3, vI 1, vI 2, vI 0, vI 0] | _ => []), Al d
 split
 ·(repeat' (first | exact Al.v _ | exact Al.nil | exact Al.junk | refine Al.map _ (fun _ => ?_) | refine Al.agg _ ?_ | refine Al.tuple _ ?_ | refine Al.cons ?_ ?_ | exact Al.none'))
 ·(repeat' (first | exact Al.v _ | exact Al.nil | exact Al.junk | refine Al.map _ (fun _ => ?_) | refine Al.agg _ ?_ | refine Al.tuple _ ?_ | refine Al.cons ?_ ?_ | exact Al.none'))
theorem th_unt (us : List Unt) : Th false (LUx us) (.slist (us.map untW)) := Th.map _ _ fun u => .cons (.str _) (.cons (.str _) (.cons (.int _ _) .nil))
theorem cloneUW_ (us : List Unt) (hu : us.length ≤ 100000) : FCall Tryz.prog Gl 37 [LUt us] [] (.slist (us.map untW)) [] :=
 FCall.thaw (cloneU_ us hu) (by (repeat' (first | exact Al.v _ | exact Al.nil | exact Al.junk | refine Al.map _ (fun _ => ?_) | refine Al.agg _ ?_ | refine Al.tuple _ ?_ | refine Al.cons ?_ ?_ | exact Al.none'))) al_Gl (th_unt us)
theorem cloneUWN_ : FCall Tryz.prog Gl 37 [.nil] [] (.slist ([] : List (List D))) [] :=
 FCall.thaw (FCall.wk cloneUN_ (Wk.natN rfl)) (by (repeat' (first | exact Al.v _ | exact Al.nil | exact Al.junk | refine Al.map _ (fun _ => ?_) | refine Al.agg _ ?_ | refine Al.tuple _ ?_ | refine Al.cons ?_ ?_ | exact Al.none'))) al_Gl (th_unt [])
theorem unitsWZ_ : FCall Tryz.prog Gl 12 [.ptr 0 0] Zs (.slist (([] : List Unt).map untW)) Zs := by
 refine FCall.enterO hT hmix [] Tryz.func12 rfl rfl rfl fun hbd => ?_
 (conv => whnf)
 refine CallLeaf.wa (cloneUWN_) rfl ?_
 (conv => whnf)
 refine ⟨[0], rfl, by (try unfold pullOk); (repeat' (first | exact trivial | exact ObWk.refl _ | refine And.intro ?_ ?_ | unfold pullOk)), ?_⟩
 exact Wk.refl _
theorem unitsWA_ (us : List Unt) (n : Nat) (T : Sy.Tb) (hu : us.length ≤ 100000) : FCall Tryz.prog Gl 12 [.ptr 0 0] (As us n T) (.slist (us.map untW)) (As us n T) := by
 refine FCall.enterO hT hmix [] Tryz.func12 rfl rfl rfl fun hbd => ?_
 (conv => whnf)
 refine CallLeaf.wa (cloneUW_ us hu) rfl ?_
 (conv => whnf)
 refine ⟨[0, 1, 2], rfl, by (try unfold pullOk); (repeat' (first | exact trivial | exact ObWk.refl _ | refine And.intro ?_ ?_ | unfold pullOk)), ?_⟩
 exact Wk.refl _
theorem unitsWB_ (us : List Unt) (ld : List (Str × Nat)) (n : Nat) (T : Sy.Tb) (hu : us.length ≤ 100000) : FCall Tryz.prog Gl 12 [.ptr 0 0] (Bs us ld n T) (.slist (us.map untW)) (Bs us ld n T) := by
 refine FCall.enterO hT hmix [] Tryz.func12 rfl rfl rfl fun hbd => ?_
 (conv => whnf)
 refine CallLeaf.wa (cloneUW_ us hu) rfl ?_
 (conv => whnf)
 refine ⟨[0, 1, 2, 3], rfl, by (try unfold pullOk); (repeat' (first | exact trivial | exact ObWk.refl _ | refine And.intro ?_ ?_ | unfold pullOk)), ?_⟩
 exact Wk.refl _
theorem unitsWS_ (S : Ls) (hu : S.us.length ≤ 100000) : FCall Tryz.prog Gl 12 [.ptr 0 0] [stB S] (.slist (S.us.map untW)) [stB S] := by
 refine FCall.pack (ex := []) ⟨_, Tryz.func12, by kernel_rfl, by kernel_rfl⟩ rfl (fun x hx => by simp at hx) (fun l hl => ?_)
 revert hu
 refine stF_cases (p := fun S l => S.us.length ≤ 100000 → ∃ l' d1, stF S l' ∧ (∃ cs, sto l' 0 = .cells cs) ∧ 0 < l'.length ∧ AllRen (ltO l'.length) l' ∧ FCall Tryz.prog Gl 12 [.ptr 0 0] l d1 (l' ++ []) ∧ D.ren (shD l'.length) d1 = some (.slist (S.us.map untW))) hl (fun _ => ?_) (fun us os _ ok => ?_) (fun us os p r _ ok => ?_)
 ·refine ⟨Zs, .slist (([] : List Unt).map untW), stF_Z, ⟨_, rfl⟩, by decide, ⟨rfl, trivial⟩, ?_, rfl⟩
  show FCall _ _ _ _ _ _ Zs
  exact unitsWZ_
 ·refine ⟨As us os.length (Sy.build (Us os)), .slist (us.map untW), stF_A us os, ⟨_, rfl⟩, by simp, ⟨rfl, rfl, rfl, trivial⟩, ?_, rfl⟩
  rw [List.append_nil]
  exact unitsWA_ us _ _ ok
 ·refine ⟨Bs us (p :: r) os.length (Sy.build (Us os)), .slist (us.map untW), stF_B us os p r, ⟨_, rfl⟩, by simp, ⟨rfl, rfl, rfl, rfl, trivial⟩, ?_, rfl⟩
  rw [List.append_nil]
  exact unitsWB_ us (p :: r) _ _ ok
theorem scanKeeps_ (l : List Ob.Obj) (x : List Mem) (hx : ∀ m ∈ x, OkM m) : FCall Tryz.prog Gl 4 [LO l, LM x] [] (vB true) [] := by
 have V := view_ x hx
 refine FCall.enterL hT hmix [] Tryz.func4 rfl rfl rfl fun hbd => ?_
 cases hv : (viewR x).2 with
 | false =>
  rw [hv] at V
  generalize (viewR x).1 = v at V
  (conv => whnf)
  refine CallLeaf.wa (V) rfl ?_
  (conv => whnf)
  refine CallLeaf.wa (awake_19_) rfl ?_
  (((conv => whnf)); (refine CallLeaf.wa (awake_19_) rfl ?_); ((conv => whnf)); exact Wk.refl _)
 | true =>
  obtain ⟨e1, okv, hnm⟩ := viewR_ok hv
  rw [hv, e1] at V
  have hn := okv.n
  replace hn : x.length ≤ 12 := hn
  (conv => whnf)
  refine CallLeaf.wa (V) rfl ?_
  (conv => whnf)
  refine CallLeaf.wa (awake_19_) rfl ?_
  (conv => whnf)
  refine CallLeaf.wa (right_ l) rfl ?_
  (conv => whnf)
  refine split_intro (fun hr => ?_) (fun hr => ?_)
  ·(((conv => whnf)); (refine CallLeaf.wa (awake_19_) rfl ?_); ((conv => whnf)); exact Wk.refl _)
  ·have hR := not_f hr
   have L := lload_ l hR
   have ok0 := ldO_ok' (f := [111]) hR
   have hF : lft xa (vw x) (ldO [111] l) < 13 := Nat.lt_of_le_of_lt (lft_le _ _ _) (show x.length < 13 by omega)
   have A := archS_ xa (vw x) (ldO [111] l) 13 12 hF (by show 12 + 2 * x.length ≤ 300; omega) ok0 okv (by decide)
   have ok1 : OkS (arch xa (vw x) 13 (ldO [111] l)).1 24 := (OkS.arch okv (by decide) 13 ok0).mono (Nat.le_trans (Nat.add_le_add_left (Nat.le_trans (lft_le _ _ _) hn) _) (by decide))
   have hu : (arch xa (vw x) 13 (ldO [111] l)).1.us.length ≤ 24 := by have := ok1.len; have := ok1.us; omega
   have U := unitsS_ (arch xa (vw x) 13 (ldO [111] l)).1 (by omega)
   have UW := unitsWS_ (arch xa (vw x) 13 (ldO [111] l)).1 (by omega)
   have SU := sameU_ (arch xa (vw x) 13 (ldO [111] l)).1.us (arch xa (vw x) 13 (ldO [111] l)).1.us
   have CP := copy_ x (by omega) (fun m hm => by have := okv.b m hm; omega)
   have SM := sameMs_ x x
   obtain ⟨us, hus⟩ : ∃ us, us = (arch xa (vw x) 13 (ldO [111] l)).1.us := ⟨_, rfl⟩
   rw [← hus] at U UW SU hu
   (conv => whnf)
   refine CallLeaf.wa (CP) rfl ?_
   (conv => whnf)
   refine CallLeaf.oa [3072] (L) rfl rfl rfl rfl ?_
   (conv => whnf)
   refine CallLeaf.oa [3072] (A) rfl rfl rfl rfl ?_
   (conv => whnf)
   refine CallLeaf.oa [3072] (UW) rfl rfl rfl rfl ?_
   (conv => whnf)
   refine CallLeaf.oa [3072] (U) rfl rfl rfl rfl ?_
   (conv => whnf)
   refine LWp.loop hT hmix [] (fun i : Nat => [(12, vI i)]) (fun _ => []) (fun i => i ≤ us.length) (fun i => us.length - i) 0 (Nat.zero_le _) ?_
   (conv => whnf)
   refine ⟨?_, fun i hi => ?_⟩
   ·(repeat' (first | exact trivial | exact Wk.refl _ | exact ObWk.refl _ | exact rfl | exact ⟨_, rfl⟩ | exact Nat.zero_lt_one | refine And.intro ?_ ?_ | unfold okTo | (unfold okO; conv => whnf) | (unfold okS; conv => whnf) | (unfold SlotOk; conv => whnf) | (unfold ObjOk; conv => whnf) | (unfold okCells; conv => whnf) | (unfold liveTo; conv => whnf) | exact Nat.zero_lt_succ _))
   ·(conv => whnf)
    refine split_intro (fun h => ?_) (fun h => ?_)
    ·have hlt : i < us.length := by have := of_decide_eq_true h; rw [List.length_map] at this; omega
     obtain ⟨u, hui⟩ := exI hlt
     (conv => whnf)
     refine ⟨_, ⟨by omega, getMap hui⟩, ?_⟩
     (conv => whnf)
     refine ⟨_, add64 (c := ((i + 1 : Nat) : Int)) (by (try simp only []); omega) (by omega), ?_⟩
     (conv => whnf)
     refine ⟨i + 1, ⟨by omega, by simp only []; omega⟩, ?_⟩
     (repeat' (first | exact trivial | exact Wk.refl _ | exact ObWk.refl _ | exact rfl | exact ⟨_, rfl⟩ | exact Nat.zero_lt_one | refine And.intro ?_ ?_ | unfold okTo | (unfold okO; conv => whnf) | (unfold okS; conv => whnf) | (unfold SlotOk; conv => whnf) | (unfold ObjOk; conv => whnf) | (unfold okCells; conv => whnf) | (unfold liveTo; conv => whnf) | exact Nat.zero_lt_succ _))
    ·(conv => whnf)
     refine CallLeaf.wa (SM) rfl ?_
     (conv => whnf)
     refine split_intro (fun _ => ?_) (fun h => by simp at h)
     (conv => whnf)
     refine CallLeaf.oa [3072] (U) rfl rfl rfl rfl ?_
     (conv => whnf)
     refine CallLeaf.wa (SU) rfl ?_
     (conv => whnf)
     exact Wk.bool (by simp)
end Go.Proofs.YtfbmknghfhancaaGreatDoor
