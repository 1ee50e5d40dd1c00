/- Archives checked and opened. No condition. -/
import Derived.Test.YtenbpnlmpjndgaaGreatDoorCAc
import Derived.Test.YtenbpnlmpjndgaaGreatDoorCWf
import Derived.Test.YtenbpnlmpjndgaaGreatDoorCWe
import Derived.Test.YtenbpnlmpjndgaaGreatDoorCPa
import Derived.Test.YtenbpnlmpjndgaaGreatDoorCWa
set_option linter.unusedVariables false
set_option linter.unusedSimpArgs false
namespace Go.Proofs.YtenbpnlmpjndgaaGreatDoor.H
open Go Go.AL Go.AL.Hd Go.AL.Ln Go.AL.Ar Go.AL.Sc Go.AL.Cn
set_option maxRecDepth 100000
set_option maxHeartbeats 8000000
theorem decE_eq (b : Str) : O.decR b = decE b := by
 unfold O.decR decE
 cases Ap.dec b <;> rfl
theorem ccheck_ [Go.AL.MX] (a : Arc) (ha : OkA a) : FCall Tryz.prog Gl 17 [.agg (eArcM a)] [] (vI (chkP a)) [] := by
 have CI := cidx_ a ha
 have D := O.decode_ a.map ha.m
 rw [decE_eq] at D
 have e := chkP.eq_1 a
 revert e D CI
 generalize idxP a.ms a.os = idx
 generalize decE a.map = q
 generalize chkP a = r
 obtain ⟨hm, mp, l, os⟩ := a
 obtain ⟨q, z⟩ := q
 intro CI D e
 replace CI : FCall Tryz.prog Gl 15 [.agg [vB hm, LB mp, .list .any (l.map eMn), .list .any (os.map eO)]] [] (O.LEn idx) [] := CI
 replace D : FCall Tryz.prog Gl 38 [LB mp] [] (.tuple [O.LEn q, vI z]) [] := D
 show FCall Tryz.prog Gl 17 [.agg [vB hm, LB mp, .list .any (l.map eMn), .list .any (os.map eO)]] [] (vI r) []
 cases hm with
 | true =>
  rw [if_pos rfl] at e
  refine FCall.enterL hT hmix [] Tryz.func17 rfl rfl rfl fun hbd => ?_
  (conv => whnf)
  refine CallLeaf.wa (D) rfl ?_
  (conv => whnf)
  refine split_intro (fun h => ?_) (fun h => ?_)
  ·have h' : ¬ z = 0 := by simpa using h
   rw [if_pos h'] at e
   (conv => whnf)
   exact Wk.int e.symm
  ·have h' : z = 0 := by simpa using h
   rw [if_neg (fun h2 => h2 h')] at e
   (conv => whnf)
   refine CallLeaf.wa (CI) rfl ?_
   (conv => whnf)
   refine CallLeaf.wa (eeq_ q idx) rfl ?_
   (conv => whnf)
   refine split_intro (fun h2 => ?_) (fun h2 => ?_)
   ·have h2' : ¬ q = idx := by simpa using h2
    replace e : r = if q = idx then 0 else 16 := e
    rw [if_neg h2'] at e
    (conv => whnf)
    exact Wk.int e.symm
   ·have h2' : q = idx := by simpa using h2
    replace e : r = if q = idx then 0 else 16 := e
    rw [if_pos h2'] at e
    (conv => whnf)
    exact Wk.int e.symm
 | false =>
  rw [if_neg (by simp)] at e
  have EE := eeq_ [] idx
  refine FCall.enterL hT hmix [] Tryz.func17 rfl rfl rfl fun hbd => ?_
  (conv => whnf)
  refine CallLeaf.wa (CI) rfl ?_
  (conv => whnf)
  refine CallLeaf.wa (EE) rfl ?_
  (conv => whnf)
  refine split_intro (fun h2 => ?_) (fun h2 => ?_)
  ·have h2' : ¬ [] = idx := by simpa using h2
   rw [if_neg (fun h => h2' h.symm)] at e
   (conv => whnf)
   exact Wk.int e.symm
  ·have h2' : [] = idx := by simpa using h2
   rw [if_pos h2'.symm] at e
   (conv => whnf)
   exact Wk.int e.symm
theorem rcheck_ [Go.AL.MX] (a : Arc) (ha : OkA a) : FCall Tryz.prog Gl 18 [.agg (eArcM a)] [] (vI (chkP a)) [] := by
 have CI := ridx_ a ha
 have D := O.rdecode_ a.map ha.m
 rw [decE_eq] at D
 have e := chkP.eq_1 a
 revert e D CI
 generalize idxP a.ms a.os = idx
 generalize decE a.map = q
 generalize chkP a = r
 obtain ⟨hm, mp, l, os⟩ := a
 obtain ⟨q, z⟩ := q
 intro CI D e
 replace CI : FCall Tryz.prog Gl 16 [.agg [vB hm, LB mp, .list .any (l.map eMn), .list .any (os.map eO)]] [] (O.LEn idx) [] := CI
 replace D : FCall Tryz.prog Gl 40 [LB mp] [] (.tuple [O.LEn q, vI z]) [] := D
 show FCall Tryz.prog Gl 18 [.agg [vB hm, LB mp, .list .any (l.map eMn), .list .any (os.map eO)]] [] (vI r) []
 cases hm with
 | true =>
  rw [if_pos rfl] at e
  refine FCall.enterL hT hmix [] Tryz.func18 rfl rfl rfl fun hbd => ?_
  (conv => whnf)
  refine CallLeaf.wa (D) rfl ?_
  (conv => whnf)
  refine split_intro (fun h => ?_) (fun h => ?_)
  ·have h' : ¬ z = 0 := by simpa using h
   rw [if_pos h'] at e
   (conv => whnf)
   exact Wk.int e.symm
  ·have h' : z = 0 := by simpa using h
   rw [if_neg (fun h2 => h2 h')] at e
   (conv => whnf)
   refine CallLeaf.wa (CI) rfl ?_
   (conv => whnf)
   refine CallLeaf.wa (O.rsame_ q idx) rfl ?_
   (conv => whnf)
   refine split_intro (fun h2 => ?_) (fun h2 => ?_)
   ·have h2' : ¬ q = idx := by simpa using h2
    replace e : r = if q = idx then 0 else 16 := e
    rw [if_neg h2'] at e
    (conv => whnf)
    exact Wk.int e.symm
   ·have h2' : q = idx := by simpa using h2
    replace e : r = if q = idx then 0 else 16 := e
    rw [if_pos h2'] at e
    (conv => whnf)
    exact Wk.int e.symm
 | false =>
  rw [if_neg (by simp)] at e
  refine FCall.enterL hT hmix [] Tryz.func18 rfl rfl rfl fun hbd => ?_
  (conv => whnf)
  refine CallLeaf.wa (CI) rfl ?_
  (conv => whnf)
  refine split_intro (fun h2 => ?_) (fun h2 => ?_)
  ·have h2' : idx = [] := by simpa using h2
   rw [if_pos h2'] at e
   (conv => whnf)
   exact Wk.int e.symm
  ·have h2' : ¬ idx = [] := by simpa using h2
   rw [if_neg h2'] at e
   (conv => whnf)
   exact Wk.int e.symm
end Go.Proofs.YtenbpnlmpjndgaaGreatDoor.H

namespace Go.Proofs.YtenbpnlmpjndgaaGreatDoor.H
open Go Go.AL Go.AL.Hd Go.AL.Ln Go.AL.Ar Go.AL.Sc Go.AL.Cn
set_option maxRecDepth 100000
set_option maxHeartbeats 8000000
abbrev eDn (m : Mem) : List D := [LSn (defsOf m.data)]
abbrev opC (b : Str) (a : Arc) (n e : Int) (v d : D) : AObj := .cells [LB b, vB a.hm, LBn a.map, .list .nat (a.ms.map eMn), .list .nat (a.os.map eO), vI n, vI e, v, d]
abbrev op0 (b : Str) : AObj := .cells [LB b, vB false, .nil, .nil, .nil, vI 0, vI 0, .nil, .nil]
theorem oparse_ [Go.AL.MX] (b : Str) (hb : b.length < 4294967280) : FCall Tryz.prog Gl 30 [.ptr 0 0] [op0 b] (.tuple []) [opC b (arcP b).1 (arcP b).2.1 (arcP b).2.2 .nil .nil] := by
 refine FCall.enterO hT hmix [] Tryz.func30 rfl rfl rfl fun hbd => ?_
 (conv => whnf)
 refine CallLeaf.wa (aparse_ b hb) rfl ?_
 (conv => whnf)
 refine ⟨[0], rfl, by (try unfold pullOk); (repeat' (first | exact trivial | exact ObWk.refl _ | refine And.intro ?_ ?_ | unfold pullOk)), ?_⟩
 (conv => whnf)
 exact Wk.refl _
theorem ocheck_ [Go.AL.MX] (b : Str) (a : Arc) (ha : OkA a) (n : Int) : FCall Tryz.prog Gl 31 [.ptr 0 0] [opC b a n 0 .nil .nil] (.tuple []) [opC b a (if chkP a = 0 then n else 8) (chkP a) .nil .nil] := by
 have C := ccheck_ a ha
 revert C
 generalize chkP a = r
 obtain ⟨hm, mp, l, os⟩ := a
 intro C
 refine FCall.enterO hT hmix [] Tryz.func31 rfl rfl rfl fun hbd => ?_
 (conv => whnf)
 refine CallLeaf.wa (C) rfl ?_
 (conv => whnf)
 by_cases hr : r = 0
 ·subst hr
  (conv => whnf)
  refine ⟨[0], rfl, by (try unfold pullOk); (repeat' (first | exact trivial | exact ObWk.refl _ | refine And.intro ?_ ?_ | unfold pullOk)), ?_⟩
  (conv => whnf)
  exact Wk.refl _
 ·refine split_intro (fun _ => ?_) (fun h => absurd h (by simpa using hr))
  rw [if_neg hr]
  (conv => whnf)
  refine ⟨[0], rfl, by (try unfold pullOk); (repeat' (first | exact trivial | exact ObWk.refl _ | refine And.intro ?_ ?_ | unfold pullOk)), ?_⟩
  (conv => whnf)
  exact Wk.refl _
theorem olook_ [Go.AL.MX] (b : Str) (a : Arc) (ha : OkA a) (n : Int) : FCall Tryz.prog Gl 32 [.ptr 0 0] [opC b a n 0 .nil .nil] (.tuple []) [opC b a n 0 (.list .nat (a.ms.map eMn)) (.list .nat (a.ms.map eDn))] := by
 obtain ⟨hm, mp, l, os⟩ := a
 have hlb : l.length ≤ 1000000000000 := ha.l
 obtain ⟨_, h2, _, _, _⟩ := ha
 replace h2 : ∀ m ∈ l, m.data.length ≤ 1000000000 := h2
 refine FCall.enterO hT hmix [] Tryz.func32 rfl rfl rfl fun hbd => ?_
 (conv => whnf)
 refine LWp.loop hT hmix [] (fun k : Nat => [(19, vI k)]) (fun k => [(0, .cells [LB b, vB hm, LBn mp, .list .nat (l.map eMn), .list .nat (os.map eO), vI n, vI 0, .list .nat (l.map eMn), .list (.tok 403) ((l.take k).map eDn)]), (403, .tok ((l.take k).map eDn).length 1)]) (fun k => k ≤ l.length) (fun k => l.length - k) 0 (Nat.zero_le _) ?_
 (conv => whnf)
 refine ⟨?_, fun k hk => ?_⟩
 ·(repeat' (first | exact trivial | exact Wk.refl _ | exact ObWk.refl _ | exact rfl | exact ⟨_, rfl⟩ | exact Nat.zero_lt_one | refine And.intro ?_ ?_ | unfold okTo | (unfold okO; conv => whnf) | (unfold okS; conv => whnf) | (unfold SlotOk; conv => whnf) | (unfold ObjOk; conv => whnf) | (unfold okCells; conv => whnf) | (unfold liveTo; conv => whnf) | exact Nat.zero_lt_succ _))
 ·replace hk : k ≤ l.length := hk
  (conv => whnf)
  refine split_intro (fun h => ?_) (fun h => ?_)
  ·have hlt : k < l.length := by have := of_decide_eq_true h; simp only [List.length_map] at this; omega
   obtain ⟨m, hm'⟩ := exI hlt
   have hz : (l.take (k + 1)).length ≤ k + 1 := List.length_take_le _ _
   (conv => whnf)
   refine ⟨_, ⟨by omega, getMap hm'⟩, ?_⟩
   (conv => whnf)
   refine CallLeaf.wa (sdefs_ m.data (h2 m (List.mem_of_getElem? hm'))) rfl ?_
   (conv => whnf)
   refine ⟨_, appL (f := eDn) (xs := l.take k) (ys := [m]) (zs := l.take (k + 1)) rfl rfl (fun _ => rfl) (by rw [List.take_add_one, hm']; rfl) (by show _ * 24 ≤ _; omega), ?_⟩
   (conv => whnf)
   refine ⟨_, add64 (c := ((k + 1 : Nat) : Int)) (by (try simp only []); omega) (by omega), ?_⟩
   (conv => whnf)
   refine ⟨k + 1, ⟨hlt, by show l.length - (k + 1) < l.length - k; omega⟩, ?_⟩
   (repeat' (first | exact trivial | exact Wk.refl _ | exact ObWk.refl _ | exact rfl | exact ⟨_, rfl⟩ | exact Nat.zero_lt_one | refine And.intro ?_ ?_ | unfold okTo | (unfold okO; conv => whnf) | (unfold okS; conv => whnf) | (unfold SlotOk; conv => whnf) | (unfold ObjOk; conv => whnf) | (unfold okCells; conv => whnf) | (unfold liveTo; conv => whnf) | exact Nat.zero_lt_succ _))
  ·have hge : l.length ≤ k := by have := of_decide_eq_false h; simp only [List.length_map] at this; omega
   (conv => whnf)
   simp only [List.take_of_length_le hge]
   refine ⟨[0], rfl, by (try unfold pullOk); (repeat' (first | exact trivial | exact ObWk.refl _ | refine And.intro ?_ ?_ | unfold pullOk)), ?_⟩
   (conv => whnf)
   exact Wk.refl _
theorem okA_arc {b : Str} (h : b.length ≤ 1100000) (he : (arcP b).2.2 = 0) : OkA (arcP b).1 := by
 obtain ⟨a1, _, s, a3, a4⟩ := arc_ok he
 obtain ⟨C, hol⟩ := chain_ok a1 a3
 obtain ⟨B1, B2, B3⟩ := arc_bd b
 have hi := idx_le (arcP b).1.ms (arcP b).1.os B2
 have hi2 : (arcP b).1.ms.length * b.length ≤ 1100060 * 1100000 := Nat.mul_le_mul (by omega) h
 refine ⟨?_, fun m hm => by have := B2 m hm; omega, by omega, by omega, by omega⟩
 rw [a4]
 exact Nat.le_of_eq hol.symm
theorem aE_of {b : Str} {a : Arc} {n : Nat} {e : Int} (h : arcP b = (a, n, e)) : (e ≠ 0 → openP b = (View0, n, e)) ∧ (e = 0 → openP b = if chkP a ≠ 0 then (View0, 8, chkP a) else (viewP a.ms, 0, 0)) := by
 unfold openP
 rw [h]
 exact ⟨fun h => if_pos h, fun h => by rw [if_neg (fun h2 => h2 h)]⟩
abbrev Vn (v : View) : D := .agg [.list .nat (v.members.map eMn), .list .nat (v.defs.map fun d => [LSn d])]
theorem vn_view (l : List Mem) : Vn (viewP l) = .agg [.list .nat (l.map eMn), .list .nat (l.map eDn)] := by
 simp [Vn, viewP]
abbrev opS (b : Str) (a : Arc) (n : Nat) (e : Int) : Nat → AObj
 | 0 => op0 b
 | 1 => opC b a n e .nil .nil
 | 2 => opC b a n 0 .nil .nil
 | _ => opC b a n 0 (.list .nat (a.ms.map eMn)) (.list .nat (a.ms.map eDn))
theorem copen_ [Go.AL.MX] (b : Str) (hb : b.length ≤ 1100000) : FCall Tryz.prog Gl 9 [LB b] [] (.tuple [Vn (openP b).1, vI (openP b).2.1, vI (openP b).2.2]) [] := by
 have P := oparse_ b (by omega)
 have hA := okA_arc hb
 obtain ⟨⟨a, n, e⟩, hq⟩ : ∃ q, q = arcP b := ⟨_, rfl⟩
 rw [← hq] at P hA
 obtain ⟨E1, E2⟩ := aE_of hq.symm
 replace hA : e = 0 → OkA a := hA
 refine FCall.enterL hT hmix [] Tryz.func9 rfl rfl rfl fun hbd => ?_
 (conv => whnf)
 refine LWp.loop hT hmix [] (fun k : Nat => [(12, vI k)]) (fun k => [(528, opS b a n e k)]) (fun k => k ≤ 3 ∧ (1 ≤ k → e = 0) ∧ (2 ≤ k → chkP a = 0)) (fun k => 3 - k) 0 ⟨by omega, by omega, by omega⟩ ?_
 (conv => whnf)
 refine ⟨?_, fun k ⟨hk, hk1, hk2⟩ => ?_⟩
 ·(repeat' (first | exact trivial | exact Wk.refl _ | exact ObWk.refl _ | exact rfl | exact ⟨_, rfl⟩ | exact Nat.zero_lt_one | refine And.intro ?_ ?_ | unfold okTo | (unfold okO; conv => whnf) | (unfold okS; conv => whnf) | (unfold SlotOk; conv => whnf) | (unfold ObjOk; conv => whnf) | (unfold okCells; conv => whnf) | (unfold liveTo; conv => whnf) | exact Nat.zero_lt_succ _))
 ·match k, hk, hk1, hk2 with
  | 0, _, _, _ =>
   (conv => whnf)
   refine ⟨_, ⟨by decide, by decide, rfl⟩, ?_⟩
   (conv => whnf)
   refine CallLeaf.oa [528] (P) rfl rfl rfl rfl ?_
   (conv => whnf)
   refine split_intro (fun h => ?_) (fun h => ?_)
   ·have h' : ¬ e = 0 := by simpa using h
    rw [E1 h']
    (conv => whnf)
    exact Wk.tuple (Wks.cons (Wk.agg (Wks.cons (Wk.natN rfl) (Wks.cons (Wk.natN rfl) Wks.nil))) (Wks.cons (Wk.refl _) (Wks.cons (Wk.refl _) Wks.nil)))
   ·have h' : e = 0 := by simpa using h
    (conv => whnf)
    refine ⟨_, add64 (c := ((1 : Nat) : Int)) rfl (by omega), ?_⟩
    (conv => whnf)
    refine ⟨1, ⟨⟨by omega, fun _ => h', by omega⟩, by show 3 - 1 < 3 - 0; omega⟩, ?_⟩
    (repeat' (first | exact trivial | exact Wk.refl _ | exact ObWk.refl _ | exact rfl | exact ⟨_, rfl⟩ | exact Nat.zero_lt_one | refine And.intro ?_ ?_ | unfold okTo | (unfold okO; conv => whnf) | (unfold okS; conv => whnf) | (unfold SlotOk; conv => whnf) | (unfold ObjOk; conv => whnf) | (unfold okCells; conv => whnf) | (unfold liveTo; conv => whnf) | exact Nat.zero_lt_succ _))
  | 1, _, h1, _ =>
   have h1' : e = 0 := h1 (by omega)
   subst h1'
   have C := ocheck_ b a (hA rfl) n
   (conv => whnf)
   refine ⟨_, ⟨by decide, by decide, rfl⟩, ?_⟩
   (conv => whnf)
   refine CallLeaf.oa [528] (C) rfl rfl rfl rfl ?_
   (conv => whnf)
   refine split_intro (fun h => ?_) (fun h => ?_)
   ·have h' : ¬ chkP a = 0 := by simpa using h
    rw [E2 rfl, if_pos h', if_neg h']
    (conv => whnf)
    exact Wk.tuple (Wks.cons (Wk.agg (Wks.cons (Wk.natN rfl) (Wks.cons (Wk.natN rfl) Wks.nil))) (Wks.cons (Wk.refl _) (Wks.cons (Wk.refl _) Wks.nil)))
   ·have h' : chkP a = 0 := by simpa using h
    simp only [if_pos h', h']
    (conv => whnf)
    refine ⟨_, add64 (c := ((2 : Nat) : Int)) rfl (by omega), ?_⟩
    (conv => whnf)
    refine ⟨2, ⟨⟨by omega, fun _ => trivial, fun _ => trivial⟩, by show 3 - 2 < 3 - 1; omega⟩, ?_⟩
    (repeat' (first | exact trivial | exact Wk.refl _ | exact ObWk.refl _ | exact rfl | exact ⟨_, rfl⟩ | exact Nat.zero_lt_one | refine And.intro ?_ ?_ | unfold okTo | (unfold okO; conv => whnf) | (unfold okS; conv => whnf) | (unfold SlotOk; conv => whnf) | (unfold ObjOk; conv => whnf) | (unfold okCells; conv => whnf) | (unfold liveTo; conv => whnf) | exact Nat.zero_lt_succ _))
  | 2, _, h1, h2 =>
   have h1' : e = 0 := h1 (by omega)
   have h2' : chkP a = 0 := h2 (by omega)
   subst h1'
   have L := olook_ b a (hA rfl) n
   (conv => whnf)
   refine ⟨_, ⟨by decide, by decide, rfl⟩, ?_⟩
   (conv => whnf)
   refine CallLeaf.oa [528] (L) rfl rfl rfl rfl ?_
   (conv => whnf)
   refine ⟨_, add64 (c := ((3 : Nat) : Int)) rfl (by omega), ?_⟩
   (conv => whnf)
   refine ⟨3, ⟨⟨by omega, fun _ => rfl, fun _ => h2'⟩, by show 3 - 3 < 3 - 2; omega⟩, ?_⟩
   (repeat' (first | exact trivial | exact Wk.refl _ | exact ObWk.refl _ | exact rfl | exact ⟨_, rfl⟩ | exact Nat.zero_lt_one | refine And.intro ?_ ?_ | unfold okTo | (unfold okO; conv => whnf) | (unfold okS; conv => whnf) | (unfold SlotOk; conv => whnf) | (unfold ObjOk; conv => whnf) | (unfold okCells; conv => whnf) | (unfold liveTo; conv => whnf) | exact Nat.zero_lt_succ _))
  | 3, _, h1, h2 =>
   have h1' : e = 0 := h1 (by omega)
   have h2' : chkP a = 0 := h2 (by omega)
   rw [E2 h1', if_neg (fun h => h h2'), vn_view]
   (conv => whnf)
   exact Wk.refl _
end Go.Proofs.YtenbpnlmpjndgaaGreatDoor.H

namespace Go.Proofs.YtenbpnlmpjndgaaGreatDoor.H
open Go Go.AL Go.AL.Hd Go.AL.Ln Go.AL.Ar Go.AL.Sc Go.AL.Cn
set_option maxRecDepth 100000
set_option maxHeartbeats 8000000
abbrev Va (v : View) : D := .agg [.list .any (v.members.map eMn), .list .nat (v.defs.map fun d => [LSn d])]
theorem va_view (l : List Mem) : Va (viewP l) = .agg [.list .any (l.map eMn), .list .nat (l.map eDn)] := by
  simp [Va, viewP]
theorem ropen_ [Go.AL.MX] (b : Str) (hb : b.length ≤ 100000) : FCall Tryz.prog Gl 10 [LB b] [] (.tuple [Va (openP b).1, vI (openP b).2.1, vI (openP b).2.2]) [] := by
  have P := rparse4_ b hb
  have hA := okA_arc (b := b) (by omega)
  obtain ⟨⟨a, n, e⟩, hq⟩ : ∃ q, q = arcP b := ⟨_, rfl⟩
  rw [← hq] at P hA
  obtain ⟨E1, E2⟩ := aE_of hq.symm
  replace hA : e = 0 → OkA a := hA
  refine FCall.enterL hT hmix [] Tryz.func10 rfl rfl rfl fun hbd => ?_
  (conv => whnf)
  refine CallLeaf.wa (P) rfl ?_
  (conv => whnf)
  refine split_intro (fun h => ?_) (fun h => ?_)
  · have h' : ¬ e = 0 := by simpa using h
    rw [E1 h']
    (conv => whnf)
    exact Wk.tuple (Wks.cons (Wk.agg (Wks.cons Wk.nil (Wks.cons (Wk.natN rfl) Wks.nil))) (Wks.cons (Wk.refl _) (Wks.cons (Wk.refl _) Wks.nil)))
  · have h' : e = 0 := by simpa using h
    subst h'
    have C := rcheck_ a (hA rfl)
    have h2 := (hA rfl).d
    have hlb := (hA rfl).l
    replace E2 := E2 rfl
    revert C E2
    generalize chkP a = r
    obtain ⟨hm, mp, l, os⟩ := a
    intro C E2
    replace h2 : ∀ m ∈ l, m.data.length ≤ 1000000000 := h2
    replace hlb : l.length ≤ 1000000000000 := hlb
    replace E2 : openP b = if r ≠ 0 then (View0, 8, r) else (viewP l, 0, 0) := E2
    (conv => whnf)
    refine CallLeaf.wa (C) rfl ?_
    (conv => whnf)
    refine split_intro (fun h3 => ?_) (fun h3 => ?_)
    · have h3' : ¬ r = 0 := by simpa using h3
      rw [E2, if_pos h3']
      (conv => whnf)
      exact Wk.tuple (Wks.cons (Wk.agg (Wks.cons Wk.nil (Wks.cons (Wk.natN rfl) Wks.nil))) (Wks.cons (Wk.refl _) (Wks.cons (Wk.refl _) Wks.nil)))
    · have h3' : r = 0 := by simpa using h3
      rw [E2, if_neg (fun h => h h3'), va_view]
      (conv => whnf)
      refine LWp.loop hT hmix [] (fun k : Nat => [(10, vI k)]) (fun k => [(3608, .cells [.list .any (l.map eMn), .list (.tok 403) ((l.take k).map eDn)]), (403, .tok ((l.take k).map eDn).length 1)]) (fun k => k ≤ l.length) (fun k => l.length - k) 0 (Nat.zero_le _) ?_
      (conv => whnf)
      refine ⟨?_, fun k hk => ?_⟩
      · (repeat' (first | exact trivial | exact Wk.refl _ | exact ObWk.refl _ | exact rfl | exact ⟨_, rfl⟩ | exact Nat.zero_lt_one | refine And.intro ?_ ?_ | unfold okTo | (unfold okO; conv => whnf) | (unfold okS; conv => whnf) | (unfold SlotOk; conv => whnf) | (unfold ObjOk; conv => whnf) | (unfold okCells; conv => whnf) | (unfold liveTo; conv => whnf) | exact Nat.zero_lt_succ _))
      · replace hk : k ≤ l.length := hk
        (conv => whnf)
        refine split_intro (fun h => ?_) (fun h => ?_)
        · have hlt : k < l.length := by have := of_decide_eq_true h; simp only [List.length_map] at this; omega
          obtain ⟨m, hm'⟩ := exI hlt
          have hz : (l.take (k + 1)).length ≤ k + 1 := List.length_take_le _ _
          (conv => whnf)
          refine ⟨_, ⟨by omega, getMap hm'⟩, ?_⟩
          (conv => whnf)
          refine CallLeaf.wa (rdefs_ m.data (h2 m (List.mem_of_getElem? hm'))) rfl ?_
          (conv => whnf)
          refine ⟨_, appL (f := eDn) (xs := l.take k) (ys := [m]) (zs := l.take (k + 1)) rfl rfl (fun _ => rfl) (by rw [List.take_add_one, hm']; rfl) (by show _ * 24 ≤ _; omega), ?_⟩
          (conv => whnf)
          refine ⟨_, add64 (c := ((k + 1 : Nat) : Int)) (by (try simp only []); omega) (by omega), ?_⟩
          (conv => whnf)
          refine ⟨k + 1, ⟨hlt, by show l.length - (k + 1) < l.length - k; omega⟩, ?_⟩
          (repeat' (first | exact trivial | exact Wk.refl _ | exact ObWk.refl _ | exact rfl | exact ⟨_, rfl⟩ | exact Nat.zero_lt_one | refine And.intro ?_ ?_ | unfold okTo | (unfold okO; conv => whnf) | (unfold okS; conv => whnf) | (unfold SlotOk; conv => whnf) | (unfold ObjOk; conv => whnf) | (unfold okCells; conv => whnf) | (unfold liveTo; conv => whnf) | exact Nat.zero_lt_succ _))
        · have hge : l.length ≤ k := by have := of_decide_eq_false h; simp only [List.length_map] at this; omega
          (conv => whnf)
          simp only [List.take_of_length_le hge]
          exact Wk.tuple (Wks.cons (Wk.agg (Wks.cons (Wk.refl _) (Wks.cons (Wk.refl _) Wks.nil))) (Wks.cons (Wk.refl _) (Wks.cons (Wk.refl _) Wks.nil)))
theorem cview_ [Go.AL.MX] (xs ys : List (List D)) : FCall Tryz.prog Gl 12 [.agg [.list .any xs, .list .any ys]] [] (.agg [.list .any xs, .list .any ys]) [] := by
  refine FCall.enterL hT hmix [] Tryz.func12 rfl rfl rfl fun hbd => ?_
  (conv => whnf)
  exact Wk.refl _
theorem lds_wk (l : List (List Str)) (t : Tg) : Wk (.list t (l.map fun d => [LSn d])) (LD l) :=
  Wk.listE1 (f := fun d : List Str => LSn d) (g := fun d : List Str => LS d) t l (fun a => Wk.list _ _) (fun _ => rfl)
theorem view_wk (v : View) (t u : Tg) : Wk (.agg [.list t (v.members.map eMn), .list u (v.defs.map fun d => [LSn d])]) (.agg v.enc) :=
  Wk.agg (Wks.cons (mem_wk t v.members) (Wks.cons (lds_wk v.defs u) Wks.nil))
theorem rfew4_ [Go.AL.MX] (l : List Mem) : FCall Tryz.prog Gl 19 [LM l] [] (vB (fewL4 l)) [] := by
  refine FCall.enterL hT hmix [] Tryz.func19 rfl rfl rfl fun hbd => ?_
  (conv => whnf)
  refine LWp.loop hT hmix [] (fun k : Nat => [(4, vI k), (3, vI (sumD (l.take k) : Nat))]) (fun _ => []) (fun k => k ≤ l.length ∧ k ≤ 21 ∧ (l.take k).all fewE = true) (fun k => l.length - k) 0 ⟨Nat.zero_le _, by omega, rfl⟩ ?_
  (conv => whnf)
  refine ⟨?_, fun k ⟨hk, hk2, hal⟩ => ?_⟩
  · (repeat' (first | exact trivial | exact Wk.refl _ | exact ObWk.refl _ | exact rfl | exact ⟨_, rfl⟩ | exact Nat.zero_lt_one | refine And.intro ?_ ?_ | unfold okTo | (unfold okO; conv => whnf) | (unfold okS; conv => whnf) | (unfold SlotOk; conv => whnf) | (unfold ObjOk; conv => whnf) | (unfold okCells; conv => whnf) | (unfold liveTo; conv => whnf) | exact Nat.zero_lt_succ _))
  · replace hk : k ≤ l.length := hk
    replace hk2 : k ≤ 21 := hk2
    have hsl := sumD_le hal
    have hkl : (l.take k).length ≤ k := List.length_take_le _ _
    (conv => whnf)
    refine split_intro (fun h => ?_) (fun h => ?_)
    · have hlt : k < l.length := by have := of_decide_eq_true h; simp only [List.length_map] at this; omega
      obtain ⟨m, hx⟩ := exI hlt
      (conv => whnf)
      refine split_intro (fun h5 => ?_) (fun h5 => ?_)
      · have h5' : k ≤ 20 := by have := of_decide_eq_true h5; omega
        (conv => whnf)
        refine ⟨_, ⟨by omega, getMap hx⟩, ?_⟩
        (conv => whnf)
        refine split_intro (fun h6 => ?_) (fun h6 => ?_)
        · have h6' : 300 < m.name.length := by have := of_decide_eq_true h6; rw [sB_sz] at this; omega
          rw [fewL4_false hx (by simp; omega)]
          (conv => whnf)
          exact Wk.refl _
        · have h6' : ¬ 300 < m.name.length := by have := of_decide_eq_false h6; rw [sB_sz] at this; omega
          (conv => whnf)
          refine ⟨_, ⟨by omega, getMap hx⟩, ?_⟩
          (conv => whnf)
          refine split_intro (fun h7 => ?_) (fun h7 => ?_)
          · have h7' : 1000 < m.data.length := by have := of_decide_eq_true h7; simp only [List.length_map] at this; omega
            rw [fewL4_false hx (by simp; omega)]
            (conv => whnf)
            exact Wk.refl _
          · have h7' : ¬ 1000 < m.data.length := by have := of_decide_eq_false h7; simp only [List.length_map] at this; omega
            have hsn := sumD_snoc hx
            have hal2 := fewL4_snoc hx (by simp; omega) hal
            (conv => whnf)
            refine ⟨_, ⟨by omega, getMap hx⟩, ?_⟩
            (conv => whnf)
            refine ⟨_, add64 (c := ((sumD (l.take (k + 1)) : Nat) : Int)) (by rw [hsn]; simp) (by omega), ?_⟩
            (conv => whnf)
            refine ⟨_, add64 (c := ((k + 1 : Nat) : Int)) (by (try simp only []); omega) (by omega), ?_⟩
            (conv => whnf)
            refine ⟨k + 1, ⟨⟨hlt, by show k + 1 ≤ 21; omega, hal2⟩, by show l.length - (k + 1) < l.length - k; omega⟩, ?_⟩
            (repeat' (first | exact trivial | exact Wk.refl _ | exact ObWk.refl _ | exact rfl | exact ⟨_, rfl⟩ | exact Nat.zero_lt_one | refine And.intro ?_ ?_ | unfold okTo | (unfold okO; conv => whnf) | (unfold okS; conv => whnf) | (unfold SlotOk; conv => whnf) | (unfold ObjOk; conv => whnf) | (unfold okCells; conv => whnf) | (unfold liveTo; conv => whnf) | exact Nat.zero_lt_succ _))
      · have h5' : ¬ k ≤ 20 := by have := of_decide_eq_false h5; omega
        have e : fewL4 l = false := by unfold fewL4; rw [decide_eq_false (by omega)]; rfl
        rw [e]
        (conv => whnf)
        refine split_intro (fun h => absurd h (by simp; omega)) (fun _ => ?_)
        (conv => whnf)
        exact Wk.refl _
    · have hge : l.length ≤ k := by have := of_decide_eq_false h; simp only [List.length_map] at this; omega
      rw [List.take_of_length_le hge] at hal hsl
      (conv => whnf)
      simp only [List.take_of_length_le hge]
      refine split_intro (fun h8 => ?_) (fun h8 => ?_)
      · have h8' : l.length ≤ 20 := by have := of_decide_eq_true h8; simp only [List.length_map] at this; omega
        (conv => whnf)
        exact Wk.bool (by unfold fewL4; rw [hal, decide_eq_true h8']; simp; omega)
      · have h8' : ¬ l.length ≤ 20 := by have := of_decide_eq_false h8; simp only [List.length_map] at this; omega
        (conv => whnf)
        exact Wk.bool (by unfold fewL4; rw [decide_eq_false h8']; rfl)
theorem cadd_ [Go.AL.MX] (a b : Str) (h : a.length + b.length ≤ 140737488355328) : FCall Tryz.prog Gl 44 [LB a, LB b] [] (LBn (a ++ b)) [] := by
  refine FCall.enterL hT hmix [] Tryz.func44 rfl rfl rfl fun hbd => ?_
  (conv => whnf)
  refine ⟨_, appL (f := byteD) (xs := []) (ys := a) (zs := a) rfl rfl (fun _ => rfl) rfl (by show _ * 1 ≤ _; omega), ?_⟩
  (conv => whnf)
  refine ⟨_, appL (f := byteD) (xs := a) (ys := b) (zs := a ++ b) rfl rfl (fun _ => rfl) rfl (by rw [List.length_append]; show _ * 1 ≤ _; omega), ?_⟩
  (conv => whnf)
  exact Wk.nat' rfl
theorem rpart_ [Go.AL.MX] (h : Hdr) (d : Str) (h0 : h.name.length ≤ 4611686018427387904) (h1 : h.date ≤ 9223372036854775807) (h2 : h.uid ≤ 9223372036854775807) (h3 : h.gid ≤ 9223372036854775807) (h4 : h.mode ≤ 9223372036854775807) (h5 : d.length ≤ 1000000000) :
    FCall Tryz.prog Gl 45 [.agg h.enc, LB d] [] (LBn (partB h d)) [] := by
  obtain ⟨nm, dt, u, g, mo, sz⟩ := h
  have E := encode_ ⟨nm, dt, u, g, mo, d.length⟩ h0 h1 h2 h3 h4 (by show ((d.length : Nat) : Int) ≤ _; omega)
  have hle := encR_le ⟨nm, dt, u, g, mo, d.length⟩
  have hp : partB ⟨nm, dt, u, g, mo, sz⟩ d = (encR ⟨nm, dt, u, g, mo, d.length⟩).1 ++ d ++ padP d := rfl
  rw [hp]
  revert E hle
  generalize encR ⟨nm, dt, u, g, mo, d.length⟩ = p
  obtain ⟨a, b⟩ := p
  intro E hle
  replace hle : a.length ≤ 60 := hle
  rw [show ((d.length : Nat) : Int) = (((d.map byteD).length : Nat) : Int) by simp] at E
  refine FCall.enterL hT hmix [] Tryz.func45 rfl rfl rfl fun hbd => ?_
  (conv => whnf)
  refine CallLeaf.wa (E) rfl ?_
  (conv => whnf)
  refine CallLeaf.oa [1552] (laddT_ a d (by omega)) rfl rfl rfl rfl ?_
  (conv => whnf)
  refine ⟨_, rem64 (c := ((d.length % 2 : Nat) : Int)) (by simp only [List.length_map]; rfl) (by omega), ?_⟩
  (conv => whnf)
  refine split_intro (fun hq => ?_) (fun hq => ?_)
  · have hq' : d.length % 2 = 1 := by have : ((d.length % 2 : Nat) : Int) = 1 := by simpa using hq
                                      omega
    (conv => whnf)
    refine ⟨_, appL (f := byteD) (xs := a ++ d) (ys := [10]) (zs := a ++ d ++ padP d) rfl rfl (fun _ => rfl) (by unfold padP; rw [if_pos hq']) (by have := padP_len d; simp only [List.length_append]; show _ * 1 ≤ _; omega), ?_⟩
    (conv => whnf)
    exact Wk.nat' rfl
  · have hq' : ¬ d.length % 2 = 1 := by
      have : ¬ ((d.length % 2 : Nat) : Int) = 1 := by simpa using hq
      omega
    (conv => whnf)
    exact Wk.nat' (by unfold padP; rw [if_neg hq', List.append_nil])
end Go.Proofs.YtenbpnlmpjndgaaGreatDoor.H

namespace Go.Proofs.YtenbpnlmpjndgaaGreatDoor.H
open Go Go.AL Go.AL.Hd Go.AL.Ln Go.AL.Ar Go.AL.Cn
open Go.AL.Sc (Mem LM OkM)
set_option maxRecDepth 100000
set_option maxHeartbeats 8000000
theorem rfits5_ [Go.AL.MX] (l : List Mem) (hm : ∀ m ∈ l, OkM m) : FCall Tryz.prog Gl 41 [LM l] [] (.tuple [vI (Sc.fitsR l 0).1, vI (Sc.fitsR l 0).2]) [] := by
 refine FCall.enterL hT hmix [] Tryz.func41 rfl rfl rfl fun hbd => ?_
 have ha := bds_list hbd (.head _)
 (conv => whnf)
 refine LWp.loop hT hmix [] (fun k : Nat => [(4, vI k)]) (fun _ => []) (fun k => k ≤ l.length ∧ Sc.fitsR l 0 = Sc.fitsR (l.drop k) k) (fun k => l.length - k) 0 ⟨Nat.zero_le _, rfl⟩ ?_
 (conv => whnf)
 refine ⟨?_, fun k ⟨hk, hkk⟩ => ?_⟩
 ·(repeat' (first | exact trivial | exact Wk.refl _ | exact ObWk.refl _ | exact rfl | exact ⟨_, rfl⟩ | exact Nat.zero_lt_one | refine And.intro ?_ ?_ | unfold okTo | (unfold okO; conv => whnf) | (unfold okS; conv => whnf) | (unfold SlotOk; conv => whnf) | (unfold ObjOk; conv => whnf) | (unfold okCells; conv => whnf) | (unfold liveTo; conv => whnf) | exact Nat.zero_lt_succ _))
 ·(conv => whnf)
  refine split_intro (fun h => ?_) (fun h => ?_)
  ·have hlt : k < l.length := by have := of_decide_eq_true h; rw [List.length_map] at this; omega
   obtain ⟨m, hx⟩ := exI hlt
   have om := hm m (List.mem_of_getElem? hx)
   have hdr : l.drop k = m :: l.drop (k + 1) := by
    rw [List.drop_eq_getElem_cons hlt]
    rw [List.getElem?_eq_getElem hlt] at hx
    injection hx with hx
    rw [hx]
   rw [hdr] at hkk
   simp only [Sc.fitsR] at hkk
   have V := nvalid_ m.name (by have := om.n; omega)
   have E := encode_ ⟨[97], m.time, m.uid, m.gid, m.mode, m.data.length⟩ (by show 1 ≤ _; omega) om.t om.u om.g om.o (by have := om.d; show ((m.data.length : Nat) : Int) ≤ _; omega)
   (conv => whnf)
   refine ⟨_, ⟨by omega, getMap hx⟩, ?_⟩
   (conv => whnf)
   refine CallLeaf.wa (V) rfl ?_
   (conv => whnf)
   cases hv : validN m.name with
   | false =>
    have e : Sc.fitM m = 6 := by simp [Sc.fitM, hv]
    rw [e] at hkk
    rw [hkk]
    (conv => whnf)
    exact Wk.refl _
   | true =>
    have e : Sc.fitM m = if (encR ⟨[97], m.time, m.uid, m.gid, m.mode, m.data.length⟩).2 = 0 then 0 else 9 := by simp [Sc.fitM, hv]
    rw [e] at hkk
    revert E hkk
    generalize encR ⟨[97], m.time, m.uid, m.gid, m.mode, m.data.length⟩ = p
    obtain ⟨a, b⟩ := p
    intro hkk E
    rw [show ((m.data.length : Nat) : Int) = (((m.data.map byteD).length : Nat) : Int) by simp] at E
    simp only [] at hkk
    (conv => whnf)
    refine CallLeaf.wa (E) rfl ?_
    (conv => whnf)
    refine split_intro (fun hb => ?_) (fun hb => ?_)
    ·have hb' : ¬ b = 0 := by simpa using hb
     simp only [if_neg hb'] at hkk
     rw [hkk]
     (conv => whnf)
     exact Wk.refl _
    ·have hb' : b = 0 := by simpa using hb
     simp only [if_pos hb'] at hkk
     (conv => whnf)
     refine ⟨_, add64 (c := ((k + 1 : Nat) : Int)) (by (try simp only []); omega) (by omega), ?_⟩
     (conv => whnf)
     refine ⟨k + 1, ⟨⟨by omega, hkk⟩, by simp only []; omega⟩, ?_⟩
     (repeat' (first | exact trivial | exact Wk.refl _ | exact ObWk.refl _ | exact rfl | exact ⟨_, rfl⟩ | exact Nat.zero_lt_one | refine And.intro ?_ ?_ | unfold okTo | (unfold okO; conv => whnf) | (unfold okS; conv => whnf) | (unfold SlotOk; conv => whnf) | (unfold ObjOk; conv => whnf) | (unfold okCells; conv => whnf) | (unfold liveTo; conv => whnf) | exact Nat.zero_lt_succ _))
  ·have hge : l.length ≤ k := by have := of_decide_eq_false h; rw [List.length_map] at this; omega
   rw [List.drop_of_length_le hge] at hkk
   rw [hkk]
   (conv => whnf)
   exact Wk.refl _
abbrev eNm (m : Mem) : List D := [sD m.name]
theorem nm_map (l : List Mem) : l.map eNm = (namesM l).map eS := by simp [namesM]
theorem few_names {l : List Mem} (h : FewM l) : Few (namesM l) := ⟨by have := h.n; simp; omega, fun n hn => by
 obtain ⟨m, hm, rfl⟩ := List.mem_map.1 hn
 have := (h.d m hm).1; omega⟩
theorem build_fit {l : List Mem} (h : ∀ x ∈ l, fitM x) : buildR (namesM l) = (tabM l, fldP 0 (namesM l), 0) :=
 build_ok (List.all_eq_true.2 fun n hn => by obtain ⟨m, hm, rfl⟩ := List.mem_map.1 hn; exact (h m hm).1)
theorem rwrite_ [Go.AL.MX] (hm : Bool) (m : Str) (l : List Mem) (hl : FewM l) (ho : ∀ x ∈ l, OkM x) (hml : m.length ≤ 1000000) :
  FCall Tryz.prog Gl 22 [vB hm, LB m, LM l] [] (.tuple [LBn (wrR hm m l).1, .list .nat ((wrR hm m l).2.1.map eO), vI (wrR hm m l).2.2]) [] := by
 have F := rfits5_ l ho
 have B := rbuild_ (namesM l) (few_names hl)
 have e0 : (Sc.fitsR l 0).2 ≠ 0 → wrR hm m l = ([], [], (Sc.fitsR l 0).2) := fun h => if_pos h
 have e1 : (Sc.fitsR l 0).2 = 0 → (∀ x ∈ l, fitM x) := fun h => (fits_iff l 0).1 h
 have hln := hl.n
 revert F e0 e1
 generalize Sc.fitsR l 0 = p
 obtain ⟨a, b⟩ := p
 intro F e0 e1
 refine FCall.enterL hT hmix [11, 13] Tryz.func22 rfl rfl rfl fun hbd => ?_
 (conv => whnf)
 refine CallLeaf.wa (F) rfl ?_
 (conv => whnf)
 refine split_intro (fun h => ?_) (fun h => ?_)
 ·have h' : ¬ b = 0 := by simpa using h
  rw [e0 h']
  (conv => whnf)
  exact Wk.tuple (Wks.cons (Wk.natN rfl) (Wks.cons (Wk.natN rfl) (Wks.cons (Wk.refl _) Wks.nil)))
 ·have h' : b = 0 := by simpa using h
  have hf := e1 h'
  rw [wrR_fit hf]
  rw [build_fit hf] at B
  have ht := tab_few hl
  have hfo := fm_ok hf (by omega)
  have hb1 := base_le hl hm m
  (conv => whnf)
  refine LWp.loop hT hmix [] (fun k : Nat => [(12, vI k), (11, .list (.tok 403) ((l.take k).map eNm))]) (fun k => [(403, .tok ((l.take k).map eNm).length 1)]) (fun k => k ≤ l.length) (fun k => l.length - k) 0 (Nat.zero_le _) ?_
  (conv => whnf)
  refine ⟨?_, fun k hk => ?_⟩
  ·(repeat' (first | exact trivial | exact Wk.refl _ | exact ObWk.refl _ | exact rfl | exact ⟨_, rfl⟩ | exact Nat.zero_lt_one | refine And.intro ?_ ?_ | unfold okTo | (unfold okO; conv => whnf) | (unfold okS; conv => whnf) | (unfold SlotOk; conv => whnf) | (unfold ObjOk; conv => whnf) | (unfold okCells; conv => whnf) | (unfold liveTo; conv => whnf) | exact Nat.zero_lt_succ _))
  ·replace hk : k ≤ l.length := hk
   (conv => whnf)
   refine split_intro (fun h2 => ?_) (fun h2 => ?_)
   ·have hlt : k < l.length := by have := of_decide_eq_true h2; simp only [List.length_map] at this; omega
    obtain ⟨x, hx⟩ := exI hlt
    have hz : (l.take (k + 1)).length ≤ k + 1 := List.length_take_le _ _
    (conv => whnf)
    refine ⟨_, ⟨by omega, getMap hx⟩, ?_⟩
    (conv => whnf)
    refine ⟨_, appL (f := eNm) (xs := l.take k) (ys := [x]) (zs := l.take (k + 1)) rfl rfl (fun _ => rfl) (by rw [List.take_add_one, hx]; rfl) (by show _ * 16 ≤ _; omega), ?_⟩
    (conv => whnf)
    refine ⟨_, add64 (c := ((k + 1 : Nat) : Int)) (by (try simp only []); omega) (by omega), ?_⟩
    (conv => whnf)
    refine ⟨k + 1, ⟨hlt, by show l.length - (k + 1) < l.length - k; omega⟩, ?_⟩
    (repeat' (first | exact trivial | exact Wk.refl _ | exact ObWk.refl _ | exact rfl | exact ⟨_, rfl⟩ | exact Nat.zero_lt_one | refine And.intro ?_ ?_ | unfold okTo | (unfold okO; conv => whnf) | (unfold okS; conv => whnf) | (unfold SlotOk; conv => whnf) | (unfold ObjOk; conv => whnf) | (unfold okCells; conv => whnf) | (unfold liveTo; conv => whnf) | exact Nat.zero_lt_succ _))
   ·have hge : l.length ≤ k := by have := of_decide_eq_false h2; simp only [List.length_map] at this; omega
    (conv => whnf)
    simp only [List.take_of_length_le hge, nm_map]
    refine CallLeaf.wa (B) rfl ?_
    (conv => whnf)
    refine CallLeaf.wa (rmagic_) rfl ?_
    (conv => whnf)
    refine LWp.cut hT hmix [] [13] (fun _ : Unit => [(16, LBn (magic ++ mapB hm m))]) (fun _ => []) [] (fun _ => True) ?_
    (conv => whnf)
    refine ⟨?_, fun _ _ => ?_⟩
    ·cases hm with
     | true =>
      (conv => whnf)
      refine CallLeaf.wa (rpart_ ⟨[47], 0, 0, 0, 0, 0⟩ m (by simp) (by decide) (by decide) (by decide) (by decide) (by omega)) rfl ?_
      (conv => whnf)
      refine CallLeaf.wa (cadd_ magic (partB ⟨[47], 0, 0, 0, 0, 0⟩ m) (by have := partB_le ⟨[47], 0, 0, 0, 0, 0⟩ m; have : magic.length = 8 := rfl; omega)) rfl ?_
      (conv => whnf)
      refine ⟨(), trivial, ?_⟩
      (repeat' (first | exact trivial | exact Wk.refl _ | exact ObWk.refl _ | exact rfl | exact ⟨_, rfl⟩ | exact Nat.zero_lt_one | refine And.intro ?_ ?_ | unfold okTo | (unfold okO; conv => whnf) | (unfold okS; conv => whnf) | (unfold SlotOk; conv => whnf) | (unfold ObjOk; conv => whnf) | (unfold okCells; conv => whnf) | (unfold liveTo; conv => whnf) | exact Nat.zero_lt_succ _))
     | false =>
      (conv => whnf)
      refine ⟨(), trivial, ?_⟩
      (repeat' (first | exact trivial | exact Wk.refl _ | exact ObWk.refl _ | exact rfl | exact ⟨_, rfl⟩ | exact Nat.zero_lt_one | refine And.intro ?_ ?_ | unfold okTo | (unfold okO; conv => whnf) | (unfold okS; conv => whnf) | (unfold SlotOk; conv => whnf) | (unfold ObjOk; conv => whnf) | (unfold okCells; conv => whnf) | (unfold liveTo; conv => whnf) | exact Nat.zero_lt_succ _))
    ·(conv => whnf)
     refine LWp.cut hT hmix [] [] (fun _ : Unit => [(16, LBn (magic ++ mapB hm m ++ tabB l))]) (fun _ => []) [] (fun _ => True) ?_
     (conv => whnf)
     refine ⟨?_, fun _ _ => ?_⟩
     ·(conv => whnf)
      refine split_intro (fun h3 => ?_) (fun h3 => ?_)
      ·have h3' : tabM l ≠ [] := by
        intro e
        have := of_decide_eq_true h3
        rw [e] at this; simp at this
       have et : tabB l = partB ⟨[47, 47], 0, 0, 0, 0, 0⟩ (tabM l) := if_neg h3'
       (conv => whnf)
       refine CallLeaf.wa (rpart_ ⟨[47, 47], 0, 0, 0, 0, 0⟩ (tabM l) (by simp) (by decide) (by decide) (by decide) (by decide) (by omega)) rfl ?_
       (conv => whnf)
       refine CallLeaf.wa (cadd_ (magic ++ mapB hm m) (partB ⟨[47, 47], 0, 0, 0, 0, 0⟩ (tabM l)) (by rw [← et, ← List.length_append]; have : (magic ++ mapB hm m ++ tabB l).length = baseP hm m l := rfl; omega)) rfl ?_
       (conv => whnf)
       refine ⟨(), trivial, ?_⟩
       rw [et]
       (repeat' (first | exact trivial | exact Wk.refl _ | exact ObWk.refl _ | exact rfl | exact ⟨_, rfl⟩ | exact Nat.zero_lt_one | refine And.intro ?_ ?_ | unfold okTo | (unfold okO; conv => whnf) | (unfold okS; conv => whnf) | (unfold SlotOk; conv => whnf) | (unfold ObjOk; conv => whnf) | (unfold okCells; conv => whnf) | (unfold liveTo; conv => whnf) | exact Nat.zero_lt_succ _))
      ·have h3' : tabM l = [] := by
        have := of_decide_eq_false h3
        simp only [List.length_map] at this
        exact List.eq_nil_of_length_eq_zero (by omega)
       have et : tabB l = [] := if_pos h3'
       (conv => whnf)
       refine ⟨(), trivial, ?_⟩
       rw [et, List.append_nil]
       (repeat' (first | exact trivial | exact Wk.refl _ | exact ObWk.refl _ | exact rfl | exact ⟨_, rfl⟩ | exact Nat.zero_lt_one | refine And.intro ?_ ?_ | unfold okTo | (unfold okO; conv => whnf) | (unfold okS; conv => whnf) | (unfold SlotOk; conv => whnf) | (unfold ObjOk; conv => whnf) | (unfold okCells; conv => whnf) | (unfold liveTo; conv => whnf) | exact Nat.zero_lt_succ _))
     ·have hb0 : (magic ++ mapB hm m ++ tabB l).length = baseP hm m l := rfl
      have hoff : offsW hm m l = offP (magic ++ mapB hm m ++ tabB l).length (fmM l) := rfl
      have hwr : wrP hm m l = magic ++ mapB hm m ++ tabB l ++ memB (fmM l) := rfl
      rw [hoff, hwr]
      have hmm := memB_le hl
      have hfl : (fmM l).length = l.length := by rw [← List.length_map (f := (·.2)), fm_snd]
      have hfm : ∀ (k : Nat) (x : Mem), l[k]? = some x → ∃ f : Str, (fldP 0 (namesM l))[k]? = some f ∧ (fmM l)[k]? = some (f, x) := by
       intro k x hx
       have hlt : k < l.length := (List.getElem?_eq_some_iff.1 hx).1
       obtain ⟨f, hf1⟩ := exI (l := fldP 0 (namesM l)) (k := k) (by rw [fldP_len]; simpa using hlt)
       exact ⟨f, hf1, by rw [List.getElem?_zip_eq_some]; exact ⟨hf1, hx⟩⟩
      have hfo1 : ∀ (k : Nat) (y : Str × Mem), (fmM l)[k]? = some y → y.1.length ≤ 4611686018427387904 := by
       intro k y hy
       have := (encR_bd (hfo y (List.mem_of_getElem? hy))).1
       have e : (mHdr y.1 y.2).name = y.1 := rfl
       rw [e] at this; omega
      revert hb1 hmm hfl hfm hfo hfo1
      generalize fmM l = fm
      rw [← hb0]
      generalize magic ++ mapB hm m ++ tabB l = B0
      intro hfo hb1 hmm hfl hfm hfo1
      (conv => whnf)
      refine LWp.loop hT hmix [] (fun k : Nat => [(18, vI k), (16, LBn (B0 ++ memB (fm.take k))), (17, .list (.tok 405) ((offP B0.length (fm.take k)).map eO))]) (fun k => [(405, .tok ((offP B0.length (fm.take k)).map eO).length 1)]) (fun k => k ≤ l.length) (fun k => l.length - k) 0 (Nat.zero_le _) ?_
      (conv => whnf)
      refine ⟨?_, fun k hk => ?_⟩
      ·(repeat' (first | exact trivial | exact Wk.refl _ | exact ObWk.refl _ | exact rfl | exact ⟨_, rfl⟩ | exact Nat.zero_lt_one | refine And.intro ?_ ?_ | unfold okTo | (unfold okO; conv => whnf) | (unfold okS; conv => whnf) | (unfold SlotOk; conv => whnf) | (unfold ObjOk; conv => whnf) | (unfold okCells; conv => whnf) | (unfold liveTo; conv => whnf) | exact Nat.zero_lt_succ _))
       show Wk (LBn B0) (LBn (B0 ++ memB (fm.take 0)))
       exact Wk.nat' (by simp [memB])
      ·replace hk : k ≤ l.length := hk
       have hmk := hmm k
       (conv => whnf)
       refine split_intro (fun h4 => ?_) (fun h4 => ?_)
       ·have hlt : k < l.length := by have := of_decide_eq_true h4; simp only [List.length_map] at this; omega
        obtain ⟨x, hx⟩ := exI hlt
        obtain ⟨f, hf1, hf2⟩ := hfm k x hx
        have ox := ho x (List.mem_of_getElem? hx)
        have e1 := offP_snoc fm B0.length k hfo hf2
        have e2 := memB_snoc fm k hf2
        have hxd := (hl.d x (List.mem_of_getElem? hx)).2
        have hpl := partB_le (mHdr f x) x.data
        have hof : (offP B0.length (fm.take (k + 1))).length ≤ k + 1 := by rw [offP_len]; exact List.length_take_le _ _
        have e3 : offP B0.length (fm.take k) ++ [(List.map byteD (B0 ++ memB (fm.take k))).length] = offP B0.length (fm.take (k + 1)) := by rw [e1]; simp
        (conv => whnf)
        refine ⟨_, appL (f := eO) (xs := offP B0.length (fm.take k)) (ys := [(List.map byteD (B0 ++ memB (fm.take k))).length]) (zs := offP B0.length (fm.take (k + 1))) rfl rfl (fun _ => rfl) e3 (by show _ * 8 ≤ _; omega), ?_⟩
        (conv => whnf)
        refine ⟨_, ⟨by omega, getMap hf1⟩, ?_⟩
        (conv => whnf)
        refine ⟨_, ⟨by omega, getMap hx⟩, ?_⟩
        (conv => whnf)
        refine ⟨_, ⟨by omega, getMap hx⟩, ?_⟩
        (conv => whnf)
        refine ⟨_, ⟨by omega, getMap hx⟩, ?_⟩
        (conv => whnf)
        refine ⟨_, ⟨by omega, getMap hx⟩, ?_⟩
        (conv => whnf)
        refine ⟨_, ⟨by omega, getMap hx⟩, ?_⟩
        (conv => whnf)
        refine CallLeaf.wa (rpart_ ⟨f, x.time, x.uid, x.gid, x.mode, 0⟩ x.data (hfo1 k _ hf2) ox.t ox.u ox.g ox.o (by omega)) rfl ?_
        (conv => whnf)
        refine CallLeaf.wa (cadd_ (B0 ++ memB (fm.take k)) (partB ⟨f, x.time, x.uid, x.gid, x.mode, 0⟩ x.data) (by have : partB ⟨f, x.time, x.uid, x.gid, x.mode, 0⟩ x.data = partB (mHdr f x) x.data := rfl; rw [this]; simp only [List.length_append]; omega)) rfl ?_
        (conv => whnf)
        refine ⟨_, add64 (c := ((k + 1 : Nat) : Int)) (by (try simp only []); omega) (by omega), ?_⟩
        (conv => whnf)
        refine ⟨k + 1, ⟨hlt, by show l.length - (k + 1) < l.length - k; omega⟩, ?_⟩
        (repeat' (first | exact trivial | exact Wk.refl _ | exact ObWk.refl _ | exact rfl | exact ⟨_, rfl⟩ | exact Nat.zero_lt_one | refine And.intro ?_ ?_ | unfold okTo | (unfold okO; conv => whnf) | (unfold okS; conv => whnf) | (unfold SlotOk; conv => whnf) | (unfold ObjOk; conv => whnf) | (unfold okCells; conv => whnf) | (unfold liveTo; conv => whnf) | exact Nat.zero_lt_succ _))
        show Wk (LBn (B0 ++ memB (fm.take k) ++ partB (mHdr f x) x.data)) (LBn (B0 ++ memB (fm.take (k + 1))))
        exact Wk.nat' (by rw [e2]; simp)
       ·have hge : l.length ≤ k := by have := of_decide_eq_false h4; simp only [List.length_map] at this; omega
        (conv => whnf)
        simp only [List.take_of_length_le (show fm.length ≤ k by omega)]
        exact Wk.refl _
end Go.Proofs.YtenbpnlmpjndgaaGreatDoor.H

namespace Go.Proofs.YtenbpnlmpjndgaaGreatDoor.O
open Go Go.AL Go.AL.Ap
set_option maxRecDepth 100000
set_option maxHeartbeats 8000000
theorem rencodeA_ [Go.AL.MX] (g : Nat) (l : List Ent) (hb : (encB l).length ≤ 1000000000) (hf : l.all fits = true) : FCall Tryz.prog Gl 24 [.sl 0 g 0 l.length] [.arr g 2 (l.map Ent.enc)] (.tuple [LBn (encB l), vI 0]) [.arr g 2 (l.map Ent.enc)] := by
 have hlen := encB_len l
 have hw := wordT_ l.length (by omega)
 have hnm : ∀ e ∈ l, e.1.length ≤ 1000000000 := fun e he => by
  obtain ⟨i, hi⟩ := List.getElem?_of_mem he
  have h1 := nams_take hi
  have h2 := nams_le l (i + 1)
  have : (nams (l.take i) ++ e.1 ++ [0]).length ≤ (nams l).length := by rw [← h1]; exact h2
  simp at this; omega
 refine FCall.enterO hT hmix [] Tryz.func24 rfl rfl rfl fun hbd => ?_
 (conv => whnf)
 refine CallLeaf.oa [529] (hw) rfl rfl rfl rfl ?_
 (conv => whnf)
 refine LWp.loop hT hmix [] (fun k : Nat => [(5, vI k), (4, .list (.tok 529) (B (W4 l.length ++ offs (l.take k))))]) (fun k => [(529, .tok (B (W4 l.length ++ offs (l.take k))).length 1)]) (fun k => k ≤ l.length) (fun k => l.length - k) 0 (Nat.zero_le _) ?_
 (conv => whnf)
 refine ⟨?_, fun k hk => ?_⟩
 ·(repeat' (first | exact trivial | exact Wk.refl _ | exact ObWk.refl _ | exact rfl | exact ⟨_, rfl⟩ | exact Nat.zero_lt_one | refine And.intro ?_ ?_ | unfold okTo | (unfold okO; conv => whnf) | (unfold okS; conv => whnf) | (unfold SlotOk; conv => whnf) | (unfold ObjOk; conv => whnf) | (unfold okCells; conv => whnf) | (unfold liveTo; conv => whnf) | exact Nat.zero_lt_succ _))
 ·replace hk : k ≤ l.length := hk
  have hok : (offs (l.take k)).length ≤ 4 * l.length := by rw [offs_len]; simp; omega
  (conv => whnf)
  refine split_intro (fun h => ?_) (fun h => ?_)
  ·have hlt : k < l.length := by have := of_decide_eq_true h; omega
   obtain ⟨e, he⟩ := exI hlt
   have hf' : fits e = true := List.all_eq_true.1 hf e (List.mem_of_getElem? he)
   obtain ⟨_, _, f3, f4⟩ := fits_iff.1 hf'
   obtain ⟨n, hn⟩ := Int.eq_ofNat_of_zero_le f3
   have hp := word_ n (by omega)
   have RF := rfits_ e (hnm e (List.mem_of_getElem? he))
   rw [hf'] at RF
   have e2 : (W4 l.length ++ offs (l.take k)) ++ W4 n = W4 l.length ++ offs (l.take (k + 1)) := by
    rw [offs_take he, hn]; simp
   have hev : vI e.2 = vI n := by rw [hn]
   rw [← hev] at hp
   (conv => whnf)
   refine ⟨⟨rfl, rfl, by omega, by omega, by rw [List.length_map]; omega⟩, ?_⟩
   (conv => whnf)
   refine ⟨Ent.enc e, ⟨rfl, rfl, by simp [he]⟩, ?_⟩
   (conv => whnf)
   refine CallLeaf.wa (RF) rfl ?_
   (conv => whnf)
   refine ⟨⟨rfl, rfl, by omega, by omega, by rw [List.length_map]; omega⟩, ?_⟩
   (conv => whnf)
   refine ⟨rfl, ?_⟩
   (conv => whnf)
   refine ⟨Ent.enc e, ⟨rfl, rfl, by simp [he]⟩, ?_⟩
   (conv => whnf)
   refine CallLeaf.wa (hp) rfl ?_
   (conv => whnf)
   refine ⟨_, appL (f := byteD) (xs := W4 l.length ++ offs (l.take k)) (ys := W4 n) (zs := W4 l.length ++ offs (l.take (k + 1))) rfl rfl (fun _ => rfl) e2 (by rw [← e2]; simp only [List.length_append, W4_len]; show _ * 1 ≤ _; omega), ?_⟩
   (conv => whnf)
   refine ⟨_, add64 (c := ((k + 1 : Nat) : Int)) (by (try simp only []); omega) (by omega), ?_⟩
   (conv => whnf)
   refine ⟨k + 1, ⟨hlt, by show l.length - (k + 1) < l.length - k; omega⟩, ?_⟩
   (repeat' (first | exact trivial | exact Wk.refl _ | exact ObWk.refl _ | exact rfl | exact ⟨_, rfl⟩ | exact Nat.zero_lt_one | refine And.intro ?_ ?_ | unfold okTo | (unfold okO; conv => whnf) | (unfold okS; conv => whnf) | (unfold SlotOk; conv => whnf) | (unfold ObjOk; conv => whnf) | (unfold okCells; conv => whnf) | (unfold liveTo; conv => whnf) | exact Nat.zero_lt_succ _))
  ·have hge : l.length ≤ k := by have := of_decide_eq_false h; omega
   have ho : l.take k = l := List.take_of_length_le hge
   have hol := offs_len l
   (conv => whnf)
   refine LWp.loop hT hmix [] (fun j : Nat => [(6, vI j), (4, .list (.tok 529) (B (W4 l.length ++ offs (l.take k) ++ nams (l.take j))))]) (fun j => [(529, .tok (B (W4 l.length ++ offs (l.take k) ++ nams (l.take j))).length 1)]) (fun j => j ≤ l.length) (fun j => l.length - j) 0 (Nat.zero_le _) ?_
   (conv => whnf)
   refine ⟨?_, fun j hj => ?_⟩
   ·(repeat' (first | exact trivial | exact Wk.refl _ | exact ObWk.refl _ | exact rfl | exact ⟨_, rfl⟩ | exact Nat.zero_lt_one | refine And.intro ?_ ?_ | unfold okTo | (unfold okO; conv => whnf) | (unfold okS; conv => whnf) | (unfold SlotOk; conv => whnf) | (unfold ObjOk; conv => whnf) | (unfold okCells; conv => whnf) | (unfold liveTo; conv => whnf) | exact Nat.zero_lt_succ _))
    ·exact ObWk.of_eq (by simp [nams])
    ·show Wk (.list (.tok 529) (B (W4 l.length ++ offs (l.take k)))) (.list (.tok 529) (B (W4 l.length ++ offs (l.take k) ++ nams (l.take 0))))
     exact Wk.of_eq (by simp [nams])
   ·replace hj : j ≤ l.length := hj
    have hn1 := nams_le l j
    have hn2 := nams_le l (j + 1)
    (conv => whnf)
    refine split_intro (fun h2 => ?_) (fun h2 => ?_)
    ·have hlt : j < l.length := by have := of_decide_eq_true h2; omega
     obtain ⟨e, he⟩ := exI hlt
     have e3 := nams_take he
     have hle : (nams (l.take j)).length + e.1.length + 1 = (nams (l.take (j + 1))).length := by rw [e3]; simp; omega
     (conv => whnf)
     refine ⟨⟨rfl, rfl, by omega, by omega, by rw [List.length_map]; omega⟩, ?_⟩
     (conv => whnf)
     refine ⟨rfl, ?_⟩
     (conv => whnf)
     refine ⟨Ent.enc e, ⟨rfl, rfl, by simp [he]⟩, ?_⟩
     (conv => whnf)
     refine ⟨_, appL (f := byteD) (xs := W4 l.length ++ offs (l.take k) ++ nams (l.take j)) (ys := e.1) (zs := W4 l.length ++ offs (l.take k) ++ nams (l.take j) ++ e.1) rfl rfl (fun _ => rfl) rfl (by simp only [List.length_append, W4_len]; show _ * 1 ≤ _; omega), ?_⟩
     (conv => whnf)
     refine ⟨_, appL (f := byteD) (xs := W4 l.length ++ offs (l.take k) ++ nams (l.take j) ++ e.1) (ys := [0]) (zs := W4 l.length ++ offs (l.take k) ++ nams (l.take j) ++ e.1 ++ [0]) rfl rfl (fun _ => rfl) rfl (by simp only [List.length_append, W4_len, List.length_singleton]; show _ * 1 ≤ _; omega), ?_⟩
     (conv => whnf)
     refine ⟨_, add64 (c := ((j + 1 : Nat) : Int)) (by (try simp only []); omega) (by omega), ?_⟩
     (conv => whnf)
     have e4 : W4 l.length ++ offs (l.take k) ++ nams (l.take j) ++ e.1 ++ [0] = W4 l.length ++ offs (l.take k) ++ nams (l.take (j + 1)) := by rw [e3]; simp
     refine ⟨j + 1, ⟨hlt, by show l.length - (j + 1) < l.length - j; omega⟩, ?_⟩
     simp only [← e4]
     (repeat' (first | exact trivial | exact Wk.refl _ | exact ObWk.refl _ | exact rfl | exact ⟨_, rfl⟩ | exact Nat.zero_lt_one | refine And.intro ?_ ?_ | unfold okTo | (unfold okO; conv => whnf) | (unfold okS; conv => whnf) | (unfold SlotOk; conv => whnf) | (unfold ObjOk; conv => whnf) | (unfold okCells; conv => whnf) | (unfold liveTo; conv => whnf) | exact Nat.zero_lt_succ _))
    ·have hge2 : l.length ≤ j := by have := of_decide_eq_false h2; omega
     (conv => whnf)
     refine ⟨[0], rfl, by (try unfold pullOk); (repeat' (first | exact trivial | exact ObWk.refl _ | refine And.intro ?_ ?_ | unfold pullOk)), ?_⟩
     (conv => whnf)
     exact Wk.tuple (Wks.cons (Wk.nat' (by rw [ho, List.take_of_length_le hge2]; rfl)) (Wks.cons (Wk.refl _) Wks.nil))
end Go.Proofs.YtenbpnlmpjndgaaGreatDoor.O

namespace Go.Proofs.YtenbpnlmpjndgaaGreatDoor.H
open Go Go.AL Go.AL.Hd Go.AL.Ln Go.AL.Ar Go.AL.Cn
open Go.AL.Sc (Mem LM OkM defsOf)
set_option maxRecDepth 100000
set_option maxHeartbeats 8000000
abbrev eE : Cn.Ent → List D := Ap.Ent.enc
theorem rcomplete_ [Go.AL.MX] (l : List Mem) (hl : FewM l) (ho : ∀ x ∈ l, OkM x) :
  FCall Tryz.prog Gl 20 [LM l] [] (.tuple [LBn (compR l).1, O.LEn (compR l).2.1, .list .nat ((compR l).2.2.1.map eO), vI (compR l).2.2.2]) [] := by
 have F := rfits5_ l ho
 have e0 : (Sc.fitsR l 0).2 ≠ 0 → compR l = ([], [], [], (Sc.fitsR l 0).2) := fun h => if_pos h
 have e1 : (Sc.fitsR l 0).2 = 0 → (∀ x ∈ l, fitM x) := fun h => (fits_iff l 0).1 h
 have hln := hl.n
 have hld := fun m hm => (hl.d m hm).2
 have hfd := few_defs l hld
 revert F e0 e1
 generalize Sc.fitsR l 0 = p
 obtain ⟨a, b⟩ := p
 intro F e0 e1
 refine FCall.enterL hT hmix [21] Tryz.func20 rfl rfl rfl fun hbd => ?_
 (conv => whnf)
 refine CallLeaf.wa (F) rfl ?_
 (conv => whnf)
 refine split_intro (fun h => ?_) (fun h => ?_)
 ·have h' : ¬ b = 0 := by simpa using h
  rw [e0 h']
  (conv => whnf)
  exact Wk.tuple (Wks.cons (Wk.natN rfl) (Wks.cons (Wk.natN rfl) (Wks.cons (Wk.natN rfl) (Wks.cons (Wk.refl _) Wks.nil))))
 ·have h' : b = 0 := by simpa using h
  have hf := e1 h'
  rw [comp_fit hf]
  have hi0 := idx0_size hl
  have hfi := idx0_fit l
  have hN : (idx0 l).length ≤ 20000 := by
   have h2 := idx0_names l
   have h3 : (idx0 l).length = (defsAll l).length := by rw [← h2, List.length_map]
   have := hfd.1; omega
  have hC1 : (idxC l).length = (idx0 l).length := by have := congrArg List.length (idxC_names l); simpa using this
  have hCs : (Ap.encB (idxC l)).length ≤ 100004 := by rw [encB_len _ _ (idxC_names l)]; exact hi0
  have hOl : l.length ≤ (offsC l).length := by rw [offsW_len]; exact Nat.le_refl _
  have hCf : (idxC l).all Ap.fits = true := idx_fit l _ (offsC_le hl)
  have W1 := rwrite_ (hmN l) (Ap.encB (idx0 l)) l hl ho (by omega)
  have W2 := rwrite_ (hmN l) (Ap.encB (idxC l)) l hl ho (by omega)
  rw [wrR_fit hf] at W1 W2
  have E2 := O.rencode_ (idxC l) (by omega)
  have hE2 : O.encR (idxC l) = (Ap.encB (idxC l), 0) := by simp [O.encR, hCf]
  rw [hE2] at E2
  (conv => whnf)
  refine LWp.loop hT hmix [] (fun k : Nat => [(10, vI k), (8, .sl 405 (idx0 (l.take k)).length 0 (idx0 (l.take k)).length), (9, .list (.tok 406) ((ofK l k).map eO))]) (fun k => [(405, .arr (idx0 (l.take k)).length 2 ((idx0 (l.take k)).map eE)), (406, .tok ((ofK l k).map eO).length 1)]) (fun k => k ≤ l.length) (fun k => l.length - k) 0 (Nat.zero_le _) ?_
  (conv => whnf)
  refine ⟨?_, fun k hk => ?_⟩
  ·(repeat' (first | exact trivial | exact Wk.refl _ | exact ObWk.refl _ | exact rfl | exact ⟨_, rfl⟩ | exact Nat.zero_lt_one | refine And.intro ?_ ?_ | unfold okTo | (unfold okO; conv => whnf) | (unfold okS; conv => whnf) | (unfold SlotOk; conv => whnf) | (unfold ObjOk; conv => whnf) | (unfold okCells; conv => whnf) | (unfold liveTo; conv => whnf) | exact Nat.zero_lt_succ _))
  ·replace hk : k ≤ l.length := hk
   (conv => whnf)
   refine split_intro (fun h2 => ?_) (fun h2 => ?_)
   ·have hlt : k < l.length := by have := of_decide_eq_true h2; simp only [List.length_map] at this; omega
    obtain ⟨m, hx⟩ := exI hlt
    have hs1 := idx0_snoc hx
    have hs2 := ofK_snoc hx
    have hs3 := idx0_take_le l (k + 1)
    have hs4 := ofK_len l k hk
    have RD := rdefs_ m.data (by have := hld m (List.mem_of_getElem? hx); omega)
    revert RD hs1 hs2
    generalize defsOf m.data = ds
    intro hs1 hs2 RD
    rw [hs1] at hs3
    simp only [List.length_append, List.length_map] at hs3
    (conv => whnf)
    refine ⟨_, ⟨by omega, getMap hx⟩, ?_⟩
    (conv => whnf)
    refine CallLeaf.wa (RD) rfl ?_
    (conv => whnf)
    refine LWp.loop hT hmix [] (fun x : Nat × List Cn.Ent × List Nat => [(12, vI x.1), (8, .sl 405 x.2.1.length 0 x.2.1.length), (9, .list (.tok 406) (x.2.2.map eO))]) (fun x => [(405, .arr x.2.1.length 2 (x.2.1.map eE)), (406, .tok (x.2.2.map eO).length 1)]) (fun x => x.1 ≤ ds.length ∧ x.2.1 = idx0 (l.take k) ++ (ds.take x.1).map at0 ∧ x.2.2 = ofK l k ++ (ds.take x.1).map fun _ => k) (fun x => ds.length - x.1) (0, idx0 (l.take k), ofK l k) ⟨Nat.zero_le _, by simp, by simp⟩ ?_
    (conv => whnf)
    refine ⟨?_, fun ⟨j, A, B⟩ ⟨hj, hA, hB⟩ => ?_⟩
    ·(repeat' (first | exact trivial | exact Wk.refl _ | exact ObWk.refl _ | exact rfl | exact ⟨_, rfl⟩ | exact Nat.zero_lt_one | refine And.intro ?_ ?_ | unfold okTo | (unfold okO; conv => whnf) | (unfold okS; conv => whnf) | (unfold SlotOk; conv => whnf) | (unfold ObjOk; conv => whnf) | (unfold okCells; conv => whnf) | (unfold liveTo; conv => whnf) | exact Nat.zero_lt_succ _))
    ·replace hj : j ≤ ds.length := hj
     replace hA : A = idx0 (l.take k) ++ (ds.take j).map at0 := hA
     replace hB : B = ofK l k ++ (ds.take j).map fun _ => k := hB
     have hAl : A.length ≤ 20000 := by rw [hA, List.length_append, List.length_map, List.length_take]; omega
     have hBl : B.length ≤ 20000 := by rw [hB, List.length_append, List.length_map, List.length_take]; omega
     (conv => whnf)
     refine split_intro (fun h4 => ?_) (fun h4 => ?_)
     ·have hlt4 : j < ds.length := by have := of_decide_eq_true h4; simp only [List.length_map] at this; omega
      obtain ⟨s, hs⟩ := exI hlt4
      have i1 := inr_take (f := at0) hs (idx0 (l.take k))
      have i2 := inr_take (f := fun _ => k) hs (ofK l k)
      rw [← hA] at i1
      rw [← hB] at i2
      (conv => whnf)
      refine ⟨_, ⟨by omega, getMap hs⟩, ?_⟩
      (conv => whnf)
      refine ⟨(A ++ [at0 s]).map eE, ⟨rfl, rfl, by rw [List.length_map]; omega, by rw [List.drop_zero, List.take_of_length_le (by rw [List.length_map]; exact Nat.le_refl _), List.map_append]; rfl, fun c hc => (by simp at hc; subst hc; rfl), by show (A.length + 1) * 24 ≤ _; omega⟩, ?_⟩
      (conv => whnf)
      refine ⟨_, appL (f := eO) (xs := B) (ys := [k]) (zs := B ++ [k]) rfl rfl (fun _ => rfl) rfl (by rw [List.length_append]; show (_ + 1) * 8 ≤ _; omega), ?_⟩
      (conv => whnf)
      refine ⟨_, add64 (c := ((j + 1 : Nat) : Int)) (by (try simp only []); omega) (by omega), ?_⟩
      (conv => whnf)
      refine ⟨(j + 1, A ++ [at0 s], B ++ [k]), ⟨⟨hlt4, i1, i2⟩, by show ds.length - (j + 1) < ds.length - j; omega⟩, ?_⟩
      have hal : (A ++ [at0 s]).length = A.length + 1 := by simp
      simp only [hal]
      (repeat' (first | exact trivial | exact Wk.refl _ | exact ObWk.refl _ | exact rfl | exact ⟨_, rfl⟩ | exact Nat.zero_lt_one | refine And.intro ?_ ?_ | unfold okTo | (unfold okO; conv => whnf) | (unfold okS; conv => whnf) | (unfold SlotOk; conv => whnf) | (unfold ObjOk; conv => whnf) | (unfold okCells; conv => whnf) | (unfold liveTo; conv => whnf) | exact Nat.zero_lt_succ _))
     ·have hge : ds.length ≤ j := by have := of_decide_eq_false h4; simp only [List.length_map] at this; omega
      rw [List.take_of_length_le hge, ← hs1] at hA
      rw [List.take_of_length_le hge, ← hs2] at hB
      (conv => whnf)
      refine ⟨_, add64 (c := ((k + 1 : Nat) : Int)) (by (try simp only []); omega) (by omega), ?_⟩
      (conv => whnf)
      refine ⟨k + 1, ⟨hlt, by show l.length - (k + 1) < l.length - k; omega⟩, ?_⟩
      rw [hA, hB]
      (repeat' (first | exact trivial | exact Wk.refl _ | exact ObWk.refl _ | exact rfl | exact ⟨_, rfl⟩ | exact Nat.zero_lt_one | refine And.intro ?_ ?_ | unfold okTo | (unfold okO; conv => whnf) | (unfold okS; conv => whnf) | (unfold SlotOk; conv => whnf) | (unfold ObjOk; conv => whnf) | (unfold okCells; conv => whnf) | (unfold liveTo; conv => whnf) | exact Nat.zero_lt_succ _))
   ·have hge : l.length ≤ k := by have := of_decide_eq_false h2; simp only [List.length_map] at this; omega
    obtain rfl : k = l.length := by omega
    (conv => whnf)
    simp only [List.take_length]
    refine CallLeaf.oa [405] (O.rencodeA_ (idx0 l).length (idx0 l) (by omega) hfi) rfl rfl rfl rfl ?_
    (conv => whnf)
    refine CallLeaf.w (ArgsTo.cons (ArgTo.mk' rfl (Wk.bool (gt0 rfl))) (by (repeat' (first | exact ArgsTo.nil | refine ArgsTo.cons ?_ ?_ | exact ArgTo.mk' rfl (Wk.refl _) | exact ArgTo.mk' rfl Wk.nilm | exact ArgTo.mk' rfl (Wk.int (by simp)) | exact ArgTo.mk' rfl (Wk.list _ _) | exact ArgTo.mk' rfl (Wk.agg (by (repeat' (first | exact Wks.nil | refine Wks.cons ?_ ?_ | exact Wk.refl _ | exact Wk.nilm | exact Wk.list _ _  | exact Wk.natN rfl | refine Wk.agg ?_)))))))) (W1) rfl ?_
    (conv => whnf)
    refine LWp.loop hT hmix [] (fun k : Nat => [(18, vI k)]) (fun k => [(405, .arr (idx0 l).length 2 ((mixE (idxC l) (idx0 l) k).map eE))]) (fun k => k ≤ (idx0 l).length) (fun k => (idx0 l).length - k) 0 (Nat.zero_le _) ?_
    (conv => whnf)
    refine ⟨?_, fun k hk => ?_⟩
    ·(repeat' (first | exact trivial | exact Wk.refl _ | exact ObWk.refl _ | exact rfl | exact ⟨_, rfl⟩ | exact Nat.zero_lt_one | refine And.intro ?_ ?_ | unfold okTo | (unfold okO; conv => whnf) | (unfold okS; conv => whnf) | (unfold SlotOk; conv => whnf) | (unfold ObjOk; conv => whnf) | (unfold okCells; conv => whnf) | (unfold liveTo; conv => whnf) | exact Nat.zero_lt_succ _))
    ·replace hk : k ≤ (idx0 l).length := hk
     have hml := mix_len hC1 k
     (conv => whnf)
     refine split_intro (fun h4 => ?_) (fun h4 => ?_)
     ·have hlt4 : k < (idx0 l).length := by have := of_decide_eq_true h4; omega
      obtain ⟨s, i, o, t1, t2, t3, t4⟩ := idx_at hOl hlt4
      have t5 : (mixE (idxC l) (idx0 l) k)[k]? = some (s, 0) := mix_get hC1 t1
      have t6 := mix_set hC1 t4
      (conv => whnf)
      refine ⟨_, ⟨by omega, getMap t2⟩, ?_⟩
      (conv => whnf)
      refine ⟨_, ⟨Int.natCast_nonneg _, getMap t3⟩, ?_⟩
      (conv => whnf)
      refine ⟨⟨rfl, rfl, by omega, by omega, by rw [List.length_map, hml]; omega⟩, ?_⟩
      (conv => whnf)
      refine ⟨rfl, ?_⟩
      (conv => whnf)
      refine ⟨eE (s, 0), (mixE (idxC l) (idx0 l) (k + 1)).map eE, ⟨rfl, rfl, by show ((mixE (idxC l) (idx0 l) k).map eE)[0 + ((k : Nat) : Int).toNat]? = _; rw [Int.toNat_natCast, Nat.zero_add]; exact getMap t5⟩, ⟨by show (2 : Nat) ≤ 2; omega, ?_⟩, ?_⟩
      ·rw [Int.toNat_natCast, Nat.zero_add, ← t6, List.map_set]
       rfl
      ·(conv => whnf)
       refine ⟨_, add64 (c := ((k + 1 : Nat) : Int)) (by (try simp only []); omega) (by omega), ?_⟩
       (conv => whnf)
       refine ⟨k + 1, ⟨hlt4, by show (idx0 l).length - (k + 1) < (idx0 l).length - k; omega⟩, ?_⟩
       (repeat' (first | exact trivial | exact Wk.refl _ | exact ObWk.refl _ | exact rfl | exact ⟨_, rfl⟩ | exact Nat.zero_lt_one | refine And.intro ?_ ?_ | unfold okTo | (unfold okO; conv => whnf) | (unfold okS; conv => whnf) | (unfold SlotOk; conv => whnf) | (unfold ObjOk; conv => whnf) | (unfold okCells; conv => whnf) | (unfold liveTo; conv => whnf) | exact Nat.zero_lt_succ _))
     ·have hge4 : (idx0 l).length ≤ k := by have := of_decide_eq_false h4; omega
      obtain rfl : k = (idx0 l).length := by omega
      have e4 : mixE (idxC l) (idx0 l) (idx0 l).length = idxC l := by
       unfold mixE; rw [List.drop_length, List.append_nil, List.take_of_length_le (by omega)]
      (conv => whnf)
      refine LWp.wk (L := [(8, O.LEn (idxC l)), (16, .list .nat ((offsC l).map eO)), (0, LM l)]) (O := []) ?_ (wpc_sound hT hmix (S := []) _ _ _ _ ?_)
      ·(repeat' (first | exact trivial | exact Wk.refl _ | exact ObWk.refl _ | exact rfl | exact ⟨_, rfl⟩ | exact Nat.zero_lt_one | refine And.intro ?_ ?_ | unfold okTo | (unfold okO; conv => whnf) | (unfold okS; conv => whnf) | (unfold SlotOk; conv => whnf) | (unfold ObjOk; conv => whnf) | (unfold okCells; conv => whnf) | (unfold liveTo; conv => whnf) | exact Nat.zero_lt_succ _))
       ·rw [List.length_map]; omega
       ·omega
       ·show Wk (.list .nat ((((mixE (idxC l) (idx0 l) (idx0 l).length).map eE).drop 0).take (idx0 l).length)) (O.LEn (idxC l))
        exact Wk.of_eq (by rw [List.drop_zero, List.take_of_length_le (by rw [List.length_map]; omega), e4])
      ·(conv => whnf)
       refine CallLeaf.wa (E2) rfl ?_
       (conv => whnf)
       refine CallLeaf.w (ArgsTo.cons (ArgTo.mk' rfl (Wk.bool (gt0 (by rw [List.length_map]; exact hC1)))) (by (repeat' (first | exact ArgsTo.nil | refine ArgsTo.cons ?_ ?_ | exact ArgTo.mk' rfl (Wk.refl _) | exact ArgTo.mk' rfl Wk.nilm | exact ArgTo.mk' rfl (Wk.int (by simp)) | exact ArgTo.mk' rfl (Wk.list _ _) | exact ArgTo.mk' rfl (Wk.agg (by (repeat' (first | exact Wks.nil | refine Wks.cons ?_ ?_ | exact Wk.refl _ | exact Wk.nilm | exact Wk.list _ _  | exact Wk.natN rfl | refine Wk.agg ?_)))))))) (W2) rfl ?_
       (conv => whnf)
       exact Wk.refl _
end Go.Proofs.YtenbpnlmpjndgaaGreatDoor.H

namespace Go.Proofs.YtenbpnlmpjndgaaGreatDoor.H
open Go Go.AL Go.AL.Hd Go.AL.Ln Go.AL.Ar Go.AL.Cn
open Go.AL.Sc (Mem LM OkM defsOf View LD)
set_option maxRecDepth 100000
set_option maxHeartbeats 8000000
abbrev sy0 : Ob.Sym := ⟨[102], 1, 0, 0⟩
abbrev ob0 : Str := Ob.encO ⟨[sy0], []⟩
abbrev meO (ob : Str) : Mem := ⟨[97, 46, 111], 0, 0, 0, 0, ob⟩
theorem ob0_defs : defsOf ob0 = [[102]] := by decide +kernel
theorem ob0_enc : O.encRO' ⟨[sy0], []⟩ = (ob0, 0) := by decide +kernel
theorem ob0_fit : ∀ x ∈ [meO ob0], fitM x := by
 intro x hx
 simp only [List.mem_singleton] at hx
 subst hx
 exact ⟨by decide +kernel, by decide +kernel⟩
theorem me_few {ob : Str} (h : ob.length = 19) : FewM [meO ob] := ⟨by simp, fun m hm => by simp only [List.mem_singleton] at hm; subst hm; exact ⟨by show 3 ≤ 300; omega, by show ob.length ≤ 1000; omega⟩⟩
theorem me_ok {ob : Str} (h : ob.length = 19) : ∀ x ∈ [meO ob], OkM x := fun m hm => by
 simp only [List.mem_singleton] at hm; subst hm
 exact ⟨by show 3 ≤ _; omega, by show ob.length ≤ _; omega, by show (0 : Int) ≤ _; omega, by show (0 : Int) ≤ _; omega, by show (0 : Int) ≤ _; omega, by show (0 : Int) ≤ _; omega⟩
theorem open_magic : openP magic = (viewP [], 0, 0) := by
 rw [openP_ok arcM]; rfl
theorem open_x : openP [120] = (View0, 0, 2) := by
 have e : arcP [120] = (Arc0, 0, 2) := by unfold arcP; rw [if_pos (by decide)]
 exact (aE_of e).1 (by decide)
theorem cawake_ [Go.AL.MX] : FCall Tryz.prog Gl 8 [] [] (vB true) [] := by
 obtain ⟨ob, hob⟩ : ∃ ob, ob = ob0 := ⟨_, rfl⟩
 have hol : ob.length = 19 := by rw [hob]; decide
 have E := O.orencode_ [sy0] [] (by decide) (by decide)
 rw [ob0_enc, ← hob] at E
 have hf := ob0_fit
 have hd := ob0_defs
 rw [← hob] at hf hd
 have hw := me_few hol
 have hk := me_ok hol
 have hS := Small.of hw hf
 have hv : viewP [meO ob] = ⟨[meO ob], [[[102]]]⟩ := by show (⟨[meO ob], [defsOf ob]⟩ : View) = _; rw [hd]
 have hi : idx0 [meO ob] ≠ [] := by
  show (defsOf ob).map _ ++ [] ≠ []
  rw [hd]; simp
 have W := rwrite_ false [] [meO ob] hw hk (by simp)
 rw [wrR_fit hf] at W
 have C := rcomplete_ [meO ob] hw hk
 rw [comp_fit hf] at C
 have o1 := open_bare hS hi
 have o2 := open_comp hS (offsC_le hw)
 rw [hv] at o2
 have l1 := wrP_le2 hw false []
 have l2 := wrP_le2 hw (hmN [meO ob]) (Ap.encB (idxC [meO ob]))
 have l3 : (Ap.encB (idxC [meO ob])).length ≤ 100004 := by rw [encB_len _ _ (idxC_names _)]; exact idx0_size hw
 have P1 := copen_ magic (by decide)
 have P2 := copen_ (wrP false [] [meO ob]) (by simp at l1; omega)
 have P3 := copen_ (compB [meO ob]) (by show (wrP _ _ _).length ≤ _; omega)
 have P4 := copen_ [120] (by decide)
 rw [open_magic] at P1
 rw [o1] at P2
 rw [o2] at P3
 rw [open_x] at P4
 have SV := sameV_ ⟨[meO ob], [[[102]]]⟩ ⟨[meO ob], [[[102]]]⟩
 rw [decide_eq_true rfl, decide_eq_true rfl] at SV
 revert W C P2 P3
 generalize compB [meO ob] = cb
 generalize wrP false [] [meO ob] = wb
 generalize offsC [meO ob] = oc
 generalize idxC [meO ob] = ic
 generalize offsW false [] [meO ob] = ow
 intro W C P2 P3
 refine FCall.enterL hT hmix [] Tryz.func8 rfl rfl rfl fun hbd => ?_
 (conv => whnf)
 refine CallLeaf.wa (E) rfl ?_
 (conv => whnf)
 refine CallLeaf.w (ArgsTo.cons (ArgTo.mk' rfl (Wk.refl _)) (ArgsTo.cons (ArgTo.mk' rfl Wk.nilm) (ArgsTo.cons (ArgTo.mk' rfl (mem_wk .nat [meO ob])) ArgsTo.nil))) W rfl ?_
 (conv => whnf)
 refine CallLeaf.w (ArgsTo.cons (ArgTo.mk' rfl (mem_wk .nat [meO ob])) ArgsTo.nil) C rfl ?_
 (conv => whnf)
 refine CallLeaf.wa (rmagic_) rfl ?_
 (conv => whnf)
 refine CallLeaf.wa (P1) rfl ?_
 (conv => whnf)
 refine CallLeaf.wa (P2) rfl ?_
 (conv => whnf)
 refine CallLeaf.wa (P3) rfl ?_
 (conv => whnf)
 refine CallLeaf.wa (P4) rfl ?_
 (conv => whnf)
 refine CallLeaf.wa (cview_ ([meO ob].map eMn) ([[[102]]].map fun d => [LSn d])) rfl ?_
 (conv => whnf)
 refine CallLeaf.w (ArgsTo.cons (ArgTo.mk' rfl (view_wk ⟨[meO ob], [[[102]]]⟩ _ _)) (ArgsTo.cons (ArgTo.mk' rfl (view_wk ⟨[meO ob], [[[102]]]⟩ _ _)) ArgsTo.nil)) SV rfl ?_
 (conv => whnf)
 exact Wk.refl _
theorem cmatch_ [Go.AL.MX] (b : Str) : FCall Tryz.prog Gl 3 [LB b] [] (vB true) [] := by
 refine FCall.enterL hT hmix [] Tryz.func3 rfl rfl rfl fun hbd => ?_
 (conv => whnf)
 refine CallLeaf.wa (cawake_) rfl ?_
 (conv => whnf)
 refine split_intro (fun h1 => ?_) (fun h1 => ?_)
 ·((conv => whnf); refine CallLeaf.wa (cawake_) rfl ?_; (conv => whnf); exact Wk.refl _)
 ·have h1' : b.length ≤ 20000 := by have := of_decide_eq_false h1; simp only [List.length_map] at this; omega
  have P := copen_ b (by omega)
  have R := ropen_ b (by omega)
  have SV := sameV_ (openP b).1 (openP b).1
  rw [decide_eq_true rfl, decide_eq_true rfl] at SV
  have A := aparse_ b (by omega)
  have hA := okA_arc (b := b) (by omega)
  revert P R SV
  generalize openP b = q
  obtain ⟨⟨vm, vd⟩, n, e⟩ := q
  intro P R SV
  have hE := fun h => arc_err (b := b) h
  obtain ⟨⟨a, k, f⟩, hq⟩ : ∃ q, q = arcP b := ⟨_, rfl⟩
  rw [← hq] at A hA
  have hol : f = 0 → a.os.length = a.ms.length := fun h => by
   obtain ⟨a1, _, s, a3, a4⟩ := arc_ok (b := b) (by rw [← hq]; exact h)
   have := (chain_ok a1 a3).2
   rw [a4] at hq
   injection hq with hq _
   rw [hq]; exact this
  replace hA : f = 0 → OkA a := hA
  (conv => whnf)
  refine CallLeaf.wa (P) rfl ?_
  (conv => whnf)
  refine CallLeaf.wa (R) rfl ?_
  (conv => whnf)
  refine CallLeaf.wa (cview_ (vm.map eMn) (vd.map fun d => [LSn d])) rfl ?_
  (conv => whnf)
  refine CallLeaf.w (ArgsTo.cons (ArgTo.mk' rfl (view_wk ⟨vm, vd⟩ _ _)) (ArgsTo.cons (ArgTo.mk' rfl (view_wk ⟨vm, vd⟩ _ _)) ArgsTo.nil)) SV rfl ?_
  (conv => whnf)
  refine split_intro (fun h => absurd h (by simp)) (fun _ => ?_)
  (conv => whnf)
  refine split_intro (fun h => absurd h (by simp)) (fun _ => ?_)
  (conv => whnf)
  refine CallLeaf.wa (A) rfl ?_
  (conv => whnf)
  refine split_intro (fun h2 => ?_) (fun h2 => ?_)
  ·(conv => whnf)
   exact Wk.bool h2
  ·have h2' : f = 0 := by simpa using h2
   have hl := hol h2'
   have oa := hA h2'
   have I1 := cidx_ a oa
   have I2 := ridx_ a oa
   have C1 := ccheck_ a oa
   have C2 := rcheck_ a oa
   have SE := O.rsame_ (idxP a.ms a.os) (idxP a.ms a.os)
   rw [decide_eq_true rfl] at SE
   obtain ⟨hm, mp, l, os⟩ := a
   replace hl : os.length = l.length := hl
   (conv => whnf)
   refine split_intro (fun h => absurd h (by simp [hl])) (fun _ => ?_)
   (conv => whnf)
   refine CallLeaf.wa (I1) rfl ?_
   (conv => whnf)
   refine CallLeaf.wa (I2) rfl ?_
   (conv => whnf)
   refine CallLeaf.wa (SE) rfl ?_
   (conv => whnf)
   refine CallLeaf.wa (C1) rfl ?_
   (conv => whnf)
   refine CallLeaf.wa (C2) rfl ?_
   (conv => whnf)
   exact Wk.bool (by simp)
abbrev eW (u : UInt8) : List D := [.sq (.int .u8)]
abbrev mW (m : Mem) : List D := [.sq .str, .sq (.int .i64), .sq (.int .i64), .sq (.int .i64), .sq (.int .i64), .slist (m.data.map eW)]
abbrev sW (s : Str) : List D := [.sq .str]
abbrev dW (d : List Str) : List D := [.slist (d.map sW)]
theorem al_Gl [Go.AL.MX] (g : Nat) : Al (.ro (Gl g)) := by
 refine .ro _ ?_
 simp only [Gl]
 split <;> (repeat' (first | exact Al.v _ | exact Al.nil | exact Al.junk | refine Al.map _ (fun _ => ?_) | refine Al.agg _ ?_ | refine Al.tuple _ ?_ | refine Al.cons ?_ ?_ | exact Al.none'))
theorem th_b (c : Bool) (x : Str) : Th c (LBn x) (.slist (x.map eW)) :=
 Th.map _ _ (fun u => (ThL.cons (Th.int _ _) ThL.nil : ThL _ [.v (.int .u8 (u.toNat : Int))] [.sq (.int .u8)]))
theorem th_s (c : Bool) (x : List Str) : Th c (LSn x) (.slist (x.map sW)) :=
 Th.map _ _ (fun u => (ThL.cons (Th.str _) ThL.nil : ThL _ [sD u] [.sq .str]))
theorem th_view (v : View) (n : Nat) (e : Int) : Th false (.tuple [Vn v, vI n, vI e]) (.tuple [.agg [.slist (v.members.map mW), .slist (v.defs.map dW)], vI n, vI e]) := by
 refine Th.tupleL (ThL.cons (Th.aggL (ThL.cons (Th.map _ _ (fun m => ?_)) (ThL.cons (Th.map _ _ (fun d => ?_)) ThL.nil))) (ThL.cons (Th.v _) (ThL.cons (Th.v _) ThL.nil)))
 ·exact (ThL.cons (Th.str _) (ThL.cons (Th.int _ _) (ThL.cons (Th.int _ _) (ThL.cons (Th.int _ _) (ThL.cons (Th.int _ _) (ThL.cons (th_b _ _) ThL.nil))))) : ThL true (eMn m) (mW m))
 ·exact (ThL.cons (th_s _ _) ThL.nil : ThL true [LSn d] (dW d))
theorem copenW_ [Go.AL.MX] (b : Str) (hb : b.length ≤ 1100000) : FCall Tryz.prog Gl 9 [LB b] [] (.tuple [.agg [.slist ((openP b).1.members.map mW), .slist ((openP b).1.defs.map dW)], vI (openP b).2.1, vI (openP b).2.2]) [] :=
 FCall.thaw (copen_ b hb) (by (repeat' (first | exact Al.v _ | exact Al.nil | exact Al.junk | refine Al.map _ (fun _ => ?_) | refine Al.agg _ ?_ | refine Al.tuple _ ?_ | refine Al.cons ?_ ?_ | exact Al.none'))) al_Gl (th_view _ _ _)
theorem open_bd (b : Str) : (openP b).1.members.length ≤ b.length + 60 ∧ ∀ m ∈ (openP b).1.members, m.data.length ≤ b.length := by
 obtain ⟨B1, B2, _⟩ := arc_bd b
 unfold openP
 split
 ·exact ⟨by simp, fun m hm => by simp at hm⟩
 ·split
  ·exact ⟨by simp, fun m hm => by simp at hm⟩
  ·exact ⟨B1, B2⟩
theorem ckeeps_ [Go.AL.MX] (b : Str) : FCall Tryz.prog Gl 6 [LB b] [] (vB true) [] := by
 refine FCall.enterL hT hmix [] Tryz.func6 rfl rfl rfl fun hbd => ?_
 (conv => whnf)
 refine CallLeaf.wa (cawake_) rfl ?_
 (conv => whnf)
 refine split_intro (fun h1 => ?_) (fun h1 => ?_)
 ·((conv => whnf); refine CallLeaf.wa (cawake_) rfl ?_; (conv => whnf); exact Wk.refl _)
 ·have h1' : b.length ≤ 20000 := by have := of_decide_eq_false h1; simp only [List.length_map] at this; omega
  have S1 := O.same_ b b
  rw [decide_eq_true rfl] at S1
  have P := copenW_ b (by omega)
  have B := open_bd b
  revert P B
  generalize openP b = q
  obtain ⟨⟨ms, ds⟩, n, e⟩ := q
  intro P ⟨B1, B2⟩
  replace B1 : ms.length ≤ b.length + 60 := B1
  replace B2 : ∀ m ∈ ms, m.data.length ≤ b.length := B2
  (conv => whnf)
  refine ⟨_, appL (f := byteD) (xs := []) (ys := b) (zs := b) rfl rfl (fun _ => rfl) rfl (by show _ * 1 ≤ _; omega), ?_⟩
  (conv => whnf)
  refine CallLeaf.wa (P) rfl ?_
  (conv => whnf)
  refine LWp.loop hT hmix [] (fun k : Nat => [(7, vI k)]) (fun _ => []) (fun k => k ≤ ms.length) (fun k => ms.length - k) 0 (Nat.zero_le _) ?_
  (conv => whnf)
  refine ⟨?_, fun i hi => ?_⟩
  ·(repeat' (first | exact trivial | exact Wk.refl _ | exact ObWk.refl _ | exact rfl | exact ⟨_, rfl⟩ | exact Nat.zero_lt_one | refine And.intro ?_ ?_ | unfold okTo | (unfold okO; conv => whnf) | (unfold okS; conv => whnf) | (unfold SlotOk; conv => whnf) | (unfold ObjOk; conv => whnf) | (unfold okCells; conv => whnf) | (unfold liveTo; conv => whnf) | exact Nat.zero_lt_succ _))
  ·replace hi : i ≤ ms.length := hi
   (conv => whnf)
   refine split_intro (fun h2 => ?_) (fun h2 => ?_)
   ·have hlt : i < ms.length := by have := of_decide_eq_true h2; simp only [List.length_map] at this; omega
    obtain ⟨m, hm'⟩ := exI hlt
    have hmd := B2 m (List.mem_of_getElem? hm')
    (conv => whnf)
    refine LWp.loop hT hmix [] (fun k : Nat => [(8, vI k)]) (fun _ => []) (fun k => k ≤ m.data.length) (fun k => m.data.length - k) 0 (Nat.zero_le _) ?_
    (conv => whnf)
    refine ⟨?_, fun k hk => ?_⟩
    ·(repeat' (first | exact trivial | exact Wk.refl _ | exact ObWk.refl _ | exact rfl | exact ⟨_, rfl⟩ | exact Nat.zero_lt_one | refine And.intro ?_ ?_ | unfold okTo | (unfold okO; conv => whnf) | (unfold okS; conv => whnf) | (unfold SlotOk; conv => whnf) | (unfold ObjOk; conv => whnf) | (unfold okCells; conv => whnf) | (unfold liveTo; conv => whnf) | exact Nat.zero_lt_succ _))
    ·replace hk : k ≤ m.data.length := hk
     (conv => whnf)
     refine ⟨_, ⟨Int.natCast_nonneg _, getMap hm'⟩, ?_⟩
     (conv => whnf)
     refine split_intro (fun h3 => ?_) (fun h3 => ?_)
     ·have hlt3 : k < m.data.length := by have := of_decide_eq_true h3; simp only [List.length_map] at this; omega
      obtain ⟨y, hy⟩ := exI hlt3
      (conv => whnf)
      refine ⟨_, ⟨Int.natCast_nonneg _, getMap hm'⟩, ?_⟩
      (conv => whnf)
      refine ⟨_, ⟨Int.natCast_nonneg _, getMap hy⟩, ?_⟩
      (conv => whnf)
      refine ⟨_, ⟨Int.natCast_nonneg _, getMap hy⟩, ?_⟩
      (conv => whnf)
      refine ⟨_, add64 (c := ((k + 1 : Nat) : Int)) (by (try simp only []); omega) (by omega), ?_⟩
      (conv => whnf)
      refine ⟨k + 1, ⟨hlt3, by show m.data.length - (k + 1) < m.data.length - k; omega⟩, ?_⟩
      (repeat' (first | exact trivial | exact Wk.refl _ | exact ObWk.refl _ | exact rfl | exact ⟨_, rfl⟩ | exact Nat.zero_lt_one | refine And.intro ?_ ?_ | unfold okTo | (unfold okO; conv => whnf) | (unfold okS; conv => whnf) | (unfold SlotOk; conv => whnf) | (unfold ObjOk; conv => whnf) | (unfold okCells; conv => whnf) | (unfold liveTo; conv => whnf) | exact Nat.zero_lt_succ _))
     ·(conv => whnf)
      refine ⟨_, add64 (c := ((i + 1 : Nat) : Int)) (by (try simp only []); omega) (by omega), ?_⟩
      (conv => whnf)
      refine ⟨i + 1, ⟨hlt, by show ms.length - (i + 1) < ms.length - i; omega⟩, ?_⟩
      (repeat' (first | exact trivial | exact Wk.refl _ | exact ObWk.refl _ | exact rfl | exact ⟨_, rfl⟩ | exact Nat.zero_lt_one | refine And.intro ?_ ?_ | unfold okTo | (unfold okO; conv => whnf) | (unfold okS; conv => whnf) | (unfold SlotOk; conv => whnf) | (unfold ObjOk; conv => whnf) | (unfold okCells; conv => whnf) | (unfold liveTo; conv => whnf) | exact Nat.zero_lt_succ _))
   ·(conv => whnf)
    refine CallLeaf.wa (S1) rfl ?_
    (conv => whnf)
    exact Wk.refl _
end Go.Proofs.YtenbpnlmpjndgaaGreatDoor.H
