/- Scanning. No condition. -/
import Derived.Test.YtfbmknghfhancaaGreatDoorGAc
import Derived.Test.YtfbmknghfhancaaGreatDoorGWd
import Derived.Test.YtfbmknghfhancaaGreatDoorGPa
import Derived.Test.YtfbmknghfhancaaGreatDoorGWa
set_option linter.unusedVariables false
set_option linter.unusedSimpArgs false
namespace Go.Proofs.YtfbmknghfhancaaGreatDoor
open Go Go.AL Go.AL.Bd Go.AL.Tb Go.AL.Sc
set_option maxRecDepth 100000
set_option maxHeartbeats 4000000
theorem keyLaw : WideMaps.KeyLaw Tryz.prog 98 := deep_law (m := 4) (by omega) (by kernel_rfl) (by kernel_rfl) (by kernel_rfl)
theorem tySize : ∃ n, Tryz.prog.types.size = n + 2 := ⟨Tryz.prog.types.size - 2, by kernel_rfl⟩
theorem key_of (f : Str) (i : Nat) (hf : f.length ≤ 100000) (hi : i ≤ 100000) : ∃ l, keyOf Tryz.prog 98 (keyV (f, i)) = some l := by
 have hu := Tryz.underlying98
 have h1 := Tryz.underlying9
 have h2 := Tryz.underlying3
 have hk : Tryz.prog.keyType 98 = true := by kernel_rfl
 have hc : Tryz.prog.cellsOf 98 = 2 := by kernel_rfl
 have hc1 : Tryz.prog.cellsOf 9 = 1 := by kernel_rfl
 have hc2 : Tryz.prog.cellsOf 3 = 1 := by kernel_rfl
 obtain ⟨n, hn⟩ := tySize
 have hsz : (sB f).size ≤ maxLen := by
  have e : (sB f).size = f.length := by simp [sB, ByteArray.size]
  rw [e]; exact Nat.le_trans hf (by decide)
 have hw : (Lit.int .i64 (i : Int)).wf = true := by
  have m1 : IntKind.i64.min = -9223372036854775808 := rfl
  have m2 : IntKind.i64.max = 9223372036854775807 := rfl
  simp only [Lit.wf, m1, m2, Bool.and_eq_true, decide_eq_true_eq]
  omega
 unfold keyOf
 rw [hu]
 simp only [keyV, Value.formed, hu, hk, Value.cells, hn]
 rw [hc]
 have e1 : Tryz.prog.keyLits (n + 2) 9 [Value.string (sB f)] = some [.string f] := by
  unfold Program.keyLits
  simp [h1, hsz]
 have e2 : Tryz.prog.keyLits (n + 2) 3 [Value.int .i64 (i : Int)] = some [.int .i64 (i : Int)] := by
  unfold Program.keyLits
  simp [h2, hw]
 have e3 : Tryz.prog.keyLits (n + 2 + 1) 98 [Value.string (sB f), Value.int .i64 (i : Int)] = some [.string f, .int .i64 (i : Int)] := by
  unfold Program.keyLits
  simp [hu, hc, hc1, hc2, e1, e2]
 rw [e3]
 exact ⟨_, rfl⟩
theorem wkey {f : Str} {i : Nat} (hf : f.length ≤ 1000) (hi : i ≤ 1000) : wideKey Tryz.prog 98 (keyV (f, i)) := ⟨keyLaw, key_of f i (by omega) (by omega)⟩
theorem wkeys {ld : List (Str × Nat)} (h : ∀ p ∈ ld, p.1.length ≤ 1000 ∧ p.2 ≤ 1000) : wideKeys Tryz.prog 98 (kents ld) := fun e he => by
 obtain ⟨p, hp, rfl⟩ := List.mem_map.1 he
 exact key_of p.1 p.2 (by have := h p hp; omega) (by have := h p hp; omega)
theorem keyV_inj {p q : Str × Nat} (h : keyV p = keyV q) : p = q := by
 simp only [keyV, Value.agg.injEq] at h
 have h1 := congrArg Array.toList h
 simp at h1
 exact Prod.ext h1.1 (by omega)
theorem mget_key (p : Str × Nat) : ∀ ld : List (Str × Nat), mgetW (kents ld) (keyV p) = if p ∈ ld then some (vB true) else none
 | [] => rfl
 | q :: ld => by
  have ih := mget_key p ld
  have e : kents (q :: ld) = (keyV q, vB true) :: kents ld := rfl
  rw [e]
  simp only [mgetW, ih]
  by_cases h : q = p
  ·subst h; simp
  ·have h' : ¬ keyV q = keyV p := fun e => h (keyV_inj e)
   rw [if_neg h']
   simp only [List.mem_cons]
   by_cases h2 : p ∈ ld
   ·simp [h2]
   ·have : ¬ (p = q ∨ p ∈ ld) := fun e => e.elim (fun e => h e.symm) h2
    rw [if_neg h2, if_neg this]
theorem mset_key {p : Str × Nat} : ∀ {ld : List (Str × Nat)}, ¬ p ∈ ld → msetW (kents ld) (keyV p) (vB true) = kents (ld ++ [p])
 | [], _ => rfl
 | q :: ld, h => by
  have ih := mset_key (p := p) (ld := ld) fun e => h (by simp [e])
  have e : kents (q :: ld) = (keyV q, vB true) :: kents ld := rfl
  rw [e]
  have h' : ¬ keyV q = keyV p := fun e => h (by rw [keyV_inj e]; simp)
  simp only [msetW, if_neg h', ih]
  rfl
theorem look_key (f : Str) (i : Nat) (ld : List (Str × Nat)) : lookW (kents ld) (.agg [.string (sB f), .int .i64 (i : Int)].toArray) (.bool false) false = vB (decide ((f, i) ∈ ld)) := by
 show (mgetW (kents ld) (keyV (f, i))).getD (vB false) = _
 rw [mget_key]
 by_cases h : (f, i) ∈ ld <;> simp [h]
theorem loadableA_ (us : List Unt) (U : List Use) (n : Nat) (ds : List Str) (hU : U.length ≤ 1000000) : FCall Tryz.prog Gl 56 [.ptr 0 2, LS ds] (As us n (Sy.build U)) (fst1D (fst1 (wd U) ds)) (As us n (Sy.build U)) := by
 refine FCall.enterO hT hmix [] Tryz.func56 rfl rfl rfl fun hbd => ?_
 have ha := bds_list hbd (.tail _ (.head _))
 (conv => whnf)
 refine LWp.loop hT hmix [] (fun k : Nat => [(10, vI k)]) (fun _ => []) (fun k => k ≤ ds.length ∧ ∀ x ∈ ds.take k, ¬ wd U x = true) (fun k => ds.length - k) 0 ⟨Nat.zero_le _, by simp⟩ ?_
 (conv => whnf)
 refine ⟨?_, fun k ⟨hk, hkk⟩ => ?_⟩
 ·(repeat' (first | exact trivial | exact Wk.refl _ | exact ObWk.refl _ | exact rfl | exact ⟨_, rfl⟩ | exact Nat.zero_lt_one | refine And.intro ?_ ?_ | unfold okTo | (unfold okO; conv => whnf) | (unfold okS; conv => whnf) | (unfold SlotOk; conv => whnf) | (unfold ObjOk; conv => whnf) | (unfold okCells; conv => whnf) | (unfold liveTo; conv => whnf) | exact Nat.zero_lt_succ _))
 ·(conv => whnf)
  refine split_intro (fun h => ?_) (fun h => ?_)
  ·have hlt : k < ds.length := by have := of_decide_eq_true h; simp at this; omega
   obtain ⟨s, hs⟩ := exI hlt
   (conv => whnf)
   refine ⟨_, ⟨by omega, getMap hs⟩, ?_⟩
   (conv => whnf)
   refine CallLeaf.oa [0, 1, 2] (tstateA_ us U n s hU) rfl rfl rfl rfl ?_
   (conv => whnf)
   refine CallLeaf.wa (wanted_ (all (Sy.of U s))) rfl ?_
   (conv => whnf)
   refine split_intro (fun hp => ?_) (fun hp => ?_)
   ·rw [fst1_at hs hp hkk]
    (conv => whnf)
    refine ⟨[0, 1, 2], rfl, by (try unfold pullOk); (repeat' (first | exact trivial | exact ObWk.refl _ | refine And.intro ?_ ?_ | unfold pullOk)), ?_⟩
    exact Wk.refl _
   ·(conv => whnf)
    refine ⟨_, add64 (c := ((k + 1 : Nat) : Int)) (by (try simp only []); omega) (by omega), ?_⟩
    (conv => whnf)
    refine ⟨k + 1, ⟨⟨by omega, step_not hs (by rw [wd, hp]; simp) hkk⟩, by simp only []; omega⟩, ?_⟩
    (repeat' (first | exact trivial | exact Wk.refl _ | exact ObWk.refl _ | exact rfl | exact ⟨_, rfl⟩ | exact Nat.zero_lt_one | refine And.intro ?_ ?_ | unfold okTo | (unfold okO; conv => whnf) | (unfold okS; conv => whnf) | (unfold SlotOk; conv => whnf) | (unfold ObjOk; conv => whnf) | (unfold okCells; conv => whnf) | (unfold liveTo; conv => whnf) | exact Nat.zero_lt_succ _))
  ·have hge : ds.length ≤ k := by have := of_decide_eq_false h; simp at this; omega
   rw [List.take_of_length_le hge] at hkk
   rw [fst1_none hkk]
   (conv => whnf)
   refine ⟨[0, 1, 2], rfl, by (try unfold pullOk); (repeat' (first | exact trivial | exact ObWk.refl _ | refine And.intro ?_ ?_ | unfold pullOk)), ?_⟩
   exact Wk.refl _
theorem loadableB_ (us : List Unt) (ld : List (Str × Nat)) (U : List Use) (n : Nat) (ds : List Str) (hU : U.length ≤ 1000000) : FCall Tryz.prog Gl 56 [.ptr 0 2, LS ds] (Bs us ld n (Sy.build U)) (fst1D (fst1 (wd U) ds)) (Bs us ld n (Sy.build U)) := by
 refine FCall.enterO hT hmix [] Tryz.func56 rfl rfl rfl fun hbd => ?_
 have ha := bds_list hbd (.tail _ (.head _))
 (conv => whnf)
 refine LWp.loop hT hmix [] (fun k : Nat => [(10, vI k)]) (fun _ => []) (fun k => k ≤ ds.length ∧ ∀ x ∈ ds.take k, ¬ wd U x = true) (fun k => ds.length - k) 0 ⟨Nat.zero_le _, by simp⟩ ?_
 (conv => whnf)
 refine ⟨?_, fun k ⟨hk, hkk⟩ => ?_⟩
 ·(repeat' (first | exact trivial | exact Wk.refl _ | exact ObWk.refl _ | exact rfl | exact ⟨_, rfl⟩ | exact Nat.zero_lt_one | refine And.intro ?_ ?_ | unfold okTo | (unfold okO; conv => whnf) | (unfold okS; conv => whnf) | (unfold SlotOk; conv => whnf) | (unfold ObjOk; conv => whnf) | (unfold okCells; conv => whnf) | (unfold liveTo; conv => whnf) | exact Nat.zero_lt_succ _))
 ·(conv => whnf)
  refine split_intro (fun h => ?_) (fun h => ?_)
  ·have hlt : k < ds.length := by have := of_decide_eq_true h; simp at this; omega
   obtain ⟨s, hs⟩ := exI hlt
   (conv => whnf)
   refine ⟨_, ⟨by omega, getMap hs⟩, ?_⟩
   (conv => whnf)
   refine CallLeaf.oa [0, 1, 2, 3] (tstateB_ us ld U n s hU) rfl rfl rfl rfl ?_
   (conv => whnf)
   refine CallLeaf.wa (wanted_ (all (Sy.of U s))) rfl ?_
   (conv => whnf)
   refine split_intro (fun hp => ?_) (fun hp => ?_)
   ·rw [fst1_at hs hp hkk]
    (conv => whnf)
    refine ⟨[0, 1, 2, 3], rfl, by (try unfold pullOk); (repeat' (first | exact trivial | exact ObWk.refl _ | refine And.intro ?_ ?_ | unfold pullOk)), ?_⟩
    exact Wk.refl _
   ·(conv => whnf)
    refine ⟨_, add64 (c := ((k + 1 : Nat) : Int)) (by (try simp only []); omega) (by omega), ?_⟩
    (conv => whnf)
    refine ⟨k + 1, ⟨⟨by omega, step_not hs (by rw [wd, hp]; simp) hkk⟩, by simp only []; omega⟩, ?_⟩
    (repeat' (first | exact trivial | exact Wk.refl _ | exact ObWk.refl _ | exact rfl | exact ⟨_, rfl⟩ | exact Nat.zero_lt_one | refine And.intro ?_ ?_ | unfold okTo | (unfold okO; conv => whnf) | (unfold okS; conv => whnf) | (unfold SlotOk; conv => whnf) | (unfold ObjOk; conv => whnf) | (unfold okCells; conv => whnf) | (unfold liveTo; conv => whnf) | exact Nat.zero_lt_succ _))
  ·have hge : ds.length ≤ k := by have := of_decide_eq_false h; simp at this; omega
   rw [List.take_of_length_le hge] at hkk
   rw [fst1_none hkk]
   (conv => whnf)
   refine ⟨[0, 1, 2, 3], rfl, by (try unfold pullOk); (repeat' (first | exact trivial | exact ObWk.refl _ | refine And.intro ?_ ?_ | unfold pullOk)), ?_⟩
   exact Wk.refl _
theorem loadableZ_ (ds : List Str) : FCall Tryz.prog Gl 56 [.ptr 0 2, LS ds] Zs (fst1D none) Zs := by
 refine FCall.enterO hT hmix [] Tryz.func56 rfl rfl rfl fun hbd => ?_
 have ha := bds_list hbd (.tail _ (.head _))
 (conv => whnf)
 refine LWp.loop hT hmix [] (fun k : Nat => [(10, vI k)]) (fun _ => []) (fun k => k ≤ ds.length) (fun k => ds.length - k) 0 (Nat.zero_le _) ?_
 (conv => whnf)
 refine ⟨?_, fun k hk => ?_⟩
 ·(repeat' (first | exact trivial | exact Wk.refl _ | exact ObWk.refl _ | exact rfl | exact ⟨_, rfl⟩ | exact Nat.zero_lt_one | refine And.intro ?_ ?_ | unfold okTo | (unfold okO; conv => whnf) | (unfold okS; conv => whnf) | (unfold SlotOk; conv => whnf) | (unfold ObjOk; conv => whnf) | (unfold okCells; conv => whnf) | (unfold liveTo; conv => whnf) | exact Nat.zero_lt_succ _))
 ·(conv => whnf)
  refine split_intro (fun h => ?_) (fun h => ?_)
  ·have hlt : k < ds.length := by have := of_decide_eq_true h; simp at this; omega
   obtain ⟨s, hs⟩ := exI hlt
   (conv => whnf)
   refine ⟨_, ⟨by omega, getMap hs⟩, ?_⟩
   (conv => whnf)
   refine CallLeaf.oa [0] (tstateZ_ s) rfl rfl rfl rfl ?_
   (conv => whnf)
   refine CallLeaf.wa (wanted_ empty) rfl ?_
   (conv => whnf)
   refine ⟨_, add64 (c := ((k + 1 : Nat) : Int)) (by (try simp only []); omega) (by omega), ?_⟩
   (conv => whnf)
   refine ⟨k + 1, ⟨by omega, by simp only []; omega⟩, ?_⟩
   (repeat' (first | exact trivial | exact Wk.refl _ | exact ObWk.refl _ | exact rfl | exact ⟨_, rfl⟩ | exact Nat.zero_lt_one | refine And.intro ?_ ?_ | unfold okTo | (unfold okO; conv => whnf) | (unfold okS; conv => whnf) | (unfold SlotOk; conv => whnf) | (unfold ObjOk; conv => whnf) | (unfold okCells; conv => whnf) | (unfold liveTo; conv => whnf) | exact Nat.zero_lt_succ _))
  ·(conv => whnf)
   refine ⟨[0], rfl, by (try unfold pullOk); (repeat' (first | exact trivial | exact ObWk.refl _ | refine And.intro ?_ ?_ | unfold pullOk)), ?_⟩
   exact Wk.refl _
abbrev vD (v : View) : D := .agg v.enc
theorem sloadZ_ (f : Str) (v : View) (i : Nat) (hf : f.length ≤ 1000) (hi : i ≤ 1000) : FCall Tryz.prog Gl 38 [.ptr 0 0, sD f, vD v, vI i] Zs (vB false) Zs := by
 refine FCall.enterO hT hmix [] Tryz.func38 rfl rfl rfl fun hbd => ?_
 (conv => whnf)
 refine ⟨wkey hf hi, ?_⟩
 (conv => whnf)
 refine ⟨_, look_key f i [], ?_⟩
 (conv => whnf)
 refine split_intro (fun h => ?_) (fun h => ?_)
 ·(conv => whnf)
  refine ⟨[0], rfl, by (try unfold pullOk); (repeat' (first | exact trivial | exact ObWk.refl _ | refine And.intro ?_ ?_ | unfold pullOk)), ?_⟩
  exact Wk.refl _
 ·have hlt : i < v.defs.length := by have := of_decide_eq_false h; rw [List.length_map] at this; omega
  obtain ⟨d, hd⟩ := exI hlt
  (conv => whnf)
  refine ⟨_, ⟨by omega, getMap hd⟩, ?_⟩
  (conv => whnf)
  refine CallLeaf.oa [0] (loadableZ_ d) rfl rfl rfl rfl ?_
  (conv => whnf)
  refine ⟨[0], rfl, by (try unfold pullOk); (repeat' (first | exact trivial | exact ObWk.refl _ | refine And.intro ?_ ?_ | unfold pullOk)), ?_⟩
  exact Wk.refl _
theorem can_get {S : Ls} {f : Str} {v : View} {i : Nat} {d : List Str} (hd : v.defs[i]? = some d) (hn : ¬ (f, i) ∈ S.ld) : can S f v i = (fst1 (wd (Us S.os)) d).isSome := by
 have hlt := (List.getElem?_eq_some_iff.1 hd).1
 unfold can
 rw [decide_eq_false hn, decide_eq_true hlt, fst1_is]
 simp [List.getD, hd]
theorem can_in {S : Ls} {f : Str} {v : View} {i : Nat} (h : (f, i) ∈ S.ld) : can S f v i = false := by simp [can, h]
theorem can_out {S : Ls} {f : Str} {v : View} {i : Nat} (h : ¬ i < v.defs.length) : can S f v i = false := by simp [can, h]
theorem sloadA_ (us : List Unt) (os : List Ob.Obj) (f : Str) (v : View) (i : Nat) (hf : f.length ≤ 1000) (hi : i ≤ 1000) (hU : (Us os).length ≤ 1000000) :
  FCall Tryz.prog Gl 38 [.ptr 0 0, sD f, vD v, vI i] (As us os.length (Sy.build (Us os))) (vB (can ⟨us, os, []⟩ f v i)) (As us os.length (Sy.build (Us os))) := by
 refine FCall.enterO hT hmix [] Tryz.func38 rfl rfl rfl fun hbd => ?_
 (conv => whnf)
 refine ⟨wkey hf hi, ?_⟩
 (conv => whnf)
 refine ⟨_, look_key f i [], ?_⟩
 (conv => whnf)
 refine split_intro (fun h => ?_) (fun h => ?_)
 ·have h' : ¬ i < v.defs.length := by have := of_decide_eq_true h; rw [List.length_map] at this; omega
  rw [can_out h']
  (conv => whnf)
  refine ⟨[0, 1, 2], rfl, by (try unfold pullOk); (repeat' (first | exact trivial | exact ObWk.refl _ | refine And.intro ?_ ?_ | unfold pullOk)), ?_⟩
  exact Wk.refl _
 ·have hlt : i < v.defs.length := by have := of_decide_eq_false h; rw [List.length_map] at this; omega
  obtain ⟨d, hd⟩ := exI hlt
  rw [can_get hd (by simp)]
  (conv => whnf)
  refine ⟨_, ⟨by omega, getMap hd⟩, ?_⟩
  (conv => whnf)
  refine CallLeaf.oa [0, 1, 2] (loadableA_ us (Us os) os.length d hU) rfl rfl rfl rfl ?_
  (conv => whnf)
  refine ⟨[0, 1, 2], rfl, by (try unfold pullOk); (repeat' (first | exact trivial | exact ObWk.refl _ | refine And.intro ?_ ?_ | unfold pullOk)), ?_⟩
  exact Wk.refl _
theorem sloadB_ (us : List Unt) (os : List Ob.Obj) (ld : List (Str × Nat)) (f : Str) (v : View) (i : Nat) (hf : f.length ≤ 1000) (hi : i ≤ 1000) (hU : (Us os).length ≤ 1000000) (hld : ∀ p ∈ ld, p.1.length ≤ 1000 ∧ p.2 ≤ 1000) :
  FCall Tryz.prog Gl 38 [.ptr 0 0, sD f, vD v, vI i] (Bs us ld os.length (Sy.build (Us os))) (vB (can ⟨us, os, ld⟩ f v i)) (Bs us ld os.length (Sy.build (Us os))) := by
 refine FCall.enterO hT hmix [] Tryz.func38 rfl rfl rfl fun hbd => ?_
 (conv => whnf)
 refine ⟨wkey hf hi, ?_⟩
 (conv => whnf)
 refine ⟨_, ⟨wkeys hld, look_key f i ld⟩, ?_⟩
 (conv => whnf)
 refine split_intro (fun h0 => ?_) (fun h0 => ?_)
 ·rw [can_in (by simpa using h0)]
  (conv => whnf)
  refine ⟨[0, 1, 2, 3], rfl, by (try unfold pullOk); (repeat' (first | exact trivial | exact ObWk.refl _ | refine And.intro ?_ ?_ | unfold pullOk)), ?_⟩
  exact Wk.refl _
 ·have h0' : ¬ (f, i) ∈ ld := of_decide_eq_false h0
  (conv => whnf)
  refine split_intro (fun h => ?_) (fun h => ?_)
  ·have h' : ¬ i < v.defs.length := by have := of_decide_eq_true h; rw [List.length_map] at this; omega
   rw [can_out h']
   (conv => whnf)
   refine ⟨[0, 1, 2, 3], rfl, by (try unfold pullOk); (repeat' (first | exact trivial | exact ObWk.refl _ | refine And.intro ?_ ?_ | unfold pullOk)), ?_⟩
   exact Wk.refl _
  ·have hlt : i < v.defs.length := by have := of_decide_eq_false h; rw [List.length_map] at this; omega
   obtain ⟨d, hd⟩ := exI hlt
   rw [can_get hd h0']
   (conv => whnf)
   refine ⟨_, ⟨by omega, getMap hd⟩, ?_⟩
   (conv => whnf)
   refine CallLeaf.oa [0, 1, 2, 3] (loadableB_ us ld (Us os) os.length d hU) rfl rfl rfl rfl ?_
   (conv => whnf)
   refine ⟨[0, 1, 2, 3], rfl, by (try unfold pullOk); (repeat' (first | exact trivial | exact ObWk.refl _ | refine And.intro ?_ ?_ | unfold pullOk)), ?_⟩
   exact Wk.refl _
theorem okO_B {o : Ob.Obj} (h : OkO o) : ∀ s ∈ o.syms, 1 ≤ s.bind ∧ s.bind ≤ 5 := fun s hs => by have := h.ok s hs; omega
theorem Us_snoc (os : List Ob.Obj) (o : Ob.Obj) : Us (os ++ [o]) = Us os ++ Sy.uses os.length o.syms := by rw [Us, usesL_snoc, Nat.zero_add]
theorem loadZ_ (u : Unt) (o : Ob.Obj) (ho : OkO o) : FCall Tryz.prog Gl 46 [.ptr 0 0, .agg u.enc, oD2 o] Zs (vI 0) (As [u] 1 (Sy.build (Us [o]))) := by
 have hU : Us [o] = Sy.uses 0 o.syms := by simp [Us, usesL]
 rw [hU]
 have A := tloadY_ [u] o.syms o.body (okO_B ho) (by have := ho.n; omega)
 refine FCall.enterO hT hmix [] Tryz.func46 rfl rfl rfl fun hbd => ?_
 (conv => whnf)
 refine ⟨_, appN (f := Unt.enc) (ys := [u]) (fun _ => rfl) (by show 1 * 40 ≤ _; decide), ?_⟩
 (conv => whnf)
 refine CallLeaf.oa [0, 569, 1057] (A) rfl rfl rfl rfl ?_
 (conv => whnf)
 refine ⟨[0, 569, 1057], rfl, by (try unfold pullOk); (repeat' (first | exact trivial | exact ObWk.refl _ | refine And.intro ?_ ?_ | unfold pullOk)), ?_⟩
 exact Wk.refl _
theorem loadA_ (us : List Unt) (os : List Ob.Obj) (u : Unt) (o : Ob.Obj) (hus : us.length ≤ 100000) (hok : OkL os) (ho : OkO o) :
  FCall Tryz.prog Gl 46 [.ptr 0 0, .agg u.enc, oD2 o] (As us os.length (Sy.build (Us os))) (vI os.length) (As (us ++ [u]) (os.length + 1) (Sy.build (Us (os ++ [o])))) := by
 rw [Us_snoc]
 have hle := hok.le
 have hln := hok.len
 have A := tloadA_ (us ++ [u]) (Us os) os.length o.syms o.body hok.okB (okO_B ho) (by have := ho.n; omega) (by omega)
 refine FCall.enterO hT hmix [] Tryz.func46 rfl rfl rfl fun hbd => ?_
 (conv => whnf)
 refine ⟨_, appL (f := Unt.enc) (xs := us) (ys := [u]) (zs := us ++ [u]) rfl rfl (fun _ => rfl) rfl (by rw [List.length_append]; show (_ + 1) * 40 ≤ _; omega), ?_⟩
 (conv => whnf)
 refine CallLeaf.oa [0, 1, 2] (A) rfl rfl rfl rfl ?_
 (conv => whnf)
 refine ⟨[0, 1, 2], rfl, by (try unfold pullOk); (repeat' (first | exact trivial | exact ObWk.refl _ | refine And.intro ?_ ?_ | unfold pullOk)), ?_⟩
 exact Wk.refl _
theorem loadB_ (us : List Unt) (os : List Ob.Obj) (ld : List (Str × Nat)) (u : Unt) (o : Ob.Obj) (hus : us.length ≤ 100000) (hok : OkL os) (ho : OkO o) :
  FCall Tryz.prog Gl 46 [.ptr 0 0, .agg u.enc, oD2 o] (Bs us ld os.length (Sy.build (Us os))) (vI os.length) (Bs (us ++ [u]) ld (os.length + 1) (Sy.build (Us (os ++ [o])))) := by
 rw [Us_snoc]
 have hle := hok.le
 have hln := hok.len
 have A := tloadB_ (us ++ [u]) ld (Us os) os.length o.syms o.body hok.okB (okO_B ho) (by have := ho.n; omega) (by omega)
 refine FCall.enterO hT hmix [] Tryz.func46 rfl rfl rfl fun hbd => ?_
 (conv => whnf)
 refine ⟨_, appL (f := Unt.enc) (xs := us) (ys := [u]) (zs := us ++ [u]) rfl rfl (fun _ => rfl) rfl (by rw [List.length_append]; show (_ + 1) * 40 ≤ _; omega), ?_⟩
 (conv => whnf)
 refine CallLeaf.oa [0, 1, 2, 3] (A) rfl rfl rfl rfl ?_
 (conv => whnf)
 refine ⟨[0, 1, 2, 3], rfl, by (try unfold pullOk); (repeat' (first | exact trivial | exact ObWk.refl _ | refine And.intro ?_ ?_ | unfold pullOk)), ?_⟩
 exact Wk.refl _
theorem objectN_ (f : Str) (o : Ob.Obj) : FCall Tryz.prog Gl 34 [pN, sD f, oD2 o] [] (vI (-1)) [] := by
 refine FCall.enterL hT hmix [] Tryz.func34 rfl rfl rfl fun hbd => ?_
 (conv => whnf)
 exact Wk.refl _
theorem objectZ_ (f : Str) (o : Ob.Obj) (ho : OkO o) : FCall Tryz.prog Gl 34 [.ptr 0 0, sD f, oD2 o] Zs (vI 0) (As [⟨f, [], 0⟩] 1 (Sy.build (Us [o]))) := by
 refine FCall.enterO hT hmix [] Tryz.func34 rfl rfl rfl fun hbd => ?_
 (conv => whnf)
 refine CallLeaf.oa [0, 1569, 1570] (loadZ_ ⟨f, [], 0⟩ o ho) rfl rfl rfl rfl ?_
 (conv => whnf)
 refine ⟨[0, 1569, 1570], rfl, by (try unfold pullOk); (repeat' (first | exact trivial | exact ObWk.refl _ | refine And.intro ?_ ?_ | unfold pullOk)), ?_⟩
 exact Wk.refl _
theorem objectA_ (us : List Unt) (os : List Ob.Obj) (f : Str) (o : Ob.Obj) (hus : us.length ≤ 100000) (hok : OkL os) (ho : OkO o) :
  FCall Tryz.prog Gl 34 [.ptr 0 0, sD f, oD2 o] (As us os.length (Sy.build (Us os))) (vI os.length) (As (us ++ [⟨f, [], 0⟩]) (os.length + 1) (Sy.build (Us (os ++ [o])))) := by
 refine FCall.enterO hT hmix [] Tryz.func34 rfl rfl rfl fun hbd => ?_
 (conv => whnf)
 refine CallLeaf.oa [0, 1, 2] (loadA_ us os ⟨f, [], 0⟩ o hus hok ho) rfl rfl rfl rfl ?_
 (conv => whnf)
 refine ⟨[0, 1, 2], rfl, by (try unfold pullOk); (repeat' (first | exact trivial | exact ObWk.refl _ | refine And.intro ?_ ?_ | unfold pullOk)), ?_⟩
 exact Wk.refl _
theorem objectB_ (us : List Unt) (os : List Ob.Obj) (ld : List (Str × Nat)) (f : Str) (o : Ob.Obj) (hus : us.length ≤ 100000) (hok : OkL os) (ho : OkO o) :
  FCall Tryz.prog Gl 34 [.ptr 0 0, sD f, oD2 o] (Bs us ld os.length (Sy.build (Us os))) (vI os.length) (Bs (us ++ [⟨f, [], 0⟩]) ld (os.length + 1) (Sy.build (Us (os ++ [o])))) := by
 refine FCall.enterO hT hmix [] Tryz.func34 rfl rfl rfl fun hbd => ?_
 (conv => whnf)
 refine CallLeaf.oa [0, 1, 2, 3] (loadB_ us os ld ⟨f, [], 0⟩ o hus hok ho) rfl rfl rfl rfl ?_
 (conv => whnf)
 refine ⟨[0, 1, 2, 3], rfl, by (try unfold pullOk); (repeat' (first | exact trivial | exact ObWk.refl _ | refine And.intro ?_ ?_ | unfold pullOk)), ?_⟩
 exact Wk.refl _
abbrev stO (S : Ls) : List AObj := match S.ld with
 | [] => As S.us S.os.length (Sy.build (Us S.os))
 | p :: r => Bs S.us (p :: r) S.os.length (Sy.build (Us S.os))
abbrev stSo (q : Nat) (S : Ls) : So := match S.ld with
 | [] => [(0, .cells [.list (.tok 1) (S.us.map Unt.enc), mN, vI S.os.length, .map 2]), (1, tokU S.us), (2, .map (Sy.ents (Sy.build (Us S.os))))]
 | p :: r => [(0, .cells [.list (.tok 1) (S.us.map Unt.enc), .map q, vI S.os.length, .map 2]), (1, tokU S.us), (2, .map (Sy.ents (Sy.build (Us S.os)))), (q, .map (kents (p :: r)))]
theorem passN_ (f : Str) (v : View) : FCall Tryz.prog Gl 20 [pN, sD f, vD v] [] (vI 0) [] := by
 refine FCall.enterL hT hmix [] Tryz.func20 rfl rfl rfl fun hbd => ?_
 (conv => whnf)
 exact Wk.refl _
theorem passZ_ (f : Str) (v : View) (hf : f.length ≤ 1000) (hv : v.members.length ≤ 1000) : FCall Tryz.prog Gl 20 [.ptr 0 0, sD f, vD v] Zs (vI 0) Zs := by
 refine FCall.enterO hT hmix [] Tryz.func20 rfl rfl rfl fun hbd => ?_
 (conv => whnf)
 refine LWp.loop hT hmix [] (fun k : Nat => [(17, vI k), (7, vI 0)]) (fun _ => []) (fun k => k ≤ v.members.length) (fun k => v.members.length - k) 0 (Nat.zero_le _) ?_
 (conv => whnf)
 refine ⟨?_, fun k hk => ?_⟩
 ·(repeat' (first | exact trivial | exact Wk.refl _ | exact ObWk.refl _ | exact rfl | exact ⟨_, rfl⟩ | exact Nat.zero_lt_one | refine And.intro ?_ ?_ | unfold okTo | (unfold okO; conv => whnf) | (unfold okS; conv => whnf) | (unfold SlotOk; conv => whnf) | (unfold ObjOk; conv => whnf) | (unfold okCells; conv => whnf) | (unfold liveTo; conv => whnf) | exact Nat.zero_lt_succ _))
 ·(conv => whnf)
  refine split_intro (fun h => ?_) (fun h => ?_)
  ·have hlt : k < v.members.length := by have := of_decide_eq_true h; rw [List.length_map] at this; omega
   obtain ⟨m, hm⟩ := exI hlt
   (conv => whnf)
   refine ⟨_, ⟨by omega, getMap hm⟩, ?_⟩
   (conv => whnf)
   refine CallLeaf.oa [0] (sloadZ_ f v k hf (by omega)) rfl rfl rfl rfl ?_
   (conv => whnf)
   refine ⟨_, add64 (c := ((k + 1 : Nat) : Int)) (by (try simp only []); omega) (by omega), ?_⟩
   (conv => whnf)
   refine ⟨k + 1, ⟨by omega, by simp only []; omega⟩, ?_⟩
   (repeat' (first | exact trivial | exact Wk.refl _ | exact ObWk.refl _ | exact rfl | exact ⟨_, rfl⟩ | exact Nat.zero_lt_one | refine And.intro ?_ ?_ | unfold okTo | (unfold okO; conv => whnf) | (unfold okS; conv => whnf) | (unfold SlotOk; conv => whnf) | (unfold ObjOk; conv => whnf) | (unfold okCells; conv => whnf) | (unfold liveTo; conv => whnf) | exact Nat.zero_lt_succ _))
  ·(conv => whnf)
   refine ⟨[0], rfl, by (try unfold pullOk); (repeat' (first | exact trivial | exact ObWk.refl _ | refine And.intro ?_ ?_ | unfold pullOk)), ?_⟩
   exact Wk.refl _
theorem dec_eq (b : List UInt8) : O.encRO (Ob.decO b) = dec b := by
 unfold O.encRO dec
 cases Ob.decO b with
 | error e => rfl
 | ok p => obtain ⟨l, x⟩ := p; rfl
theorem passA_ (f : Str) (v : View) (us : List Unt) (os : List Ob.Obj) (w : Nat) (hw : w + v.members.length ≤ 300) (ok : OkS ⟨us, os, []⟩ w) (hv : OkV v) (hf : f.length ≤ 1000) :
  FCall Tryz.prog Gl 20 [.ptr 0 0, sD f, vD v] (As us os.length (Sy.build (Us os))) (vI (pass f v ⟨us, os, []⟩).2) (stO (pass f v ⟨us, os, []⟩).1) := by
 have hvn := hv.n
 refine FCall.enterO hT hmix [] Tryz.func20 rfl rfl rfl fun hbd => ?_
 (conv => whnf)
 refine LWp.loop hT hmix [] (fun x : Nat × Ls × Nat => [(17, vI x.1), (7, vI x.2.2)]) (fun x => stSo 4619 x.2.1) (fun x => x.1 ≤ v.members.length ∧ x.2 = passN f v x.1 ⟨us, os, []⟩) (fun x => v.members.length - x.1) (0, ⟨us, os, []⟩, 0) ⟨Nat.zero_le _, rfl⟩ ?_
 (conv => whnf)
 refine ⟨?_, fun ⟨k, ⟨us1, os1, ld1⟩, c⟩ ⟨hk, hS⟩ => ?_⟩
 ·(repeat' (first | exact trivial | exact Wk.refl _ | exact ObWk.refl _ | exact rfl | exact ⟨_, rfl⟩ | exact Nat.zero_lt_one | refine And.intro ?_ ?_ | unfold okTo | (unfold okO; conv => whnf) | (unfold okS; conv => whnf) | (unfold SlotOk; conv => whnf) | (unfold ObjOk; conv => whnf) | (unfold okCells; conv => whnf) | (unfold liveTo; conv => whnf) | exact Nat.zero_lt_succ _))
 ·replace hk : k ≤ v.members.length := hk
  replace hS : ((⟨us1, os1, ld1⟩, c) : Ls × Nat) = passN f v k ⟨us, os, []⟩ := hS
  have okk : OkS ⟨us1, os1, ld1⟩ (w + k) := by
   have := ok.passN hv hf k hk
   rw [← hS] at this; exact this
  have okl : OkL os1 := okk.okL (by omega)
  have hle : (Us os1).length ≤ 50000 := okl.le
  have hus1 : us1.length = os1.length := okk.us
  have hoslen : os1.length ≤ w + k := okk.len
  have hld : ∀ p ∈ ld1, p.1.length ≤ 1000 ∧ p.2 ≤ 1000 := okk.ld
  have hc : c ≤ k := by have := (passN_len f v ⟨us, os, []⟩ k).2.2.2; rw [← hS] at this; exact this
  have st0 : can ⟨us1, os1, ld1⟩ f v k = false → ((⟨us1, os1, ld1⟩, c) : Ls × Nat) = passN f v (k + 1) ⟨us, os, []⟩ := fun h => by simp only [passN]; rw [← hS]; simp [h]
  have st1 : can ⟨us1, os1, ld1⟩ f v k = true → (loadM ⟨us1, os1, ld1⟩ f v k, c + 1) = passN f v (k + 1) ⟨us, os, []⟩ := fun h => by simp only [passN]; rw [← hS]; simp [h]
  cases ld1 with
  | nil =>
   (conv => whnf)
   refine split_intro (fun h => ?_) (fun h => ?_)
   ·have hlt : k < v.members.length := by have := of_decide_eq_true h; rw [List.length_map] at this; omega
    ((obtain ⟨m, hm⟩ := exI hlt); (have hme : memAt v k = m := by (have := (memAt_mem hlt).2; rw [hm] at this; injection this with this; exact this.symm)))
    (conv => whnf)
    refine ⟨_, ⟨by omega, getMap hm⟩, ?_⟩
    (conv => whnf)
    refine CallLeaf.oa [0, 1, 2] (sloadA_ us1 os1 f v k hf (by omega) (by omega)) rfl rfl rfl rfl ?_
    (conv => whnf)
    refine split_intro (fun hc0 => ?_) (fun hc0 => ?_)
    ·have hcan : can ⟨us1, os1, []⟩ f v k = false := by simpa using hc0
     (conv => whnf)
     refine ⟨_, add64 (c := ((k + 1 : Nat) : Int)) (by (try simp only []); omega) (by omega), ?_⟩
     (conv => whnf)
     refine ⟨(k + 1, ⟨us1, os1, []⟩, c), ⟨⟨by show k + 1 ≤ _; omega, st0 hcan⟩, by show v.members.length - (k + 1) < v.members.length - k; omega⟩, ?_⟩
     (repeat' (first | exact trivial | exact Wk.refl _ | exact ObWk.refl _ | exact rfl | exact ⟨_, rfl⟩ | exact Nat.zero_lt_one | refine And.intro ?_ ?_ | unfold okTo | (unfold okO; conv => whnf) | (unfold okS; conv => whnf) | (unfold SlotOk; conv => whnf) | (unfold ObjOk; conv => whnf) | (unfold okCells; conv => whnf) | (unfold liveTo; conv => whnf) | exact Nat.zero_lt_succ _))
    ·have hcan : can ⟨us1, os1, []⟩ f v k = true := O.not_f hc0
     have hnx := st1 hcan
     simp only [loadM, hme, List.nil_append] at hnx
     (conv => whnf)
     refine ⟨wkey hf (by omega), ?_⟩
     (conv => whnf)
     refine ⟨_, ⟨wkeys (ld := []) (by simp), mset_key (p := (f, k)) (ld := []) (by simp)⟩, ?_⟩
     (conv => whnf)
     ((have hD := O.odecode_ m.data (by have := hv.b m (List.mem_of_getElem? hm); omega)); (rw [dec_eq] at hD); (refine CallLeaf.wa (hD) rfl ?_); ((conv => whnf)))
     refine CallLeaf.oa [0, 1, 2, 4619] (loadB_ us1 os1 [(f, k)] ⟨f, m.name, (k : Int)⟩ (dec m.data).1 (by omega) okl (dec_ok (hv.b m (List.mem_of_getElem? hm)))) rfl rfl rfl rfl ?_
     (conv => whnf)
     refine ⟨_, add64 (c := ((c + 1 : Nat) : Int)) (by (try simp only []); omega) (by omega), ?_⟩
     (conv => whnf)
     refine ⟨_, add64 (c := ((k + 1 : Nat) : Int)) (by (try simp only []); omega) (by omega), ?_⟩
     (conv => whnf)
     refine ⟨(k + 1, ⟨us1 ++ [⟨f, m.name, (k : Int)⟩], os1 ++ [(dec m.data).1], [(f, k)]⟩, c + 1), ⟨⟨by show k + 1 ≤ _; omega, hnx⟩, by show v.members.length - (k + 1) < v.members.length - k; omega⟩, ?_⟩
     (repeat' (first | exact trivial | exact Wk.refl _ | exact ObWk.refl _ | exact rfl | exact ⟨_, rfl⟩ | exact Nat.zero_lt_one | refine And.intro ?_ ?_ | unfold okTo | (unfold okO; conv => whnf) | (unfold okS; conv => whnf) | (unfold SlotOk; conv => whnf) | (unfold ObjOk; conv => whnf) | (unfold okCells; conv => whnf) | (unfold liveTo; conv => whnf) | exact Nat.zero_lt_succ _))
     all_goals exact Wk.int (by simp)
   ·have hge : v.members.length ≤ k := by have := of_decide_eq_false h; rw [List.length_map] at this; omega
    have e : pass f v ⟨us, os, []⟩ = (⟨us1, os1, []⟩, c) := by
     obtain rfl : k = v.members.length := by omega
     exact hS.symm
    rw [e]
    (conv => whnf)
    refine ⟨[0, 1, 2], rfl, by (try unfold pullOk); (repeat' (first | exact trivial | exact ObWk.refl _ | refine And.intro ?_ ?_ | unfold pullOk)), ?_⟩
    exact Wk.refl _
  | cons p r =>
   (conv => whnf)
   refine split_intro (fun h => ?_) (fun h => ?_)
   ·have hlt : k < v.members.length := by have := of_decide_eq_true h; rw [List.length_map] at this; omega
    ((obtain ⟨m, hm⟩ := exI hlt); (have hme : memAt v k = m := by (have := (memAt_mem hlt).2; rw [hm] at this; injection this with this; exact this.symm)))
    (conv => whnf)
    refine ⟨_, ⟨by omega, getMap hm⟩, ?_⟩
    (conv => whnf)
    refine CallLeaf.oa [0, 1, 2, 4619] (sloadB_ us1 os1 (p :: r) f v k hf (by omega) (by omega) hld) rfl rfl rfl rfl ?_
    (conv => whnf)
    refine split_intro (fun hc0 => ?_) (fun hc0 => ?_)
    ·have hcan : can ⟨us1, os1, p :: r⟩ f v k = false := by simpa using hc0
     (conv => whnf)
     refine ⟨_, add64 (c := ((k + 1 : Nat) : Int)) (by (try simp only []); omega) (by omega), ?_⟩
     (conv => whnf)
     refine ⟨(k + 1, ⟨us1, os1, p :: r⟩, c), ⟨⟨by show k + 1 ≤ _; omega, st0 hcan⟩, by show v.members.length - (k + 1) < v.members.length - k; omega⟩, ?_⟩
     (repeat' (first | exact trivial | exact Wk.refl _ | exact ObWk.refl _ | exact rfl | exact ⟨_, rfl⟩ | exact Nat.zero_lt_one | refine And.intro ?_ ?_ | unfold okTo | (unfold okO; conv => whnf) | (unfold okS; conv => whnf) | (unfold SlotOk; conv => whnf) | (unfold ObjOk; conv => whnf) | (unfold okCells; conv => whnf) | (unfold liveTo; conv => whnf) | exact Nat.zero_lt_succ _))
    ·have hcan : can ⟨us1, os1, p :: r⟩ f v k = true := O.not_f hc0
     have hnx := st1 hcan
     simp only [loadM, hme, List.cons_append] at hnx
     (conv => whnf)
     refine ⟨wkey hf (by omega), ?_⟩
     (conv => whnf)
     refine ⟨_, ⟨wkeys hld, mset_key (p := (f, k)) (can_not hcan)⟩, ?_⟩
     (conv => whnf)
     ((have hD := O.odecode_ m.data (by have := hv.b m (List.mem_of_getElem? hm); omega)); (rw [dec_eq] at hD); (refine CallLeaf.wa (hD) rfl ?_); ((conv => whnf)))
     refine CallLeaf.oa [0, 1, 2, 4619] (loadB_ us1 os1 (p :: r ++ [(f, k)]) ⟨f, m.name, (k : Int)⟩ (dec m.data).1 (by omega) okl (dec_ok (hv.b m (List.mem_of_getElem? hm)))) rfl rfl rfl rfl ?_
     (conv => whnf)
     refine ⟨_, add64 (c := ((c + 1 : Nat) : Int)) (by (try simp only []); omega) (by omega), ?_⟩
     (conv => whnf)
     refine ⟨_, add64 (c := ((k + 1 : Nat) : Int)) (by (try simp only []); omega) (by omega), ?_⟩
     (conv => whnf)
     refine ⟨(k + 1, ⟨us1 ++ [⟨f, m.name, (k : Int)⟩], os1 ++ [(dec m.data).1], p :: (r ++ [(f, k)])⟩, c + 1), ⟨⟨by show k + 1 ≤ _; omega, hnx⟩, by show v.members.length - (k + 1) < v.members.length - k; omega⟩, ?_⟩
     (repeat' (first | exact trivial | exact Wk.refl _ | exact ObWk.refl _ | exact rfl | exact ⟨_, rfl⟩ | exact Nat.zero_lt_one | refine And.intro ?_ ?_ | unfold okTo | (unfold okO; conv => whnf) | (unfold okS; conv => whnf) | (unfold SlotOk; conv => whnf) | (unfold ObjOk; conv => whnf) | (unfold okCells; conv => whnf) | (unfold liveTo; conv => whnf) | exact Nat.zero_lt_succ _))
     all_goals exact Wk.int (by simp)
   ·have hge : v.members.length ≤ k := by have := of_decide_eq_false h; rw [List.length_map] at this; omega
    have e : pass f v ⟨us, os, []⟩ = (⟨us1, os1, p :: r⟩, c) := by
     obtain rfl : k = v.members.length := by omega
     exact hS.symm
    rw [e]
    (conv => whnf)
    refine ⟨[0, 1, 2, 4619], rfl, by (try unfold pullOk); (repeat' (first | exact trivial | exact ObWk.refl _ | refine And.intro ?_ ?_ | unfold pullOk)), ?_⟩
    exact Wk.refl _
theorem passN_ne {f : Str} {v : View} {S : Ls} (h : ¬ S.ld = []) (k : Nat) : ¬ (passN f v k S).1.ld = [] := fun e => by
 have h1 := (passN_len f v S k).1
 rw [e] at h1
 have : S.ld.length = 0 := by simp at h1; omega
 exact h (List.eq_nil_of_length_eq_zero this)
theorem passB_ (f : Str) (v : View) (us : List Unt) (os : List Ob.Obj) (p0 : Str × Nat) (r0 : List (Str × Nat)) (w : Nat) (hw : w + v.members.length ≤ 300) (ok : OkS ⟨us, os, p0 :: r0⟩ w) (hv : OkV v) (hf : f.length ≤ 1000) :
  FCall Tryz.prog Gl 20 [.ptr 0 0, sD f, vD v] (Bs us (p0 :: r0) os.length (Sy.build (Us os))) (vI (pass f v ⟨us, os, p0 :: r0⟩).2) (stO (pass f v ⟨us, os, p0 :: r0⟩).1) := by
 have hvn := hv.n
 refine FCall.enterO hT hmix [] Tryz.func20 rfl rfl rfl fun hbd => ?_
 (conv => whnf)
 refine LWp.loop hT hmix [] (fun x : Nat × Ls × Nat => [(17, vI x.1), (7, vI x.2.2)]) (fun x => stSo 3 x.2.1) (fun x => x.1 ≤ v.members.length ∧ x.2 = passN f v x.1 ⟨us, os, p0 :: r0⟩) (fun x => v.members.length - x.1) (0, ⟨us, os, p0 :: r0⟩, 0) ⟨Nat.zero_le _, rfl⟩ ?_
 (conv => whnf)
 refine ⟨?_, fun ⟨k, ⟨us1, os1, ld1⟩, c⟩ ⟨hk, hS⟩ => ?_⟩
 ·(repeat' (first | exact trivial | exact Wk.refl _ | exact ObWk.refl _ | exact rfl | exact ⟨_, rfl⟩ | exact Nat.zero_lt_one | refine And.intro ?_ ?_ | unfold okTo | (unfold okO; conv => whnf) | (unfold okS; conv => whnf) | (unfold SlotOk; conv => whnf) | (unfold ObjOk; conv => whnf) | (unfold okCells; conv => whnf) | (unfold liveTo; conv => whnf) | exact Nat.zero_lt_succ _))
 ·replace hk : k ≤ v.members.length := hk
  replace hS : ((⟨us1, os1, ld1⟩, c) : Ls × Nat) = passN f v k ⟨us, os, p0 :: r0⟩ := hS
  have okk : OkS ⟨us1, os1, ld1⟩ (w + k) := by
   have := ok.passN hv hf k hk
   rw [← hS] at this; exact this
  have okl : OkL os1 := okk.okL (by omega)
  have hle : (Us os1).length ≤ 50000 := okl.le
  have hus1 : us1.length = os1.length := okk.us
  have hoslen : os1.length ≤ w + k := okk.len
  have hld : ∀ p ∈ ld1, p.1.length ≤ 1000 ∧ p.2 ≤ 1000 := okk.ld
  have hc : c ≤ k := by have := (passN_len f v ⟨us, os, p0 :: r0⟩ k).2.2.2; rw [← hS] at this; exact this
  have st0 : can ⟨us1, os1, ld1⟩ f v k = false → ((⟨us1, os1, ld1⟩, c) : Ls × Nat) = passN f v (k + 1) ⟨us, os, p0 :: r0⟩ := fun h => by simp only [passN]; rw [← hS]; simp [h]
  have st1 : can ⟨us1, os1, ld1⟩ f v k = true → (loadM ⟨us1, os1, ld1⟩ f v k, c + 1) = passN f v (k + 1) ⟨us, os, p0 :: r0⟩ := fun h => by simp only [passN]; rw [← hS]; simp [h]
  cases ld1 with
  | nil =>
   exfalso
   have := passN_ne (f := f) (v := v) (S := ⟨us, os, p0 :: r0⟩) (by simp) k
   rw [← hS] at this
   exact this rfl
  | cons p r =>
   (conv => whnf)
   refine split_intro (fun h => ?_) (fun h => ?_)
   ·have hlt : k < v.members.length := by have := of_decide_eq_true h; rw [List.length_map] at this; omega
    ((obtain ⟨m, hm⟩ := exI hlt); (have hme : memAt v k = m := by (have := (memAt_mem hlt).2; rw [hm] at this; injection this with this; exact this.symm)))
    (conv => whnf)
    refine ⟨_, ⟨by omega, getMap hm⟩, ?_⟩
    (conv => whnf)
    refine CallLeaf.oa [0, 1, 2, 3] (sloadB_ us1 os1 (p :: r) f v k hf (by omega) (by omega) hld) rfl rfl rfl rfl ?_
    (conv => whnf)
    refine split_intro (fun hc0 => ?_) (fun hc0 => ?_)
    ·have hcan : can ⟨us1, os1, p :: r⟩ f v k = false := by simpa using hc0
     (conv => whnf)
     refine ⟨_, add64 (c := ((k + 1 : Nat) : Int)) (by (try simp only []); omega) (by omega), ?_⟩
     (conv => whnf)
     refine ⟨(k + 1, ⟨us1, os1, p :: r⟩, c), ⟨⟨by show k + 1 ≤ _; omega, st0 hcan⟩, by show v.members.length - (k + 1) < v.members.length - k; omega⟩, ?_⟩
     (repeat' (first | exact trivial | exact Wk.refl _ | exact ObWk.refl _ | exact rfl | exact ⟨_, rfl⟩ | exact Nat.zero_lt_one | refine And.intro ?_ ?_ | unfold okTo | (unfold okO; conv => whnf) | (unfold okS; conv => whnf) | (unfold SlotOk; conv => whnf) | (unfold ObjOk; conv => whnf) | (unfold okCells; conv => whnf) | (unfold liveTo; conv => whnf) | exact Nat.zero_lt_succ _))
    ·have hcan : can ⟨us1, os1, p :: r⟩ f v k = true := O.not_f hc0
     have hnx := st1 hcan
     simp only [loadM, hme, List.cons_append] at hnx
     (conv => whnf)
     refine ⟨wkey hf (by omega), ?_⟩
     (conv => whnf)
     refine ⟨_, ⟨wkeys hld, mset_key (p := (f, k)) (can_not hcan)⟩, ?_⟩
     (conv => whnf)
     ((have hD := O.odecode_ m.data (by have := hv.b m (List.mem_of_getElem? hm); omega)); (rw [dec_eq] at hD); (refine CallLeaf.wa (hD) rfl ?_); ((conv => whnf)))
     refine CallLeaf.oa [0, 1, 2, 3] (loadB_ us1 os1 (p :: r ++ [(f, k)]) ⟨f, m.name, (k : Int)⟩ (dec m.data).1 (by omega) okl (dec_ok (hv.b m (List.mem_of_getElem? hm)))) rfl rfl rfl rfl ?_
     (conv => whnf)
     refine ⟨_, add64 (c := ((c + 1 : Nat) : Int)) (by (try simp only []); omega) (by omega), ?_⟩
     (conv => whnf)
     refine ⟨_, add64 (c := ((k + 1 : Nat) : Int)) (by (try simp only []); omega) (by omega), ?_⟩
     (conv => whnf)
     refine ⟨(k + 1, ⟨us1 ++ [⟨f, m.name, (k : Int)⟩], os1 ++ [(dec m.data).1], p :: (r ++ [(f, k)])⟩, c + 1), ⟨⟨by show k + 1 ≤ _; omega, hnx⟩, by show v.members.length - (k + 1) < v.members.length - k; omega⟩, ?_⟩
     (repeat' (first | exact trivial | exact Wk.refl _ | exact ObWk.refl _ | exact rfl | exact ⟨_, rfl⟩ | exact Nat.zero_lt_one | refine And.intro ?_ ?_ | unfold okTo | (unfold okO; conv => whnf) | (unfold okS; conv => whnf) | (unfold SlotOk; conv => whnf) | (unfold ObjOk; conv => whnf) | (unfold okCells; conv => whnf) | (unfold liveTo; conv => whnf) | exact Nat.zero_lt_succ _))
     all_goals exact Wk.int (by simp)
   ·have hge : v.members.length ≤ k := by have := of_decide_eq_false h; rw [List.length_map] at this; omega
    have e : pass f v ⟨us, os, p0 :: r0⟩ = (⟨us1, os1, p :: r⟩, c) := by
     obtain rfl : k = v.members.length := by omega
     exact hS.symm
    rw [e]
    (conv => whnf)
    refine ⟨[0, 1, 2, 3], rfl, by (try unfold pullOk); (repeat' (first | exact trivial | exact ObWk.refl _ | refine And.intro ?_ ?_ | unfold pullOk)), ?_⟩
    exact Wk.refl _
end Go.Proofs.YtfbmknghfhancaaGreatDoor

namespace Go.Proofs.YtfbmknghfhancaaGreatDoor
open Go Go.AL Go.AL.Bd Go.AL.Tb Go.AL.Sc
set_option maxRecDepth 100000
set_option maxHeartbeats 4000000
theorem archN_ (f : Str) (v : View) : FCall Tryz.prog Gl 10 [pN, sD f, vD v] [] (vI 0) [] := by
 refine FCall.enterL hT hmix [] Tryz.func10 rfl rfl rfl fun hbd => ?_
 (conv => whnf)
 refine LWp.scope hT hmix [] ?_
 (conv => whnf)
 exact Wk.refl _
theorem archZ_ (f : Str) (v : View) (hf : f.length ≤ 1000) (hv : v.members.length ≤ 1000) : FCall Tryz.prog Gl 10 [.ptr 0 0, sD f, vD v] Zs (vI 1) Zs := by
 refine FCall.enterO hT hmix [] Tryz.func10 rfl rfl rfl fun hbd => ?_
 (conv => whnf)
 refine LWp.scope hT hmix [] ?_
 (conv => whnf)
 refine LWp.loop hT hmix [] (fun k : Nat => [(7, vI k)]) (fun _ => []) (fun k => k ≤ 0) (fun k => 0 - k) 0 (Nat.zero_le _) ?_
 (conv => whnf)
 refine ⟨?_, fun k hk => ?_⟩
 ·(repeat' (first | exact trivial | exact Wk.refl _ | exact ObWk.refl _ | exact rfl | exact ⟨_, rfl⟩ | exact Nat.zero_lt_one | refine And.intro ?_ ?_ | unfold okTo | (unfold okO; conv => whnf) | (unfold okS; conv => whnf) | (unfold SlotOk; conv => whnf) | (unfold ObjOk; conv => whnf) | (unfold okCells; conv => whnf) | (unfold liveTo; conv => whnf) | exact Nat.zero_lt_succ _))
 ·obtain rfl : k = 0 := by omega
  (conv => whnf)
  refine ⟨1, by first | rfl | exact add64 (by omega) (by omega), ?_⟩
  (conv => whnf)
  refine CallLeaf.oa [0] (passZ_ f v hf hv) rfl rfl rfl rfl ?_
  (conv => whnf)
  refine ⟨[0], rfl, by (try unfold pullOk); (repeat' (first | exact trivial | exact ObWk.refl _ | refine And.intro ?_ ?_ | unfold pullOk)), ?_⟩
  exact Wk.refl _
theorem archA_ (f : Str) (v : View) (us : List Unt) (os : List Ob.Obj) (F w : Nat) (hF : lft f v ⟨us, os, []⟩ < F) (hw : w + 2 * v.members.length ≤ 300) (ok : OkS ⟨us, os, []⟩ w) (hv : OkV v) (hf : f.length ≤ 1000) :
  FCall Tryz.prog Gl 10 [.ptr 0 0, sD f, vD v] (As us os.length (Sy.build (Us os))) (vI (arch f v F ⟨us, os, []⟩).2) (stO (arch f v F ⟨us, os, []⟩).1) := by
 have hvn := hv.n
 refine FCall.enterO hT hmix [] Tryz.func10 rfl rfl rfl fun hbd => ?_
 (conv => whnf)
 refine LWp.scope hT hmix [] ?_
 (conv => whnf)
 refine LWp.loop hT hmix [] (fun x : Nat × Ls => [(7, vI x.1)]) (fun x => stSo 2587 x.2) (fun x => AI f v F ⟨us, os, []⟩ w x.1 x.2) (fun x => lft f v x.2) (0, ⟨us, os, []⟩) (AI.start hF ok) ?_
 (conv => whnf)
 refine ⟨?_, fun ⟨k, ⟨us1, os1, ld1⟩⟩ hI => ?_⟩
 ·(repeat' (first | exact trivial | exact Wk.refl _ | exact ObWk.refl _ | exact rfl | exact ⟨_, rfl⟩ | exact Nat.zero_lt_one | refine And.intro ?_ ?_ | unfold okTo | (unfold okO; conv => whnf) | (unfold okS; conv => whnf) | (unfold SlotOk; conv => whnf) | (unfold ObjOk; conv => whnf) | (unfold okCells; conv => whnf) | (unfold liveTo; conv => whnf) | exact Nat.zero_lt_succ _))
 ·replace hI : AI f v F ⟨us, os, []⟩ w k ⟨us1, os1, ld1⟩ := hI
  have hk := hI.kle
  have okk := hI.ok
  have hlast := hI.last
  have hnext := hI.next hv hf
  cases ld1 with
  | nil =>
   have A := passA_ f v us1 os1 (w + v.members.length) (by omega) okk hv hf
   revert A hlast hnext
   obtain ⟨⟨us2, os2, ld2⟩, c⟩ := pass f v ⟨us1, os1, []⟩
   intro hlast hnext A
   cases ld2 with
   | nil =>
    (conv => whnf)
    refine ⟨_, add64 (c := ((k + 1 : Nat) : Int)) (by (try simp only []); omega) (by omega), ?_⟩
    (conv => whnf)
    refine CallLeaf.oa [0, 1, 2] (A) rfl rfl rfl rfl ?_
    (conv => whnf)
    refine split_intro (fun h => ?_) (fun h => ?_)
    ·rw [hlast (by simpa using h)]
     (conv => whnf)
     refine ⟨[0, 1, 2], rfl, by (try unfold pullOk); (repeat' (first | exact trivial | exact ObWk.refl _ | refine And.intro ?_ ?_ | unfold pullOk)), ?_⟩
     exact Wk.refl _
    ·obtain ⟨h1, h2⟩ := hnext (by simpa using h)
     (conv => whnf)
     refine ⟨(k + 1, ⟨us2, os2, []⟩), ⟨h1, h2⟩, ?_⟩
     (repeat' (first | exact trivial | exact Wk.refl _ | exact ObWk.refl _ | exact rfl | exact ⟨_, rfl⟩ | exact Nat.zero_lt_one | refine And.intro ?_ ?_ | unfold okTo | (unfold okO; conv => whnf) | (unfold okS; conv => whnf) | (unfold SlotOk; conv => whnf) | (unfold ObjOk; conv => whnf) | (unfold okCells; conv => whnf) | (unfold liveTo; conv => whnf) | exact Nat.zero_lt_succ _))
   | cons p r =>
    (conv => whnf)
    refine ⟨_, add64 (c := ((k + 1 : Nat) : Int)) (by (try simp only []); omega) (by omega), ?_⟩
    (conv => whnf)
    refine CallLeaf.oa [0, 1, 2, 2587] (A) rfl rfl rfl rfl ?_
    (conv => whnf)
    refine split_intro (fun h => ?_) (fun h => ?_)
    ·rw [hlast (by simpa using h)]
     (conv => whnf)
     refine ⟨[0, 1, 2, 2587], rfl, by (try unfold pullOk); (repeat' (first | exact trivial | exact ObWk.refl _ | refine And.intro ?_ ?_ | unfold pullOk)), ?_⟩
     exact Wk.refl _
    ·obtain ⟨h1, h2⟩ := hnext (by simpa using h)
     (conv => whnf)
     refine ⟨(k + 1, ⟨us2, os2, p :: r⟩), ⟨h1, h2⟩, ?_⟩
     (repeat' (first | exact trivial | exact Wk.refl _ | exact ObWk.refl _ | exact rfl | exact ⟨_, rfl⟩ | exact Nat.zero_lt_one | refine And.intro ?_ ?_ | unfold okTo | (unfold okO; conv => whnf) | (unfold okS; conv => whnf) | (unfold SlotOk; conv => whnf) | (unfold ObjOk; conv => whnf) | (unfold okCells; conv => whnf) | (unfold liveTo; conv => whnf) | exact Nat.zero_lt_succ _))
  | cons p r =>
   have A := passB_ f v us1 os1 p r (w + v.members.length) (by omega) okk hv hf
   have hne := passN_ne (f := f) (v := v) (S := ⟨us1, os1, p :: r⟩) (by simp) v.members.length
   revert A hlast hnext hne
   show _ → _ → _ → ¬ (pass f v ⟨us1, os1, p :: r⟩).1.ld = [] → _
   obtain ⟨⟨us2, os2, ld2⟩, c⟩ := pass f v ⟨us1, os1, p :: r⟩
   intro hlast hnext A hne
   cases ld2 with
   | nil => exact absurd rfl hne
   | cons p2 r2 =>
    (conv => whnf)
    refine ⟨_, add64 (c := ((k + 1 : Nat) : Int)) (by (try simp only []); omega) (by omega), ?_⟩
    (conv => whnf)
    refine CallLeaf.oa [0, 1, 2, 2587] (A) rfl rfl rfl rfl ?_
    (conv => whnf)
    refine split_intro (fun h => ?_) (fun h => ?_)
    ·rw [hlast (by simpa using h)]
     (conv => whnf)
     refine ⟨[0, 1, 2, 2587], rfl, by (try unfold pullOk); (repeat' (first | exact trivial | exact ObWk.refl _ | refine And.intro ?_ ?_ | unfold pullOk)), ?_⟩
     exact Wk.refl _
    ·obtain ⟨h1, h2⟩ := hnext (by simpa using h)
     (conv => whnf)
     refine ⟨(k + 1, ⟨us2, os2, p2 :: r2⟩), ⟨h1, h2⟩, ?_⟩
     (repeat' (first | exact trivial | exact Wk.refl _ | exact ObWk.refl _ | exact rfl | exact ⟨_, rfl⟩ | exact Nat.zero_lt_one | refine And.intro ?_ ?_ | unfold okTo | (unfold okO; conv => whnf) | (unfold okS; conv => whnf) | (unfold SlotOk; conv => whnf) | (unfold ObjOk; conv => whnf) | (unfold okCells; conv => whnf) | (unfold liveTo; conv => whnf) | exact Nat.zero_lt_succ _))
theorem archB_ (f : Str) (v : View) (us : List Unt) (os : List Ob.Obj) (p0 : Str × Nat) (r0 : List (Str × Nat)) (F w : Nat) (hF : lft f v ⟨us, os, p0 :: r0⟩ < F) (hw : w + 2 * v.members.length ≤ 300) (ok : OkS ⟨us, os, p0 :: r0⟩ w) (hv : OkV v) (hf : f.length ≤ 1000) :
  FCall Tryz.prog Gl 10 [.ptr 0 0, sD f, vD v] (Bs us (p0 :: r0) os.length (Sy.build (Us os))) (vI (arch f v F ⟨us, os, p0 :: r0⟩).2) (stO (arch f v F ⟨us, os, p0 :: r0⟩).1) := by
 have hvn := hv.n
 refine FCall.enterO hT hmix [] Tryz.func10 rfl rfl rfl fun hbd => ?_
 (conv => whnf)
 refine LWp.scope hT hmix [] ?_
 (conv => whnf)
 refine LWp.loop hT hmix [] (fun x : Nat × Ls => [(7, vI x.1)]) (fun x => stSo 3 x.2) (fun x => ¬ x.2.ld = [] ∧ AI f v F ⟨us, os, p0 :: r0⟩ w x.1 x.2) (fun x => lft f v x.2) (0, ⟨us, os, p0 :: r0⟩) ⟨by simp, AI.start hF ok⟩ ?_
 (conv => whnf)
 refine ⟨?_, fun ⟨k, ⟨us1, os1, ld1⟩⟩ ⟨hn0, hI⟩ => ?_⟩
 ·(repeat' (first | exact trivial | exact Wk.refl _ | exact ObWk.refl _ | exact rfl | exact ⟨_, rfl⟩ | exact Nat.zero_lt_one | refine And.intro ?_ ?_ | unfold okTo | (unfold okO; conv => whnf) | (unfold okS; conv => whnf) | (unfold SlotOk; conv => whnf) | (unfold ObjOk; conv => whnf) | (unfold okCells; conv => whnf) | (unfold liveTo; conv => whnf) | exact Nat.zero_lt_succ _))
 ·replace hI : AI f v F ⟨us, os, p0 :: r0⟩ w k ⟨us1, os1, ld1⟩ := hI
  have hk := hI.kle
  have okk := hI.ok
  have hlast := hI.last
  have hnext := hI.next hv hf
  cases ld1 with
  | nil => exact absurd rfl hn0
  | cons p r =>
   have A := passB_ f v us1 os1 p r (w + v.members.length) (by omega) okk hv hf
   have hne := passN_ne (f := f) (v := v) (S := ⟨us1, os1, p :: r⟩) (by simp) v.members.length
   revert A hlast hnext hne
   show _ → _ → _ → ¬ (pass f v ⟨us1, os1, p :: r⟩).1.ld = [] → _
   obtain ⟨⟨us2, os2, ld2⟩, c⟩ := pass f v ⟨us1, os1, p :: r⟩
   intro hlast hnext A hne
   cases ld2 with
   | nil => exact absurd rfl hne
   | cons p2 r2 =>
    (conv => whnf)
    refine ⟨_, add64 (c := ((k + 1 : Nat) : Int)) (by (try simp only []); omega) (by omega), ?_⟩
    (conv => whnf)
    refine CallLeaf.oa [0, 1, 2, 3] (A) rfl rfl rfl rfl ?_
    (conv => whnf)
    refine split_intro (fun h => ?_) (fun h => ?_)
    ·rw [hlast (by simpa using h)]
     (conv => whnf)
     refine ⟨[0, 1, 2, 3], rfl, by (try unfold pullOk); (repeat' (first | exact trivial | exact ObWk.refl _ | refine And.intro ?_ ?_ | unfold pullOk)), ?_⟩
     exact Wk.refl _
    ·obtain ⟨h1, h2⟩ := hnext (by simpa using h)
     (conv => whnf)
     refine ⟨(k + 1, ⟨us2, os2, p2 :: r2⟩), ⟨⟨by simp, h1⟩, h2⟩, ?_⟩
     (repeat' (first | exact trivial | exact Wk.refl _ | exact ObWk.refl _ | exact rfl | exact ⟨_, rfl⟩ | exact Nat.zero_lt_one | refine And.intro ?_ ?_ | unfold okTo | (unfold okO; conv => whnf) | (unfold okS; conv => whnf) | (unfold SlotOk; conv => whnf) | (unfold ObjOk; conv => whnf) | (unfold okCells; conv => whnf) | (unfold liveTo; conv => whnf) | exact Nat.zero_lt_succ _))
abbrev canX (S : Ls) (f : Str) (v : View) (k : Nat) : List Nat := (List.range k).filter (can S f v)
abbrev eN (n : Nat) : List D := [vI n]
theorem canX_len (S : Ls) (f : Str) (v : View) (k : Nat) : (canX S f v k).length ≤ k := by
 have := List.length_filter_le (can S f v) (List.range k)
 simpa using this
theorem canX_snoc (S : Ls) (f : Str) (v : View) (k : Nat) : canX S f v (k + 1) = canX S f v k ++ (if can S f v k = true then [k] else []) := by
 rw [canX, List.range_succ, List.filter_append]
 congr 1
 simp only [List.filter]
 cases can S f v k <;> rfl
theorem canX_map (S : Ls) (f : Str) (v : View) (k : Nat) : (canX S f v (k + 1)).map eN = (canX S f v k).map eN ++ ((if can S f v k = true then [k] else []).map eN) := by rw [canX_snoc, List.map_append]
theorem loadableN_ (f : Str) (v : View) : FCall Tryz.prog Gl 13 [pN, sD f, vD v] [] .nil [] := by
 refine FCall.enterL hT hmix [] Tryz.func13 rfl rfl rfl fun hbd => ?_
 (conv => whnf)
 exact Wk.refl _
theorem LoadableZ_ (f : Str) (v : View) (hf : f.length ≤ 1000) (hv : v.members.length ≤ 1000) : FCall Tryz.prog Gl 13 [.ptr 0 0, sD f, vD v] Zs .nil Zs := by
 refine FCall.enterO hT hmix [] Tryz.func13 rfl rfl rfl fun hbd => ?_
 (conv => whnf)
 refine LWp.loop hT hmix [] (fun k : Nat => [(14, vI k), (7, .nil)]) (fun _ => []) (fun k => k ≤ v.members.length) (fun k => v.members.length - k) 0 (Nat.zero_le _) ?_
 (conv => whnf)
 refine ⟨?_, fun k hk => ?_⟩
 ·(repeat' (first | exact trivial | exact Wk.refl _ | exact ObWk.refl _ | exact rfl | exact ⟨_, rfl⟩ | exact Nat.zero_lt_one | refine And.intro ?_ ?_ | unfold okTo | (unfold okO; conv => whnf) | (unfold okS; conv => whnf) | (unfold SlotOk; conv => whnf) | (unfold ObjOk; conv => whnf) | (unfold okCells; conv => whnf) | (unfold liveTo; conv => whnf) | exact Nat.zero_lt_succ _))
 ·(conv => whnf)
  refine split_intro (fun h => ?_) (fun h => ?_)
  ·have hlt : k < v.members.length := by have := of_decide_eq_true h; rw [List.length_map] at this; omega
   (conv => whnf)
   refine CallLeaf.oa [0] (sloadZ_ f v k hf (by omega)) rfl rfl rfl rfl ?_
   (conv => whnf)
   refine ⟨_, add64 (c := ((k + 1 : Nat) : Int)) (by (try simp only []); omega) (by omega), ?_⟩
   (conv => whnf)
   refine ⟨k + 1, ⟨by omega, by simp only []; omega⟩, ?_⟩
   (repeat' (first | exact trivial | exact Wk.refl _ | exact ObWk.refl _ | exact rfl | exact ⟨_, rfl⟩ | exact Nat.zero_lt_one | refine And.intro ?_ ?_ | unfold okTo | (unfold okO; conv => whnf) | (unfold okS; conv => whnf) | (unfold SlotOk; conv => whnf) | (unfold ObjOk; conv => whnf) | (unfold okCells; conv => whnf) | (unfold liveTo; conv => whnf) | exact Nat.zero_lt_succ _))
  ·(conv => whnf)
   refine ⟨[0], rfl, by (try unfold pullOk); (repeat' (first | exact trivial | exact ObWk.refl _ | refine And.intro ?_ ?_ | unfold pullOk)), ?_⟩
   exact Wk.refl _
abbrev LNn (l : List Nat) : D := .list .any (l.map eN)
abbrev lslA (L : List Nat) : D := match L with
 | [] => .nil
 | p :: r => .list (.tok 4123) ((p :: r).map eN)
abbrev lsoA (L : List Nat) : So := match L with
 | [] => []
 | p :: r => [(4123, .tok ((p :: r).map eN).length 1)]
theorem LoadableA_ (us : List Unt) (os : List Ob.Obj) (f : Str) (v : View) (hf : f.length ≤ 1000) (hv : v.members.length ≤ 1000) (hU : (Us os).length ≤ 1000000) :
  FCall Tryz.prog Gl 13 [.ptr 0 0, sD f, vD v] (As us os.length (Sy.build (Us os))) (LNn (canL ⟨us, os, []⟩ f v)) (As us os.length (Sy.build (Us os))) := by
 refine FCall.enterO hT hmix [] Tryz.func13 rfl rfl rfl fun hbd => ?_
 (conv => whnf)
 refine LWp.loop hT hmix [] (fun x : Nat × List Nat => [(14, vI x.1), (7, lslA x.2)]) (fun x => lsoA x.2) (fun x => x.1 ≤ v.members.length ∧ x.2 = canX ⟨us, os, []⟩ f v x.1) (fun x => v.members.length - x.1) (0, []) ⟨Nat.zero_le _, rfl⟩ ?_
 (conv => whnf)
 refine ⟨?_, fun ⟨k, L⟩ ⟨hk, hL⟩ => ?_⟩
 ·(repeat' (first | exact trivial | exact Wk.refl _ | exact ObWk.refl _ | exact rfl | exact ⟨_, rfl⟩ | exact Nat.zero_lt_one | refine And.intro ?_ ?_ | unfold okTo | (unfold okO; conv => whnf) | (unfold okS; conv => whnf) | (unfold SlotOk; conv => whnf) | (unfold ObjOk; conv => whnf) | (unfold okCells; conv => whnf) | (unfold liveTo; conv => whnf) | exact Nat.zero_lt_succ _))
 ·replace hk : k ≤ v.members.length := hk
  replace hL : L = canX ⟨us, os, []⟩ f v k := hL
  have hLl : L.length ≤ k := by rw [hL]; exact canX_len _ _ _ _
  have hst := canX_snoc ⟨us, os, []⟩ f v k
  rw [← hL] at hst
  cases L with
  | nil =>
   (conv => whnf)
   refine split_intro (fun h => ?_) (fun h => ?_)
   ·have hlt : k < v.members.length := by have := of_decide_eq_true h; rw [List.length_map] at this; omega
    (conv => whnf)
    refine CallLeaf.oa [0, 1, 2] (sloadA_ us os f v k hf (by omega) hU) rfl rfl rfl rfl ?_
    (conv => whnf)
    refine split_intro (fun hc => ?_) (fun hc => ?_)
    ·rw [if_pos hc] at hst
     (conv => whnf)
     refine ⟨_, appN (f := eN) (ys := [k]) (fun _ => rfl) (by show 1 * 8 ≤ _; decide), ?_⟩
     (conv => whnf)
     refine ⟨_, add64 (c := ((k + 1 : Nat) : Int)) (by (try simp only []); omega) (by omega), ?_⟩
     (conv => whnf)
     refine ⟨(k + 1, [k]), ⟨⟨by show k + 1 ≤ _; omega, hst.symm⟩, by show v.members.length - (k + 1) < v.members.length - k; omega⟩, ?_⟩
     (repeat' (first | exact trivial | exact Wk.refl _ | exact ObWk.refl _ | exact rfl | exact ⟨_, rfl⟩ | exact Nat.zero_lt_one | refine And.intro ?_ ?_ | unfold okTo | (unfold okO; conv => whnf) | (unfold okS; conv => whnf) | (unfold SlotOk; conv => whnf) | (unfold ObjOk; conv => whnf) | (unfold okCells; conv => whnf) | (unfold liveTo; conv => whnf) | exact Nat.zero_lt_succ _))
    ·rw [if_neg (by simpa using hc)] at hst
     (conv => whnf)
     refine ⟨_, add64 (c := ((k + 1 : Nat) : Int)) (by (try simp only []); omega) (by omega), ?_⟩
     (conv => whnf)
     refine ⟨(k + 1, []), ⟨⟨by show k + 1 ≤ _; omega, hst.symm⟩, by show v.members.length - (k + 1) < v.members.length - k; omega⟩, ?_⟩
     (repeat' (first | exact trivial | exact Wk.refl _ | exact ObWk.refl _ | exact rfl | exact ⟨_, rfl⟩ | exact Nat.zero_lt_one | refine And.intro ?_ ?_ | unfold okTo | (unfold okO; conv => whnf) | (unfold okS; conv => whnf) | (unfold SlotOk; conv => whnf) | (unfold ObjOk; conv => whnf) | (unfold okCells; conv => whnf) | (unfold liveTo; conv => whnf) | exact Nat.zero_lt_succ _))
   ·have hge : v.members.length ≤ k := by have := of_decide_eq_false h; rw [List.length_map] at this; omega
    obtain rfl : k = v.members.length := by omega
    (conv => whnf)
    refine ⟨[0, 1, 2], rfl, by (try unfold pullOk); (repeat' (first | exact trivial | exact ObWk.refl _ | refine And.intro ?_ ?_ | unfold pullOk)), ?_⟩
    rw [LNn, canL, ← canX, ← hL]
    exact Wk.nil' rfl
  | cons p r =>
   (conv => whnf)
   refine split_intro (fun h => ?_) (fun h => ?_)
   ·have hlt : k < v.members.length := by have := of_decide_eq_true h; rw [List.length_map] at this; omega
    (conv => whnf)
    refine CallLeaf.oa [0, 1, 2] (sloadA_ us os f v k hf (by omega) hU) rfl rfl rfl rfl ?_
    (conv => whnf)
    refine split_intro (fun hc => ?_) (fun hc => ?_)
    ·rw [if_pos hc] at hst
     (conv => whnf)
     refine ⟨_, appL (f := eN) (xs := p :: r) (ys := [k]) (zs := p :: r ++ [k]) rfl rfl (fun _ => rfl) rfl (by rw [List.length_append, List.length_singleton]; show (_ + 1) * 8 ≤ _; omega), ?_⟩
     (conv => whnf)
     refine ⟨_, add64 (c := ((k + 1 : Nat) : Int)) (by (try simp only []); omega) (by omega), ?_⟩
     (conv => whnf)
     refine ⟨(k + 1, p :: (r ++ [k])), ⟨⟨by show k + 1 ≤ _; omega, hst.symm⟩, by show v.members.length - (k + 1) < v.members.length - k; omega⟩, ?_⟩
     (repeat' (first | exact trivial | exact Wk.refl _ | exact ObWk.refl _ | exact rfl | exact ⟨_, rfl⟩ | exact Nat.zero_lt_one | refine And.intro ?_ ?_ | unfold okTo | (unfold okO; conv => whnf) | (unfold okS; conv => whnf) | (unfold SlotOk; conv => whnf) | (unfold ObjOk; conv => whnf) | (unfold okCells; conv => whnf) | (unfold liveTo; conv => whnf) | exact Nat.zero_lt_succ _))
    ·rw [if_neg (by simpa using hc), List.append_nil] at hst
     (conv => whnf)
     refine ⟨_, add64 (c := ((k + 1 : Nat) : Int)) (by (try simp only []); omega) (by omega), ?_⟩
     (conv => whnf)
     refine ⟨(k + 1, p :: r), ⟨⟨by show k + 1 ≤ _; omega, hst.symm⟩, by show v.members.length - (k + 1) < v.members.length - k; omega⟩, ?_⟩
     (repeat' (first | exact trivial | exact Wk.refl _ | exact ObWk.refl _ | exact rfl | exact ⟨_, rfl⟩ | exact Nat.zero_lt_one | refine And.intro ?_ ?_ | unfold okTo | (unfold okO; conv => whnf) | (unfold okS; conv => whnf) | (unfold SlotOk; conv => whnf) | (unfold ObjOk; conv => whnf) | (unfold okCells; conv => whnf) | (unfold liveTo; conv => whnf) | exact Nat.zero_lt_succ _))
   ·have hge : v.members.length ≤ k := by have := of_decide_eq_false h; rw [List.length_map] at this; omega
    obtain rfl : k = v.members.length := by omega
    (conv => whnf)
    refine ⟨[0, 1, 2], rfl, by (try unfold pullOk); (repeat' (first | exact trivial | exact ObWk.refl _ | refine And.intro ?_ ?_ | unfold pullOk)), ?_⟩
    rw [LNn, canL, ← canX, ← hL]
    exact Wk.list' _ rfl
abbrev lslB (L : List Nat) : D := match L with
 | [] => .nil
 | p :: r => .list (.tok 4124) ((p :: r).map eN)
abbrev lsoB (L : List Nat) : So := match L with
 | [] => []
 | p :: r => [(4124, .tok ((p :: r).map eN).length 1)]
theorem LoadableB_ (us : List Unt) (os : List Ob.Obj) (ld : List (Str × Nat)) (f : Str) (v : View) (hf : f.length ≤ 1000) (hv : v.members.length ≤ 1000) (hU : (Us os).length ≤ 1000000) (hld : ∀ p ∈ ld, p.1.length ≤ 1000 ∧ p.2 ≤ 1000) :
  FCall Tryz.prog Gl 13 [.ptr 0 0, sD f, vD v] (Bs us ld os.length (Sy.build (Us os))) (LNn (canL ⟨us, os, ld⟩ f v)) (Bs us ld os.length (Sy.build (Us os))) := by
 refine FCall.enterO hT hmix [] Tryz.func13 rfl rfl rfl fun hbd => ?_
 (conv => whnf)
 refine LWp.loop hT hmix [] (fun x : Nat × List Nat => [(14, vI x.1), (7, lslB x.2)]) (fun x => lsoB x.2) (fun x => x.1 ≤ v.members.length ∧ x.2 = canX ⟨us, os, ld⟩ f v x.1) (fun x => v.members.length - x.1) (0, []) ⟨Nat.zero_le _, rfl⟩ ?_
 (conv => whnf)
 refine ⟨?_, fun ⟨k, L⟩ ⟨hk, hL⟩ => ?_⟩
 ·(repeat' (first | exact trivial | exact Wk.refl _ | exact ObWk.refl _ | exact rfl | exact ⟨_, rfl⟩ | exact Nat.zero_lt_one | refine And.intro ?_ ?_ | unfold okTo | (unfold okO; conv => whnf) | (unfold okS; conv => whnf) | (unfold SlotOk; conv => whnf) | (unfold ObjOk; conv => whnf) | (unfold okCells; conv => whnf) | (unfold liveTo; conv => whnf) | exact Nat.zero_lt_succ _))
 ·replace hk : k ≤ v.members.length := hk
  replace hL : L = canX ⟨us, os, ld⟩ f v k := hL
  have hLl : L.length ≤ k := by rw [hL]; exact canX_len _ _ _ _
  have hst := canX_snoc ⟨us, os, ld⟩ f v k
  rw [← hL] at hst
  cases L with
  | nil =>
   (conv => whnf)
   refine split_intro (fun h => ?_) (fun h => ?_)
   ·have hlt : k < v.members.length := by have := of_decide_eq_true h; rw [List.length_map] at this; omega
    (conv => whnf)
    refine CallLeaf.oa [0, 1, 2, 3] (sloadB_ us os ld f v k hf (by omega) hU hld) rfl rfl rfl rfl ?_
    (conv => whnf)
    refine split_intro (fun hc => ?_) (fun hc => ?_)
    ·rw [if_pos hc] at hst
     (conv => whnf)
     refine ⟨_, appN (f := eN) (ys := [k]) (fun _ => rfl) (by show 1 * 8 ≤ _; decide), ?_⟩
     (conv => whnf)
     refine ⟨_, add64 (c := ((k + 1 : Nat) : Int)) (by (try simp only []); omega) (by omega), ?_⟩
     (conv => whnf)
     refine ⟨(k + 1, [k]), ⟨⟨by show k + 1 ≤ _; omega, hst.symm⟩, by show v.members.length - (k + 1) < v.members.length - k; omega⟩, ?_⟩
     (repeat' (first | exact trivial | exact Wk.refl _ | exact ObWk.refl _ | exact rfl | exact ⟨_, rfl⟩ | exact Nat.zero_lt_one | refine And.intro ?_ ?_ | unfold okTo | (unfold okO; conv => whnf) | (unfold okS; conv => whnf) | (unfold SlotOk; conv => whnf) | (unfold ObjOk; conv => whnf) | (unfold okCells; conv => whnf) | (unfold liveTo; conv => whnf) | exact Nat.zero_lt_succ _))
    ·rw [if_neg (by simpa using hc)] at hst
     (conv => whnf)
     refine ⟨_, add64 (c := ((k + 1 : Nat) : Int)) (by (try simp only []); omega) (by omega), ?_⟩
     (conv => whnf)
     refine ⟨(k + 1, []), ⟨⟨by show k + 1 ≤ _; omega, hst.symm⟩, by show v.members.length - (k + 1) < v.members.length - k; omega⟩, ?_⟩
     (repeat' (first | exact trivial | exact Wk.refl _ | exact ObWk.refl _ | exact rfl | exact ⟨_, rfl⟩ | exact Nat.zero_lt_one | refine And.intro ?_ ?_ | unfold okTo | (unfold okO; conv => whnf) | (unfold okS; conv => whnf) | (unfold SlotOk; conv => whnf) | (unfold ObjOk; conv => whnf) | (unfold okCells; conv => whnf) | (unfold liveTo; conv => whnf) | exact Nat.zero_lt_succ _))
   ·have hge : v.members.length ≤ k := by have := of_decide_eq_false h; rw [List.length_map] at this; omega
    obtain rfl : k = v.members.length := by omega
    (conv => whnf)
    refine ⟨[0, 1, 2, 3], rfl, by (try unfold pullOk); (repeat' (first | exact trivial | exact ObWk.refl _ | refine And.intro ?_ ?_ | unfold pullOk)), ?_⟩
    rw [LNn, canL, ← canX, ← hL]
    exact Wk.nil' rfl
  | cons p r =>
   (conv => whnf)
   refine split_intro (fun h => ?_) (fun h => ?_)
   ·have hlt : k < v.members.length := by have := of_decide_eq_true h; rw [List.length_map] at this; omega
    (conv => whnf)
    refine CallLeaf.oa [0, 1, 2, 3] (sloadB_ us os ld f v k hf (by omega) hU hld) rfl rfl rfl rfl ?_
    (conv => whnf)
    refine split_intro (fun hc => ?_) (fun hc => ?_)
    ·rw [if_pos hc] at hst
     (conv => whnf)
     refine ⟨_, appL (f := eN) (xs := p :: r) (ys := [k]) (zs := p :: r ++ [k]) rfl rfl (fun _ => rfl) rfl (by rw [List.length_append, List.length_singleton]; show (_ + 1) * 8 ≤ _; omega), ?_⟩
     (conv => whnf)
     refine ⟨_, add64 (c := ((k + 1 : Nat) : Int)) (by (try simp only []); omega) (by omega), ?_⟩
     (conv => whnf)
     refine ⟨(k + 1, p :: (r ++ [k])), ⟨⟨by show k + 1 ≤ _; omega, hst.symm⟩, by show v.members.length - (k + 1) < v.members.length - k; omega⟩, ?_⟩
     (repeat' (first | exact trivial | exact Wk.refl _ | exact ObWk.refl _ | exact rfl | exact ⟨_, rfl⟩ | exact Nat.zero_lt_one | refine And.intro ?_ ?_ | unfold okTo | (unfold okO; conv => whnf) | (unfold okS; conv => whnf) | (unfold SlotOk; conv => whnf) | (unfold ObjOk; conv => whnf) | (unfold okCells; conv => whnf) | (unfold liveTo; conv => whnf) | exact Nat.zero_lt_succ _))
    ·rw [if_neg (by simpa using hc), List.append_nil] at hst
     (conv => whnf)
     refine ⟨_, add64 (c := ((k + 1 : Nat) : Int)) (by (try simp only []); omega) (by omega), ?_⟩
     (conv => whnf)
     refine ⟨(k + 1, p :: r), ⟨⟨by show k + 1 ≤ _; omega, hst.symm⟩, by show v.members.length - (k + 1) < v.members.length - k; omega⟩, ?_⟩
     (repeat' (first | exact trivial | exact Wk.refl _ | exact ObWk.refl _ | exact rfl | exact ⟨_, rfl⟩ | exact Nat.zero_lt_one | refine And.intro ?_ ?_ | unfold okTo | (unfold okO; conv => whnf) | (unfold okS; conv => whnf) | (unfold SlotOk; conv => whnf) | (unfold ObjOk; conv => whnf) | (unfold okCells; conv => whnf) | (unfold liveTo; conv => whnf) | exact Nat.zero_lt_succ _))
   ·have hge : v.members.length ≤ k := by have := of_decide_eq_false h; rw [List.length_map] at this; omega
    obtain rfl : k = v.members.length := by omega
    (conv => whnf)
    refine ⟨[0, 1, 2, 3], rfl, by (try unfold pullOk); (repeat' (first | exact trivial | exact ObWk.refl _ | refine And.intro ?_ ?_ | unfold pullOk)), ?_⟩
    rw [LNn, canL, ← canX, ← hL]
    exact Wk.list' _ rfl
end Go.Proofs.YtfbmknghfhancaaGreatDoor

namespace Go.Proofs.YtfbmknghfhancaaGreatDoor.H
open Go Go.AL Go.AL.Hd
set_option maxRecDepth 100000
set_option maxHeartbeats 4000000
theorem based_ (b : Int) : FCall Tryz.prog Gl 94 [vI b] [] (vB (decide (b = 8) || decide (b = 10))) [] := by
 refine FCall.enterL hT hmix [] Tryz.func94 rfl rfl rfl fun hbd => ?_
 (conv => whnf)
 refine split_intro (fun h => ?_) (fun h => ?_)
 ·obtain rfl : b = 8 := of_decide_eq_true h
  (conv => whnf)
  exact Wk.refl _
 ·have h' : decide (b = 8) = false := h
  (conv => whnf)
  exact Wk.bool (by simp [h']; rfl)
theorem ext_dig : ∀ d : Nat, d < 10 → (⟨#[48, 49, 50, 51, 52, 53, 54, 55, 56, 57]⟩ : ByteArray).extract d (d + 1) = sB [dgt d] := by decide
theorem tmod_nat (n b : Nat) : ((n : Int)).tmod b = ((n % b : Nat) : Int) := rfl
theorem tdiv_nat (n b : Nat) : ((n : Int)).tdiv b = ((n / b : Nat) : Int) := rfl
theorem sB_sz (l : Str) : (sB l).size = l.length := by simp [sB, ByteArray.size]
theorem sB_ap (a b : Str) : sB a ++ sB b = sB (a ++ b) := by
 apply ByteArray.ext
 simp [sB, ByteArray.data_append]
theorem dig_le {b : Nat} (hb : 2 ≤ b) (n : Nat) (hn : n ≤ 9223372036854775807) : (dig b n).length ≤ 63 := by
 refine (dig_len hb 62 n).2 ?_
 have h : 2 ^ 63 ≤ b ^ 63 := Nat.pow_le_pow_left hb 63
 have h2 : (2 : Nat) ^ 63 = 9223372036854775808 := by decide
 show n < b ^ 63
 omega
theorem text_ (b : Nat) (hb : 2 ≤ b) (hb2 : b ≤ 10) (n : Nat) (hn : n ≤ 9223372036854775807) : FCall Tryz.prog Gl 95 [vI n, vI b] [] (sD (dig b n)) [] := by
 induction n using Nat.strongRecOn with
 | ind n ih =>
  have hm := Nat.mod_lt n (show 0 < b by omega)
  refine FCall.enterL hT hmix [] Tryz.func95 rfl rfl rfl fun hbd => ?_
  (conv => whnf)
  refine ⟨_, rem64 (tmod_nat n b) (by omega), ?_⟩
  (conv => whnf)
  refine ⟨_, rem64 (tmod_nat n b) (by omega), ?_⟩
  (conv => whnf)
  refine ⟨_, add64 (c := ((n % b + 1 : Nat) : Int)) (by omega) (by omega), ?_⟩
  (conv => whnf)
  refine ⟨_, ⟨by omega, by omega, by show _ ≤ (10 : Int); omega, ext_dig (n % b) (by omega)⟩, ?_⟩
  (conv => whnf)
  refine split_intro (fun h => ?_) (fun h => ?_)
  ·have h' : n < b := by have := of_decide_eq_true h; omega
   rw [dig_lt h', Nat.mod_eq_of_lt h']
   (conv => whnf)
   exact Wk.refl _
  ·have h' : b ≤ n := by have := of_decide_eq_false h; omega
   rw [dig_ge hb h']
   have hlt : n / b < n := Nat.div_lt_self (by omega) (by omega)
   (conv => whnf)
   refine ⟨_, quo64n (by omega) (by omega), ?_⟩
   (conv => whnf)
   refine CallLeaf.wa (ih (n / b) hlt (by omega)) rfl ?_
   (conv => whnf)
   refine ⟨_, ⟨by rw [sB_sz, sB_sz]; have := dig_le hb (n / b) (by omega); simp only [List.length_singleton]; omega, sB_ap _ _⟩, ?_⟩
   exact Wk.refl _
abbrev spD (k : Nat) : D := match k with
 | 0 => .nil
 | k + 1 => .list (.tok 2576) ((sp (k + 1)).map byteD)
abbrev spO (k : Nat) : So := match k with
 | 0 => []
 | k + 1 => [(2576, .tok ((sp (k + 1)).map byteD).length 1)]
theorem sp_snoc (k : Nat) : sp k ++ [32] = sp (k + 1) := by rw [sp, sp, List.replicate_succ']
theorem spaces_ (n : Nat) (hn : n ≤ 1000) : FCall Tryz.prog Gl 69 [vI n] [] (LBn (sp n)) [] := by
 refine FCall.enterL hT hmix [] Tryz.func69 rfl rfl rfl fun hbd => ?_
 (conv => whnf)
 refine LWp.loop hT hmix [] (fun k : Nat => [(4, vI k), (3, spD k)]) (fun k => spO k) (fun k => k ≤ n) (fun k => n - k) 0 (Nat.zero_le _) ?_
 (conv => whnf)
 refine ⟨?_, fun k hk => ?_⟩
 ·(repeat' (first | exact trivial | exact Wk.refl _ | exact ObWk.refl _ | exact rfl | exact ⟨_, rfl⟩ | exact Nat.zero_lt_one | refine And.intro ?_ ?_ | unfold okTo | (unfold okO; conv => whnf) | (unfold okS; conv => whnf) | (unfold SlotOk; conv => whnf) | (unfold ObjOk; conv => whnf) | (unfold okCells; conv => whnf) | (unfold liveTo; conv => whnf) | exact Nat.zero_lt_succ _))
 ·cases k with
  | zero =>
   (conv => whnf)
   refine split_intro (fun h => ?_) (fun h => ?_)
   ·have hlt : 0 < n := by have := of_decide_eq_true h; omega
    (conv => whnf)
    refine ⟨_, appN (f := byteD) (ys := [32]) (fun _ => rfl) (by show 1 * 1 ≤ _; decide), ?_⟩
    (conv => whnf)
    refine ⟨1, rfl, ?_⟩
    (conv => whnf)
    refine ⟨1, ⟨by omega, by simp only []; omega⟩, ?_⟩
    (repeat' (first | exact trivial | exact Wk.refl _ | exact ObWk.refl _ | exact rfl | exact ⟨_, rfl⟩ | exact Nat.zero_lt_one | refine And.intro ?_ ?_ | unfold okTo | (unfold okO; conv => whnf) | (unfold okS; conv => whnf) | (unfold SlotOk; conv => whnf) | (unfold ObjOk; conv => whnf) | (unfold okCells; conv => whnf) | (unfold liveTo; conv => whnf) | exact Nat.zero_lt_succ _))
   ·obtain rfl : n = 0 := by have := of_decide_eq_false h; omega
    (conv => whnf)
    exact Wk.natN rfl
  | succ k =>
   (conv => whnf)
   refine split_intro (fun h => ?_) (fun h => ?_)
   ·have hlt : k + 1 < n := by have := of_decide_eq_true h; omega
    (conv => whnf)
    refine ⟨_, appL (f := byteD) (xs := sp (k + 1)) (ys := [32]) (zs := sp (k + 1 + 1)) rfl rfl (fun _ => rfl) (sp_snoc (k + 1)) (by rw [List.length_replicate]; show _ * 1 ≤ _; omega), ?_⟩
    (conv => whnf)
    refine ⟨_, add64 (c := ((k + 1 + 1 : Nat) : Int)) (by (try simp only []); omega) (by omega), ?_⟩
    (conv => whnf)
    refine ⟨k + 1 + 1, ⟨by omega, by simp only []; omega⟩, ?_⟩
    (repeat' (first | exact trivial | exact Wk.refl _ | exact ObWk.refl _ | exact rfl | exact ⟨_, rfl⟩ | exact Nat.zero_lt_one | refine And.intro ?_ ?_ | unfold okTo | (unfold okO; conv => whnf) | (unfold okS; conv => whnf) | (unfold SlotOk; conv => whnf) | (unfold ObjOk; conv => whnf) | (unfold okCells; conv => whnf) | (unfold liveTo; conv => whnf) | exact Nat.zero_lt_succ _))
   ·obtain rfl : n = k + 1 := by have := of_decide_eq_false h; omega
    (conv => whnf)
    exact Wk.nat' rfl
theorem based_of {b : Nat} (h : b = 8 ∨ b = 10) : (decide ((b : Int) = 8) || decide ((b : Int) = 10)) = true := by rcases h with rfl | rfl <;> rfl
theorem format_ (n : Int) (b w : Nat) (hb : b = 8 ∨ b = 10) (hw : 1 ≤ w) (hw2 : w ≤ 18) (hn : n ≤ 9223372036854775807) : FCall Tryz.prog Gl 85 [vI n, vI b, vI w] [] (.tuple [LBn (fmtR b w n).1, vI (fmtR b w n).2]) [] := by
 have B := based_ b
 rw [based_of hb] at B
 have hb2 : 2 ≤ b := by omega
 have hb10 : b ≤ 10 := by omega
 refine FCall.enterL hT hmix [] Tryz.func85 rfl rfl rfl fun hbd => ?_
 (conv => whnf)
 refine CallLeaf.wa (B) rfl ?_
 (conv => whnf)
 refine split_intro (fun h => absurd h (by (simp; omega))) (fun _ => ?_)
 (conv => whnf)
 refine split_intro (fun h => absurd h (by (simp; omega))) (fun _ => ?_)
 (conv => whnf)
 refine split_intro (fun h => ?_) (fun h => ?_)
 ·have hneg : n < 0 := of_decide_eq_true h
  have e : fmtR b w n = ([], 9) := by simp [fmtR, fmt, hneg]
  rw [e]
  (conv => whnf)
  refine Wk.tuple (Wks.cons (Wk.natN rfl) (Wks.cons (Wk.refl _) Wks.nil))
 ·have hneg : ¬ n < 0 := of_decide_eq_false h
  obtain ⟨m, rfl⟩ : ∃ m : Nat, n = (m : Int) := ⟨n.toNat, by omega⟩
  have T := text_ b hb2 hb10 m (by omega)
  (conv => whnf)
  refine CallLeaf.wa (T) rfl ?_
  (conv => whnf)
  refine split_intro (fun h2 => ?_) (fun h2 => ?_)
  ·have hl : w < (dig b m).length := by have := of_decide_eq_true h2; rw [sB_sz] at this; omega
   have e : fmtR b w (m : Int) = ([], 9) := by simp [fmtR, fmt, hl]
   rw [e]
   (conv => whnf)
   refine Wk.tuple (Wks.cons (Wk.natN rfl) (Wks.cons (Wk.refl _) Wks.nil))
  ·have hl : (dig b m).length ≤ w := by have := of_decide_eq_false h2; rw [sB_sz] at this; omega
   have e : fmtR b w (m : Int) = (dig b m ++ sp (w - (dig b m).length), 0) := by
    have : ¬ ((m : Int) < 0 ∨ w < (dig b m).length) := by omega
    simp only [fmtR, fmt, Int.toNat_natCast, if_neg this]
   rw [e]
   generalize dig b m = L at *
   (conv => whnf)
   refine CallLeaf.wa (T) rfl ?_
   (conv => whnf)
   refine ⟨by show L.length ≤ _; omega, ?_⟩
   (conv => whnf)
   refine LWp.loop hT hmix [] (fun k : Nat => [(8, .list (.tok 2584) ((L ++ sp k).map byteD))]) (fun k => [(2584, .tok ((L ++ sp k).map byteD).length 1)]) (fun k => k ≤ w - L.length) (fun k => w - L.length - k) 0 (Nat.zero_le _) ?_
   (conv => whnf)
   refine ⟨?_, fun k hk => ?_⟩
   ·(repeat' (first | exact trivial | exact Wk.refl _ | exact ObWk.refl _ | exact rfl | exact ⟨_, rfl⟩ | exact Nat.zero_lt_one | refine And.intro ?_ ?_ | unfold okTo | (unfold okO; conv => whnf) | (unfold okS; conv => whnf) | (unfold SlotOk; conv => whnf) | (unfold ObjOk; conv => whnf) | (unfold okCells; conv => whnf) | (unfold liveTo; conv => whnf) | exact Nat.zero_lt_succ _))
    ·exact ObWk.of_eq (by simp [sB])
    ·show Wk (.list (.tok 2584) _) _
     exact Wk.of_eq (by simp [sB])
   ·(conv => whnf)
    refine split_intro (fun h3 => ?_) (fun h3 => ?_)
    ·have hlt : k < w - L.length := by have := of_decide_eq_true h3; simp only [List.length_map, List.length_append, List.length_replicate] at this; omega
     (conv => whnf)
     refine ⟨_, appL (f := byteD) (xs := L ++ sp k) (ys := [32]) (zs := L ++ sp (k + 1)) rfl rfl (fun _ => rfl) (by rw [List.append_assoc, sp_snoc]) (by rw [List.length_append, List.length_replicate]; show _ * 1 ≤ _; omega), ?_⟩
     (conv => whnf)
     refine ⟨k + 1, ⟨by omega, by simp only []; omega⟩, ?_⟩
     (repeat' (first | exact trivial | exact Wk.refl _ | exact ObWk.refl _ | exact rfl | exact ⟨_, rfl⟩ | exact Nat.zero_lt_one | refine And.intro ?_ ?_ | unfold okTo | (unfold okO; conv => whnf) | (unfold okS; conv => whnf) | (unfold SlotOk; conv => whnf) | (unfold ObjOk; conv => whnf) | (unfold okCells; conv => whnf) | (unfold liveTo; conv => whnf) | exact Nat.zero_lt_succ _))
    ·obtain rfl : k = w - L.length := by have := of_decide_eq_false h3; simp only [List.length_map, List.length_append, List.length_replicate] at this; omega
     (conv => whnf)
     refine Wk.tuple (Wks.cons (Wk.nat' rfl) (Wks.cons (Wk.refl _) Wks.nil))
end Go.Proofs.YtfbmknghfhancaaGreatDoor.H
