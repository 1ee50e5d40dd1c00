/- Tables of symbols within the state of a scan. No condition. -/
import Derived.Test.YtfbmknghfhancaaGreatDoorGAc
import Derived.Test.YtfbmknghfhancaaGreatDoorGWb
import Derived.Test.YtfbmknghfhancaaGreatDoorGWc
import Derived.Test.YtfbmknghfhancaaGreatDoorGPa
set_option linter.unusedVariables false
set_option linter.unusedSimpArgs false
namespace Go.Proofs.YtfbmknghfhancaaGreatDoor
open Go Go.AL Go.AL.Bd Go.AL.Tb Go.AL.Sc
set_option maxRecDepth 100000
set_option maxHeartbeats 4000000
theorem cloneI_ (r : List Int) (hr : r.length ≤ 1000000000) : FCall Tryz.prog Gl 86 [LI r] [] (LIn r) [] := by
 refine FCall.enterL hT hmix [] Tryz.func86 rfl rfl rfl fun hbd => ?_
 (conv => whnf)
 refine And.intro (fun he => ?_) (fun he => ?_)
 ·have hr0 : r = [] := by simpa using he
  subst hr0
  (conv => whnf)
  refine And.intro ?_ ?_
  ·(conv => whnf)
   exact Wk.natN rfl
  ·(conv => whnf)
   refine ⟨_, appL (f := eI) (xs := []) (ys := []) (zs := []) rfl rfl (fun _ => rfl) rfl (by decide), ?_⟩
   (conv => whnf)
   exact Wk.nat' rfl
 ·(conv => whnf)
  refine ⟨_, appL (f := eI) (xs := []) (ys := r) (zs := r) rfl rfl (fun _ => rfl) rfl (by show _ * 8 ≤ _; omega), ?_⟩
  (conv => whnf)
  exact Wk.nat' rfl
abbrev oD2 (o : Ob.Obj) : D := .agg [.list .any (SE o.syms), LB o.body]
def keyV (p : Str × Nat) : Value := .agg #[.string (sB p.1), .int .i64 (p.2 : Int)]
def kents (ld : List (Str × Nat)) : Ents := ld.map fun p => (keyV p, vB true)
abbrev tokU (us : List Unt) : AObj := .tok (us.map Unt.enc).length 3
abbrev Zs : List AObj := [.cells [.nil, mN, vI 0, mN]]
abbrev Ys (us : List Unt) : List AObj := [.cells [.list (.tok 1) (us.map Unt.enc), mN, vI 0, mN], tokU us]
abbrev As (us : List Unt) (n : Nat) (T : Sy.Tb) : List AObj := [.cells [.list (.tok 1) (us.map Unt.enc), mN, vI n, .map 2], tokU us, .map (Sy.ents T)]
abbrev Bs (us : List Unt) (ld : List (Str × Nat)) (n : Nat) (T : Sy.Tb) : List AObj := [.cells [.list (.tok 1) (us.map Unt.enc), .map 3, vI n, .map 2], tokU us, .map (Sy.ents T), .map (kents ld)]
abbrev BqA (us : List Unt) (n : Nat) (U : List Use) : List AObj := [.cells [.ptr 1 2], .cells [.list (.tok 2) (us.map Unt.enc), mN, vI n, .map 3], tokU us, .map (Sy.ents (Sy.build U))]
abbrev BqB (us : List Unt) (ld : List (Str × Nat)) (n : Nat) (U : List Use) : List AObj := [.cells [.ptr 1 2], .cells [.list (.tok 2) (us.map Unt.enc), .map 4, vI n, .map 3], tokU us, .map (Sy.ents (Sy.build U)), .map (kents ld)]
abbrev wF : D := .func (.func 49) [] [.ptr 0 0]
def idxF (p : Str → Bool) (l : List Str) : Int := match l.findIdx? p with | some i => (i : Int) | none => -1
abbrev kept (U : List Use) (l : List Str) : List Str := l.filter (keepW U)
abbrev left (U : List Use) (l : List Str) : List Str := kept U l ++ List.replicate (l.length - (kept U l).length) []
theorem left_len (U : List Use) (l : List Str) : (left U l).length = l.length := by
 have := List.length_filter_le (keepW U) l
 simp only [left, kept, List.length_append, List.length_replicate]; omega
theorem nextY_ (us : List Unt) (T : Sy.Tb) : FCall Tryz.prog Gl 78 [.ptr 0 2] [.cells [.list (.tok 1) (us.map Unt.enc), mN, vI 0, .map 2], tokU us, .map (Sy.ents T)] (vI 0) [.cells [.list (.tok 1) (us.map Unt.enc), mN, vI 1, .map 2], tokU us, .map (Sy.ents T)] := by
 refine FCall.enterO hT hmix [] Tryz.func78 rfl rfl rfl fun hbd => ?_
 (conv => whnf)
 refine ⟨1, by first | rfl | exact add64 (by omega) (by omega), ?_⟩
 (conv => whnf)
 refine ⟨0, by first | rfl | exact sub64 (by omega) (by omega), ?_⟩
 (conv => whnf)
 refine ⟨[0, 1, 2], rfl, by (try unfold pullOk); (repeat' (first | exact trivial | exact ObWk.refl _ | refine And.intro ?_ ?_ | unfold pullOk)), ?_⟩
 exact Wk.refl _
theorem nextA_ (us : List Unt) (n : Nat) (T : Sy.Tb) (hn : n ≤ 1000000000) : FCall Tryz.prog Gl 78 [.ptr 0 2] (As us n T) (vI n) (As us (n + 1) T) := by
 refine FCall.enterO hT hmix [] Tryz.func78 rfl rfl rfl fun hbd => ?_
 (conv => whnf)
 refine ⟨_, add64 (c := ((n + 1 : Nat) : Int)) (by omega) (by omega), ?_⟩
 (conv => whnf)
 refine ⟨_, sub64 (c := (n : Int)) (by omega) (by omega), ?_⟩
 (conv => whnf)
 refine ⟨[0, 1, 2], rfl, by (try unfold pullOk); (repeat' (first | exact trivial | exact ObWk.refl _ | refine And.intro ?_ ?_ | unfold pullOk)), ?_⟩
 exact Wk.refl _
theorem tloadA_ (us : List Unt) (U : List Use) (n : Nat) (l : List Ob.Sym) (x : List UInt8) (hU : Sy.okB U) (hl : ∀ s ∈ l, 1 ≤ s.bind ∧ s.bind ≤ 5) (hb : U.length + l.length ≤ 900000) (hn : n ≤ 100000000) :
  FCall Tryz.prog Gl 61 [.ptr 0 2, oD2 ⟨l, x⟩] (As us n (Sy.build U)) (vI n) (As us (n + 1) (Sy.build (U ++ Sy.uses n l))) := by
 refine FCall.enterO hT hmix [] Tryz.func61 rfl rfl rfl fun hbd => ?_
 (conv => whnf)
 refine CallLeaf.oa [0, 1, 2] (nextA_ us n (Sy.build U) (by omega)) rfl rfl rfl rfl ?_
 (conv => whnf)
 refine LWp.loop hT hmix [] (fun k : Nat => [(28, vI k)]) (fun k => [(2, .map (Sy.ents (Sy.build (U ++ Sy.uses n (l.take k)))))]) (fun k => k ≤ l.length) (fun k => l.length - k) 0 (Nat.zero_le _) ?_
 (conv => whnf)
 refine ⟨?_, fun k hk => ?_⟩
 ·(repeat' (first | exact trivial | exact Wk.refl _ | exact ObWk.refl _ | exact rfl | exact ⟨_, rfl⟩ | exact Nat.zero_lt_one | refine And.intro ?_ ?_ | unfold okTo | (unfold okO; conv => whnf) | (unfold okS; conv => whnf) | (unfold SlotOk; conv => whnf) | (unfold ObjOk; conv => whnf) | (unfold okCells; conv => whnf) | (unfold liveTo; conv => whnf) | exact Nat.zero_lt_succ _))
  exact ObWk.of_eq (by simp [Sy.uses])
 ·(conv => whnf)
  refine split_intro (fun h => ?_) (fun h => ?_)
  ·have hlt : k < l.length := by simpa using h
   obtain ⟨s, hs⟩ := exI hlt
   have hV : Sy.okB (U ++ Sy.uses n (l.take k)) := hU.app (fun u hu => by
    obtain ⟨y, hy, rfl⟩ := List.mem_map.1 hu
    exact hl y (List.mem_of_mem_take hy))
   have hVl : (U ++ Sy.uses n (l.take k)).length ≤ 900000 := by simp [Sy.uses]; omega
   have hnew : Sy.build (U ++ Sy.uses n (l.take (k + 1))) = Sy.add1 (Sy.build (U ++ Sy.uses n (l.take k))) ⟨Sy.toB s, (n : Int)⟩ := by
    rw [Sy.uses_take hs, ← List.append_assoc, Sy.build_snoc]
   have hsl : 1 ≤ s.bind ∧ s.bind ≤ 5 := hl s (List.mem_of_getElem? hs)
   have hget := Sy.tget_build s.name (U ++ Sy.uses n (l.take k))
   have hgd := Sy.tget_getD s.name (U ++ Sy.uses n (l.take k))
   have hM := merge_ ((Sy.tget (Sy.build (U ++ Sy.uses n (l.take k))) s.name).getD empty) (Sy.toB s) (n : Int) (by rw [hgd]; exact Sy.all_bind (hV.of _)) hsl (by rw [hgd]; have := Sy.all_strongs (Sy.of (U ++ Sy.uses n (l.take k)) s.name); have := Sy.of_le (U ++ Sy.uses n (l.take k)) s.name; omega)
   have hset : ∀ st, (Sy.tget (Sy.build (U ++ Sy.uses n (l.take k))) s.name).getD empty = st → mset (Sy.ents (Sy.build (U ++ Sy.uses n (l.take k)))) (.string (sB s.name)) (.agg (merge st (Sy.toB s) n).enc) = Sy.ents (Sy.build (U ++ Sy.uses n (l.take (k + 1)))) := fun st e => by
    rw [hnew, ← e]; exact Sy.mset_ents _ _ _
   cases hT : Sy.tget (Sy.build (U ++ Sy.uses n (l.take k))) s.name with
   | none =>
    rw [hT] at hM
    (conv => whnf)
    refine ⟨_, ⟨by omega, getMap hs⟩, ?_⟩
    (conv => whnf)
    refine ⟨_, ⟨Sy.ents_keys _, Sy.look_none hT _⟩, ?_⟩
    (conv => whnf)
    refine CallLeaf.wa (empty_) rfl ?_
    (conv => whnf)
    refine CallLeaf.wa (hM) rfl ?_
    (conv => whnf)
    refine ⟨_, ⟨Sy.ents_keys _, hset empty (by rw [hT]; rfl)⟩, ?_⟩
    (conv => whnf)
    refine ⟨_, add64 (c := ((k + 1 : Nat) : Int)) (by (try simp only []); omega) (by omega), ?_⟩
    (conv => whnf)
    refine ⟨k + 1, ⟨by omega, by simp only []; omega⟩, ?_⟩
    (repeat' (first | exact trivial | exact Wk.refl _ | exact ObWk.refl _ | exact rfl | exact ⟨_, rfl⟩ | exact Nat.zero_lt_one | refine And.intro ?_ ?_ | unfold okTo | (unfold okO; conv => whnf) | (unfold okS; conv => whnf) | (unfold SlotOk; conv => whnf) | (unfold ObjOk; conv => whnf) | (unfold okCells; conv => whnf) | (unfold liveTo; conv => whnf) | exact Nat.zero_lt_succ _))
   | some st =>
    rw [hT] at hM
    (conv => whnf)
    refine ⟨_, ⟨by omega, getMap hs⟩, ?_⟩
    (conv => whnf)
    refine ⟨_, ⟨Sy.ents_keys _, Sy.look_some hT _⟩, ?_⟩
    (conv => whnf)
    refine CallLeaf.wa (hM) rfl ?_
    (conv => whnf)
    refine ⟨_, ⟨Sy.ents_keys _, hset st (by rw [hT]; rfl)⟩, ?_⟩
    (conv => whnf)
    refine ⟨_, add64 (c := ((k + 1 : Nat) : Int)) (by (try simp only []); omega) (by omega), ?_⟩
    (conv => whnf)
    refine ⟨k + 1, ⟨by omega, by simp only []; omega⟩, ?_⟩
    (repeat' (first | exact trivial | exact Wk.refl _ | exact ObWk.refl _ | exact rfl | exact ⟨_, rfl⟩ | exact Nat.zero_lt_one | refine And.intro ?_ ?_ | unfold okTo | (unfold okO; conv => whnf) | (unfold okS; conv => whnf) | (unfold SlotOk; conv => whnf) | (unfold ObjOk; conv => whnf) | (unfold okCells; conv => whnf) | (unfold liveTo; conv => whnf) | exact Nat.zero_lt_succ _))
  ·have hge : l.length ≤ k := by simpa using h
   (conv => whnf)
   refine ⟨[0, 1, 2], rfl, by (try unfold pullOk); (repeat' (first | exact trivial | exact ObWk.refl _ | exact ObWk.of_eq (by rw [List.take_of_length_le hge]) | refine And.intro ?_ ?_ | unfold pullOk)), ?_⟩
   exact Wk.refl _
theorem tstateA_ (us : List Unt) (U : List Use) (n : Nat) (s : Str) (hl : U.length ≤ 1000000) :
  FCall Tryz.prog Gl 71 [.ptr 0 2, sD s] (As us n (Sy.build U)) (.agg (all (Sy.of U s)).encN) (As us n (Sy.build U)) := by
 have hget := Sy.tget_build s U
 have h1 := Sy.all_strongs (Sy.of U s)
 have h2 := Sy.of_le U s
 by_cases hS : Sy.of U s = []
 ·rw [if_pos hS] at hget
  rw [hS]
  refine FCall.enterO hT hmix [] Tryz.func71 rfl rfl rfl fun hbd => ?_
  (conv => whnf)
  refine ⟨_, ⟨Sy.ents_keys _, Sy.look_none hget _⟩, ?_⟩
  (conv => whnf)
  refine CallLeaf.wa (empty_) rfl ?_
  (conv => whnf)
  refine ⟨[0, 1, 2], rfl, by (try unfold pullOk); (repeat' (first | exact trivial | exact ObWk.refl _ | refine And.intro ?_ ?_ | unfold pullOk)), ?_⟩
  exact Wk.refl _
 ·rw [if_neg hS] at hget
  refine FCall.enterO hT hmix [] Tryz.func71 rfl rfl rfl fun hbd => ?_
  (conv => whnf)
  refine ⟨_, ⟨Sy.ents_keys _, Sy.look_some hget _⟩, ?_⟩
  (conv => whnf)
  refine CallLeaf.wa (cloneI_ (all (Sy.of U s)).strongs (by omega)) rfl ?_
  (conv => whnf)
  refine ⟨[0, 1, 2], rfl, by (try unfold pullOk); (repeat' (first | exact trivial | exact ObWk.refl _ | refine And.intro ?_ ?_ | unfold pullOk)), ?_⟩
  exact Wk.refl _
theorem tnamesA_ (us : List Unt) (U : List Use) (n : Nat) (hU : ∀ u ∈ U, u.sym.name.length ≤ 1000000) (hl : U.length ≤ 1000000) :
  FCall Tryz.prog Gl 48 [.ptr 0 2] (As us n (Sy.build U)) (LSn (Sy.names U)) (As us n (Sy.build U)) := by
 refine FCall.enterO hT hmix [] Tryz.func48 rfl rfl rfl fun hbd => ?_
 (conv => whnf)
 refine CallLeaf.oa [2, 1571] (keys_ (Sy.build U)) rfl rfl rfl rfl ?_
 (conv => whnf)
 refine CallLeaf.oa [1571, 2] (sortedL_ U hU hl) rfl rfl rfl rfl ?_
 (conv => whnf)
 refine ⟨[0, 1, 2], rfl, by (try unfold pullOk); (repeat' (first | exact trivial | exact ObWk.refl _ | refine And.intro ?_ ?_ | unfold pullOk)), ?_⟩
 exact Wk.refl _
theorem tnamesAA_ (us : List Unt) (U : List Use) (n : Nat) (hU : ∀ u ∈ U, u.sym.name.length ≤ 1000000) (hl : U.length ≤ 1000000) :
  FCall Tryz.prog Gl 48 [.ptr 0 2] (As us n (Sy.build U)) (.sl 3 0 0 (Sy.names U).length) (As us n (Sy.build U) ++ [.arr 0 1 ((Sy.names U).map eS)]) := by
 refine FCall.enterO hT hmix [] Tryz.func48 rfl rfl rfl fun hbd => ?_
 (conv => whnf)
 refine CallLeaf.oa [2, 1571] (keys_ (Sy.build U)) rfl rfl rfl rfl ?_
 (conv => whnf)
 refine CallLeaf.oa [1571, 2, 1579] (sortedA_ U hU hl) rfl rfl rfl rfl ?_
 (conv => whnf)
 refine ⟨[0, 1, 2, 1579], rfl, by (try unfold pullOk); (repeat' (first | exact trivial | exact ObWk.refl _ | refine And.intro ?_ ?_ | unfold pullOk)), ?_⟩
 exact Wk.refl _
theorem wclosA_ (us : List Unt) (U : List Use) (n : Nat) (s : Str) (hs : s ∈ Sy.names U) :
  FCall Tryz.prog Gl 49 [sD s, .ptr 0 0] (BqA us n U) (vB (!keepW U s)) (BqA us n U) := by
 have hTb : Sy.tget (Sy.build U) s = some (all (Sy.of U s)) := by
  rw [Sy.tget_build, if_neg ((Sy.mem_names s U).1 hs)]
 refine FCall.enterO hT hmix [] Tryz.func49 rfl rfl rfl fun hbd => ?_
 (conv => whnf)
 refine ⟨_, ⟨Sy.ents_keys _, Sy.look1 hTb _⟩, ?_⟩
 (conv => whnf)
 refine CallLeaf.wa (wanted_ (all (Sy.of U s))) rfl ?_
 (conv => whnf)
 refine ⟨[0, 1, 2, 3], rfl, by (try unfold pullOk); (repeat' (first | exact trivial | exact ObWk.refl _ | refine And.intro ?_ ?_ | unfold pullOk)), ?_⟩
 exact Wk.refl _
theorem indexFA_ (us : List Unt) (U : List Use) (n : Nat) (g : Nat) (l : List Str) (hs : ∀ s ∈ l, s ∈ Sy.names U) (hl : l.length ≤ 1000000) :
  FCall Tryz.prog Gl 62 [.sl 4 g 0 l.length, wF] (BqA us n U ++ [.arr g 1 (l.map eS)]) (vI (idxF (fun s => !keepW U s) l)) (BqA us n U ++ [.arr g 1 (l.map eS)]) := by
 refine FCall.enterO hT hmix [] Tryz.func62 rfl rfl rfl fun hbd => ?_
 (conv => whnf)
 refine LWp.loop hT hmix [] (fun k : Nat => [(8, vI k)]) (fun _ => []) (fun k => k ≤ l.length ∧ ∀ s ∈ l.take k, keepW U s = true) (fun k => l.length - k) 0 ⟨Nat.zero_le _, by simp⟩ ?_
 (conv => whnf)
 refine ⟨?_, fun k ⟨hk, hkk⟩ => ?_⟩
 ·(repeat' (first | exact trivial | exact Wk.refl _ | exact ObWk.refl _ | exact rfl | exact ⟨_, rfl⟩ | exact Nat.zero_lt_one | refine And.intro ?_ ?_ | unfold okTo | (unfold okO; conv => whnf) | (unfold okS; conv => whnf) | (unfold SlotOk; conv => whnf) | (unfold ObjOk; conv => whnf) | (unfold okCells; conv => whnf) | (unfold liveTo; conv => whnf) | exact Nat.zero_lt_succ _))
 ·(conv => whnf)
  refine split_intro (fun h => ?_) (fun h => ?_)
  ·have hlt : k < l.length := by simpa using h
   obtain ⟨s, hx⟩ := exI hlt
   have hin := hs s (List.mem_of_getElem? hx)
   (conv => whnf)
   refine ⟨⟨rfl, rfl, by omega, by omega, by simp⟩, ?_⟩
   (conv => whnf)
   refine ⟨eS s, ⟨rfl, rfl, by simp [hx]⟩, ?_⟩
   (conv => whnf)
   refine CallLeaf.oa [0, 1, 2, 3] (wclosA_ us U n s hin) rfl rfl rfl rfl ?_
   (conv => whnf)
   refine split_intro (fun hp => ?_) (fun hp => ?_)
   ·have hp' : keepW U s = false := by simpa using hp
    have hidx : idxF (fun s => !keepW U s) l = (k : Int) := by
     unfold idxF
     have : l.findIdx? (fun s => !keepW U s) = some k := by
      rw [List.findIdx?_eq_some_iff_getElem]
      have e : l[k] = s := by simpa [hlt] using hx
      refine ⟨hlt, by simp [e, hp'], fun j hj => ?_⟩
      have := hkk (l[j]'(by omega)) (List.mem_take_iff_getElem.2 ⟨j, by omega, rfl⟩)
      simp [this]
     rw [this]
    rw [hidx]
    (conv => whnf)
    refine ⟨[0, 1, 2, 3, 4], rfl, by (try unfold pullOk); (repeat' (first | exact trivial | exact ObWk.refl _ | refine And.intro ?_ ?_ | unfold pullOk)), ?_⟩
    exact Wk.refl _
   ·have hp' : keepW U s = true := by simpa using hp
    (conv => whnf)
    refine ⟨_, add64 (c := ((k + 1 : Nat) : Int)) (by (try simp only []); omega) (by omega), ?_⟩
    (conv => whnf)
    refine ⟨k + 1, ⟨⟨by omega, fun y hy => ?_⟩, by simp only []; omega⟩, ?_⟩
    ·rw [List.take_add_one, hx] at hy
     simp only [Option.toList_some, List.mem_append, List.mem_singleton] at hy
     rcases hy with hy | rfl
     ·exact hkk y hy
     ·exact hp'
    ·(repeat' (first | exact trivial | exact Wk.refl _ | exact ObWk.refl _ | exact rfl | exact ⟨_, rfl⟩ | exact Nat.zero_lt_one | refine And.intro ?_ ?_ | unfold okTo | (unfold okO; conv => whnf) | (unfold okS; conv => whnf) | (unfold SlotOk; conv => whnf) | (unfold ObjOk; conv => whnf) | (unfold okCells; conv => whnf) | (unfold liveTo; conv => whnf) | exact Nat.zero_lt_succ _))
  ·have hge : l.length ≤ k := by simpa using h
   rw [List.take_of_length_le hge] at hkk
   have hidx : idxF (fun s => !keepW U s) l = -1 := by
    unfold idxF
    have : l.findIdx? (fun s => !keepW U s) = none := by
     rw [List.findIdx?_eq_none_iff]
     intro y hy; simp [hkk y hy]
    rw [this]
   rw [hidx]
   (conv => whnf)
   refine ⟨[0, 1, 2, 3, 4], rfl, by (try unfold pullOk); (repeat' (first | exact trivial | exact ObWk.refl _ | refine And.intro ?_ ?_ | unfold pullOk)), ?_⟩
   exact Wk.refl _
theorem deleteFA_ (us : List Unt) (U : List Use) (n : Nat) (g : Nat) (l : List Str) (hs : ∀ s ∈ l, s ∈ Sy.names U) (hl : l.length ≤ 1000000) :
  FCall Tryz.prog Gl 47 [.sl 4 g 0 l.length, wF] (BqA us n U ++ [.arr g 1 (l.map eS)]) (.sl 4 g 0 (kept U l).length) (BqA us n U ++ [.arr g 1 ((left U l).map eS)]) := by
 have hI := indexFA_ us U n g l hs hl
 unfold idxF at hI
 cases hf : l.findIdx? (fun s => !keepW U s) with
 | none =>
  rw [hf] at hI
  have hall : kept U l = l := by
   rw [List.findIdx?_eq_none_iff] at hf
   exact List.filter_eq_self.2 fun y hy => by simpa using hf y hy
  have hleft : left U l = l := by simp [left, hall]
  rw [hleft, hall]
  refine FCall.enterO hT hmix [] Tryz.func47 rfl rfl rfl fun hbd => ?_
  (conv => whnf)
  refine CallLeaf.oa [0, 1, 2, 3, 4] (hI) rfl rfl rfl rfl ?_
  (conv => whnf)
  refine ⟨[0, 1, 2, 3, 4], rfl, by (try unfold pullOk); (repeat' (first | exact trivial | exact ObWk.refl _ | refine And.intro ?_ ?_ | unfold pullOk)), ?_⟩
  exact Wk.refl _
 | some i0 =>
  rw [hf] at hI
  replace hI : FCall Tryz.prog Gl 62 [.sl 4 g 0 l.length, wF] (BqA us n U ++ [.arr g 1 (l.map eS)]) (vI (i0 : Int)) (BqA us n U ++ [.arr g 1 (l.map eS)]) := hI
  obtain ⟨h0, h1, h2⟩ := List.findIdx?_eq_some_iff_getElem.1 hf
  refine FCall.enterO hT hmix [] Tryz.func47 rfl rfl rfl fun hbd => ?_
  (conv => whnf)
  refine CallLeaf.oa [0, 1, 2, 3, 4] (hI) rfl rfl rfl rfl ?_
  (conv => whnf)
  refine ⟨_, add64 (c := ((i0 + 1 : Nat) : Int)) (by omega) (by omega), ?_⟩
  (conv => whnf)
  refine LWp.loop hT hmix [] (fun x : Nat × Nat × List Str => [(6, vI x.1), (5, vI x.2.1)]) (fun x => [(4, .arr g 1 (x.2.2.map eS))]) (fun y => y.1 ≤ l.length ∧ y.2.1 ≤ y.1 ∧ y.2.2.length = l.length ∧ y.2.2.take y.2.1 = kept U (l.take y.1) ∧ y.2.2.drop y.1 = l.drop y.1) (fun x => l.length - x.1) (i0 + 1, i0, l) ⟨by show i0 + 1 ≤ l.length; omega, by show i0 ≤ i0 + 1; omega, rfl, ?_, rfl⟩ ?_
  ·show l.take i0 = kept U (l.take (i0 + 1))
   have e : l[i0]? = some l[i0] := by simp [h0]
   rw [List.take_add_one, e]
   simp only [kept, Option.toList_some, List.filter_append]
   have a1 : (l.take i0).filter (keepW U) = l.take i0 := List.filter_eq_self.2 fun y hy => by
    obtain ⟨j, hj, rfl⟩ := List.mem_take_iff_getElem.1 hy
    have := h2 j (by omega)
    simpa using this
   have a2 : [l[i0]].filter (keepW U) = [] := by
    have : keepW U l[i0] = false := by simpa using h1
    simp [this]
   rw [a1, a2, List.append_nil]
  (conv => whnf)
  refine ⟨?_, fun ⟨j, i, xs⟩ ⟨hj, hij, hxl, hxt, hxd⟩ => ?_⟩
  ·(repeat' (first | exact trivial | exact Wk.refl _ | exact ObWk.refl _ | exact rfl | exact ⟨_, rfl⟩ | exact Nat.zero_lt_one | refine And.intro ?_ ?_ | unfold okTo | (unfold okO; conv => whnf) | (unfold okS; conv => whnf) | (unfold SlotOk; conv => whnf) | (unfold ObjOk; conv => whnf) | (unfold okCells; conv => whnf) | (unfold liveTo; conv => whnf) | exact Nat.zero_lt_succ _))
  ·replace hj : j ≤ l.length := hj
   replace hij : i ≤ j := hij
   replace hxl : xs.length = l.length := hxl
   replace hxt : xs.take i = kept U (l.take j) := hxt
   replace hxd : xs.drop j = l.drop j := hxd
   (conv => whnf)
   refine split_intro (fun h => ?_) (fun h => ?_)
   ·have hlt : j < l.length := by simpa using h
    obtain ⟨v, hv⟩ := exI hlt
    have hxv : xs[j]? = some v := by
     have := congrArg (fun z : List Str => z[0]?) hxd
     simpa [List.getElem?_drop, hv] using this
    have hin := hs v (List.mem_of_getElem? hv)
    (conv => whnf)
    refine ⟨⟨rfl, rfl, by omega, by simp only []; omega, by simp [hxl]⟩, ?_⟩
    (conv => whnf)
    refine ⟨eS v, ⟨rfl, rfl, by simp [hxv]⟩, ?_⟩
    (conv => whnf)
    refine CallLeaf.oa [0, 1, 2, 3] (wclosA_ us U n v hin) rfl rfl rfl rfl ?_
    (conv => whnf)
    have hstep : ∀ b, keepW U v = b → kept U (l.take (j + 1)) = kept U (l.take j) ++ (if b then [v] else []) := by
     intro b hb
     rw [List.take_add_one, hv]
     simp only [kept, Option.toList_some, List.filter_append]
     congr 1
     cases b <;> simp [hb]
    have hdr : xs.drop (j + 1) = l.drop (j + 1) := by
     have := congrArg (List.drop 1) hxd
     simpa [List.drop_drop, Nat.add_comm] using this
    refine split_intro (fun hp => ?_) (fun hp => ?_)
    ·have hp' : keepW U v = true := by simpa using hp
     obtain ⟨c, hc⟩ := exI (l := xs) (k := i) (by omega)
     (conv => whnf)
     refine ⟨⟨rfl, rfl, by omega, by simp only []; omega, by simp [hxl]⟩, ?_⟩
     (conv => whnf)
     refine ⟨eS c, (xs.set i v).map eS, ⟨rfl, rfl, by simp only [Nat.zero_add, Int.toNat_natCast]; exact getMap hc⟩, ⟨Nat.le_refl 1, by simp [setCells, toCells]⟩, ?_⟩
     (conv => whnf)
     refine ⟨_, add64 (c := ((i + 1 : Nat) : Int)) (by (try simp only []); omega) (by omega), ?_⟩
     (conv => whnf)
     refine ⟨_, add64 (c := ((j + 1 : Nat) : Int)) (by (try simp only []); omega) (by omega), ?_⟩
     (conv => whnf)
     refine ⟨(j + 1, i + 1, xs.set i v), ⟨⟨by show j + 1 ≤ l.length; omega, by show i + 1 ≤ j + 1; omega, by simp [hxl], ?_, ?_⟩, by show l.length - (j + 1) < l.length - j; omega⟩, ?_⟩
     ·show (xs.set i v).take (i + 1) = kept U (l.take (j + 1))
      rw [hstep true hp', if_pos rfl, ← hxt, List.take_add_one, List.take_set_of_le (Nat.le_refl i)]
      simp [show i < xs.length by omega]
     ·show (xs.set i v).drop (j + 1) = l.drop (j + 1)
      rw [List.drop_set_of_lt (by omega)]; exact hdr
     ·(repeat' (first | exact trivial | exact Wk.refl _ | exact ObWk.refl _ | exact rfl | exact ⟨_, rfl⟩ | exact Nat.zero_lt_one | refine And.intro ?_ ?_ | unfold okTo | (unfold okO; conv => whnf) | (unfold okS; conv => whnf) | (unfold SlotOk; conv => whnf) | (unfold ObjOk; conv => whnf) | (unfold okCells; conv => whnf) | (unfold liveTo; conv => whnf) | exact Nat.zero_lt_succ _))
    ·have hp' : keepW U v = false := by simpa using hp
     (conv => whnf)
     refine ⟨_, add64 (c := ((j + 1 : Nat) : Int)) (by (try simp only []); omega) (by omega), ?_⟩
     (conv => whnf)
     refine ⟨(j + 1, i, xs), ⟨⟨by show j + 1 ≤ l.length; omega, by show i ≤ j + 1; omega, hxl, ?_, hdr⟩, by show l.length - (j + 1) < l.length - j; omega⟩, ?_⟩
     ·show xs.take i = kept U (l.take (j + 1))
      rw [hstep false hp', hxt]; simp
     ·(repeat' (first | exact trivial | exact Wk.refl _ | exact ObWk.refl _ | exact rfl | exact ⟨_, rfl⟩ | exact Nat.zero_lt_one | refine And.intro ?_ ?_ | unfold okTo | (unfold okO; conv => whnf) | (unfold okS; conv => whnf) | (unfold SlotOk; conv => whnf) | (unfold ObjOk; conv => whnf) | (unfold okCells; conv => whnf) | (unfold liveTo; conv => whnf) | exact Nat.zero_lt_succ _))
   ·have hge : l.length ≤ j := by simpa using h
    rw [List.take_of_length_le hge] at hxt
    have hil : i = (kept U l).length := by
     have := congrArg List.length hxt
     simpa [show i ≤ xs.length by omega] using this
    have hzl : (zeroN (xs.map eS) i (l.length - i) [sD []]).length = l.length := by rw [zeroN_len (by simp; omega)]; simp [hxl]
    have hz : zeroN (xs.map eS) i (l.length - i) [sD []] = (left U l).map eS := by
     unfold zeroN
     have e1 : (xs.map eS).drop (i + (l.length - i)) = [] := List.drop_eq_nil_of_le (by simp; omega)
     rw [e1, List.append_nil, ← List.map_take, hxt, hil]
     simp [left, List.map_append, List.map_replicate]
    have hz' : zeroN (xs.map eS) (0 + ((i : Nat) : Int).toNat) (((l.length : Nat) : Int).toNat - ((i : Nat) : Int).toNat) [sD []] = (left U l).map eS := by
     rw [Nat.zero_add, Int.toNat_natCast, Int.toNat_natCast]; exact hz
    (conv => whnf)
    refine ⟨⟨rfl, rfl, by simp [hxl], by simp only []; omega, by simp only []; omega, by omega⟩, ?_⟩
    (conv => whnf)
    refine ⟨⟨rfl, rfl, by simp [hxl]; omega⟩, ?_⟩
    (conv => whnf)
    refine ⟨⟨rfl, rfl, ?_, by omega, by simp only []; omega, by simp only []; omega⟩, ?_⟩
    ·refine Nat.le_trans ?_ (Nat.le_of_eq (congrArg List.length hz').symm)
     rw [List.length_map, left_len]; omega
    (conv => whnf)
    refine ⟨[0, 1, 2, 3, 4], rfl, by (try unfold pullOk); (repeat' (first | exact trivial | exact ObWk.refl _ | exact ObWk.of_eq (congrArg (AObj.arr g 1) hz') | refine And.intro ?_ ?_ | unfold pullOk)), ?_⟩
    show Wk (.sl 4 g (0 + (0 : Int).toNat) (((i : Nat) : Int).toNat - (0 : Int).toNat)) (.sl 4 g 0 (kept U l).length)
    rw [← hil]; exact Wk.of_eq (by simp)
theorem twantedAA_ (us : List Unt) (U : List Use) (n : Nat) (hU : ∀ u ∈ U, u.sym.name.length ≤ 1000000) (hl : U.length ≤ 1000000) :
  FCall Tryz.prog Gl 27 [.ptr 0 2] (As us n (Sy.build U)) (.sl 3 0 0 (wantedL U).length) (As us n (Sy.build U) ++ [.arr 0 1 ((left U (Sy.names U)).map eS)]) := by
 have hD := deleteFA_ us U n 0 (Sy.names U) (fun _ h => h) (by have := names_len U; omega)
 refine FCall.enterO hT hmix [] Tryz.func27 rfl rfl rfl fun hbd => ?_
 (conv => whnf)
 refine CallLeaf.oa [0, 1, 2, 523] (tnamesAA_ us U n hU hl) rfl rfl rfl rfl ?_
 (conv => whnf)
 refine CallLeaf.oa [3, 0, 1, 2, 523] (hD) rfl rfl rfl rfl ?_
 (conv => whnf)
 refine ⟨[0, 1, 2, 523], rfl, by (try unfold pullOk); (repeat' (first | exact trivial | exact ObWk.refl _ | refine And.intro ?_ ?_ | unfold pullOk)), ?_⟩
 exact Wk.refl _
theorem twantedA_ (us : List Unt) (U : List Use) (n : Nat) (hU : ∀ u ∈ U, u.sym.name.length ≤ 1000000) (hl : U.length ≤ 1000000) :
  FCall Tryz.prog Gl 27 [.ptr 0 2] (As us n (Sy.build U)) (LSn (wantedL U)) (As us n (Sy.build U)) := by
 refine FCall.soft [(0, .cells [.list (.tok 1) (us.map Unt.enc), mN, vI n, .map 2]), (1, tokU us), (2, .map (Sy.ents (Sy.build U)))] (twantedAA_ us U n hU hl) (fun k => ?_) (by simp) (fun k hk _ => ?_) ?_ ?_
 ·match k with
  | 0 => rfl
  | 1 => rfl
  | 2 => rfl
  | k + 3 => rfl
 ·match k, hk with
  | 0, _ => exact fun h => by simp [sto] at h
  | 1, _ => exact fun h => by simp [sto] at h
  | 2, _ => exact fun h => by simp [sto] at h
 ·exact ⟨.inl ⟨_, rfl, .refl _, by simp⟩, .inl ⟨_, rfl, .refl _, by simp⟩, .inl ⟨_, rfl, .refl _, by simp⟩, trivial⟩
 ·refine .inr (.inr ⟨3, 0, 0, (wantedL U).length, 1, (left U (Sy.names U)).map eS, rfl, rfl, rfl, ?_, ?_, ?_⟩)
  ·have h1 := left_len U (Sy.names U)
   have h2 := List.length_filter_le (keepW U) (Sy.names U)
   rw [List.length_map, h1]
   simp only [wantedL]; omega
  ·have h2 := List.length_filter_le (keepW U) (Sy.names U)
   have := names_len U
   simp only [wantedL]; omega
  ·refine Wk.nat' ?_
   rw [List.drop_zero, ← List.map_take]
   congr 1
   simp [left, wantedL, kept]
theorem tresA_ (us : List Unt) (U : List Use) (n : Nat) (hU : ∀ u ∈ U, u.sym.name.length ≤ 1000000) (hl : U.length ≤ 1000000) :
  FCall Tryz.prog Gl 30 [.ptr 0 2] (As us n (Sy.build U)) (LRn (resL U)) (As us n (Sy.build U)) := by
 have hnl := names_len U
 refine FCall.enterO hT hmix [] Tryz.func30 rfl rfl rfl fun hbd => ?_
 (conv => whnf)
 refine CallLeaf.oa [0, 1, 2] (tnamesA_ us U n hU hl) rfl rfl rfl rfl ?_
 (conv => whnf)
 refine LWp.loop hT hmix [] (fun k : Nat => [(11, vI k), (3, .list (.tok 403) ((((Sy.names U).take k).map fun n => resv (all (Sy.of U n)) n).map Res.enc))]) (fun k => [(403, .tok ((((Sy.names U).take k).map fun n => resv (all (Sy.of U n)) n).map Res.enc).length 5)]) (fun k => k ≤ (Sy.names U).length) (fun k => (Sy.names U).length - k) 0 (Nat.zero_le _) ?_
 (conv => whnf)
 refine ⟨?_, fun k hk => ?_⟩
 ·(repeat' (first | exact trivial | exact Wk.refl _ | exact ObWk.refl _ | exact rfl | exact ⟨_, rfl⟩ | exact Nat.zero_lt_one | refine And.intro ?_ ?_ | unfold okTo | (unfold okO; conv => whnf) | (unfold okS; conv => whnf) | (unfold SlotOk; conv => whnf) | (unfold ObjOk; conv => whnf) | (unfold okCells; conv => whnf) | (unfold liveTo; conv => whnf) | exact Nat.zero_lt_succ _))
 ·(conv => whnf)
  refine split_intro (fun h => ?_) (fun h => ?_)
  ·have hlt : k < (Sy.names U).length := by have := of_decide_eq_true h; simp at this; omega
   obtain ⟨s, hs⟩ := exI hlt
   have hg : Sy.tget (Sy.build U) s = some (all (Sy.of U s)) := by rw [Sy.tget_build, if_neg ((Sy.mem_names s U).1 (List.mem_of_getElem? hs))]
   (conv => whnf)
   refine ⟨_, ⟨by omega, getMap hs⟩, ?_⟩
   (conv => whnf)
   refine ⟨_, ⟨Sy.ents_keys _, Sy.look1 hg _⟩, ?_⟩
   (conv => whnf)
   refine split_intro (fun h1 => ?_) (fun h1 => ?_)
   ·have h1' : (all (Sy.of U s)).bind = 0 := eq_of_beq h1
    (conv => whnf)
    refine split_intro (fun h2 => ?_) (fun h2 => ?_)
    ·have h2' : (all (Sy.of U s)).sref = true := h2
     (conv => whnf)
     refine ⟨_, appL (f := Res.enc) (xs := ((Sy.names U).take k).map fun n => resv (all (Sy.of U n)) n) (ys := [⟨s, 4, (all (Sy.of U s)).size, (all (Sy.of U s)).align, (all (Sy.of U s)).unit⟩]) (zs := ((Sy.names U).take (k + 1)).map fun n => resv (all (Sy.of U n)) n) (by simp) rfl (fun _ => rfl) (resL_snoc (U := U) (f := fun n => resv (all (Sy.of U n)) n) _ hs (by simp [resv, h1', h2'])) (by rw [List.length_map, List.length_take]; show _ * 48 ≤ _; omega), ?_⟩
     (conv => whnf)
     refine ⟨_, add64 (c := ((k + 1 : Nat) : Int)) (by (try simp only []); omega) (by omega), ?_⟩
     (conv => whnf)
     (refine ⟨k + 1, ⟨by omega, by simp only []; omega⟩, ?_⟩; (repeat' (first | exact trivial | exact Wk.refl _ | exact ObWk.refl _ | exact rfl | exact ⟨_, rfl⟩ | exact Nat.zero_lt_one | refine And.intro ?_ ?_ | unfold okTo | (unfold okO; conv => whnf) | (unfold okS; conv => whnf) | (unfold SlotOk; conv => whnf) | (unfold ObjOk; conv => whnf) | (unfold okCells; conv => whnf) | (unfold liveTo; conv => whnf) | exact Nat.zero_lt_succ _)))
    ·have h2' : (all (Sy.of U s)).sref = false := h2
     (conv => whnf)
     refine split_intro (fun _ => ?_) (fun h => absurd h (by rw [h1]; simp))
     (conv => whnf)
     refine ⟨_, appL (f := Res.enc) (xs := ((Sy.names U).take k).map fun n => resv (all (Sy.of U n)) n) (ys := [⟨s, 5, (all (Sy.of U s)).size, (all (Sy.of U s)).align, (all (Sy.of U s)).unit⟩]) (zs := ((Sy.names U).take (k + 1)).map fun n => resv (all (Sy.of U n)) n) (by simp) rfl (fun _ => rfl) (resL_snoc (U := U) (f := fun n => resv (all (Sy.of U n)) n) _ hs (by simp [resv, h1', h2'])) (by rw [List.length_map, List.length_take]; show _ * 48 ≤ _; omega), ?_⟩
     (conv => whnf)
     refine ⟨_, add64 (c := ((k + 1 : Nat) : Int)) (by (try simp only []); omega) (by omega), ?_⟩
     (conv => whnf)
     (refine ⟨k + 1, ⟨by omega, by simp only []; omega⟩, ?_⟩; (repeat' (first | exact trivial | exact Wk.refl _ | exact ObWk.refl _ | exact rfl | exact ⟨_, rfl⟩ | exact Nat.zero_lt_one | refine And.intro ?_ ?_ | unfold okTo | (unfold okO; conv => whnf) | (unfold okS; conv => whnf) | (unfold SlotOk; conv => whnf) | (unfold ObjOk; conv => whnf) | (unfold okCells; conv => whnf) | (unfold liveTo; conv => whnf) | exact Nat.zero_lt_succ _)))
   ·have h1' : ¬ (all (Sy.of U s)).bind = 0 := by simpa using h1
    (conv => whnf)
    refine split_intro (fun h => absurd h (by rw [h1]; simp)) (fun _ => ?_)
    (conv => whnf)
    refine ⟨_, appL (f := Res.enc) (xs := ((Sy.names U).take k).map fun n => resv (all (Sy.of U n)) n) (ys := [⟨s, (all (Sy.of U s)).bind, (all (Sy.of U s)).size, (all (Sy.of U s)).align, (all (Sy.of U s)).unit⟩]) (zs := ((Sy.names U).take (k + 1)).map fun n => resv (all (Sy.of U n)) n) (by simp) rfl (fun _ => rfl) (resL_snoc (U := U) (f := fun n => resv (all (Sy.of U n)) n) _ hs (by simp [resv, h1'])) (by rw [List.length_map, List.length_take]; show _ * 48 ≤ _; omega), ?_⟩
    (conv => whnf)
    refine ⟨_, add64 (c := ((k + 1 : Nat) : Int)) (by (try simp only []); omega) (by omega), ?_⟩
    (conv => whnf)
    (refine ⟨k + 1, ⟨by omega, by simp only []; omega⟩, ?_⟩; (repeat' (first | exact trivial | exact Wk.refl _ | exact ObWk.refl _ | exact rfl | exact ⟨_, rfl⟩ | exact Nat.zero_lt_one | refine And.intro ?_ ?_ | unfold okTo | (unfold okO; conv => whnf) | (unfold okS; conv => whnf) | (unfold SlotOk; conv => whnf) | (unfold ObjOk; conv => whnf) | (unfold okCells; conv => whnf) | (unfold liveTo; conv => whnf) | exact Nat.zero_lt_succ _)))
  ·have hge : (Sy.names U).length ≤ k := by have := of_decide_eq_false h; simp at this; omega
   (conv => whnf)
   refine ⟨[0, 1, 2], rfl, by (try unfold pullOk); (repeat' (first | exact trivial | exact ObWk.refl _ | refine And.intro ?_ ?_ | unfold pullOk)), ?_⟩
   refine Wk.nat' ?_
   rw [List.take_of_length_le hge]
   rfl
theorem nextB_ (us : List Unt) (ld : List (Str × Nat)) (n : Nat) (T : Sy.Tb) (hn : n ≤ 1000000000) : FCall Tryz.prog Gl 78 [.ptr 0 2] (Bs us ld n T) (vI n) (Bs us ld (n + 1) T) := by
 refine FCall.enterO hT hmix [] Tryz.func78 rfl rfl rfl fun hbd => ?_
 (conv => whnf)
 refine ⟨_, add64 (c := ((n + 1 : Nat) : Int)) (by omega) (by omega), ?_⟩
 (conv => whnf)
 refine ⟨_, sub64 (c := (n : Int)) (by omega) (by omega), ?_⟩
 (conv => whnf)
 refine ⟨[0, 1, 2, 3], rfl, by (try unfold pullOk); (repeat' (first | exact trivial | exact ObWk.refl _ | refine And.intro ?_ ?_ | unfold pullOk)), ?_⟩
 exact Wk.refl _
theorem tloadB_ (us : List Unt) (ld : List (Str × Nat)) (U : List Use) (n : Nat) (l : List Ob.Sym) (x : List UInt8) (hU : Sy.okB U) (hl : ∀ s ∈ l, 1 ≤ s.bind ∧ s.bind ≤ 5) (hb : U.length + l.length ≤ 900000) (hn : n ≤ 100000000) :
  FCall Tryz.prog Gl 61 [.ptr 0 2, oD2 ⟨l, x⟩] (Bs us ld n (Sy.build U)) (vI n) (Bs us ld (n + 1) (Sy.build (U ++ Sy.uses n l))) := by
 refine FCall.enterO hT hmix [] Tryz.func61 rfl rfl rfl fun hbd => ?_
 (conv => whnf)
 refine CallLeaf.oa [0, 1, 2, 3] (nextB_ us ld n (Sy.build U) (by omega)) rfl rfl rfl rfl ?_
 (conv => whnf)
 refine LWp.loop hT hmix [] (fun k : Nat => [(28, vI k)]) (fun k => [(2, .map (Sy.ents (Sy.build (U ++ Sy.uses n (l.take k)))))]) (fun k => k ≤ l.length) (fun k => l.length - k) 0 (Nat.zero_le _) ?_
 (conv => whnf)
 refine ⟨?_, fun k hk => ?_⟩
 ·(repeat' (first | exact trivial | exact Wk.refl _ | exact ObWk.refl _ | exact rfl | exact ⟨_, rfl⟩ | exact Nat.zero_lt_one | refine And.intro ?_ ?_ | unfold okTo | (unfold okO; conv => whnf) | (unfold okS; conv => whnf) | (unfold SlotOk; conv => whnf) | (unfold ObjOk; conv => whnf) | (unfold okCells; conv => whnf) | (unfold liveTo; conv => whnf) | exact Nat.zero_lt_succ _))
  exact ObWk.of_eq (by simp [Sy.uses])
 ·(conv => whnf)
  refine split_intro (fun h => ?_) (fun h => ?_)
  ·have hlt : k < l.length := by simpa using h
   obtain ⟨s, hs⟩ := exI hlt
   have hV : Sy.okB (U ++ Sy.uses n (l.take k)) := hU.app (fun u hu => by
    obtain ⟨y, hy, rfl⟩ := List.mem_map.1 hu
    exact hl y (List.mem_of_mem_take hy))
   have hVl : (U ++ Sy.uses n (l.take k)).length ≤ 900000 := by simp [Sy.uses]; omega
   have hnew : Sy.build (U ++ Sy.uses n (l.take (k + 1))) = Sy.add1 (Sy.build (U ++ Sy.uses n (l.take k))) ⟨Sy.toB s, (n : Int)⟩ := by
    rw [Sy.uses_take hs, ← List.append_assoc, Sy.build_snoc]
   have hsl : 1 ≤ s.bind ∧ s.bind ≤ 5 := hl s (List.mem_of_getElem? hs)
   have hget := Sy.tget_build s.name (U ++ Sy.uses n (l.take k))
   have hgd := Sy.tget_getD s.name (U ++ Sy.uses n (l.take k))
   have hM := merge_ ((Sy.tget (Sy.build (U ++ Sy.uses n (l.take k))) s.name).getD empty) (Sy.toB s) (n : Int) (by rw [hgd]; exact Sy.all_bind (hV.of _)) hsl (by rw [hgd]; have := Sy.all_strongs (Sy.of (U ++ Sy.uses n (l.take k)) s.name); have := Sy.of_le (U ++ Sy.uses n (l.take k)) s.name; omega)
   have hset : ∀ st, (Sy.tget (Sy.build (U ++ Sy.uses n (l.take k))) s.name).getD empty = st → mset (Sy.ents (Sy.build (U ++ Sy.uses n (l.take k)))) (.string (sB s.name)) (.agg (merge st (Sy.toB s) n).enc) = Sy.ents (Sy.build (U ++ Sy.uses n (l.take (k + 1)))) := fun st e => by
    rw [hnew, ← e]; exact Sy.mset_ents _ _ _
   cases hT : Sy.tget (Sy.build (U ++ Sy.uses n (l.take k))) s.name with
   | none =>
    rw [hT] at hM
    (conv => whnf)
    refine ⟨_, ⟨by omega, getMap hs⟩, ?_⟩
    (conv => whnf)
    refine ⟨_, ⟨Sy.ents_keys _, Sy.look_none hT _⟩, ?_⟩
    (conv => whnf)
    refine CallLeaf.wa (empty_) rfl ?_
    (conv => whnf)
    refine CallLeaf.wa (hM) rfl ?_
    (conv => whnf)
    refine ⟨_, ⟨Sy.ents_keys _, hset empty (by rw [hT]; rfl)⟩, ?_⟩
    (conv => whnf)
    refine ⟨_, add64 (c := ((k + 1 : Nat) : Int)) (by (try simp only []); omega) (by omega), ?_⟩
    (conv => whnf)
    refine ⟨k + 1, ⟨by omega, by simp only []; omega⟩, ?_⟩
    (repeat' (first | exact trivial | exact Wk.refl _ | exact ObWk.refl _ | exact rfl | exact ⟨_, rfl⟩ | exact Nat.zero_lt_one | refine And.intro ?_ ?_ | unfold okTo | (unfold okO; conv => whnf) | (unfold okS; conv => whnf) | (unfold SlotOk; conv => whnf) | (unfold ObjOk; conv => whnf) | (unfold okCells; conv => whnf) | (unfold liveTo; conv => whnf) | exact Nat.zero_lt_succ _))
   | some st =>
    rw [hT] at hM
    (conv => whnf)
    refine ⟨_, ⟨by omega, getMap hs⟩, ?_⟩
    (conv => whnf)
    refine ⟨_, ⟨Sy.ents_keys _, Sy.look_some hT _⟩, ?_⟩
    (conv => whnf)
    refine CallLeaf.wa (hM) rfl ?_
    (conv => whnf)
    refine ⟨_, ⟨Sy.ents_keys _, hset st (by rw [hT]; rfl)⟩, ?_⟩
    (conv => whnf)
    refine ⟨_, add64 (c := ((k + 1 : Nat) : Int)) (by (try simp only []); omega) (by omega), ?_⟩
    (conv => whnf)
    refine ⟨k + 1, ⟨by omega, by simp only []; omega⟩, ?_⟩
    (repeat' (first | exact trivial | exact Wk.refl _ | exact ObWk.refl _ | exact rfl | exact ⟨_, rfl⟩ | exact Nat.zero_lt_one | refine And.intro ?_ ?_ | unfold okTo | (unfold okO; conv => whnf) | (unfold okS; conv => whnf) | (unfold SlotOk; conv => whnf) | (unfold ObjOk; conv => whnf) | (unfold okCells; conv => whnf) | (unfold liveTo; conv => whnf) | exact Nat.zero_lt_succ _))
  ·have hge : l.length ≤ k := by simpa using h
   (conv => whnf)
   refine ⟨[0, 1, 2, 3], rfl, by (try unfold pullOk); (repeat' (first | exact trivial | exact ObWk.refl _ | exact ObWk.of_eq (by rw [List.take_of_length_le hge]) | refine And.intro ?_ ?_ | unfold pullOk)), ?_⟩
   exact Wk.refl _
theorem tstateB_ (us : List Unt) (ld : List (Str × Nat)) (U : List Use) (n : Nat) (s : Str) (hl : U.length ≤ 1000000) :
  FCall Tryz.prog Gl 71 [.ptr 0 2, sD s] (Bs us ld n (Sy.build U)) (.agg (all (Sy.of U s)).encN) (Bs us ld n (Sy.build U)) := by
 have hget := Sy.tget_build s U
 have h1 := Sy.all_strongs (Sy.of U s)
 have h2 := Sy.of_le U s
 by_cases hS : Sy.of U s = []
 ·rw [if_pos hS] at hget
  rw [hS]
  refine FCall.enterO hT hmix [] Tryz.func71 rfl rfl rfl fun hbd => ?_
  (conv => whnf)
  refine ⟨_, ⟨Sy.ents_keys _, Sy.look_none hget _⟩, ?_⟩
  (conv => whnf)
  refine CallLeaf.wa (empty_) rfl ?_
  (conv => whnf)
  refine ⟨[0, 1, 2, 3], rfl, by (try unfold pullOk); (repeat' (first | exact trivial | exact ObWk.refl _ | refine And.intro ?_ ?_ | unfold pullOk)), ?_⟩
  exact Wk.refl _
 ·rw [if_neg hS] at hget
  refine FCall.enterO hT hmix [] Tryz.func71 rfl rfl rfl fun hbd => ?_
  (conv => whnf)
  refine ⟨_, ⟨Sy.ents_keys _, Sy.look_some hget _⟩, ?_⟩
  (conv => whnf)
  refine CallLeaf.wa (cloneI_ (all (Sy.of U s)).strongs (by omega)) rfl ?_
  (conv => whnf)
  refine ⟨[0, 1, 2, 3], rfl, by (try unfold pullOk); (repeat' (first | exact trivial | exact ObWk.refl _ | refine And.intro ?_ ?_ | unfold pullOk)), ?_⟩
  exact Wk.refl _
theorem tnamesB_ (us : List Unt) (ld : List (Str × Nat)) (U : List Use) (n : Nat) (hU : ∀ u ∈ U, u.sym.name.length ≤ 1000000) (hl : U.length ≤ 1000000) :
  FCall Tryz.prog Gl 48 [.ptr 0 2] (Bs us ld n (Sy.build U)) (LSn (Sy.names U)) (Bs us ld n (Sy.build U)) := by
 refine FCall.enterO hT hmix [] Tryz.func48 rfl rfl rfl fun hbd => ?_
 (conv => whnf)
 refine CallLeaf.oa [2, 1572] (keys_ (Sy.build U)) rfl rfl rfl rfl ?_
 (conv => whnf)
 refine CallLeaf.oa [1572, 2] (sortedL_ U hU hl) rfl rfl rfl rfl ?_
 (conv => whnf)
 refine ⟨[0, 1, 2, 3], rfl, by (try unfold pullOk); (repeat' (first | exact trivial | exact ObWk.refl _ | refine And.intro ?_ ?_ | unfold pullOk)), ?_⟩
 exact Wk.refl _
theorem tnamesAB_ (us : List Unt) (ld : List (Str × Nat)) (U : List Use) (n : Nat) (hU : ∀ u ∈ U, u.sym.name.length ≤ 1000000) (hl : U.length ≤ 1000000) :
  FCall Tryz.prog Gl 48 [.ptr 0 2] (Bs us ld n (Sy.build U)) (.sl 4 0 0 (Sy.names U).length) (Bs us ld n (Sy.build U) ++ [.arr 0 1 ((Sy.names U).map eS)]) := by
 refine FCall.enterO hT hmix [] Tryz.func48 rfl rfl rfl fun hbd => ?_
 (conv => whnf)
 refine CallLeaf.oa [2, 1572] (keys_ (Sy.build U)) rfl rfl rfl rfl ?_
 (conv => whnf)
 refine CallLeaf.oa [1572, 2, 1580] (sortedA_ U hU hl) rfl rfl rfl rfl ?_
 (conv => whnf)
 refine ⟨[0, 1, 2, 3, 1580], rfl, by (try unfold pullOk); (repeat' (first | exact trivial | exact ObWk.refl _ | refine And.intro ?_ ?_ | unfold pullOk)), ?_⟩
 exact Wk.refl _
theorem wclosB_ (us : List Unt) (ld : List (Str × Nat)) (U : List Use) (n : Nat) (s : Str) (hs : s ∈ Sy.names U) :
  FCall Tryz.prog Gl 49 [sD s, .ptr 0 0] (BqB us ld n U) (vB (!keepW U s)) (BqB us ld n U) := by
 have hTb : Sy.tget (Sy.build U) s = some (all (Sy.of U s)) := by
  rw [Sy.tget_build, if_neg ((Sy.mem_names s U).1 hs)]
 refine FCall.enterO hT hmix [] Tryz.func49 rfl rfl rfl fun hbd => ?_
 (conv => whnf)
 refine ⟨_, ⟨Sy.ents_keys _, Sy.look1 hTb _⟩, ?_⟩
 (conv => whnf)
 refine CallLeaf.wa (wanted_ (all (Sy.of U s))) rfl ?_
 (conv => whnf)
 refine ⟨[0, 1, 2, 3, 4], rfl, by (try unfold pullOk); (repeat' (first | exact trivial | exact ObWk.refl _ | refine And.intro ?_ ?_ | unfold pullOk)), ?_⟩
 exact Wk.refl _
theorem indexFB_ (us : List Unt) (ld : List (Str × Nat)) (U : List Use) (n : Nat) (g : Nat) (l : List Str) (hs : ∀ s ∈ l, s ∈ Sy.names U) (hl : l.length ≤ 1000000) :
  FCall Tryz.prog Gl 62 [.sl 5 g 0 l.length, wF] (BqB us ld n U ++ [.arr g 1 (l.map eS)]) (vI (idxF (fun s => !keepW U s) l)) (BqB us ld n U ++ [.arr g 1 (l.map eS)]) := by
 refine FCall.enterO hT hmix [] Tryz.func62 rfl rfl rfl fun hbd => ?_
 (conv => whnf)
 refine LWp.loop hT hmix [] (fun k : Nat => [(8, vI k)]) (fun _ => []) (fun k => k ≤ l.length ∧ ∀ s ∈ l.take k, keepW U s = true) (fun k => l.length - k) 0 ⟨Nat.zero_le _, by simp⟩ ?_
 (conv => whnf)
 refine ⟨?_, fun k ⟨hk, hkk⟩ => ?_⟩
 ·(repeat' (first | exact trivial | exact Wk.refl _ | exact ObWk.refl _ | exact rfl | exact ⟨_, rfl⟩ | exact Nat.zero_lt_one | refine And.intro ?_ ?_ | unfold okTo | (unfold okO; conv => whnf) | (unfold okS; conv => whnf) | (unfold SlotOk; conv => whnf) | (unfold ObjOk; conv => whnf) | (unfold okCells; conv => whnf) | (unfold liveTo; conv => whnf) | exact Nat.zero_lt_succ _))
 ·(conv => whnf)
  refine split_intro (fun h => ?_) (fun h => ?_)
  ·have hlt : k < l.length := by simpa using h
   obtain ⟨s, hx⟩ := exI hlt
   have hin := hs s (List.mem_of_getElem? hx)
   (conv => whnf)
   refine ⟨⟨rfl, rfl, by omega, by omega, by simp⟩, ?_⟩
   (conv => whnf)
   refine ⟨eS s, ⟨rfl, rfl, by simp [hx]⟩, ?_⟩
   (conv => whnf)
   refine CallLeaf.oa [0, 1, 2, 3, 4] (wclosB_ us ld U n s hin) rfl rfl rfl rfl ?_
   (conv => whnf)
   refine split_intro (fun hp => ?_) (fun hp => ?_)
   ·have hp' : keepW U s = false := by simpa using hp
    have hidx : idxF (fun s => !keepW U s) l = (k : Int) := by
     unfold idxF
     have : l.findIdx? (fun s => !keepW U s) = some k := by
      rw [List.findIdx?_eq_some_iff_getElem]
      have e : l[k] = s := by simpa [hlt] using hx
      refine ⟨hlt, by simp [e, hp'], fun j hj => ?_⟩
      have := hkk (l[j]'(by omega)) (List.mem_take_iff_getElem.2 ⟨j, by omega, rfl⟩)
      simp [this]
     rw [this]
    rw [hidx]
    (conv => whnf)
    refine ⟨[0, 1, 2, 3, 4, 5], rfl, by (try unfold pullOk); (repeat' (first | exact trivial | exact ObWk.refl _ | refine And.intro ?_ ?_ | unfold pullOk)), ?_⟩
    exact Wk.refl _
   ·have hp' : keepW U s = true := by simpa using hp
    (conv => whnf)
    refine ⟨_, add64 (c := ((k + 1 : Nat) : Int)) (by (try simp only []); omega) (by omega), ?_⟩
    (conv => whnf)
    refine ⟨k + 1, ⟨⟨by omega, fun y hy => ?_⟩, by simp only []; omega⟩, ?_⟩
    ·rw [List.take_add_one, hx] at hy
     simp only [Option.toList_some, List.mem_append, List.mem_singleton] at hy
     rcases hy with hy | rfl
     ·exact hkk y hy
     ·exact hp'
    ·(repeat' (first | exact trivial | exact Wk.refl _ | exact ObWk.refl _ | exact rfl | exact ⟨_, rfl⟩ | exact Nat.zero_lt_one | refine And.intro ?_ ?_ | unfold okTo | (unfold okO; conv => whnf) | (unfold okS; conv => whnf) | (unfold SlotOk; conv => whnf) | (unfold ObjOk; conv => whnf) | (unfold okCells; conv => whnf) | (unfold liveTo; conv => whnf) | exact Nat.zero_lt_succ _))
  ·have hge : l.length ≤ k := by simpa using h
   rw [List.take_of_length_le hge] at hkk
   have hidx : idxF (fun s => !keepW U s) l = -1 := by
    unfold idxF
    have : l.findIdx? (fun s => !keepW U s) = none := by
     rw [List.findIdx?_eq_none_iff]
     intro y hy; simp [hkk y hy]
    rw [this]
   rw [hidx]
   (conv => whnf)
   refine ⟨[0, 1, 2, 3, 4, 5], rfl, by (try unfold pullOk); (repeat' (first | exact trivial | exact ObWk.refl _ | refine And.intro ?_ ?_ | unfold pullOk)), ?_⟩
   exact Wk.refl _
theorem deleteFB_ (us : List Unt) (ld : List (Str × Nat)) (U : List Use) (n : Nat) (g : Nat) (l : List Str) (hs : ∀ s ∈ l, s ∈ Sy.names U) (hl : l.length ≤ 1000000) :
  FCall Tryz.prog Gl 47 [.sl 5 g 0 l.length, wF] (BqB us ld n U ++ [.arr g 1 (l.map eS)]) (.sl 5 g 0 (kept U l).length) (BqB us ld n U ++ [.arr g 1 ((left U l).map eS)]) := by
 have hI := indexFB_ us ld U n g l hs hl
 unfold idxF at hI
 cases hf : l.findIdx? (fun s => !keepW U s) with
 | none =>
  rw [hf] at hI
  have hall : kept U l = l := by
   rw [List.findIdx?_eq_none_iff] at hf
   exact List.filter_eq_self.2 fun y hy => by simpa using hf y hy
  have hleft : left U l = l := by simp [left, hall]
  rw [hleft, hall]
  refine FCall.enterO hT hmix [] Tryz.func47 rfl rfl rfl fun hbd => ?_
  (conv => whnf)
  refine CallLeaf.oa [0, 1, 2, 3, 4, 5] (hI) rfl rfl rfl rfl ?_
  (conv => whnf)
  refine ⟨[0, 1, 2, 3, 4, 5], rfl, by (try unfold pullOk); (repeat' (first | exact trivial | exact ObWk.refl _ | refine And.intro ?_ ?_ | unfold pullOk)), ?_⟩
  exact Wk.refl _
 | some i0 =>
  rw [hf] at hI
  replace hI : FCall Tryz.prog Gl 62 [.sl 5 g 0 l.length, wF] (BqB us ld n U ++ [.arr g 1 (l.map eS)]) (vI (i0 : Int)) (BqB us ld n U ++ [.arr g 1 (l.map eS)]) := hI
  obtain ⟨h0, h1, h2⟩ := List.findIdx?_eq_some_iff_getElem.1 hf
  refine FCall.enterO hT hmix [] Tryz.func47 rfl rfl rfl fun hbd => ?_
  (conv => whnf)
  refine CallLeaf.oa [0, 1, 2, 3, 4, 5] (hI) rfl rfl rfl rfl ?_
  (conv => whnf)
  refine ⟨_, add64 (c := ((i0 + 1 : Nat) : Int)) (by omega) (by omega), ?_⟩
  (conv => whnf)
  refine LWp.loop hT hmix [] (fun x : Nat × Nat × List Str => [(6, vI x.1), (5, vI x.2.1)]) (fun x => [(5, .arr g 1 (x.2.2.map eS))]) (fun y => y.1 ≤ l.length ∧ y.2.1 ≤ y.1 ∧ y.2.2.length = l.length ∧ y.2.2.take y.2.1 = kept U (l.take y.1) ∧ y.2.2.drop y.1 = l.drop y.1) (fun x => l.length - x.1) (i0 + 1, i0, l) ⟨by show i0 + 1 ≤ l.length; omega, by show i0 ≤ i0 + 1; omega, rfl, ?_, rfl⟩ ?_
  ·show l.take i0 = kept U (l.take (i0 + 1))
   have e : l[i0]? = some l[i0] := by simp [h0]
   rw [List.take_add_one, e]
   simp only [kept, Option.toList_some, List.filter_append]
   have a1 : (l.take i0).filter (keepW U) = l.take i0 := List.filter_eq_self.2 fun y hy => by
    obtain ⟨j, hj, rfl⟩ := List.mem_take_iff_getElem.1 hy
    have := h2 j (by omega)
    simpa using this
   have a2 : [l[i0]].filter (keepW U) = [] := by
    have : keepW U l[i0] = false := by simpa using h1
    simp [this]
   rw [a1, a2, List.append_nil]
  (conv => whnf)
  refine ⟨?_, fun ⟨j, i, xs⟩ ⟨hj, hij, hxl, hxt, hxd⟩ => ?_⟩
  ·(repeat' (first | exact trivial | exact Wk.refl _ | exact ObWk.refl _ | exact rfl | exact ⟨_, rfl⟩ | exact Nat.zero_lt_one | refine And.intro ?_ ?_ | unfold okTo | (unfold okO; conv => whnf) | (unfold okS; conv => whnf) | (unfold SlotOk; conv => whnf) | (unfold ObjOk; conv => whnf) | (unfold okCells; conv => whnf) | (unfold liveTo; conv => whnf) | exact Nat.zero_lt_succ _))
  ·replace hj : j ≤ l.length := hj
   replace hij : i ≤ j := hij
   replace hxl : xs.length = l.length := hxl
   replace hxt : xs.take i = kept U (l.take j) := hxt
   replace hxd : xs.drop j = l.drop j := hxd
   (conv => whnf)
   refine split_intro (fun h => ?_) (fun h => ?_)
   ·have hlt : j < l.length := by simpa using h
    obtain ⟨v, hv⟩ := exI hlt
    have hxv : xs[j]? = some v := by
     have := congrArg (fun z : List Str => z[0]?) hxd
     simpa [List.getElem?_drop, hv] using this
    have hin := hs v (List.mem_of_getElem? hv)
    (conv => whnf)
    refine ⟨⟨rfl, rfl, by omega, by simp only []; omega, by simp [hxl]⟩, ?_⟩
    (conv => whnf)
    refine ⟨eS v, ⟨rfl, rfl, by simp [hxv]⟩, ?_⟩
    (conv => whnf)
    refine CallLeaf.oa [0, 1, 2, 3, 4] (wclosB_ us ld U n v hin) rfl rfl rfl rfl ?_
    (conv => whnf)
    have hstep : ∀ b, keepW U v = b → kept U (l.take (j + 1)) = kept U (l.take j) ++ (if b then [v] else []) := by
     intro b hb
     rw [List.take_add_one, hv]
     simp only [kept, Option.toList_some, List.filter_append]
     congr 1
     cases b <;> simp [hb]
    have hdr : xs.drop (j + 1) = l.drop (j + 1) := by
     have := congrArg (List.drop 1) hxd
     simpa [List.drop_drop, Nat.add_comm] using this
    refine split_intro (fun hp => ?_) (fun hp => ?_)
    ·have hp' : keepW U v = true := by simpa using hp
     obtain ⟨c, hc⟩ := exI (l := xs) (k := i) (by omega)
     (conv => whnf)
     refine ⟨⟨rfl, rfl, by omega, by simp only []; omega, by simp [hxl]⟩, ?_⟩
     (conv => whnf)
     refine ⟨eS c, (xs.set i v).map eS, ⟨rfl, rfl, by simp only [Nat.zero_add, Int.toNat_natCast]; exact getMap hc⟩, ⟨Nat.le_refl 1, by simp [setCells, toCells]⟩, ?_⟩
     (conv => whnf)
     refine ⟨_, add64 (c := ((i + 1 : Nat) : Int)) (by (try simp only []); omega) (by omega), ?_⟩
     (conv => whnf)
     refine ⟨_, add64 (c := ((j + 1 : Nat) : Int)) (by (try simp only []); omega) (by omega), ?_⟩
     (conv => whnf)
     refine ⟨(j + 1, i + 1, xs.set i v), ⟨⟨by show j + 1 ≤ l.length; omega, by show i + 1 ≤ j + 1; omega, by simp [hxl], ?_, ?_⟩, by show l.length - (j + 1) < l.length - j; omega⟩, ?_⟩
     ·show (xs.set i v).take (i + 1) = kept U (l.take (j + 1))
      rw [hstep true hp', if_pos rfl, ← hxt, List.take_add_one, List.take_set_of_le (Nat.le_refl i)]
      simp [show i < xs.length by omega]
     ·show (xs.set i v).drop (j + 1) = l.drop (j + 1)
      rw [List.drop_set_of_lt (by omega)]; exact hdr
     ·(repeat' (first | exact trivial | exact Wk.refl _ | exact ObWk.refl _ | exact rfl | exact ⟨_, rfl⟩ | exact Nat.zero_lt_one | refine And.intro ?_ ?_ | unfold okTo | (unfold okO; conv => whnf) | (unfold okS; conv => whnf) | (unfold SlotOk; conv => whnf) | (unfold ObjOk; conv => whnf) | (unfold okCells; conv => whnf) | (unfold liveTo; conv => whnf) | exact Nat.zero_lt_succ _))
    ·have hp' : keepW U v = false := by simpa using hp
     (conv => whnf)
     refine ⟨_, add64 (c := ((j + 1 : Nat) : Int)) (by (try simp only []); omega) (by omega), ?_⟩
     (conv => whnf)
     refine ⟨(j + 1, i, xs), ⟨⟨by show j + 1 ≤ l.length; omega, by show i ≤ j + 1; omega, hxl, ?_, hdr⟩, by show l.length - (j + 1) < l.length - j; omega⟩, ?_⟩
     ·show xs.take i = kept U (l.take (j + 1))
      rw [hstep false hp', hxt]; simp
     ·(repeat' (first | exact trivial | exact Wk.refl _ | exact ObWk.refl _ | exact rfl | exact ⟨_, rfl⟩ | exact Nat.zero_lt_one | refine And.intro ?_ ?_ | unfold okTo | (unfold okO; conv => whnf) | (unfold okS; conv => whnf) | (unfold SlotOk; conv => whnf) | (unfold ObjOk; conv => whnf) | (unfold okCells; conv => whnf) | (unfold liveTo; conv => whnf) | exact Nat.zero_lt_succ _))
   ·have hge : l.length ≤ j := by simpa using h
    rw [List.take_of_length_le hge] at hxt
    have hil : i = (kept U l).length := by
     have := congrArg List.length hxt
     simpa [show i ≤ xs.length by omega] using this
    have hzl : (zeroN (xs.map eS) i (l.length - i) [sD []]).length = l.length := by rw [zeroN_len (by simp; omega)]; simp [hxl]
    have hz : zeroN (xs.map eS) i (l.length - i) [sD []] = (left U l).map eS := by
     unfold zeroN
     have e1 : (xs.map eS).drop (i + (l.length - i)) = [] := List.drop_eq_nil_of_le (by simp; omega)
     rw [e1, List.append_nil, ← List.map_take, hxt, hil]
     simp [left, List.map_append, List.map_replicate]
    have hz' : zeroN (xs.map eS) (0 + ((i : Nat) : Int).toNat) (((l.length : Nat) : Int).toNat - ((i : Nat) : Int).toNat) [sD []] = (left U l).map eS := by
     rw [Nat.zero_add, Int.toNat_natCast, Int.toNat_natCast]; exact hz
    (conv => whnf)
    refine ⟨⟨rfl, rfl, by simp [hxl], by simp only []; omega, by simp only []; omega, by omega⟩, ?_⟩
    (conv => whnf)
    refine ⟨⟨rfl, rfl, by simp [hxl]; omega⟩, ?_⟩
    (conv => whnf)
    refine ⟨⟨rfl, rfl, ?_, by omega, by simp only []; omega, by simp only []; omega⟩, ?_⟩
    ·refine Nat.le_trans ?_ (Nat.le_of_eq (congrArg List.length hz').symm)
     rw [List.length_map, left_len]; omega
    (conv => whnf)
    refine ⟨[0, 1, 2, 3, 4, 5], rfl, by (try unfold pullOk); (repeat' (first | exact trivial | exact ObWk.refl _ | exact ObWk.of_eq (congrArg (AObj.arr g 1) hz') | refine And.intro ?_ ?_ | unfold pullOk)), ?_⟩
    show Wk (.sl 5 g (0 + (0 : Int).toNat) (((i : Nat) : Int).toNat - (0 : Int).toNat)) (.sl 5 g 0 (kept U l).length)
    rw [← hil]; exact Wk.of_eq (by simp)
theorem twantedAB_ (us : List Unt) (ld : List (Str × Nat)) (U : List Use) (n : Nat) (hU : ∀ u ∈ U, u.sym.name.length ≤ 1000000) (hl : U.length ≤ 1000000) :
  FCall Tryz.prog Gl 27 [.ptr 0 2] (Bs us ld n (Sy.build U)) (.sl 4 0 0 (wantedL U).length) (Bs us ld n (Sy.build U) ++ [.arr 0 1 ((left U (Sy.names U)).map eS)]) := by
 have hD := deleteFB_ us ld U n 0 (Sy.names U) (fun _ h => h) (by have := names_len U; omega)
 refine FCall.enterO hT hmix [] Tryz.func27 rfl rfl rfl fun hbd => ?_
 (conv => whnf)
 refine CallLeaf.oa [0, 1, 2, 3, 524] (tnamesAB_ us ld U n hU hl) rfl rfl rfl rfl ?_
 (conv => whnf)
 refine CallLeaf.oa [4, 0, 1, 2, 3, 524] (hD) rfl rfl rfl rfl ?_
 (conv => whnf)
 refine ⟨[0, 1, 2, 3, 524], rfl, by (try unfold pullOk); (repeat' (first | exact trivial | exact ObWk.refl _ | refine And.intro ?_ ?_ | unfold pullOk)), ?_⟩
 exact Wk.refl _
theorem twantedB_ (us : List Unt) (ld : List (Str × Nat)) (U : List Use) (n : Nat) (hU : ∀ u ∈ U, u.sym.name.length ≤ 1000000) (hl : U.length ≤ 1000000) :
  FCall Tryz.prog Gl 27 [.ptr 0 2] (Bs us ld n (Sy.build U)) (LSn (wantedL U)) (Bs us ld n (Sy.build U)) := by
 refine FCall.soft [(0, .cells [.list (.tok 1) (us.map Unt.enc), .map 3, vI n, .map 2]), (1, tokU us), (2, .map (Sy.ents (Sy.build U))), (3, .map (kents ld))] (twantedAB_ us ld U n hU hl) (fun k => ?_) (by simp) (fun k hk _ => ?_) ?_ ?_
 ·match k with
  | 0 => rfl
  | 1 => rfl
  | 2 => rfl
  | 3 => rfl
  | k + 4 => rfl
 ·match k, hk with
  | 0, _ => exact fun h => by simp [sto] at h
  | 1, _ => exact fun h => by simp [sto] at h
  | 2, _ => exact fun h => by simp [sto] at h
  | 3, _ => exact fun h => by simp [sto] at h
 ·exact ⟨.inl ⟨_, rfl, .refl _, by simp⟩, .inl ⟨_, rfl, .refl _, by simp⟩, .inl ⟨_, rfl, .refl _, by simp⟩, .inl ⟨_, rfl, .refl _, by simp⟩, trivial⟩
 ·refine .inr (.inr ⟨4, 0, 0, (wantedL U).length, 1, (left U (Sy.names U)).map eS, rfl, rfl, rfl, ?_, ?_, ?_⟩)
  ·have h1 := left_len U (Sy.names U)
   have h2 := List.length_filter_le (keepW U) (Sy.names U)
   rw [List.length_map, h1]
   simp only [wantedL]; omega
  ·have h2 := List.length_filter_le (keepW U) (Sy.names U)
   have := names_len U
   simp only [wantedL]; omega
  ·refine Wk.nat' ?_
   rw [List.drop_zero, ← List.map_take]
   congr 1
   simp [left, wantedL, kept]
theorem tresB_ (us : List Unt) (ld : List (Str × Nat)) (U : List Use) (n : Nat) (hU : ∀ u ∈ U, u.sym.name.length ≤ 1000000) (hl : U.length ≤ 1000000) :
  FCall Tryz.prog Gl 30 [.ptr 0 2] (Bs us ld n (Sy.build U)) (LRn (resL U)) (Bs us ld n (Sy.build U)) := by
 have hnl := names_len U
 refine FCall.enterO hT hmix [] Tryz.func30 rfl rfl rfl fun hbd => ?_
 (conv => whnf)
 refine CallLeaf.oa [0, 1, 2, 3] (tnamesB_ us ld U n hU hl) rfl rfl rfl rfl ?_
 (conv => whnf)
 refine LWp.loop hT hmix [] (fun k : Nat => [(11, vI k), (3, .list (.tok 403) ((((Sy.names U).take k).map fun n => resv (all (Sy.of U n)) n).map Res.enc))]) (fun k => [(403, .tok ((((Sy.names U).take k).map fun n => resv (all (Sy.of U n)) n).map Res.enc).length 5)]) (fun k => k ≤ (Sy.names U).length) (fun k => (Sy.names U).length - k) 0 (Nat.zero_le _) ?_
 (conv => whnf)
 refine ⟨?_, fun k hk => ?_⟩
 ·(repeat' (first | exact trivial | exact Wk.refl _ | exact ObWk.refl _ | exact rfl | exact ⟨_, rfl⟩ | exact Nat.zero_lt_one | refine And.intro ?_ ?_ | unfold okTo | (unfold okO; conv => whnf) | (unfold okS; conv => whnf) | (unfold SlotOk; conv => whnf) | (unfold ObjOk; conv => whnf) | (unfold okCells; conv => whnf) | (unfold liveTo; conv => whnf) | exact Nat.zero_lt_succ _))
 ·(conv => whnf)
  refine split_intro (fun h => ?_) (fun h => ?_)
  ·have hlt : k < (Sy.names U).length := by have := of_decide_eq_true h; simp at this; omega
   obtain ⟨s, hs⟩ := exI hlt
   have hg : Sy.tget (Sy.build U) s = some (all (Sy.of U s)) := by rw [Sy.tget_build, if_neg ((Sy.mem_names s U).1 (List.mem_of_getElem? hs))]
   (conv => whnf)
   refine ⟨_, ⟨by omega, getMap hs⟩, ?_⟩
   (conv => whnf)
   refine ⟨_, ⟨Sy.ents_keys _, Sy.look1 hg _⟩, ?_⟩
   (conv => whnf)
   refine split_intro (fun h1 => ?_) (fun h1 => ?_)
   ·have h1' : (all (Sy.of U s)).bind = 0 := eq_of_beq h1
    (conv => whnf)
    refine split_intro (fun h2 => ?_) (fun h2 => ?_)
    ·have h2' : (all (Sy.of U s)).sref = true := h2
     (conv => whnf)
     refine ⟨_, appL (f := Res.enc) (xs := ((Sy.names U).take k).map fun n => resv (all (Sy.of U n)) n) (ys := [⟨s, 4, (all (Sy.of U s)).size, (all (Sy.of U s)).align, (all (Sy.of U s)).unit⟩]) (zs := ((Sy.names U).take (k + 1)).map fun n => resv (all (Sy.of U n)) n) (by simp) rfl (fun _ => rfl) (resL_snoc (U := U) (f := fun n => resv (all (Sy.of U n)) n) _ hs (by simp [resv, h1', h2'])) (by rw [List.length_map, List.length_take]; show _ * 48 ≤ _; omega), ?_⟩
     (conv => whnf)
     refine ⟨_, add64 (c := ((k + 1 : Nat) : Int)) (by (try simp only []); omega) (by omega), ?_⟩
     (conv => whnf)
     (refine ⟨k + 1, ⟨by omega, by simp only []; omega⟩, ?_⟩; (repeat' (first | exact trivial | exact Wk.refl _ | exact ObWk.refl _ | exact rfl | exact ⟨_, rfl⟩ | exact Nat.zero_lt_one | refine And.intro ?_ ?_ | unfold okTo | (unfold okO; conv => whnf) | (unfold okS; conv => whnf) | (unfold SlotOk; conv => whnf) | (unfold ObjOk; conv => whnf) | (unfold okCells; conv => whnf) | (unfold liveTo; conv => whnf) | exact Nat.zero_lt_succ _)))
    ·have h2' : (all (Sy.of U s)).sref = false := h2
     (conv => whnf)
     refine split_intro (fun _ => ?_) (fun h => absurd h (by rw [h1]; simp))
     (conv => whnf)
     refine ⟨_, appL (f := Res.enc) (xs := ((Sy.names U).take k).map fun n => resv (all (Sy.of U n)) n) (ys := [⟨s, 5, (all (Sy.of U s)).size, (all (Sy.of U s)).align, (all (Sy.of U s)).unit⟩]) (zs := ((Sy.names U).take (k + 1)).map fun n => resv (all (Sy.of U n)) n) (by simp) rfl (fun _ => rfl) (resL_snoc (U := U) (f := fun n => resv (all (Sy.of U n)) n) _ hs (by simp [resv, h1', h2'])) (by rw [List.length_map, List.length_take]; show _ * 48 ≤ _; omega), ?_⟩
     (conv => whnf)
     refine ⟨_, add64 (c := ((k + 1 : Nat) : Int)) (by (try simp only []); omega) (by omega), ?_⟩
     (conv => whnf)
     (refine ⟨k + 1, ⟨by omega, by simp only []; omega⟩, ?_⟩; (repeat' (first | exact trivial | exact Wk.refl _ | exact ObWk.refl _ | exact rfl | exact ⟨_, rfl⟩ | exact Nat.zero_lt_one | refine And.intro ?_ ?_ | unfold okTo | (unfold okO; conv => whnf) | (unfold okS; conv => whnf) | (unfold SlotOk; conv => whnf) | (unfold ObjOk; conv => whnf) | (unfold okCells; conv => whnf) | (unfold liveTo; conv => whnf) | exact Nat.zero_lt_succ _)))
   ·have h1' : ¬ (all (Sy.of U s)).bind = 0 := by simpa using h1
    (conv => whnf)
    refine split_intro (fun h => absurd h (by rw [h1]; simp)) (fun _ => ?_)
    (conv => whnf)
    refine ⟨_, appL (f := Res.enc) (xs := ((Sy.names U).take k).map fun n => resv (all (Sy.of U n)) n) (ys := [⟨s, (all (Sy.of U s)).bind, (all (Sy.of U s)).size, (all (Sy.of U s)).align, (all (Sy.of U s)).unit⟩]) (zs := ((Sy.names U).take (k + 1)).map fun n => resv (all (Sy.of U n)) n) (by simp) rfl (fun _ => rfl) (resL_snoc (U := U) (f := fun n => resv (all (Sy.of U n)) n) _ hs (by simp [resv, h1'])) (by rw [List.length_map, List.length_take]; show _ * 48 ≤ _; omega), ?_⟩
    (conv => whnf)
    refine ⟨_, add64 (c := ((k + 1 : Nat) : Int)) (by (try simp only []); omega) (by omega), ?_⟩
    (conv => whnf)
    (refine ⟨k + 1, ⟨by omega, by simp only []; omega⟩, ?_⟩; (repeat' (first | exact trivial | exact Wk.refl _ | exact ObWk.refl _ | exact rfl | exact ⟨_, rfl⟩ | exact Nat.zero_lt_one | refine And.intro ?_ ?_ | unfold okTo | (unfold okO; conv => whnf) | (unfold okS; conv => whnf) | (unfold SlotOk; conv => whnf) | (unfold ObjOk; conv => whnf) | (unfold okCells; conv => whnf) | (unfold liveTo; conv => whnf) | exact Nat.zero_lt_succ _)))
  ·have hge : (Sy.names U).length ≤ k := by have := of_decide_eq_false h; simp at this; omega
   (conv => whnf)
   refine ⟨[0, 1, 2, 3], rfl, by (try unfold pullOk); (repeat' (first | exact trivial | exact ObWk.refl _ | refine And.intro ?_ ?_ | unfold pullOk)), ?_⟩
   refine Wk.nat' ?_
   rw [List.take_of_length_le hge]
   rfl
theorem tstateZ_ (s : Str) : FCall Tryz.prog Gl 71 [.ptr 0 2, sD s] Zs (.agg empty.encN) Zs := by
 refine FCall.enterO hT hmix [] Tryz.func71 rfl rfl rfl fun hbd => ?_
 (conv => whnf)
 refine CallLeaf.wa (empty_) rfl ?_
 (conv => whnf)
 refine ⟨[0], rfl, by (try unfold pullOk); (repeat' (first | exact trivial | exact ObWk.refl _ | refine And.intro ?_ ?_ | unfold pullOk)), ?_⟩
 exact Wk.refl _
theorem tnamesZ_ : FCall Tryz.prog Gl 48 [.ptr 0 2] Zs (LSn []) Zs := by
 refine FCall.enterO hT hmix [] Tryz.func48 rfl rfl rfl fun hbd => ?_
 (conv => whnf)
 refine CallLeaf.oa [1569] (keysZ_) rfl rfl rfl rfl ?_
 (conv => whnf)
 refine CallLeaf.oa [1569] (sortedZ_) rfl rfl rfl rfl ?_
 (conv => whnf)
 refine ⟨[0], rfl, by (try unfold pullOk); (repeat' (first | exact trivial | exact ObWk.refl _ | refine And.intro ?_ ?_ | unfold pullOk)), ?_⟩
 exact Wk.refl _
theorem tnamesZA_ : FCall Tryz.prog Gl 48 [.ptr 0 2] Zs (.sl 1 0 0 0) (Zs ++ [.arr 0 1 (([] : List Str).map eS)]) := by
 refine FCall.enterO hT hmix [] Tryz.func48 rfl rfl rfl fun hbd => ?_
 (conv => whnf)
 refine CallLeaf.oa [1569] (keysZ_) rfl rfl rfl rfl ?_
 (conv => whnf)
 refine CallLeaf.oa [1569, 1577] (sortedZA_) rfl rfl rfl rfl ?_
 (conv => whnf)
 refine ⟨[0, 1577], rfl, by (try unfold pullOk); (repeat' (first | exact trivial | exact ObWk.refl _ | refine And.intro ?_ ?_ | unfold pullOk)), ?_⟩
 exact Wk.refl _
theorem tresZ_ : FCall Tryz.prog Gl 30 [.ptr 0 2] Zs (LRn []) Zs := by
 refine FCall.enterO hT hmix [] Tryz.func30 rfl rfl rfl fun hbd => ?_
 (conv => whnf)
 refine CallLeaf.oa [0] (tnamesZ_) rfl rfl rfl rfl ?_
 (conv => whnf)
 refine LWp.loop hT hmix [] (fun k : Nat => [(11, vI k), (3, .nil)]) (fun k => []) (fun k => k = 0) (fun k => 0) 0 rfl ?_
 (conv => whnf)
 refine ⟨?_, fun k hk => ?_⟩
 ·(repeat' (first | exact trivial | exact Wk.refl _ | exact ObWk.refl _ | exact rfl | exact ⟨_, rfl⟩ | exact Nat.zero_lt_one | refine And.intro ?_ ?_ | unfold okTo | (unfold okO; conv => whnf) | (unfold okS; conv => whnf) | (unfold SlotOk; conv => whnf) | (unfold ObjOk; conv => whnf) | (unfold okCells; conv => whnf) | (unfold liveTo; conv => whnf) | exact Nat.zero_lt_succ _))
 ·subst hk
  (conv => whnf)
  refine ⟨[0], rfl, by (try unfold pullOk); (repeat' (first | exact trivial | exact ObWk.refl _ | refine And.intro ?_ ?_ | unfold pullOk)), ?_⟩
  exact Wk.natN rfl
abbrev Bz : List AObj := [.cells [.ptr 1 2], .cells [.nil, mN, vI 0, mN], .arr 0 1 (([] : List Str).map eS)]
theorem indexFZ_ : FCall Tryz.prog Gl 62 [.sl 2 0 0 0, wF] Bz (vI (-1)) Bz := by
 refine FCall.enterO hT hmix [] Tryz.func62 rfl rfl rfl fun hbd => ?_
 (conv => whnf)
 refine LWp.loop hT hmix [] (fun k : Nat => [(8, vI k)]) (fun _ => []) (fun k => k = 0) (fun k => 0) 0 rfl ?_
 (conv => whnf)
 refine ⟨?_, fun k hk => ?_⟩
 ·(repeat' (first | exact trivial | exact Wk.refl _ | exact ObWk.refl _ | exact rfl | exact ⟨_, rfl⟩ | exact Nat.zero_lt_one | refine And.intro ?_ ?_ | unfold okTo | (unfold okO; conv => whnf) | (unfold okS; conv => whnf) | (unfold SlotOk; conv => whnf) | (unfold ObjOk; conv => whnf) | (unfold okCells; conv => whnf) | (unfold liveTo; conv => whnf) | exact Nat.zero_lt_succ _))
 ·subst hk
  (conv => whnf)
  refine ⟨[0, 1, 2], rfl, by (try unfold pullOk); (repeat' (first | exact trivial | exact ObWk.refl _ | refine And.intro ?_ ?_ | unfold pullOk)), ?_⟩
  exact Wk.refl _
theorem deleteFZ_ : FCall Tryz.prog Gl 47 [.sl 2 0 0 0, wF] Bz (.sl 2 0 0 0) Bz := by
 refine FCall.enterO hT hmix [] Tryz.func47 rfl rfl rfl fun hbd => ?_
 (conv => whnf)
 refine CallLeaf.oa [0, 1, 2] (indexFZ_) rfl rfl rfl rfl ?_
 (conv => whnf)
 refine ⟨[0, 1, 2], rfl, by (try unfold pullOk); (repeat' (first | exact trivial | exact ObWk.refl _ | refine And.intro ?_ ?_ | unfold pullOk)), ?_⟩
 exact Wk.refl _
theorem twantedZA_ : FCall Tryz.prog Gl 27 [.ptr 0 2] Zs (.sl 1 0 0 0) (Zs ++ [.arr 0 1 (([] : List Str).map eS)]) := by
 refine FCall.enterO hT hmix [] Tryz.func27 rfl rfl rfl fun hbd => ?_
 (conv => whnf)
 refine CallLeaf.oa [0, 521] (tnamesZA_) rfl rfl rfl rfl ?_
 (conv => whnf)
 refine CallLeaf.oa [1, 0, 521] (deleteFZ_) rfl rfl rfl rfl ?_
 (conv => whnf)
 refine ⟨[0, 521], rfl, by (try unfold pullOk); (repeat' (first | exact trivial | exact ObWk.refl _ | refine And.intro ?_ ?_ | unfold pullOk)), ?_⟩
 exact Wk.refl _
theorem twantedZ_ : FCall Tryz.prog Gl 27 [.ptr 0 2] Zs (LSn []) Zs := by
 refine FCall.soft [(0, .cells [.nil, mN, vI 0, mN])] twantedZA_ (fun k => ?_) (by simp) (fun k hk _ => ?_) ?_ ?_
 ·match k with
  | 0 => rfl
  | k + 1 => rfl
 ·match k, hk with
  | 0, _ => exact fun h => by simp [sto] at h
 ·exact ⟨.inl ⟨_, rfl, .refl _, by simp⟩, trivial⟩
 ·refine .inr (.inr ⟨1, 0, 0, 0, 1, [], rfl, rfl, rfl, by simp, by simp, ?_⟩)
  exact Wk.nat' rfl
theorem tloadY_ (us : List Unt) (l : List Ob.Sym) (x : List UInt8) (hl : ∀ s ∈ l, 1 ≤ s.bind ∧ s.bind ≤ 5) (hb : l.length ≤ 900000) :
  FCall Tryz.prog Gl 61 [.ptr 0 2, oD2 ⟨l, x⟩] (Ys us) (vI 0) (As us 1 (Sy.build (Sy.uses 0 l))) := by
 have hU : Sy.okB [] := fun u hu => by cases hu
 refine FCall.enterO hT hmix [] Tryz.func61 rfl rfl rfl fun hbd => ?_
 (conv => whnf)
 refine CallLeaf.oa [0, 1, 2058] (nextY_ us []) rfl rfl rfl rfl ?_
 (conv => whnf)
 refine LWp.loop hT hmix [] (fun k : Nat => [(28, vI k)]) (fun k => [(2058, .map (Sy.ents (Sy.build ([] ++ Sy.uses 0 (l.take k)))))]) (fun k => k ≤ l.length) (fun k => l.length - k) 0 (Nat.zero_le _) ?_
 (conv => whnf)
 refine ⟨?_, fun k hk => ?_⟩
 ·(repeat' (first | exact trivial | exact Wk.refl _ | exact ObWk.refl _ | exact rfl | exact ⟨_, rfl⟩ | exact Nat.zero_lt_one | refine And.intro ?_ ?_ | unfold okTo | (unfold okO; conv => whnf) | (unfold okS; conv => whnf) | (unfold SlotOk; conv => whnf) | (unfold ObjOk; conv => whnf) | (unfold okCells; conv => whnf) | (unfold liveTo; conv => whnf) | exact Nat.zero_lt_succ _))
 ·(conv => whnf)
  refine split_intro (fun h => ?_) (fun h => ?_)
  ·have hlt : k < l.length := by simpa using h
   obtain ⟨s, hs⟩ := exI hlt
   have hV : Sy.okB ([] ++ Sy.uses 0 (l.take k)) := hU.app (fun u hu => by
    obtain ⟨y, hy, rfl⟩ := List.mem_map.1 hu
    exact hl y (List.mem_of_mem_take hy))
   have hVl : ([] ++ Sy.uses 0 (l.take k)).length ≤ 900000 := by simp [Sy.uses]; omega
   have hnew : Sy.build ([] ++ Sy.uses 0 (l.take (k + 1))) = Sy.add1 (Sy.build ([] ++ Sy.uses 0 (l.take k))) ⟨Sy.toB s, ((0 : Nat) : Int)⟩ := by
    rw [Sy.uses_take hs, ← List.append_assoc, Sy.build_snoc]
   have hsl : 1 ≤ s.bind ∧ s.bind ≤ 5 := hl s (List.mem_of_getElem? hs)
   have hget := Sy.tget_build s.name ([] ++ Sy.uses 0 (l.take k))
   have hgd := Sy.tget_getD s.name ([] ++ Sy.uses 0 (l.take k))
   have hM := merge_ ((Sy.tget (Sy.build ([] ++ Sy.uses 0 (l.take k))) s.name).getD empty) (Sy.toB s) ((0 : Nat) : Int) (by rw [hgd]; exact Sy.all_bind (hV.of _)) hsl (by rw [hgd]; have := Sy.all_strongs (Sy.of ([] ++ Sy.uses 0 (l.take k)) s.name); have := Sy.of_le ([] ++ Sy.uses 0 (l.take k)) s.name; omega)
   have hset : ∀ st, (Sy.tget (Sy.build ([] ++ Sy.uses 0 (l.take k))) s.name).getD empty = st → mset (Sy.ents (Sy.build ([] ++ Sy.uses 0 (l.take k)))) (.string (sB s.name)) (.agg (merge st (Sy.toB s) ((0 : Nat) : Int)).enc) = Sy.ents (Sy.build ([] ++ Sy.uses 0 (l.take (k + 1)))) := fun st e => by
    rw [hnew, ← e]; exact Sy.mset_ents _ _ _
   cases hT : Sy.tget (Sy.build ([] ++ Sy.uses 0 (l.take k))) s.name with
   | none =>
    rw [hT] at hM
    (conv => whnf)
    refine ⟨_, ⟨by omega, getMap hs⟩, ?_⟩
    (conv => whnf)
    refine ⟨_, ⟨Sy.ents_keys _, Sy.look_none hT _⟩, ?_⟩
    (conv => whnf)
    refine CallLeaf.wa (empty_) rfl ?_
    (conv => whnf)
    refine CallLeaf.wa (hM) rfl ?_
    (conv => whnf)
    refine ⟨_, ⟨Sy.ents_keys _, hset empty (by rw [hT]; rfl)⟩, ?_⟩
    (conv => whnf)
    refine ⟨_, add64 (c := ((k + 1 : Nat) : Int)) (by (try simp only []); omega) (by omega), ?_⟩
    (conv => whnf)
    refine ⟨k + 1, ⟨by omega, by simp only []; omega⟩, ?_⟩
    (repeat' (first | exact trivial | exact Wk.refl _ | exact ObWk.refl _ | exact rfl | exact ⟨_, rfl⟩ | exact Nat.zero_lt_one | refine And.intro ?_ ?_ | unfold okTo | (unfold okO; conv => whnf) | (unfold okS; conv => whnf) | (unfold SlotOk; conv => whnf) | (unfold ObjOk; conv => whnf) | (unfold okCells; conv => whnf) | (unfold liveTo; conv => whnf) | exact Nat.zero_lt_succ _))
   | some st =>
    rw [hT] at hM
    (conv => whnf)
    refine ⟨_, ⟨by omega, getMap hs⟩, ?_⟩
    (conv => whnf)
    refine ⟨_, ⟨Sy.ents_keys _, Sy.look_some hT _⟩, ?_⟩
    (conv => whnf)
    refine CallLeaf.wa (hM) rfl ?_
    (conv => whnf)
    refine ⟨_, ⟨Sy.ents_keys _, hset st (by rw [hT]; rfl)⟩, ?_⟩
    (conv => whnf)
    refine ⟨_, add64 (c := ((k + 1 : Nat) : Int)) (by (try simp only []); omega) (by omega), ?_⟩
    (conv => whnf)
    refine ⟨k + 1, ⟨by omega, by simp only []; omega⟩, ?_⟩
    (repeat' (first | exact trivial | exact Wk.refl _ | exact ObWk.refl _ | exact rfl | exact ⟨_, rfl⟩ | exact Nat.zero_lt_one | refine And.intro ?_ ?_ | unfold okTo | (unfold okO; conv => whnf) | (unfold okS; conv => whnf) | (unfold SlotOk; conv => whnf) | (unfold ObjOk; conv => whnf) | (unfold okCells; conv => whnf) | (unfold liveTo; conv => whnf) | exact Nat.zero_lt_succ _))
  ·have hge : l.length ≤ k := by simpa using h
   (conv => whnf)
   refine ⟨[0, 1, 2058], rfl, by (try unfold pullOk); (repeat' (first | exact trivial | exact ObWk.refl _ | exact ObWk.of_eq (by rw [List.take_of_length_le hge]; rfl) | refine And.intro ?_ ?_ | unfold pullOk)), ?_⟩
   exact Wk.refl _
end Go.Proofs.YtfbmknghfhancaaGreatDoor
