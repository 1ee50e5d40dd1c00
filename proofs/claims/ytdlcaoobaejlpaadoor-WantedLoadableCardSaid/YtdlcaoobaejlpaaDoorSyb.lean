/- Names, states and resolutions of a table. No condition. -/
import Derived.Test.YtdlcaoobaejlpaaDoorSya
import Derived.Test.YtdlcaoobaejlpaaDoorAoC
import Derived.Test.YtdlcaoobaejlpaaDoorAop
import Derived.Test.YtdlcaoobaejlpaaDoorRows
import Derived.LaidMore
import Derived.Stop.Joined
import Derived.SevenTiedAt
import Derived.Lib.LaidTab
set_option linter.unusedVariables false
set_option linter.unusedSimpArgs false
namespace Go.Proofs.YtdlcaoobaejlpaaDoor
open Go Go.AL Go.AL.Bd
set_option maxRecDepth 100000
set_option maxHeartbeats 4000000
theorem keys_ (T : Sy.Tb) : FCall Tryd.prog Gl 41 [.map 0] [.map (Sy.ents T)] (.func (.func 55) [] [.ptr 1 0]) [.map (Sy.ents T), .cells [.map 0]] := by
  refine FCall.enterO hT hmix [] Tryd.func41 rfl rfl rfl fun hbd => ?_
  (conv => whnf)
  refine ⟨[0, 1], rfl, by (try unfold pullOk); (repeat' (first | exact trivial | exact ObWk.refl _ | refine And.intro ?_ ?_ | unfold pullOk)), ?_⟩
  exact Wk.refl _
theorem tnamesN_ : FCall Tryd.prog Gl 20 [pN] [] (LSn []) [] := by
  refine FCall.enterL hT hmix [] Tryd.func20 rfl rfl rfl fun hbd => ?_
  (conv => whnf)
  exact Wk.natN rfl
theorem tnames_ (U : List Use) (n : Nat) (hU : ∀ u ∈ U, u.sym.name.length ≤ 1000000) (hl : U.length ≤ 1000000) :
    FCall Tryd.prog Gl 20 [.ptr 0 0] (Tq n (Sy.build U)) (LSn (Sy.names U)) (Tq n (Sy.build U)) := by
  refine FCall.enterO hT hmix [] Tryd.func20 rfl rfl rfl fun hbd => ?_
  (conv => whnf)
  refine CallLeaf.o [1, 1570] (by (repeat' (first | exact ArgsTo.nil | refine ArgsTo.cons ?_ ?_ | exact ArgTo.mk' rfl (Wk.refl _) | exact ArgTo.mk' rfl Wk.nilm | exact ArgTo.mk' rfl (Wk.int (by simp)) | exact ArgTo.mk' rfl (Wk.list _ _) | exact ArgTo.mk' rfl (Wk.agg (by (repeat' (first | exact Wks.nil | refine Wks.cons ?_ ?_ | exact Wk.refl _ | exact Wk.nilm | exact Wk.list _ _  | exact Wk.natN rfl | refine Wk.agg ?_))))))) (keys_ (Sy.build U)) rfl rfl (by (repeat' (first | exact trivial | exact rfl | refine And.intro ?_ ?_))) (by (repeat' (first | exact trivial | exact rfl | refine And.intro ?_ ?_))) (by (repeat' (first | exact trivial | exact rfl | refine And.intro ?_ ?_))) rfl rfl ?_
  (conv => whnf)
  refine CallLeaf.o [1570, 1] (by (repeat' (first | exact ArgsTo.nil | refine ArgsTo.cons ?_ ?_ | exact ArgTo.mk' rfl (Wk.refl _) | exact ArgTo.mk' rfl Wk.nilm | exact ArgTo.mk' rfl (Wk.int (by simp)) | exact ArgTo.mk' rfl (Wk.list _ _) | exact ArgTo.mk' rfl (Wk.agg (by (repeat' (first | exact Wks.nil | refine Wks.cons ?_ ?_ | exact Wk.refl _ | exact Wk.nilm | exact Wk.list _ _  | exact Wk.natN rfl | refine Wk.agg ?_))))))) (sortedL_ U hU hl) rfl rfl (by (repeat' (first | exact trivial | exact rfl | refine And.intro ?_ ?_))) (by (repeat' (first | exact trivial | exact rfl | refine And.intro ?_ ?_))) (by (repeat' (first | exact trivial | exact rfl | refine And.intro ?_ ?_))) rfl rfl ?_
  (conv => whnf)
  refine ⟨[0, 1], rfl, by (try unfold pullOk); (repeat' (first | exact trivial | exact ObWk.refl _ | refine And.intro ?_ ?_ | unfold pullOk)), ?_⟩
  exact Wk.refl _
theorem tnamesA_ (U : List Use) (n : Nat) (hU : ∀ u ∈ U, u.sym.name.length ≤ 1000000) (hl : U.length ≤ 1000000) :
    FCall Tryd.prog Gl 20 [.ptr 0 0] (Tq n (Sy.build U)) (.sl 2 0 0 (Sy.names U).length) (Tq n (Sy.build U) ++ [.arr 0 1 ((Sy.names U).map eS)]) := by
  refine FCall.enterO hT hmix [] Tryd.func20 rfl rfl rfl fun hbd => ?_
  (conv => whnf)
  refine CallLeaf.o [1, 1570] (by (repeat' (first | exact ArgsTo.nil | refine ArgsTo.cons ?_ ?_ | exact ArgTo.mk' rfl (Wk.refl _) | exact ArgTo.mk' rfl Wk.nilm | exact ArgTo.mk' rfl (Wk.int (by simp)) | exact ArgTo.mk' rfl (Wk.list _ _) | exact ArgTo.mk' rfl (Wk.agg (by (repeat' (first | exact Wks.nil | refine Wks.cons ?_ ?_ | exact Wk.refl _ | exact Wk.nilm | exact Wk.list _ _  | exact Wk.natN rfl | refine Wk.agg ?_))))))) (keys_ (Sy.build U)) rfl rfl (by (repeat' (first | exact trivial | exact rfl | refine And.intro ?_ ?_))) (by (repeat' (first | exact trivial | exact rfl | refine And.intro ?_ ?_))) (by (repeat' (first | exact trivial | exact rfl | refine And.intro ?_ ?_))) rfl rfl ?_
  (conv => whnf)
  refine CallLeaf.o [1570, 1, 1578] (by (repeat' (first | exact ArgsTo.nil | refine ArgsTo.cons ?_ ?_ | exact ArgTo.mk' rfl (Wk.refl _) | exact ArgTo.mk' rfl Wk.nilm | exact ArgTo.mk' rfl (Wk.int (by simp)) | exact ArgTo.mk' rfl (Wk.list _ _) | exact ArgTo.mk' rfl (Wk.agg (by (repeat' (first | exact Wks.nil | refine Wks.cons ?_ ?_ | exact Wk.refl _ | exact Wk.nilm | exact Wk.list _ _  | exact Wk.natN rfl | refine Wk.agg ?_))))))) (sortedA_ U hU hl) rfl rfl (by (repeat' (first | exact trivial | exact rfl | refine And.intro ?_ ?_))) (by (repeat' (first | exact trivial | exact rfl | refine And.intro ?_ ?_))) (by (repeat' (first | exact trivial | exact rfl | refine And.intro ?_ ?_))) rfl rfl ?_
  (conv => whnf)
  refine ⟨[0, 1, 1578], rfl, by (try unfold pullOk); (repeat' (first | exact trivial | exact ObWk.refl _ | refine And.intro ?_ ?_ | unfold pullOk)), ?_⟩
  exact Wk.refl _
theorem tunits_ (n : Nat) (T : Sy.Tb) : FCall Tryd.prog Gl 12 [.ptr 0 0] (Tq n T) (vI n) (Tq n T) := by
  refine FCall.enterO hT hmix [] Tryd.func12 rfl rfl rfl fun hbd => ?_
  (conv => whnf)
  refine ⟨[0, 1], rfl, by (try unfold pullOk); (repeat' (first | exact trivial | exact ObWk.refl _ | refine And.intro ?_ ?_ | unfold pullOk)), ?_⟩
  exact Wk.refl _
theorem tunitsN_ : FCall Tryd.prog Gl 12 [pN] [] (vI 0) [] := by
  refine FCall.enterL hT hmix [] Tryd.func12 rfl rfl rfl fun hbd => ?_
  (conv => whnf)
  exact Wk.refl _
end Go.Proofs.YtdlcaoobaejlpaaDoor

/- The wanted names of a table. No condition. -/
set_option linter.unusedVariables false
set_option linter.unusedSimpArgs false
namespace Go.Proofs.YtdlcaoobaejlpaaDoor
open Go Go.AL Go.AL.Bd
set_option maxRecDepth 100000
set_option maxHeartbeats 4000000
abbrev Bq (n : Nat) (U : List Use) : List AObj := [.cells [.ptr 1 0], .cells [vI n, .map 2], .map (Sy.ents (Sy.build U))]
abbrev wF : D := .func (.func 39) [] [.ptr 0 0]
abbrev keepW (U : List Use) (s : Str) : Bool := wanted (all (Sy.of U s))
theorem wclos_ (U : List Use) (n : Nat) (s : Str) (hs : s ∈ Sy.names U) :
    FCall Tryd.prog Gl 39 [sD s, .ptr 0 0] (Bq n U) (vB (!keepW U s)) (Bq n U) := by
  have hTb : Sy.tget (Sy.build U) s = some (all (Sy.of U s)) := by
    rw [Sy.tget_build, if_neg ((Sy.mem_names s U).1 hs)]
  refine FCall.enterO hT hmix [] Tryd.func39 rfl rfl rfl fun hbd => ?_
  (conv => whnf)
  refine ⟨_, ⟨Sy.ents_keys _, Sy.look1 hTb _⟩, ?_⟩
  (conv => whnf)
  refine CallLeaf.w (by (repeat' (first | exact ArgsTo.nil | refine ArgsTo.cons ?_ ?_ | exact ArgTo.mk' rfl (Wk.refl _) | exact ArgTo.mk' rfl Wk.nilm | exact ArgTo.mk' rfl (Wk.int (by simp)) | exact ArgTo.mk' rfl (Wk.list _ _) | exact ArgTo.mk' rfl (Wk.agg (by (repeat' (first | exact Wks.nil | refine Wks.cons ?_ ?_ | exact Wk.refl _ | exact Wk.nilm | exact Wk.list _ _  | exact Wk.natN rfl | refine Wk.agg ?_))))))) (wanted_ (all (Sy.of U s))) rfl ?_
  (conv => whnf)
  refine ⟨[0, 1, 2], rfl, by (try unfold pullOk); (repeat' (first | exact trivial | exact ObWk.refl _ | refine And.intro ?_ ?_ | unfold pullOk)), ?_⟩
  exact Wk.refl _
def idxF (p : Str → Bool) (l : List Str) : Int := match l.findIdx? p with | some i => (i : Int) | none => -1
theorem indexF_ (U : List Use) (n : Nat) (g : Nat) (l : List Str) (hs : ∀ s ∈ l, s ∈ Sy.names U) (hl : l.length ≤ 1000000) :
    FCall Tryd.prog Gl 52 [.sl 3 g 0 l.length, wF] (Bq n U ++ [.arr g 1 (l.map eS)]) (vI (idxF (fun s => !keepW U s) l)) (Bq n U ++ [.arr g 1 (l.map eS)]) := by
  refine FCall.enterO hT hmix [] Tryd.func52 rfl rfl rfl fun hbd => ?_
  (conv => whnf)
  refine LWp.loop hT hmix [] (fun k : Nat => [(8, vI k)]) (fun _ => []) (fun k => k ≤ l.length ∧ ∀ s ∈ l.take k, keepW U s = true) (fun k => l.length - k) 0 ⟨Nat.zero_le _, by simp⟩ ?_
  (conv => whnf)
  refine ⟨?_, fun k ⟨hk, hkk⟩ => ?_⟩
  · (repeat' (first | exact trivial | exact Wk.refl _ | exact ObWk.refl _ | exact rfl | exact ⟨_, rfl⟩ | exact Nat.zero_lt_one | refine And.intro ?_ ?_ | unfold okTo | (unfold okO; conv => whnf) | (unfold okS; conv => whnf) | (unfold SlotOk; conv => whnf) | (unfold ObjOk; conv => whnf) | (unfold okCells; conv => whnf) | (unfold liveTo; conv => whnf) | exact Nat.zero_lt_succ _))
  · (conv => whnf)
    refine split_intro (fun h => ?_) (fun h => ?_)
    · have hlt : k < l.length := by simpa using h
      obtain ⟨s, hx⟩ := exI hlt
      have hin := hs s (List.mem_of_getElem? hx)
      (conv => whnf)
      refine ⟨⟨rfl, rfl, by omega, by omega, by simp⟩, ?_⟩
      (conv => whnf)
      refine ⟨eS s, ⟨rfl, rfl, by simp [hx]⟩, ?_⟩
      (conv => whnf)
      refine CallLeaf.o [0, 1, 2] (by (repeat' (first | exact ArgsTo.nil | refine ArgsTo.cons ?_ ?_ | exact ArgTo.mk' rfl (Wk.refl _) | exact ArgTo.mk' rfl Wk.nilm | exact ArgTo.mk' rfl (Wk.int (by simp)) | exact ArgTo.mk' rfl (Wk.list _ _) | exact ArgTo.mk' rfl (Wk.agg (by (repeat' (first | exact Wks.nil | refine Wks.cons ?_ ?_ | exact Wk.refl _ | exact Wk.nilm | exact Wk.list _ _  | exact Wk.natN rfl | refine Wk.agg ?_))))))) (wclos_ U n s hin) rfl rfl (by (repeat' (first | exact trivial | exact rfl | refine And.intro ?_ ?_))) (by (repeat' (first | exact trivial | exact rfl | refine And.intro ?_ ?_))) (by (repeat' (first | exact trivial | exact rfl | refine And.intro ?_ ?_))) rfl rfl ?_
      (conv => whnf)
      refine split_intro (fun hp => ?_) (fun hp => ?_)
      · have hp' : keepW U s = false := by simpa using hp
        have hidx : idxF (fun s => !keepW U s) l = (k : Int) := by
          unfold idxF
          have : l.findIdx? (fun s => !keepW U s) = some k := by
            rw [List.findIdx?_eq_some_iff_getElem]
            have e : l[k] = s := by simpa [hlt] using hx
            refine ⟨hlt, by simp [e, hp'], fun j hj => ?_⟩
            have := hkk (l[j]'(by omega)) (List.mem_take_iff_getElem.2 ⟨j, by omega, rfl⟩)
            simp [this]
          rw [this]
        rw [hidx]
        (conv => whnf)
        refine ⟨[0, 1, 2, 3], rfl, by (try unfold pullOk); (repeat' (first | exact trivial | exact ObWk.refl _ | refine And.intro ?_ ?_ | unfold pullOk)), ?_⟩
        exact Wk.refl _
      · have hp' : keepW U s = true := by simpa using hp
        (conv => whnf)
        refine ⟨_, add64 (c := ((k + 1 : Nat) : Int)) (by (try simp only []); omega) (by omega), ?_⟩
        (conv => whnf)
        refine ⟨k + 1, ⟨⟨by omega, fun y hy => ?_⟩, by simp only []; omega⟩, ?_⟩
        · rw [List.take_add_one, hx] at hy
          simp only [Option.toList_some, List.mem_append, List.mem_singleton] at hy
          rcases hy with hy | rfl
          · exact hkk y hy
          · exact hp'
        · (repeat' (first | exact trivial | exact Wk.refl _ | exact ObWk.refl _ | exact rfl | exact ⟨_, rfl⟩ | exact Nat.zero_lt_one | refine And.intro ?_ ?_ | unfold okTo | (unfold okO; conv => whnf) | (unfold okS; conv => whnf) | (unfold SlotOk; conv => whnf) | (unfold ObjOk; conv => whnf) | (unfold okCells; conv => whnf) | (unfold liveTo; conv => whnf) | exact Nat.zero_lt_succ _))
    · have hge : l.length ≤ k := by simpa using h
      rw [List.take_of_length_le hge] at hkk
      have hidx : idxF (fun s => !keepW U s) l = -1 := by
        unfold idxF
        have : l.findIdx? (fun s => !keepW U s) = none := by
          rw [List.findIdx?_eq_none_iff]
          intro y hy; simp [hkk y hy]
        rw [this]
      rw [hidx]
      (conv => whnf)
      refine ⟨[0, 1, 2, 3], rfl, by (try unfold pullOk); (repeat' (first | exact trivial | exact ObWk.refl _ | refine And.intro ?_ ?_ | unfold pullOk)), ?_⟩
      exact Wk.refl _
abbrev kept (U : List Use) (l : List Str) : List Str := l.filter (keepW U)
abbrev left (U : List Use) (l : List Str) : List Str := kept U l ++ List.replicate (l.length - (kept U l).length) []
theorem left_len (U : List Use) (l : List Str) : (left U l).length = l.length := by
  have := List.length_filter_le (keepW U) l
  simp only [left, kept, List.length_append, List.length_replicate]; omega
theorem deleteF_ (U : List Use) (n : Nat) (g : Nat) (l : List Str) (hs : ∀ s ∈ l, s ∈ Sy.names U) (hl : l.length ≤ 1000000) :
    FCall Tryd.prog Gl 38 [.sl 3 g 0 l.length, wF] (Bq n U ++ [.arr g 1 (l.map eS)]) (.sl 3 g 0 (kept U l).length) (Bq n U ++ [.arr g 1 ((left U l).map eS)]) := by
  have hI := indexF_ U n g l hs hl
  unfold idxF at hI
  cases hf : l.findIdx? (fun s => !keepW U s) with
  | none =>
    rw [hf] at hI
    have hall : kept U l = l := by
      rw [List.findIdx?_eq_none_iff] at hf
      exact List.filter_eq_self.2 fun y hy => by simpa using hf y hy
    have hleft : left U l = l := by simp [left, hall]
    rw [hleft, hall]
    refine FCall.enterO hT hmix [] Tryd.func38 rfl rfl rfl fun hbd => ?_
    (conv => whnf)
    refine CallLeaf.o [0, 1, 2, 3] (by (repeat' (first | exact ArgsTo.nil | refine ArgsTo.cons ?_ ?_ | exact ArgTo.mk' rfl (Wk.refl _) | exact ArgTo.mk' rfl Wk.nilm | exact ArgTo.mk' rfl (Wk.int (by simp)) | exact ArgTo.mk' rfl (Wk.list _ _) | exact ArgTo.mk' rfl (Wk.agg (by (repeat' (first | exact Wks.nil | refine Wks.cons ?_ ?_ | exact Wk.refl _ | exact Wk.nilm | exact Wk.list _ _  | exact Wk.natN rfl | refine Wk.agg ?_))))))) (hI) rfl rfl (by (repeat' (first | exact trivial | exact rfl | refine And.intro ?_ ?_))) (by (repeat' (first | exact trivial | exact rfl | refine And.intro ?_ ?_))) (by (repeat' (first | exact trivial | exact rfl | refine And.intro ?_ ?_))) rfl rfl ?_
    (conv => whnf)
    refine ⟨[0, 1, 2, 3], rfl, by (try unfold pullOk); (repeat' (first | exact trivial | exact ObWk.refl _ | refine And.intro ?_ ?_ | unfold pullOk)), ?_⟩
    exact Wk.refl _
  | some i0 =>
    rw [hf] at hI
    replace hI : FCall Tryd.prog Gl 52 [.sl 3 g 0 l.length, wF] (Bq n U ++ [.arr g 1 (l.map eS)]) (vI (i0 : Int)) (Bq n U ++ [.arr g 1 (l.map eS)]) := hI
    obtain ⟨h0, h1, h2⟩ := List.findIdx?_eq_some_iff_getElem.1 hf
    refine FCall.enterO hT hmix [] Tryd.func38 rfl rfl rfl fun hbd => ?_
    (conv => whnf)
    refine CallLeaf.o [0, 1, 2, 3] (by (repeat' (first | exact ArgsTo.nil | refine ArgsTo.cons ?_ ?_ | exact ArgTo.mk' rfl (Wk.refl _) | exact ArgTo.mk' rfl Wk.nilm | exact ArgTo.mk' rfl (Wk.int (by simp)) | exact ArgTo.mk' rfl (Wk.list _ _) | exact ArgTo.mk' rfl (Wk.agg (by (repeat' (first | exact Wks.nil | refine Wks.cons ?_ ?_ | exact Wk.refl _ | exact Wk.nilm | exact Wk.list _ _  | exact Wk.natN rfl | refine Wk.agg ?_))))))) (hI) rfl rfl (by (repeat' (first | exact trivial | exact rfl | refine And.intro ?_ ?_))) (by (repeat' (first | exact trivial | exact rfl | refine And.intro ?_ ?_))) (by (repeat' (first | exact trivial | exact rfl | refine And.intro ?_ ?_))) rfl rfl ?_
    (conv => whnf)
    refine ⟨_, add64 (c := ((i0 + 1 : Nat) : Int)) (by omega) (by omega), ?_⟩
    (conv => whnf)
    refine LWp.loop hT hmix [] (fun x : Nat × Nat × List Str => [(6, vI x.1), (5, vI x.2.1)]) (fun x => [(3, .arr g 1 (x.2.2.map eS))]) (fun y => y.1 ≤ l.length ∧ y.2.1 ≤ y.1 ∧ y.2.2.length = l.length ∧ y.2.2.take y.2.1 = kept U (l.take y.1) ∧ y.2.2.drop y.1 = l.drop y.1) (fun x => l.length - x.1) (i0 + 1, i0, l) ⟨by show i0 + 1 ≤ l.length; omega, by show i0 ≤ i0 + 1; omega, rfl, ?_, rfl⟩ ?_
    · show l.take i0 = kept U (l.take (i0 + 1))
      have e : l[i0]? = some l[i0] := by simp [h0]
      rw [List.take_add_one, e]
      simp only [kept, Option.toList_some, List.filter_append]
      have a1 : (l.take i0).filter (keepW U) = l.take i0 := List.filter_eq_self.2 fun y hy => by
        obtain ⟨j, hj, rfl⟩ := List.mem_take_iff_getElem.1 hy
        have := h2 j (by omega)
        simpa using this
      have a2 : [l[i0]].filter (keepW U) = [] := by
        have : keepW U l[i0] = false := by simpa using h1
        simp [this]
      rw [a1, a2, List.append_nil]
    (conv => whnf)
    refine ⟨?_, fun ⟨j, i, xs⟩ ⟨hj, hij, hxl, hxt, hxd⟩ => ?_⟩
    · (repeat' (first | exact trivial | exact Wk.refl _ | exact ObWk.refl _ | exact rfl | exact ⟨_, rfl⟩ | exact Nat.zero_lt_one | refine And.intro ?_ ?_ | unfold okTo | (unfold okO; conv => whnf) | (unfold okS; conv => whnf) | (unfold SlotOk; conv => whnf) | (unfold ObjOk; conv => whnf) | (unfold okCells; conv => whnf) | (unfold liveTo; conv => whnf) | exact Nat.zero_lt_succ _))
    · replace hj : j ≤ l.length := hj
      replace hij : i ≤ j := hij
      replace hxl : xs.length = l.length := hxl
      replace hxt : xs.take i = kept U (l.take j) := hxt
      replace hxd : xs.drop j = l.drop j := hxd
      (conv => whnf)
      refine split_intro (fun h => ?_) (fun h => ?_)
      · have hlt : j < l.length := by simpa using h
        obtain ⟨v, hv⟩ := exI hlt
        have hxv : xs[j]? = some v := by
          have := congrArg (fun z : List Str => z[0]?) hxd
          simpa [List.getElem?_drop, hv] using this
        have hin := hs v (List.mem_of_getElem? hv)
        (conv => whnf)
        refine ⟨⟨rfl, rfl, by omega, by simp only []; omega, by simp [hxl]⟩, ?_⟩
        (conv => whnf)
        refine ⟨eS v, ⟨rfl, rfl, by simp [hxv]⟩, ?_⟩
        (conv => whnf)
        refine CallLeaf.o [0, 1, 2] (by (repeat' (first | exact ArgsTo.nil | refine ArgsTo.cons ?_ ?_ | exact ArgTo.mk' rfl (Wk.refl _) | exact ArgTo.mk' rfl Wk.nilm | exact ArgTo.mk' rfl (Wk.int (by simp)) | exact ArgTo.mk' rfl (Wk.list _ _) | exact ArgTo.mk' rfl (Wk.agg (by (repeat' (first | exact Wks.nil | refine Wks.cons ?_ ?_ | exact Wk.refl _ | exact Wk.nilm | exact Wk.list _ _  | exact Wk.natN rfl | refine Wk.agg ?_))))))) (wclos_ U n v hin) rfl rfl (by (repeat' (first | exact trivial | exact rfl | refine And.intro ?_ ?_))) (by (repeat' (first | exact trivial | exact rfl | refine And.intro ?_ ?_))) (by (repeat' (first | exact trivial | exact rfl | refine And.intro ?_ ?_))) rfl rfl ?_
        (conv => whnf)
        have hstep : ∀ b, keepW U v = b → kept U (l.take (j + 1)) = kept U (l.take j) ++ (if b then [v] else []) := by
          intro b hb
          rw [List.take_add_one, hv]
          simp only [kept, Option.toList_some, List.filter_append]
          congr 1
          cases b <;> simp [hb]
        have hdr : xs.drop (j + 1) = l.drop (j + 1) := by
          have := congrArg (List.drop 1) hxd
          simpa [List.drop_drop, Nat.add_comm] using this
        refine split_intro (fun hp => ?_) (fun hp => ?_)
        · have hp' : keepW U v = true := by simpa using hp
          obtain ⟨c, hc⟩ := exI (l := xs) (k := i) (by omega)
          (conv => whnf)
          refine ⟨⟨rfl, rfl, by omega, by simp only []; omega, by simp [hxl]⟩, ?_⟩
          (conv => whnf)
          refine ⟨eS c, (xs.set i v).map eS, ⟨rfl, rfl, by simp only [Nat.zero_add, Int.toNat_natCast]; exact getMap hc⟩, ⟨Nat.le_refl 1, by simp [setCells, toCells]⟩, ?_⟩
          (conv => whnf)
          refine ⟨_, add64 (c := ((i + 1 : Nat) : Int)) (by (try simp only []); omega) (by omega), ?_⟩
          (conv => whnf)
          refine ⟨_, add64 (c := ((j + 1 : Nat) : Int)) (by (try simp only []); omega) (by omega), ?_⟩
          (conv => whnf)
          refine ⟨(j + 1, i + 1, xs.set i v), ⟨⟨by show j + 1 ≤ l.length; omega, by show i + 1 ≤ j + 1; omega, by simp [hxl], ?_, ?_⟩, by show l.length - (j + 1) < l.length - j; omega⟩, ?_⟩
          · show (xs.set i v).take (i + 1) = kept U (l.take (j + 1))
            rw [hstep true hp', if_pos rfl, ← hxt, List.take_add_one, List.take_set_of_le (Nat.le_refl i)]
            simp [show i < xs.length by omega]
          · show (xs.set i v).drop (j + 1) = l.drop (j + 1)
            rw [List.drop_set_of_lt (by omega)]; exact hdr
          · (repeat' (first | exact trivial | exact Wk.refl _ | exact ObWk.refl _ | exact rfl | exact ⟨_, rfl⟩ | exact Nat.zero_lt_one | refine And.intro ?_ ?_ | unfold okTo | (unfold okO; conv => whnf) | (unfold okS; conv => whnf) | (unfold SlotOk; conv => whnf) | (unfold ObjOk; conv => whnf) | (unfold okCells; conv => whnf) | (unfold liveTo; conv => whnf) | exact Nat.zero_lt_succ _))
        · have hp' : keepW U v = false := by simpa using hp
          (conv => whnf)
          refine ⟨_, add64 (c := ((j + 1 : Nat) : Int)) (by (try simp only []); omega) (by omega), ?_⟩
          (conv => whnf)
          refine ⟨(j + 1, i, xs), ⟨⟨by show j + 1 ≤ l.length; omega, by show i ≤ j + 1; omega, hxl, ?_, hdr⟩, by show l.length - (j + 1) < l.length - j; omega⟩, ?_⟩
          · show xs.take i = kept U (l.take (j + 1))
            rw [hstep false hp', hxt]; simp
          · (repeat' (first | exact trivial | exact Wk.refl _ | exact ObWk.refl _ | exact rfl | exact ⟨_, rfl⟩ | exact Nat.zero_lt_one | refine And.intro ?_ ?_ | unfold okTo | (unfold okO; conv => whnf) | (unfold okS; conv => whnf) | (unfold SlotOk; conv => whnf) | (unfold ObjOk; conv => whnf) | (unfold okCells; conv => whnf) | (unfold liveTo; conv => whnf) | exact Nat.zero_lt_succ _))
      · have hge : l.length ≤ j := by simpa using h
        rw [List.take_of_length_le hge] at hxt
        have hil : i = (kept U l).length := by
          have := congrArg List.length hxt
          simpa [show i ≤ xs.length by omega] using this
        have hzl : (zeroN (xs.map eS) i (l.length - i) [sD []]).length = l.length := by rw [zeroN_len (by simp; omega)]; simp [hxl]
        have hz : zeroN (xs.map eS) i (l.length - i) [sD []] = (left U l).map eS := by
          unfold zeroN
          have e1 : (xs.map eS).drop (i + (l.length - i)) = [] := List.drop_eq_nil_of_le (by simp; omega)
          rw [e1, List.append_nil, ← List.map_take, hxt, hil]
          simp [left, List.map_append, List.map_replicate]
        have hz' : zeroN (xs.map eS) (0 + ((i : Nat) : Int).toNat) (((l.length : Nat) : Int).toNat - ((i : Nat) : Int).toNat) [sD []] = (left U l).map eS := by
          rw [Nat.zero_add, Int.toNat_natCast, Int.toNat_natCast]; exact hz
        (conv => whnf)
        refine ⟨⟨rfl, rfl, by simp [hxl], by simp only []; omega, by simp only []; omega, by omega⟩, ?_⟩
        (conv => whnf)
        refine ⟨⟨rfl, rfl, by simp [hxl]; omega⟩, ?_⟩
        (conv => whnf)
        refine ⟨⟨rfl, rfl, ?_, by omega, by simp only []; omega, by simp only []; omega⟩, ?_⟩
        · refine Nat.le_trans ?_ (Nat.le_of_eq (congrArg List.length hz').symm)
          rw [List.length_map, left_len]; omega
        (conv => whnf)
        refine ⟨[0, 1, 2, 3], rfl, by (try unfold pullOk); (repeat' (first | exact trivial | exact ObWk.refl _ | exact ObWk.of_eq (congrArg (AObj.arr g 1) hz') | refine And.intro ?_ ?_ | unfold pullOk)), ?_⟩
        show Wk (.sl 3 g (0 + (0 : Int).toNat) (((i : Nat) : Int).toNat - (0 : Int).toNat)) (.sl 3 g 0 (kept U l).length)
        rw [← hil]; exact Wk.of_eq (by simp)
/-- the wanted names of what is loaded -/
def wantedL (U : List Use) : List Str := (Sy.names U).filter (keepW U)
theorem twantedA_ (U : List Use) (n : Nat) (hU : ∀ u ∈ U, u.sym.name.length ≤ 1000000) (hl : U.length ≤ 1000000) :
    FCall Tryd.prog Gl 18 [.ptr 0 0] (Tq n (Sy.build U)) (.sl 2 0 0 (wantedL U).length) (Tq n (Sy.build U) ++ [.arr 0 1 ((left U (Sy.names U)).map eS)]) := by
  have hD := deleteF_ U n 0 (Sy.names U) (fun _ h => h) (by have := names_len U; omega)
  refine FCall.enterO hT hmix [] Tryd.func18 rfl rfl rfl fun hbd => ?_
  (conv => whnf)
  refine CallLeaf.o [0, 1, 522] (by (repeat' (first | exact ArgsTo.nil | refine ArgsTo.cons ?_ ?_ | exact ArgTo.mk' rfl (Wk.refl _) | exact ArgTo.mk' rfl Wk.nilm | exact ArgTo.mk' rfl (Wk.int (by simp)) | exact ArgTo.mk' rfl (Wk.list _ _) | exact ArgTo.mk' rfl (Wk.agg (by (repeat' (first | exact Wks.nil | refine Wks.cons ?_ ?_ | exact Wk.refl _ | exact Wk.nilm | exact Wk.list _ _  | exact Wk.natN rfl | refine Wk.agg ?_))))))) (tnamesA_ U n hU hl) rfl rfl (by (repeat' (first | exact trivial | exact rfl | refine And.intro ?_ ?_))) (by (repeat' (first | exact trivial | exact rfl | refine And.intro ?_ ?_))) (by (repeat' (first | exact trivial | exact rfl | refine And.intro ?_ ?_))) rfl rfl ?_
  (conv => whnf)
  refine CallLeaf.o [2, 0, 1, 522] (by (repeat' (first | exact ArgsTo.nil | refine ArgsTo.cons ?_ ?_ | exact ArgTo.mk' rfl (Wk.refl _) | exact ArgTo.mk' rfl Wk.nilm | exact ArgTo.mk' rfl (Wk.int (by simp)) | exact ArgTo.mk' rfl (Wk.list _ _) | exact ArgTo.mk' rfl (Wk.agg (by (repeat' (first | exact Wks.nil | refine Wks.cons ?_ ?_ | exact Wk.refl _ | exact Wk.nilm | exact Wk.list _ _  | exact Wk.natN rfl | refine Wk.agg ?_))))))) (hD) rfl rfl (by (repeat' (first | exact trivial | exact rfl | refine And.intro ?_ ?_))) (by (repeat' (first | exact trivial | exact rfl | refine And.intro ?_ ?_))) (by (repeat' (first | exact trivial | exact rfl | refine And.intro ?_ ?_))) rfl rfl ?_
  (conv => whnf)
  refine ⟨[0, 1, 522], rfl, by (try unfold pullOk); (repeat' (first | exact trivial | exact ObWk.refl _ | refine And.intro ?_ ?_ | unfold pullOk)), ?_⟩
  exact Wk.refl _
theorem twanted_ (U : List Use) (n : Nat) (hU : ∀ u ∈ U, u.sym.name.length ≤ 1000000) (hl : U.length ≤ 1000000) :
    FCall Tryd.prog Gl 18 [.ptr 0 0] (Tq n (Sy.build U)) (LSn (wantedL U)) (Tq n (Sy.build U)) := by
  refine FCall.soft [(0, .cells [vI n, .map 1]), (1, .map (Sy.ents (Sy.build U)))] (twantedA_ U n hU hl) (fun k => ?_) (by simp) (fun k hk _ => ?_) ?_ ?_
  · match k with
    | 0 => rfl
    | 1 => rfl
    | k + 2 => rfl
  · match k, hk with
    | 0, _ => exact fun h => by simp [sto] at h
    | 1, _ => exact fun h => by simp [sto] at h
  · exact ⟨.inl ⟨_, rfl, .refl _, by simp⟩, .inl ⟨_, rfl, .refl _, by simp⟩, trivial⟩
  · refine .inr (.inr ⟨2, 0, 0, (wantedL U).length, 1, (left U (Sy.names U)).map eS, rfl, rfl, rfl, ?_, ?_, ?_⟩)
    · have h1 := left_len U (Sy.names U)
      have h2 := List.length_filter_le (keepW U) (Sy.names U)
      rw [List.length_map, h1]
      simp only [wantedL]; omega
    · have h2 := List.length_filter_le (keepW U) (Sy.names U)
      have := names_len U
      simp only [wantedL]; omega
    · refine Wk.nat' ?_
      rw [List.drop_zero, ← List.map_take]
      congr 1
      simp [left, wantedL, kept]
end Go.Proofs.YtdlcaoobaejlpaaDoor

/- States and resolutions of a table. No condition. -/
set_option linter.unusedVariables false
set_option linter.unusedSimpArgs false
namespace Go.Proofs.YtdlcaoobaejlpaaDoor
open Go Go.AL Go.AL.Bd
set_option maxRecDepth 100000
set_option maxHeartbeats 4000000
theorem cloneI_ (r : List Int) (hr : r.length ≤ 1000000000) : FCall Tryd.prog Gl 36 [LI r] [] (LIn r) [] := by
  refine FCall.enterL hT hmix [] Tryd.func36 rfl rfl rfl fun hbd => ?_
  (conv => whnf)
  refine And.intro (fun he => ?_) (fun he => ?_)
  · have hr0 : r = [] := by simpa using he
    subst hr0
    (conv => whnf)
    refine And.intro ?_ ?_
    · (conv => whnf)
      exact Wk.natN rfl
    · (conv => whnf)
      refine ⟨_, appL (f := eI) (xs := []) (ys := []) (zs := []) rfl rfl (fun _ => rfl) rfl (by decide), ?_⟩
      (conv => whnf)
      exact Wk.nat' rfl
  · (conv => whnf)
    refine ⟨_, appL (f := eI) (xs := []) (ys := r) (zs := r) rfl rfl (fun _ => rfl) rfl (by show _ * 8 ≤ _; omega), ?_⟩
    (conv => whnf)
    exact Wk.nat' rfl
theorem tstateN_ (s : Str) : FCall Tryd.prog Gl 15 [pN, sD s] [] (.agg empty.encN) [] := by
  refine FCall.enterL hT hmix [] Tryd.func15 rfl rfl rfl fun hbd => ?_
  (conv => whnf)
  refine CallLeaf.w (by (repeat' (first | exact ArgsTo.nil | refine ArgsTo.cons ?_ ?_ | exact ArgTo.mk' rfl (Wk.refl _) | exact ArgTo.mk' rfl Wk.nilm | exact ArgTo.mk' rfl (Wk.int (by simp)) | exact ArgTo.mk' rfl (Wk.list _ _) | exact ArgTo.mk' rfl (Wk.agg (by (repeat' (first | exact Wks.nil | refine Wks.cons ?_ ?_ | exact Wk.refl _ | exact Wk.nilm | exact Wk.list _ _  | exact Wk.natN rfl | refine Wk.agg ?_))))))) (empty_) rfl ?_
  (conv => whnf)
  exact Wk.refl _
theorem tstateZ_ (s : Str) : FCall Tryd.prog Gl 15 [.ptr 0 0, sD s] Tz (.agg empty.encN) Tz := by
  refine FCall.enterO hT hmix [] Tryd.func15 rfl rfl rfl fun hbd => ?_
  (conv => whnf)
  refine CallLeaf.w (by (repeat' (first | exact ArgsTo.nil | refine ArgsTo.cons ?_ ?_ | exact ArgTo.mk' rfl (Wk.refl _) | exact ArgTo.mk' rfl Wk.nilm | exact ArgTo.mk' rfl (Wk.int (by simp)) | exact ArgTo.mk' rfl (Wk.list _ _) | exact ArgTo.mk' rfl (Wk.agg (by (repeat' (first | exact Wks.nil | refine Wks.cons ?_ ?_ | exact Wk.refl _ | exact Wk.nilm | exact Wk.list _ _  | exact Wk.natN rfl | refine Wk.agg ?_))))))) (empty_) rfl ?_
  (conv => whnf)
  refine ⟨[0], rfl, by (try unfold pullOk); (repeat' (first | exact trivial | exact ObWk.refl _ | refine And.intro ?_ ?_ | unfold pullOk)), ?_⟩
  exact Wk.refl _
theorem tstate_ (U : List Use) (n : Nat) (s : Str) (hl : U.length ≤ 1000000) :
    FCall Tryd.prog Gl 15 [.ptr 0 0, sD s] (Tq n (Sy.build U)) (.agg (all (Sy.of U s)).encN) (Tq n (Sy.build U)) := by
  have hget := Sy.tget_build s U
  have h1 := Sy.all_strongs (Sy.of U s)
  have h2 := Sy.of_le U s
  by_cases hS : Sy.of U s = []
  · rw [if_pos hS] at hget
    rw [hS]
    refine FCall.enterO hT hmix [] Tryd.func15 rfl rfl rfl fun hbd => ?_
    (conv => whnf)
    refine ⟨_, ⟨Sy.ents_keys _, Sy.look_none hget _⟩, ?_⟩
    (conv => whnf)
    refine CallLeaf.w (by (repeat' (first | exact ArgsTo.nil | refine ArgsTo.cons ?_ ?_ | exact ArgTo.mk' rfl (Wk.refl _) | exact ArgTo.mk' rfl Wk.nilm | exact ArgTo.mk' rfl (Wk.int (by simp)) | exact ArgTo.mk' rfl (Wk.list _ _) | exact ArgTo.mk' rfl (Wk.agg (by (repeat' (first | exact Wks.nil | refine Wks.cons ?_ ?_ | exact Wk.refl _ | exact Wk.nilm | exact Wk.list _ _  | exact Wk.natN rfl | refine Wk.agg ?_))))))) (empty_) rfl ?_
    (conv => whnf)
    refine ⟨[0, 1], rfl, by (try unfold pullOk); (repeat' (first | exact trivial | exact ObWk.refl _ | refine And.intro ?_ ?_ | unfold pullOk)), ?_⟩
    exact Wk.refl _
  · rw [if_neg hS] at hget
    refine FCall.enterO hT hmix [] Tryd.func15 rfl rfl rfl fun hbd => ?_
    (conv => whnf)
    refine ⟨_, ⟨Sy.ents_keys _, Sy.look_some hget _⟩, ?_⟩
    (conv => whnf)
    refine CallLeaf.w (by (repeat' (first | exact ArgsTo.nil | refine ArgsTo.cons ?_ ?_ | exact ArgTo.mk' rfl (Wk.refl _) | exact ArgTo.mk' rfl Wk.nilm | exact ArgTo.mk' rfl (Wk.int (by simp)) | exact ArgTo.mk' rfl (Wk.list _ _) | exact ArgTo.mk' rfl (Wk.agg (by (repeat' (first | exact Wks.nil | refine Wks.cons ?_ ?_ | exact Wk.refl _ | exact Wk.nilm | exact Wk.list _ _  | exact Wk.natN rfl | refine Wk.agg ?_))))))) (cloneI_ (all (Sy.of U s)).strongs (by omega)) rfl ?_
    (conv => whnf)
    refine ⟨[0, 1], rfl, by (try unfold pullOk); (repeat' (first | exact trivial | exact ObWk.refl _ | refine And.intro ?_ ?_ | unfold pullOk)), ?_⟩
    exact Wk.refl _
/-! ### resolutions -/
structure Res where
  name : Str
  bind : Int
  size : Int
  align : Int
  unit : Int
deriving DecidableEq
abbrev Res.enc (x : Res) : List D := [sD x.name, vI x.bind, vI x.size, vI x.align, vI x.unit]
abbrev LR (l : List Res) : D := .list .any (l.map Res.enc)
abbrev LRn (l : List Res) : D := .list .nat (l.map Res.enc)
def resv (st : State) (n : Str) : Res := ⟨n, if st.bind = 0 then (if st.sref = true then 4 else 5) else st.bind, st.size, st.align, st.unit⟩
def resL (U : List Use) : List Res := (Sy.names U).map fun n => resv (all (Sy.of U n)) n
theorem resL_snoc {U : List Use} {f : Str → Res} {k : Nat} {s : Str} {r : Res} (l : List Str) (hs : l[k]? = some s) (hr : r = f s) : (l.take k).map f ++ [r] = (l.take (k + 1)).map f := by
  rw [List.take_add_one, hs, hr]; simp
theorem tres_ (U : List Use) (n : Nat) (hU : ∀ u ∈ U, u.sym.name.length ≤ 1000000) (hl : U.length ≤ 1000000) :
    FCall Tryd.prog Gl 23 [.ptr 0 0] (Tq n (Sy.build U)) (LRn (resL U)) (Tq n (Sy.build U)) := by
  have hnl := names_len U
  refine FCall.enterO hT hmix [] Tryd.func23 rfl rfl rfl fun hbd => ?_
  (conv => whnf)
  refine CallLeaf.o [0, 1] (by (repeat' (first | exact ArgsTo.nil | refine ArgsTo.cons ?_ ?_ | exact ArgTo.mk' rfl (Wk.refl _) | exact ArgTo.mk' rfl Wk.nilm | exact ArgTo.mk' rfl (Wk.int (by simp)) | exact ArgTo.mk' rfl (Wk.list _ _) | exact ArgTo.mk' rfl (Wk.agg (by (repeat' (first | exact Wks.nil | refine Wks.cons ?_ ?_ | exact Wk.refl _ | exact Wk.nilm | exact Wk.list _ _  | exact Wk.natN rfl | refine Wk.agg ?_))))))) (tnames_ U n hU hl) rfl rfl (by (repeat' (first | exact trivial | exact rfl | refine And.intro ?_ ?_))) (by (repeat' (first | exact trivial | exact rfl | refine And.intro ?_ ?_))) (by (repeat' (first | exact trivial | exact rfl | refine And.intro ?_ ?_))) rfl rfl ?_
  (conv => whnf)
  refine LWp.loop hT hmix [] (fun k : Nat => [(11, vI k), (3, .list (.tok 403) ((((Sy.names U).take k).map fun n => resv (all (Sy.of U n)) n).map Res.enc))]) (fun k => [(403, .tok ((((Sy.names U).take k).map fun n => resv (all (Sy.of U n)) n).map Res.enc).length 5)]) (fun k => k ≤ (Sy.names U).length) (fun k => (Sy.names U).length - k) 0 (Nat.zero_le _) ?_
  (conv => whnf)
  refine ⟨?_, fun k hk => ?_⟩
  · (repeat' (first | exact trivial | exact Wk.refl _ | exact ObWk.refl _ | exact rfl | exact ⟨_, rfl⟩ | exact Nat.zero_lt_one | refine And.intro ?_ ?_ | unfold okTo | (unfold okO; conv => whnf) | (unfold okS; conv => whnf) | (unfold SlotOk; conv => whnf) | (unfold ObjOk; conv => whnf) | (unfold okCells; conv => whnf) | (unfold liveTo; conv => whnf) | exact Nat.zero_lt_succ _))
  · (conv => whnf)
    refine split_intro (fun h => ?_) (fun h => ?_)
    · have hlt : k < (Sy.names U).length := by have := of_decide_eq_true h; simp at this; omega
      obtain ⟨s, hs⟩ := exI hlt
      have hg : Sy.tget (Sy.build U) s = some (all (Sy.of U s)) := by rw [Sy.tget_build, if_neg ((Sy.mem_names s U).1 (List.mem_of_getElem? hs))]
      (conv => whnf)
      refine ⟨_, ⟨by omega, getMap hs⟩, ?_⟩
      (conv => whnf)
      refine ⟨_, ⟨Sy.ents_keys _, Sy.look1 hg _⟩, ?_⟩
      (conv => whnf)
      refine split_intro (fun h1 => ?_) (fun h1 => ?_)
      · have h1' : (all (Sy.of U s)).bind = 0 := eq_of_beq h1
        (conv => whnf)
        refine split_intro (fun h2 => ?_) (fun h2 => ?_)
        · have h2' : (all (Sy.of U s)).sref = true := h2
          (conv => whnf)
          refine ⟨_, appL (f := Res.enc) (xs := ((Sy.names U).take k).map fun n => resv (all (Sy.of U n)) n) (ys := [⟨s, 4, (all (Sy.of U s)).size, (all (Sy.of U s)).align, (all (Sy.of U s)).unit⟩]) (zs := ((Sy.names U).take (k + 1)).map fun n => resv (all (Sy.of U n)) n) (by simp) rfl (fun _ => rfl) (resL_snoc (U := U) (f := fun n => resv (all (Sy.of U n)) n) _ hs (by simp [resv, h1', h2'])) (by rw [List.length_map, List.length_take]; show _ * 48 ≤ _; omega), ?_⟩
          (conv => whnf)
          refine ⟨_, add64 (c := ((k + 1 : Nat) : Int)) (by (try simp only []); omega) (by omega), ?_⟩
          (conv => whnf)
          (refine ⟨k + 1, ⟨by omega, by simp only []; omega⟩, ?_⟩; (repeat' (first | exact trivial | exact Wk.refl _ | exact ObWk.refl _ | exact rfl | exact ⟨_, rfl⟩ | exact Nat.zero_lt_one | refine And.intro ?_ ?_ | unfold okTo | (unfold okO; conv => whnf) | (unfold okS; conv => whnf) | (unfold SlotOk; conv => whnf) | (unfold ObjOk; conv => whnf) | (unfold okCells; conv => whnf) | (unfold liveTo; conv => whnf) | exact Nat.zero_lt_succ _)))
        · have h2' : (all (Sy.of U s)).sref = false := h2
          (conv => whnf)
          refine split_intro (fun _ => ?_) (fun h => absurd h (by rw [h1]; simp))
          (conv => whnf)
          refine ⟨_, appL (f := Res.enc) (xs := ((Sy.names U).take k).map fun n => resv (all (Sy.of U n)) n) (ys := [⟨s, 5, (all (Sy.of U s)).size, (all (Sy.of U s)).align, (all (Sy.of U s)).unit⟩]) (zs := ((Sy.names U).take (k + 1)).map fun n => resv (all (Sy.of U n)) n) (by simp) rfl (fun _ => rfl) (resL_snoc (U := U) (f := fun n => resv (all (Sy.of U n)) n) _ hs (by simp [resv, h1', h2'])) (by rw [List.length_map, List.length_take]; show _ * 48 ≤ _; omega), ?_⟩
          (conv => whnf)
          refine ⟨_, add64 (c := ((k + 1 : Nat) : Int)) (by (try simp only []); omega) (by omega), ?_⟩
          (conv => whnf)
          (refine ⟨k + 1, ⟨by omega, by simp only []; omega⟩, ?_⟩; (repeat' (first | exact trivial | exact Wk.refl _ | exact ObWk.refl _ | exact rfl | exact ⟨_, rfl⟩ | exact Nat.zero_lt_one | refine And.intro ?_ ?_ | unfold okTo | (unfold okO; conv => whnf) | (unfold okS; conv => whnf) | (unfold SlotOk; conv => whnf) | (unfold ObjOk; conv => whnf) | (unfold okCells; conv => whnf) | (unfold liveTo; conv => whnf) | exact Nat.zero_lt_succ _)))
      · have h1' : ¬ (all (Sy.of U s)).bind = 0 := by simpa using h1
        (conv => whnf)
        refine split_intro (fun h => absurd h (by rw [h1]; simp)) (fun _ => ?_)
        (conv => whnf)
        refine ⟨_, appL (f := Res.enc) (xs := ((Sy.names U).take k).map fun n => resv (all (Sy.of U n)) n) (ys := [⟨s, (all (Sy.of U s)).bind, (all (Sy.of U s)).size, (all (Sy.of U s)).align, (all (Sy.of U s)).unit⟩]) (zs := ((Sy.names U).take (k + 1)).map fun n => resv (all (Sy.of U n)) n) (by simp) rfl (fun _ => rfl) (resL_snoc (U := U) (f := fun n => resv (all (Sy.of U n)) n) _ hs (by simp [resv, h1'])) (by rw [List.length_map, List.length_take]; show _ * 48 ≤ _; omega), ?_⟩
        (conv => whnf)
        refine ⟨_, add64 (c := ((k + 1 : Nat) : Int)) (by (try simp only []); omega) (by omega), ?_⟩
        (conv => whnf)
        (refine ⟨k + 1, ⟨by omega, by simp only []; omega⟩, ?_⟩; (repeat' (first | exact trivial | exact Wk.refl _ | exact ObWk.refl _ | exact rfl | exact ⟨_, rfl⟩ | exact Nat.zero_lt_one | refine And.intro ?_ ?_ | unfold okTo | (unfold okO; conv => whnf) | (unfold okS; conv => whnf) | (unfold SlotOk; conv => whnf) | (unfold ObjOk; conv => whnf) | (unfold okCells; conv => whnf) | (unfold liveTo; conv => whnf) | exact Nat.zero_lt_succ _)))
    · have hge : (Sy.names U).length ≤ k := by have := of_decide_eq_false h; simp at this; omega
      (conv => whnf)
      refine ⟨[0, 1], rfl, by (try unfold pullOk); (repeat' (first | exact trivial | exact ObWk.refl _ | refine And.intro ?_ ?_ | unfold pullOk)), ?_⟩
      refine Wk.nat' ?_
      rw [List.take_of_length_le hge]
      rfl
end Go.Proofs.YtdlcaoobaejlpaaDoor

/- The reference's worklist. No condition. -/
set_option linter.unusedVariables false
set_option linter.unusedSimpArgs false
namespace Go.Proofs.YtdlcaoobaejlpaaDoor
open Go Go.AL
set_option maxRecDepth 100000
theorem has_ (l : List Str) (s : Str) : FCall Tryd.prog Gl 29 [LS l, sD s] [] (vB (decide (s ∈ l))) [] := by
  refine FCall.enterL hT hmix [] Tryd.func29 rfl rfl rfl fun hbd => ?_
  have ha := bds_list hbd (.head _)
  (conv => whnf)
  refine LWp.loop hT hmix [] (fun k : Nat => [(5, vI k)]) (fun _ => []) (fun k => k ≤ l.length ∧ s ∉ l.take k) (fun k => l.length - k) 0 ⟨Nat.zero_le _, by simp⟩ ?_
  (conv => whnf)
  refine ⟨?_, fun k ⟨hk, hkk⟩ => ?_⟩
  · (repeat' (first | exact trivial | exact Wk.refl _ | exact ObWk.refl _ | exact rfl | exact ⟨_, rfl⟩ | exact Nat.zero_lt_one | refine And.intro ?_ ?_ | unfold okTo | (unfold okO; conv => whnf) | (unfold okS; conv => whnf) | (unfold SlotOk; conv => whnf) | (unfold ObjOk; conv => whnf) | (unfold okCells; conv => whnf) | (unfold liveTo; conv => whnf) | exact Nat.zero_lt_succ _))
  · (conv => whnf)
    refine split_intro (fun h => ?_) (fun h => ?_)
    · have hlt : k < l.length := by simpa using h
      obtain ⟨x, hx⟩ := exI hlt
      (conv => whnf)
      refine ⟨_, ⟨by omega, getMap hx⟩, ?_⟩
      (conv => whnf)
      refine split_intro (fun hxy => ?_) (fun hxy => ?_)
      · have e : x = s := of_decide_eq_true hxy
        (conv => whnf)
        exact Wk.bool (by subst e; simp [List.mem_of_getElem? hx])
      · have e : ¬ x = s := of_decide_eq_false hxy
        (conv => whnf)
        refine ⟨_, add64 (c := ((k + 1 : Nat) : Int)) (by omega) (by omega), ?_⟩
        (conv => whnf)
        refine ⟨k + 1, ⟨⟨by omega, ?_⟩, by simp only []; omega⟩, ?_⟩
        · rw [List.take_add_one, hx]; simp [hkk]; exact fun e' => e (Eq.symm e')
        · (repeat' (first | exact trivial | exact Wk.refl _ | exact ObWk.refl _ | exact rfl | exact ⟨_, rfl⟩ | exact Nat.zero_lt_one | refine And.intro ?_ ?_ | unfold okTo | (unfold okO; conv => whnf) | (unfold okS; conv => whnf) | (unfold SlotOk; conv => whnf) | (unfold ObjOk; conv => whnf) | (unfold okCells; conv => whnf) | (unfold liveTo; conv => whnf) | exact Nat.zero_lt_succ _))
    · (conv => whnf)
      exact Wk.bool (by
        have hge : l.length ≤ k := by simpa using h
        rw [List.take_of_length_le hge] at hkk
        simp [hkk])
def putP (l : List Str) (s : Str) (k : Nat) (out : List Str) (done : Bool) : Prop :=
  (if done then out ++ l.drop k else out ++ Wt.put (l.drop k) s) = Wt.put l s
theorem put_len : ∀ (l : List Str) (s : Str), (Wt.put l s).length ≤ l.length + 1
  | [], s => by simp [Wt.put]
  | x :: r, s => by
    have := put_len r s
    simp only [Wt.put]
    split
    · simp; omega
    · split <;> simp
theorem put_ (l : List Str) (s : Str) (hb : l.length ≤ 100000) : FCall Tryd.prog Gl 42 [LS l, sD s] [] (LSn (Wt.put l s)) [] := by
  refine FCall.enterL hT hmix [] Tryd.func42 rfl rfl rfl fun hbd => ?_
  (conv => whnf)
  refine LWp.loop hT hmix [] (fun x : Nat × List Str × Bool => [(7, vI x.1), (6, vB x.2.2), (5, .list (.tok 900001) (x.2.1.map eS))]) (fun x => [(900001, .tok (x.2.1.map eS).length 1)]) (fun x => x.1 ≤ l.length ∧ putP l s x.1 x.2.1 x.2.2) (fun x => l.length - x.1) (0, [], false) ⟨Nat.zero_le _, by simp [putP]⟩ ?_
  (conv => whnf)
  refine ⟨?_, fun ⟨k, out, done⟩ ⟨hk, hkk⟩ => ?_⟩
  · (repeat' (first | exact trivial | exact Wk.refl _ | exact ObWk.refl _ | exact rfl | exact ⟨_, rfl⟩ | exact Nat.zero_lt_one | refine And.intro ?_ ?_ | unfold okTo | (unfold okO; conv => whnf) | (unfold okS; conv => whnf) | (unfold SlotOk; conv => whnf) | (unfold ObjOk; conv => whnf) | (unfold okCells; conv => whnf) | (unfold liveTo; conv => whnf) | exact Nat.zero_lt_succ _))
  · replace hk : k ≤ l.length := hk
    replace hkk : putP l s k out done := hkk
    have hlen : out.length ≤ l.length + 1 := by
      have h1 := put_len l s
      unfold putP at hkk
      rw [← hkk] at h1
      split at h1 <;> simp at h1 <;> omega
    (conv => whnf)
    refine split_intro (fun h => ?_) (fun h => ?_)
    · have hlt : k < l.length := by simpa using h
      obtain ⟨x, hx⟩ := exI hlt
      have hd : l.drop k = x :: l.drop (k + 1) := by
        rw [List.drop_eq_getElem_cons hlt]
        rw [List.getElem?_eq_getElem hlt] at hx
        injection hx with hx; rw [hx]
      unfold putP at hkk
      cases done with
      | true =>
        simp only [if_true] at hkk
        (conv => whnf)
        refine ⟨_, ⟨by omega, getMap hx⟩, ?_⟩
        (conv => whnf)
        refine ⟨_, appL (f := eS) (xs := out) (ys := [x]) (zs := out ++ [x]) rfl rfl (fun _ => rfl) rfl (by rw [List.length_append]; show (_ + 1) * 16 ≤ _; (try rw [List.length_append]); (try simp only [List.length_singleton]); omega), ?_⟩
        (conv => whnf)
        refine ⟨_, add64 (c := ((k + 1 : Nat) : Int)) (by omega) (by omega), ?_⟩
        (conv => whnf)
        refine ⟨(k + 1, out ++ [x], true), ⟨⟨by show k + 1 ≤ _; omega, ?_⟩, by show l.length - (k + 1) < l.length - k; omega⟩, ?_⟩
        · show putP l s (k + 1) (out ++ [x]) true
          unfold putP; rw [← hkk, hd]; simp [putP]
        · (repeat' (first | exact trivial | exact Wk.refl _ | exact ObWk.refl _ | exact rfl | exact ⟨_, rfl⟩ | exact Nat.zero_lt_one | refine And.intro ?_ ?_ | unfold okTo | (unfold okO; conv => whnf) | (unfold okS; conv => whnf) | (unfold SlotOk; conv => whnf) | (unfold ObjOk; conv => whnf) | (unfold okCells; conv => whnf) | (unfold liveTo; conv => whnf) | exact Nat.zero_lt_succ _))
      | false =>
        simp only [Bool.false_eq_true, if_false] at hkk
        (conv => whnf)
        refine ⟨_, ⟨by omega, getMap hx⟩, ?_⟩
        (conv => whnf)
        refine split_intro (fun h1 => ?_) (fun h1 => ?_)
        · have h1' : Wt.lt x s = false := by simpa [Wt.lt] using h1
          (conv => whnf)
          refine ⟨_, ⟨by omega, getMap hx⟩, ?_⟩
          (conv => whnf)
          refine split_intro (fun h2 => ?_) (fun h2 => ?_)
          · have h2' : ¬ x = s := by simpa using h2
            (conv => whnf)
            refine ⟨_, appL (f := eS) (xs := out) (ys := [s]) (zs := out ++ [s]) rfl rfl (fun _ => rfl) rfl (by rw [List.length_append]; show (_ + 1) * 16 ≤ _; (try rw [List.length_append]); (try simp only [List.length_singleton]); omega), ?_⟩
            (conv => whnf)
            refine ⟨_, ⟨by omega, getMap hx⟩, ?_⟩
            (conv => whnf)
            refine ⟨_, appL (f := eS) (xs := out ++ [s]) (ys := [x]) (zs := out ++ [s] ++ [x]) rfl rfl (fun _ => rfl) rfl (by rw [List.length_append]; show (_ + 1) * 16 ≤ _; (try rw [List.length_append]); (try simp only [List.length_singleton]); omega), ?_⟩
            (conv => whnf)
            refine ⟨_, add64 (c := ((k + 1 : Nat) : Int)) (by omega) (by omega), ?_⟩
            (conv => whnf)
            refine ⟨(k + 1, out ++ [s] ++ [x], true), ⟨⟨by show k + 1 ≤ _; omega, ?_⟩, by show l.length - (k + 1) < l.length - k; omega⟩, ?_⟩
            · show putP l s (k + 1) (out ++ [s] ++ [x]) true
              unfold putP; rw [← hkk, hd]; simp [putP, Wt.put, h1', h2']
            · (repeat' (first | exact trivial | exact Wk.refl _ | exact ObWk.refl _ | exact rfl | exact ⟨_, rfl⟩ | exact Nat.zero_lt_one | refine And.intro ?_ ?_ | unfold okTo | (unfold okO; conv => whnf) | (unfold okS; conv => whnf) | (unfold SlotOk; conv => whnf) | (unfold ObjOk; conv => whnf) | (unfold okCells; conv => whnf) | (unfold liveTo; conv => whnf) | exact Nat.zero_lt_succ _))
          · have h2' : x = s := by simpa using h2
            (conv => whnf)
            refine ⟨_, ⟨by omega, getMap hx⟩, ?_⟩
            (conv => whnf)
            refine ⟨_, appL (f := eS) (xs := out) (ys := [x]) (zs := out ++ [x]) rfl rfl (fun _ => rfl) rfl (by rw [List.length_append]; show (_ + 1) * 16 ≤ _; (try rw [List.length_append]); (try simp only [List.length_singleton]); omega), ?_⟩
            (conv => whnf)
            refine ⟨_, add64 (c := ((k + 1 : Nat) : Int)) (by omega) (by omega), ?_⟩
            (conv => whnf)
            refine ⟨(k + 1, out ++ [x], true), ⟨⟨by show k + 1 ≤ _; omega, ?_⟩, by show l.length - (k + 1) < l.length - k; omega⟩, ?_⟩
            · show putP l s (k + 1) (out ++ [x]) true
              unfold putP; rw [← hkk, hd]; simp [putP, Wt.put, h1', h2', Wt.lt_irr]
            · (repeat' (first | exact trivial | exact Wk.refl _ | exact ObWk.refl _ | exact rfl | exact ⟨_, rfl⟩ | exact Nat.zero_lt_one | refine And.intro ?_ ?_ | unfold okTo | (unfold okO; conv => whnf) | (unfold okS; conv => whnf) | (unfold SlotOk; conv => whnf) | (unfold ObjOk; conv => whnf) | (unfold okCells; conv => whnf) | (unfold liveTo; conv => whnf) | exact Nat.zero_lt_succ _))
        · have h1' : Wt.lt x s = true := by simpa [Wt.lt] using h1
          (conv => whnf)
          refine ⟨_, ⟨by omega, getMap hx⟩, ?_⟩
          (conv => whnf)
          refine ⟨_, appL (f := eS) (xs := out) (ys := [x]) (zs := out ++ [x]) rfl rfl (fun _ => rfl) rfl (by rw [List.length_append]; show (_ + 1) * 16 ≤ _; (try rw [List.length_append]); (try simp only [List.length_singleton]); omega), ?_⟩
          (conv => whnf)
          refine ⟨_, add64 (c := ((k + 1 : Nat) : Int)) (by omega) (by omega), ?_⟩
          (conv => whnf)
          refine ⟨(k + 1, out ++ [x], false), ⟨⟨by show k + 1 ≤ _; omega, ?_⟩, by show l.length - (k + 1) < l.length - k; omega⟩, ?_⟩
          · show putP l s (k + 1) (out ++ [x]) false
            unfold putP; rw [← hkk, hd]; simp [putP, Wt.put, h1']
          · (repeat' (first | exact trivial | exact Wk.refl _ | exact ObWk.refl _ | exact rfl | exact ⟨_, rfl⟩ | exact Nat.zero_lt_one | refine And.intro ?_ ?_ | unfold okTo | (unfold okO; conv => whnf) | (unfold okS; conv => whnf) | (unfold SlotOk; conv => whnf) | (unfold ObjOk; conv => whnf) | (unfold okCells; conv => whnf) | (unfold liveTo; conv => whnf) | exact Nat.zero_lt_succ _))
    · have hge : l.length ≤ k := by simpa using h
      unfold putP at hkk
      rw [List.drop_of_length_le hge] at hkk
      cases done with
      | true =>
        simp only [if_true, List.append_nil] at hkk
        subst hkk
        (conv => whnf)
        exact Wk.nat' rfl
      | false =>
        simp only [Bool.false_eq_true, if_false, Wt.put] at hkk
        (conv => whnf)
        refine ⟨_, appL (f := eS) (xs := out) (ys := [s]) (zs := out ++ [s]) rfl rfl (fun _ => rfl) rfl (by rw [List.length_append]; show (_ + 1) * 16 ≤ _; (try rw [List.length_append]); (try simp only [List.length_singleton]); omega), ?_⟩
        (conv => whnf)
        exact Wk.nat' (by rw [hkk])
end Go.Proofs.YtdlcaoobaejlpaaDoor

/- The reference of tables. No condition. -/
set_option linter.unusedVariables false
set_option linter.unusedSimpArgs false
namespace Go.Proofs.YtdlcaoobaejlpaaDoor
open Go Go.AL Go.AL.Bd
set_option maxRecDepth 100000
set_option maxHeartbeats 4000000
abbrev Oe (o : Ob.Obj) : List D := [.list .any (SE o.syms), LB o.body]
abbrev LO (l : List Ob.Obj) : D := .list .any (l.map Oe)
def rightO (l : List Ob.Obj) : Bool := decide (l.length ≤ 12) && l.all fun o => decide (o.syms.length ≤ 20) && (fewO o && Ob.validO o.syms)
theorem rightO_iff {l : List Ob.Obj} : rightO l = true ↔ l.length ≤ 12 ∧ ∀ o ∈ l, o.syms.length ≤ 20 ∧ fewO o = true ∧ Ob.validO o.syms = true := by simp [rightO]
theorem right_ (l : List Ob.Obj) : FCall Tryd.prog Gl 10 [LO l] [] (vB (rightO l)) [] := by
  refine FCall.enterL hT hmix [] Tryd.func10 rfl rfl rfl fun hbd => ?_
  have ha := bds_list hbd (.head _)
  (conv => whnf)
  refine split_intro (fun h1 => ?_) (fun h1 => ?_)
  · have h1' : ¬ l.length ≤ 12 := by have := of_decide_eq_true h1; simp at this; omega
    (conv => whnf)
    exact Wk.bool (by simp [rightO, h1'])
  · have h1' : l.length ≤ 12 := by have := of_decide_eq_false h1; simp at this; omega
    (conv => whnf)
    refine LWp.loop hT hmix [] (fun k : Nat => [(3, vI k)]) (fun _ => []) (fun k => k ≤ l.length ∧ (l.take k).all (fun o => decide (o.syms.length ≤ 20) && (fewO o && Ob.validO o.syms)) = true) (fun k => l.length - k) 0 ⟨Nat.zero_le _, rfl⟩ ?_
    (conv => whnf)
    refine ⟨?_, fun k ⟨hk, hkk⟩ => ?_⟩
    · (repeat' (first | exact trivial | exact Wk.refl _ | exact ObWk.refl _ | exact rfl | exact ⟨_, rfl⟩ | exact Nat.zero_lt_one | refine And.intro ?_ ?_ | unfold okTo | (unfold okO; conv => whnf) | (unfold okS; conv => whnf) | (unfold SlotOk; conv => whnf) | (unfold ObjOk; conv => whnf) | (unfold okCells; conv => whnf) | (unfold liveTo; conv => whnf) | exact Nat.zero_lt_succ _))
    · (conv => whnf)
      refine split_intro (fun h => ?_) (fun h => ?_)
      · have hlt : k < l.length := by have := of_decide_eq_true h; simp at this; omega
        obtain ⟨o, ho⟩ := exI hlt
        have hbad : (decide (o.syms.length ≤ 20) && (fewO o && Ob.validO o.syms)) = false → rightO l = false := fun hb => by
          rw [Bool.eq_false_iff]; intro hr
          have := (rightO_iff.1 hr).2 o (List.mem_of_getElem? ho)
          rw [this.2.1, this.2.2] at hb
          simp [this.1] at hb
        have hgood : (decide (o.syms.length ≤ 20) && (fewO o && Ob.validO o.syms)) = true → (l.take (k + 1)).all (fun o => decide (o.syms.length ≤ 20) && (fewO o && Ob.validO o.syms)) = true := fun hb => by
          rw [List.take_add_one, ho, Option.toList_some, List.all_append, hkk, List.all_cons, hb]; rfl
        (conv => whnf)
        refine ⟨_, ⟨by omega, getMap ho⟩, ?_⟩
        (conv => whnf)
        refine split_intro (fun h2 => ?_) (fun h2 => ?_)
        · have h2' : ¬ o.syms.length ≤ 20 := by have := of_decide_eq_true h2; simp at this; omega
          (conv => whnf)
          exact Wk.bool (hbad (by simp [h2'])).symm
        · have h2' : o.syms.length ≤ 20 := by have := of_decide_eq_false h2; simp at this; omega
          (conv => whnf)
          refine ⟨_, ⟨by omega, getMap ho⟩, ?_⟩
          (conv => whnf)
          refine CallLeaf.w (by (repeat' (first | exact ArgsTo.nil | refine ArgsTo.cons ?_ ?_ | exact ArgTo.mk' rfl (Wk.refl _) | exact ArgTo.mk' rfl Wk.nilm | exact ArgTo.mk' rfl (Wk.int (by simp)) | exact ArgTo.mk' rfl (Wk.list _ _) | exact ArgTo.mk' rfl (Wk.agg (by (repeat' (first | exact Wks.nil | refine Wks.cons ?_ ?_ | exact Wk.refl _ | exact Wk.nilm | exact Wk.list _ _  | exact Wk.natN rfl | refine Wk.agg ?_))))))) (ofew_ o.syms o.body) rfl ?_
          (conv => whnf)
          refine split_intro (fun h3 => ?_) (fun h3 => ?_)
          · have h3' : fewO o = false := by simpa using h3
            (conv => whnf)
            exact Wk.bool (hbad (by simp [h3'])).symm
          · have h3' : fewO o = true := not_f h3
            have hfn := (fewO_iff.1 h3').2.1
            (conv => whnf)
            refine ⟨_, ⟨by omega, getMap ho⟩, ?_⟩
            (conv => whnf)
            refine CallLeaf.w (by (repeat' (first | exact ArgsTo.nil | refine ArgsTo.cons ?_ ?_ | exact ArgTo.mk' rfl (Wk.refl _) | exact ArgTo.mk' rfl Wk.nilm | exact ArgTo.mk' rfl (Wk.int (by simp)) | exact ArgTo.mk' rfl (Wk.list _ _) | exact ArgTo.mk' rfl (Wk.agg (by (repeat' (first | exact Wks.nil | refine Wks.cons ?_ ?_ | exact Wk.refl _ | exact Wk.nilm | exact Wk.list _ _  | exact Wk.natN rfl | refine Wk.agg ?_))))))) (orvalid_ o.syms o.body (by omega) (fun s hs => by have := hfn s hs; omega)) rfl ?_
            (conv => whnf)
            refine split_intro (fun h4 => ?_) (fun h4 => ?_)
            · have h4' : Ob.validO o.syms = false := by simpa using h4
              (conv => whnf)
              exact Wk.bool (hbad (by simp [h4'])).symm
            · have h4' : Ob.validO o.syms = true := not_f h4
              (conv => whnf)
              refine ⟨_, add64 (c := ((k + 1 : Nat) : Int)) (by (try simp only []); omega) (by omega), ?_⟩
              (conv => whnf)
              refine ⟨k + 1, ⟨⟨by omega, hgood (by simp [h2', h3', h4'])⟩, by simp only []; omega⟩, ?_⟩
              (repeat' (first | exact trivial | exact Wk.refl _ | exact ObWk.refl _ | exact rfl | exact ⟨_, rfl⟩ | exact Nat.zero_lt_one | refine And.intro ?_ ?_ | unfold okTo | (unfold okO; conv => whnf) | (unfold okS; conv => whnf) | (unfold SlotOk; conv => whnf) | (unfold ObjOk; conv => whnf) | (unfold okCells; conv => whnf) | (unfold liveTo; conv => whnf) | exact Nat.zero_lt_succ _))
      · have hge : l.length ≤ k := by have := of_decide_eq_false h; simp at this; omega
        rw [List.take_of_length_le hge] at hkk
        (conv => whnf)
        exact Wk.bool (by simp only [rightO, hkk, h1', decide_true, Bool.true_and])
/-! ### what is used -/
def usesL : Nat → List Ob.Obj → List Use
  | _, [] => []
  | n, o :: r => Sy.uses n o.syms ++ usesL (n + 1) r
abbrev Us (l : List Ob.Obj) : List Use := usesL 0 l
theorem usesL_snoc : ∀ (l : List Ob.Obj) (n : Nat) (o : Ob.Obj), usesL n (l ++ [o]) = usesL n l ++ Sy.uses (n + l.length) o.syms
  | [], n, o => by simp [usesL]
  | x :: r, n, o => by
    have ih := usesL_snoc r (n + 1) o
    simp only [List.cons_append, usesL, ih, List.append_assoc, List.length_cons]
    rw [show n + 1 + r.length = n + (r.length + 1) by omega]
theorem Us_take {l : List Ob.Obj} {i : Nat} {o : Ob.Obj} (h : l[i]? = some o) : Us (l.take (i + 1)) = Us (l.take i) ++ Sy.uses i o.syms := by
  have hi : i < l.length := (List.getElem?_eq_some_iff.1 h).1
  rw [List.take_add_one, h, Option.toList_some, Us, usesL_snoc, List.length_take, Nat.zero_add, Nat.min_eq_left (by omega)]
theorem usesL_mem : ∀ {l : List Ob.Obj} {n : Nat} {u : Use}, u ∈ usesL n l → ∃ o ∈ l, ∃ s ∈ o.syms, ∃ i : Nat, u = ⟨Sy.toB s, (i : Int)⟩
  | [], n, u, h => by simp [usesL] at h
  | o :: r, n, u, h => by
    simp only [usesL, List.mem_append] at h
    rcases h with h | h
    · obtain ⟨s, hs, rfl⟩ := List.mem_map.1 h
      exact ⟨o, by simp, s, hs, n, rfl⟩
    · obtain ⟨o', ho', rest⟩ := usesL_mem h
      exact ⟨o', by simp [ho'], rest⟩
theorem usesL_len : ∀ {l : List Ob.Obj} {n m : Nat}, (∀ o ∈ l, o.syms.length ≤ m) → (usesL n l).length ≤ l.length * m
  | [], n, m, h => by simp [usesL]
  | o :: r, n, m, h => by
    have ih := usesL_len (n := n + 1) (fun o ho => h o (by simp [ho]) : ∀ o ∈ r, o.syms.length ≤ m)
    have h0 := h o (by simp)
    have e : (Sy.uses n o.syms).length = o.syms.length := by simp [Sy.uses]
    simp only [usesL, List.length_append, List.length_cons, e, Nat.add_mul, Nat.one_mul]; omega
/-- all that the laws ask of objects -/
structure OkL (l : List Ob.Obj) : Prop where
  len : l.length ≤ 12
  syms : ∀ o ∈ l, o.syms.length ≤ 20
  nm : ∀ o ∈ l, ∀ s ∈ o.syms, s.name.length ≤ 300
  ok : ∀ o ∈ l, ∀ s ∈ o.syms, 1 ≤ s.bind ∧ s.bind ≤ 5 ∧ 0 ≤ s.size ∧ 0 ≤ s.align
theorem validO_mem {l : List Ob.Sym} (h : Ob.validO l = true) : ∀ s ∈ l, Ob.valid s = true := by
  have h1 : Ob.okL [] l = true := by simp only [Ob.validO, Bool.and_eq_true] at h; exact h.1
  intro s hs
  obtain ⟨i, hi, rfl⟩ := List.getElem_of_mem hs
  have h2 := Ob.okL_app (l.take i) (l.drop i) []
  rw [List.take_append_drop, h1, List.drop_eq_getElem_cons hi] at h2
  have h3 := (Bool.and_eq_true_iff.1 h2.symm).2
  simp only [Ob.okL, Bool.and_eq_true] at h3
  first | exact h3.1.1 | exact h3.1
theorem right_ok {l : List Ob.Obj} (h : rightO l = true) : OkL l := by
  obtain ⟨h1, h2⟩ := rightO_iff.1 h
  refine ⟨h1, fun o ho => (h2 o ho).1, fun o ho s hs => (fewO_iff.1 (h2 o ho).2.1).2.1 s hs, fun o ho s hs => ?_⟩
  have hv := validO_mem (h2 o ho).2.2 s hs
  obtain ⟨_, _, _, h4, _, h5⟩ := Ob.valid_iff.1 hv
  have h6 := Ob.bind_le h5
  exact ⟨h6.1, h6.2.1, h4, h6.2.2.1⟩
theorem OkL.take {l : List Ob.Obj} (h : OkL l) (k : Nat) : OkL (l.take k) :=
  ⟨by have := h.len; simp; omega, fun o ho => h.syms o (List.mem_of_mem_take ho), fun o ho => h.nm o (List.mem_of_mem_take ho), fun o ho => h.ok o (List.mem_of_mem_take ho)⟩
theorem OkL.le {l : List Ob.Obj} (h : OkL l) : (Us l).length ≤ 240 := by
  have := usesL_len (n := 0) h.syms
  have := h.len
  simp only [Us]; omega
theorem OkL.use {l : List Ob.Obj} (h : OkL l) : ∀ u ∈ Us l, okUse u = true := fun u hu => by
  obtain ⟨o, ho, s, hs, i, rfl⟩ := usesL_mem hu
  have := h.ok o ho s hs
  simp [okUse, Sy.toB, this.1, this.2.1, this.2.2.1, this.2.2.2]
theorem OkL.name {l : List Ob.Obj} (h : OkL l) : ∀ u ∈ Us l, u.sym.name.length ≤ 1000000 := fun u hu => by
  obtain ⟨o, ho, s, hs, i, rfl⟩ := usesL_mem hu
  have := h.nm o ho s hs
  simp only [Sy.toB]; omega
theorem okUse_okB {U : List Use} (h : ∀ u ∈ U, okUse u = true) : Sy.okB U := fun u hu => okUse_bind (h u hu)
theorem OkL.okB {l : List Ob.Obj} (h : OkL l) : Sy.okB (Us l) := okUse_okB h.use
theorem refOf_of {U : List Use} (h : ∀ u ∈ U, okUse u = true) (n : Str) : refOf (Sy.of U n) = all (Sy.of U n) := ref_all fun u hu => h u (List.mem_filter.1 hu).1
/-! ### the reference -/
theorem of_app (U V : List Use) (n : Str) : Sy.of (U ++ V) n = Sy.of U n ++ Sy.of V n := by simp [Sy.of]
theorem uses_step {i k : Nat} {l : List Ob.Sym} {s : Ob.Sym} (U : List Use) (h : l[k]? = some s) (n : Str) :
    Sy.of (U ++ Sy.uses i (l.take (k + 1))) n = Sy.of (U ++ Sy.uses i (l.take k)) n ++ if s.name = n then [⟨Sy.toB s, (i : Int)⟩] else [] := by
  rw [Sy.uses_take h, ← List.append_assoc, Sy.of_snoc]; rfl
theorem of_take_le (l : List Ob.Obj) (i k : Nat) (o : Ob.Obj) (h : OkL l) (ho : l[i]? = some o) (n : Str) : (Sy.of (Us (l.take i) ++ Sy.uses i (o.syms.take k)) n).length ≤ 300 := by
  have h1 := (h.take i).le
  have h2 := h.syms o (List.mem_of_getElem? ho)
  have h3 := Sy.of_le (Us (l.take i) ++ Sy.uses i (o.syms.take k)) n
  have h4 : (Sy.uses i (o.syms.take k)).length ≤ o.syms.length := by simp [Sy.uses]; omega
  rw [List.length_append] at h3; omega
abbrev ofX (l : List Ob.Obj) (n : Str) (i : Nat) (t : List Ob.Sym) : List Use := Sy.of (Us (l.take i) ++ Sy.uses i t) n
theorem rstate_ (l : List Ob.Obj) (n : Str) (ok : OkL l) : FCall Tryd.prog Gl 16 [LO l, sD n] [] (.agg (all (Sy.of (Us l) n)).encN) [] := by
  have hlen := ok.len
  have hfin : refOf (Sy.of (Us l) n) = all (Sy.of (Us l) n) := refOf_of ok.use n
  have hR := refOf_ (Sy.of (Us l) n) (by have := ok.le; have := Sy.of_le (Us l) n; omega)
  rw [hfin] at hR
  refine FCall.enterL hT hmix [] Tryd.func16 rfl rfl rfl fun hbd => ?_
  (conv => whnf)
  refine LWp.loop hT hmix [] (fun i : Nat => [(6, vI i), (5, .list (.tok 403) ((Sy.of (Us (l.take i)) n).map Use.enc))]) (fun i => [(403, .tok ((Sy.of (Us (l.take i)) n).map Use.enc).length 5)]) (fun i => i ≤ l.length) (fun i => l.length - i) 0 (Nat.zero_le _) ?_
  (conv => whnf)
  refine ⟨?_, fun i hi => ?_⟩
  · (repeat' (first | exact trivial | exact Wk.refl _ | exact ObWk.refl _ | exact rfl | exact ⟨_, rfl⟩ | exact Nat.zero_lt_one | refine And.intro ?_ ?_ | unfold okTo | (unfold okO; conv => whnf) | (unfold okS; conv => whnf) | (unfold SlotOk; conv => whnf) | (unfold ObjOk; conv => whnf) | (unfold okCells; conv => whnf) | (unfold liveTo; conv => whnf) | exact Nat.zero_lt_succ _))
  · (conv => whnf)
    refine split_intro (fun h => ?_) (fun h => ?_)
    · have hlt : i < l.length := by have := of_decide_eq_true h; simp at this; omega
      obtain ⟨o, ho⟩ := exI hlt
      have hol := ok.syms o (List.mem_of_getElem? ho)
      (conv => whnf)
      refine LWp.loop hT hmix [] (fun k : Nat => [(7, vI k), (5, .list (.tok 403) ((ofX l n i (o.syms.take k)).map Use.enc))]) (fun k => [(403, .tok ((ofX l n i (o.syms.take k)).map Use.enc).length 5)]) (fun k => k ≤ o.syms.length) (fun k => o.syms.length - k) 0 (Nat.zero_le _) ?_
      (conv => whnf)
      refine ⟨?_, fun k hk => ?_⟩
      · have e : ofX l n i (o.syms.take 0) = Sy.of (Us (l.take i)) n := by simp [ofX, Sy.uses]
        dsimp only
        rw [e]
        (repeat' (first | exact trivial | exact Wk.refl _ | exact ObWk.refl _ | exact rfl | exact ⟨_, rfl⟩ | exact Nat.zero_lt_one | refine And.intro ?_ ?_ | unfold okTo | (unfold okO; conv => whnf) | (unfold okS; conv => whnf) | (unfold SlotOk; conv => whnf) | (unfold ObjOk; conv => whnf) | (unfold okCells; conv => whnf) | (unfold liveTo; conv => whnf) | exact Nat.zero_lt_succ _))
      · have hle := of_take_le l i (k + 1) o ok ho n
        (conv => whnf)
        refine ⟨_, ⟨by omega, getMap ho⟩, ?_⟩
        (conv => whnf)
        refine split_intro (fun h1 => ?_) (fun h1 => ?_)
        · have hlt1 : k < o.syms.length := by have := of_decide_eq_true h1; simp at this; omega
          obtain ⟨s, hs⟩ := exI hlt1
          have hst : ofX l n i (o.syms.take (k + 1)) = ofX l n i (o.syms.take k) ++ if s.name = n then [⟨Sy.toB s, (i : Int)⟩] else [] := uses_step (Us (l.take i)) hs n (i := i)
          (conv => whnf)
          refine ⟨_, ⟨by omega, getMap ho⟩, ?_⟩
          (conv => whnf)
          refine ⟨_, ⟨by omega, getMap hs⟩, ?_⟩
          (conv => whnf)
          refine split_intro (fun h2 => ?_) (fun h2 => ?_)
          · have h2' : s.name = n := of_decide_eq_true h2
            rw [if_pos h2'] at hst
            (conv => whnf)
            refine ⟨_, ⟨by omega, getMap ho⟩, ?_⟩
            (conv => whnf)
            refine ⟨_, ⟨by omega, getMap hs⟩, ?_⟩
            (conv => whnf)
            refine ⟨_, appL (f := Use.enc) (xs := ofX l n i (o.syms.take k)) (ys := [⟨Sy.toB s, (i : Int)⟩]) (zs := ofX l n i (o.syms.take (k + 1))) rfl rfl (fun _ => rfl) hst.symm (by show _ * 48 ≤ _; simp only [ofX]; omega), ?_⟩
            (conv => whnf)
            refine ⟨_, add64 (c := ((k + 1 : Nat) : Int)) (by (try simp only []); omega) (by omega), ?_⟩
            (conv => whnf)
            refine ⟨k + 1, ⟨by omega, by simp only []; omega⟩, ?_⟩
            (repeat' (first | exact trivial | exact Wk.refl _ | exact ObWk.refl _ | exact rfl | exact ⟨_, rfl⟩ | exact Nat.zero_lt_one | refine And.intro ?_ ?_ | unfold okTo | (unfold okO; conv => whnf) | (unfold okS; conv => whnf) | (unfold SlotOk; conv => whnf) | (unfold ObjOk; conv => whnf) | (unfold okCells; conv => whnf) | (unfold liveTo; conv => whnf) | exact Nat.zero_lt_succ _))
          · have h2' : ¬ s.name = n := of_decide_eq_false h2
            rw [if_neg h2', List.append_nil] at hst
            (conv => whnf)
            refine ⟨_, add64 (c := ((k + 1 : Nat) : Int)) (by (try simp only []); omega) (by omega), ?_⟩
            (conv => whnf)
            refine ⟨k + 1, ⟨by omega, by simp only []; omega⟩, ?_⟩
            dsimp only
            rw [hst]
            (repeat' (first | exact trivial | exact Wk.refl _ | exact ObWk.refl _ | exact rfl | exact ⟨_, rfl⟩ | exact Nat.zero_lt_one | refine And.intro ?_ ?_ | unfold okTo | (unfold okO; conv => whnf) | (unfold okS; conv => whnf) | (unfold SlotOk; conv => whnf) | (unfold ObjOk; conv => whnf) | (unfold okCells; conv => whnf) | (unfold liveTo; conv => whnf) | exact Nat.zero_lt_succ _))
        · have hge : o.syms.length ≤ k := by have := of_decide_eq_false h1; simp at this; omega
          have e : ofX l n i (o.syms.take k) = Sy.of (Us (l.take (i + 1))) n := by
            rw [List.take_of_length_le hge, Us_take ho]
          (conv => whnf)
          refine ⟨_, add64 (c := ((i + 1 : Nat) : Int)) (by (try simp only []); omega) (by omega), ?_⟩
          (conv => whnf)
          refine ⟨i + 1, ⟨by omega, by simp only []; omega⟩, ?_⟩
          dsimp only
          rw [← e]
          (repeat' (first | exact trivial | exact Wk.refl _ | exact ObWk.refl _ | exact rfl | exact ⟨_, rfl⟩ | exact Nat.zero_lt_one | refine And.intro ?_ ?_ | unfold okTo | (unfold okO; conv => whnf) | (unfold okS; conv => whnf) | (unfold SlotOk; conv => whnf) | (unfold ObjOk; conv => whnf) | (unfold okCells; conv => whnf) | (unfold liveTo; conv => whnf) | exact Nat.zero_lt_succ _))
    · have hge : l.length ≤ i := by have := of_decide_eq_false h; simp at this; omega
      rw [show Us l = Us (l.take i) by rw [List.take_of_length_le hge]] at hR
      (conv => whnf)
      refine CallLeaf.w (by (repeat' (first | exact ArgsTo.nil | refine ArgsTo.cons ?_ ?_ | exact ArgTo.mk' rfl (Wk.refl _) | exact ArgTo.mk' rfl Wk.nilm | exact ArgTo.mk' rfl (Wk.int (by simp)) | exact ArgTo.mk' rfl (Wk.list _ _) | exact ArgTo.mk' rfl (Wk.agg (by (repeat' (first | exact Wks.nil | refine Wks.cons ?_ ?_ | exact Wk.refl _ | exact Wk.nilm | exact Wk.list _ _  | exact Wk.natN rfl | refine Wk.agg ?_))))))) (hR) rfl ?_
      (conv => whnf)
      exact Wk.of_eq (by rw [List.take_of_length_le hge]; rfl)
theorem names_app (U V : List Use) : Sy.names (U ++ V) = V.foldl (fun l x => Wt.put l x.sym.name) (Sy.names U) := by simp [Sy.names]
theorem names_step {i k : Nat} {l : List Ob.Sym} {s : Ob.Sym} (U : List Use) (h : l[k]? = some s) : Sy.names (U ++ Sy.uses i (l.take (k + 1))) = Wt.put (Sy.names (U ++ Sy.uses i (l.take k))) s.name := by
  rw [Sy.uses_take h, ← List.append_assoc, Sy.names_snoc]; rfl
theorem namesX_le (l : List Ob.Obj) (i k : Nat) (o : Ob.Obj) (h : OkL l) (ho : l[i]? = some o) : (Sy.names (Us (l.take i) ++ Sy.uses i (o.syms.take k))).length ≤ 300 := by
  have h1 := (h.take i).le
  have h2 := h.syms o (List.mem_of_getElem? ho)
  have h3 := names_len (Us (l.take i) ++ Sy.uses i (o.syms.take k))
  have h4 : (Sy.uses i (o.syms.take k)).length ≤ o.syms.length := by simp [Sy.uses]; omega
  rw [List.length_append] at h3; omega
abbrev nmX (l : List Ob.Obj) (i : Nat) (t : List Ob.Sym) : List Str := Sy.names (Us (l.take i) ++ Sy.uses i t)
theorem rnames_ (l : List Ob.Obj) (ok : OkL l) : FCall Tryd.prog Gl 21 [LO l] [] (LSn (Sy.names (Us l))) [] := by
  have hlen := ok.len
  refine FCall.enterL hT hmix [] Tryd.func21 rfl rfl rfl fun hbd => ?_
  (conv => whnf)
  refine LWp.loop hT hmix [] (fun i : Nat => [(4, vI i), (3, LSn (Sy.names (Us (l.take i))))]) (fun i => []) (fun i => i ≤ l.length) (fun i => l.length - i) 0 (Nat.zero_le _) ?_
  (conv => whnf)
  refine ⟨?_, fun i hi => ?_⟩
  · (repeat' (first | exact trivial | exact Wk.refl _ | exact ObWk.refl _ | exact rfl | exact ⟨_, rfl⟩ | exact Nat.zero_lt_one | refine And.intro ?_ ?_ | unfold okTo | (unfold okO; conv => whnf) | (unfold okS; conv => whnf) | (unfold SlotOk; conv => whnf) | (unfold ObjOk; conv => whnf) | (unfold okCells; conv => whnf) | (unfold liveTo; conv => whnf) | exact Nat.zero_lt_succ _))
    exact Wk.natN rfl
  · (conv => whnf)
    refine split_intro (fun h => ?_) (fun h => ?_)
    · have hlt : i < l.length := by have := of_decide_eq_true h; simp at this; omega
      obtain ⟨o, ho⟩ := exI hlt
      have hol := ok.syms o (List.mem_of_getElem? ho)
      (conv => whnf)
      refine LWp.loop hT hmix [] (fun k : Nat => [(5, vI k), (3, LSn (nmX l i (o.syms.take k)))]) (fun k => []) (fun k => k ≤ o.syms.length) (fun k => o.syms.length - k) 0 (Nat.zero_le _) ?_
      (conv => whnf)
      refine ⟨?_, fun k hk => ?_⟩
      · have e : nmX l i (o.syms.take 0) = Sy.names (Us (l.take i)) := by simp [nmX, Sy.uses]
        dsimp only
        rw [e]
        (repeat' (first | exact trivial | exact Wk.refl _ | exact ObWk.refl _ | exact rfl | exact ⟨_, rfl⟩ | exact Nat.zero_lt_one | refine And.intro ?_ ?_ | unfold okTo | (unfold okO; conv => whnf) | (unfold okS; conv => whnf) | (unfold SlotOk; conv => whnf) | (unfold ObjOk; conv => whnf) | (unfold okCells; conv => whnf) | (unfold liveTo; conv => whnf) | exact Nat.zero_lt_succ _))
      · have hle := namesX_le l i k o ok ho
        (conv => whnf)
        refine ⟨_, ⟨by omega, getMap ho⟩, ?_⟩
        (conv => whnf)
        refine split_intro (fun h1 => ?_) (fun h1 => ?_)
        · have hlt1 : k < o.syms.length := by have := of_decide_eq_true h1; simp at this; omega
          obtain ⟨s, hs⟩ := exI hlt1
          have hst : nmX l i (o.syms.take (k + 1)) = Wt.put (nmX l i (o.syms.take k)) s.name := names_step (Us (l.take i)) hs (i := i)
          (conv => whnf)
          refine ⟨_, ⟨by omega, getMap ho⟩, ?_⟩
          (conv => whnf)
          refine ⟨_, ⟨by omega, getMap hs⟩, ?_⟩
          (conv => whnf)
          refine CallLeaf.w (by (repeat' (first | exact ArgsTo.nil | refine ArgsTo.cons ?_ ?_ | exact ArgTo.mk' rfl (Wk.refl _) | exact ArgTo.mk' rfl Wk.nilm | exact ArgTo.mk' rfl (Wk.int (by simp)) | exact ArgTo.mk' rfl (Wk.list _ _) | exact ArgTo.mk' rfl (Wk.agg (by (repeat' (first | exact Wks.nil | refine Wks.cons ?_ ?_ | exact Wk.refl _ | exact Wk.nilm | exact Wk.list _ _  | exact Wk.natN rfl | refine Wk.agg ?_))))))) (put_ (nmX l i (o.syms.take k)) s.name (by simp only [nmX]; omega)) rfl ?_
          (conv => whnf)
          refine ⟨_, add64 (c := ((k + 1 : Nat) : Int)) (by (try simp only []); omega) (by omega), ?_⟩
          (conv => whnf)
          refine ⟨k + 1, ⟨by omega, by simp only []; omega⟩, ?_⟩
          dsimp only
          rw [hst]
          (repeat' (first | exact trivial | exact Wk.refl _ | exact ObWk.refl _ | exact rfl | exact ⟨_, rfl⟩ | exact Nat.zero_lt_one | refine And.intro ?_ ?_ | unfold okTo | (unfold okO; conv => whnf) | (unfold okS; conv => whnf) | (unfold SlotOk; conv => whnf) | (unfold ObjOk; conv => whnf) | (unfold okCells; conv => whnf) | (unfold liveTo; conv => whnf) | exact Nat.zero_lt_succ _))
        · have hge : o.syms.length ≤ k := by have := of_decide_eq_false h1; simp at this; omega
          have e : nmX l i (o.syms.take k) = Sy.names (Us (l.take (i + 1))) := by
            rw [List.take_of_length_le hge, Us_take ho]
          (conv => whnf)
          refine ⟨_, add64 (c := ((i + 1 : Nat) : Int)) (by (try simp only []); omega) (by omega), ?_⟩
          (conv => whnf)
          refine ⟨i + 1, ⟨by omega, by simp only []; omega⟩, ?_⟩
          dsimp only
          rw [← e]
          (repeat' (first | exact trivial | exact Wk.refl _ | exact ObWk.refl _ | exact rfl | exact ⟨_, rfl⟩ | exact Nat.zero_lt_one | refine And.intro ?_ ?_ | unfold okTo | (unfold okO; conv => whnf) | (unfold okS; conv => whnf) | (unfold SlotOk; conv => whnf) | (unfold ObjOk; conv => whnf) | (unfold okCells; conv => whnf) | (unfold liveTo; conv => whnf) | exact Nat.zero_lt_succ _))
    · have hge : l.length ≤ i := by have := of_decide_eq_false h; simp at this; omega
      (conv => whnf)
      exact Wk.of_eq (by rw [List.take_of_length_le hge]; rfl)
abbrev wanX (l : List Ob.Obj) (k : Nat) : List Str := ((Sy.names (Us l)).take k).filter (keepW (Us l))
theorem filter_step {l : List Str} {p : Str → Bool} {k : Nat} {s : Str} (h : l[k]? = some s) : (l.take (k + 1)).filter p = (l.take k).filter p ++ if p s = true then [s] else [] := by
  rw [List.take_add_one, h, Option.toList_some, List.filter_append]
  congr 1
  cases hp : p s <;> simp [hp]
theorem rwanted_ (l : List Ob.Obj) (ok : OkL l) : FCall Tryd.prog Gl 19 [LO l] [] (LSn (wantedL (Us l))) [] := by
  have hlen := ok.len
  have hnl := names_len (Us l)
  have hul := ok.le
  refine FCall.enterL hT hmix [] Tryd.func19 rfl rfl rfl fun hbd => ?_
  (conv => whnf)
  refine CallLeaf.w (by (repeat' (first | exact ArgsTo.nil | refine ArgsTo.cons ?_ ?_ | exact ArgTo.mk' rfl (Wk.refl _) | exact ArgTo.mk' rfl Wk.nilm | exact ArgTo.mk' rfl (Wk.int (by simp)) | exact ArgTo.mk' rfl (Wk.list _ _) | exact ArgTo.mk' rfl (Wk.agg (by (repeat' (first | exact Wks.nil | refine Wks.cons ?_ ?_ | exact Wk.refl _ | exact Wk.nilm | exact Wk.list _ _  | exact Wk.natN rfl | refine Wk.agg ?_))))))) (rnames_ l ok) rfl ?_
  (conv => whnf)
  refine LWp.loop hT hmix [] (fun k : Nat => [(5, vI k), (3, .list (.tok 403) ((wanX l k).map eS))]) (fun k => [(403, .tok ((wanX l k).map eS).length 1)]) (fun k => k ≤ (Sy.names (Us l)).length) (fun k => (Sy.names (Us l)).length - k) 0 (Nat.zero_le _) ?_
  (conv => whnf)
  refine ⟨?_, fun k hk => ?_⟩
  · (repeat' (first | exact trivial | exact Wk.refl _ | exact ObWk.refl _ | exact rfl | exact ⟨_, rfl⟩ | exact Nat.zero_lt_one | refine And.intro ?_ ?_ | unfold okTo | (unfold okO; conv => whnf) | (unfold okS; conv => whnf) | (unfold SlotOk; conv => whnf) | (unfold ObjOk; conv => whnf) | (unfold okCells; conv => whnf) | (unfold liveTo; conv => whnf) | exact Nat.zero_lt_succ _))
  · (conv => whnf)
    refine split_intro (fun h => ?_) (fun h => ?_)
    · have hlt : k < (Sy.names (Us l)).length := by have := of_decide_eq_true h; simp at this; omega
      obtain ⟨s, hs⟩ := exI hlt
      have hst : wanX l (k + 1) = wanX l k ++ if keepW (Us l) s = true then [s] else [] := filter_step hs
      have hwl : (wanX l (k + 1)).length ≤ 240 := by
        have := List.length_filter_le (keepW (Us l)) ((Sy.names (Us l)).take (k + 1))
        rw [List.length_take] at this
        simp only [wanX]; omega
      have hkw : keepW (Us l) s = wanted (all (Sy.of (Us l) s)) := rfl
      (conv => whnf)
      refine ⟨_, ⟨by omega, getMap hs⟩, ?_⟩
      (conv => whnf)
      refine CallLeaf.w (by (repeat' (first | exact ArgsTo.nil | refine ArgsTo.cons ?_ ?_ | exact ArgTo.mk' rfl (Wk.refl _) | exact ArgTo.mk' rfl Wk.nilm | exact ArgTo.mk' rfl (Wk.int (by simp)) | exact ArgTo.mk' rfl (Wk.list _ _) | exact ArgTo.mk' rfl (Wk.agg (by (repeat' (first | exact Wks.nil | refine Wks.cons ?_ ?_ | exact Wk.refl _ | exact Wk.nilm | exact Wk.list _ _  | exact Wk.natN rfl | refine Wk.agg ?_))))))) (rstate_ l s ok) rfl ?_
      (conv => whnf)
      refine split_intro (fun h1 => ?_) (fun h1 => ?_)
      · have h1' : (all (Sy.of (Us l) s)).sref = true := h1
        (conv => whnf)
        refine split_intro (fun h2 => ?_) (fun h2 => ?_)
        · have h2' : (all (Sy.of (Us l) s)).defd = false := by simpa using h2
          have hk' : keepW (Us l) s = true := by rw [hkw]; simp [wanted, h1', h2']
          rw [if_pos hk'] at hst
          (conv => whnf)
          refine ⟨_, ⟨by omega, getMap hs⟩, ?_⟩
          (conv => whnf)
          refine ⟨_, appL (f := eS) (xs := wanX l k) (ys := [s]) (zs := wanX l (k + 1)) rfl rfl (fun _ => rfl) hst.symm (by show _ * 16 ≤ _; omega), ?_⟩
          (conv => whnf)
          refine ⟨_, add64 (c := ((k + 1 : Nat) : Int)) (by (try simp only []); omega) (by omega), ?_⟩
          (conv => whnf)
          refine ⟨k + 1, ⟨by omega, by simp only []; omega⟩, ?_⟩
          (repeat' (first | exact trivial | exact Wk.refl _ | exact ObWk.refl _ | exact rfl | exact ⟨_, rfl⟩ | exact Nat.zero_lt_one | refine And.intro ?_ ?_ | unfold okTo | (unfold okO; conv => whnf) | (unfold okS; conv => whnf) | (unfold SlotOk; conv => whnf) | (unfold ObjOk; conv => whnf) | (unfold okCells; conv => whnf) | (unfold liveTo; conv => whnf) | exact Nat.zero_lt_succ _))
        · have h2' : (all (Sy.of (Us l) s)).defd = true := not_f h2
          have hk' : ¬ keepW (Us l) s = true := by rw [hkw]; simp [wanted, h1', h2']
          rw [if_neg hk', List.append_nil] at hst
          (conv => whnf)
          refine ⟨_, add64 (c := ((k + 1 : Nat) : Int)) (by (try simp only []); omega) (by omega), ?_⟩
          (conv => whnf)
          refine ⟨k + 1, ⟨by omega, by simp only []; omega⟩, ?_⟩
          dsimp only
          rw [hst]
          (repeat' (first | exact trivial | exact Wk.refl _ | exact ObWk.refl _ | exact rfl | exact ⟨_, rfl⟩ | exact Nat.zero_lt_one | refine And.intro ?_ ?_ | unfold okTo | (unfold okO; conv => whnf) | (unfold okS; conv => whnf) | (unfold SlotOk; conv => whnf) | (unfold ObjOk; conv => whnf) | (unfold okCells; conv => whnf) | (unfold liveTo; conv => whnf) | exact Nat.zero_lt_succ _))
      · have h1' : (all (Sy.of (Us l) s)).sref = false := h1
        have hk' : ¬ keepW (Us l) s = true := by rw [hkw]; simp [wanted, h1']
        rw [if_neg hk', List.append_nil] at hst
        (conv => whnf)
        refine ⟨_, add64 (c := ((k + 1 : Nat) : Int)) (by (try simp only []); omega) (by omega), ?_⟩
        (conv => whnf)
        refine ⟨k + 1, ⟨by omega, by simp only []; omega⟩, ?_⟩
        dsimp only
        rw [hst]
        (repeat' (first | exact trivial | exact Wk.refl _ | exact ObWk.refl _ | exact rfl | exact ⟨_, rfl⟩ | exact Nat.zero_lt_one | refine And.intro ?_ ?_ | unfold okTo | (unfold okO; conv => whnf) | (unfold okS; conv => whnf) | (unfold SlotOk; conv => whnf) | (unfold ObjOk; conv => whnf) | (unfold okCells; conv => whnf) | (unfold liveTo; conv => whnf) | exact Nat.zero_lt_succ _))
    · have hge : (Sy.names (Us l)).length ≤ k := by have := of_decide_eq_false h; simp at this; omega
      (conv => whnf)
      refine Wk.nat' ?_
      simp only [wanX]
      rw [List.take_of_length_le hge]; rfl
abbrev resX (l : List Ob.Obj) (k : Nat) : List Res := ((Sy.names (Us l)).take k).map fun n => resv (all (Sy.of (Us l) n)) n
theorem rres_ (l : List Ob.Obj) (ok : OkL l) : FCall Tryd.prog Gl 24 [LO l] [] (LRn (resL (Us l))) [] := by
  have hlen := ok.len
  have hnl := names_len (Us l)
  have hul := ok.le
  refine FCall.enterL hT hmix [] Tryd.func24 rfl rfl rfl fun hbd => ?_
  (conv => whnf)
  refine CallLeaf.w (by (repeat' (first | exact ArgsTo.nil | refine ArgsTo.cons ?_ ?_ | exact ArgTo.mk' rfl (Wk.refl _) | exact ArgTo.mk' rfl Wk.nilm | exact ArgTo.mk' rfl (Wk.int (by simp)) | exact ArgTo.mk' rfl (Wk.list _ _) | exact ArgTo.mk' rfl (Wk.agg (by (repeat' (first | exact Wks.nil | refine Wks.cons ?_ ?_ | exact Wk.refl _ | exact Wk.nilm | exact Wk.list _ _  | exact Wk.natN rfl | refine Wk.agg ?_))))))) (rnames_ l ok) rfl ?_
  (conv => whnf)
  refine LWp.loop hT hmix [] (fun k : Nat => [(5, vI k), (3, .list (.tok 403) ((resX l k).map Res.enc))]) (fun k => [(403, .tok ((resX l k).map Res.enc).length 5)]) (fun k => k ≤ (Sy.names (Us l)).length) (fun k => (Sy.names (Us l)).length - k) 0 (Nat.zero_le _) ?_
  (conv => whnf)
  refine ⟨?_, fun k hk => ?_⟩
  · (repeat' (first | exact trivial | exact Wk.refl _ | exact ObWk.refl _ | exact rfl | exact ⟨_, rfl⟩ | exact Nat.zero_lt_one | refine And.intro ?_ ?_ | unfold okTo | (unfold okO; conv => whnf) | (unfold okS; conv => whnf) | (unfold SlotOk; conv => whnf) | (unfold ObjOk; conv => whnf) | (unfold okCells; conv => whnf) | (unfold liveTo; conv => whnf) | exact Nat.zero_lt_succ _))
  · (conv => whnf)
    refine split_intro (fun h => ?_) (fun h => ?_)
    · have hlt : k < (Sy.names (Us l)).length := by have := of_decide_eq_true h; simp at this; omega
      obtain ⟨s, hs⟩ := exI hlt
      (conv => whnf)
      refine ⟨_, ⟨by omega, getMap hs⟩, ?_⟩
      (conv => whnf)
      refine CallLeaf.w (by (repeat' (first | exact ArgsTo.nil | refine ArgsTo.cons ?_ ?_ | exact ArgTo.mk' rfl (Wk.refl _) | exact ArgTo.mk' rfl Wk.nilm | exact ArgTo.mk' rfl (Wk.int (by simp)) | exact ArgTo.mk' rfl (Wk.list _ _) | exact ArgTo.mk' rfl (Wk.agg (by (repeat' (first | exact Wks.nil | refine Wks.cons ?_ ?_ | exact Wk.refl _ | exact Wk.nilm | exact Wk.list _ _  | exact Wk.natN rfl | refine Wk.agg ?_))))))) (rstate_ l s ok) rfl ?_
      (conv => whnf)
      refine ⟨_, ⟨by omega, getMap hs⟩, ?_⟩
      (conv => whnf)
      refine split_intro (fun h1 => ?_) (fun h1 => ?_)
      · have h1' : (all (Sy.of (Us l) s)).bind = 0 := eq_of_beq h1
        (conv => whnf)
        refine split_intro (fun h2 => ?_) (fun h2 => ?_)
        · have h2' : (all (Sy.of (Us l) s)).sref = true := h2
          (conv => whnf)
          refine ⟨_, appL (f := Res.enc) (xs := resX l k) (ys := [⟨s, 4, (all (Sy.of (Us l) s)).size, (all (Sy.of (Us l) s)).align, (all (Sy.of (Us l) s)).unit⟩]) (zs := resX l (k + 1)) rfl rfl (fun _ => rfl) (resL_snoc (U := Us l) (f := fun n => resv (all (Sy.of (Us l) n)) n) _ hs (by simp [resv, h1', h2'])) (by simp only [resX]; rw [List.length_map, List.length_take]; show _ * 48 ≤ _; omega), ?_⟩
          (conv => whnf)
          refine ⟨_, add64 (c := ((k + 1 : Nat) : Int)) (by (try simp only []); omega) (by omega), ?_⟩
          (conv => whnf)
          (refine ⟨k + 1, ⟨by omega, by simp only []; omega⟩, ?_⟩; (repeat' (first | exact trivial | exact Wk.refl _ | exact ObWk.refl _ | exact rfl | exact ⟨_, rfl⟩ | exact Nat.zero_lt_one | refine And.intro ?_ ?_ | unfold okTo | (unfold okO; conv => whnf) | (unfold okS; conv => whnf) | (unfold SlotOk; conv => whnf) | (unfold ObjOk; conv => whnf) | (unfold okCells; conv => whnf) | (unfold liveTo; conv => whnf) | exact Nat.zero_lt_succ _)))
        · have h2' : (all (Sy.of (Us l) s)).sref = false := h2
          (conv => whnf)
          refine ⟨_, appL (f := Res.enc) (xs := resX l k) (ys := [⟨s, 5, (all (Sy.of (Us l) s)).size, (all (Sy.of (Us l) s)).align, (all (Sy.of (Us l) s)).unit⟩]) (zs := resX l (k + 1)) rfl rfl (fun _ => rfl) (resL_snoc (U := Us l) (f := fun n => resv (all (Sy.of (Us l) n)) n) _ hs (by simp [resv, h1', h2'])) (by simp only [resX]; rw [List.length_map, List.length_take]; show _ * 48 ≤ _; omega), ?_⟩
          (conv => whnf)
          refine ⟨_, add64 (c := ((k + 1 : Nat) : Int)) (by (try simp only []); omega) (by omega), ?_⟩
          (conv => whnf)
          (refine ⟨k + 1, ⟨by omega, by simp only []; omega⟩, ?_⟩; (repeat' (first | exact trivial | exact Wk.refl _ | exact ObWk.refl _ | exact rfl | exact ⟨_, rfl⟩ | exact Nat.zero_lt_one | refine And.intro ?_ ?_ | unfold okTo | (unfold okO; conv => whnf) | (unfold okS; conv => whnf) | (unfold SlotOk; conv => whnf) | (unfold ObjOk; conv => whnf) | (unfold okCells; conv => whnf) | (unfold liveTo; conv => whnf) | exact Nat.zero_lt_succ _)))
      · have h1' : ¬ (all (Sy.of (Us l) s)).bind = 0 := by simpa using h1
        (conv => whnf)
        refine ⟨_, appL (f := Res.enc) (xs := resX l k) (ys := [⟨s, (all (Sy.of (Us l) s)).bind, (all (Sy.of (Us l) s)).size, (all (Sy.of (Us l) s)).align, (all (Sy.of (Us l) s)).unit⟩]) (zs := resX l (k + 1)) rfl rfl (fun _ => rfl) (resL_snoc (U := Us l) (f := fun n => resv (all (Sy.of (Us l) n)) n) _ hs (by simp [resv, h1'])) (by simp only [resX]; rw [List.length_map, List.length_take]; show _ * 48 ≤ _; omega), ?_⟩
        (conv => whnf)
        refine ⟨_, add64 (c := ((k + 1 : Nat) : Int)) (by (try simp only []); omega) (by omega), ?_⟩
        (conv => whnf)
        (refine ⟨k + 1, ⟨by omega, by simp only []; omega⟩, ?_⟩; (repeat' (first | exact trivial | exact Wk.refl _ | exact ObWk.refl _ | exact rfl | exact ⟨_, rfl⟩ | exact Nat.zero_lt_one | refine And.intro ?_ ?_ | unfold okTo | (unfold okO; conv => whnf) | (unfold okS; conv => whnf) | (unfold SlotOk; conv => whnf) | (unfold ObjOk; conv => whnf) | (unfold okCells; conv => whnf) | (unfold liveTo; conv => whnf) | exact Nat.zero_lt_succ _)))
    · have hge : (Sy.names (Us l)).length ≤ k := by have := of_decide_eq_false h; simp at this; omega
      (conv => whnf)
      refine Wk.nat' ?_
      simp only [resX]
      rw [List.take_of_length_le hge]; rfl
/-! ### comparing -/
theorem plainR (s : Res) : plainEq Tryd.prog 54 s.enc = true := by
  obtain ⟨a, b, c, d, e⟩ := s
  kernel_rfl
theorem eqR (a b : Res) : (decide (a.name = b.name) && (a.bind == b.bind && (a.size == b.size && (a.align == b.align && (a.unit == b.unit && true))))) = decide (a = b) := by
  obtain ⟨a1, a2, a3, a4, a5⟩ := a
  obtain ⟨b1, b2, b3, b4, b5⟩ := b
  rw [Bool.eq_iff_iff]; simp
theorem sameRes_ (a b : List Res) : FCall Tryd.prog Gl 22 [LR a, LR b] [] (vB (decide (a = b))) [] := by
  refine FCall.enterL hT hmix [] Tryd.func22 rfl rfl rfl fun hbd => ?_
  have ha := bds_list hbd (.head _)
  (conv => whnf)
  refine split_intro (fun h => ?_) (fun h => ?_)
  · have h' := len_ne h
    simp at h'
    (conv => whnf)
    exact Wk.bool (by symm; simp; intro e; subst e; exact h' rfl)
  · have hab : a.length = b.length := by have := len_eq h; simpa using this
    (conv => whnf)
    refine LWp.loop hT hmix [] (fun k : Nat => [(5, vI k)]) (fun _ => []) (fun k => k ≤ a.length ∧ a.take k = b.take k) (fun k => a.length - k) 0 ⟨Nat.zero_le _, rfl⟩ ?_
    (conv => whnf)
    refine ⟨?_, fun k ⟨hk, hkk⟩ => ?_⟩
    · (repeat' (first | exact trivial | exact Wk.refl _ | exact ObWk.refl _ | exact rfl | exact ⟨_, rfl⟩ | exact Nat.zero_lt_one | refine And.intro ?_ ?_ | unfold okTo | (unfold okO; conv => whnf) | (unfold okS; conv => whnf) | (unfold SlotOk; conv => whnf) | (unfold ObjOk; conv => whnf) | (unfold okCells; conv => whnf) | (unfold liveTo; conv => whnf) | exact Nat.zero_lt_succ _))
    · (conv => whnf)
      refine split_intro (fun h => ?_) (fun h => ?_)
      · have hlt : k < a.length := by simpa using h
        obtain ⟨x, hx⟩ := exI hlt
        obtain ⟨y, hy⟩ := exI (hab ▸ hlt : k < b.length)
        (conv => whnf)
        refine ⟨_, ⟨by omega, getMap hx⟩, ?_⟩
        (conv => whnf)
        refine ⟨_, ⟨by omega, getMap hy⟩, ?_⟩
        (conv => whnf)
        refine ⟨plainR x, ?_⟩
        (conv => whnf)
        refine split_intro (fun hxy => ?_) (fun hxy => ?_)
        · have hne : decide (x = y) = false := by rw [← eqR]; exact not_t hxy
          (conv => whnf)
          exact Wk.bool (by
            symm; rw [decide_eq_false_iff_not]; intro e; subst e
            rw [hx] at hy; injection hy with hy; subst hy; simp at hne)
        · have he : x = y := of_decide_eq_true (by rw [← eqR]; exact not_f hxy)
          (conv => whnf)
          refine ⟨_, add64 (c := ((k + 1 : Nat) : Int)) (by (try simp only []); omega) (by omega), ?_⟩
          (conv => whnf)
          refine ⟨k + 1, ⟨⟨by omega, ?_⟩, by simp only []; omega⟩, ?_⟩
          · subst he
            rw [List.take_add_one, List.take_add_one, hx, hy, hkk]
          · (repeat' (first | exact trivial | exact Wk.refl _ | exact ObWk.refl _ | exact rfl | exact ⟨_, rfl⟩ | exact Nat.zero_lt_one | refine And.intro ?_ ?_ | unfold okTo | (unfold okO; conv => whnf) | (unfold okS; conv => whnf) | (unfold SlotOk; conv => whnf) | (unfold ObjOk; conv => whnf) | (unfold okCells; conv => whnf) | (unfold liveTo; conv => whnf) | exact Nat.zero_lt_succ _))
      · (conv => whnf)
        exact Wk.bool (by
          have hge : a.length ≤ k := by simpa using h
          symm; simp
          rwa [List.take_of_length_le hge, List.take_of_length_le (by omega)] at hkk)
theorem texts_ (a b : List Str) : FCall Tryd.prog Gl 17 [LS a, LS b] [] (vB (decide (a = b))) [] := by
  refine FCall.enterL hT hmix [] Tryd.func17 rfl rfl rfl fun hbd => ?_
  have ha := bds_list hbd (.head _)
  (conv => whnf)
  refine split_intro (fun h => ?_) (fun h => ?_)
  · have h' := len_ne h
    simp at h'
    (conv => whnf)
    exact Wk.bool (by symm; simp; intro e; subst e; exact h' rfl)
  · have hab : a.length = b.length := by have := len_eq h; simpa using this
    (conv => whnf)
    refine LWp.loop hT hmix [] (fun k : Nat => [(5, vI k)]) (fun _ => []) (fun k => k ≤ a.length ∧ a.take k = b.take k) (fun k => a.length - k) 0 ⟨Nat.zero_le _, rfl⟩ ?_
    (conv => whnf)
    refine ⟨?_, fun k ⟨hk, hkk⟩ => ?_⟩
    · (repeat' (first | exact trivial | exact Wk.refl _ | exact ObWk.refl _ | exact rfl | exact ⟨_, rfl⟩ | exact Nat.zero_lt_one | refine And.intro ?_ ?_ | unfold okTo | (unfold okO; conv => whnf) | (unfold okS; conv => whnf) | (unfold SlotOk; conv => whnf) | (unfold ObjOk; conv => whnf) | (unfold okCells; conv => whnf) | (unfold liveTo; conv => whnf) | exact Nat.zero_lt_succ _))
    · (conv => whnf)
      refine split_intro (fun h => ?_) (fun h => ?_)
      · have hlt : k < a.length := by simpa using h
        obtain ⟨x, hx⟩ := exI hlt
        obtain ⟨y, hy⟩ := exI (hab ▸ hlt : k < b.length)
        (conv => whnf)
        refine ⟨_, ⟨by omega, getMap hx⟩, ?_⟩
        (conv => whnf)
        refine ⟨_, ⟨by omega, getMap hy⟩, ?_⟩
        (conv => whnf)
        refine split_intro (fun hxy => ?_) (fun hxy => ?_)
        · (conv => whnf)
          exact Wk.bool (by
            symm; simp; intro e; subst e
            simp [hx] at hy; simp [hy] at hxy)
        · (conv => whnf)
          refine ⟨_, add64 (c := ((k + 1 : Nat) : Int)) (by (try simp only []); omega) (by omega), ?_⟩
          (conv => whnf)
          refine ⟨k + 1, ⟨⟨by omega, ?_⟩, by simp only []; omega⟩, ?_⟩
          · have : x = y := by simpa using hxy
            subst this
            rw [List.take_add_one, List.take_add_one, hx, hy, hkk]
          · (repeat' (first | exact trivial | exact Wk.refl _ | exact ObWk.refl _ | exact rfl | exact ⟨_, rfl⟩ | exact Nat.zero_lt_one | refine And.intro ?_ ?_ | unfold okTo | (unfold okO; conv => whnf) | (unfold okS; conv => whnf) | (unfold SlotOk; conv => whnf) | (unfold ObjOk; conv => whnf) | (unfold okCells; conv => whnf) | (unfold liveTo; conv => whnf) | exact Nat.zero_lt_succ _))
      · (conv => whnf)
        exact Wk.bool (by
          have hge : a.length ≤ k := by simpa using h
          symm; simp
          rwa [List.take_of_length_le hge, List.take_of_length_le (by omega)] at hkk)
end Go.Proofs.YtdlcaoobaejlpaaDoor

/- Loading into an empty table; its names. No condition. -/
set_option linter.unusedVariables false
set_option linter.unusedSimpArgs false
namespace Go.Proofs
open Go.RowKit Go.Maps Go.Sort Go.Shelf
theorem YtdlcaoobaejlpaaDoor.sorted_nil (Bm : Nat) (w : World) (hBm : Bm < w.heap.size) (hm : w.cell? ⟨Bm, 0, none⟩ = some (.map none)) :
    Calls Tryd.prog 40 #[.func (.func 55) #[] #[.pointer (some ⟨Bm, 0, none⟩)]] w fun e w' => ∃ (v : Value) (ss : List (List UInt8)), e = .returned v ∧ ss = [] ∧
      w'.ownsRow w.heap.size 9 1 v ss.length ((ss.mergeSort (fun x y => decide (x ≤ y))).map encStr) ∧ (v = .slice none 0 0 ↔ ss = []) ∧ Below w.heap.size w w' := by
  refine (callsIn_wide (n := 5)).1 ?_
  have hseq : SeqGives Fence.wide 2 Tryd.prog 55 #[.pointer (some ⟨Bm, 0, none⟩)] encStr (fun ss : List (List UInt8) => ss = []) 0 w :=
    AnyZ.keys_gives_nil (ρ := YtdlcaoobaejlpaaDoor.keysA_ren) { YtdlcaoobaejlpaaDoor.keysA with } Fence.wide _ trivial rfl Bm w hBm hm
  have cS := AnyZ.sorted_in YtdlcaoobaejlpaaDoor.sortedA Fence.wide 5 trivial trivial trivial trivial rfl (by omega) (YtdlcaoobaejlpaaDoor.sortsA _) (enters_of Tryd.func54 (by kernel_rfl) rfl) 55 #[.pointer (some ⟨Bm, 0, none⟩)] trivial (enters_of Tryd.func55 (by kernel_rfl) rfl) _ 0 (by unfold maxLen; omega) (by omega) _ hseq
  exact cS
end Go.Proofs
namespace Go.Proofs.YtdlcaoobaejlpaaDoor
open Go Go.AL Go.AL.Bd
set_option maxRecDepth 100000
set_option maxHeartbeats 4000000
theorem tloadN_ (l : List Ob.Sym) (x : List UInt8) : FCall Tryd.prog Gl 11 [pN, oD ⟨l, x⟩] [] (vI (-1)) [] := by
  refine FCall.enterL hT hmix [] Tryd.func11 rfl rfl rfl fun hbd => ?_
  (conv => whnf)
  exact Wk.refl _
theorem tloadZ_ (l : List Ob.Sym) (x : List UInt8) (hl : ∀ s ∈ l, 1 ≤ s.bind ∧ s.bind ≤ 5) (hb : l.length ≤ 900) :
    FCall Tryd.prog Gl 11 [.ptr 0 0, oD ⟨l, x⟩] Tz (vI 0) (Tq 1 (Sy.build (Sy.uses 0 l))) := by
  have hU : Sy.okB [] := fun u hu => by cases hu
  refine FCall.enterO hT hmix [] Tryd.func11 rfl rfl rfl fun hbd => ?_
  (conv => whnf)
  refine CallLeaf.o [0, 2057] (by (repeat' (first | exact ArgsTo.nil | refine ArgsTo.cons ?_ ?_ | exact ArgTo.mk' rfl (Wk.refl _) | exact ArgTo.mk' rfl Wk.nilm | exact ArgTo.mk' rfl (Wk.int (by simp)) | exact ArgTo.mk' rfl (Wk.list _ _) | exact ArgTo.mk' rfl (Wk.agg (by (repeat' (first | exact Wks.nil | refine Wks.cons ?_ ?_ | exact Wk.refl _ | exact Wk.nilm | exact Wk.list _ _  | exact Wk.natN rfl | refine Wk.agg ?_))))))) (next_ 0 [] (by omega)) rfl rfl (by (repeat' (first | exact trivial | exact rfl | refine And.intro ?_ ?_))) (by (repeat' (first | exact trivial | exact rfl | refine And.intro ?_ ?_))) (by (repeat' (first | exact trivial | exact rfl | refine And.intro ?_ ?_))) rfl rfl ?_
  (conv => whnf)
  refine LWp.loop hT hmix [] (fun k : Nat => [(28, vI k)]) (fun k => [(2057, .map (Sy.ents (Sy.build ([] ++ Sy.uses 0 (l.take k)))))]) (fun k => k ≤ l.length) (fun k => l.length - k) 0 (Nat.zero_le _) ?_
  (conv => whnf)
  refine ⟨?_, fun k hk => ?_⟩
  · (repeat' (first | exact trivial | exact Wk.refl _ | exact ObWk.refl _ | exact rfl | exact ⟨_, rfl⟩ | exact Nat.zero_lt_one | refine And.intro ?_ ?_ | unfold okTo | (unfold okO; conv => whnf) | (unfold okS; conv => whnf) | (unfold SlotOk; conv => whnf) | (unfold ObjOk; conv => whnf) | (unfold okCells; conv => whnf) | (unfold liveTo; conv => whnf) | exact Nat.zero_lt_succ _))
  · (conv => whnf)
    refine split_intro (fun h => ?_) (fun h => ?_)
    · have hlt : k < l.length := by simpa using h
      obtain ⟨s, hs⟩ := exI hlt
      have hV : Sy.okB ([] ++ Sy.uses 0 (l.take k)) := hU.app (fun u hu => by
        obtain ⟨y, hy, rfl⟩ := List.mem_map.1 hu
        exact hl y (List.mem_of_mem_take hy))
      have hVl : ([] ++ Sy.uses 0 (l.take k)).length ≤ 900 := by simp [Sy.uses]; omega
      have hnew : Sy.build ([] ++ Sy.uses 0 (l.take (k + 1))) = Sy.add1 (Sy.build ([] ++ Sy.uses 0 (l.take k))) ⟨Sy.toB s, ((0 : Nat) : Int)⟩ := by
        rw [Sy.uses_take hs, ← List.append_assoc, Sy.build_snoc]
      have hsl : 1 ≤ s.bind ∧ s.bind ≤ 5 := hl s (List.mem_of_getElem? hs)
      have hget := Sy.tget_build s.name ([] ++ Sy.uses 0 (l.take k))
      have hgd := Sy.tget_getD s.name ([] ++ Sy.uses 0 (l.take k))
      have hM := merge_ ((Sy.tget (Sy.build ([] ++ Sy.uses 0 (l.take k))) s.name).getD empty) (Sy.toB s) ((0 : Nat) : Int) (by rw [hgd]; exact Sy.all_bind (hV.of _)) hsl (by rw [hgd]; have := Sy.all_strongs (Sy.of ([] ++ Sy.uses 0 (l.take k)) s.name); have := Sy.of_le ([] ++ Sy.uses 0 (l.take k)) s.name; omega)
      have hset : ∀ st, (Sy.tget (Sy.build ([] ++ Sy.uses 0 (l.take k))) s.name).getD empty = st → mset (Sy.ents (Sy.build ([] ++ Sy.uses 0 (l.take k)))) (.string (sB s.name)) (.agg (merge st (Sy.toB s) ((0 : Nat) : Int)).enc) = Sy.ents (Sy.build ([] ++ Sy.uses 0 (l.take (k + 1)))) := fun st e => by
        rw [hnew, ← e]; exact Sy.mset_ents _ _ _
      cases hT : Sy.tget (Sy.build ([] ++ Sy.uses 0 (l.take k))) s.name with
      | none =>
        rw [hT] at hM
        (conv => whnf)
        refine ⟨_, ⟨by omega, getMap hs⟩, ?_⟩
        (conv => whnf)
        refine ⟨_, ⟨Sy.ents_keys _, Sy.look_none hT _⟩, ?_⟩
        (conv => whnf)
        refine CallLeaf.w (by (repeat' (first | exact ArgsTo.nil | refine ArgsTo.cons ?_ ?_ | exact ArgTo.mk' rfl (Wk.refl _) | exact ArgTo.mk' rfl Wk.nilm | exact ArgTo.mk' rfl (Wk.int (by simp)) | exact ArgTo.mk' rfl (Wk.list _ _) | exact ArgTo.mk' rfl (Wk.agg (by (repeat' (first | exact Wks.nil | refine Wks.cons ?_ ?_ | exact Wk.refl _ | exact Wk.nilm | exact Wk.list _ _  | exact Wk.natN rfl | refine Wk.agg ?_))))))) (empty_) rfl ?_
        (conv => whnf)
        refine CallLeaf.w (by (repeat' (first | exact ArgsTo.nil | refine ArgsTo.cons ?_ ?_ | exact ArgTo.mk' rfl (Wk.refl _) | exact ArgTo.mk' rfl Wk.nilm | exact ArgTo.mk' rfl (Wk.int (by simp)) | exact ArgTo.mk' rfl (Wk.list _ _) | exact ArgTo.mk' rfl (Wk.agg (by (repeat' (first | exact Wks.nil | refine Wks.cons ?_ ?_ | exact Wk.refl _ | exact Wk.nilm | exact Wk.list _ _  | exact Wk.natN rfl | refine Wk.agg ?_))))))) (hM) rfl ?_
        (conv => whnf)
        refine ⟨_, ⟨Sy.ents_keys _, hset empty (by rw [hT]; rfl)⟩, ?_⟩
        (conv => whnf)
        refine ⟨_, add64 (c := ((k + 1 : Nat) : Int)) (by (try simp only []); omega) (by omega), ?_⟩
        (conv => whnf)
        refine ⟨k + 1, ⟨by omega, by simp only []; omega⟩, ?_⟩
        (repeat' (first | exact trivial | exact Wk.refl _ | exact ObWk.refl _ | exact rfl | exact ⟨_, rfl⟩ | exact Nat.zero_lt_one | refine And.intro ?_ ?_ | unfold okTo | (unfold okO; conv => whnf) | (unfold okS; conv => whnf) | (unfold SlotOk; conv => whnf) | (unfold ObjOk; conv => whnf) | (unfold okCells; conv => whnf) | (unfold liveTo; conv => whnf) | exact Nat.zero_lt_succ _))
      | some st =>
        rw [hT] at hM
        (conv => whnf)
        refine ⟨_, ⟨by omega, getMap hs⟩, ?_⟩
        (conv => whnf)
        refine ⟨_, ⟨Sy.ents_keys _, Sy.look_some hT _⟩, ?_⟩
        (conv => whnf)
        refine CallLeaf.w (by (repeat' (first | exact ArgsTo.nil | refine ArgsTo.cons ?_ ?_ | exact ArgTo.mk' rfl (Wk.refl _) | exact ArgTo.mk' rfl Wk.nilm | exact ArgTo.mk' rfl (Wk.int (by simp)) | exact ArgTo.mk' rfl (Wk.list _ _) | exact ArgTo.mk' rfl (Wk.agg (by (repeat' (first | exact Wks.nil | refine Wks.cons ?_ ?_ | exact Wk.refl _ | exact Wk.nilm | exact Wk.list _ _  | exact Wk.natN rfl | refine Wk.agg ?_))))))) (hM) rfl ?_
        (conv => whnf)
        refine ⟨_, ⟨Sy.ents_keys _, hset st (by rw [hT]; rfl)⟩, ?_⟩
        (conv => whnf)
        refine ⟨_, add64 (c := ((k + 1 : Nat) : Int)) (by (try simp only []); omega) (by omega), ?_⟩
        (conv => whnf)
        refine ⟨k + 1, ⟨by omega, by simp only []; omega⟩, ?_⟩
        (repeat' (first | exact trivial | exact Wk.refl _ | exact ObWk.refl _ | exact rfl | exact ⟨_, rfl⟩ | exact Nat.zero_lt_one | refine And.intro ?_ ?_ | unfold okTo | (unfold okO; conv => whnf) | (unfold okS; conv => whnf) | (unfold SlotOk; conv => whnf) | (unfold ObjOk; conv => whnf) | (unfold okCells; conv => whnf) | (unfold liveTo; conv => whnf) | exact Nat.zero_lt_succ _))
    · have hge : l.length ≤ k := by simpa using h
      (conv => whnf)
      refine ⟨[0, 2057], rfl, by (try unfold pullOk); (repeat' (first | exact trivial | exact ObWk.refl _ | exact ObWk.of_eq (by rw [List.take_of_length_le hge]; rfl) | refine And.intro ?_ ?_ | unfold pullOk)), ?_⟩
      exact Wk.refl _
theorem keysZ_ : FCall Tryd.prog Gl 41 [mN] [] (.func (.func 55) [] [.ptr 0 0]) [.cells [mN]] := by
  refine FCall.enterO hT hmix [] Tryd.func41 rfl rfl rfl fun hbd => ?_
  (conv => whnf)
  refine ⟨[0], rfl, by (try unfold pullOk); (repeat' (first | exact trivial | exact ObWk.refl _ | refine And.intro ?_ ?_ | unfold pullOk)), ?_⟩
  exact Wk.refl _
theorem sortedZ_run :
    ∀ E (w : World) vs, Core Gl E w.heap (sto [.cells [mN]]) ([.cells [mN]] : List AObj).length → VRs E w.heap (sto [.cells [mN]]) [kF] vs →
      Calls Tryd.prog 40 vs.toArray w fun e w' => ∃ (v : Value) (t : TypeId), e = .returned v ∧ w'.ownsRow w.heap.size t 1 v ([] : List Str).length (([] : List Str).map encStr) ∧ RowKit.Below w.heap.size w w' := by
  intro E w vs C hv
  have h0 : OR E w.heap (sto [.cells [mN]]) 0 (.cells [mN]) := C.objs 0
  obtain ⟨us, e, hb0, hv0, _⟩ := h0
  have hus : us = #[.map none] := by
    have hl0 := hv0.1
    have hx := hv0.2 0 (by simp) (by rw [hl0]; simp)
    simp only [List.getElem_cons_zero] at hx
    have := hx.v_inv
    match hh : us.toList, hl0 with
    | [y], _ =>
      simp only [hh, List.getElem_cons_zero] at this
      apply Array.ext'
      rw [hh, this]
  have hvs : vs = [.func (.func 55) #[] #[.pointer (some ⟨E.φ 0, 0, none⟩)]] := by
    have hl0 := hv.1
    match vs, hl0 with
    | [y], _ =>
      have hx := hv.2 0 (by simp) (by simp)
      simp only [List.getElem_cons_zero] at hx
      cases hx with
      | func fn fs cs us' vs' l1 l2 g1 g2 =>
        have e1 : us' = [] := List.eq_nil_of_length_eq_zero (by simpa using l1)
        subst e1
        match vs', l2 with
        | [z], _ =>
          have hz := g2 0 (by simp) (by simp)
          simp only [List.getElem_cons_zero] at hz
          rw [hz.ptr_inv.1]
  subst hvs
  have hbm : w.cell? ⟨E.φ 0, 0, none⟩ = some (.map none) := by
    rw [cell?_eq]; simp [cellH, hb0, hus]
  refine (sorted_nil (E.φ 0) w (lt_of_get hb0) hbm).mono fun e w' ⟨v, ss, he, hp, hr, _, hbl⟩ => ?_
  subst hp
  rw [List.mergeSort_nil] at hr
  exact ⟨v, _, he, hr, hbl⟩
theorem sortedZA_ : FCall Tryd.prog Gl 40 [kF] [.cells [mN]] (.sl 1 0 0 0) ([.cells [mN]] ++ [.arr 0 1 (([] : List Str).map eS)]) :=
  FCall.rowA (l := []) isSorted sortedZ_run
theorem sortedZ_ : FCall Tryd.prog Gl 40 [kF] [.cells [mN]] (LSn []) [.cells [mN]] :=
  FCall.rowL (l := []) isSorted (by simp) sortedZ_run
theorem tnamesZ_ : FCall Tryd.prog Gl 20 [.ptr 0 0] Tz (LSn []) Tz := by
  refine FCall.enterO hT hmix [] Tryd.func20 rfl rfl rfl fun hbd => ?_
  (conv => whnf)
  refine CallLeaf.o [1569] (by (repeat' (first | exact ArgsTo.nil | refine ArgsTo.cons ?_ ?_ | exact ArgTo.mk' rfl (Wk.refl _) | exact ArgTo.mk' rfl Wk.nilm | exact ArgTo.mk' rfl (Wk.int (by simp)) | exact ArgTo.mk' rfl (Wk.list _ _) | exact ArgTo.mk' rfl (Wk.agg (by (repeat' (first | exact Wks.nil | refine Wks.cons ?_ ?_ | exact Wk.refl _ | exact Wk.nilm | exact Wk.list _ _  | exact Wk.natN rfl | refine Wk.agg ?_))))))) (keysZ_) rfl rfl (by (repeat' (first | exact trivial | exact rfl | refine And.intro ?_ ?_))) (by (repeat' (first | exact trivial | exact rfl | refine And.intro ?_ ?_))) (by (repeat' (first | exact trivial | exact rfl | refine And.intro ?_ ?_))) rfl rfl ?_
  (conv => whnf)
  refine CallLeaf.o [1569] (by (repeat' (first | exact ArgsTo.nil | refine ArgsTo.cons ?_ ?_ | exact ArgTo.mk' rfl (Wk.refl _) | exact ArgTo.mk' rfl Wk.nilm | exact ArgTo.mk' rfl (Wk.int (by simp)) | exact ArgTo.mk' rfl (Wk.list _ _) | exact ArgTo.mk' rfl (Wk.agg (by (repeat' (first | exact Wks.nil | refine Wks.cons ?_ ?_ | exact Wk.refl _ | exact Wk.nilm | exact Wk.list _ _  | exact Wk.natN rfl | refine Wk.agg ?_))))))) (sortedZ_) rfl rfl (by (repeat' (first | exact trivial | exact rfl | refine And.intro ?_ ?_))) (by (repeat' (first | exact trivial | exact rfl | refine And.intro ?_ ?_))) (by (repeat' (first | exact trivial | exact rfl | refine And.intro ?_ ?_))) rfl rfl ?_
  (conv => whnf)
  refine ⟨[0], rfl, by (try unfold pullOk); (repeat' (first | exact trivial | exact ObWk.refl _ | refine And.intro ?_ ?_ | unfold pullOk)), ?_⟩
  exact Wk.refl _
theorem tnamesZA_ : FCall Tryd.prog Gl 20 [.ptr 0 0] Tz (.sl 1 0 0 0) (Tz ++ [.arr 0 1 (([] : List Str).map eS)]) := by
  refine FCall.enterO hT hmix [] Tryd.func20 rfl rfl rfl fun hbd => ?_
  (conv => whnf)
  refine CallLeaf.o [1569] (by (repeat' (first | exact ArgsTo.nil | refine ArgsTo.cons ?_ ?_ | exact ArgTo.mk' rfl (Wk.refl _) | exact ArgTo.mk' rfl Wk.nilm | exact ArgTo.mk' rfl (Wk.int (by simp)) | exact ArgTo.mk' rfl (Wk.list _ _) | exact ArgTo.mk' rfl (Wk.agg (by (repeat' (first | exact Wks.nil | refine Wks.cons ?_ ?_ | exact Wk.refl _ | exact Wk.nilm | exact Wk.list _ _  | exact Wk.natN rfl | refine Wk.agg ?_))))))) (keysZ_) rfl rfl (by (repeat' (first | exact trivial | exact rfl | refine And.intro ?_ ?_))) (by (repeat' (first | exact trivial | exact rfl | refine And.intro ?_ ?_))) (by (repeat' (first | exact trivial | exact rfl | refine And.intro ?_ ?_))) rfl rfl ?_
  (conv => whnf)
  refine CallLeaf.o [1569, 1577] (by (repeat' (first | exact ArgsTo.nil | refine ArgsTo.cons ?_ ?_ | exact ArgTo.mk' rfl (Wk.refl _) | exact ArgTo.mk' rfl Wk.nilm | exact ArgTo.mk' rfl (Wk.int (by simp)) | exact ArgTo.mk' rfl (Wk.list _ _) | exact ArgTo.mk' rfl (Wk.agg (by (repeat' (first | exact Wks.nil | refine Wks.cons ?_ ?_ | exact Wk.refl _ | exact Wk.nilm | exact Wk.list _ _  | exact Wk.natN rfl | refine Wk.agg ?_))))))) (sortedZA_) rfl rfl (by (repeat' (first | exact trivial | exact rfl | refine And.intro ?_ ?_))) (by (repeat' (first | exact trivial | exact rfl | refine And.intro ?_ ?_))) (by (repeat' (first | exact trivial | exact rfl | refine And.intro ?_ ?_))) rfl rfl ?_
  (conv => whnf)
  refine ⟨[0, 1577], rfl, by (try unfold pullOk); (repeat' (first | exact trivial | exact ObWk.refl _ | refine And.intro ?_ ?_ | unfold pullOk)), ?_⟩
  exact Wk.refl _
theorem tresZ_ : FCall Tryd.prog Gl 23 [.ptr 0 0] Tz (LRn []) Tz := by
  refine FCall.enterO hT hmix [] Tryd.func23 rfl rfl rfl fun hbd => ?_
  (conv => whnf)
  refine CallLeaf.o [0] (by (repeat' (first | exact ArgsTo.nil | refine ArgsTo.cons ?_ ?_ | exact ArgTo.mk' rfl (Wk.refl _) | exact ArgTo.mk' rfl Wk.nilm | exact ArgTo.mk' rfl (Wk.int (by simp)) | exact ArgTo.mk' rfl (Wk.list _ _) | exact ArgTo.mk' rfl (Wk.agg (by (repeat' (first | exact Wks.nil | refine Wks.cons ?_ ?_ | exact Wk.refl _ | exact Wk.nilm | exact Wk.list _ _  | exact Wk.natN rfl | refine Wk.agg ?_))))))) (tnamesZ_) rfl rfl (by (repeat' (first | exact trivial | exact rfl | refine And.intro ?_ ?_))) (by (repeat' (first | exact trivial | exact rfl | refine And.intro ?_ ?_))) (by (repeat' (first | exact trivial | exact rfl | refine And.intro ?_ ?_))) rfl rfl ?_
  (conv => whnf)
  refine LWp.loop hT hmix [] (fun k : Nat => [(11, vI k), (3, .nil)]) (fun k => []) (fun k => k = 0) (fun k => 0) 0 rfl ?_
  (conv => whnf)
  refine ⟨?_, fun k hk => ?_⟩
  · (repeat' (first | exact trivial | exact Wk.refl _ | exact ObWk.refl _ | exact rfl | exact ⟨_, rfl⟩ | exact Nat.zero_lt_one | refine And.intro ?_ ?_ | unfold okTo | (unfold okO; conv => whnf) | (unfold okS; conv => whnf) | (unfold SlotOk; conv => whnf) | (unfold ObjOk; conv => whnf) | (unfold okCells; conv => whnf) | (unfold liveTo; conv => whnf) | exact Nat.zero_lt_succ _))
  · subst hk
    (conv => whnf)
    refine ⟨[0], rfl, by (try unfold pullOk); (repeat' (first | exact trivial | exact ObWk.refl _ | refine And.intro ?_ ?_ | unfold pullOk)), ?_⟩
    exact Wk.natN rfl
end Go.Proofs.YtdlcaoobaejlpaaDoor

/- Laws of tables. No condition. -/
set_option linter.unusedVariables false
set_option linter.unusedSimpArgs false
namespace Go.Proofs.YtdlcaoobaejlpaaDoor
open Go Go.AL Go.AL.Bd
set_option maxRecDepth 100000
set_option maxHeartbeats 4000000
/-! ### an empty table's wanted names -/
abbrev Bz : List AObj := [.cells [.ptr 1 0], .cells [vI 0, mN], .arr 0 1 (([] : List Str).map eS)]
theorem indexFZ_ : FCall Tryd.prog Gl 52 [.sl 2 0 0 0, wF] Bz (vI (-1)) Bz := by
  refine FCall.enterO hT hmix [] Tryd.func52 rfl rfl rfl fun hbd => ?_
  (conv => whnf)
  refine LWp.loop hT hmix [] (fun k : Nat => [(8, vI k)]) (fun _ => []) (fun k => k = 0) (fun k => 0) 0 rfl ?_
  (conv => whnf)
  refine ⟨?_, fun k hk => ?_⟩
  · (repeat' (first | exact trivial | exact Wk.refl _ | exact ObWk.refl _ | exact rfl | exact ⟨_, rfl⟩ | exact Nat.zero_lt_one | refine And.intro ?_ ?_ | unfold okTo | (unfold okO; conv => whnf) | (unfold okS; conv => whnf) | (unfold SlotOk; conv => whnf) | (unfold ObjOk; conv => whnf) | (unfold okCells; conv => whnf) | (unfold liveTo; conv => whnf) | exact Nat.zero_lt_succ _))
  · subst hk
    (conv => whnf)
    refine ⟨[0, 1, 2], rfl, by (try unfold pullOk); (repeat' (first | exact trivial | exact ObWk.refl _ | refine And.intro ?_ ?_ | unfold pullOk)), ?_⟩
    exact Wk.refl _
theorem deleteFZ_ : FCall Tryd.prog Gl 38 [.sl 2 0 0 0, wF] Bz (.sl 2 0 0 0) Bz := by
  refine FCall.enterO hT hmix [] Tryd.func38 rfl rfl rfl fun hbd => ?_
  (conv => whnf)
  refine CallLeaf.o [0, 1, 2] (by (repeat' (first | exact ArgsTo.nil | refine ArgsTo.cons ?_ ?_ | exact ArgTo.mk' rfl (Wk.refl _) | exact ArgTo.mk' rfl Wk.nilm | exact ArgTo.mk' rfl (Wk.int (by simp)) | exact ArgTo.mk' rfl (Wk.list _ _) | exact ArgTo.mk' rfl (Wk.agg (by (repeat' (first | exact Wks.nil | refine Wks.cons ?_ ?_ | exact Wk.refl _ | exact Wk.nilm | exact Wk.list _ _  | exact Wk.natN rfl | refine Wk.agg ?_))))))) (indexFZ_) rfl rfl (by (repeat' (first | exact trivial | exact rfl | refine And.intro ?_ ?_))) (by (repeat' (first | exact trivial | exact rfl | refine And.intro ?_ ?_))) (by (repeat' (first | exact trivial | exact rfl | refine And.intro ?_ ?_))) rfl rfl ?_
  (conv => whnf)
  refine ⟨[0, 1, 2], rfl, by (try unfold pullOk); (repeat' (first | exact trivial | exact ObWk.refl _ | refine And.intro ?_ ?_ | unfold pullOk)), ?_⟩
  exact Wk.refl _
theorem twantedZA_ : FCall Tryd.prog Gl 18 [.ptr 0 0] Tz (.sl 1 0 0 0) (Tz ++ [.arr 0 1 (([] : List Str).map eS)]) := by
  refine FCall.enterO hT hmix [] Tryd.func18 rfl rfl rfl fun hbd => ?_
  (conv => whnf)
  refine CallLeaf.o [0, 521] (by (repeat' (first | exact ArgsTo.nil | refine ArgsTo.cons ?_ ?_ | exact ArgTo.mk' rfl (Wk.refl _) | exact ArgTo.mk' rfl Wk.nilm | exact ArgTo.mk' rfl (Wk.int (by simp)) | exact ArgTo.mk' rfl (Wk.list _ _) | exact ArgTo.mk' rfl (Wk.agg (by (repeat' (first | exact Wks.nil | refine Wks.cons ?_ ?_ | exact Wk.refl _ | exact Wk.nilm | exact Wk.list _ _  | exact Wk.natN rfl | refine Wk.agg ?_))))))) (tnamesZA_) rfl rfl (by (repeat' (first | exact trivial | exact rfl | refine And.intro ?_ ?_))) (by (repeat' (first | exact trivial | exact rfl | refine And.intro ?_ ?_))) (by (repeat' (first | exact trivial | exact rfl | refine And.intro ?_ ?_))) rfl rfl ?_
  (conv => whnf)
  refine CallLeaf.o [1, 0, 521] (by (repeat' (first | exact ArgsTo.nil | refine ArgsTo.cons ?_ ?_ | exact ArgTo.mk' rfl (Wk.refl _) | exact ArgTo.mk' rfl Wk.nilm | exact ArgTo.mk' rfl (Wk.int (by simp)) | exact ArgTo.mk' rfl (Wk.list _ _) | exact ArgTo.mk' rfl (Wk.agg (by (repeat' (first | exact Wks.nil | refine Wks.cons ?_ ?_ | exact Wk.refl _ | exact Wk.nilm | exact Wk.list _ _  | exact Wk.natN rfl | refine Wk.agg ?_))))))) (deleteFZ_) rfl rfl (by (repeat' (first | exact trivial | exact rfl | refine And.intro ?_ ?_))) (by (repeat' (first | exact trivial | exact rfl | refine And.intro ?_ ?_))) (by (repeat' (first | exact trivial | exact rfl | refine And.intro ?_ ?_))) rfl rfl ?_
  (conv => whnf)
  refine ⟨[0, 521], rfl, by (try unfold pullOk); (repeat' (first | exact trivial | exact ObWk.refl _ | refine And.intro ?_ ?_ | unfold pullOk)), ?_⟩
  exact Wk.refl _
theorem twantedZ_ : FCall Tryd.prog Gl 18 [.ptr 0 0] Tz (LSn []) Tz := by
  refine FCall.soft [(0, .cells [vI 0, mN])] twantedZA_ (fun k => ?_) (by simp) (fun k hk _ => ?_) ?_ ?_
  · match k with
    | 0 => rfl
    | k + 1 => rfl
  · match k, hk with
    | 0, _ => exact fun h => by simp [sto] at h
  · exact ⟨.inl ⟨_, rfl, .refl _, by simp⟩, trivial⟩
  · refine .inr (.inr ⟨1, 0, 0, 0, 1, [], rfl, rfl, rfl, by simp, by simp, ?_⟩)
    exact Wk.nat' rfl
/-! ### what is loaded, at a law -/
theorem loadK {l : List Ob.Obj} (ok : OkL l) {k : Nat} {o : Ob.Obj} (ho : l[k]? = some o) :
    FCall Tryd.prog Gl 11 [.ptr 0 0, oD ⟨o.syms, o.body⟩] (Tq k (Sy.build (Us (l.take k)))) (vI k) (Tq (k + 1) (Sy.build (Us (l.take (k + 1))))) := by
  rw [Us_take ho]
  have hm := List.mem_of_getElem? ho
  exact tload_ (Us (l.take k)) k o.syms o.body (ok.take k).okB (fun s hs => by have := ok.ok o hm s hs; omega) (by have := (ok.take k).le; have := ok.syms o hm; omega) (by
    have := (List.getElem?_eq_some_iff.1 ho).1; have := ok.len; omega)
theorem load0 {l : List Ob.Obj} (ok : OkL l) {o : Ob.Obj} (ho : l[0]? = some o) :
    FCall Tryd.prog Gl 11 [.ptr 0 0, oD ⟨o.syms, o.body⟩] Tz (vI 0) (Tq 1 (Sy.build (Us (l.take 1)))) := by
  rw [show (1 : Nat) = 0 + 1 from rfl, Us_take ho]
  have hm := List.mem_of_getElem? ho
  exact tloadZ_ o.syms o.body (fun s hs => by have := ok.ok o hm s hs; omega) (by have := ok.syms o hm; omega)
theorem namesK {l : List Ob.Obj} (ok : OkL l) (k : Nat) : FCall Tryd.prog Gl 20 [.ptr 0 0] (Tq k (Sy.build (Us (l.take k)))) (LSn (Sy.names (Us (l.take k)))) (Tq k (Sy.build (Us (l.take k)))) := tnames_ (Us (l.take k)) k (ok.take k).name (by have := (ok.take k).le; omega)
theorem stateK {l : List Ob.Obj} (ok : OkL l) (k : Nat) (s : Str) : FCall Tryd.prog Gl 15 [.ptr 0 0, sD s] (Tq k (Sy.build (Us (l.take k)))) (.agg (all (Sy.of (Us (l.take k)) s)).encN) (Tq k (Sy.build (Us (l.take k)))) := tstate_ (Us (l.take k)) k s (by have := (ok.take k).le; omega)
theorem wantedK {l : List Ob.Obj} (ok : OkL l) (k : Nat) : FCall Tryd.prog Gl 18 [.ptr 0 0] (Tq k (Sy.build (Us (l.take k)))) (LSn (wantedL (Us (l.take k)))) (Tq k (Sy.build (Us (l.take k)))) := twanted_ (Us (l.take k)) k (ok.take k).name (by have := (ok.take k).le; omega)
theorem resK {l : List Ob.Obj} (ok : OkL l) (k : Nat) : FCall Tryd.prog Gl 23 [.ptr 0 0] (Tq k (Sy.build (Us (l.take k)))) (LRn (resL (Us (l.take k)))) (Tq k (Sy.build (Us (l.take k)))) := tres_ (Us (l.take k)) k (ok.take k).name (by have := (ok.take k).le; omega)
/-! ### the fixed results -/
def aw1 : List Ob.Sym := [⟨[102], 4, 0, 0⟩, ⟨[97], 5, 0, 0⟩]
def aw2 : List Ob.Sym := [⟨[102], 1, 3, 0⟩]
def awU1 : List Use := Sy.uses 0 aw1
def awU2 : List Use := awU1 ++ Sy.uses 1 aw2
theorem awake_ : FCall Tryd.prog Gl 9 [] [] (vB true) [] := by
  have A1 : FCall Tryd.prog Gl 11 [.ptr 0 0, oD ⟨aw1, []⟩] Tz (vI 0) (Tq 1 (Sy.build awU1)) := tloadZ_ aw1 [] (by decide) (by decide)
  have A2 : FCall Tryd.prog Gl 18 [.ptr 0 0] (Tq 1 (Sy.build awU1)) (LSn [[102]]) (Tq 1 (Sy.build awU1)) := twanted_ awU1 1 (by decide) (by decide)
  have A3 : FCall Tryd.prog Gl 11 [.ptr 0 0, oD ⟨aw2, []⟩] (Tq 1 (Sy.build awU1)) (vI 1) (Tq 2 (Sy.build awU2)) := tload_ awU1 1 aw2 [] (by unfold Sy.okB; decide) (by decide) (by decide) (by decide)
  have A4 : FCall Tryd.prog Gl 18 [.ptr 0 0] (Tq 2 (Sy.build awU2)) (LSn []) (Tq 2 (Sy.build awU2)) := twanted_ awU2 2 (by decide) (by decide)
  have A5 : FCall Tryd.prog Gl 20 [.ptr 0 0] (Tq 2 (Sy.build awU2)) (LSn [[97], [102]]) (Tq 2 (Sy.build awU2)) := tnames_ awU2 2 (by decide) (by decide)
  have A6 : FCall Tryd.prog Gl 23 [.ptr 0 0] (Tq 2 (Sy.build awU2)) (LRn [⟨[97], 5, 0, 0, -1⟩, ⟨[102], 1, 3, 0, 1⟩]) (Tq 2 (Sy.build awU2)) := tres_ awU2 2 (by decide) (by decide)
  refine FCall.enterL hT hmix [] Tryd.func9 rfl rfl rfl fun hbd => ?_
  (conv => whnf)
  refine CallLeaf.o [512, 1568] (by (repeat' (first | exact ArgsTo.nil | refine ArgsTo.cons ?_ ?_ | exact ArgTo.mk' rfl (Wk.refl _) | exact ArgTo.mk' rfl Wk.nilm | exact ArgTo.mk' rfl (Wk.int (by simp)) | exact ArgTo.mk' rfl (Wk.list _ _) | exact ArgTo.mk' rfl (Wk.agg (by (repeat' (first | exact Wks.nil | refine Wks.cons ?_ ?_ | exact Wk.refl _ | exact Wk.nilm | exact Wk.list _ _  | exact Wk.natN rfl | refine Wk.agg ?_))))))) (A1) rfl rfl (by (repeat' (first | exact trivial | exact rfl | refine And.intro ?_ ?_))) (by (repeat' (first | exact trivial | exact rfl | refine And.intro ?_ ?_))) (by (repeat' (first | exact trivial | exact rfl | refine And.intro ?_ ?_))) rfl rfl ?_
  (conv => whnf)
  refine CallLeaf.o [512, 1568] (by (repeat' (first | exact ArgsTo.nil | refine ArgsTo.cons ?_ ?_ | exact ArgTo.mk' rfl (Wk.refl _) | exact ArgTo.mk' rfl Wk.nilm | exact ArgTo.mk' rfl (Wk.int (by simp)) | exact ArgTo.mk' rfl (Wk.list _ _) | exact ArgTo.mk' rfl (Wk.agg (by (repeat' (first | exact Wks.nil | refine Wks.cons ?_ ?_ | exact Wk.refl _ | exact Wk.nilm | exact Wk.list _ _  | exact Wk.natN rfl | refine Wk.agg ?_))))))) (A2) rfl rfl (by (repeat' (first | exact trivial | exact rfl | refine And.intro ?_ ?_))) (by (repeat' (first | exact trivial | exact rfl | refine And.intro ?_ ?_))) (by (repeat' (first | exact trivial | exact rfl | refine And.intro ?_ ?_))) rfl rfl ?_
  (conv => whnf)
  refine CallLeaf.o [512, 1568] (by (repeat' (first | exact ArgsTo.nil | refine ArgsTo.cons ?_ ?_ | exact ArgTo.mk' rfl (Wk.refl _) | exact ArgTo.mk' rfl Wk.nilm | exact ArgTo.mk' rfl (Wk.int (by simp)) | exact ArgTo.mk' rfl (Wk.list _ _) | exact ArgTo.mk' rfl (Wk.agg (by (repeat' (first | exact Wks.nil | refine Wks.cons ?_ ?_ | exact Wk.refl _ | exact Wk.nilm | exact Wk.list _ _  | exact Wk.natN rfl | refine Wk.agg ?_))))))) (A3) rfl rfl (by (repeat' (first | exact trivial | exact rfl | refine And.intro ?_ ?_))) (by (repeat' (first | exact trivial | exact rfl | refine And.intro ?_ ?_))) (by (repeat' (first | exact trivial | exact rfl | refine And.intro ?_ ?_))) rfl rfl ?_
  (conv => whnf)
  refine CallLeaf.o [512, 1568] (by (repeat' (first | exact ArgsTo.nil | refine ArgsTo.cons ?_ ?_ | exact ArgTo.mk' rfl (Wk.refl _) | exact ArgTo.mk' rfl Wk.nilm | exact ArgTo.mk' rfl (Wk.int (by simp)) | exact ArgTo.mk' rfl (Wk.list _ _) | exact ArgTo.mk' rfl (Wk.agg (by (repeat' (first | exact Wks.nil | refine Wks.cons ?_ ?_ | exact Wk.refl _ | exact Wk.nilm | exact Wk.list _ _  | exact Wk.natN rfl | refine Wk.agg ?_))))))) (tunits_ 2 (Sy.build awU2)) rfl rfl (by (repeat' (first | exact trivial | exact rfl | refine And.intro ?_ ?_))) (by (repeat' (first | exact trivial | exact rfl | refine And.intro ?_ ?_))) (by (repeat' (first | exact trivial | exact rfl | refine And.intro ?_ ?_))) rfl rfl ?_
  (conv => whnf)
  refine CallLeaf.w (by (repeat' (first | exact ArgsTo.nil | refine ArgsTo.cons ?_ ?_ | exact ArgTo.mk' rfl (Wk.refl _) | exact ArgTo.mk' rfl Wk.nilm | exact ArgTo.mk' rfl (Wk.int (by simp)) | exact ArgTo.mk' rfl (Wk.list _ _) | exact ArgTo.mk' rfl (Wk.agg (by (repeat' (first | exact Wks.nil | refine Wks.cons ?_ ?_ | exact Wk.refl _ | exact Wk.nilm | exact Wk.list _ _  | exact Wk.natN rfl | refine Wk.agg ?_))))))) (texts_ [[102]] [[102]]) rfl ?_
  (conv => whnf)
  refine CallLeaf.o [512, 1568] (by (repeat' (first | exact ArgsTo.nil | refine ArgsTo.cons ?_ ?_ | exact ArgTo.mk' rfl (Wk.refl _) | exact ArgTo.mk' rfl Wk.nilm | exact ArgTo.mk' rfl (Wk.int (by simp)) | exact ArgTo.mk' rfl (Wk.list _ _) | exact ArgTo.mk' rfl (Wk.agg (by (repeat' (first | exact Wks.nil | refine Wks.cons ?_ ?_ | exact Wk.refl _ | exact Wk.nilm | exact Wk.list _ _  | exact Wk.natN rfl | refine Wk.agg ?_))))))) (A4) rfl rfl (by (repeat' (first | exact trivial | exact rfl | refine And.intro ?_ ?_))) (by (repeat' (first | exact trivial | exact rfl | refine And.intro ?_ ?_))) (by (repeat' (first | exact trivial | exact rfl | refine And.intro ?_ ?_))) rfl rfl ?_
  (conv => whnf)
  refine CallLeaf.o [512, 1568] (by (repeat' (first | exact ArgsTo.nil | refine ArgsTo.cons ?_ ?_ | exact ArgTo.mk' rfl (Wk.refl _) | exact ArgTo.mk' rfl Wk.nilm | exact ArgTo.mk' rfl (Wk.int (by simp)) | exact ArgTo.mk' rfl (Wk.list _ _) | exact ArgTo.mk' rfl (Wk.agg (by (repeat' (first | exact Wks.nil | refine Wks.cons ?_ ?_ | exact Wk.refl _ | exact Wk.nilm | exact Wk.list _ _  | exact Wk.natN rfl | refine Wk.agg ?_))))))) (A5) rfl rfl (by (repeat' (first | exact trivial | exact rfl | refine And.intro ?_ ?_))) (by (repeat' (first | exact trivial | exact rfl | refine And.intro ?_ ?_))) (by (repeat' (first | exact trivial | exact rfl | refine And.intro ?_ ?_))) rfl rfl ?_
  (conv => whnf)
  refine CallLeaf.w (by (repeat' (first | exact ArgsTo.nil | refine ArgsTo.cons ?_ ?_ | exact ArgTo.mk' rfl (Wk.refl _) | exact ArgTo.mk' rfl Wk.nilm | exact ArgTo.mk' rfl (Wk.int (by simp)) | exact ArgTo.mk' rfl (Wk.list _ _) | exact ArgTo.mk' rfl (Wk.agg (by (repeat' (first | exact Wks.nil | refine Wks.cons ?_ ?_ | exact Wk.refl _ | exact Wk.nilm | exact Wk.list _ _  | exact Wk.natN rfl | refine Wk.agg ?_))))))) (texts_ [[97], [102]] [[97], [102]]) rfl ?_
  (conv => whnf)
  refine CallLeaf.o [512, 1568] (by (repeat' (first | exact ArgsTo.nil | refine ArgsTo.cons ?_ ?_ | exact ArgTo.mk' rfl (Wk.refl _) | exact ArgTo.mk' rfl Wk.nilm | exact ArgTo.mk' rfl (Wk.int (by simp)) | exact ArgTo.mk' rfl (Wk.list _ _) | exact ArgTo.mk' rfl (Wk.agg (by (repeat' (first | exact Wks.nil | refine Wks.cons ?_ ?_ | exact Wk.refl _ | exact Wk.nilm | exact Wk.list _ _  | exact Wk.natN rfl | refine Wk.agg ?_))))))) (A6) rfl rfl (by (repeat' (first | exact trivial | exact rfl | refine And.intro ?_ ?_))) (by (repeat' (first | exact trivial | exact rfl | refine And.intro ?_ ?_))) (by (repeat' (first | exact trivial | exact rfl | refine And.intro ?_ ?_))) rfl rfl ?_
  (conv => whnf)
  refine CallLeaf.w (by (repeat' (first | exact ArgsTo.nil | refine ArgsTo.cons ?_ ?_ | exact ArgTo.mk' rfl (Wk.refl _) | exact ArgTo.mk' rfl Wk.nilm | exact ArgTo.mk' rfl (Wk.int (by simp)) | exact ArgTo.mk' rfl (Wk.list _ _) | exact ArgTo.mk' rfl (Wk.agg (by (repeat' (first | exact Wks.nil | refine Wks.cons ?_ ?_ | exact Wk.refl _ | exact Wk.nilm | exact Wk.list _ _  | exact Wk.natN rfl | refine Wk.agg ?_))))))) (sameRes_ [⟨[97], 5, 0, 0, -1⟩, ⟨[102], 1, 3, 0, 1⟩] [⟨[97], 5, 0, 0, -1⟩, ⟨[102], 1, 3, 0, 1⟩]) rfl ?_
  (conv => whnf)
  refine CallLeaf.w (by (repeat' (first | exact ArgsTo.nil | refine ArgsTo.cons ?_ ?_ | exact ArgTo.mk' rfl (Wk.refl _) | exact ArgTo.mk' rfl Wk.nilm | exact ArgTo.mk' rfl (Wk.int (by simp)) | exact ArgTo.mk' rfl (Wk.list _ _) | exact ArgTo.mk' rfl (Wk.agg (by (repeat' (first | exact Wks.nil | refine Wks.cons ?_ ?_ | exact Wk.refl _ | exact Wk.nilm | exact Wk.list _ _  | exact Wk.natN rfl | refine Wk.agg ?_))))))) (tloadN_ [] []) rfl ?_
  (conv => whnf)
  refine CallLeaf.w (by (repeat' (first | exact ArgsTo.nil | refine ArgsTo.cons ?_ ?_ | exact ArgTo.mk' rfl (Wk.refl _) | exact ArgTo.mk' rfl Wk.nilm | exact ArgTo.mk' rfl (Wk.int (by simp)) | exact ArgTo.mk' rfl (Wk.list _ _) | exact ArgTo.mk' rfl (Wk.agg (by (repeat' (first | exact Wks.nil | refine Wks.cons ?_ ?_ | exact Wk.refl _ | exact Wk.nilm | exact Wk.list _ _  | exact Wk.natN rfl | refine Wk.agg ?_))))))) (tunitsN_) rfl ?_
  (conv => whnf)
  refine CallLeaf.w (by (repeat' (first | exact ArgsTo.nil | refine ArgsTo.cons ?_ ?_ | exact ArgTo.mk' rfl (Wk.refl _) | exact ArgTo.mk' rfl Wk.nilm | exact ArgTo.mk' rfl (Wk.int (by simp)) | exact ArgTo.mk' rfl (Wk.list _ _) | exact ArgTo.mk' rfl (Wk.agg (by (repeat' (first | exact Wks.nil | refine Wks.cons ?_ ?_ | exact Wk.refl _ | exact Wk.nilm | exact Wk.list _ _  | exact Wk.natN rfl | refine Wk.agg ?_))))))) (tstateN_ [120]) rfl ?_
  (conv => whnf)
  refine CallLeaf.w (by (repeat' (first | exact ArgsTo.nil | refine ArgsTo.cons ?_ ?_ | exact ArgTo.mk' rfl (Wk.refl _) | exact ArgTo.mk' rfl Wk.nilm | exact ArgTo.mk' rfl (Wk.int (by simp)) | exact ArgTo.mk' rfl (Wk.list _ _) | exact ArgTo.mk' rfl (Wk.agg (by (repeat' (first | exact Wks.nil | refine Wks.cons ?_ ?_ | exact Wk.refl _ | exact Wk.nilm | exact Wk.list _ _  | exact Wk.natN rfl | refine Wk.agg ?_))))))) (tnamesN_) rfl ?_
  (conv => whnf)
  exact Wk.refl _
end Go.Proofs.YtdlcaoobaejlpaaDoor

/- SymtabMatchesReference, walked. No condition. -/
set_option linter.unusedVariables false
set_option linter.unusedSimpArgs false
namespace Go.Proofs.YtdlcaoobaejlpaaDoor
open Go Go.AL Go.AL.Bd
set_option maxRecDepth 100000
set_option maxHeartbeats 4000000
abbrev TK (a m : Nat) (l : List Ob.Obj) : Nat → So
  | 0 => [(a, .cells [vI 0, mN])]
  | k + 1 => [(a, .cells [vI ((k + 1 : Nat) : Int), .map m]), (m, .map (Sy.ents (Sy.build (Us (l.take (k + 1))))))]
theorem vN_eq (a b : Int) (h : a = b) : vI a = vI b := by rw [h]
theorem symMatches_ (l : List Ob.Obj) (name : Str) : FCall Tryd.prog Gl 3 [LO l, sD name] [] (vB true) [] := by
  refine FCall.enterL hT hmix [] Tryd.func3 rfl rfl rfl fun hbd => ?_
  (conv => whnf)
  refine CallLeaf.w (by (repeat' (first | exact ArgsTo.nil | refine ArgsTo.cons ?_ ?_ | exact ArgTo.mk' rfl (Wk.refl _) | exact ArgTo.mk' rfl Wk.nilm | exact ArgTo.mk' rfl (Wk.int (by simp)) | exact ArgTo.mk' rfl (Wk.list _ _) | exact ArgTo.mk' rfl (Wk.agg (by (repeat' (first | exact Wks.nil | refine Wks.cons ?_ ?_ | exact Wk.refl _ | exact Wk.nilm | exact Wk.list _ _  | exact Wk.natN rfl | refine Wk.agg ?_))))))) (awake_) rfl ?_
  (conv => whnf)
  refine CallLeaf.w (by (repeat' (first | exact ArgsTo.nil | refine ArgsTo.cons ?_ ?_ | exact ArgTo.mk' rfl (Wk.refl _) | exact ArgTo.mk' rfl Wk.nilm | exact ArgTo.mk' rfl (Wk.int (by simp)) | exact ArgTo.mk' rfl (Wk.list _ _) | exact ArgTo.mk' rfl (Wk.agg (by (repeat' (first | exact Wks.nil | refine Wks.cons ?_ ?_ | exact Wk.refl _ | exact Wk.nilm | exact Wk.list _ _  | exact Wk.natN rfl | refine Wk.agg ?_))))))) (right_ l) rfl ?_
  (conv => whnf)
  refine split_intro (fun hr => ?_) (fun hr => ?_)
  · (((conv => whnf)); (refine CallLeaf.w (by (repeat' (first | exact ArgsTo.nil | refine ArgsTo.cons ?_ ?_ | exact ArgTo.mk' rfl (Wk.refl _) | exact ArgTo.mk' rfl Wk.nilm | exact ArgTo.mk' rfl (Wk.int (by simp)) | exact ArgTo.mk' rfl (Wk.list _ _) | exact ArgTo.mk' rfl (Wk.agg (by (repeat' (first | exact Wks.nil | refine Wks.cons ?_ ?_ | exact Wk.refl _ | exact Wk.nilm | exact Wk.list _ _  | exact Wk.natN rfl | refine Wk.agg ?_))))))) (awake_) rfl ?_); ((conv => whnf)); exact Wk.refl _)
  · have ok := right_ok (not_f hr)
    have hl := ok.len
    (conv => whnf)
    refine split_intro (fun hn => ?_) (fun hn => ?_)
    · (((conv => whnf)); (refine CallLeaf.w (by (repeat' (first | exact ArgsTo.nil | refine ArgsTo.cons ?_ ?_ | exact ArgTo.mk' rfl (Wk.refl _) | exact ArgTo.mk' rfl Wk.nilm | exact ArgTo.mk' rfl (Wk.int (by simp)) | exact ArgTo.mk' rfl (Wk.list _ _) | exact ArgTo.mk' rfl (Wk.agg (by (repeat' (first | exact Wks.nil | refine Wks.cons ?_ ?_ | exact Wk.refl _ | exact Wk.nilm | exact Wk.list _ _  | exact Wk.natN rfl | refine Wk.agg ?_))))))) (awake_) rfl ?_); ((conv => whnf)); exact Wk.refl _)
    · (conv => whnf)
      refine LWp.loop hT hmix [] (fun k : Nat => [(6, vI k)]) (fun k => TK 1536 3616 l k) (fun k => k ≤ l.length) (fun k => l.length - k) 0 (Nat.zero_le _) ?_
      (conv => whnf)
      refine ⟨?_, fun k hk => ?_⟩
      · (repeat' (first | exact trivial | exact Wk.refl _ | exact ObWk.refl _ | exact rfl | exact ⟨_, rfl⟩ | exact Nat.zero_lt_one | refine And.intro ?_ ?_ | unfold okTo | (unfold okO; conv => whnf) | (unfold okS; conv => whnf) | (unfold SlotOk; conv => whnf) | (unfold ObjOk; conv => whnf) | (unfold okCells; conv => whnf) | (unfold liveTo; conv => whnf) | exact Nat.zero_lt_succ _))
      · cases k with
        | zero =>
          (conv => whnf)
          refine split_intro (fun h => ?_) (fun h => ?_)
          · have hlt : 0 < l.length := by have := of_decide_eq_true h; simp at this; omega
            obtain ⟨o, ho⟩ := exI hlt
            (conv => whnf)
            refine ⟨_, ⟨by omega, getMap ho⟩, ?_⟩
            (conv => whnf)
            refine CallLeaf.o [1536, 3616] (by (repeat' (first | exact ArgsTo.nil | refine ArgsTo.cons ?_ ?_ | exact ArgTo.mk' rfl (Wk.refl _) | exact ArgTo.mk' rfl Wk.nilm | exact ArgTo.mk' rfl (Wk.int (by simp)) | exact ArgTo.mk' rfl (Wk.list _ _) | exact ArgTo.mk' rfl (Wk.agg (by (repeat' (first | exact Wks.nil | refine Wks.cons ?_ ?_ | exact Wk.refl _ | exact Wk.nilm | exact Wk.list _ _  | exact Wk.natN rfl | refine Wk.agg ?_))))))) (load0 ok ho) rfl rfl (by (repeat' (first | exact trivial | exact rfl | refine And.intro ?_ ?_))) (by (repeat' (first | exact trivial | exact rfl | refine And.intro ?_ ?_))) (by (repeat' (first | exact trivial | exact rfl | refine And.intro ?_ ?_))) rfl rfl ?_
            (conv => whnf)
            ((try ((refine split_intro (fun h => absurd h (by simp)) (fun _ => ?_)); (conv => whnf))); (refine ⟨_, add64 (c := ((0 + 1 : Nat) : Int)) (by (try simp only []); omega) (by omega), ?_⟩); ((conv => whnf)); (refine ⟨_, slTake (f := Oe) (l := l) (b := 0 + 1) (r := l.take (0 + 1)) rfl (by omega) (fun _ => rfl) rfl, ?_⟩); ((conv => whnf)); (refine CallLeaf.o [1536, 3616] (by (repeat' (first | exact ArgsTo.nil | refine ArgsTo.cons ?_ ?_ | exact ArgTo.mk' rfl (Wk.refl _) | exact ArgTo.mk' rfl Wk.nilm | exact ArgTo.mk' rfl (Wk.int (by simp)) | exact ArgTo.mk' rfl (Wk.list _ _) | exact ArgTo.mk' rfl (Wk.agg (by (repeat' (first | exact Wks.nil | refine Wks.cons ?_ ?_ | exact Wk.refl _ | exact Wk.nilm | exact Wk.list _ _  | exact Wk.natN rfl | refine Wk.agg ?_))))))) (tunits_ (0 + 1) (Sy.build (Us (l.take (0 + 1))))) rfl rfl (by (repeat' (first | exact trivial | exact rfl | refine And.intro ?_ ?_))) (by (repeat' (first | exact trivial | exact rfl | refine And.intro ?_ ?_))) (by (repeat' (first | exact trivial | exact rfl | refine And.intro ?_ ?_))) rfl rfl ?_); ((conv => whnf)); (refine ⟨_, add64 (c := ((0 + 1 : Nat) : Int)) (by (try simp only []); omega) (by omega), ?_⟩); ((conv => whnf)))
            ((try ((refine split_intro (fun h => absurd h (by simp)) (fun _ => ?_)); (conv => whnf))); (refine CallLeaf.o [1536, 3616] (by (repeat' (first | exact ArgsTo.nil | refine ArgsTo.cons ?_ ?_ | exact ArgTo.mk' rfl (Wk.refl _) | exact ArgTo.mk' rfl Wk.nilm | exact ArgTo.mk' rfl (Wk.int (by simp)) | exact ArgTo.mk' rfl (Wk.list _ _) | exact ArgTo.mk' rfl (Wk.agg (by (repeat' (first | exact Wks.nil | refine Wks.cons ?_ ?_ | exact Wk.refl _ | exact Wk.nilm | exact Wk.list _ _  | exact Wk.natN rfl | refine Wk.agg ?_))))))) (stateK ok (0 + 1) name) rfl rfl (by (repeat' (first | exact trivial | exact rfl | refine And.intro ?_ ?_))) (by (repeat' (first | exact trivial | exact rfl | refine And.intro ?_ ?_))) (by (repeat' (first | exact trivial | exact rfl | refine And.intro ?_ ?_))) rfl rfl ?_); ((conv => whnf)); (refine CallLeaf.w (by (repeat' (first | exact ArgsTo.nil | refine ArgsTo.cons ?_ ?_ | exact ArgTo.mk' rfl (Wk.refl _) | exact ArgTo.mk' rfl Wk.nilm | exact ArgTo.mk' rfl (Wk.int (by simp)) | exact ArgTo.mk' rfl (Wk.list _ _) | exact ArgTo.mk' rfl (Wk.agg (by (repeat' (first | exact Wks.nil | refine Wks.cons ?_ ?_ | exact Wk.refl _ | exact Wk.nilm | exact Wk.list _ _  | exact Wk.natN rfl | refine Wk.agg ?_))))))) (state_ (all (Sy.of (Us (l.take (0 + 1))) name))) rfl ?_); ((conv => whnf)); (refine CallLeaf.w (by (repeat' (first | exact ArgsTo.nil | refine ArgsTo.cons ?_ ?_ | exact ArgTo.mk' rfl (Wk.refl _) | exact ArgTo.mk' rfl Wk.nilm | exact ArgTo.mk' rfl (Wk.int (by simp)) | exact ArgTo.mk' rfl (Wk.list _ _) | exact ArgTo.mk' rfl (Wk.agg (by (repeat' (first | exact Wks.nil | refine Wks.cons ?_ ?_ | exact Wk.refl _ | exact Wk.nilm | exact Wk.list _ _  | exact Wk.natN rfl | refine Wk.agg ?_))))))) (rstate_ (l.take (0 + 1)) name (ok.take (0 + 1))) rfl ?_); ((conv => whnf)); (refine CallLeaf.w (by (repeat' (first | exact ArgsTo.nil | refine ArgsTo.cons ?_ ?_ | exact ArgTo.mk' rfl (Wk.refl _) | exact ArgTo.mk' rfl Wk.nilm | exact ArgTo.mk' rfl (Wk.int (by simp)) | exact ArgTo.mk' rfl (Wk.list _ _) | exact ArgTo.mk' rfl (Wk.agg (by (repeat' (first | exact Wks.nil | refine Wks.cons ?_ ?_ | exact Wk.refl _ | exact Wk.nilm | exact Wk.list _ _  | exact Wk.natN rfl | refine Wk.agg ?_))))))) (same_ (all (Sy.of (Us (l.take (0 + 1))) name)) (all (Sy.of (Us (l.take (0 + 1))) name))) rfl ?_); ((conv => whnf)); (try ((refine split_intro (fun h => absurd h (by simp)) (fun _ => ?_)); (conv => whnf))))
            ((refine CallLeaf.o [1536, 3616] (by (repeat' (first | exact ArgsTo.nil | refine ArgsTo.cons ?_ ?_ | exact ArgTo.mk' rfl (Wk.refl _) | exact ArgTo.mk' rfl Wk.nilm | exact ArgTo.mk' rfl (Wk.int (by simp)) | exact ArgTo.mk' rfl (Wk.list _ _) | exact ArgTo.mk' rfl (Wk.agg (by (repeat' (first | exact Wks.nil | refine Wks.cons ?_ ?_ | exact Wk.refl _ | exact Wk.nilm | exact Wk.list _ _  | exact Wk.natN rfl | refine Wk.agg ?_))))))) (wantedK ok (0 + 1)) rfl rfl (by (repeat' (first | exact trivial | exact rfl | refine And.intro ?_ ?_))) (by (repeat' (first | exact trivial | exact rfl | refine And.intro ?_ ?_))) (by (repeat' (first | exact trivial | exact rfl | refine And.intro ?_ ?_))) rfl rfl ?_); ((conv => whnf)); (refine CallLeaf.w (by (repeat' (first | exact ArgsTo.nil | refine ArgsTo.cons ?_ ?_ | exact ArgTo.mk' rfl (Wk.refl _) | exact ArgTo.mk' rfl Wk.nilm | exact ArgTo.mk' rfl (Wk.int (by simp)) | exact ArgTo.mk' rfl (Wk.list _ _) | exact ArgTo.mk' rfl (Wk.agg (by (repeat' (first | exact Wks.nil | refine Wks.cons ?_ ?_ | exact Wk.refl _ | exact Wk.nilm | exact Wk.list _ _  | exact Wk.natN rfl | refine Wk.agg ?_))))))) (rwanted_ (l.take (0 + 1)) (ok.take (0 + 1))) rfl ?_); ((conv => whnf)); (refine CallLeaf.w (by (repeat' (first | exact ArgsTo.nil | refine ArgsTo.cons ?_ ?_ | exact ArgTo.mk' rfl (Wk.refl _) | exact ArgTo.mk' rfl Wk.nilm | exact ArgTo.mk' rfl (Wk.int (by simp)) | exact ArgTo.mk' rfl (Wk.list _ _) | exact ArgTo.mk' rfl (Wk.agg (by (repeat' (first | exact Wks.nil | refine Wks.cons ?_ ?_ | exact Wk.refl _ | exact Wk.nilm | exact Wk.list _ _  | exact Wk.natN rfl | refine Wk.agg ?_))))))) (texts_ (wantedL (Us (l.take (0 + 1)))) (wantedL (Us (l.take (0 + 1))))) rfl ?_); ((conv => whnf)); (try ((refine split_intro (fun h => absurd h (by simp)) (fun _ => ?_)); (conv => whnf))); (refine ⟨_, add64 (c := ((0 + 1 : Nat) : Int)) (by (try simp only []); omega) (by omega), ?_⟩); ((conv => whnf)))
            (refine ⟨0 + 1, ⟨by omega, by simp only []; omega⟩, ?_⟩; (repeat' (first | exact trivial | exact Wk.refl _ | exact ObWk.refl _ | exact rfl | exact ⟨_, rfl⟩ | exact Nat.zero_lt_one | refine And.intro ?_ ?_ | unfold okTo | (unfold okO; conv => whnf) | (unfold okS; conv => whnf) | (unfold SlotOk; conv => whnf) | (unfold ObjOk; conv => whnf) | (unfold okCells; conv => whnf) | (unfold liveTo; conv => whnf) | exact Nat.zero_lt_succ _)))
          · have h0 : l = [] := by have := of_decide_eq_false h; simpa using this
            subst h0
            (conv => whnf)
            refine CallLeaf.o [1536] (by (repeat' (first | exact ArgsTo.nil | refine ArgsTo.cons ?_ ?_ | exact ArgTo.mk' rfl (Wk.refl _) | exact ArgTo.mk' rfl Wk.nilm | exact ArgTo.mk' rfl (Wk.int (by simp)) | exact ArgTo.mk' rfl (Wk.list _ _) | exact ArgTo.mk' rfl (Wk.agg (by (repeat' (first | exact Wks.nil | refine Wks.cons ?_ ?_ | exact Wk.refl _ | exact Wk.nilm | exact Wk.list _ _  | exact Wk.natN rfl | refine Wk.agg ?_))))))) (tnamesZ_) rfl rfl (by (repeat' (first | exact trivial | exact rfl | refine And.intro ?_ ?_))) (by (repeat' (first | exact trivial | exact rfl | refine And.intro ?_ ?_))) (by (repeat' (first | exact trivial | exact rfl | refine And.intro ?_ ?_))) rfl rfl ?_
            (conv => whnf)
            refine CallLeaf.w (by (repeat' (first | exact ArgsTo.nil | refine ArgsTo.cons ?_ ?_ | exact ArgTo.mk' rfl (Wk.refl _) | exact ArgTo.mk' rfl Wk.nilm | exact ArgTo.mk' rfl (Wk.int (by simp)) | exact ArgTo.mk' rfl (Wk.list _ _) | exact ArgTo.mk' rfl (Wk.agg (by (repeat' (first | exact Wks.nil | refine Wks.cons ?_ ?_ | exact Wk.refl _ | exact Wk.nilm | exact Wk.list _ _  | exact Wk.natN rfl | refine Wk.agg ?_))))))) (rnames_ [] ok) rfl ?_
            (conv => whnf)
            refine CallLeaf.w (by (repeat' (first | exact ArgsTo.nil | refine ArgsTo.cons ?_ ?_ | exact ArgTo.mk' rfl (Wk.refl _) | exact ArgTo.mk' rfl Wk.nilm | exact ArgTo.mk' rfl (Wk.int (by simp)) | exact ArgTo.mk' rfl (Wk.list _ _) | exact ArgTo.mk' rfl (Wk.agg (by (repeat' (first | exact Wks.nil | refine Wks.cons ?_ ?_ | exact Wk.refl _ | exact Wk.nilm | exact Wk.list _ _  | exact Wk.natN rfl | refine Wk.agg ?_))))))) (texts_ [] []) rfl ?_
            (conv => whnf)
            refine CallLeaf.o [1536] (by (repeat' (first | exact ArgsTo.nil | refine ArgsTo.cons ?_ ?_ | exact ArgTo.mk' rfl (Wk.refl _) | exact ArgTo.mk' rfl Wk.nilm | exact ArgTo.mk' rfl (Wk.int (by simp)) | exact ArgTo.mk' rfl (Wk.list _ _) | exact ArgTo.mk' rfl (Wk.agg (by (repeat' (first | exact Wks.nil | refine Wks.cons ?_ ?_ | exact Wk.refl _ | exact Wk.nilm | exact Wk.list _ _  | exact Wk.natN rfl | refine Wk.agg ?_))))))) (tresZ_) rfl rfl (by (repeat' (first | exact trivial | exact rfl | refine And.intro ?_ ?_))) (by (repeat' (first | exact trivial | exact rfl | refine And.intro ?_ ?_))) (by (repeat' (first | exact trivial | exact rfl | refine And.intro ?_ ?_))) rfl rfl ?_
            (conv => whnf)
            refine CallLeaf.w (by (repeat' (first | exact ArgsTo.nil | refine ArgsTo.cons ?_ ?_ | exact ArgTo.mk' rfl (Wk.refl _) | exact ArgTo.mk' rfl Wk.nilm | exact ArgTo.mk' rfl (Wk.int (by simp)) | exact ArgTo.mk' rfl (Wk.list _ _) | exact ArgTo.mk' rfl (Wk.agg (by (repeat' (first | exact Wks.nil | refine Wks.cons ?_ ?_ | exact Wk.refl _ | exact Wk.nilm | exact Wk.list _ _  | exact Wk.natN rfl | refine Wk.agg ?_))))))) (rres_ [] ok) rfl ?_
            (conv => whnf)
            refine CallLeaf.w (by (repeat' (first | exact ArgsTo.nil | refine ArgsTo.cons ?_ ?_ | exact ArgTo.mk' rfl (Wk.refl _) | exact ArgTo.mk' rfl Wk.nilm | exact ArgTo.mk' rfl (Wk.int (by simp)) | exact ArgTo.mk' rfl (Wk.list _ _) | exact ArgTo.mk' rfl (Wk.agg (by (repeat' (first | exact Wks.nil | refine Wks.cons ?_ ?_ | exact Wk.refl _ | exact Wk.nilm | exact Wk.list _ _  | exact Wk.natN rfl | refine Wk.agg ?_))))))) (sameRes_ [] []) rfl ?_
            (conv => whnf)
            exact Wk.bool (by simp)
        | succ k =>
          (conv => whnf)
          refine split_intro (fun h => ?_) (fun h => ?_)
          · have hlt : k + 1 < l.length := by have := of_decide_eq_true h; simp at this; omega
            obtain ⟨o, ho⟩ := exI hlt
            (conv => whnf)
            refine ⟨_, ⟨by omega, getMap ho⟩, ?_⟩
            (conv => whnf)
            refine CallLeaf.o [1536, 3616] (by (repeat' (first | exact ArgsTo.nil | refine ArgsTo.cons ?_ ?_ | exact ArgTo.mk' rfl (Wk.refl _) | exact ArgTo.mk' rfl Wk.nilm | exact ArgTo.mk' rfl (Wk.int (by simp)) | exact ArgTo.mk' rfl (Wk.list _ _) | exact ArgTo.mk' rfl (Wk.agg (by (repeat' (first | exact Wks.nil | refine Wks.cons ?_ ?_ | exact Wk.refl _ | exact Wk.nilm | exact Wk.list _ _  | exact Wk.natN rfl | refine Wk.agg ?_))))))) (loadK ok ho) rfl rfl (by (repeat' (first | exact trivial | exact rfl | refine And.intro ?_ ?_))) (by (repeat' (first | exact trivial | exact rfl | refine And.intro ?_ ?_))) (by (repeat' (first | exact trivial | exact rfl | refine And.intro ?_ ?_))) rfl rfl ?_
            (conv => whnf)
            ((try ((refine split_intro (fun h => absurd h (by simp)) (fun _ => ?_)); (conv => whnf))); (refine ⟨_, add64 (c := (((k + 1) + 1 : Nat) : Int)) (by (try simp only []); omega) (by omega), ?_⟩); ((conv => whnf)); (refine ⟨_, slTake (f := Oe) (l := l) (b := (k + 1) + 1) (r := l.take ((k + 1) + 1)) rfl (by omega) (fun _ => rfl) rfl, ?_⟩); ((conv => whnf)); (refine CallLeaf.o [1536, 3616] (by (repeat' (first | exact ArgsTo.nil | refine ArgsTo.cons ?_ ?_ | exact ArgTo.mk' rfl (Wk.refl _) | exact ArgTo.mk' rfl Wk.nilm | exact ArgTo.mk' rfl (Wk.int (by simp)) | exact ArgTo.mk' rfl (Wk.list _ _) | exact ArgTo.mk' rfl (Wk.agg (by (repeat' (first | exact Wks.nil | refine Wks.cons ?_ ?_ | exact Wk.refl _ | exact Wk.nilm | exact Wk.list _ _  | exact Wk.natN rfl | refine Wk.agg ?_))))))) (tunits_ ((k + 1) + 1) (Sy.build (Us (l.take ((k + 1) + 1))))) rfl rfl (by (repeat' (first | exact trivial | exact rfl | refine And.intro ?_ ?_))) (by (repeat' (first | exact trivial | exact rfl | refine And.intro ?_ ?_))) (by (repeat' (first | exact trivial | exact rfl | refine And.intro ?_ ?_))) rfl rfl ?_); ((conv => whnf)); (refine ⟨_, add64 (c := (((k + 1) + 1 : Nat) : Int)) (by (try simp only []); omega) (by omega), ?_⟩); ((conv => whnf)))
            ((try ((refine split_intro (fun h => absurd h (by simp)) (fun _ => ?_)); (conv => whnf))); (refine CallLeaf.o [1536, 3616] (by (repeat' (first | exact ArgsTo.nil | refine ArgsTo.cons ?_ ?_ | exact ArgTo.mk' rfl (Wk.refl _) | exact ArgTo.mk' rfl Wk.nilm | exact ArgTo.mk' rfl (Wk.int (by simp)) | exact ArgTo.mk' rfl (Wk.list _ _) | exact ArgTo.mk' rfl (Wk.agg (by (repeat' (first | exact Wks.nil | refine Wks.cons ?_ ?_ | exact Wk.refl _ | exact Wk.nilm | exact Wk.list _ _  | exact Wk.natN rfl | refine Wk.agg ?_))))))) (stateK ok ((k + 1) + 1) name) rfl rfl (by (repeat' (first | exact trivial | exact rfl | refine And.intro ?_ ?_))) (by (repeat' (first | exact trivial | exact rfl | refine And.intro ?_ ?_))) (by (repeat' (first | exact trivial | exact rfl | refine And.intro ?_ ?_))) rfl rfl ?_); ((conv => whnf)); (refine CallLeaf.w (by (repeat' (first | exact ArgsTo.nil | refine ArgsTo.cons ?_ ?_ | exact ArgTo.mk' rfl (Wk.refl _) | exact ArgTo.mk' rfl Wk.nilm | exact ArgTo.mk' rfl (Wk.int (by simp)) | exact ArgTo.mk' rfl (Wk.list _ _) | exact ArgTo.mk' rfl (Wk.agg (by (repeat' (first | exact Wks.nil | refine Wks.cons ?_ ?_ | exact Wk.refl _ | exact Wk.nilm | exact Wk.list _ _  | exact Wk.natN rfl | refine Wk.agg ?_))))))) (state_ (all (Sy.of (Us (l.take ((k + 1) + 1))) name))) rfl ?_); ((conv => whnf)); (refine CallLeaf.w (by (repeat' (first | exact ArgsTo.nil | refine ArgsTo.cons ?_ ?_ | exact ArgTo.mk' rfl (Wk.refl _) | exact ArgTo.mk' rfl Wk.nilm | exact ArgTo.mk' rfl (Wk.int (by simp)) | exact ArgTo.mk' rfl (Wk.list _ _) | exact ArgTo.mk' rfl (Wk.agg (by (repeat' (first | exact Wks.nil | refine Wks.cons ?_ ?_ | exact Wk.refl _ | exact Wk.nilm | exact Wk.list _ _  | exact Wk.natN rfl | refine Wk.agg ?_))))))) (rstate_ (l.take ((k + 1) + 1)) name (ok.take ((k + 1) + 1))) rfl ?_); ((conv => whnf)); (refine CallLeaf.w (by (repeat' (first | exact ArgsTo.nil | refine ArgsTo.cons ?_ ?_ | exact ArgTo.mk' rfl (Wk.refl _) | exact ArgTo.mk' rfl Wk.nilm | exact ArgTo.mk' rfl (Wk.int (by simp)) | exact ArgTo.mk' rfl (Wk.list _ _) | exact ArgTo.mk' rfl (Wk.agg (by (repeat' (first | exact Wks.nil | refine Wks.cons ?_ ?_ | exact Wk.refl _ | exact Wk.nilm | exact Wk.list _ _  | exact Wk.natN rfl | refine Wk.agg ?_))))))) (same_ (all (Sy.of (Us (l.take ((k + 1) + 1))) name)) (all (Sy.of (Us (l.take ((k + 1) + 1))) name))) rfl ?_); ((conv => whnf)); (try ((refine split_intro (fun h => absurd h (by simp)) (fun _ => ?_)); (conv => whnf))))
            ((refine CallLeaf.o [1536, 3616] (by (repeat' (first | exact ArgsTo.nil | refine ArgsTo.cons ?_ ?_ | exact ArgTo.mk' rfl (Wk.refl _) | exact ArgTo.mk' rfl Wk.nilm | exact ArgTo.mk' rfl (Wk.int (by simp)) | exact ArgTo.mk' rfl (Wk.list _ _) | exact ArgTo.mk' rfl (Wk.agg (by (repeat' (first | exact Wks.nil | refine Wks.cons ?_ ?_ | exact Wk.refl _ | exact Wk.nilm | exact Wk.list _ _  | exact Wk.natN rfl | refine Wk.agg ?_))))))) (wantedK ok ((k + 1) + 1)) rfl rfl (by (repeat' (first | exact trivial | exact rfl | refine And.intro ?_ ?_))) (by (repeat' (first | exact trivial | exact rfl | refine And.intro ?_ ?_))) (by (repeat' (first | exact trivial | exact rfl | refine And.intro ?_ ?_))) rfl rfl ?_); ((conv => whnf)); (refine CallLeaf.w (by (repeat' (first | exact ArgsTo.nil | refine ArgsTo.cons ?_ ?_ | exact ArgTo.mk' rfl (Wk.refl _) | exact ArgTo.mk' rfl Wk.nilm | exact ArgTo.mk' rfl (Wk.int (by simp)) | exact ArgTo.mk' rfl (Wk.list _ _) | exact ArgTo.mk' rfl (Wk.agg (by (repeat' (first | exact Wks.nil | refine Wks.cons ?_ ?_ | exact Wk.refl _ | exact Wk.nilm | exact Wk.list _ _  | exact Wk.natN rfl | refine Wk.agg ?_))))))) (rwanted_ (l.take ((k + 1) + 1)) (ok.take ((k + 1) + 1))) rfl ?_); ((conv => whnf)); (refine CallLeaf.w (by (repeat' (first | exact ArgsTo.nil | refine ArgsTo.cons ?_ ?_ | exact ArgTo.mk' rfl (Wk.refl _) | exact ArgTo.mk' rfl Wk.nilm | exact ArgTo.mk' rfl (Wk.int (by simp)) | exact ArgTo.mk' rfl (Wk.list _ _) | exact ArgTo.mk' rfl (Wk.agg (by (repeat' (first | exact Wks.nil | refine Wks.cons ?_ ?_ | exact Wk.refl _ | exact Wk.nilm | exact Wk.list _ _  | exact Wk.natN rfl | refine Wk.agg ?_))))))) (texts_ (wantedL (Us (l.take ((k + 1) + 1)))) (wantedL (Us (l.take ((k + 1) + 1))))) rfl ?_); ((conv => whnf)); (try ((refine split_intro (fun h => absurd h (by simp)) (fun _ => ?_)); (conv => whnf))); (refine ⟨_, add64 (c := (((k + 1) + 1 : Nat) : Int)) (by (try simp only []); omega) (by omega), ?_⟩); ((conv => whnf)))
            (refine ⟨(k + 1) + 1, ⟨by omega, by simp only []; omega⟩, ?_⟩; (repeat' (first | exact trivial | exact Wk.refl _ | exact ObWk.refl _ | exact rfl | exact ⟨_, rfl⟩ | exact Nat.zero_lt_one | refine And.intro ?_ ?_ | unfold okTo | (unfold okO; conv => whnf) | (unfold okS; conv => whnf) | (unfold SlotOk; conv => whnf) | (unfold ObjOk; conv => whnf) | (unfold okCells; conv => whnf) | (unfold liveTo; conv => whnf) | exact Nat.zero_lt_succ _)))
          · have hge : l.length ≤ k + 1 := by have := of_decide_eq_false h; simp at this; omega
            have e : l.take (k + 1) = l := List.take_of_length_le hge
            have B1 := namesK ok (k + 1)
            have B2 := resK ok (k + 1)
            have B3 := rnames_ l ok
            have B4 := rres_ l ok
            have B5 := texts_ (Sy.names (Us (l.take (k + 1)))) (Sy.names (Us l))
            have B6 := sameRes_ (resL (Us (l.take (k + 1)))) (resL (Us l))
            (conv => whnf)
            refine CallLeaf.o [1536, 3616] (by (repeat' (first | exact ArgsTo.nil | refine ArgsTo.cons ?_ ?_ | exact ArgTo.mk' rfl (Wk.refl _) | exact ArgTo.mk' rfl Wk.nilm | exact ArgTo.mk' rfl (Wk.int (by simp)) | exact ArgTo.mk' rfl (Wk.list _ _) | exact ArgTo.mk' rfl (Wk.agg (by (repeat' (first | exact Wks.nil | refine Wks.cons ?_ ?_ | exact Wk.refl _ | exact Wk.nilm | exact Wk.list _ _  | exact Wk.natN rfl | refine Wk.agg ?_))))))) (B1) rfl rfl (by (repeat' (first | exact trivial | exact rfl | refine And.intro ?_ ?_))) (by (repeat' (first | exact trivial | exact rfl | refine And.intro ?_ ?_))) (by (repeat' (first | exact trivial | exact rfl | refine And.intro ?_ ?_))) rfl rfl ?_
            (conv => whnf)
            refine CallLeaf.w (by (repeat' (first | exact ArgsTo.nil | refine ArgsTo.cons ?_ ?_ | exact ArgTo.mk' rfl (Wk.refl _) | exact ArgTo.mk' rfl Wk.nilm | exact ArgTo.mk' rfl (Wk.int (by simp)) | exact ArgTo.mk' rfl (Wk.list _ _) | exact ArgTo.mk' rfl (Wk.agg (by (repeat' (first | exact Wks.nil | refine Wks.cons ?_ ?_ | exact Wk.refl _ | exact Wk.nilm | exact Wk.list _ _  | exact Wk.natN rfl | refine Wk.agg ?_))))))) (B3) rfl ?_
            (conv => whnf)
            refine CallLeaf.w (by (repeat' (first | exact ArgsTo.nil | refine ArgsTo.cons ?_ ?_ | exact ArgTo.mk' rfl (Wk.refl _) | exact ArgTo.mk' rfl Wk.nilm | exact ArgTo.mk' rfl (Wk.int (by simp)) | exact ArgTo.mk' rfl (Wk.list _ _) | exact ArgTo.mk' rfl (Wk.agg (by (repeat' (first | exact Wks.nil | refine Wks.cons ?_ ?_ | exact Wk.refl _ | exact Wk.nilm | exact Wk.list _ _  | exact Wk.natN rfl | refine Wk.agg ?_))))))) (B5) rfl ?_
            (conv => whnf)
            refine split_intro (fun _ => ?_) (fun h => absurd h (by simp [e]))
            (conv => whnf)
            refine CallLeaf.o [1536, 3616] (by (repeat' (first | exact ArgsTo.nil | refine ArgsTo.cons ?_ ?_ | exact ArgTo.mk' rfl (Wk.refl _) | exact ArgTo.mk' rfl Wk.nilm | exact ArgTo.mk' rfl (Wk.int (by simp)) | exact ArgTo.mk' rfl (Wk.list _ _) | exact ArgTo.mk' rfl (Wk.agg (by (repeat' (first | exact Wks.nil | refine Wks.cons ?_ ?_ | exact Wk.refl _ | exact Wk.nilm | exact Wk.list _ _  | exact Wk.natN rfl | refine Wk.agg ?_))))))) (B2) rfl rfl (by (repeat' (first | exact trivial | exact rfl | refine And.intro ?_ ?_))) (by (repeat' (first | exact trivial | exact rfl | refine And.intro ?_ ?_))) (by (repeat' (first | exact trivial | exact rfl | refine And.intro ?_ ?_))) rfl rfl ?_
            (conv => whnf)
            refine CallLeaf.w (by (repeat' (first | exact ArgsTo.nil | refine ArgsTo.cons ?_ ?_ | exact ArgTo.mk' rfl (Wk.refl _) | exact ArgTo.mk' rfl Wk.nilm | exact ArgTo.mk' rfl (Wk.int (by simp)) | exact ArgTo.mk' rfl (Wk.list _ _) | exact ArgTo.mk' rfl (Wk.agg (by (repeat' (first | exact Wks.nil | refine Wks.cons ?_ ?_ | exact Wk.refl _ | exact Wk.nilm | exact Wk.list _ _  | exact Wk.natN rfl | refine Wk.agg ?_))))))) (B4) rfl ?_
            (conv => whnf)
            refine CallLeaf.w (by (repeat' (first | exact ArgsTo.nil | refine ArgsTo.cons ?_ ?_ | exact ArgTo.mk' rfl (Wk.refl _) | exact ArgTo.mk' rfl Wk.nilm | exact ArgTo.mk' rfl (Wk.int (by simp)) | exact ArgTo.mk' rfl (Wk.list _ _) | exact ArgTo.mk' rfl (Wk.agg (by (repeat' (first | exact Wks.nil | refine Wks.cons ?_ ?_ | exact Wk.refl _ | exact Wk.nilm | exact Wk.list _ _  | exact Wk.natN rfl | refine Wk.agg ?_))))))) (B6) rfl ?_
            (conv => whnf)
            exact Wk.bool (by simp [e])
end Go.Proofs.YtdlcaoobaejlpaaDoor

/- What the rows of tables share. No condition. -/
set_option linter.unusedVariables false
set_option linter.unusedSimpArgs false
namespace Go.Proofs.YtdlcaoobaejlpaaDoor
open Go Go.AL Go.AL.Bd
open Go.ChangeShapes Go.WideShapes Go.ChangeAt Go.RowKit
set_option maxRecDepth 100000
theorem own : ownKnob Tryd.prog.godebug = none := by kernel_rfl
theorem laidOut : laidOutB Tryd.prog = true := by kernel_rfl
abbrev laidL {H : Type} : List (String × DataW H) := [("arlink/bind.strength", Rows.laid_arlink_bind_strength)]
abbrev doorSteps : Nat := 400
theorem door_met (os : Os) (args : Array Value) : laidMetH Tryd.prog laidL ((World.doorLaid Tryd.prog doorSteps os).forCall (fun _ _ => 0) ⟨#[], args, []⟩).memory :=
  laidMetH_of_parts3 (fuel := 8) (laidMet_of_run' 8 (by kernel_rfl) (by kernel_rfl)) (by kernel_rfl) (by kernel_rfl)
theorem gStrength : Tryd.prog.globalNamed "arlink/bind.strength" = some 0 := by kernel_rfl
theorem tStrength : (Tryd.prog.globals[0]?).map (·.type) = some 104 := by kernel_rfl
theorem globOk {W : World} (h : laidMetH Tryd.prog laidL W) : GlobOk Gl W := by
  rw [MakeChecks.laidMetH_plain _ _ _ (by kernel_rfl)] at h
  have hT := Lib.tabIs_of_head (P := Tryd.prog) (W := W) (name := "arlink/bind.strength") (k := .i64) (zs := [0, 3, 1, 2, 0, 0]) (rest := []) gStrength tStrength Tryd.underlying104 Tryd.underlying3 (by kernel_rfl) (by kernel_rfl) h
  intro g j hj
  by_cases hg : g = 0
  · subst hg
    have hj' : j < 6 := hj
    have hc := hT.cell gStrength j hj'
    rw [cell?_eq] at hc
    refine ⟨_, hc, ?_, ?_⟩
    · have : j = 0 ∨ j = 1 ∨ j = 2 ∨ j = 3 ∨ j = 4 ∨ j = 5 := by omega
      rcases this with rfl | rfl | rfl | rfl | rfl | rfl <;> exact .v _
    · have : j = 0 ∨ j = 1 ∨ j = 2 ∨ j = 3 ∨ j = 4 ∨ j = 5 := by omega
      rcases this with rfl | rfl | rfl | rfl | rfl | rfl <;> rfl
  · exfalso
    have : Gl g = [] := by
      first
        | (simp only [Gl]; done)
        | (simp only [Gl]; split; all_goals first | rfl | simp_all)
        | simp_all [Gl]
    rw [this] at hj; (try simp at hj)

theorem sym_of {n : Nat} {ds : List D} (h : Rd Tryd.prog (n + 2) 56 ds) : ∃ e : Ob.Sym, ds = e.enc := by
  simp only [Rd, Tryd.underlying56, Tryd.underlying3, Tryd.underlying9, RdFs] at h
  obtain ⟨a, b, rfl, ⟨s, _, rfl⟩, a2, b2, rfl, ⟨x, _, rfl⟩, a3, b3, rfl, ⟨y, _, rfl⟩, a4, b4, rfl, ⟨z, _, rfl⟩, rfl⟩ := h
  exact ⟨⟨s, x, y, z⟩, rfl⟩
theorem byte_of {n : Nat} {ds : List D} (h : Rd Tryd.prog (n + 1) 5 ds) : ∃ u : UInt8, ds = byteD u := by
  simp only [Rd, Tryd.underlying5] at h
  obtain ⟨x, hw, rfl⟩ := h
  simp [Lit.wf] at hw
  have h1 : IntKind.u8.min = 0 := rfl
  have h2 : IntKind.u8.max = 255 := rfl
  obtain ⟨m, rfl⟩ := Int.eq_ofNat_of_zero_le (show 0 ≤ x by omega)
  refine ⟨UInt8.ofNat m, ?_⟩
  simp only [byteD, List.cons.injEq, and_true, D.v.injEq, Value.int.injEq, true_and]
  simp; omega
theorem obj_of {n : Nat} {ds : List D} (h : Rd Tryd.prog (n + 5) 34 ds) : ∃ o : Ob.Obj, ds = Oe o := by
  rw [show n + 5 = (n + 4) + 1 from rfl, Rd, Tryd.underlying34] at h
  simp only [RdFs] at h
  obtain ⟨a, b, rfl, h1, a2, b2, rfl, h2, rfl⟩ := h
  obtain ⟨l, rfl⟩ := list_of' (n := n + 3) (f := Ob.Sym.enc) Tryd.underlying31 (fun x => sym_of (n := n + 1)) h1
  obtain ⟨x, rfl⟩ := list_of' (n := n + 3) (f := byteD) Tryd.underlying32 (fun x => byte_of (n := n + 2)) h2
  exact ⟨⟨l, x⟩, rfl⟩
theorem arg_LO {ds : List D} (h : Rd Tryd.prog 8 22 ds) : ∃ l : List Ob.Obj, True ∧ argD Tryd.prog 22 ds = LO l := by
  obtain ⟨l, e⟩ := list_of (f := Oe) Tryd.underlying22 (fun x => obj_of (n := 2)) h
  exact ⟨l, trivial, e⟩
theorem arg_sD {ds : List D} (h : Rd Tryd.prog 8 9 ds) : ∃ s : Str, True ∧ argD Tryd.prog 9 ds = sD s := by
  simp only [Rd, Tryd.underlying9] at h
  obtain ⟨s, _, rfl⟩ := h
  refine ⟨s, trivial, ?_⟩
  simp only [argD, Tryd.underlying9]
theorem arg_u8 {ds : List D} (h : Rd Tryd.prog 8 5 ds) : ∃ n : Nat, n ≤ 255 ∧ argD Tryd.prog 5 ds = .v (.int .u8 (n : Int)) := by
  obtain ⟨x, h1, h2⟩ := arg_u8' (n := 7) Tryd.underlying5 h
  obtain ⟨m, rfl⟩ := Int.eq_ofNat_of_zero_le h1.1
  exact ⟨m, by omega, h2⟩
theorem strs_of {n : Nat} {ds : List D} (h : Rd Tryd.prog (n + 1) 9 ds) : ∃ s : Str, ds = eS s := by
  simp only [Rd, Tryd.underlying9] at h
  obtain ⟨s, hs, rfl⟩ := h
  exact ⟨_, rfl⟩
theorem arg_LS {ds : List D} (h : Rd Tryd.prog 8 45 ds) : ∃ l : List Str, True ∧ argD Tryd.prog 45 ds = LS l := by
  obtain ⟨l, e⟩ := list_of (f := eS) Tryd.underlying45 (fun x => strs_of (n := 6)) h
  exact ⟨l, trivial, e⟩
end Go.Proofs.YtdlcaoobaejlpaaDoor
