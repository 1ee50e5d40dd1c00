/- Results of tables that may be written. No condition. -/
import Derived.Test.YtdlcaoobaejlpaaDoorSyb
import Derived.Test.YtdlcaoobaejlpaaDoorAop
import Derived.Test.YtdlcaoobaejlpaaDoorSyc
import Derived.Test.YtdlcaoobaejlpaaDoorRows
import Derived.Test.YtdlcaoobaejlpaaDoorCards
import Derived.Test.YtdlcaoobaejlpaaDoorTie
import Derived.SevenTiedAt
set_option linter.unusedVariables false
set_option linter.unusedSimpArgs false
namespace Go.Proofs.YtdlcaoobaejlpaaDoor.A
open Go Go.AL Go.AL.Bd
set_option maxRecDepth 100000
set_option maxHeartbeats 4000000
abbrev Tq (n : Nat) (T : Sy.Tb) : List AObj := [.cells [vI n, .map 1], .map (Sy.entsA T)]
abbrev Kq (T : Sy.Tb) : List AObj := [.cells [.map 1], .map (Sy.entsA T)]
theorem sorted_run (U : List Use) (hU : ∀ u ∈ U, u.sym.name.length ≤ 1000000) (hl : U.length ≤ 1000000) :
    ∀ E (w : World) vs, Core Gl E w.heap (sto (Kq (Sy.build U))) (Kq (Sy.build U)).length → VRs E w.heap (sto (Kq (Sy.build U))) [kF] vs →
      Calls Tryd.prog 40 vs.toArray w fun e w' => ∃ (v : Value) (t : TypeId), e = .returned v ∧ w'.ownsRow w.heap.size t 1 v (Sy.names U).length ((Sy.names U).map encStr) ∧ RowKit.Below w.heap.size w w' := by
  intro E w vs C hv
  have h0 : OR E w.heap (sto (Kq (Sy.build U))) 0 (.cells [.map 1]) := C.objs 0
  have h1 : OR E w.heap (sto (Kq (Sy.build U))) 1 (.map (Sy.entsA (Sy.build U))) := C.objs 1
  obtain ⟨us, e, hb0, hv0, _⟩ := h0
  obtain ⟨ents, clk, hb1, ⟨hsz, hst⟩, hev, _⟩ := h1
  have hus : us = #[.map (some (E.φ 1))] := by
    have hl0 := hv0.1
    have hx := hv0.2 0 (by simp) (by rw [hl0]; simp)
    simp only [List.getElem_cons_zero] at hx
    have := hx.map_inv.1
    match hh : us.toList, hl0 with
    | [y], _ =>
      simp only [hh, List.getElem_cons_zero] at this
      apply Array.ext'
      rw [hh, this]
  have hvs : vs = [.func (.func 55) #[] #[.pointer (some ⟨E.φ 0, 0, none⟩)]] := by
    have hl0 := hv.1
    match vs, hl0 with
    | [y], _ =>
      have hx := hv.2 0 (by simp) (by simp)
      simp only [List.getElem_cons_zero] at hx
      cases hx with
      | func fn fs cs us' vs' l1 l2 g1 g2 =>
        have e1 : us' = [] := List.eq_nil_of_length_eq_zero (by simpa using l1)
        subst e1
        match vs', l2 with
        | [z], _ =>
          have hz := g2 0 (by simp) (by simp)
          simp only [List.getElem_cons_zero] at hz
          rw [hz.ptr_inv.1]
  have hkl := Sy.keys_len U
  have hcl : (Sy.entsA (Sy.build U)).length = (Sy.keys (Sy.build U)).length := by simp [Sy.entsA, Sy.keys]
  have hnm : ∀ s ∈ Sy.keys (Sy.build U), s.length ≤ maxLen := by
    intro s hs
    have := (Sy.mem_keys_names s U).1 hs
    rw [Sy.mem_names] at this
    obtain ⟨u, hu⟩ := List.exists_mem_of_ne_nil _ this
    have h2 := List.mem_filter.1 hu
    have h3 := of_decide_eq_true h2.2
    have := hU u h2.1
    rw [h3] at this
    unfold maxLen; omega
  obtain ⟨D0, o1, o2, o3⟩ := map_owns (P := Tryd.prog) (k := 9) Tryd.underlying9 hb1 hst (Sy.keys (Sy.build U)) (by rw [hsz, hcl]) (fun i hi hi' => by
    have h2 := (hev i (by rw [← hsz]; exact hi) hi).1
    rw [h2]; simp [Sy.entsA, Sy.keys]) hnm (by unfold maxLen; omega)
  subst hvs
  have hbm : w.cell? ⟨E.φ 0, 0, none⟩ = some (.map (some (E.φ 1))) := by
    rw [cell?_eq]; simp [cellH, hb0, hus]
  refine (sorted_at (E.φ 0) (E.φ 1) _ D0 RN w (lt_of_get hb0) hbm o1 (by rw [o3]; unfold maxLen; omega) (by rw [o3]; omega)).mono fun e w' ⟨v, ss, he, hp, hr, _, hbl⟩ => ?_
  have hs := Sy.sort_names (hp.trans o2)
  have hlen : ss.length = (Sy.names U).length := by rw [← hs]; simp
  rw [hs, hlen] at hr
  exact ⟨v, _, he, hr, hbl⟩
theorem sortedL_ (U : List Use) (hU : ∀ u ∈ U, u.sym.name.length ≤ 1000000) (hl : U.length ≤ 1000000) :
    FCall Tryd.prog Gl 40 [kF] (Kq (Sy.build U)) (LSn (Sy.names U)) (Kq (Sy.build U)) :=
  FCall.rowL isSorted (by have := names_len U; omega) (sorted_run U hU hl)
theorem keys_ (T : Sy.Tb) : FCall Tryd.prog Gl 41 [.map 0] [.map (Sy.entsA T)] (.func (.func 55) [] [.ptr 1 0]) [.map (Sy.entsA T), .cells [.map 0]] := by
  refine FCall.enterO hT hmix [] Tryd.func41 rfl rfl rfl fun hbd => ?_
  (conv => whnf)
  refine ⟨[0, 1], rfl, by (try unfold pullOk); (repeat' (first | exact trivial | exact ObWk.refl _ | refine And.intro ?_ ?_ | unfold pullOk)), ?_⟩
  exact Wk.refl _
theorem tnames_ (U : List Use) (n : Nat) (hU : ∀ u ∈ U, u.sym.name.length ≤ 1000000) (hl : U.length ≤ 1000000) :
    FCall Tryd.prog Gl 20 [.ptr 0 0] (Tq n (Sy.build U)) (LSn (Sy.names U)) (Tq n (Sy.build U)) := by
  refine FCall.enterO hT hmix [] Tryd.func20 rfl rfl rfl fun hbd => ?_
  (conv => whnf)
  refine CallLeaf.o [1, 1570] (by (repeat' (first | exact ArgsTo.nil | refine ArgsTo.cons ?_ ?_ | exact ArgTo.mk' rfl (Wk.refl _) | exact ArgTo.mk' rfl Wk.nilm | exact ArgTo.mk' rfl (Wk.int (by simp)) | exact ArgTo.mk' rfl (Wk.list _ _) | exact ArgTo.mk' rfl (Wk.agg (by (repeat' (first | exact Wks.nil | refine Wks.cons ?_ ?_ | exact Wk.refl _ | exact Wk.nilm | exact Wk.list _ _  | exact Wk.natN rfl | refine Wk.agg ?_))))))) (keys_ (Sy.build U)) rfl rfl (by (repeat' (first | exact trivial | exact rfl | refine And.intro ?_ ?_))) (by (repeat' (first | exact trivial | exact rfl | refine And.intro ?_ ?_))) (by (repeat' (first | exact trivial | exact rfl | refine And.intro ?_ ?_))) rfl rfl ?_
  (conv => whnf)
  refine CallLeaf.o [1570, 1] (by (repeat' (first | exact ArgsTo.nil | refine ArgsTo.cons ?_ ?_ | exact ArgTo.mk' rfl (Wk.refl _) | exact ArgTo.mk' rfl Wk.nilm | exact ArgTo.mk' rfl (Wk.int (by simp)) | exact ArgTo.mk' rfl (Wk.list _ _) | exact ArgTo.mk' rfl (Wk.agg (by (repeat' (first | exact Wks.nil | refine Wks.cons ?_ ?_ | exact Wk.refl _ | exact Wk.nilm | exact Wk.list _ _  | exact Wk.natN rfl | refine Wk.agg ?_))))))) (sortedL_ U hU hl) rfl rfl (by (repeat' (first | exact trivial | exact rfl | refine And.intro ?_ ?_))) (by (repeat' (first | exact trivial | exact rfl | refine And.intro ?_ ?_))) (by (repeat' (first | exact trivial | exact rfl | refine And.intro ?_ ?_))) rfl rfl ?_
  (conv => whnf)
  refine ⟨[0, 1], rfl, by (try unfold pullOk); (repeat' (first | exact trivial | exact ObWk.refl _ | refine And.intro ?_ ?_ | unfold pullOk)), ?_⟩
  exact Wk.refl _
theorem tstate_ (U : List Use) (n : Nat) (s : Str) (hl : U.length ≤ 1000000) :
    FCall Tryd.prog Gl 15 [.ptr 0 0, sD s] (Tq n (Sy.build U)) (.agg (all (Sy.of U s)).encN) (Tq n (Sy.build U)) := by
  have hget := Sy.tget_build s U
  have h1 := Sy.all_strongs (Sy.of U s)
  have h2 := Sy.of_le U s
  by_cases hS : Sy.of U s = []
  · rw [if_pos hS] at hget
    rw [hS]
    refine FCall.enterO hT hmix [] Tryd.func15 rfl rfl rfl fun hbd => ?_
    (conv => whnf)
    refine ⟨_, ⟨Sy.entsA_keys _, Sy.lookA_none hget _⟩, ?_⟩
    (conv => whnf)
    refine CallLeaf.w (by (repeat' (first | exact ArgsTo.nil | refine ArgsTo.cons ?_ ?_ | exact ArgTo.mk' rfl (Wk.refl _) | exact ArgTo.mk' rfl Wk.nilm | exact ArgTo.mk' rfl (Wk.int (by simp)) | exact ArgTo.mk' rfl (Wk.list _ _) | exact ArgTo.mk' rfl (Wk.agg (by (repeat' (first | exact Wks.nil | refine Wks.cons ?_ ?_ | exact Wk.refl _ | exact Wk.nilm | exact Wk.list _ _  | exact Wk.natN rfl | refine Wk.agg ?_))))))) (empty_) rfl ?_
    (conv => whnf)
    refine ⟨[0, 1], rfl, by (try unfold pullOk); (repeat' (first | exact trivial | exact ObWk.refl _ | refine And.intro ?_ ?_ | unfold pullOk)), ?_⟩
    exact Wk.refl _
  · rw [if_neg hS] at hget
    refine FCall.enterO hT hmix [] Tryd.func15 rfl rfl rfl fun hbd => ?_
    (conv => whnf)
    refine ⟨_, ⟨Sy.entsA_keys _, Sy.lookA_some hget _⟩, ?_⟩
    (conv => whnf)
    refine CallLeaf.w (by (repeat' (first | exact ArgsTo.nil | refine ArgsTo.cons ?_ ?_ | exact ArgTo.mk' rfl (Wk.refl _) | exact ArgTo.mk' rfl Wk.nilm | exact ArgTo.mk' rfl (Wk.int (by simp)) | exact ArgTo.mk' rfl (Wk.list _ _) | exact ArgTo.mk' rfl (Wk.agg (by (repeat' (first | exact Wks.nil | refine Wks.cons ?_ ?_ | exact Wk.refl _ | exact Wk.nilm | exact Wk.list _ _  | exact Wk.natN rfl | refine Wk.agg ?_))))))) (cloneI_ (all (Sy.of U s)).strongs (by omega)) rfl ?_
    (conv => whnf)
    refine ⟨[0, 1], rfl, by (try unfold pullOk); (repeat' (first | exact trivial | exact ObWk.refl _ | refine And.intro ?_ ?_ | unfold pullOk)), ?_⟩
    exact Wk.refl _
theorem tres_ (U : List Use) (n : Nat) (hU : ∀ u ∈ U, u.sym.name.length ≤ 1000000) (hl : U.length ≤ 1000000) :
    FCall Tryd.prog Gl 23 [.ptr 0 0] (Tq n (Sy.build U)) (LRn (resL U)) (Tq n (Sy.build U)) := by
  have hnl := names_len U
  refine FCall.enterO hT hmix [] Tryd.func23 rfl rfl rfl fun hbd => ?_
  (conv => whnf)
  refine CallLeaf.o [0, 1] (by (repeat' (first | exact ArgsTo.nil | refine ArgsTo.cons ?_ ?_ | exact ArgTo.mk' rfl (Wk.refl _) | exact ArgTo.mk' rfl Wk.nilm | exact ArgTo.mk' rfl (Wk.int (by simp)) | exact ArgTo.mk' rfl (Wk.list _ _) | exact ArgTo.mk' rfl (Wk.agg (by (repeat' (first | exact Wks.nil | refine Wks.cons ?_ ?_ | exact Wk.refl _ | exact Wk.nilm | exact Wk.list _ _  | exact Wk.natN rfl | refine Wk.agg ?_))))))) (tnames_ U n hU hl) rfl rfl (by (repeat' (first | exact trivial | exact rfl | refine And.intro ?_ ?_))) (by (repeat' (first | exact trivial | exact rfl | refine And.intro ?_ ?_))) (by (repeat' (first | exact trivial | exact rfl | refine And.intro ?_ ?_))) rfl rfl ?_
  (conv => whnf)
  refine LWp.loop hT hmix [] (fun k : Nat => [(11, vI k), (3, .list (.tok 403) ((((Sy.names U).take k).map fun n => resv (all (Sy.of U n)) n).map Res.enc))]) (fun k => [(403, .tok ((((Sy.names U).take k).map fun n => resv (all (Sy.of U n)) n).map Res.enc).length 5)]) (fun k => k ≤ (Sy.names U).length) (fun k => (Sy.names U).length - k) 0 (Nat.zero_le _) ?_
  (conv => whnf)
  refine ⟨?_, fun k hk => ?_⟩
  · (repeat' (first | exact trivial | exact Wk.refl _ | exact ObWk.refl _ | exact rfl | exact ⟨_, rfl⟩ | exact Nat.zero_lt_one | refine And.intro ?_ ?_ | unfold okTo | (unfold okO; conv => whnf) | (unfold okS; conv => whnf) | (unfold SlotOk; conv => whnf) | (unfold ObjOk; conv => whnf) | (unfold okCells; conv => whnf) | (unfold liveTo; conv => whnf) | exact Nat.zero_lt_succ _))
  · (conv => whnf)
    refine split_intro (fun h => ?_) (fun h => ?_)
    · have hlt : k < (Sy.names U).length := by have := of_decide_eq_true h; simp at this; omega
      obtain ⟨s, hs⟩ := exI hlt
      have hg : Sy.tget (Sy.build U) s = some (all (Sy.of U s)) := by rw [Sy.tget_build, if_neg ((Sy.mem_names s U).1 (List.mem_of_getElem? hs))]
      (conv => whnf)
      refine ⟨_, ⟨by omega, getMap hs⟩, ?_⟩
      (conv => whnf)
      refine ⟨_, ⟨Sy.entsA_keys _, Sy.lookA1 hg _⟩, ?_⟩
      (conv => whnf)
      refine split_intro (fun h1 => ?_) (fun h1 => ?_)
      · have h1' : (all (Sy.of U s)).bind = 0 := eq_of_beq h1
        (conv => whnf)
        refine split_intro (fun h2 => ?_) (fun h2 => ?_)
        · have h2' : (all (Sy.of U s)).sref = true := h2
          (conv => whnf)
          refine ⟨_, appL (f := Res.enc) (xs := ((Sy.names U).take k).map fun n => resv (all (Sy.of U n)) n) (ys := [⟨s, 4, (all (Sy.of U s)).size, (all (Sy.of U s)).align, (all (Sy.of U s)).unit⟩]) (zs := ((Sy.names U).take (k + 1)).map fun n => resv (all (Sy.of U n)) n) (by simp) rfl (fun _ => rfl) (resL_snoc (U := U) (f := fun n => resv (all (Sy.of U n)) n) _ hs (by simp [resv, h1', h2'])) (by rw [List.length_map, List.length_take]; show _ * 48 ≤ _; omega), ?_⟩
          (conv => whnf)
          refine ⟨_, add64 (c := ((k + 1 : Nat) : Int)) (by (try simp only []); omega) (by omega), ?_⟩
          (conv => whnf)
          (refine ⟨k + 1, ⟨by omega, by simp only []; omega⟩, ?_⟩; (repeat' (first | exact trivial | exact Wk.refl _ | exact ObWk.refl _ | exact rfl | exact ⟨_, rfl⟩ | exact Nat.zero_lt_one | refine And.intro ?_ ?_ | unfold okTo | (unfold okO; conv => whnf) | (unfold okS; conv => whnf) | (unfold SlotOk; conv => whnf) | (unfold ObjOk; conv => whnf) | (unfold okCells; conv => whnf) | (unfold liveTo; conv => whnf) | exact Nat.zero_lt_succ _)))
        · have h2' : (all (Sy.of U s)).sref = false := h2
          (conv => whnf)
          refine split_intro (fun _ => ?_) (fun h => absurd h (by rw [h1]; simp))
          (conv => whnf)
          refine ⟨_, appL (f := Res.enc) (xs := ((Sy.names U).take k).map fun n => resv (all (Sy.of U n)) n) (ys := [⟨s, 5, (all (Sy.of U s)).size, (all (Sy.of U s)).align, (all (Sy.of U s)).unit⟩]) (zs := ((Sy.names U).take (k + 1)).map fun n => resv (all (Sy.of U n)) n) (by simp) rfl (fun _ => rfl) (resL_snoc (U := U) (f := fun n => resv (all (Sy.of U n)) n) _ hs (by simp [resv, h1', h2'])) (by rw [List.length_map, List.length_take]; show _ * 48 ≤ _; omega), ?_⟩
          (conv => whnf)
          refine ⟨_, add64 (c := ((k + 1 : Nat) : Int)) (by (try simp only []); omega) (by omega), ?_⟩
          (conv => whnf)
          (refine ⟨k + 1, ⟨by omega, by simp only []; omega⟩, ?_⟩; (repeat' (first | exact trivial | exact Wk.refl _ | exact ObWk.refl _ | exact rfl | exact ⟨_, rfl⟩ | exact Nat.zero_lt_one | refine And.intro ?_ ?_ | unfold okTo | (unfold okO; conv => whnf) | (unfold okS; conv => whnf) | (unfold SlotOk; conv => whnf) | (unfold ObjOk; conv => whnf) | (unfold okCells; conv => whnf) | (unfold liveTo; conv => whnf) | exact Nat.zero_lt_succ _)))
      · have h1' : ¬ (all (Sy.of U s)).bind = 0 := by simpa using h1
        (conv => whnf)
        refine split_intro (fun h => absurd h (by rw [h1]; simp)) (fun _ => ?_)
        (conv => whnf)
        refine ⟨_, appL (f := Res.enc) (xs := ((Sy.names U).take k).map fun n => resv (all (Sy.of U n)) n) (ys := [⟨s, (all (Sy.of U s)).bind, (all (Sy.of U s)).size, (all (Sy.of U s)).align, (all (Sy.of U s)).unit⟩]) (zs := ((Sy.names U).take (k + 1)).map fun n => resv (all (Sy.of U n)) n) (by simp) rfl (fun _ => rfl) (resL_snoc (U := U) (f := fun n => resv (all (Sy.of U n)) n) _ hs (by simp [resv, h1'])) (by rw [List.length_map, List.length_take]; show _ * 48 ≤ _; omega), ?_⟩
        (conv => whnf)
        refine ⟨_, add64 (c := ((k + 1 : Nat) : Int)) (by (try simp only []); omega) (by omega), ?_⟩
        (conv => whnf)
        (refine ⟨k + 1, ⟨by omega, by simp only []; omega⟩, ?_⟩; (repeat' (first | exact trivial | exact Wk.refl _ | exact ObWk.refl _ | exact rfl | exact ⟨_, rfl⟩ | exact Nat.zero_lt_one | refine And.intro ?_ ?_ | unfold okTo | (unfold okO; conv => whnf) | (unfold okS; conv => whnf) | (unfold SlotOk; conv => whnf) | (unfold ObjOk; conv => whnf) | (unfold okCells; conv => whnf) | (unfold liveTo; conv => whnf) | exact Nat.zero_lt_succ _)))
    · have hge : (Sy.names U).length ≤ k := by have := of_decide_eq_false h; simp at this; omega
      (conv => whnf)
      refine ⟨[0, 1], rfl, by (try unfold pullOk); (repeat' (first | exact trivial | exact ObWk.refl _ | refine And.intro ?_ ?_ | unfold pullOk)), ?_⟩
      refine Wk.nat' ?_
      rw [List.take_of_length_le hge]
      rfl
end Go.Proofs.YtdlcaoobaejlpaaDoor.A
namespace Go.Proofs.YtdlcaoobaejlpaaDoor
open Go Go.AL Go.AL.Bd
set_option maxRecDepth 100000
set_option maxHeartbeats 4000000
abbrev eW (x : Int) : List D := [.sq (.int .i64)]
abbrev encS (s : State) : List D := [vI s.bind, vI s.size, vI s.align, vI s.unit, vB s.defd, vB s.sref, vB s.wref, .slist (s.strongs.map eW)]
abbrev resW (r : Res) : List D := [.sq .str, .sq (.int .i64), .sq (.int .i64), .sq (.int .i64), .sq (.int .i64)]
abbrev strW (s : Str) : List D := [.sq .str]
theorem al_Gl (g : Nat) : Al (.ro (Gl g)) := by
  refine .ro _ ?_
  simp only [Gl]
  split
  · (repeat' (first | exact Al.v _ | exact Al.nil | exact Al.junk | refine Al.map _ (fun _ => ?_) | refine Al.agg _ ?_ | refine Al.tuple _ ?_ | refine Al.cons ?_ ?_ | exact Al.none'))
  · (repeat' (first | exact Al.v _ | exact Al.nil | exact Al.junk | refine Al.map _ (fun _ => ?_) | refine Al.agg _ ?_ | refine Al.tuple _ ?_ | refine Al.cons ?_ ?_ | exact Al.none'))
theorem th_state (s : State) : Th false (.agg s.encN) (.agg (encS s)) := by (repeat' (first | exact ThL.nil | refine ThL.cons ?_ ?_ | exact Th.v _ | exact Th.int _ _ | exact Th.str _ | exact Th.bool _ _ | refine Th.map _ _ (fun _ => ?_) | refine Th.aggL ?_ | refine Th.tupleL ?_ | exact Th.nil _ | exact Th.junk _))
theorem th_res (l : List Res) : Th false (LRn l) (.slist (l.map resW)) := Th.map _ _ (fun r => (ThL.cons (Th.str _) (ThL.cons (Th.int _ _) (ThL.cons (Th.int _ _) (ThL.cons (Th.int _ _) (ThL.cons (Th.int _ _) ThL.nil)))) : ThL _ r.enc (resW r)))
theorem th_strs (l : List Str) : Th false (LSn l) (.slist (l.map strW)) := Th.map _ _ (fun r => (ThL.cons (Th.str _) ThL.nil : ThL _ (eS r) (strW r)))
theorem aoT (n : Nat) (T : Sy.Tb) : AoS (Tq n T) (A.Tq n T) := .cons (.cells _ _ (.cons (.v _) (.cons (.map 1) .nil))) (.cons (Sy.ao_ents T) .nil)
theorem aoZ : AoS Tz Tz := .cons (.cells _ _ (.cons (.v _) (.cons (.v _) .nil))) .nil
theorem tstateW_ (U : List Use) (n : Nat) (s : Str) (hl : U.length ≤ 1000000) :
    FCall Tryd.prog Gl 15 [.ptr 0 0, sD s] (Tq n (Sy.build U)) (.agg (encS (all (Sy.of U s)))) (Tq n (Sy.build U)) :=
  FCall.thawO (A.tstate_ U n s hl) (.cons (.ptr 0 0) (.cons (.v _) .nil)) (aoT _ _) (aoT _ _) al_Gl (th_state _)
theorem tstateZW_ (s : Str) : FCall Tryd.prog Gl 15 [.ptr 0 0, sD s] Tz (.agg (encS empty)) Tz :=
  FCall.thawO (tstateZ_ s) (.cons (.ptr 0 0) (.cons (.v _) .nil)) aoZ aoZ al_Gl (th_state _)
theorem tresW_ (U : List Use) (n : Nat) (hU : ∀ u ∈ U, u.sym.name.length ≤ 1000000) (hl : U.length ≤ 1000000) :
    FCall Tryd.prog Gl 23 [.ptr 0 0] (Tq n (Sy.build U)) (.slist ((resL U).map resW)) (Tq n (Sy.build U)) :=
  FCall.thawO (A.tres_ U n hU hl) (.cons (.ptr 0 0) .nil) (aoT _ _) (aoT _ _) al_Gl (th_res _)
theorem tresZW_ : FCall Tryd.prog Gl 23 [.ptr 0 0] Tz (.slist (([] : List Res).map resW)) Tz :=
  FCall.thawO tresZ_ (.cons (.ptr 0 0) .nil) aoZ aoZ al_Gl (th_res _)
theorem tnamesW_ (U : List Use) (n : Nat) (hU : ∀ u ∈ U, u.sym.name.length ≤ 1000000) (hl : U.length ≤ 1000000) :
    FCall Tryd.prog Gl 20 [.ptr 0 0] (Tq n (Sy.build U)) (.slist ((Sy.names U).map strW)) (Tq n (Sy.build U)) :=
  FCall.thawO (A.tnames_ U n hU hl) (.cons (.ptr 0 0) .nil) (aoT _ _) (aoT _ _) al_Gl (th_strs _)
theorem tnamesZW_ : FCall Tryd.prog Gl 20 [.ptr 0 0] Tz (.slist (([] : List Str).map strW)) Tz :=
  FCall.thawO tnamesZ_ (.cons (.ptr 0 0) .nil) aoZ aoZ al_Gl (th_strs _)
end Go.Proofs.YtdlcaoobaejlpaaDoor

/- SymtabKeeps, walked. No condition. -/
set_option linter.unusedVariables false
set_option linter.unusedSimpArgs false
namespace Go.Proofs.YtdlcaoobaejlpaaDoor
open Go Go.AL Go.AL.Bd
set_option maxRecDepth 100000
set_option maxHeartbeats 4000000
theorem symKeeps_ (l : List Ob.Obj) (name : Str) : FCall Tryd.prog Gl 6 [LO l, sD name] [] (vB true) [] := by
  refine FCall.enterL hT hmix [] Tryd.func6 rfl rfl rfl fun hbd => ?_
  (conv => whnf)
  refine CallLeaf.w (by (repeat' (first | exact ArgsTo.nil | refine ArgsTo.cons ?_ ?_ | exact ArgTo.mk' rfl (Wk.refl _) | exact ArgTo.mk' rfl Wk.nilm | exact ArgTo.mk' rfl (Wk.int (by simp)) | exact ArgTo.mk' rfl (Wk.list _ _) | exact ArgTo.mk' rfl (Wk.agg (by (repeat' (first | exact Wks.nil | refine Wks.cons ?_ ?_ | exact Wk.refl _ | exact Wk.nilm | exact Wk.list _ _  | exact Wk.natN rfl | refine Wk.agg ?_))))))) (awake_) rfl ?_
  (conv => whnf)
  refine CallLeaf.w (by (repeat' (first | exact ArgsTo.nil | refine ArgsTo.cons ?_ ?_ | exact ArgTo.mk' rfl (Wk.refl _) | exact ArgTo.mk' rfl Wk.nilm | exact ArgTo.mk' rfl (Wk.int (by simp)) | exact ArgTo.mk' rfl (Wk.list _ _) | exact ArgTo.mk' rfl (Wk.agg (by (repeat' (first | exact Wks.nil | refine Wks.cons ?_ ?_ | exact Wk.refl _ | exact Wk.nilm | exact Wk.list _ _  | exact Wk.natN rfl | refine Wk.agg ?_))))))) (right_ l) rfl ?_
  (conv => whnf)
  refine split_intro (fun hr => ?_) (fun hr => ?_)
  · (((conv => whnf)); (refine CallLeaf.w (by (repeat' (first | exact ArgsTo.nil | refine ArgsTo.cons ?_ ?_ | exact ArgTo.mk' rfl (Wk.refl _) | exact ArgTo.mk' rfl Wk.nilm | exact ArgTo.mk' rfl (Wk.int (by simp)) | exact ArgTo.mk' rfl (Wk.list _ _) | exact ArgTo.mk' rfl (Wk.agg (by (repeat' (first | exact Wks.nil | refine Wks.cons ?_ ?_ | exact Wk.refl _ | exact Wk.nilm | exact Wk.list _ _  | exact Wk.natN rfl | refine Wk.agg ?_))))))) (awake_) rfl ?_); ((conv => whnf)); exact Wk.refl _)
  · have ok := right_ok (not_f hr)
    have hl := ok.len
    have C1 := rstate_ l name ok
    have C2 := rres_ l ok
    have C3 := rnames_ l ok
    (conv => whnf)
    refine LWp.loop hT hmix [] (fun k : Nat => [(6, vI k)]) (fun k => TK 1536 3616 l k) (fun k => k ≤ l.length) (fun k => l.length - k) 0 (Nat.zero_le _) ?_
    (conv => whnf)
    refine ⟨?_, fun k hk => ?_⟩
    · (repeat' (first | exact trivial | exact Wk.refl _ | exact ObWk.refl _ | exact rfl | exact ⟨_, rfl⟩ | exact Nat.zero_lt_one | refine And.intro ?_ ?_ | unfold okTo | (unfold okO; conv => whnf) | (unfold okS; conv => whnf) | (unfold SlotOk; conv => whnf) | (unfold ObjOk; conv => whnf) | (unfold okCells; conv => whnf) | (unfold liveTo; conv => whnf) | exact Nat.zero_lt_succ _))
    · cases k with
      | zero =>
        (conv => whnf)
        refine split_intro (fun h => ?_) (fun h => ?_)
        · ((have hlt : 0 < l.length := by (have := of_decide_eq_true h; simp at this; omega)); (obtain ⟨o, ho⟩ := exI hlt); ((conv => whnf)); (refine ⟨_, ⟨by omega, getMap ho⟩, ?_⟩); ((conv => whnf)); (refine CallLeaf.o [1536, 3616] (by (repeat' (first | exact ArgsTo.nil | refine ArgsTo.cons ?_ ?_ | exact ArgTo.mk' rfl (Wk.refl _) | exact ArgTo.mk' rfl Wk.nilm | exact ArgTo.mk' rfl (Wk.int (by simp)) | exact ArgTo.mk' rfl (Wk.list _ _) | exact ArgTo.mk' rfl (Wk.agg (by (repeat' (first | exact Wks.nil | refine Wks.cons ?_ ?_ | exact Wk.refl _ | exact Wk.nilm | exact Wk.list _ _  | exact Wk.natN rfl | refine Wk.agg ?_))))))) (load0 ok ho) rfl rfl (by (repeat' (first | exact trivial | exact rfl | refine And.intro ?_ ?_))) (by (repeat' (first | exact trivial | exact rfl | refine And.intro ?_ ?_))) (by (repeat' (first | exact trivial | exact rfl | refine And.intro ?_ ?_))) rfl rfl ?_); ((conv => whnf)); (refine ⟨_, add64 (c := ((0 + 1 : Nat) : Int)) (by (try simp only []); omega) (by omega), ?_⟩); ((conv => whnf)); (refine ⟨0 + 1, ⟨by omega, by simp only []; omega⟩, ?_⟩); ((repeat' (first | exact trivial | exact Wk.refl _ | exact ObWk.refl _ | exact rfl | exact ⟨_, rfl⟩ | exact Nat.zero_lt_one | refine And.intro ?_ ?_ | unfold okTo | (unfold okO; conv => whnf) | (unfold okS; conv => whnf) | (unfold SlotOk; conv => whnf) | (unfold ObjOk; conv => whnf) | (unfold okCells; conv => whnf) | (unfold liveTo; conv => whnf) | exact Nat.zero_lt_succ _))))
        · have h0 : l = [] := by have := of_decide_eq_false h; simpa using this
          subst h0
          have hs0 : (empty).strongs = [] := rfl
          (conv => whnf)
          refine CallLeaf.o [1536] (by (repeat' (first | exact ArgsTo.nil | refine ArgsTo.cons ?_ ?_ | exact ArgTo.mk' rfl (Wk.refl _) | exact ArgTo.mk' rfl Wk.nilm | exact ArgTo.mk' rfl (Wk.int (by simp)) | exact ArgTo.mk' rfl (Wk.list _ _) | exact ArgTo.mk' rfl (Wk.agg (by (repeat' (first | exact Wks.nil | refine Wks.cons ?_ ?_ | exact Wk.refl _ | exact Wk.nilm | exact Wk.list _ _  | exact Wk.natN rfl | refine Wk.agg ?_))))))) (tstateZW_ name) rfl rfl (by (repeat' (first | exact trivial | exact rfl | refine And.intro ?_ ?_))) (by (repeat' (first | exact trivial | exact rfl | refine And.intro ?_ ?_))) (by (repeat' (first | exact trivial | exact rfl | refine And.intro ?_ ?_))) rfl rfl ?_
          (conv => whnf)
          ((refine LWp.loop hT hmix [] (fun q : Nat => [(8, vI q)]) (fun _ => []) (fun q => q = 0) (fun q => 0) 0 rfl ?_); ((conv => whnf)); (refine ⟨by (repeat' (first | exact trivial | exact Wk.refl _ | exact ObWk.refl _ | exact rfl | exact ⟨_, rfl⟩ | exact Nat.zero_lt_one | refine And.intro ?_ ?_ | unfold okTo | (unfold okO; conv => whnf) | (unfold okS; conv => whnf) | (unfold SlotOk; conv => whnf) | (unfold ObjOk; conv => whnf) | (unfold okCells; conv => whnf) | (unfold liveTo; conv => whnf) | exact Nat.zero_lt_succ _)), fun q hq => ?_⟩); (subst hq); ((conv => whnf)))
          refine CallLeaf.o [1536] (by (repeat' (first | exact ArgsTo.nil | refine ArgsTo.cons ?_ ?_ | exact ArgTo.mk' rfl (Wk.refl _) | exact ArgTo.mk' rfl Wk.nilm | exact ArgTo.mk' rfl (Wk.int (by simp)) | exact ArgTo.mk' rfl (Wk.list _ _) | exact ArgTo.mk' rfl (Wk.agg (by (repeat' (first | exact Wks.nil | refine Wks.cons ?_ ?_ | exact Wk.refl _ | exact Wk.nilm | exact Wk.list _ _  | exact Wk.natN rfl | refine Wk.agg ?_))))))) (tresZW_) rfl rfl (by (repeat' (first | exact trivial | exact rfl | refine And.intro ?_ ?_))) (by (repeat' (first | exact trivial | exact rfl | refine And.intro ?_ ?_))) (by (repeat' (first | exact trivial | exact rfl | refine And.intro ?_ ?_))) rfl rfl ?_
          (conv => whnf)
          ((refine LWp.loop hT hmix [] (fun q : Nat => [(10, vI q)]) (fun _ => []) (fun q => q = 0) (fun q => 0) 0 rfl ?_); ((conv => whnf)); (refine ⟨by (repeat' (first | exact trivial | exact Wk.refl _ | exact ObWk.refl _ | exact rfl | exact ⟨_, rfl⟩ | exact Nat.zero_lt_one | refine And.intro ?_ ?_ | unfold okTo | (unfold okO; conv => whnf) | (unfold okS; conv => whnf) | (unfold SlotOk; conv => whnf) | (unfold ObjOk; conv => whnf) | (unfold okCells; conv => whnf) | (unfold liveTo; conv => whnf) | exact Nat.zero_lt_succ _)), fun q hq => ?_⟩); (subst hq); ((conv => whnf)))
          refine CallLeaf.o [1536] (by (repeat' (first | exact ArgsTo.nil | refine ArgsTo.cons ?_ ?_ | exact ArgTo.mk' rfl (Wk.refl _) | exact ArgTo.mk' rfl Wk.nilm | exact ArgTo.mk' rfl (Wk.int (by simp)) | exact ArgTo.mk' rfl (Wk.list _ _) | exact ArgTo.mk' rfl (Wk.agg (by (repeat' (first | exact Wks.nil | refine Wks.cons ?_ ?_ | exact Wk.refl _ | exact Wk.nilm | exact Wk.list _ _  | exact Wk.natN rfl | refine Wk.agg ?_))))))) (tnamesZW_) rfl rfl (by (repeat' (first | exact trivial | exact rfl | refine And.intro ?_ ?_))) (by (repeat' (first | exact trivial | exact rfl | refine And.intro ?_ ?_))) (by (repeat' (first | exact trivial | exact rfl | refine And.intro ?_ ?_))) rfl rfl ?_
          (conv => whnf)
          ((refine LWp.loop hT hmix [] (fun q : Nat => [(12, vI q)]) (fun _ => []) (fun q => q = 0) (fun q => 0) 0 rfl ?_); ((conv => whnf)); (refine ⟨by (repeat' (first | exact trivial | exact Wk.refl _ | exact ObWk.refl _ | exact rfl | exact ⟨_, rfl⟩ | exact Nat.zero_lt_one | refine And.intro ?_ ?_ | unfold okTo | (unfold okO; conv => whnf) | (unfold okS; conv => whnf) | (unfold SlotOk; conv => whnf) | (unfold ObjOk; conv => whnf) | (unfold okCells; conv => whnf) | (unfold liveTo; conv => whnf) | exact Nat.zero_lt_succ _)), fun q hq => ?_⟩); (subst hq); ((conv => whnf)))
          refine CallLeaf.o [1536] (by (repeat' (first | exact ArgsTo.nil | refine ArgsTo.cons ?_ ?_ | exact ArgTo.mk' rfl (Wk.refl _) | exact ArgTo.mk' rfl Wk.nilm | exact ArgTo.mk' rfl (Wk.int (by simp)) | exact ArgTo.mk' rfl (Wk.list _ _) | exact ArgTo.mk' rfl (Wk.agg (by (repeat' (first | exact Wks.nil | refine Wks.cons ?_ ?_ | exact Wk.refl _ | exact Wk.nilm | exact Wk.list _ _  | exact Wk.natN rfl | refine Wk.agg ?_))))))) (tstateZ_ name) rfl rfl (by (repeat' (first | exact trivial | exact rfl | refine And.intro ?_ ?_))) (by (repeat' (first | exact trivial | exact rfl | refine And.intro ?_ ?_))) (by (repeat' (first | exact trivial | exact rfl | refine And.intro ?_ ?_))) rfl rfl ?_
          (conv => whnf)
          refine CallLeaf.w (by (repeat' (first | exact ArgsTo.nil | refine ArgsTo.cons ?_ ?_ | exact ArgTo.mk' rfl (Wk.refl _) | exact ArgTo.mk' rfl Wk.nilm | exact ArgTo.mk' rfl (Wk.int (by simp)) | exact ArgTo.mk' rfl (Wk.list _ _) | exact ArgTo.mk' rfl (Wk.agg (by (repeat' (first | exact Wks.nil | refine Wks.cons ?_ ?_ | exact Wk.refl _ | exact Wk.nilm | exact Wk.list _ _  | exact Wk.natN rfl | refine Wk.agg ?_))))))) (state_ empty) rfl ?_
          (conv => whnf)
          refine CallLeaf.w (by (repeat' (first | exact ArgsTo.nil | refine ArgsTo.cons ?_ ?_ | exact ArgTo.mk' rfl (Wk.refl _) | exact ArgTo.mk' rfl Wk.nilm | exact ArgTo.mk' rfl (Wk.int (by simp)) | exact ArgTo.mk' rfl (Wk.list _ _) | exact ArgTo.mk' rfl (Wk.agg (by (repeat' (first | exact Wks.nil | refine Wks.cons ?_ ?_ | exact Wk.refl _ | exact Wk.nilm | exact Wk.list _ _  | exact Wk.natN rfl | refine Wk.agg ?_))))))) (C1) rfl ?_
          (conv => whnf)
          refine CallLeaf.w (by (repeat' (first | exact ArgsTo.nil | refine ArgsTo.cons ?_ ?_ | exact ArgTo.mk' rfl (Wk.refl _) | exact ArgTo.mk' rfl Wk.nilm | exact ArgTo.mk' rfl (Wk.int (by simp)) | exact ArgTo.mk' rfl (Wk.list _ _) | exact ArgTo.mk' rfl (Wk.agg (by (repeat' (first | exact Wks.nil | refine Wks.cons ?_ ?_ | exact Wk.refl _ | exact Wk.nilm | exact Wk.list _ _  | exact Wk.natN rfl | refine Wk.agg ?_))))))) (same_ empty (all (Sy.of (Us []) name))) rfl ?_
          (conv => whnf)
          refine CallLeaf.o [1536] (by (repeat' (first | exact ArgsTo.nil | refine ArgsTo.cons ?_ ?_ | exact ArgTo.mk' rfl (Wk.refl _) | exact ArgTo.mk' rfl Wk.nilm | exact ArgTo.mk' rfl (Wk.int (by simp)) | exact ArgTo.mk' rfl (Wk.list _ _) | exact ArgTo.mk' rfl (Wk.agg (by (repeat' (first | exact Wks.nil | refine Wks.cons ?_ ?_ | exact Wk.refl _ | exact Wk.nilm | exact Wk.list _ _  | exact Wk.natN rfl | refine Wk.agg ?_))))))) (tresZ_) rfl rfl (by (repeat' (first | exact trivial | exact rfl | refine And.intro ?_ ?_))) (by (repeat' (first | exact trivial | exact rfl | refine And.intro ?_ ?_))) (by (repeat' (first | exact trivial | exact rfl | refine And.intro ?_ ?_))) rfl rfl ?_
          (conv => whnf)
          refine CallLeaf.w (by (repeat' (first | exact ArgsTo.nil | refine ArgsTo.cons ?_ ?_ | exact ArgTo.mk' rfl (Wk.refl _) | exact ArgTo.mk' rfl Wk.nilm | exact ArgTo.mk' rfl (Wk.int (by simp)) | exact ArgTo.mk' rfl (Wk.list _ _) | exact ArgTo.mk' rfl (Wk.agg (by (repeat' (first | exact Wks.nil | refine Wks.cons ?_ ?_ | exact Wk.refl _ | exact Wk.nilm | exact Wk.list _ _  | exact Wk.natN rfl | refine Wk.agg ?_))))))) (C2) rfl ?_
          (conv => whnf)
          refine CallLeaf.w (by (repeat' (first | exact ArgsTo.nil | refine ArgsTo.cons ?_ ?_ | exact ArgTo.mk' rfl (Wk.refl _) | exact ArgTo.mk' rfl Wk.nilm | exact ArgTo.mk' rfl (Wk.int (by simp)) | exact ArgTo.mk' rfl (Wk.list _ _) | exact ArgTo.mk' rfl (Wk.agg (by (repeat' (first | exact Wks.nil | refine Wks.cons ?_ ?_ | exact Wk.refl _ | exact Wk.nilm | exact Wk.list _ _  | exact Wk.natN rfl | refine Wk.agg ?_))))))) (sameRes_ [] (resL (Us []))) rfl ?_
          (conv => whnf)
          refine CallLeaf.o [1536] (by (repeat' (first | exact ArgsTo.nil | refine ArgsTo.cons ?_ ?_ | exact ArgTo.mk' rfl (Wk.refl _) | exact ArgTo.mk' rfl Wk.nilm | exact ArgTo.mk' rfl (Wk.int (by simp)) | exact ArgTo.mk' rfl (Wk.list _ _) | exact ArgTo.mk' rfl (Wk.agg (by (repeat' (first | exact Wks.nil | refine Wks.cons ?_ ?_ | exact Wk.refl _ | exact Wk.nilm | exact Wk.list _ _  | exact Wk.natN rfl | refine Wk.agg ?_))))))) (tnamesZ_) rfl rfl (by (repeat' (first | exact trivial | exact rfl | refine And.intro ?_ ?_))) (by (repeat' (first | exact trivial | exact rfl | refine And.intro ?_ ?_))) (by (repeat' (first | exact trivial | exact rfl | refine And.intro ?_ ?_))) rfl rfl ?_
          (conv => whnf)
          refine CallLeaf.w (by (repeat' (first | exact ArgsTo.nil | refine ArgsTo.cons ?_ ?_ | exact ArgTo.mk' rfl (Wk.refl _) | exact ArgTo.mk' rfl Wk.nilm | exact ArgTo.mk' rfl (Wk.int (by simp)) | exact ArgTo.mk' rfl (Wk.list _ _) | exact ArgTo.mk' rfl (Wk.agg (by (repeat' (first | exact Wks.nil | refine Wks.cons ?_ ?_ | exact Wk.refl _ | exact Wk.nilm | exact Wk.list _ _  | exact Wk.natN rfl | refine Wk.agg ?_))))))) (C3) rfl ?_
          (conv => whnf)
          refine CallLeaf.w (by (repeat' (first | exact ArgsTo.nil | refine ArgsTo.cons ?_ ?_ | exact ArgTo.mk' rfl (Wk.refl _) | exact ArgTo.mk' rfl Wk.nilm | exact ArgTo.mk' rfl (Wk.int (by simp)) | exact ArgTo.mk' rfl (Wk.list _ _) | exact ArgTo.mk' rfl (Wk.agg (by (repeat' (first | exact Wks.nil | refine Wks.cons ?_ ?_ | exact Wk.refl _ | exact Wk.nilm | exact Wk.list _ _  | exact Wk.natN rfl | refine Wk.agg ?_))))))) (texts_ [] (Sy.names (Us []))) rfl ?_
          (conv => whnf)
          exact Wk.refl _
      | succ k =>
        (conv => whnf)
        refine split_intro (fun h => ?_) (fun h => ?_)
        · ((have hlt : k + 1 < l.length := by (have := of_decide_eq_true h; simp at this; omega)); (obtain ⟨o, ho⟩ := exI hlt); ((conv => whnf)); (refine ⟨_, ⟨by omega, getMap ho⟩, ?_⟩); ((conv => whnf)); (refine CallLeaf.o [1536, 3616] (by (repeat' (first | exact ArgsTo.nil | refine ArgsTo.cons ?_ ?_ | exact ArgTo.mk' rfl (Wk.refl _) | exact ArgTo.mk' rfl Wk.nilm | exact ArgTo.mk' rfl (Wk.int (by simp)) | exact ArgTo.mk' rfl (Wk.list _ _) | exact ArgTo.mk' rfl (Wk.agg (by (repeat' (first | exact Wks.nil | refine Wks.cons ?_ ?_ | exact Wk.refl _ | exact Wk.nilm | exact Wk.list _ _  | exact Wk.natN rfl | refine Wk.agg ?_))))))) (loadK ok ho) rfl rfl (by (repeat' (first | exact trivial | exact rfl | refine And.intro ?_ ?_))) (by (repeat' (first | exact trivial | exact rfl | refine And.intro ?_ ?_))) (by (repeat' (first | exact trivial | exact rfl | refine And.intro ?_ ?_))) rfl rfl ?_); ((conv => whnf)); (refine ⟨_, add64 (c := ((k + 1 + 1 : Nat) : Int)) (by (try simp only []); omega) (by omega), ?_⟩); ((conv => whnf)); (refine ⟨k + 1 + 1, ⟨by omega, by simp only []; omega⟩, ?_⟩); ((repeat' (first | exact trivial | exact Wk.refl _ | exact ObWk.refl _ | exact rfl | exact ⟨_, rfl⟩ | exact Nat.zero_lt_one | refine And.intro ?_ ?_ | unfold okTo | (unfold okO; conv => whnf) | (unfold okS; conv => whnf) | (unfold SlotOk; conv => whnf) | (unfold ObjOk; conv => whnf) | (unfold okCells; conv => whnf) | (unfold liveTo; conv => whnf) | exact Nat.zero_lt_succ _))))
        · have hge : l.length ≤ k + 1 := by have := of_decide_eq_false h; simp at this; omega
          have e : l.take (k + 1) = l := List.take_of_length_le hge
          have hul := (ok.take (k + 1)).le
          have hnm := (ok.take (k + 1)).name
          have hnl := names_len (Us (l.take (k + 1)))
          have hsl := Sy.all_strongs (Sy.of (Us (l.take (k + 1))) name)
          have hsl2 := Sy.of_le (Us (l.take (k + 1))) name
          have hrl : (resL (Us (l.take (k + 1)))).length ≤ 240 := by simp only [resL, List.length_map]; omega
          have B1 := tstateW_ (Us (l.take (k + 1))) (k + 1) name (by omega)
          have B2 := tresW_ (Us (l.take (k + 1))) (k + 1) hnm (by omega)
          have B3 := tnamesW_ (Us (l.take (k + 1))) (k + 1) hnm (by omega)
          have B4 := stateK ok (k + 1) name
          have B5 := resK ok (k + 1)
          have B6 := namesK ok (k + 1)
          have D1 := same_ (all (Sy.of (Us (l.take (k + 1))) name)) (all (Sy.of (Us l) name))
          have D2 := sameRes_ (resL (Us (l.take (k + 1)))) (resL (Us l))
          have D3 := texts_ (Sy.names (Us (l.take (k + 1)))) (Sy.names (Us l))
          rw [decide_eq_true (by rw [e])] at D1 D2 D3
          generalize hS : all (Sy.of (Us (l.take (k + 1))) name) = S at B1 B4 hsl D1
          generalize hR : resL (Us (l.take (k + 1))) = R at *
          generalize hN : Sy.names (Us (l.take (k + 1))) = N at *
          (conv => whnf)
          refine CallLeaf.o [1536, 3616] (by (repeat' (first | exact ArgsTo.nil | refine ArgsTo.cons ?_ ?_ | exact ArgTo.mk' rfl (Wk.refl _) | exact ArgTo.mk' rfl Wk.nilm | exact ArgTo.mk' rfl (Wk.int (by simp)) | exact ArgTo.mk' rfl (Wk.list _ _) | exact ArgTo.mk' rfl (Wk.agg (by (repeat' (first | exact Wks.nil | refine Wks.cons ?_ ?_ | exact Wk.refl _ | exact Wk.nilm | exact Wk.list _ _  | exact Wk.natN rfl | refine Wk.agg ?_))))))) (B1) rfl rfl (by (repeat' (first | exact trivial | exact rfl | refine And.intro ?_ ?_))) (by (repeat' (first | exact trivial | exact rfl | refine And.intro ?_ ?_))) (by (repeat' (first | exact trivial | exact rfl | refine And.intro ?_ ?_))) rfl rfl ?_
          (conv => whnf)
          ((refine LWp.loop hT hmix [] (fun q : Nat => [(8, vI q)]) (fun _ => []) (fun q => q ≤ (S.strongs).length) (fun q => (S.strongs).length - q) 0 (Nat.zero_le _) ?_); ((conv => whnf)); (refine ⟨by (repeat' (first | exact trivial | exact Wk.refl _ | exact ObWk.refl _ | exact rfl | exact ⟨_, rfl⟩ | exact Nat.zero_lt_one | refine And.intro ?_ ?_ | unfold okTo | (unfold okO; conv => whnf) | (unfold okS; conv => whnf) | (unfold SlotOk; conv => whnf) | (unfold ObjOk; conv => whnf) | (unfold okCells; conv => whnf) | (unfold liveTo; conv => whnf) | exact Nat.zero_lt_succ _)), fun q hq => ?_⟩); ((conv => whnf)); (refine split_intro (fun g => by ((have hlt : q < (S.strongs).length := by (have := of_decide_eq_true g; rw [List.length_map] at this; omega)); (obtain ⟨x, hx⟩ := exI hlt); ((conv => whnf)); (refine ⟨_, ⟨by omega, getMap hx⟩, ?_⟩); ((conv => whnf)); (refine ⟨_, add64 (c := ((q + 1 : Nat) : Int)) (by (try simp only []); omega) (by omega), ?_⟩); ((conv => whnf)); (refine ⟨q + 1, ⟨by omega, by simp only []; omega⟩, ?_⟩); ((repeat' (first | exact trivial | exact Wk.refl _ | exact ObWk.refl _ | exact rfl | exact ⟨_, rfl⟩ | exact Nat.zero_lt_one | refine And.intro ?_ ?_ | unfold okTo | (unfold okO; conv => whnf) | (unfold okS; conv => whnf) | (unfold SlotOk; conv => whnf) | (unfold ObjOk; conv => whnf) | (unfold okCells; conv => whnf) | (unfold liveTo; conv => whnf) | exact Nat.zero_lt_succ _))))) (fun g => ?_)); ((conv => whnf)))
          refine CallLeaf.o [1536, 3616] (by (repeat' (first | exact ArgsTo.nil | refine ArgsTo.cons ?_ ?_ | exact ArgTo.mk' rfl (Wk.refl _) | exact ArgTo.mk' rfl Wk.nilm | exact ArgTo.mk' rfl (Wk.int (by simp)) | exact ArgTo.mk' rfl (Wk.list _ _) | exact ArgTo.mk' rfl (Wk.agg (by (repeat' (first | exact Wks.nil | refine Wks.cons ?_ ?_ | exact Wk.refl _ | exact Wk.nilm | exact Wk.list _ _  | exact Wk.natN rfl | refine Wk.agg ?_))))))) (B2) rfl rfl (by (repeat' (first | exact trivial | exact rfl | refine And.intro ?_ ?_))) (by (repeat' (first | exact trivial | exact rfl | refine And.intro ?_ ?_))) (by (repeat' (first | exact trivial | exact rfl | refine And.intro ?_ ?_))) rfl rfl ?_
          (conv => whnf)
          ((refine LWp.loop hT hmix [] (fun q : Nat => [(10, vI q)]) (fun _ => []) (fun q => q ≤ R.length) (fun q => R.length - q) 0 (Nat.zero_le _) ?_); ((conv => whnf)); (refine ⟨by (repeat' (first | exact trivial | exact Wk.refl _ | exact ObWk.refl _ | exact rfl | exact ⟨_, rfl⟩ | exact Nat.zero_lt_one | refine And.intro ?_ ?_ | unfold okTo | (unfold okO; conv => whnf) | (unfold okS; conv => whnf) | (unfold SlotOk; conv => whnf) | (unfold ObjOk; conv => whnf) | (unfold okCells; conv => whnf) | (unfold liveTo; conv => whnf) | exact Nat.zero_lt_succ _)), fun q hq => ?_⟩); ((conv => whnf)); (refine split_intro (fun g => by ((have hlt : q < R.length := by (have := of_decide_eq_true g; rw [List.length_map] at this; omega)); (obtain ⟨x, hx⟩ := exI hlt); ((conv => whnf)); (refine ⟨_, ⟨by omega, getMap hx⟩, ?_⟩); ((conv => whnf)); (refine ⟨_, add64 (c := ((q + 1 : Nat) : Int)) (by (try simp only []); omega) (by omega), ?_⟩); ((conv => whnf)); (refine ⟨q + 1, ⟨by omega, by simp only []; omega⟩, ?_⟩); ((repeat' (first | exact trivial | exact Wk.refl _ | exact ObWk.refl _ | exact rfl | exact ⟨_, rfl⟩ | exact Nat.zero_lt_one | refine And.intro ?_ ?_ | unfold okTo | (unfold okO; conv => whnf) | (unfold okS; conv => whnf) | (unfold SlotOk; conv => whnf) | (unfold ObjOk; conv => whnf) | (unfold okCells; conv => whnf) | (unfold liveTo; conv => whnf) | exact Nat.zero_lt_succ _))))) (fun g => ?_)); ((conv => whnf)))
          refine CallLeaf.o [1536, 3616] (by (repeat' (first | exact ArgsTo.nil | refine ArgsTo.cons ?_ ?_ | exact ArgTo.mk' rfl (Wk.refl _) | exact ArgTo.mk' rfl Wk.nilm | exact ArgTo.mk' rfl (Wk.int (by simp)) | exact ArgTo.mk' rfl (Wk.list _ _) | exact ArgTo.mk' rfl (Wk.agg (by (repeat' (first | exact Wks.nil | refine Wks.cons ?_ ?_ | exact Wk.refl _ | exact Wk.nilm | exact Wk.list _ _  | exact Wk.natN rfl | refine Wk.agg ?_))))))) (B3) rfl rfl (by (repeat' (first | exact trivial | exact rfl | refine And.intro ?_ ?_))) (by (repeat' (first | exact trivial | exact rfl | refine And.intro ?_ ?_))) (by (repeat' (first | exact trivial | exact rfl | refine And.intro ?_ ?_))) rfl rfl ?_
          (conv => whnf)
          ((refine LWp.loop hT hmix [] (fun q : Nat => [(12, vI q)]) (fun _ => []) (fun q => q ≤ N.length) (fun q => N.length - q) 0 (Nat.zero_le _) ?_); ((conv => whnf)); (refine ⟨by (repeat' (first | exact trivial | exact Wk.refl _ | exact ObWk.refl _ | exact rfl | exact ⟨_, rfl⟩ | exact Nat.zero_lt_one | refine And.intro ?_ ?_ | unfold okTo | (unfold okO; conv => whnf) | (unfold okS; conv => whnf) | (unfold SlotOk; conv => whnf) | (unfold ObjOk; conv => whnf) | (unfold okCells; conv => whnf) | (unfold liveTo; conv => whnf) | exact Nat.zero_lt_succ _)), fun q hq => ?_⟩); ((conv => whnf)); (refine split_intro (fun g => by ((have hlt : q < N.length := by (have := of_decide_eq_true g; rw [List.length_map] at this; omega)); (obtain ⟨x, hx⟩ := exI hlt); ((conv => whnf)); (refine ⟨_, ⟨by omega, getMap hx⟩, ?_⟩); ((conv => whnf)); (refine ⟨_, add64 (c := ((q + 1 : Nat) : Int)) (by (try simp only []); omega) (by omega), ?_⟩); ((conv => whnf)); (refine ⟨q + 1, ⟨by omega, by simp only []; omega⟩, ?_⟩); ((repeat' (first | exact trivial | exact Wk.refl _ | exact ObWk.refl _ | exact rfl | exact ⟨_, rfl⟩ | exact Nat.zero_lt_one | refine And.intro ?_ ?_ | unfold okTo | (unfold okO; conv => whnf) | (unfold okS; conv => whnf) | (unfold SlotOk; conv => whnf) | (unfold ObjOk; conv => whnf) | (unfold okCells; conv => whnf) | (unfold liveTo; conv => whnf) | exact Nat.zero_lt_succ _))))) (fun g => ?_)); ((conv => whnf)))
          refine CallLeaf.o [1536, 3616] (by (repeat' (first | exact ArgsTo.nil | refine ArgsTo.cons ?_ ?_ | exact ArgTo.mk' rfl (Wk.refl _) | exact ArgTo.mk' rfl Wk.nilm | exact ArgTo.mk' rfl (Wk.int (by simp)) | exact ArgTo.mk' rfl (Wk.list _ _) | exact ArgTo.mk' rfl (Wk.agg (by (repeat' (first | exact Wks.nil | refine Wks.cons ?_ ?_ | exact Wk.refl _ | exact Wk.nilm | exact Wk.list _ _  | exact Wk.natN rfl | refine Wk.agg ?_))))))) (B4) rfl rfl (by (repeat' (first | exact trivial | exact rfl | refine And.intro ?_ ?_))) (by (repeat' (first | exact trivial | exact rfl | refine And.intro ?_ ?_))) (by (repeat' (first | exact trivial | exact rfl | refine And.intro ?_ ?_))) rfl rfl ?_
          (conv => whnf)
          refine CallLeaf.w (by (repeat' (first | exact ArgsTo.nil | refine ArgsTo.cons ?_ ?_ | exact ArgTo.mk' rfl (Wk.refl _) | exact ArgTo.mk' rfl Wk.nilm | exact ArgTo.mk' rfl (Wk.int (by simp)) | exact ArgTo.mk' rfl (Wk.list _ _) | exact ArgTo.mk' rfl (Wk.agg (by (repeat' (first | exact Wks.nil | refine Wks.cons ?_ ?_ | exact Wk.refl _ | exact Wk.nilm | exact Wk.list _ _  | exact Wk.natN rfl | refine Wk.agg ?_))))))) (state_ S) rfl ?_
          (conv => whnf)
          refine CallLeaf.w (by (repeat' (first | exact ArgsTo.nil | refine ArgsTo.cons ?_ ?_ | exact ArgTo.mk' rfl (Wk.refl _) | exact ArgTo.mk' rfl Wk.nilm | exact ArgTo.mk' rfl (Wk.int (by simp)) | exact ArgTo.mk' rfl (Wk.list _ _) | exact ArgTo.mk' rfl (Wk.agg (by (repeat' (first | exact Wks.nil | refine Wks.cons ?_ ?_ | exact Wk.refl _ | exact Wk.nilm | exact Wk.list _ _  | exact Wk.natN rfl | refine Wk.agg ?_))))))) (C1) rfl ?_
          (conv => whnf)
          refine CallLeaf.w (by (repeat' (first | exact ArgsTo.nil | refine ArgsTo.cons ?_ ?_ | exact ArgTo.mk' rfl (Wk.refl _) | exact ArgTo.mk' rfl Wk.nilm | exact ArgTo.mk' rfl (Wk.int (by simp)) | exact ArgTo.mk' rfl (Wk.list _ _) | exact ArgTo.mk' rfl (Wk.agg (by (repeat' (first | exact Wks.nil | refine Wks.cons ?_ ?_ | exact Wk.refl _ | exact Wk.nilm | exact Wk.list _ _  | exact Wk.natN rfl | refine Wk.agg ?_))))))) (D1) rfl ?_
          (conv => whnf)
          refine CallLeaf.o [1536, 3616] (by (repeat' (first | exact ArgsTo.nil | refine ArgsTo.cons ?_ ?_ | exact ArgTo.mk' rfl (Wk.refl _) | exact ArgTo.mk' rfl Wk.nilm | exact ArgTo.mk' rfl (Wk.int (by simp)) | exact ArgTo.mk' rfl (Wk.list _ _) | exact ArgTo.mk' rfl (Wk.agg (by (repeat' (first | exact Wks.nil | refine Wks.cons ?_ ?_ | exact Wk.refl _ | exact Wk.nilm | exact Wk.list _ _  | exact Wk.natN rfl | refine Wk.agg ?_))))))) (B5) rfl rfl (by (repeat' (first | exact trivial | exact rfl | refine And.intro ?_ ?_))) (by (repeat' (first | exact trivial | exact rfl | refine And.intro ?_ ?_))) (by (repeat' (first | exact trivial | exact rfl | refine And.intro ?_ ?_))) rfl rfl ?_
          (conv => whnf)
          refine CallLeaf.w (by (repeat' (first | exact ArgsTo.nil | refine ArgsTo.cons ?_ ?_ | exact ArgTo.mk' rfl (Wk.refl _) | exact ArgTo.mk' rfl Wk.nilm | exact ArgTo.mk' rfl (Wk.int (by simp)) | exact ArgTo.mk' rfl (Wk.list _ _) | exact ArgTo.mk' rfl (Wk.agg (by (repeat' (first | exact Wks.nil | refine Wks.cons ?_ ?_ | exact Wk.refl _ | exact Wk.nilm | exact Wk.list _ _  | exact Wk.natN rfl | refine Wk.agg ?_))))))) (C2) rfl ?_
          (conv => whnf)
          refine CallLeaf.w (by (repeat' (first | exact ArgsTo.nil | refine ArgsTo.cons ?_ ?_ | exact ArgTo.mk' rfl (Wk.refl _) | exact ArgTo.mk' rfl Wk.nilm | exact ArgTo.mk' rfl (Wk.int (by simp)) | exact ArgTo.mk' rfl (Wk.list _ _) | exact ArgTo.mk' rfl (Wk.agg (by (repeat' (first | exact Wks.nil | refine Wks.cons ?_ ?_ | exact Wk.refl _ | exact Wk.nilm | exact Wk.list _ _  | exact Wk.natN rfl | refine Wk.agg ?_))))))) (D2) rfl ?_
          (conv => whnf)
          refine CallLeaf.o [1536, 3616] (by (repeat' (first | exact ArgsTo.nil | refine ArgsTo.cons ?_ ?_ | exact ArgTo.mk' rfl (Wk.refl _) | exact ArgTo.mk' rfl Wk.nilm | exact ArgTo.mk' rfl (Wk.int (by simp)) | exact ArgTo.mk' rfl (Wk.list _ _) | exact ArgTo.mk' rfl (Wk.agg (by (repeat' (first | exact Wks.nil | refine Wks.cons ?_ ?_ | exact Wk.refl _ | exact Wk.nilm | exact Wk.list _ _  | exact Wk.natN rfl | refine Wk.agg ?_))))))) (B6) rfl rfl (by (repeat' (first | exact trivial | exact rfl | refine And.intro ?_ ?_))) (by (repeat' (first | exact trivial | exact rfl | refine And.intro ?_ ?_))) (by (repeat' (first | exact trivial | exact rfl | refine And.intro ?_ ?_))) rfl rfl ?_
          (conv => whnf)
          refine CallLeaf.w (by (repeat' (first | exact ArgsTo.nil | refine ArgsTo.cons ?_ ?_ | exact ArgTo.mk' rfl (Wk.refl _) | exact ArgTo.mk' rfl Wk.nilm | exact ArgTo.mk' rfl (Wk.int (by simp)) | exact ArgTo.mk' rfl (Wk.list _ _) | exact ArgTo.mk' rfl (Wk.agg (by (repeat' (first | exact Wks.nil | refine Wks.cons ?_ ?_ | exact Wk.refl _ | exact Wk.nilm | exact Wk.list _ _  | exact Wk.natN rfl | refine Wk.agg ?_))))))) (C3) rfl ?_
          (conv => whnf)
          refine CallLeaf.w (by (repeat' (first | exact ArgsTo.nil | refine ArgsTo.cons ?_ ?_ | exact ArgTo.mk' rfl (Wk.refl _) | exact ArgTo.mk' rfl Wk.nilm | exact ArgTo.mk' rfl (Wk.int (by simp)) | exact ArgTo.mk' rfl (Wk.list _ _) | exact ArgTo.mk' rfl (Wk.agg (by (repeat' (first | exact Wks.nil | refine Wks.cons ?_ ?_ | exact Wk.refl _ | exact Wk.nilm | exact Wk.list _ _  | exact Wk.natN rfl | refine Wk.agg ?_))))))) (D3) rfl ?_
          (conv => whnf)
          exact Wk.refl _
end Go.Proofs.YtdlcaoobaejlpaaDoor

/- SymtabKeeps: for every input the law returns true and leaves its arguments as they were. No condition but the given statement's own. -/
set_option linter.unusedVariables false
set_option linter.unusedSimpArgs false
namespace Go.Proofs.YtdlcaoobaejlpaaDoor
open Go Go.AL
open Go.ChangeShapes Go.WideShapes Go.ChangeAt Go.RowKit
set_option maxRecDepth 100000 in
theorem symtabKeeps_lifted (os : Os) (started : os.Started) (H : Type) (enc : TypeId × Value → H) :
    ReturnsInHanded {} Tryd.checked os 6 .any (fun w args => (Rows.symtabKeepsSpec.pre enc Tryd.prog Tryd.f6 [] false w args ∧ laidMetH Tryd.prog laidL w) ∧ sizedMet enc Tryd.prog Tryd.f6 (OpenSpec.ofChange Rows.symtabKeepsSpec) false w args)
      (Rows.symtabKeepsSpec.post enc Tryd.prog Tryd.f6 false true false false) := by
  refine returnsInHanded_of_change_and (C := Tryd.checked) (X := fun w _ => laidMetH Tryd.prog laidL w) (fun _ _ _ hh h => h.of_heap hh) own started (by kernel_rfl) Tryd.func6
    (ChangeSpec.witness_shaped (enc := enc) (C := Tryd.checked) (os := os) (X := fun w _ => laidMetH Tryd.prog laidL w) false (World.doorLaid Tryd.prog doorSteps os) #[.slice none 0 0, .string ⟨#[]⟩] 8 rfl (World.shaped_of_RefB (by kernel_rfl) (by kernel_rfl)) (by kernel_rfl) (by kernel_rfl) (by kernel_rfl) (door_met os _)) ?_
  intro W base args ds gs before hval hW _ hsz hL _
  exact law_contract (P := Tryd.prog) (G := Gl) (n := 8) laidOut (ts := [22, 9]) (by rw [Tryd.params6]) (by kernel_rfl)
    (fun t ht => by
      have : [22, 9].all (fun t => Tryd.prog.readableRec t && decide (t < Tryd.prog.types.size)) = true := by kernel_rfl
      have := List.all_eq_true.1 this t ht
      simpa using this) rfl rfl Tryd.underlying4
    (fun ds hd => by
      match ds, hd with
      | [d0, d1], _ => rfl)
    (fun xs ha => by
      cases ha with
      | cons h0 ha =>
        cases ha with
        | cons h1 ha =>
          cases ha
          obtain ⟨v0, c0, e0⟩ := arg_LO h0
          obtain ⟨v1, c1, e1⟩ := arg_sD h1
          rw [e0, e1]
          exact symKeeps_ v0 v1) hval hW hsz (globOk hL)

theorem symtabKeeps_row : Rows.SymtabKeepsSaid :=
  OpenClaim.holds_of_wide 6 Tryd.f6 rfl rfl rfl rfl rfl rfl rfl ⟨rfl, rfl, rfl, rfl, rfl⟩ rfl rfl rfl rfl rfl (by kernel_rfl) Tryd.func6 (by kernel_rfl)
    (of_decide_eq_true (by kernel_rfl)) (by unfold Func.isWrapper; first | (rw [if_pos (by decide +kernel)]; kernel_rfl) | (rw [if_neg (by decide +kernel)]; exact ⟨rfl, rfl⟩))
    (fun os started H enc _ => symtabKeeps_lifted os started H enc)

theorem symtabKeeps_holds : Rows.SymtabKeepsCardSaid :=
  Claim7.holds_tied_plain_at .later [] [.data] true (true, "034a03f84f236c40f9ea70330cfa542203856bf18f59b8879aaf8906f2ac695d") true
    symtabKeeps_row (fun _ h => by cases h) (by kernel_rfl) (fun _ h => by cases h) symtabKeeps_row_tie rfl ⟨rfl, rfl⟩ (by kernel_rfl) rfl
    (fun f fn hf hfn => by
      obtain rfl : f = 6 := Option.some.inj ((show Tryd.prog.funcNamed "arlink/arlinklaw14.SymtabKeeps" = some 6 by kernel_rfl).symm.trans hf) |>.symm
      obtain rfl : fn = Tryd.f6 := (Option.some.inj (Tryd.func6.symm.trans hfn)).symm
      exact ⟨by kernel_rfl, fun j t ht => by
        have hm : t ∈ [22, 9] := by
          have := Array.mem_of_getElem? ht
          rw [Tryd.params6] at this
          simpa using this
        have : [22, 9].all (fun t => !Tryd.prog.wantsStandIn t) = true := by kernel_rfl
        have := List.all_eq_true.1 this t hm
        exact (show Tryd.prog.wantsStandIn t = false by simpa using this)⟩)
    (by kernel_rfl)
#print axioms symtabKeeps_holds
end Go.Proofs.YtdlcaoobaejlpaaDoor
