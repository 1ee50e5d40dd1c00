/- Decoding what is no object. No condition. -/
import Derived.Test.YtfacepcmpijdpaaOba
set_option linter.unusedVariables false
set_option linter.unusedSimpArgs false
namespace Go.Proofs.Ytfacepcmpijdpaa
open Go Go.AL Go.AL.Ap Go.AL.Ob
set_option maxRecDepth 100000
set_option maxHeartbeats 4000000
theorem object_f (r : List UInt8) (e : Int) (h : decO r = .error e) (hr : r.length ≤ 1000000000) :
    PCall Try.prog Gl 41 [.ptr 0 0] (Dr r) (thr e) Dj := by
  unfold decO at h
  split at h
  · rename_i h4
    injection h with h
    subst h
    refine PCall.enter hT hmix [] Try.func41 rfl rfl rfl fun hbd => ?_
    (conv => whnf)
    refine CallLeaf.po [0] (by (repeat' (first | exact ArgsTo.nil | refine ArgsTo.cons ?_ ?_ | exact ArgTo.mk' rfl (Wk.refl _) | exact ArgTo.mk' rfl Wk.nilm | exact ArgTo.mk' rfl (Wk.int (by simp)) | exact ArgTo.mk' rfl (Wk.list _ _) | exact ArgTo.mk' rfl (Wk.agg (by (repeat' (first | exact Wks.nil | refine Wks.cons ?_ ?_ | exact Wk.refl _ | exact Wk.nilm | exact Wk.list _ _  | exact Wk.natN rfl | refine Wk.agg ?_))))))) (take_f r 4 (by omega)) rfl rfl (by (repeat' (first | exact trivial | exact rfl | refine And.intro ?_ ?_))) (by (repeat' (first | exact trivial | exact rfl | refine And.intro ?_ ?_))) (by (repeat' (first | exact trivial | exact rfl | refine And.intro ?_ ?_))) rfl rfl ?_
    refine ⟨[0], rfl, by (repeat' (first | exact trivial | exact ObWk.refl _ | exact ObWk.cells _ _ (Wks.cons (Wk.junk _) Wks.nil) | refine And.intro ?_ ?_ | unfold pullOk)), ?_⟩
    exact Wk.refl _
  rename_i h4
  have T1 := take_ r 4 (by omega)
  split at h
  · rename_i hm
    injection h with h
    subst h
    refine PCall.enter hT hmix [] Try.func41 rfl rfl rfl fun hbd => ?_
    (conv => whnf)
    refine CallLeaf.o [0] (by (repeat' (first | exact ArgsTo.nil | refine ArgsTo.cons ?_ ?_ | exact ArgTo.mk' rfl (Wk.refl _) | exact ArgTo.mk' rfl Wk.nilm | exact ArgTo.mk' rfl (Wk.int (by simp)) | exact ArgTo.mk' rfl (Wk.list _ _) | exact ArgTo.mk' rfl (Wk.agg (by (repeat' (first | exact Wks.nil | refine Wks.cons ?_ ?_ | exact Wk.refl _ | exact Wk.nilm | exact Wk.list _ _  | exact Wk.natN rfl | refine Wk.agg ?_))))))) (T1) rfl rfl (by (repeat' (first | exact trivial | exact rfl | refine And.intro ?_ ?_))) (by (repeat' (first | exact trivial | exact rfl | refine And.intro ?_ ?_))) (by (repeat' (first | exact trivial | exact rfl | refine And.intro ?_ ?_))) rfl rfl ?_
    (conv => whnf)
    refine ⟨(r.take 4), rfl, ?_⟩
    (conv => whnf)
    refine CallLeaf.po [] (by (repeat' (first | exact ArgsTo.nil | refine ArgsTo.cons ?_ ?_ | exact ArgTo.mk' rfl (Wk.refl _) | exact ArgTo.mk' rfl Wk.nilm | exact ArgTo.mk' rfl (Wk.int (by simp)) | exact ArgTo.mk' rfl (Wk.list _ _) | exact ArgTo.mk' rfl (Wk.agg (by (repeat' (first | exact Wks.nil | refine Wks.cons ?_ ?_ | exact Wk.refl _ | exact Wk.nilm | exact Wk.list _ _  | exact Wk.natN rfl | refine Wk.agg ?_))))))) (must_f' _ 1 (decide_eq_false hm)) rfl rfl (by (repeat' (first | exact trivial | exact rfl | refine And.intro ?_ ?_))) (by (repeat' (first | exact trivial | exact rfl | refine And.intro ?_ ?_))) (by (repeat' (first | exact trivial | exact rfl | refine And.intro ?_ ?_))) rfl rfl ?_
    refine ⟨[0], rfl, by (repeat' (first | exact trivial | exact ObWk.refl _ | exact ObWk.cells _ _ (Wks.cons (Wk.junk _) Wks.nil) | refine And.intro ?_ ?_ | unfold pullOk)), ?_⟩
    exact Wk.refl _
  rename_i hm
  simp only [ne_eq, Decidable.not_not] at hm
  split at h
  · rename_i h8
    injection h with h
    subst h
    have N1 := number_f (r.drop 4) (by simp; omega)
    refine PCall.enter hT hmix [] Try.func41 rfl rfl rfl fun hbd => ?_
    (conv => whnf)
    refine CallLeaf.o [0] (by (repeat' (first | exact ArgsTo.nil | refine ArgsTo.cons ?_ ?_ | exact ArgTo.mk' rfl (Wk.refl _) | exact ArgTo.mk' rfl Wk.nilm | exact ArgTo.mk' rfl (Wk.int (by simp)) | exact ArgTo.mk' rfl (Wk.list _ _) | exact ArgTo.mk' rfl (Wk.agg (by (repeat' (first | exact Wks.nil | refine Wks.cons ?_ ?_ | exact Wk.refl _ | exact Wk.nilm | exact Wk.list _ _  | exact Wk.natN rfl | refine Wk.agg ?_))))))) (T1) rfl rfl (by (repeat' (first | exact trivial | exact rfl | refine And.intro ?_ ?_))) (by (repeat' (first | exact trivial | exact rfl | refine And.intro ?_ ?_))) (by (repeat' (first | exact trivial | exact rfl | refine And.intro ?_ ?_))) rfl rfl ?_
    (conv => whnf)
    refine ⟨(r.take 4), rfl, ?_⟩
    (conv => whnf)
    refine CallLeaf.w (by (repeat' (first | exact ArgsTo.nil | refine ArgsTo.cons ?_ ?_ | exact ArgTo.mk' rfl (Wk.refl _) | exact ArgTo.mk' rfl Wk.nilm | exact ArgTo.mk' rfl (Wk.int (by simp)) | exact ArgTo.mk' rfl (Wk.list _ _) | exact ArgTo.mk' rfl (Wk.agg (by (repeat' (first | exact Wks.nil | refine Wks.cons ?_ ?_ | exact Wk.refl _ | exact Wk.nilm | exact Wk.list _ _  | exact Wk.natN rfl | refine Wk.agg ?_))))))) (must_t' _ 1 (decide_eq_true hm)) rfl ?_
    (conv => whnf)
    refine CallLeaf.po [0] (by (repeat' (first | exact ArgsTo.nil | refine ArgsTo.cons ?_ ?_ | exact ArgTo.mk' rfl (Wk.refl _) | exact ArgTo.mk' rfl Wk.nilm | exact ArgTo.mk' rfl (Wk.int (by simp)) | exact ArgTo.mk' rfl (Wk.list _ _) | exact ArgTo.mk' rfl (Wk.agg (by (repeat' (first | exact Wks.nil | refine Wks.cons ?_ ?_ | exact Wk.refl _ | exact Wk.nilm | exact Wk.list _ _  | exact Wk.natN rfl | refine Wk.agg ?_))))))) (N1) rfl rfl (by (repeat' (first | exact trivial | exact rfl | refine And.intro ?_ ?_))) (by (repeat' (first | exact trivial | exact rfl | refine And.intro ?_ ?_))) (by (repeat' (first | exact trivial | exact rfl | refine And.intro ?_ ?_))) rfl rfl ?_
    refine ⟨[0], rfl, by (repeat' (first | exact trivial | exact ObWk.refl _ | exact ObWk.cells _ _ (Wks.cons (Wk.junk _) Wks.nil) | refine And.intro ?_ ?_ | unfold pullOk)), ?_⟩
    exact Wk.refl _
  rename_i h8
  have N1 := number_ok (r.drop 4) (by simp; omega)
  rw [List.drop_drop] at N1
  have hn32 := num_lt (r.drop 4)
  split at h
  · rename_i hn
    injection h with h
    subst h
    generalize hnn : num (r.drop 4) = n at *
    refine PCall.enter hT hmix [] Try.func41 rfl rfl rfl fun hbd => ?_
    (conv => whnf)
    refine CallLeaf.o [0] (by (repeat' (first | exact ArgsTo.nil | refine ArgsTo.cons ?_ ?_ | exact ArgTo.mk' rfl (Wk.refl _) | exact ArgTo.mk' rfl Wk.nilm | exact ArgTo.mk' rfl (Wk.int (by simp)) | exact ArgTo.mk' rfl (Wk.list _ _) | exact ArgTo.mk' rfl (Wk.agg (by (repeat' (first | exact Wks.nil | refine Wks.cons ?_ ?_ | exact Wk.refl _ | exact Wk.nilm | exact Wk.list _ _  | exact Wk.natN rfl | refine Wk.agg ?_))))))) (T1) rfl rfl (by (repeat' (first | exact trivial | exact rfl | refine And.intro ?_ ?_))) (by (repeat' (first | exact trivial | exact rfl | refine And.intro ?_ ?_))) (by (repeat' (first | exact trivial | exact rfl | refine And.intro ?_ ?_))) rfl rfl ?_
    (conv => whnf)
    refine ⟨(r.take 4), rfl, ?_⟩
    (conv => whnf)
    refine CallLeaf.w (by (repeat' (first | exact ArgsTo.nil | refine ArgsTo.cons ?_ ?_ | exact ArgTo.mk' rfl (Wk.refl _) | exact ArgTo.mk' rfl Wk.nilm | exact ArgTo.mk' rfl (Wk.int (by simp)) | exact ArgTo.mk' rfl (Wk.list _ _) | exact ArgTo.mk' rfl (Wk.agg (by (repeat' (first | exact Wks.nil | refine Wks.cons ?_ ?_ | exact Wk.refl _ | exact Wk.nilm | exact Wk.list _ _  | exact Wk.natN rfl | refine Wk.agg ?_))))))) (must_t' _ 1 (decide_eq_true hm)) rfl ?_
    (conv => whnf)
    refine CallLeaf.o [0] (by (repeat' (first | exact ArgsTo.nil | refine ArgsTo.cons ?_ ?_ | exact ArgTo.mk' rfl (Wk.refl _) | exact ArgTo.mk' rfl Wk.nilm | exact ArgTo.mk' rfl (Wk.int (by simp)) | exact ArgTo.mk' rfl (Wk.list _ _) | exact ArgTo.mk' rfl (Wk.agg (by (repeat' (first | exact Wks.nil | refine Wks.cons ?_ ?_ | exact Wk.refl _ | exact Wk.nilm | exact Wk.list _ _  | exact Wk.natN rfl | refine Wk.agg ?_))))))) (N1) rfl rfl (by (repeat' (first | exact trivial | exact rfl | refine And.intro ?_ ?_))) (by (repeat' (first | exact trivial | exact rfl | refine And.intro ?_ ?_))) (by (repeat' (first | exact trivial | exact rfl | refine And.intro ?_ ?_))) rfl rfl ?_
    (conv => whnf)
    refine CallLeaf.po [] (by (repeat' (first | exact ArgsTo.nil | refine ArgsTo.cons ?_ ?_ | exact ArgTo.mk' rfl (Wk.refl _) | exact ArgTo.mk' rfl Wk.nilm | exact ArgTo.mk' rfl (Wk.int (by simp)) | exact ArgTo.mk' rfl (Wk.list _ _) | exact ArgTo.mk' rfl (Wk.agg (by (repeat' (first | exact Wks.nil | refine Wks.cons ?_ ?_ | exact Wk.refl _ | exact Wk.nilm | exact Wk.list _ _  | exact Wk.natN rfl | refine Wk.agg ?_))))))) (must_f' _ 12 (by simp; omega)) rfl rfl (by (repeat' (first | exact trivial | exact rfl | refine And.intro ?_ ?_))) (by (repeat' (first | exact trivial | exact rfl | refine And.intro ?_ ?_))) (by (repeat' (first | exact trivial | exact rfl | refine And.intro ?_ ?_))) rfl rfl ?_
    refine ⟨[0], rfl, by (repeat' (first | exact trivial | exact ObWk.refl _ | exact ObWk.cells _ _ (Wks.cons (Wk.junk _) Wks.nil) | refine And.intro ?_ ?_ | unfold pullOk)), ?_⟩
    exact Wk.refl _
  rename_i hn
  generalize hnn : num (r.drop 4) = n at *
  refine PCall.enter hT hmix [] Try.func41 rfl rfl rfl fun hbd => ?_
  (conv => whnf)
  refine CallLeaf.o [0] (by (repeat' (first | exact ArgsTo.nil | refine ArgsTo.cons ?_ ?_ | exact ArgTo.mk' rfl (Wk.refl _) | exact ArgTo.mk' rfl Wk.nilm | exact ArgTo.mk' rfl (Wk.int (by simp)) | exact ArgTo.mk' rfl (Wk.list _ _) | exact ArgTo.mk' rfl (Wk.agg (by (repeat' (first | exact Wks.nil | refine Wks.cons ?_ ?_ | exact Wk.refl _ | exact Wk.nilm | exact Wk.list _ _  | exact Wk.natN rfl | refine Wk.agg ?_))))))) (T1) rfl rfl (by (repeat' (first | exact trivial | exact rfl | refine And.intro ?_ ?_))) (by (repeat' (first | exact trivial | exact rfl | refine And.intro ?_ ?_))) (by (repeat' (first | exact trivial | exact rfl | refine And.intro ?_ ?_))) rfl rfl ?_
  (conv => whnf)
  refine ⟨(r.take 4), rfl, ?_⟩
  (conv => whnf)
  refine CallLeaf.w (by (repeat' (first | exact ArgsTo.nil | refine ArgsTo.cons ?_ ?_ | exact ArgTo.mk' rfl (Wk.refl _) | exact ArgTo.mk' rfl Wk.nilm | exact ArgTo.mk' rfl (Wk.int (by simp)) | exact ArgTo.mk' rfl (Wk.list _ _) | exact ArgTo.mk' rfl (Wk.agg (by (repeat' (first | exact Wks.nil | refine Wks.cons ?_ ?_ | exact Wk.refl _ | exact Wk.nilm | exact Wk.list _ _  | exact Wk.natN rfl | refine Wk.agg ?_))))))) (must_t' _ 1 (decide_eq_true hm)) rfl ?_
  (conv => whnf)
  refine CallLeaf.o [0] (by (repeat' (first | exact ArgsTo.nil | refine ArgsTo.cons ?_ ?_ | exact ArgTo.mk' rfl (Wk.refl _) | exact ArgTo.mk' rfl Wk.nilm | exact ArgTo.mk' rfl (Wk.int (by simp)) | exact ArgTo.mk' rfl (Wk.list _ _) | exact ArgTo.mk' rfl (Wk.agg (by (repeat' (first | exact Wks.nil | refine Wks.cons ?_ ?_ | exact Wk.refl _ | exact Wk.nilm | exact Wk.list _ _  | exact Wk.natN rfl | refine Wk.agg ?_))))))) (N1) rfl rfl (by (repeat' (first | exact trivial | exact rfl | refine And.intro ?_ ?_))) (by (repeat' (first | exact trivial | exact rfl | refine And.intro ?_ ?_))) (by (repeat' (first | exact trivial | exact rfl | refine And.intro ?_ ?_))) rfl rfl ?_
  (conv => whnf)
  refine CallLeaf.w (by (repeat' (first | exact ArgsTo.nil | refine ArgsTo.cons ?_ ?_ | exact ArgTo.mk' rfl (Wk.refl _) | exact ArgTo.mk' rfl Wk.nilm | exact ArgTo.mk' rfl (Wk.int (by simp)) | exact ArgTo.mk' rfl (Wk.list _ _) | exact ArgTo.mk' rfl (Wk.agg (by (repeat' (first | exact Wks.nil | refine Wks.cons ?_ ?_ | exact Wk.refl _ | exact Wk.nilm | exact Wk.list _ _  | exact Wk.natN rfl | refine Wk.agg ?_))))))) (must_t' _ 12 (by simp; omega)) rfl ?_
  (conv => whnf)
  refine LWp.loop hT hmix [] (fun x : Nat × List UInt8 × List Ob.Sym × Ents => [(19, vI x.1)]) (fun x => [(0, .cells [LB x.2.1]), (2049, .cells [.list (.tok 403) (SE x.2.2.1), .nil]), (403, .tok (SE x.2.2.1).length 4), (2561, .map x.2.2.2)]) (fun y => y.1 ≤ n ∧ y.2.1.length ≤ r.length ∧ y.2.2.1.length = y.1 ∧ Wt.Sn y.2.2.2 (y.2.2.1.map Ob.Sym.name) ∧ Ob.decL (n - y.1) y.2.1 y.2.2.1 = .error e) (fun x => n - x.1) (0, r.drop 8, [], []) ⟨Nat.zero_le _, by simp, rfl, Wt.Sn.nil, h⟩ ?_
  (conv => whnf)
  refine ⟨?_, fun ⟨k, q, acc, es⟩ ⟨hk, hql, hal, hS, hd⟩ => ?_⟩
  · (repeat' (first | exact trivial | exact Wk.refl _ | exact ObWk.refl _ | exact rfl | exact ⟨_, rfl⟩ | exact Nat.zero_lt_one | refine And.intro ?_ ?_ | unfold okTo | (unfold okO; conv => whnf) | (unfold okS; conv => whnf) | (unfold SlotOk; conv => whnf) | (unfold ObjOk; conv => whnf) | (unfold okCells; conv => whnf) | (unfold liveTo; conv => whnf) | exact Nat.zero_lt_succ _))
  · replace hk : k ≤ n := hk
    replace hql : q.length ≤ r.length := hql
    replace hal : acc.length = k := hal
    replace hS : Wt.Sn es (acc.map Ob.Sym.name) := hS
    replace hd : Ob.decL (n - k) q acc = .error e := hd
    (conv => whnf)
    refine split_intro (fun h2 => ?_) (fun h2 => ?_)
    · have hlt : k < n := by have := of_decide_eq_true h2; omega
      obtain ⟨m, hmm⟩ : ∃ m, n - k = m + 1 := ⟨n - k - 1, by omega⟩
      rw [hmm, Ob.decL] at hd
      split at hd
      · rename_i hnx
        injection hd with hd
        subst hd
        (conv => whnf)
        refine CallLeaf.po [0] (by (repeat' (first | exact ArgsTo.nil | refine ArgsTo.cons ?_ ?_ | exact ArgTo.mk' rfl (Wk.refl _) | exact ArgTo.mk' rfl Wk.nilm | exact ArgTo.mk' rfl (Wk.int (by simp)) | exact ArgTo.mk' rfl (Wk.list _ _) | exact ArgTo.mk' rfl (Wk.agg (by (repeat' (first | exact Wks.nil | refine Wks.cons ?_ ?_ | exact Wk.refl _ | exact Wk.nilm | exact Wk.list _ _  | exact Wk.natN rfl | refine Wk.agg ?_))))))) (symbol_f q hnx) rfl rfl (by (repeat' (first | exact trivial | exact rfl | refine And.intro ?_ ?_))) (by (repeat' (first | exact trivial | exact rfl | refine And.intro ?_ ?_))) (by (repeat' (first | exact trivial | exact rfl | refine And.intro ?_ ?_))) rfl rfl ?_
        refine ⟨[0], rfl, by (repeat' (first | exact trivial | exact ObWk.refl _ | exact ObWk.cells _ _ (Wks.cons (Wk.junk _) Wks.nil) | refine And.intro ?_ ?_ | unfold pullOk)), ?_⟩
        exact Wk.refl _
      rename_i s q' hnx
      split at hd
      case isFalse =>
        rename_i hvs
        injection hd with hd
        subst hd
        (conv => whnf)
        refine CallLeaf.o [0] (by (repeat' (first | exact ArgsTo.nil | refine ArgsTo.cons ?_ ?_ | exact ArgTo.mk' rfl (Wk.refl _) | exact ArgTo.mk' rfl Wk.nilm | exact ArgTo.mk' rfl (Wk.int (by simp)) | exact ArgTo.mk' rfl (Wk.list _ _) | exact ArgTo.mk' rfl (Wk.agg (by (repeat' (first | exact Wks.nil | refine Wks.cons ?_ ?_ | exact Wk.refl _ | exact Wk.nilm | exact Wk.list _ _  | exact Wk.natN rfl | refine Wk.agg ?_))))))) (symbol_ok q q' s hnx) rfl rfl (by (repeat' (first | exact trivial | exact rfl | refine And.intro ?_ ?_))) (by (repeat' (first | exact trivial | exact rfl | refine And.intro ?_ ?_))) (by (repeat' (first | exact trivial | exact rfl | refine And.intro ?_ ?_))) rfl rfl ?_
        (conv => whnf)
        refine CallLeaf.w (by (repeat' (first | exact ArgsTo.nil | refine ArgsTo.cons ?_ ?_ | exact ArgTo.mk' rfl (Wk.refl _) | exact ArgTo.mk' rfl Wk.nilm | exact ArgTo.mk' rfl (Wk.int (by simp)) | exact ArgTo.mk' rfl (Wk.list _ _) | exact ArgTo.mk' rfl (Wk.agg (by (repeat' (first | exact Wks.nil | refine Wks.cons ?_ ?_ | exact Wk.refl _ | exact Wk.nilm | exact Wk.list _ _  | exact Wk.natN rfl | refine Wk.agg ?_))))))) (valid_ s) rfl ?_
        (conv => whnf)
        refine split_intro (fun hv => ?_) (fun hv => ?_)
        · have hh : Ob.has acc s.name = true := by
            cases hc : Ob.has acc s.name with
            | true => rfl
            | false => exact absurd (by simp [hv, hc]) hvs
          rw [has_mem] at hh
          (conv => whnf)
          refine ⟨_, ⟨hS.keys, hS.look' s.name⟩, ?_⟩
          (conv => whnf)
          refine CallLeaf.po [] (by (repeat' (first | exact ArgsTo.nil | refine ArgsTo.cons ?_ ?_ | exact ArgTo.mk' rfl (Wk.refl _) | exact ArgTo.mk' rfl Wk.nilm | exact ArgTo.mk' rfl (Wk.int (by simp)) | exact ArgTo.mk' rfl (Wk.list _ _) | exact ArgTo.mk' rfl (Wk.agg (by (repeat' (first | exact Wks.nil | refine Wks.cons ?_ ?_ | exact Wk.refl _ | exact Wk.nilm | exact Wk.list _ _  | exact Wk.natN rfl | refine Wk.agg ?_))))))) (must_f' _ 12 (by rw [hh]; rfl)) rfl rfl (by (repeat' (first | exact trivial | exact rfl | refine And.intro ?_ ?_))) (by (repeat' (first | exact trivial | exact rfl | refine And.intro ?_ ?_))) (by (repeat' (first | exact trivial | exact rfl | refine And.intro ?_ ?_))) rfl rfl ?_
          refine ⟨[0], rfl, by (repeat' (first | exact trivial | exact ObWk.refl _ | exact ObWk.cells _ _ (Wks.cons (Wk.junk _) Wks.nil) | refine And.intro ?_ ?_ | unfold pullOk)), ?_⟩
          exact Wk.refl _
        · (conv => whnf)
          refine CallLeaf.po [] (by (repeat' (first | exact ArgsTo.nil | refine ArgsTo.cons ?_ ?_ | exact ArgTo.mk' rfl (Wk.refl _) | exact ArgTo.mk' rfl Wk.nilm | exact ArgTo.mk' rfl (Wk.int (by simp)) | exact ArgTo.mk' rfl (Wk.list _ _) | exact ArgTo.mk' rfl (Wk.agg (by (repeat' (first | exact Wks.nil | refine Wks.cons ?_ ?_ | exact Wk.refl _ | exact Wk.nilm | exact Wk.list _ _  | exact Wk.natN rfl | refine Wk.agg ?_))))))) (must_f' _ 12 rfl) rfl rfl (by (repeat' (first | exact trivial | exact rfl | refine And.intro ?_ ?_))) (by (repeat' (first | exact trivial | exact rfl | refine And.intro ?_ ?_))) (by (repeat' (first | exact trivial | exact rfl | refine And.intro ?_ ?_))) rfl rfl ?_
          refine ⟨[0], rfl, by (repeat' (first | exact trivial | exact ObWk.refl _ | exact ObWk.cells _ _ (Wks.cons (Wk.junk _) Wks.nil) | refine And.intro ?_ ?_ | unfold pullOk)), ?_⟩
          exact Wk.refl _
      rename_i hvs
      simp only [Bool.and_eq_true, Bool.not_eq_true'] at hvs
      rw [has_mem] at hvs
      have hq' := congrArg List.length (nextS_some hnx hvs.1)
      simp at hq'
      (conv => whnf)
      refine CallLeaf.o [0] (by (repeat' (first | exact ArgsTo.nil | refine ArgsTo.cons ?_ ?_ | exact ArgTo.mk' rfl (Wk.refl _) | exact ArgTo.mk' rfl Wk.nilm | exact ArgTo.mk' rfl (Wk.int (by simp)) | exact ArgTo.mk' rfl (Wk.list _ _) | exact ArgTo.mk' rfl (Wk.agg (by (repeat' (first | exact Wks.nil | refine Wks.cons ?_ ?_ | exact Wk.refl _ | exact Wk.nilm | exact Wk.list _ _  | exact Wk.natN rfl | refine Wk.agg ?_))))))) (symbol_ok q q' s hnx) rfl rfl (by (repeat' (first | exact trivial | exact rfl | refine And.intro ?_ ?_))) (by (repeat' (first | exact trivial | exact rfl | refine And.intro ?_ ?_))) (by (repeat' (first | exact trivial | exact rfl | refine And.intro ?_ ?_))) rfl rfl ?_
      (conv => whnf)
      refine CallLeaf.w (by (repeat' (first | exact ArgsTo.nil | refine ArgsTo.cons ?_ ?_ | exact ArgTo.mk' rfl (Wk.refl _) | exact ArgTo.mk' rfl Wk.nilm | exact ArgTo.mk' rfl (Wk.int (by simp)) | exact ArgTo.mk' rfl (Wk.list _ _) | exact ArgTo.mk' rfl (Wk.agg (by (repeat' (first | exact Wks.nil | refine Wks.cons ?_ ?_ | exact Wk.refl _ | exact Wk.nilm | exact Wk.list _ _  | exact Wk.natN rfl | refine Wk.agg ?_))))))) (valid_ s) rfl ?_
      (conv => whnf)
      refine split_intro (fun _ => ?_) (fun h => absurd h (by (simp [hvs.1])))
      (conv => whnf)
      refine ⟨_, ⟨hS.keys, hS.look' s.name⟩, ?_⟩
      (conv => whnf)
      refine CallLeaf.w (by (repeat' (first | exact ArgsTo.nil | refine ArgsTo.cons ?_ ?_ | exact ArgTo.mk' rfl (Wk.refl _) | exact ArgTo.mk' rfl Wk.nilm | exact ArgTo.mk' rfl (Wk.int (by simp)) | exact ArgTo.mk' rfl (Wk.list _ _) | exact ArgTo.mk' rfl (Wk.agg (by (repeat' (first | exact Wks.nil | refine Wks.cons ?_ ?_ | exact Wk.refl _ | exact Wk.nilm | exact Wk.list _ _  | exact Wk.natN rfl | refine Wk.agg ?_))))))) (must_t' _ 12 (by rw [hvs.2]; rfl)) rfl ?_
      (conv => whnf)
      refine ⟨_, ⟨hS.keys, rfl⟩, ?_⟩
      (conv => whnf)
      refine ⟨_, appL (f := Ob.Sym.enc) (xs := acc) (ys := [s]) (zs := acc ++ [s]) rfl rfl (fun _ => rfl) rfl (by rw [List.length_append]; show (_ + 1) * 40 ≤ _; omega), ?_⟩
      (conv => whnf)
      refine ⟨_, add64 (c := ((k + 1 : Nat) : Int)) (by omega) (by omega), ?_⟩
      (conv => whnf)
      refine ⟨(k + 1, q', acc ++ [s], mset es (.string (sB s.name)) (vB true)), ⟨⟨by show k + 1 ≤ n; omega, by show q'.length ≤ _; omega, by simp [hal], by have := hS.set s.name; simpa using this, ?_⟩, by show n - (k + 1) < n - k; omega⟩, ?_⟩
      · show Ob.decL (n - (k + 1)) q' (acc ++ [s]) = _
        rw [show n - (k + 1) = m by omega]; exact hd
      · (repeat' (first | exact trivial | exact Wk.refl _ | exact ObWk.refl _ | exact rfl | exact ⟨_, rfl⟩ | exact Nat.zero_lt_one | refine And.intro ?_ ?_ | unfold okTo | (unfold okO; conv => whnf) | (unfold okS; conv => whnf) | (unfold SlotOk; conv => whnf) | (unfold ObjOk; conv => whnf) | (unfold okCells; conv => whnf) | (unfold liveTo; conv => whnf) | exact Nat.zero_lt_succ _))
    · have hge : n - k = 0 := by have := of_decide_eq_false h2; omega
      rw [hge, Ob.decL] at hd
      simp at hd
end Go.Proofs.Ytfacepcmpijdpaa

/- Decode of objects: deferred, recovered. No condition. -/
set_option linter.unusedVariables false
set_option linter.unusedSimpArgs false
namespace Go.Proofs.Ytfacepcmpijdpaa
open Go Go.AL Go.AL.Ap Go.AL.Ob
set_option maxRecDepth 100000
set_option maxHeartbeats 4000000
theorem door_n (l : List Ob.Sym) (x : List UInt8) (c : Int) : DCall Try.prog Gl 40 [.ptr 0 0, .ptr 1 0] [.cells [.list .nat (SE l), LBn x], .cells [vI c]] none [.cells [.list .nat (SE l), LBn x], .cells [vI c]] := by
  refine DCall.enter hT hmix Try.func40 rfl rfl rfl rfl rfl rfl rfl rfl rfl rfl rfl rfl ?_
  (conv => whnf)
  refine ⟨[0, 1], rfl, by (try unfold pullOk); (repeat' (first | exact trivial | exact ObWk.refl _ | refine And.intro ?_ ?_ | unfold pullOk)), ?_⟩
  exact Wk.refl _
theorem door_p (c n : Int) : DCall Try.prog Gl 40 [.ptr 0 0, .ptr 1 0] [.cells [.nil, .nil], .cells [vI c]] (some (thr n)) [.cells [.nil, .nil], .cells [vI n]] := by
  refine DCall.enter hT hmix Try.func40 rfl rfl rfl rfl rfl rfl rfl rfl rfl rfl rfl rfl ?_
  (conv => whnf)
  refine ⟨[0, 1], rfl, by (try unfold pullOk); (repeat' (first | exact trivial | exact ObWk.refl _ | refine And.intro ?_ ?_ | unfold pullOk)), ?_⟩
  exact Wk.refl _
def encRO (r : Except Int (List Ob.Sym × List UInt8)) : Ob.Obj × Int := match r with | .ok (l, x) => (⟨l, x⟩, 0) | .error e => (⟨[], []⟩, e)
theorem odecode_ (r : List UInt8) (hr : r.length ≤ 1000000000) : FCall Try.prog Gl 26 [LB r] [] (.tuple [oDn (encRO (decO r)).1, vI (encRO (decO r)).2]) [] := by
  refine FCall.enterD hT hmix Try.func26 rfl rfl rfl rfl rfl rfl rfl rfl rfl rfl (fun hbd => ?_)
  (conv => whnf)
  refine ⟨[(0, 0), (8, 0)], rfl, by simp, fun ds => ?_⟩
  cases hd : decO r with
  | ok p =>
    obtain ⟨l, x⟩ := p
    (conv => whnf)
    refine CallLeaf.o [5136] (by (repeat' (first | exact ArgsTo.nil | refine ArgsTo.cons ?_ ?_ | exact ArgTo.mk' rfl (Wk.refl _) | exact ArgTo.mk' rfl Wk.nilm | exact ArgTo.mk' rfl (Wk.int (by simp)) | exact ArgTo.mk' rfl (Wk.list _ _) | exact ArgTo.mk' rfl (Wk.agg (by (repeat' (first | exact Wks.nil | refine Wks.cons ?_ ?_ | exact Wk.refl _ | exact Wk.nilm | exact Wk.list _ _  | exact Wk.natN rfl | refine Wk.agg ?_))))))) (object_ok r l x hd hr) rfl rfl (by (repeat' (first | exact trivial | exact rfl | refine And.intro ?_ ?_))) (by (repeat' (first | exact trivial | exact rfl | refine And.intro ?_ ?_))) (by (repeat' (first | exact trivial | exact rfl | refine And.intro ?_ ?_))) rfl rfl ?_
    (conv => whnf)
    refine Door.o [0, 8] (by (repeat' (first | exact ArgsTo.nil | refine ArgsTo.cons ?_ ?_ | exact ArgTo.mk' rfl (Wk.refl _) | exact ArgTo.mk' rfl Wk.nilm | exact ArgTo.mk' rfl (Wk.int (by simp)) | exact ArgTo.mk' rfl (Wk.list _ _) | exact ArgTo.mk' rfl (Wk.agg (by (repeat' (first | exact Wks.nil | refine Wks.cons ?_ ?_ | exact Wk.refl _ | exact Wk.nilm | exact Wk.list _ _  | exact Wk.natN rfl | refine Wk.agg ?_))))))) (door_n l x 0) rfl rfl (by (repeat' (first | exact trivial | exact rfl | refine And.intro ?_ ?_))) (by (repeat' (first | exact trivial | exact rfl | refine And.intro ?_ ?_))) (by (repeat' (first | exact trivial | exact rfl | refine And.intro ?_ ?_))) rfl rfl (fun d h => nomatch h) ?_
    (conv => whnf)
    refine ⟨[], rfl, by (try unfold pullOk); (repeat' (first | exact trivial | exact ObWk.refl _ | refine And.intro ?_ ?_ | unfold pullOk)), ?_⟩
    exact Wk.refl _
  | error e =>
    (conv => whnf)
    refine CallLeaf.po [5136] (by (repeat' (first | exact ArgsTo.nil | refine ArgsTo.cons ?_ ?_ | exact ArgTo.mk' rfl (Wk.refl _) | exact ArgTo.mk' rfl Wk.nilm | exact ArgTo.mk' rfl (Wk.int (by simp)) | exact ArgTo.mk' rfl (Wk.list _ _) | exact ArgTo.mk' rfl (Wk.agg (by (repeat' (first | exact Wks.nil | refine Wks.cons ?_ ?_ | exact Wk.refl _ | exact Wk.nilm | exact Wk.list _ _  | exact Wk.natN rfl | refine Wk.agg ?_))))))) (object_f r e hd hr) rfl rfl (by (repeat' (first | exact trivial | exact rfl | refine And.intro ?_ ?_))) (by (repeat' (first | exact trivial | exact rfl | refine And.intro ?_ ?_))) (by (repeat' (first | exact trivial | exact rfl | refine And.intro ?_ ?_))) rfl rfl ?_
    (conv => whnf)
    refine Door.o [0, 8] (by (repeat' (first | exact ArgsTo.nil | refine ArgsTo.cons ?_ ?_ | exact ArgTo.mk' rfl (Wk.refl _) | exact ArgTo.mk' rfl Wk.nilm | exact ArgTo.mk' rfl (Wk.int (by simp)) | exact ArgTo.mk' rfl (Wk.list _ _) | exact ArgTo.mk' rfl (Wk.agg (by (repeat' (first | exact Wks.nil | refine Wks.cons ?_ ?_ | exact Wk.refl _ | exact Wk.nilm | exact Wk.list _ _  | exact Wk.natN rfl | refine Wk.agg ?_))))))) (door_p 0 e) rfl rfl (by (repeat' (first | exact trivial | exact rfl | refine And.intro ?_ ?_))) (by (repeat' (first | exact trivial | exact rfl | refine And.intro ?_ ?_))) (by (repeat' (first | exact trivial | exact rfl | refine And.intro ?_ ?_))) rfl rfl (fun d h => by injection h with h; subst h; exact fun _ => rfl) ?_
    (conv => whnf)
    refine ⟨[], rfl, by (try unfold pullOk); (repeat' (first | exact trivial | exact ObWk.refl _ | refine And.intro ?_ ?_ | unfold pullOk)), ?_⟩
    exact Wk.tuple (Wks.cons (Wk.agg (Wks.cons (Wk.natN rfl) (Wks.cons (Wk.natN rfl) Wks.nil))) (Wks.cons (Wk.refl _) Wks.nil))
end Go.Proofs.Ytfacepcmpijdpaa

/- Valid objects; encoding; finding. No condition. -/
set_option linter.unusedVariables false
set_option linter.unusedSimpArgs false
namespace Go.Proofs.Ytfacepcmpijdpaa
open Go Go.AL Go.AL.Ap Go.AL.Ob
set_option maxRecDepth 100000
set_option maxHeartbeats 4000000
theorem okL_step {l : List Ob.Sym} {k : Nat} {s : Ob.Sym} (h : l[k]? = some s) : okL [] (l.take (k + 1)) = (okL [] (l.take k) && (valid s && !Ob.has (l.take k) s.name)) := by
  rw [List.take_add_one, h, Option.toList_some, okL_app]
  simp [okL]
theorem okL_bad {l : List Ob.Sym} {k : Nat} {s : Ob.Sym} (h : l[k]? = some s) (hb : (valid s && !Ob.has (l.take k) s.name) = false) : validO l = false := by
  have h1 := okL_step h
  rw [hb, Bool.and_false] at h1
  have h2 := okL_app (l.take (k + 1)) (l.drop (k + 1)) []
  rw [List.take_append_drop, h1, Bool.false_and] at h2
  simp [validO, h2]
theorem oValid_ (l : List Ob.Sym) (x : List UInt8) (hl : l.length ≤ 1000000000) : FCall Try.prog Gl 30 [oD ⟨l, x⟩] [] (vB (validO l)) [] := by
  refine FCall.enterL hT hmix [] Try.func30 rfl rfl rfl fun hbd => ?_
  (conv => whnf)
  refine LWp.loop hT hmix [] (fun x : Nat × Ents => [(10, vI x.1)]) (fun x => [(512, .map x.2)]) (fun y => y.1 ≤ l.length ∧ okL [] (l.take y.1) = true ∧ Wt.Sn y.2 ((l.take y.1).map Ob.Sym.name)) (fun x => l.length - x.1) (0, []) ⟨Nat.zero_le _, rfl, Wt.Sn.nil⟩ ?_
  (conv => whnf)
  refine ⟨?_, fun ⟨k, es⟩ ⟨hk, hkk, hS⟩ => ?_⟩
  · (repeat' (first | exact trivial | exact Wk.refl _ | exact ObWk.refl _ | exact rfl | exact ⟨_, rfl⟩ | exact Nat.zero_lt_one | refine And.intro ?_ ?_ | unfold okTo | (unfold okO; conv => whnf) | (unfold okS; conv => whnf) | (unfold SlotOk; conv => whnf) | (unfold ObjOk; conv => whnf) | (unfold okCells; conv => whnf) | (unfold liveTo; conv => whnf) | exact Nat.zero_lt_succ _))
  · replace hk : k ≤ l.length := hk
    replace hkk : okL [] (l.take k) = true := hkk
    replace hS : Wt.Sn es ((l.take k).map Ob.Sym.name) := hS
    (conv => whnf)
    refine split_intro (fun h => ?_) (fun h => ?_)
    · have hlt : k < l.length := by simpa using h
      obtain ⟨s, hs⟩ := exI hlt
      (conv => whnf)
      refine ⟨_, ⟨by omega, getMap hs⟩, ?_⟩
      (conv => whnf)
      refine CallLeaf.w (by (repeat' (first | exact ArgsTo.nil | refine ArgsTo.cons ?_ ?_ | exact ArgTo.mk' rfl (Wk.refl _) | exact ArgTo.mk' rfl Wk.nilm | exact ArgTo.mk' rfl (Wk.int (by simp)) | exact ArgTo.mk' rfl (Wk.list _ _) | exact ArgTo.mk' rfl (Wk.agg (by (repeat' (first | exact Wks.nil | refine Wks.cons ?_ ?_ | exact Wk.refl _ | exact Wk.nilm | exact Wk.list _ _  | exact Wk.natN rfl | refine Wk.agg ?_))))))) (valid_ s) rfl ?_
      (conv => whnf)
      refine split_intro (fun hv => ?_) (fun hv => ?_)
      · have hv' : valid s = false := by simpa using hv
        (conv => whnf)
        exact Wk.bool (okL_bad hs (by simp [hv'])).symm
      · have hv' : valid s = true := by simpa using hv
        (conv => whnf)
        refine ⟨_, ⟨hS.keys, hS.look' s.name⟩, ?_⟩
        (conv => whnf)
        refine split_intro (fun hm => ?_) (fun hm => ?_)
        · have hm' : s.name ∈ (l.take k).map Ob.Sym.name := of_decide_eq_true hm
          (conv => whnf)
          exact Wk.bool (okL_bad hs (by rw [has_mem]; simp only [hm', decide_true]; simp)).symm
        · (conv => whnf)
          refine ⟨_, ⟨hS.keys, rfl⟩, ?_⟩
          (conv => whnf)
          refine ⟨_, add64 (c := ((k + 1 : Nat) : Int)) (by omega) (by omega), ?_⟩
          (conv => whnf)
          refine ⟨(k + 1, mset es (.string (sB s.name)) (vB true)), ⟨⟨by show k + 1 ≤ l.length; omega, ?_, ?_⟩, by show l.length - (k + 1) < l.length - k; omega⟩, ?_⟩
          · show okL [] (l.take (k + 1)) = true
            rw [okL_step hs, hkk, hv', has_mem, hm]; rfl
          · have := hS.set s.name
            have e : (l.take (k + 1)).map Ob.Sym.name = (l.take k).map Ob.Sym.name ++ [s.name] := by rw [List.take_add_one, hs]; simp
            show Wt.Sn _ ((l.take (k + 1)).map Ob.Sym.name)
            rw [e]; exact this
          · (repeat' (first | exact trivial | exact Wk.refl _ | exact ObWk.refl _ | exact rfl | exact ⟨_, rfl⟩ | exact Nat.zero_lt_one | refine And.intro ?_ ?_ | unfold okTo | (unfold okO; conv => whnf) | (unfold okS; conv => whnf) | (unfold SlotOk; conv => whnf) | (unfold ObjOk; conv => whnf) | (unfold okCells; conv => whnf) | (unfold liveTo; conv => whnf) | exact Nat.zero_lt_succ _))
    · have hge : l.length ≤ k := by simpa using h
      rw [List.take_of_length_le hge] at hkk
      (conv => whnf)
      exact Wk.bool (by simp only [validO, hkk, Bool.true_and]; congr 1; simp; omega)
theorem find_step {l : List Ob.Sym} {k : Nat} {s : Ob.Sym} {n : Str} (h : l[k]? = some s) (hkk : Ob.find (l.take k) n = none) : Ob.find (l.take (k + 1)) n = if s.name = n then some s else none := by
  unfold Ob.find at *
  rw [List.take_add_one, h, Option.toList_some, List.find?_append, hkk]
  by_cases e : s.name = n <;> simp [e]
theorem find_hit {l : List Ob.Sym} {k : Nat} {s : Ob.Sym} {n : Str} (h : l[k]? = some s) (hkk : Ob.find (l.take k) n = none) (e : s.name = n) : Ob.find l n = some s := by
  have h1 := find_step h hkk
  rw [if_pos e] at h1
  unfold Ob.find at *
  have h2 : l = l.take (k + 1) ++ l.drop (k + 1) := (List.take_append_drop _ _).symm
  rw [h2, List.find?_append, h1]; rfl
theorem ofind_ (l : List Ob.Sym) (x : List UInt8) (n : Str) (hl : l.length ≤ 1000000000) : FCall Try.prog Gl 28 [oD ⟨l, x⟩, sD n] [] (.tuple [.agg ((Ob.find l n).getD ⟨[], 0, 0, 0⟩).enc, vB (Ob.find l n).isSome]) [] := by
  refine FCall.enterL hT hmix [] Try.func28 rfl rfl rfl fun hbd => ?_
  (conv => whnf)
  refine LWp.loop hT hmix [] (fun x : Nat => [(11, vI x)]) (fun x => []) (fun y => y ≤ l.length ∧ Ob.find (l.take y) n = none) (fun x => l.length - x) 0 ⟨Nat.zero_le _, rfl⟩ ?_
  (conv => whnf)
  refine ⟨?_, fun k ⟨hk, hkk⟩ => ?_⟩
  · (repeat' (first | exact trivial | exact Wk.refl _ | exact ObWk.refl _ | exact rfl | exact ⟨_, rfl⟩ | exact Nat.zero_lt_one | refine And.intro ?_ ?_ | unfold okTo | (unfold okO; conv => whnf) | (unfold okS; conv => whnf) | (unfold SlotOk; conv => whnf) | (unfold ObjOk; conv => whnf) | (unfold okCells; conv => whnf) | (unfold liveTo; conv => whnf) | exact Nat.zero_lt_succ _))
  · (conv => whnf)
    refine split_intro (fun h => ?_) (fun h => ?_)
    · have hlt : k < l.length := by simpa using h
      obtain ⟨s, hs⟩ := exI hlt
      (conv => whnf)
      refine ⟨_, ⟨by omega, getMap hs⟩, ?_⟩
      (conv => whnf)
      refine split_intro (fun hc => ?_) (fun hc => ?_)
      · have hc' : s.name = n := of_decide_eq_true hc
        have hF := find_hit hs hkk hc'
        (conv => whnf)
        exact Wk.of_eq (by rw [hF]; rfl)
      · have hc' : ¬ s.name = n := of_decide_eq_false hc
        (conv => whnf)
        refine ⟨_, add64 (c := ((k + 1 : Nat) : Int)) (by omega) (by omega), ?_⟩
        (conv => whnf)
        refine ⟨k + 1, ⟨⟨by omega, by rw [find_step hs hkk, if_neg hc']⟩, by simp only []; omega⟩, ?_⟩
        (repeat' (first | exact trivial | exact Wk.refl _ | exact ObWk.refl _ | exact rfl | exact ⟨_, rfl⟩ | exact Nat.zero_lt_one | refine And.intro ?_ ?_ | unfold okTo | (unfold okO; conv => whnf) | (unfold okS; conv => whnf) | (unfold SlotOk; conv => whnf) | (unfold ObjOk; conv => whnf) | (unfold okCells; conv => whnf) | (unfold liveTo; conv => whnf) | exact Nat.zero_lt_succ _))
    · have hge : l.length ≤ k := by simpa using h
      rw [List.take_of_length_le hge] at hkk
      (conv => whnf)
      exact Wk.of_eq (by rw [hkk]; rfl)
end Go.Proofs.Ytfacepcmpijdpaa

/- Encoding objects. No condition. -/
set_option linter.unusedVariables false
set_option linter.unusedSimpArgs false
namespace Go.Proofs.Ytfacepcmpijdpaa
open Go Go.AL Go.AL.Ap Go.AL.Ob
set_option maxRecDepth 100000
set_option maxHeartbeats 4000000
def encRO' (o : Ob.Obj) : List UInt8 × Int := if validO o.syms then (encO o, 0) else ([], 12)
theorem encL_take {l : List Ob.Sym} {k : Nat} {s : Ob.Sym} (h : l[k]? = some s) : encL (l.take (k + 1)) = encL (l.take k) ++ encS s := by
  rw [List.take_add_one, h]; simp [encL]
theorem encL_le (l : List Ob.Sym) (k : Nat) : (encL (l.take k)).length ≤ (encL l).length := by
  conv => rhs; rw [← List.take_append_drop k l]
  simp only [encL, List.flatMap_append, List.length_append]
  omega
theorem okL_mem : ∀ (l acc : List Ob.Sym), okL acc l = true → ∀ s ∈ l, valid s = true
  | [], _, _, s, h => by simp at h
  | x :: l, acc, h, s, hs => by
    simp only [okL, Bool.and_eq_true] at h
    rcases List.mem_cons.1 hs with rfl | hs
    · exact h.1.1
    · exact okL_mem l _ h.2 s hs
theorem oencode_ (l : List Ob.Sym) (x : List UInt8) (hx : (encO ⟨l, x⟩).length ≤ 1000000000) : FCall Try.prog Gl 24 [oD ⟨l, x⟩] [] (.tuple [LBn (encRO' ⟨l, x⟩).1, vI (encRO' ⟨l, x⟩).2]) [] := by
  have hlen : (encO ⟨l, x⟩).length = 8 + (encL l).length + x.length := by simp [encO, magic, W4]; omega
  have hll : l.length ≤ (encL l).length := by
    clear hx hlen
    induction l with
    | nil => simp
    | cons s l ih => 
      have : encL (s :: l) = encS s ++ encL l := by simp [encL]
      rw [this]; simp [encS]; omega
  refine FCall.enterL hT hmix [] Try.func24 rfl rfl rfl fun hbd => ?_
  (conv => whnf)
  refine CallLeaf.w (by (repeat' (first | exact ArgsTo.nil | refine ArgsTo.cons ?_ ?_ | exact ArgTo.mk' rfl (Wk.refl _) | exact ArgTo.mk' rfl Wk.nilm | exact ArgTo.mk' rfl (Wk.int (by simp)) | exact ArgTo.mk' rfl (Wk.list _ _) | exact ArgTo.mk' rfl (Wk.agg (by (repeat' (first | exact Wks.nil | refine Wks.cons ?_ ?_ | exact Wk.refl _ | exact Wk.nilm | exact Wk.list _ _  | exact Wk.natN rfl | refine Wk.agg ?_))))))) (oValid_ l x (by omega)) rfl ?_
  (conv => whnf)
  refine split_intro (fun hv => ?_) (fun hv => ?_)
  · have hv' : validO l = false := by simpa using hv
    have hR : encRO' ⟨l, x⟩ = ([], 12) := by simp [encRO', hv']
    rw [hR]
    (conv => whnf)
    exact Wk.tuple (Wks.cons (Wk.natN rfl) (Wks.cons (Wk.refl _) Wks.nil))
  · have hv' : validO l = true := by simpa using hv
    have hR : encRO' ⟨l, x⟩ = (encO ⟨l, x⟩, 0) := by simp [encRO', hv']
    have hok := hv'
    simp only [validO, Bool.and_eq_true, decide_eq_true_eq] at hok
    rw [hR]
    (conv => whnf)
    refine CallLeaf.o [1536] (by (repeat' (first | exact ArgsTo.nil | refine ArgsTo.cons ?_ ?_ | exact ArgTo.mk' rfl (Wk.refl _) | exact ArgTo.mk' rfl Wk.nilm | exact ArgTo.mk' rfl (Wk.int (by simp)) | exact ArgTo.mk' rfl (Wk.list _ _) | exact ArgTo.mk' rfl (Wk.agg (by (repeat' (first | exact Wks.nil | refine Wks.cons ?_ ?_ | exact Wk.refl _ | exact Wk.nilm | exact Wk.list _ _  | exact Wk.natN rfl | refine Wk.agg ?_))))))) (oput_ magic l.length (by omega) (by decide)) rfl rfl (by (repeat' (first | exact trivial | exact rfl | refine And.intro ?_ ?_))) (by (repeat' (first | exact trivial | exact rfl | refine And.intro ?_ ?_))) (by (repeat' (first | exact trivial | exact rfl | refine And.intro ?_ ?_))) rfl rfl ?_
    (conv => whnf)
    refine LWp.loop hT hmix [] (fun k : Nat => [(19, vI k), (4, .list (.tok 1536) (B (magic ++ W4 l.length ++ encL (l.take k))))]) (fun k => [(1536, .tok (B (magic ++ W4 l.length ++ encL (l.take k))).length 1)]) (fun k => k ≤ l.length) (fun k => l.length - k) 0 (Nat.zero_le _) ?_
    (conv => whnf)
    refine ⟨?_, fun k hk => ?_⟩
    · (repeat' (first | exact trivial | exact Wk.refl _ | exact ObWk.refl _ | exact rfl | exact ⟨_, rfl⟩ | exact Nat.zero_lt_one | refine And.intro ?_ ?_ | unfold okTo | (unfold okO; conv => whnf) | (unfold okS; conv => whnf) | (unfold SlotOk; conv => whnf) | (unfold ObjOk; conv => whnf) | (unfold okCells; conv => whnf) | (unfold liveTo; conv => whnf) | exact Nat.zero_lt_succ _))
    · have hm : magic.length = 4 := rfl
      have hn1 := encL_le l k
      have hn2 := encL_le l (k + 1)
      (conv => whnf)
      refine split_intro (fun h => ?_) (fun h => ?_)
      · have hlt : k < l.length := by simpa using h
        obtain ⟨s, hs⟩ := exI hlt
        have e3 := encL_take hs
        have hle : (encL (l.take k)).length + (encS s).length = (encL (l.take (k + 1))).length := by rw [e3]; simp
        have hsl := encS_len s
        have hval := okL_mem _ _ hok.1 s (List.mem_of_getElem? hs)
        obtain ⟨v1, v2, v3, v4, v5, v6⟩ := valid_iff.1 hval
        obtain ⟨b1, b2, b3, b4⟩ := bind_le v6
        obtain ⟨nm, bd, sz, al⟩ := s
        obtain ⟨bd, rfl⟩ := Int.eq_ofNat_of_zero_le (show 0 ≤ bd by simp only at b1; omega)
        obtain ⟨sz, rfl⟩ := Int.eq_ofNat_of_zero_le (show 0 ≤ sz from v4)
        obtain ⟨al, rfl⟩ := Int.eq_ofNat_of_zero_le (show 0 ≤ al from b3)
        simp only at v1 v2 v3 v4 v5 v6 b1 b2 b3 b4 hsl
        (conv => whnf)
        refine ⟨_, ⟨by omega, getMap hs⟩, ?_⟩
        (conv => whnf)
        refine ⟨_, wrapU8 _, ?_⟩
        (conv => whnf)
        refine ⟨_, appL (f := byteD) (xs := magic ++ W4 l.length ++ encL (l.take k)) (ys := [UInt8.ofNat bd]) (zs := magic ++ W4 l.length ++ encL (l.take k) ++ [UInt8.ofNat bd]) rfl rfl (fun _ => rfl) rfl (by simp only [List.length_append, List.length_singleton, W4_len] at *; show _ * 1 ≤ _; omega), ?_⟩
        (conv => whnf)
        refine CallLeaf.o [1536] (by (repeat' (first | exact ArgsTo.nil | refine ArgsTo.cons ?_ ?_ | exact ArgTo.mk' rfl (Wk.refl _) | exact ArgTo.mk' rfl Wk.nilm | exact ArgTo.mk' rfl (Wk.int (by simp)) | exact ArgTo.mk' rfl (Wk.list _ _) | exact ArgTo.mk' rfl (Wk.agg (by (repeat' (first | exact Wks.nil | refine Wks.cons ?_ ?_ | exact Wk.refl _ | exact Wk.nilm | exact Wk.list _ _  | exact Wk.natN rfl | refine Wk.agg ?_))))))) (oput_ (magic ++ W4 l.length ++ encL (l.take k) ++ [UInt8.ofNat bd]) sz (by omega) (by simp only [List.length_append, List.length_singleton, W4_len]; omega)) rfl rfl (by (repeat' (first | exact trivial | exact rfl | refine And.intro ?_ ?_))) (by (repeat' (first | exact trivial | exact rfl | refine And.intro ?_ ?_))) (by (repeat' (first | exact trivial | exact rfl | refine And.intro ?_ ?_))) rfl rfl ?_
        (conv => whnf)
        refine CallLeaf.o [1536] (by (repeat' (first | exact ArgsTo.nil | refine ArgsTo.cons ?_ ?_ | exact ArgTo.mk' rfl (Wk.refl _) | exact ArgTo.mk' rfl Wk.nilm | exact ArgTo.mk' rfl (Wk.int (by simp)) | exact ArgTo.mk' rfl (Wk.list _ _) | exact ArgTo.mk' rfl (Wk.agg (by (repeat' (first | exact Wks.nil | refine Wks.cons ?_ ?_ | exact Wk.refl _ | exact Wk.nilm | exact Wk.list _ _  | exact Wk.natN rfl | refine Wk.agg ?_))))))) (oput_ (magic ++ W4 l.length ++ encL (l.take k) ++ [UInt8.ofNat bd] ++ W4 sz) al (by omega) (by simp only [List.length_append, List.length_singleton, W4_len]; omega)) rfl rfl (by (repeat' (first | exact trivial | exact rfl | refine And.intro ?_ ?_))) (by (repeat' (first | exact trivial | exact rfl | refine And.intro ?_ ?_))) (by (repeat' (first | exact trivial | exact rfl | refine And.intro ?_ ?_))) rfl rfl ?_
        (conv => whnf)
        refine ⟨_, wrapU8 _, ?_⟩
        (conv => whnf)
        refine ⟨_, appL (f := byteD) (xs := magic ++ W4 l.length ++ encL (l.take k) ++ [UInt8.ofNat bd] ++ W4 sz ++ W4 al) (ys := [UInt8.ofNat nm.length]) (zs := magic ++ W4 l.length ++ encL (l.take k) ++ [UInt8.ofNat bd] ++ W4 sz ++ W4 al ++ [UInt8.ofNat nm.length]) rfl rfl (fun _ => rfl) rfl (by simp only [List.length_append, List.length_singleton, W4_len] at *; show _ * 1 ≤ _; omega), ?_⟩
        (conv => whnf)
        refine ⟨_, appL (f := byteD) (xs := magic ++ W4 l.length ++ encL (l.take k) ++ [UInt8.ofNat bd] ++ W4 sz ++ W4 al ++ [UInt8.ofNat nm.length]) (ys := nm) (zs := magic ++ W4 l.length ++ encL (l.take k) ++ [UInt8.ofNat bd] ++ W4 sz ++ W4 al ++ [UInt8.ofNat nm.length] ++ nm) rfl rfl (fun _ => rfl) rfl (by simp only [List.length_append, List.length_singleton, W4_len] at *; show _ * 1 ≤ _; omega), ?_⟩
        (conv => whnf)
        refine ⟨_, add64 (c := ((k + 1 : Nat) : Int)) (by omega) (by omega), ?_⟩
        (conv => whnf)
        have e4 : magic ++ W4 l.length ++ encL (l.take k) ++ [UInt8.ofNat bd] ++ W4 sz ++ W4 al ++ [UInt8.ofNat nm.length] ++ nm = magic ++ W4 l.length ++ encL (l.take (k + 1)) := by rw [e3]; simp [encS]
        refine ⟨k + 1, ⟨by omega, by simp only []; omega⟩, ?_⟩
        simp only [← e4]
        (repeat' (first | exact trivial | exact Wk.refl _ | exact ObWk.refl _ | exact rfl | exact ⟨_, rfl⟩ | exact Nat.zero_lt_one | refine And.intro ?_ ?_ | unfold okTo | (unfold okO; conv => whnf) | (unfold okS; conv => whnf) | (unfold SlotOk; conv => whnf) | (unfold ObjOk; conv => whnf) | (unfold okCells; conv => whnf) | (unfold liveTo; conv => whnf) | exact Nat.zero_lt_succ _))
      · have hge : l.length ≤ k := by simpa using h
        (conv => whnf)
        refine ⟨_, appL (f := byteD) (xs := magic ++ W4 l.length ++ encL (l.take k)) (ys := x) (zs := magic ++ W4 l.length ++ encL (l.take k) ++ x) rfl rfl (fun _ => rfl) rfl (by simp only [List.length_append, List.length_singleton, W4_len] at *; show _ * 1 ≤ _; omega), ?_⟩
        (conv => whnf)
        exact Wk.tuple (Wks.cons (Wk.nat' (by rw [List.take_of_length_le hge]; rfl)) (Wks.cons (Wk.refl _) Wks.nil))
end Go.Proofs.Ytfacepcmpijdpaa

/- The reference of objects: valid symbols and objects. No condition. -/
set_option linter.unusedVariables false
set_option linter.unusedSimpArgs false
namespace Go.Proofs.Ytfacepcmpijdpaa
open Go Go.AL Go.AL.Ap Go.AL.Ob
set_option maxRecDepth 100000
set_option maxHeartbeats 4000000
theorem pows_at : ∀ i < 17, pows[i]? = some ((2 ^ i : Nat) : Int) := by decide
theorem pow_le16 {j : Nat} (h : (2 ^ j : Nat) ≤ 65536) : j ≤ 16 := by
  rcases Nat.lt_or_ge 16 j with hj | hj
  · have : 2 ^ 17 ≤ 2 ^ j := Nat.pow_le_pow_right (by decide) hj
    omega
  · exact hj
theorem two_step {j : Nat} (h : (2 ^ j : Nat) ≤ 65536) : intBin .mul .i64 2 ((2 ^ j : Nat) : Int) = some ((2 ^ (j + 1) : Nat) : Int) := by
  rw [Nat.pow_succ]
  generalize 2 ^ j = m at *
  exact mul64 (by push_cast; omega) (by push_cast; omega)
theorem power_ (n : Int) : FCall Try.prog Gl 54 [vI n] [] (vB (power n)) [] := by
  refine FCall.enterL hT hmix [] Try.func54 rfl rfl rfl fun hbd => ?_
  (conv => whnf)
  refine LWp.loop hT hmix [] (fun j : Nat => [(3, vI ((2 ^ j : Nat) : Int))]) (fun _ => []) (fun j => j ≤ 17 ∧ n ∉ pows.take j) (fun j => 17 - j) 0 ⟨Nat.zero_le _, (List.not_mem_nil : n ∉ ([] : List Int))⟩ ?_
  (conv => whnf)
  refine ⟨?_, fun j ⟨hj, hn⟩ => ?_⟩
  · (repeat' (first | exact trivial | exact Wk.refl _ | exact ObWk.refl _ | exact rfl | exact ⟨_, rfl⟩ | exact Nat.zero_lt_one | refine And.intro ?_ ?_ | unfold okTo | (unfold okO; conv => whnf) | (unfold okS; conv => whnf) | (unfold SlotOk; conv => whnf) | (unfold ObjOk; conv => whnf) | (unfold okCells; conv => whnf) | (unfold liveTo; conv => whnf) | exact Nat.zero_lt_succ _))
  · (conv => whnf)
    refine split_intro (fun h => ?_) (fun h => ?_)
    · have h' : (2 ^ j : Nat) ≤ 65536 := Int.ofNat_le.1 (show ((2 ^ j : Nat) : Int) ≤ ((65536 : Nat) : Int) from of_decide_eq_true h)
      have hj16 := pow_le16 h'
      have hp := pows_at j (by omega)
      (conv => whnf)
      refine split_intro (fun h2 => ?_) (fun h2 => ?_)
      · have e : ((2 ^ j : Nat) : Int) = n := eq_of_beq h2
        (conv => whnf)
        exact Wk.bool (by
          symm; unfold power; rw [decide_eq_true_eq, ← e]
          exact List.mem_of_getElem? hp)
      · have e : ¬ ((2 ^ j : Nat) : Int) = n := fun e => by rw [e] at h2; simp at h2
        (conv => whnf)
        refine ⟨_, two_step h', ?_⟩
        (conv => whnf)
        refine ⟨j + 1, ⟨⟨by omega, ?_⟩, by simp only []; omega⟩, ?_⟩
        · rw [List.take_add_one, hp]
          simp only [Option.toList_some, List.mem_append, List.mem_singleton, not_or]
          exact ⟨hn, fun h => e h.symm⟩
        · (repeat' (first | exact trivial | exact Wk.refl _ | exact ObWk.refl _ | exact rfl | exact ⟨_, rfl⟩ | exact Nat.zero_lt_one | refine And.intro ?_ ?_ | unfold okTo | (unfold okO; conv => whnf) | (unfold okS; conv => whnf) | (unfold SlotOk; conv => whnf) | (unfold ObjOk; conv => whnf) | (unfold okCells; conv => whnf) | (unfold liveTo; conv => whnf) | exact Nat.zero_lt_succ _))
    · have h' : ¬ ((2 ^ j : Nat) : Int) ≤ 65536 := of_decide_eq_false h
      have hj17 : j = 17 := by
        rcases Nat.lt_or_ge j 17 with hlt | hge
        · have : 2 ^ j ≤ 65536 := Nat.pow_le_pow_right (j := 16) (by decide) (by omega)
          exact absurd (show ((2 ^ j : Nat) : Int) ≤ ((65536 : Nat) : Int) from Int.ofNat_le.2 this) h'
        · omega
      subst hj17
      (conv => whnf)
      exact Wk.bool (by symm; unfold power; rw [decide_eq_false_iff_not]; exact hn)
theorem rsym_ (s : Ob.Sym) (hb : s.name.length ≤ 1000000000) : FCall Try.prog Gl 42 [.agg s.enc] [] (vB (valid s)) [] := by
  obtain ⟨nm, bd, sz, al⟩ := s
  have hsz := sB_sz nm
  replace hb : nm.length ≤ 1000000000 := hb
  refine FCall.enterL hT hmix [] Try.func42 rfl rfl rfl fun hbd => ?_
  (conv => whnf)
  refine split_intro (fun h1 => ?_) (fun h1 => ?_)
  · have h1' : ((sB nm).size : Int) = 0 := eq_of_beq h1
    (conv => whnf)
    exact Wk.bool (vbad (by simp only; omega)).symm
  · have h1' : ¬ ((sB nm).size : Int) = 0 := by simpa using h1
    (conv => whnf)
    refine split_intro (fun h2 => ?_) (fun h2 => ?_)
    · have h2' : (255 : Int) < (sB nm).size := of_decide_eq_true h2
      (conv => whnf)
      exact Wk.bool (vbad (by simp only; omega)).symm
    · have h2' : ¬ ((255 : Int) < (sB nm).size) := of_decide_eq_false h2
      (conv => whnf)
      refine split_intro (fun h4 => ?_) (fun h4 => ?_)
      · have h4' : sz < 0 := of_decide_eq_true h4
        (conv => whnf)
        exact Wk.bool (vbad (by simp only; omega)).symm
      · have h4' : ¬ (sz < 0) := of_decide_eq_false h4
        (conv => whnf)
        refine split_intro (fun h5 => ?_) (fun h5 => ?_)
        · have h5' : (4294967295 : Int) < sz := of_decide_eq_true h5
          (conv => whnf)
          exact Wk.bool (vbad (by simp only; omega)).symm
        · have h5' : ¬ ((4294967295 : Int) < sz) := of_decide_eq_false h5
          (conv => whnf)
          refine LWp.loop hT hmix [] (fun k : Nat => [(3, vI k)]) (fun _ => []) (fun k => k ≤ nm.length ∧ (0 : UInt8) ∉ nm.take k) (fun k => nm.length - k) 0 ⟨Nat.zero_le _, by simp⟩ ?_
          (conv => whnf)
          refine ⟨?_, fun k ⟨hk, hkk⟩ => ?_⟩
          · (repeat' (first | exact trivial | exact Wk.refl _ | exact ObWk.refl _ | exact rfl | exact ⟨_, rfl⟩ | exact Nat.zero_lt_one | refine And.intro ?_ ?_ | unfold okTo | (unfold okO; conv => whnf) | (unfold okS; conv => whnf) | (unfold SlotOk; conv => whnf) | (unfold ObjOk; conv => whnf) | (unfold okCells; conv => whnf) | (unfold liveTo; conv => whnf) | exact Nat.zero_lt_succ _))
          · (conv => whnf)
            refine split_intro (fun h => ?_) (fun h => ?_)
            · have hlt : k < nm.length := by have := of_decide_eq_true h; simp only at this; omega
              obtain ⟨x, hx⟩ := exI hlt
              (conv => whnf)
              refine ⟨x, ⟨by omega, by simpa using hx⟩, ?_⟩
              (conv => whnf)
              refine split_intro (fun h6 => ?_) (fun h6 => ?_)
              · have hx0 : x = 0 := by
                  have : (x.toNat : Int) = 0 := by simpa using h6
                  exact UInt8.toNat_inj.1 (by simpa using this)
                (conv => whnf)
                exact Wk.bool (vbad (fun h => h.2.2.1 (by rw [← hx0]; exact List.mem_of_getElem? hx))).symm
              · have hx0 : ¬ 0 = x := by
                  intro e; subst e; simp at h6
                (conv => whnf)
                refine ⟨_, add64 (c := ((k + 1 : Nat) : Int)) (by omega) (by omega), ?_⟩
                (conv => whnf)
                refine ⟨k + 1, ⟨⟨by omega, ?_⟩, by simp only []; omega⟩, ?_⟩
                · rw [List.take_add_one, hx]; simp [hkk, hx0]
                · (repeat' (first | exact trivial | exact Wk.refl _ | exact ObWk.refl _ | exact rfl | exact ⟨_, rfl⟩ | exact Nat.zero_lt_one | refine And.intro ?_ ?_ | unfold okTo | (unfold okO; conv => whnf) | (unfold okS; conv => whnf) | (unfold SlotOk; conv => whnf) | (unfold ObjOk; conv => whnf) | (unfold okCells; conv => whnf) | (unfold liveTo; conv => whnf) | exact Nat.zero_lt_succ _))
            · have hge : nm.length ≤ k := by have := of_decide_eq_false h; simp only at this; omega
              rw [List.take_of_length_le hge] at hkk
              rw [vgood (s := ⟨nm, bd, sz, al⟩) (by simp only; omega) (by simp only; omega) hkk (by simp only; omega) (by simp only; omega)]
              (conv => whnf)
              refine split_intro (fun b3 => ?_) (fun b3 => ?_)
              · have b3' : bd = 3 := eq_of_beq b3
                (conv => whnf)
                refine CallLeaf.w (by (repeat' (first | exact ArgsTo.nil | refine ArgsTo.cons ?_ ?_ | exact ArgTo.mk' rfl (Wk.refl _) | exact ArgTo.mk' rfl Wk.nilm | exact ArgTo.mk' rfl (Wk.int (by simp)) | exact ArgTo.mk' rfl (Wk.list _ _) | exact ArgTo.mk' rfl (Wk.agg (by (repeat' (first | exact Wks.nil | refine Wks.cons ?_ ?_ | exact Wk.refl _ | exact Wk.nilm | exact Wk.list _ _  | exact Wk.natN rfl | refine Wk.agg ?_))))))) (power_ al) rfl ?_
                (conv => whnf)
                exact Wk.bool (by simp [bindOk, b3'])
              · have b3' : ¬ bd = 3 := by simpa using b3
                (conv => whnf)
                refine split_intro (fun b4 => ?_) (fun b4 => ?_)
                · have b4' : bd = 4 := eq_of_beq b4
                  (conv => whnf)
                  refine split_intro (fun z => ?_) (fun z => ?_)
                  · have z' : sz = 0 := eq_of_beq z
                    (conv => whnf)
                    exact Wk.bool (by rw [Bool.eq_iff_iff]; simp [bindOk, b4', z'])
                  · have z' : ¬ sz = 0 := by simpa using z
                    (conv => whnf)
                    exact Wk.bool (by simp [bindOk, b4', z'])
                · have b4' : ¬ bd = 4 := by simpa using b4
                  (conv => whnf)
                  refine split_intro (fun b5 => ?_) (fun b5 => ?_)
                  · have b5' : bd = 5 := eq_of_beq b5
                    (conv => whnf)
                    refine split_intro (fun z => ?_) (fun z => ?_)
                    · have z' : sz = 0 := eq_of_beq z
                      (conv => whnf)
                      exact Wk.bool (by rw [Bool.eq_iff_iff]; simp [bindOk, b5', z'])
                    · have z' : ¬ sz = 0 := by simpa using z
                      (conv => whnf)
                      exact Wk.bool (by simp [bindOk, b5', z'])
                  · have b5' : ¬ bd = 5 := by simpa using b5
                    (conv => whnf)
                    refine split_intro (fun b1 => ?_) (fun b1 => ?_)
                    · have b1' : bd = 1 := eq_of_beq b1
                      (conv => whnf)
                      exact Wk.bool (by rw [Bool.eq_iff_iff]; simp [bindOk, b1'])
                    · have b1' : ¬ bd = 1 := by simpa using b1
                      (conv => whnf)
                      refine split_intro (fun b2 => ?_) (fun b2 => ?_)
                      · have b2' : bd = 2 := eq_of_beq b2
                        (conv => whnf)
                        exact Wk.bool (by rw [Bool.eq_iff_iff]; simp [bindOk, b2'])
                      · have b2' : ¬ bd = 2 := by simpa using b2
                        (conv => whnf)
                        exact Wk.bool (by simp [bindOk, b1', b2', b3', b4', b5'])
theorem rhas_ (l : List Ob.Sym) (n : Str) (hl : l.length ≤ 1000000000) : FCall Try.prog Gl 43 [.list .any (SE l), sD n] [] (vB (Ob.has l n)) [] := by
  refine FCall.enterL hT hmix [] Try.func43 rfl rfl rfl fun hbd => ?_
  (conv => whnf)
  refine LWp.loop hT hmix [] (fun k : Nat => [(5, vI k)]) (fun _ => []) (fun k => k ≤ l.length ∧ Ob.has (l.take k) n = false) (fun k => l.length - k) 0 ⟨Nat.zero_le _, rfl⟩ ?_
  (conv => whnf)
  refine ⟨?_, fun k ⟨hk, hkk⟩ => ?_⟩
  · (repeat' (first | exact trivial | exact Wk.refl _ | exact ObWk.refl _ | exact rfl | exact ⟨_, rfl⟩ | exact Nat.zero_lt_one | refine And.intro ?_ ?_ | unfold okTo | (unfold okO; conv => whnf) | (unfold okS; conv => whnf) | (unfold SlotOk; conv => whnf) | (unfold ObjOk; conv => whnf) | (unfold okCells; conv => whnf) | (unfold liveTo; conv => whnf) | exact Nat.zero_lt_succ _))
  · (conv => whnf)
    refine split_intro (fun h => ?_) (fun h => ?_)
    · have hlt : k < l.length := by simpa using h
      obtain ⟨s, hs⟩ := exI hlt
      (conv => whnf)
      refine ⟨_, ⟨by omega, getMap hs⟩, ?_⟩
      (conv => whnf)
      refine split_intro (fun hc => ?_) (fun hc => ?_)
      · have hc' : s.name = n := of_decide_eq_true hc
        (conv => whnf)
        exact Wk.bool (Ob.has_iff.2 ⟨s, List.mem_of_getElem? hs, hc'⟩).symm
      · have hc' : ¬ s.name = n := of_decide_eq_false hc
        (conv => whnf)
        refine ⟨_, add64 (c := ((k + 1 : Nat) : Int)) (by omega) (by omega), ?_⟩
        (conv => whnf)
        refine ⟨k + 1, ⟨⟨by omega, ?_⟩, by simp only []; omega⟩, ?_⟩
        · rw [List.take_add_one, hs]
          unfold Ob.has at *
          rw [List.any_append, hkk]; simp [hc']
        · (repeat' (first | exact trivial | exact Wk.refl _ | exact ObWk.refl _ | exact rfl | exact ⟨_, rfl⟩ | exact Nat.zero_lt_one | refine And.intro ?_ ?_ | unfold okTo | (unfold okO; conv => whnf) | (unfold okS; conv => whnf) | (unfold SlotOk; conv => whnf) | (unfold ObjOk; conv => whnf) | (unfold okCells; conv => whnf) | (unfold liveTo; conv => whnf) | exact Nat.zero_lt_succ _))
    · have hge : l.length ≤ k := by simpa using h
      rw [List.take_of_length_le hge] at hkk
      (conv => whnf)
      exact Wk.bool hkk.symm
end Go.Proofs.Ytfacepcmpijdpaa
