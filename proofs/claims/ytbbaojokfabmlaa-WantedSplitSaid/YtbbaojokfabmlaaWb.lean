/- The laws of the worklist. No condition. -/
import Derived.Test.YtbbaojokfabmlaaWa
import Derived.Test.YtbbaojokfabmlaaAmB
import Derived.Test.YtbbaojokfabmlaaRows
import Derived.Stop.Joined
import Derived.JoinedOf
import Derived.SizedLaws
set_option linter.unusedVariables false
set_option linter.unusedSimpArgs false
namespace Go.Proofs.Ytbbaojokfabmlaa
open Go Go.AL
set_option maxRecDepth 100000
theorem awake_ : FCall Try.prog Gl 6 [] [] (vB true) [] := by
  have R1 : Wt.Rl (h0.addL [[98], [97], [98]]) ([[97], [98]], [[98], [97]]) := by
    have := Wt.Rl.zero.addL [[98], [97], [98]]
    rwa [show Wt.Rs.addL ([], []) [[98], [97], [98]] = ([[97], [98]], [[98], [97]]) by decide] at this
  have A1 := addZ_ [[98], [97], [98]] (by simp)
  generalize h0.addL [[98], [97], [98]] = h1 at *
  have n1 : h1.n = 2 := R1.wl.size
  rw [n1] at A1
  have A2 := take_ h1 [97] [[98]] _ R1 (by omega)
  have R2 := R1.pop.2
  generalize h1.pop = h2 at *
  have n2 : h2.n = 1 := R2.wl.size
  have A3 := add_ h2 _ R2 [[97]] (by simp; omega)
  have e3 : h2.addL [[97]] = h2 := add1_old R2 (by simp)
  rw [e3, Nat.sub_self] at A3
  have A4 := take_ h2 [98] [] _ R2 (by omega)
  have R3 := R2.pop.2
  generalize h2.pop = h3 at *
  have n3 : h3.n = 0 := R3.wl.size
  have A5 := take0_ h3 n3
  have A6 := wlen_ h3
  rw [n3] at A6
  have A7 := seen_ h3 _ R3 [97]
  rw [decide_eq_true (by simp)] at A7
  have A8 := seen_ h3 _ R3 [99]
  rw [decide_eq_false (by simp)] at A8
  have A9 := addN_ [[97]]
  have A10 := seenN_ [97]
  refine FCall.enterL hT hmix [] Try.func6 rfl rfl rfl fun hbd => ?_
  (conv => whnf)
  refine CallLeaf.o [512, 1544, 1545] (by (repeat' (first | exact ArgsTo.nil | refine ArgsTo.cons ?_ ?_ | exact ArgTo.mk' rfl (Wk.refl _) | exact ArgTo.mk' rfl Wk.nilm | exact ArgTo.mk' rfl (Wk.list _ _) | exact ArgTo.mk' rfl (Wk.agg (by (repeat' (first | exact Wks.nil | refine Wks.cons ?_ ?_ | exact Wk.refl _ | exact Wk.nilm | exact Wk.list _ _  | exact Wk.natN rfl | refine Wk.agg ?_))))))) (A1) rfl rfl (by (repeat' (first | exact trivial | exact rfl | refine And.intro ?_ ?_))) (by (repeat' (first | exact trivial | exact rfl | refine And.intro ?_ ?_))) (by (repeat' (first | exact trivial | exact rfl | refine And.intro ?_ ?_))) rfl rfl ?_
  (conv => whnf)
  refine CallLeaf.o [512, 1544, 1545] (by (repeat' (first | exact ArgsTo.nil | refine ArgsTo.cons ?_ ?_ | exact ArgTo.mk' rfl (Wk.refl _) | exact ArgTo.mk' rfl Wk.nilm | exact ArgTo.mk' rfl (Wk.list _ _) | exact ArgTo.mk' rfl (Wk.agg (by (repeat' (first | exact Wks.nil | refine Wks.cons ?_ ?_ | exact Wk.refl _ | exact Wk.nilm | exact Wk.list _ _  | exact Wk.natN rfl | refine Wk.agg ?_))))))) (A2) rfl rfl (by (repeat' (first | exact trivial | exact rfl | refine And.intro ?_ ?_))) (by (repeat' (first | exact trivial | exact rfl | refine And.intro ?_ ?_))) (by (repeat' (first | exact trivial | exact rfl | refine And.intro ?_ ?_))) rfl rfl ?_
  (conv => whnf)
  refine CallLeaf.o [512, 1544, 1545] (by (repeat' (first | exact ArgsTo.nil | refine ArgsTo.cons ?_ ?_ | exact ArgTo.mk' rfl (Wk.refl _) | exact ArgTo.mk' rfl Wk.nilm | exact ArgTo.mk' rfl (Wk.list _ _) | exact ArgTo.mk' rfl (Wk.agg (by (repeat' (first | exact Wks.nil | refine Wks.cons ?_ ?_ | exact Wk.refl _ | exact Wk.nilm | exact Wk.list _ _  | exact Wk.natN rfl | refine Wk.agg ?_))))))) (A3) rfl rfl (by (repeat' (first | exact trivial | exact rfl | refine And.intro ?_ ?_))) (by (repeat' (first | exact trivial | exact rfl | refine And.intro ?_ ?_))) (by (repeat' (first | exact trivial | exact rfl | refine And.intro ?_ ?_))) rfl rfl ?_
  (conv => whnf)
  refine CallLeaf.o [512, 1544, 1545] (by (repeat' (first | exact ArgsTo.nil | refine ArgsTo.cons ?_ ?_ | exact ArgTo.mk' rfl (Wk.refl _) | exact ArgTo.mk' rfl Wk.nilm | exact ArgTo.mk' rfl (Wk.list _ _) | exact ArgTo.mk' rfl (Wk.agg (by (repeat' (first | exact Wks.nil | refine Wks.cons ?_ ?_ | exact Wk.refl _ | exact Wk.nilm | exact Wk.list _ _  | exact Wk.natN rfl | refine Wk.agg ?_))))))) (A4) rfl rfl (by (repeat' (first | exact trivial | exact rfl | refine And.intro ?_ ?_))) (by (repeat' (first | exact trivial | exact rfl | refine And.intro ?_ ?_))) (by (repeat' (first | exact trivial | exact rfl | refine And.intro ?_ ?_))) rfl rfl ?_
  (conv => whnf)
  refine CallLeaf.o [512, 1544, 1545] (by (repeat' (first | exact ArgsTo.nil | refine ArgsTo.cons ?_ ?_ | exact ArgTo.mk' rfl (Wk.refl _) | exact ArgTo.mk' rfl Wk.nilm | exact ArgTo.mk' rfl (Wk.list _ _) | exact ArgTo.mk' rfl (Wk.agg (by (repeat' (first | exact Wks.nil | refine Wks.cons ?_ ?_ | exact Wk.refl _ | exact Wk.nilm | exact Wk.list _ _  | exact Wk.natN rfl | refine Wk.agg ?_))))))) (A5) rfl rfl (by (repeat' (first | exact trivial | exact rfl | refine And.intro ?_ ?_))) (by (repeat' (first | exact trivial | exact rfl | refine And.intro ?_ ?_))) (by (repeat' (first | exact trivial | exact rfl | refine And.intro ?_ ?_))) rfl rfl ?_
  (conv => whnf)
  refine CallLeaf.o [512, 1544, 1545] (by (repeat' (first | exact ArgsTo.nil | refine ArgsTo.cons ?_ ?_ | exact ArgTo.mk' rfl (Wk.refl _) | exact ArgTo.mk' rfl Wk.nilm | exact ArgTo.mk' rfl (Wk.list _ _) | exact ArgTo.mk' rfl (Wk.agg (by (repeat' (first | exact Wks.nil | refine Wks.cons ?_ ?_ | exact Wk.refl _ | exact Wk.nilm | exact Wk.list _ _  | exact Wk.natN rfl | refine Wk.agg ?_))))))) (A6) rfl rfl (by (repeat' (first | exact trivial | exact rfl | refine And.intro ?_ ?_))) (by (repeat' (first | exact trivial | exact rfl | refine And.intro ?_ ?_))) (by (repeat' (first | exact trivial | exact rfl | refine And.intro ?_ ?_))) rfl rfl ?_
  (conv => whnf)
  refine CallLeaf.o [512, 1544, 1545] (by (repeat' (first | exact ArgsTo.nil | refine ArgsTo.cons ?_ ?_ | exact ArgTo.mk' rfl (Wk.refl _) | exact ArgTo.mk' rfl Wk.nilm | exact ArgTo.mk' rfl (Wk.list _ _) | exact ArgTo.mk' rfl (Wk.agg (by (repeat' (first | exact Wks.nil | refine Wks.cons ?_ ?_ | exact Wk.refl _ | exact Wk.nilm | exact Wk.list _ _  | exact Wk.natN rfl | refine Wk.agg ?_))))))) (A7) rfl rfl (by (repeat' (first | exact trivial | exact rfl | refine And.intro ?_ ?_))) (by (repeat' (first | exact trivial | exact rfl | refine And.intro ?_ ?_))) (by (repeat' (first | exact trivial | exact rfl | refine And.intro ?_ ?_))) rfl rfl ?_
  (conv => whnf)
  refine CallLeaf.o [512, 1544, 1545] (by (repeat' (first | exact ArgsTo.nil | refine ArgsTo.cons ?_ ?_ | exact ArgTo.mk' rfl (Wk.refl _) | exact ArgTo.mk' rfl Wk.nilm | exact ArgTo.mk' rfl (Wk.list _ _) | exact ArgTo.mk' rfl (Wk.agg (by (repeat' (first | exact Wks.nil | refine Wks.cons ?_ ?_ | exact Wk.refl _ | exact Wk.nilm | exact Wk.list _ _  | exact Wk.natN rfl | refine Wk.agg ?_))))))) (A8) rfl rfl (by (repeat' (first | exact trivial | exact rfl | refine And.intro ?_ ?_))) (by (repeat' (first | exact trivial | exact rfl | refine And.intro ?_ ?_))) (by (repeat' (first | exact trivial | exact rfl | refine And.intro ?_ ?_))) rfl rfl ?_
  (conv => whnf)
  refine CallLeaf.w (by (repeat' (first | exact ArgsTo.nil | refine ArgsTo.cons ?_ ?_ | exact ArgTo.mk' rfl (Wk.refl _) | exact ArgTo.mk' rfl Wk.nilm | exact ArgTo.mk' rfl (Wk.list _ _) | exact ArgTo.mk' rfl (Wk.agg (by (repeat' (first | exact Wks.nil | refine Wks.cons ?_ ?_ | exact Wk.refl _ | exact Wk.nilm | exact Wk.list _ _  | exact Wk.natN rfl | refine Wk.agg ?_))))))) (A9) rfl ?_
  (conv => whnf)
  refine CallLeaf.w (by (repeat' (first | exact ArgsTo.nil | refine ArgsTo.cons ?_ ?_ | exact ArgTo.mk' rfl (Wk.refl _) | exact ArgTo.mk' rfl Wk.nilm | exact ArgTo.mk' rfl (Wk.list _ _) | exact ArgTo.mk' rfl (Wk.agg (by (repeat' (first | exact Wks.nil | refine Wks.cons ?_ ?_ | exact Wk.refl _ | exact Wk.nilm | exact Wk.list _ _  | exact Wk.natN rfl | refine Wk.agg ?_))))))) (wlenN_) rfl ?_
  (conv => whnf)
  refine CallLeaf.w (by (repeat' (first | exact ArgsTo.nil | refine ArgsTo.cons ?_ ?_ | exact ArgTo.mk' rfl (Wk.refl _) | exact ArgTo.mk' rfl Wk.nilm | exact ArgTo.mk' rfl (Wk.list _ _) | exact ArgTo.mk' rfl (Wk.agg (by (repeat' (first | exact Wks.nil | refine Wks.cons ?_ ?_ | exact Wk.refl _ | exact Wk.nilm | exact Wk.list _ _  | exact Wk.natN rfl | refine Wk.agg ?_))))))) (A10) rfl ?_
  (conv => whnf)
  exact Wk.refl _
end Go.Proofs.Ytbbaojokfabmlaa

/- The law WantedMatchesReference. No condition. -/
set_option linter.unusedVariables false
set_option linter.unusedSimpArgs false
namespace Go.Proofs.Ytbbaojokfabmlaa
open Go Go.AL
set_option maxRecDepth 100000
theorem few_iff {l : List Step} (h : few l = true) : l.length ≤ 60 ∧ total l ≤ 200 := by
  simp only [few, Bool.and_eq_true, decide_eq_true_eq] at h
  obtain ⟨_, h1, h2⟩ := h
  rw [List.take_of_length_le (by omega)] at h2
  exact ⟨h1, h2⟩
theorem total_le (l : List Step) (k : Nat) : total (l.take k) ≤ total l := by
  have : total l = total (l.take k) + total (l.drop k) := by
    unfold total
    rw [← List.sum_append, ← List.map_append, List.take_append_drop]
  omega
theorem cnt : ∀ (l : List Str) {h : Wt.Hs} {r : Wt.Rs}, Wt.Rl h r → (h.addL l).n + r.2.length = h.n + (r.addL l).2.length
  | [], h, r, R => rfl
  | s :: l, h, r, R => by
    have ih := cnt l (R.add1 s)
    show ((h.add1 s).addL l).n + r.2.length = h.n + ((r.add1 s).addL l).2.length
    by_cases hs : s ∈ r.2
    · rw [add1_old R hs, show r.add1 s = r from if_pos hs] at ih ⊢
      exact ih
    · have e : r.add1 s = (Wt.put r.1 s, r.2 ++ [s]) := if_neg hs
      rw [add1_new R hs, e] at ih ⊢
      simp at ih ⊢
      omega
def coM (x : Option Wt.Hs × Wt.Rs) : So := match x with
  | (none, r) => [(1536, .cells [.nil, mN]), (2048, .cells [LS r.1, LS r.2])]
  | (some h, r) => [(1536, .cells [.sl 7208 h.g 0 h.n, .map 7209]), (7208, .arr h.g 1 (h.xs.map eS)), (7209, .map h.es), (2048, .cells [LS r.1, LS r.2])]
def InvM (o : Option Wt.Hs) (r : Wt.Rs) : Prop := match o with
  | none => r = ([], [])
  | some h => Wt.Rl h r
theorem matches_ (l : List Step) (name : Str) : FCall Try.prog Gl 3 [LSt l, sD name] [] (vB true) [] := by
  refine FCall.enterL hT hmix [] Try.func3 rfl rfl rfl fun hbd => ?_
  (conv => whnf)
  refine CallLeaf.w (by (repeat' (first | exact ArgsTo.nil | refine ArgsTo.cons ?_ ?_ | exact ArgTo.mk' rfl (Wk.refl _) | exact ArgTo.mk' rfl Wk.nilm | exact ArgTo.mk' rfl (Wk.list _ _) | exact ArgTo.mk' rfl (Wk.agg (by (repeat' (first | exact Wks.nil | refine Wks.cons ?_ ?_ | exact Wk.refl _ | exact Wk.nilm | exact Wk.list _ _  | exact Wk.natN rfl | refine Wk.agg ?_))))))) (awake_) rfl ?_
  (conv => whnf)
  refine CallLeaf.w (by (repeat' (first | exact ArgsTo.nil | refine ArgsTo.cons ?_ ?_ | exact ArgTo.mk' rfl (Wk.refl _) | exact ArgTo.mk' rfl Wk.nilm | exact ArgTo.mk' rfl (Wk.list _ _) | exact ArgTo.mk' rfl (Wk.agg (by (repeat' (first | exact Wks.nil | refine Wks.cons ?_ ?_ | exact Wk.refl _ | exact Wk.nilm | exact Wk.list _ _  | exact Wk.natN rfl | refine Wk.agg ?_))))))) (few_ l) rfl ?_
  (conv => whnf)
  refine split_intro (fun hf => ?_) (fun hf => ?_)
  · (conv => whnf)
    refine CallLeaf.w (by (repeat' (first | exact ArgsTo.nil | refine ArgsTo.cons ?_ ?_ | exact ArgTo.mk' rfl (Wk.refl _) | exact ArgTo.mk' rfl Wk.nilm | exact ArgTo.mk' rfl (Wk.list _ _) | exact ArgTo.mk' rfl (Wk.agg (by (repeat' (first | exact Wks.nil | refine Wks.cons ?_ ?_ | exact Wk.refl _ | exact Wk.nilm | exact Wk.list _ _  | exact Wk.natN rfl | refine Wk.agg ?_))))))) (awake_) rfl ?_
    (conv => whnf)
    exact Wk.refl _
  · have hf' : few l = true := by simpa using hf
    obtain ⟨hl1, hl2⟩ := few_iff hf'
    (conv => whnf)
    refine split_intro (fun hn => ?_) (fun hn => ?_)
    · (conv => whnf)
      refine CallLeaf.w (by (repeat' (first | exact ArgsTo.nil | refine ArgsTo.cons ?_ ?_ | exact ArgTo.mk' rfl (Wk.refl _) | exact ArgTo.mk' rfl Wk.nilm | exact ArgTo.mk' rfl (Wk.list _ _) | exact ArgTo.mk' rfl (Wk.agg (by (repeat' (first | exact Wks.nil | refine Wks.cons ?_ ?_ | exact Wk.refl _ | exact Wk.nilm | exact Wk.list _ _  | exact Wk.natN rfl | refine Wk.agg ?_))))))) (awake_) rfl ?_
      (conv => whnf)
      exact Wk.refl _
    · (conv => whnf)
      refine LWp.loop hT hmix [] (fun x : Nat × Option Wt.Hs × Wt.Rs => [(7, vI x.1)]) (fun x => coM x.2) (fun x => x.1 ≤ l.length ∧ InvM x.2.1 x.2.2 ∧ x.2.2.1.length ≤ total (l.take x.1) ∧ x.2.2.2.length ≤ total (l.take x.1)) (fun x => l.length - x.1) (0, none, ([], [])) ⟨Nat.zero_le _, rfl, Nat.zero_le _, Nat.zero_le _⟩ ?_
      (conv => whnf)
      refine ⟨?_, fun ⟨k, o, ws, seen⟩ ⟨hk, hI, hw1, hw2⟩ => ?_⟩
      · (repeat' (first | exact trivial | exact Wk.refl _ | exact ObWk.refl _ | exact rfl | exact ⟨_, rfl⟩ | exact Nat.zero_lt_one | refine And.intro ?_ ?_ | unfold okTo | (unfold okO; conv => whnf) | (unfold okS; conv => whnf) | (unfold SlotOk; conv => whnf) | (unfold ObjOk; conv => whnf) | (unfold okCells; conv => whnf) | (unfold liveTo; conv => whnf)))
        all_goals exact Wk.nilm
      · replace hk : k ≤ l.length := hk
        replace hI : InvM o (ws, seen) := hI
        replace hw1 : ws.length ≤ total (l.take k) := hw1
        replace hw2 : seen.length ≤ total (l.take k) := hw2
        have htk := total_le l k
        have htk1 := total_le l (k + 1)
        cases o with
        | none =>
          injection (show (ws, seen) = ([], []) from hI) with e1 e2
          subst e1; subst e2
          have hhas : FCall Try.prog Gl 14 [LS [], sD name] [] (vB false) [] := by simpa using has_ [] name
          (conv => whnf)
          refine split_intro (fun h => ?_) (fun h => ?_)
          · have hlt : k < l.length := by simpa using h
            obtain ⟨s, hs⟩ := exI hlt
            have ht := total_take hs
            (conv => whnf)
            refine ⟨_, ⟨by omega, getMap hs⟩, ?_⟩
            (conv => whnf)
            refine split_intro (fun htake => ?_) (fun htake => ?_)
            · (conv => whnf)
              refine CallLeaf.o [1536] (by (repeat' (first | exact ArgsTo.nil | refine ArgsTo.cons ?_ ?_ | exact ArgTo.mk' rfl (Wk.refl _) | exact ArgTo.mk' rfl Wk.nilm | exact ArgTo.mk' rfl (Wk.list _ _) | exact ArgTo.mk' rfl (Wk.agg (by (repeat' (first | exact Wks.nil | refine Wks.cons ?_ ?_ | exact Wk.refl _ | exact Wk.nilm | exact Wk.list _ _  | exact Wk.natN rfl | refine Wk.agg ?_))))))) (takeZ_) rfl rfl (by (repeat' (first | exact trivial | exact rfl | refine And.intro ?_ ?_))) (by (repeat' (first | exact trivial | exact rfl | refine And.intro ?_ ?_))) (by (repeat' (first | exact trivial | exact rfl | refine And.intro ?_ ?_))) rfl rfl ?_
              (conv => whnf)
              refine CallLeaf.w (by (repeat' (first | exact ArgsTo.nil | refine ArgsTo.cons ?_ ?_ | exact ArgTo.mk' rfl (Wk.refl _) | exact ArgTo.mk' rfl Wk.nilm | exact ArgTo.mk' rfl (Wk.list _ _) | exact ArgTo.mk' rfl (Wk.agg (by (repeat' (first | exact Wks.nil | refine Wks.cons ?_ ?_ | exact Wk.refl _ | exact Wk.nilm | exact Wk.list _ _  | exact Wk.natN rfl | refine Wk.agg ?_))))))) (rtake0_ []) rfl ?_
              (conv => whnf)
              refine CallLeaf.o [1536] (by (repeat' (first | exact ArgsTo.nil | refine ArgsTo.cons ?_ ?_ | exact ArgTo.mk' rfl (Wk.refl _) | exact ArgTo.mk' rfl Wk.nilm | exact ArgTo.mk' rfl (Wk.list _ _) | exact ArgTo.mk' rfl (Wk.agg (by (repeat' (first | exact Wks.nil | refine Wks.cons ?_ ?_ | exact Wk.refl _ | exact Wk.nilm | exact Wk.list _ _  | exact Wk.natN rfl | refine Wk.agg ?_))))))) (wlenZ_) rfl rfl (by (repeat' (first | exact trivial | exact rfl | refine And.intro ?_ ?_))) (by (repeat' (first | exact trivial | exact rfl | refine And.intro ?_ ?_))) (by (repeat' (first | exact trivial | exact rfl | refine And.intro ?_ ?_))) rfl rfl ?_
              (conv => whnf)
              refine CallLeaf.o [1536] (by (repeat' (first | exact ArgsTo.nil | refine ArgsTo.cons ?_ ?_ | exact ArgTo.mk' rfl (Wk.refl _) | exact ArgTo.mk' rfl Wk.nilm | exact ArgTo.mk' rfl (Wk.list _ _) | exact ArgTo.mk' rfl (Wk.agg (by (repeat' (first | exact Wks.nil | refine Wks.cons ?_ ?_ | exact Wk.refl _ | exact Wk.nilm | exact Wk.list _ _  | exact Wk.natN rfl | refine Wk.agg ?_))))))) (seenZ_ name) rfl rfl (by (repeat' (first | exact trivial | exact rfl | refine And.intro ?_ ?_))) (by (repeat' (first | exact trivial | exact rfl | refine And.intro ?_ ?_))) (by (repeat' (first | exact trivial | exact rfl | refine And.intro ?_ ?_))) rfl rfl ?_
              (conv => whnf)
              refine CallLeaf.w (by (repeat' (first | exact ArgsTo.nil | refine ArgsTo.cons ?_ ?_ | exact ArgTo.mk' rfl (Wk.refl _) | exact ArgTo.mk' rfl Wk.nilm | exact ArgTo.mk' rfl (Wk.list _ _) | exact ArgTo.mk' rfl (Wk.agg (by (repeat' (first | exact Wks.nil | refine Wks.cons ?_ ?_ | exact Wk.refl _ | exact Wk.nilm | exact Wk.list _ _  | exact Wk.natN rfl | refine Wk.agg ?_))))))) (hhas) rfl ?_
              (conv => whnf)
              refine ⟨_, add64 (c := ((k + 1 : Nat) : Int)) (by omega) (by omega), ?_⟩
              (conv => whnf)
              refine ⟨(k + 1, none, [], []), ⟨⟨by show k + 1 ≤ _; omega, rfl, Nat.zero_le _, Nat.zero_le _⟩, by show l.length - (k + 1) < l.length - k; omega⟩, ?_⟩
              (repeat' (first | exact trivial | exact Wk.refl _ | exact ObWk.refl _ | exact rfl | exact ⟨_, rfl⟩ | exact Nat.zero_lt_one | refine And.intro ?_ ?_ | unfold okTo | (unfold okO; conv => whnf) | (unfold okS; conv => whnf) | (unfold SlotOk; conv => whnf) | (unfold ObjOk; conv => whnf) | (unfold okCells; conv => whnf) | (unfold liveTo; conv => whnf)))
            · have hA := addZ_ s.2 (by omega)
              have R := Wt.Rl.zero.addL s.2
              have hB := radd_ ([], []) s.2 (by simp; omega)
              have hB1 := radd_len ([], []) s.2
              have hcnt : ((h0.addL s.2).n : Int) = ((((Wt.Rs.addL ([], []) s.2).2.length - 0 : Nat)) : Int) := by
                have := cnt s.2 Wt.Rl.zero
                simp at this
                simp [this]
              generalize hh1 : h0.addL s.2 = h1 at hA R hcnt
              generalize hr1 : Wt.Rs.addL ([], []) s.2 = r1 at hB hB1 R hcnt
              obtain ⟨ws1, seen1⟩ := r1
              have hC := wlen_ h1
              have hD := seen_ h1 _ R name
              (conv => whnf)
              refine ⟨_, ⟨by omega, getMap hs⟩, ?_⟩
              (conv => whnf)
              refine CallLeaf.o [1536, 7208, 7209] (by (repeat' (first | exact ArgsTo.nil | refine ArgsTo.cons ?_ ?_ | exact ArgTo.mk' rfl (Wk.refl _) | exact ArgTo.mk' rfl Wk.nilm | exact ArgTo.mk' rfl (Wk.list _ _) | exact ArgTo.mk' rfl (Wk.agg (by (repeat' (first | exact Wks.nil | refine Wks.cons ?_ ?_ | exact Wk.refl _ | exact Wk.nilm | exact Wk.list _ _  | exact Wk.natN rfl | refine Wk.agg ?_))))))) (hA) rfl rfl (by (repeat' (first | exact trivial | exact rfl | refine And.intro ?_ ?_))) (by (repeat' (first | exact trivial | exact rfl | refine And.intro ?_ ?_))) (by (repeat' (first | exact trivial | exact rfl | refine And.intro ?_ ?_))) rfl rfl ?_
              (conv => whnf)
              refine ⟨_, ⟨by omega, getMap hs⟩, ?_⟩
              (conv => whnf)
              refine CallLeaf.w (by (repeat' (first | exact ArgsTo.nil | refine ArgsTo.cons ?_ ?_ | exact ArgTo.mk' rfl (Wk.refl _) | exact ArgTo.mk' rfl Wk.nilm | exact ArgTo.mk' rfl (Wk.list _ _) | exact ArgTo.mk' rfl (Wk.agg (by (repeat' (first | exact Wks.nil | refine Wks.cons ?_ ?_ | exact Wk.refl _ | exact Wk.nilm | exact Wk.list _ _  | exact Wk.natN rfl | refine Wk.agg ?_))))))) (hB) rfl ?_
              (conv => whnf)
              refine split_intro (fun h => absurd h (by (rw [hcnt]; simp))) (fun _ => ?_)
              (conv => whnf)
              simp at hB1
              ((refine CallLeaf.o [1536, 7208, 7209] (by (repeat' (first | exact ArgsTo.nil | refine ArgsTo.cons ?_ ?_ | exact ArgTo.mk' rfl (Wk.refl _) | exact ArgTo.mk' rfl Wk.nilm | exact ArgTo.mk' rfl (Wk.list _ _) | exact ArgTo.mk' rfl (Wk.agg (by (repeat' (first | exact Wks.nil | refine Wks.cons ?_ ?_ | exact Wk.refl _ | exact Wk.nilm | exact Wk.list _ _  | exact Wk.natN rfl | refine Wk.agg ?_))))))) (wlen_ h1) rfl rfl (by (repeat' (first | exact trivial | exact rfl | refine And.intro ?_ ?_))) (by (repeat' (first | exact trivial | exact rfl | refine And.intro ?_ ?_))) (by (repeat' (first | exact trivial | exact rfl | refine And.intro ?_ ?_))) rfl rfl ?_); ((conv => whnf)); (refine split_intro (fun h => absurd h (by (have := Wt.Wl.size (Wt.Rl.wl R); simp at this; simp [this]))) (fun _ => ?_)); ((conv => whnf)); (refine CallLeaf.o [1536, 7208, 7209] (by (repeat' (first | exact ArgsTo.nil | refine ArgsTo.cons ?_ ?_ | exact ArgTo.mk' rfl (Wk.refl _) | exact ArgTo.mk' rfl Wk.nilm | exact ArgTo.mk' rfl (Wk.list _ _) | exact ArgTo.mk' rfl (Wk.agg (by (repeat' (first | exact Wks.nil | refine Wks.cons ?_ ?_ | exact Wk.refl _ | exact Wk.nilm | exact Wk.list _ _  | exact Wk.natN rfl | refine Wk.agg ?_))))))) (seen_ h1 _ R name) rfl rfl (by (repeat' (first | exact trivial | exact rfl | refine And.intro ?_ ?_))) (by (repeat' (first | exact trivial | exact rfl | refine And.intro ?_ ?_))) (by (repeat' (first | exact trivial | exact rfl | refine And.intro ?_ ?_))) rfl rfl ?_); ((conv => whnf)); (refine CallLeaf.w (by (repeat' (first | exact ArgsTo.nil | refine ArgsTo.cons ?_ ?_ | exact ArgTo.mk' rfl (Wk.refl _) | exact ArgTo.mk' rfl Wk.nilm | exact ArgTo.mk' rfl (Wk.list _ _) | exact ArgTo.mk' rfl (Wk.agg (by (repeat' (first | exact Wks.nil | refine Wks.cons ?_ ?_ | exact Wk.refl _ | exact Wk.nilm | exact Wk.list _ _  | exact Wk.natN rfl | refine Wk.agg ?_))))))) (has_ seen1 name) rfl ?_); ((conv => whnf)); (refine split_intro (fun h => absurd h (by (simp))) (fun _ => ?_)); ((conv => whnf)); (refine ⟨_, add64 (c := ((k + 1 : Nat) : Int)) (by omega) (by omega), ?_⟩); ((conv => whnf)); (refine ⟨(k + 1, some h1, ws1, seen1), ⟨⟨by show k + 1 ≤ _; omega, R, by show List.length ws1 ≤ total (l.take (k + 1)); (try simp only [List.length_nil]); omega, by show List.length seen1 ≤ total (l.take (k + 1)); omega⟩, by show l.length - (k + 1) < l.length - k; omega⟩, ?_⟩); (repeat' (first | exact trivial | exact Wk.refl _ | exact ObWk.refl _ | exact rfl | exact ⟨_, rfl⟩ | exact Nat.zero_lt_one | refine And.intro ?_ ?_ | unfold okTo | (unfold okO; conv => whnf) | (unfold okS; conv => whnf) | (unfold SlotOk; conv => whnf) | (unfold ObjOk; conv => whnf) | (unfold okCells; conv => whnf) | (unfold liveTo; conv => whnf))))
          · (conv => whnf)
            exact Wk.refl _
        | some h =>
          have R : Wt.Rl h (ws, seen) := hI
          have hsz : h.n = ws.length := R.wl.size
          (conv => whnf)
          refine split_intro (fun h' => ?_) (fun h' => ?_)
          · have hlt : k < l.length := by simpa using h'
            obtain ⟨s, hs⟩ := exI hlt
            have ht := total_take hs
            (conv => whnf)
            refine ⟨_, ⟨by omega, getMap hs⟩, ?_⟩
            (conv => whnf)
            refine split_intro (fun htake => ?_) (fun htake => ?_)
            · cases ws with
              | nil =>
                (conv => whnf)
                refine CallLeaf.o [1536, 7208, 7209] (by (repeat' (first | exact ArgsTo.nil | refine ArgsTo.cons ?_ ?_ | exact ArgTo.mk' rfl (Wk.refl _) | exact ArgTo.mk' rfl Wk.nilm | exact ArgTo.mk' rfl (Wk.list _ _) | exact ArgTo.mk' rfl (Wk.agg (by (repeat' (first | exact Wks.nil | refine Wks.cons ?_ ?_ | exact Wk.refl _ | exact Wk.nilm | exact Wk.list _ _  | exact Wk.natN rfl | refine Wk.agg ?_))))))) (take0_ h hsz) rfl rfl (by (repeat' (first | exact trivial | exact rfl | refine And.intro ?_ ?_))) (by (repeat' (first | exact trivial | exact rfl | refine And.intro ?_ ?_))) (by (repeat' (first | exact trivial | exact rfl | refine And.intro ?_ ?_))) rfl rfl ?_
                (conv => whnf)
                refine CallLeaf.w (by (repeat' (first | exact ArgsTo.nil | refine ArgsTo.cons ?_ ?_ | exact ArgTo.mk' rfl (Wk.refl _) | exact ArgTo.mk' rfl Wk.nilm | exact ArgTo.mk' rfl (Wk.list _ _) | exact ArgTo.mk' rfl (Wk.agg (by (repeat' (first | exact Wks.nil | refine Wks.cons ?_ ?_ | exact Wk.refl _ | exact Wk.nilm | exact Wk.list _ _  | exact Wk.natN rfl | refine Wk.agg ?_))))))) (rtake0_ seen) rfl ?_
                (conv => whnf)
                ((refine CallLeaf.o [1536, 7208, 7209] (by (repeat' (first | exact ArgsTo.nil | refine ArgsTo.cons ?_ ?_ | exact ArgTo.mk' rfl (Wk.refl _) | exact ArgTo.mk' rfl Wk.nilm | exact ArgTo.mk' rfl (Wk.list _ _) | exact ArgTo.mk' rfl (Wk.agg (by (repeat' (first | exact Wks.nil | refine Wks.cons ?_ ?_ | exact Wk.refl _ | exact Wk.nilm | exact Wk.list _ _  | exact Wk.natN rfl | refine Wk.agg ?_))))))) (wlen_ h) rfl rfl (by (repeat' (first | exact trivial | exact rfl | refine And.intro ?_ ?_))) (by (repeat' (first | exact trivial | exact rfl | refine And.intro ?_ ?_))) (by (repeat' (first | exact trivial | exact rfl | refine And.intro ?_ ?_))) rfl rfl ?_); ((conv => whnf)); (refine split_intro (fun h => absurd h (by (have := Wt.Wl.size (Wt.Rl.wl R); simp at this; simp [this]))) (fun _ => ?_)); ((conv => whnf)); (refine CallLeaf.o [1536, 7208, 7209] (by (repeat' (first | exact ArgsTo.nil | refine ArgsTo.cons ?_ ?_ | exact ArgTo.mk' rfl (Wk.refl _) | exact ArgTo.mk' rfl Wk.nilm | exact ArgTo.mk' rfl (Wk.list _ _) | exact ArgTo.mk' rfl (Wk.agg (by (repeat' (first | exact Wks.nil | refine Wks.cons ?_ ?_ | exact Wk.refl _ | exact Wk.nilm | exact Wk.list _ _  | exact Wk.natN rfl | refine Wk.agg ?_))))))) (seen_ h _ R name) rfl rfl (by (repeat' (first | exact trivial | exact rfl | refine And.intro ?_ ?_))) (by (repeat' (first | exact trivial | exact rfl | refine And.intro ?_ ?_))) (by (repeat' (first | exact trivial | exact rfl | refine And.intro ?_ ?_))) rfl rfl ?_); ((conv => whnf)); (refine CallLeaf.w (by (repeat' (first | exact ArgsTo.nil | refine ArgsTo.cons ?_ ?_ | exact ArgTo.mk' rfl (Wk.refl _) | exact ArgTo.mk' rfl Wk.nilm | exact ArgTo.mk' rfl (Wk.list _ _) | exact ArgTo.mk' rfl (Wk.agg (by (repeat' (first | exact Wks.nil | refine Wks.cons ?_ ?_ | exact Wk.refl _ | exact Wk.nilm | exact Wk.list _ _  | exact Wk.natN rfl | refine Wk.agg ?_))))))) (has_ seen name) rfl ?_); ((conv => whnf)); (refine split_intro (fun h => absurd h (by (simp))) (fun _ => ?_)); ((conv => whnf)); (refine ⟨_, add64 (c := ((k + 1 : Nat) : Int)) (by omega) (by omega), ?_⟩); ((conv => whnf)); (refine ⟨(k + 1, some h, [], seen), ⟨⟨by show k + 1 ≤ _; omega, R, by show List.length [] ≤ total (l.take (k + 1)); (try simp only [List.length_nil]); omega, by show List.length seen ≤ total (l.take (k + 1)); omega⟩, by show l.length - (k + 1) < l.length - k; omega⟩, ?_⟩); (repeat' (first | exact trivial | exact Wk.refl _ | exact ObWk.refl _ | exact rfl | exact ⟨_, rfl⟩ | exact Nat.zero_lt_one | refine And.intro ?_ ?_ | unfold okTo | (unfold okO; conv => whnf) | (unfold okS; conv => whnf) | (unfold SlotOk; conv => whnf) | (unfold ObjOk; conv => whnf) | (unfold okCells; conv => whnf) | (unfold liveTo; conv => whnf))))
              | cons w ws =>
                have R' := (R.pop).2
                simp at hw1
                (conv => whnf)
                refine CallLeaf.o [1536, 7208, 7209] (by (repeat' (first | exact ArgsTo.nil | refine ArgsTo.cons ?_ ?_ | exact ArgTo.mk' rfl (Wk.refl _) | exact ArgTo.mk' rfl Wk.nilm | exact ArgTo.mk' rfl (Wk.list _ _) | exact ArgTo.mk' rfl (Wk.agg (by (repeat' (first | exact Wks.nil | refine Wks.cons ?_ ?_ | exact Wk.refl _ | exact Wk.nilm | exact Wk.list _ _  | exact Wk.natN rfl | refine Wk.agg ?_))))))) (take_ h w ws seen R (by simp at hsz; omega)) rfl rfl (by (repeat' (first | exact trivial | exact rfl | refine And.intro ?_ ?_))) (by (repeat' (first | exact trivial | exact rfl | refine And.intro ?_ ?_))) (by (repeat' (first | exact trivial | exact rfl | refine And.intro ?_ ?_))) rfl rfl ?_
                (conv => whnf)
                refine CallLeaf.w (by (repeat' (first | exact ArgsTo.nil | refine ArgsTo.cons ?_ ?_ | exact ArgTo.mk' rfl (Wk.refl _) | exact ArgTo.mk' rfl Wk.nilm | exact ArgTo.mk' rfl (Wk.list _ _) | exact ArgTo.mk' rfl (Wk.agg (by (repeat' (first | exact Wks.nil | refine Wks.cons ?_ ?_ | exact Wk.refl _ | exact Wk.nilm | exact Wk.list _ _  | exact Wk.natN rfl | refine Wk.agg ?_))))))) (rtake_ w ws seen) rfl ?_
                (conv => whnf)
                refine split_intro (fun h => absurd h (by (simp))) (fun _ => ?_)
                (conv => whnf)
                ((refine CallLeaf.o [1536, 7208, 7209] (by (repeat' (first | exact ArgsTo.nil | refine ArgsTo.cons ?_ ?_ | exact ArgTo.mk' rfl (Wk.refl _) | exact ArgTo.mk' rfl Wk.nilm | exact ArgTo.mk' rfl (Wk.list _ _) | exact ArgTo.mk' rfl (Wk.agg (by (repeat' (first | exact Wks.nil | refine Wks.cons ?_ ?_ | exact Wk.refl _ | exact Wk.nilm | exact Wk.list _ _  | exact Wk.natN rfl | refine Wk.agg ?_))))))) (wlen_ h.pop) rfl rfl (by (repeat' (first | exact trivial | exact rfl | refine And.intro ?_ ?_))) (by (repeat' (first | exact trivial | exact rfl | refine And.intro ?_ ?_))) (by (repeat' (first | exact trivial | exact rfl | refine And.intro ?_ ?_))) rfl rfl ?_); ((conv => whnf)); (refine split_intro (fun h => absurd h (by (have := Wt.Wl.size (Wt.Rl.wl R'); simp at this; simp [this]))) (fun _ => ?_)); ((conv => whnf)); (refine CallLeaf.o [1536, 7208, 7209] (by (repeat' (first | exact ArgsTo.nil | refine ArgsTo.cons ?_ ?_ | exact ArgTo.mk' rfl (Wk.refl _) | exact ArgTo.mk' rfl Wk.nilm | exact ArgTo.mk' rfl (Wk.list _ _) | exact ArgTo.mk' rfl (Wk.agg (by (repeat' (first | exact Wks.nil | refine Wks.cons ?_ ?_ | exact Wk.refl _ | exact Wk.nilm | exact Wk.list _ _  | exact Wk.natN rfl | refine Wk.agg ?_))))))) (seen_ h.pop _ R' name) rfl rfl (by (repeat' (first | exact trivial | exact rfl | refine And.intro ?_ ?_))) (by (repeat' (first | exact trivial | exact rfl | refine And.intro ?_ ?_))) (by (repeat' (first | exact trivial | exact rfl | refine And.intro ?_ ?_))) rfl rfl ?_); ((conv => whnf)); (refine CallLeaf.w (by (repeat' (first | exact ArgsTo.nil | refine ArgsTo.cons ?_ ?_ | exact ArgTo.mk' rfl (Wk.refl _) | exact ArgTo.mk' rfl Wk.nilm | exact ArgTo.mk' rfl (Wk.list _ _) | exact ArgTo.mk' rfl (Wk.agg (by (repeat' (first | exact Wks.nil | refine Wks.cons ?_ ?_ | exact Wk.refl _ | exact Wk.nilm | exact Wk.list _ _  | exact Wk.natN rfl | refine Wk.agg ?_))))))) (has_ seen name) rfl ?_); ((conv => whnf)); (refine split_intro (fun h => absurd h (by (simp))) (fun _ => ?_)); ((conv => whnf)); (refine ⟨_, add64 (c := ((k + 1 : Nat) : Int)) (by omega) (by omega), ?_⟩); ((conv => whnf)); (refine ⟨(k + 1, some h.pop, ws, seen), ⟨⟨by show k + 1 ≤ _; omega, R', by show List.length ws ≤ total (l.take (k + 1)); (try simp only [List.length_nil]); omega, by show List.length seen ≤ total (l.take (k + 1)); omega⟩, by show l.length - (k + 1) < l.length - k; omega⟩, ?_⟩); (repeat' (first | exact trivial | exact Wk.refl _ | exact ObWk.refl _ | exact rfl | exact ⟨_, rfl⟩ | exact Nat.zero_lt_one | refine And.intro ?_ ?_ | unfold okTo | (unfold okO; conv => whnf) | (unfold okS; conv => whnf) | (unfold SlotOk; conv => whnf) | (unfold ObjOk; conv => whnf) | (unfold okCells; conv => whnf) | (unfold liveTo; conv => whnf))))
            · have hA := add_ h _ R s.2 (by omega)
              have R1 := R.addL s.2
              have hB := radd_ (ws, seen) s.2 (by show ws.length + seen.length + s.2.length ≤ _; omega)
              have hB1 := radd_len (ws, seen) s.2
              have hcnt : (((h.addL s.2).n - h.n : Nat) : Int) = (((Wt.Rs.addL (ws, seen) s.2).2.length - seen.length : Nat) : Int) := by
                have := cnt s.2 R
                simp at this
                omega
              generalize hh1 : h.addL s.2 = h1 at hA R1 hcnt
              generalize hr1 : Wt.Rs.addL (ws, seen) s.2 = r1 at hB hB1 R1 hcnt
              obtain ⟨ws1, seen1⟩ := r1
              simp at hB1
              (conv => whnf)
              refine ⟨_, ⟨by omega, getMap hs⟩, ?_⟩
              (conv => whnf)
              refine CallLeaf.o [1536, 7208, 7209] (by (repeat' (first | exact ArgsTo.nil | refine ArgsTo.cons ?_ ?_ | exact ArgTo.mk' rfl (Wk.refl _) | exact ArgTo.mk' rfl Wk.nilm | exact ArgTo.mk' rfl (Wk.list _ _) | exact ArgTo.mk' rfl (Wk.agg (by (repeat' (first | exact Wks.nil | refine Wks.cons ?_ ?_ | exact Wk.refl _ | exact Wk.nilm | exact Wk.list _ _  | exact Wk.natN rfl | refine Wk.agg ?_))))))) (hA) rfl rfl (by (repeat' (first | exact trivial | exact rfl | refine And.intro ?_ ?_))) (by (repeat' (first | exact trivial | exact rfl | refine And.intro ?_ ?_))) (by (repeat' (first | exact trivial | exact rfl | refine And.intro ?_ ?_))) rfl rfl ?_
              (conv => whnf)
              refine ⟨_, ⟨by omega, getMap hs⟩, ?_⟩
              (conv => whnf)
              refine CallLeaf.w (by (repeat' (first | exact ArgsTo.nil | refine ArgsTo.cons ?_ ?_ | exact ArgTo.mk' rfl (Wk.refl _) | exact ArgTo.mk' rfl Wk.nilm | exact ArgTo.mk' rfl (Wk.list _ _) | exact ArgTo.mk' rfl (Wk.agg (by (repeat' (first | exact Wks.nil | refine Wks.cons ?_ ?_ | exact Wk.refl _ | exact Wk.nilm | exact Wk.list _ _  | exact Wk.natN rfl | refine Wk.agg ?_))))))) (hB) rfl ?_
              (conv => whnf)
              refine split_intro (fun h => absurd h (by (rw [hcnt]; simp))) (fun _ => ?_)
              (conv => whnf)
              ((refine CallLeaf.o [1536, 7208, 7209] (by (repeat' (first | exact ArgsTo.nil | refine ArgsTo.cons ?_ ?_ | exact ArgTo.mk' rfl (Wk.refl _) | exact ArgTo.mk' rfl Wk.nilm | exact ArgTo.mk' rfl (Wk.list _ _) | exact ArgTo.mk' rfl (Wk.agg (by (repeat' (first | exact Wks.nil | refine Wks.cons ?_ ?_ | exact Wk.refl _ | exact Wk.nilm | exact Wk.list _ _  | exact Wk.natN rfl | refine Wk.agg ?_))))))) (wlen_ h1) rfl rfl (by (repeat' (first | exact trivial | exact rfl | refine And.intro ?_ ?_))) (by (repeat' (first | exact trivial | exact rfl | refine And.intro ?_ ?_))) (by (repeat' (first | exact trivial | exact rfl | refine And.intro ?_ ?_))) rfl rfl ?_); ((conv => whnf)); (refine split_intro (fun h => absurd h (by (have := Wt.Wl.size (Wt.Rl.wl R1); simp at this; simp [this]))) (fun _ => ?_)); ((conv => whnf)); (refine CallLeaf.o [1536, 7208, 7209] (by (repeat' (first | exact ArgsTo.nil | refine ArgsTo.cons ?_ ?_ | exact ArgTo.mk' rfl (Wk.refl _) | exact ArgTo.mk' rfl Wk.nilm | exact ArgTo.mk' rfl (Wk.list _ _) | exact ArgTo.mk' rfl (Wk.agg (by (repeat' (first | exact Wks.nil | refine Wks.cons ?_ ?_ | exact Wk.refl _ | exact Wk.nilm | exact Wk.list _ _  | exact Wk.natN rfl | refine Wk.agg ?_))))))) (seen_ h1 _ R1 name) rfl rfl (by (repeat' (first | exact trivial | exact rfl | refine And.intro ?_ ?_))) (by (repeat' (first | exact trivial | exact rfl | refine And.intro ?_ ?_))) (by (repeat' (first | exact trivial | exact rfl | refine And.intro ?_ ?_))) rfl rfl ?_); ((conv => whnf)); (refine CallLeaf.w (by (repeat' (first | exact ArgsTo.nil | refine ArgsTo.cons ?_ ?_ | exact ArgTo.mk' rfl (Wk.refl _) | exact ArgTo.mk' rfl Wk.nilm | exact ArgTo.mk' rfl (Wk.list _ _) | exact ArgTo.mk' rfl (Wk.agg (by (repeat' (first | exact Wks.nil | refine Wks.cons ?_ ?_ | exact Wk.refl _ | exact Wk.nilm | exact Wk.list _ _  | exact Wk.natN rfl | refine Wk.agg ?_))))))) (has_ seen1 name) rfl ?_); ((conv => whnf)); (refine split_intro (fun h => absurd h (by (simp))) (fun _ => ?_)); ((conv => whnf)); (refine ⟨_, add64 (c := ((k + 1 : Nat) : Int)) (by omega) (by omega), ?_⟩); ((conv => whnf)); (refine ⟨(k + 1, some h1, ws1, seen1), ⟨⟨by show k + 1 ≤ _; omega, R1, by show List.length ws1 ≤ total (l.take (k + 1)); (try simp only [List.length_nil]); omega, by show List.length seen1 ≤ total (l.take (k + 1)); omega⟩, by show l.length - (k + 1) < l.length - k; omega⟩, ?_⟩); (repeat' (first | exact trivial | exact Wk.refl _ | exact ObWk.refl _ | exact rfl | exact ⟨_, rfl⟩ | exact Nat.zero_lt_one | refine And.intro ?_ ?_ | unfold okTo | (unfold okO; conv => whnf) | (unfold okS; conv => whnf) | (unfold SlotOk; conv => whnf) | (unfold ObjOk; conv => whnf) | (unfold okCells; conv => whnf) | (unfold liveTo; conv => whnf))))
          · (conv => whnf)
            exact Wk.refl _
end Go.Proofs.Ytbbaojokfabmlaa

/- The laws WantedOnce and WantedSplit. No condition. -/
set_option linter.unusedVariables false
set_option linter.unusedSimpArgs false
namespace Go.Proofs.Ytbbaojokfabmlaa
open Go Go.AL
set_option maxRecDepth 100000
theorem leqs {a b : Str} (h : Wt.lt a b = true) : (Op.bytesLess b a || decide (b = a)) = false := by
  have h1 : Op.bytesLess b a = false := Wt.lt_asymm h
  have h2 : ¬ b = a := fun e => by subst e; rw [Wt.lt_irr] at h; exact absurd h (by simp)
  rw [h1, decide_eq_false h2]; rfl
theorem addL_sub : ∀ (l : List Str) (r : Wt.Rs), (∀ w ∈ (r.addL l).1, w ∈ r.1 ∨ w ∈ l) ∧ (∀ s ∈ l, s ∈ (r.addL l).2) ∧ ∀ s ∈ r.2, s ∈ (r.addL l).2
  | [], r => ⟨fun w h => .inl h, fun s h => by simp at h, fun s h => h⟩
  | x :: l, r => by
    obtain ⟨h1, h2, h3⟩ := addL_sub l (r.add1 x)
    have e : r.addL (x :: l) = (r.add1 x).addL l := rfl
    rw [e]
    have hx : x ∈ (r.add1 x).2 ∧ (∀ s ∈ r.2, s ∈ (r.add1 x).2) ∧ ∀ w ∈ (r.add1 x).1, w ∈ r.1 ∨ w = x := by
      unfold Wt.Rs.add1
      split
      · rename_i h; exact ⟨h, fun s h => h, fun w h => .inl h⟩
      · exact ⟨by simp, fun s h => by simp [h], fun w h => ((Wt.put_mem _ _ _).1 h).symm⟩
    refine ⟨fun w h => ?_, fun s hs => ?_, fun s hs => h3 s (hx.2.1 s hs)⟩
    · rcases h1 w h with h | h
      · rcases hx.2.2 w h with h | h
        · exact .inl h
        · exact .inr (by simp [h])
      · exact .inr (by simp [h])
    · rcases List.mem_cons.1 hs with rfl | hs
      · exact h3 _ hx.1
      · exact h2 s hs
theorem addL_all : ∀ (l : List Str) {h : Wt.Hs} {r : Wt.Rs}, Wt.Rl h r → (∀ s ∈ l, s ∈ r.2) → h.addL l = h
  | [], h, r, _, _ => rfl
  | x :: l, h, r, R, H => by
    show (h.add1 x).addL l = h
    rw [add1_old R (H x (by simp))]
    exact addL_all l R (fun s hs => H s (by simp [hs]))
theorem few1 {l : List Str} (h : few [(false, l)] = true) : l.length ≤ 200 := by
  have := (few_iff h).2
  simpa [total] using this
theorem once_ (l : List Str) : FCall Try.prog Gl 4 [LS l] [] (vB true) [] := by
  refine FCall.enterL hT hmix [] Try.func4 rfl rfl rfl fun hbd => ?_
  (conv => whnf)
  refine CallLeaf.w (by (repeat' (first | exact ArgsTo.nil | refine ArgsTo.cons ?_ ?_ | exact ArgTo.mk' rfl (Wk.refl _) | exact ArgTo.mk' rfl Wk.nilm | exact ArgTo.mk' rfl (Wk.list _ _) | exact ArgTo.mk' rfl (Wk.agg (by (repeat' (first | exact Wks.nil | refine Wks.cons ?_ ?_ | exact Wk.refl _ | exact Wk.nilm | exact Wk.list _ _  | exact Wk.natN rfl | refine Wk.agg ?_))))))) (awake_) rfl ?_
  (conv => whnf)
  refine CallLeaf.w (by (repeat' (first | exact ArgsTo.nil | refine ArgsTo.cons ?_ ?_ | exact ArgTo.mk' rfl (Wk.refl _) | exact ArgTo.mk' rfl Wk.nilm | exact ArgTo.mk' rfl (Wk.list _ _) | exact ArgTo.mk' rfl (Wk.agg (by (repeat' (first | exact Wks.nil | refine Wks.cons ?_ ?_ | exact Wk.refl _ | exact Wk.nilm | exact Wk.list _ _  | exact Wk.natN rfl | refine Wk.agg ?_))))))) (few_ [(false, l)]) rfl ?_
  (conv => whnf)
  refine split_intro (fun hf => ?_) (fun hf => ?_)
  · (conv => whnf)
    refine CallLeaf.w (by (repeat' (first | exact ArgsTo.nil | refine ArgsTo.cons ?_ ?_ | exact ArgTo.mk' rfl (Wk.refl _) | exact ArgTo.mk' rfl Wk.nilm | exact ArgTo.mk' rfl (Wk.list _ _) | exact ArgTo.mk' rfl (Wk.agg (by (repeat' (first | exact Wks.nil | refine Wks.cons ?_ ?_ | exact Wk.refl _ | exact Wk.nilm | exact Wk.list _ _  | exact Wk.natN rfl | refine Wk.agg ?_))))))) (awake_) rfl ?_
    (conv => whnf)
    exact Wk.refl _
  · have hf' : few [(false, l)] = true := by simpa using hf
    have hl := few1 hf'
    have A1 := addZ_ l (by omega)
    have R1 := Wt.Rl.zero.addL l
    have B1 := addL_sub l ([], [])
    have C1 := radd_len ([], []) l
    generalize h0.addL l = h1 at A1 R1
    generalize Wt.Rs.addL ([], []) l = r1 at R1 B1 C1
    obtain ⟨ws1, seen⟩ := r1
    have hs1 : h1.n = ws1.length := R1.wl.size
    simp at B1 C1
    (conv => whnf)
    refine CallLeaf.o [1536, 2056, 2057] (by (repeat' (first | exact ArgsTo.nil | refine ArgsTo.cons ?_ ?_ | exact ArgTo.mk' rfl (Wk.refl _) | exact ArgTo.mk' rfl Wk.nilm | exact ArgTo.mk' rfl (Wk.list _ _) | exact ArgTo.mk' rfl (Wk.agg (by (repeat' (first | exact Wks.nil | refine Wks.cons ?_ ?_ | exact Wk.refl _ | exact Wk.nilm | exact Wk.list _ _  | exact Wk.natN rfl | refine Wk.agg ?_))))))) (A1) rfl rfl (by (repeat' (first | exact trivial | exact rfl | refine And.intro ?_ ?_))) (by (repeat' (first | exact trivial | exact rfl | refine And.intro ?_ ?_))) (by (repeat' (first | exact trivial | exact rfl | refine And.intro ?_ ?_))) rfl rfl ?_
    (conv => whnf)
    refine LWp.loop hT hmix [] (fun x : Nat × Wt.Hs × List Str × Str => [(6, vI x.1), (5, sD x.2.2.2)]) (fun x => [(1536, .cells [.sl 2056 x.2.1.g 0 x.2.1.n, .map 2057]), (2056, .arr x.2.1.g 1 (x.2.1.xs.map eS)), (2057, .map x.2.1.es)]) (fun x => x.1 + x.2.2.1.length = h1.n ∧ Wt.Rl x.2.1 (x.2.2.1, seen) ∧ (∀ w ∈ x.2.2.1, w ∈ l) ∧ (0 < x.1 → ∀ w ∈ x.2.2.1, Wt.lt x.2.2.2 w = true)) (fun x => x.2.2.1.length) (0, h1, ws1, []) ⟨by simp [hs1], R1, B1.1, fun h => by simp at h⟩ ?_
    (conv => whnf)
    refine ⟨?_, fun ⟨k, h, ws, bef⟩ ⟨hI1, hI2, hI3, hI4⟩ => ?_⟩
    · (repeat' (first | exact trivial | exact Wk.refl _ | exact ObWk.refl _ | exact rfl | exact ⟨_, rfl⟩ | exact Nat.zero_lt_one | refine And.intro ?_ ?_ | unfold okTo | (unfold okO; conv => whnf) | (unfold okS; conv => whnf) | (unfold SlotOk; conv => whnf) | (unfold ObjOk; conv => whnf) | (unfold okCells; conv => whnf) | (unfold liveTo; conv => whnf)))
    · replace hI1 : k + ws.length = h1.n := hI1
      replace hI2 : Wt.Rl h (ws, seen) := hI2
      replace hI3 : ∀ w ∈ ws, w ∈ l := hI3
      replace hI4 : 0 < k → ∀ w ∈ ws, Wt.lt bef w = true := hI4
      have hsz : h.n = ws.length := hI2.wl.size
      (conv => whnf)
      refine split_intro (fun hlt => ?_) (fun hlt => ?_)
      · cases ws with
        | nil => simp at hI1; simp [hI1] at hlt
        | cons w ws =>
          simp at hI1
          (conv => whnf)
          refine CallLeaf.o [1536, 2056, 2057] (by (repeat' (first | exact ArgsTo.nil | refine ArgsTo.cons ?_ ?_ | exact ArgTo.mk' rfl (Wk.refl _) | exact ArgTo.mk' rfl Wk.nilm | exact ArgTo.mk' rfl (Wk.list _ _) | exact ArgTo.mk' rfl (Wk.agg (by (repeat' (first | exact Wks.nil | refine Wks.cons ?_ ?_ | exact Wk.refl _ | exact Wk.nilm | exact Wk.list _ _  | exact Wk.natN rfl | refine Wk.agg ?_))))))) (take_ h w ws seen hI2 (by simp at hsz; omega)) rfl rfl (by (repeat' (first | exact trivial | exact rfl | refine And.intro ?_ ?_))) (by (repeat' (first | exact trivial | exact rfl | refine And.intro ?_ ?_))) (by (repeat' (first | exact trivial | exact rfl | refine And.intro ?_ ?_))) rfl rfl ?_
          (conv => whnf)
          refine CallLeaf.w (by (repeat' (first | exact ArgsTo.nil | refine ArgsTo.cons ?_ ?_ | exact ArgTo.mk' rfl (Wk.refl _) | exact ArgTo.mk' rfl Wk.nilm | exact ArgTo.mk' rfl (Wk.list _ _) | exact ArgTo.mk' rfl (Wk.agg (by (repeat' (first | exact Wks.nil | refine Wks.cons ?_ ?_ | exact Wk.refl _ | exact Wk.nilm | exact Wk.list _ _  | exact Wk.natN rfl | refine Wk.agg ?_))))))) (has_ l w) rfl ?_
          (conv => whnf)
          refine split_intro (fun h => absurd h (by (simp [hI3 w (by simp)]))) (fun _ => ?_)
          (conv => whnf)
          refine split_intro (fun hk0 => ?_) (fun hk0 => ?_)
          · have hlw : Op.bytesLess bef w = true := hI4 (by have := of_decide_eq_true hk0; omega) w (by simp)
            (conv => whnf)
            refine split_intro (fun h => absurd h (by (exact Bool.eq_false_iff.1 (leqs hlw)))) (fun _ => ?_)
            (conv => whnf)
            ((refine ⟨_, add64 (c := ((k + 1 : Nat) : Int)) (by omega) (by omega), ?_⟩); ((conv => whnf)); (refine ⟨(k + 1, h.pop, ws, w), ⟨⟨by show k + 1 + ws.length = _; omega, (hI2.pop).2, fun x hx => hI3 x (by simp [hx]), fun _ x hx => (List.pairwise_cons.1 hI2.srt).1 x hx⟩, by show ws.length < (w :: ws).length; simp⟩, ?_⟩); (repeat' (first | exact trivial | exact Wk.refl _ | exact ObWk.refl _ | exact rfl | exact ⟨_, rfl⟩ | exact Nat.zero_lt_one | refine And.intro ?_ ?_ | unfold okTo | (unfold okO; conv => whnf) | (unfold okS; conv => whnf) | (unfold SlotOk; conv => whnf) | (unfold ObjOk; conv => whnf) | (unfold okCells; conv => whnf) | (unfold liveTo; conv => whnf))))
          · (conv => whnf)
            ((refine ⟨_, add64 (c := ((k + 1 : Nat) : Int)) (by omega) (by omega), ?_⟩); ((conv => whnf)); (refine ⟨(k + 1, h.pop, ws, w), ⟨⟨by show k + 1 + ws.length = _; omega, (hI2.pop).2, fun x hx => hI3 x (by simp [hx]), fun _ x hx => (List.pairwise_cons.1 hI2.srt).1 x hx⟩, by show ws.length < (w :: ws).length; simp⟩, ?_⟩); (repeat' (first | exact trivial | exact Wk.refl _ | exact ObWk.refl _ | exact rfl | exact ⟨_, rfl⟩ | exact Nat.zero_lt_one | refine And.intro ?_ ?_ | unfold okTo | (unfold okO; conv => whnf) | (unfold okS; conv => whnf) | (unfold SlotOk; conv => whnf) | (unfold ObjOk; conv => whnf) | (unfold okCells; conv => whnf) | (unfold liveTo; conv => whnf))))
      · have hk : ws = [] := by
          have : ¬ k < h1.n := by simpa using hlt
          exact List.eq_nil_of_length_eq_zero (by omega)
        subst hk
        have A2 := take0_ h hsz
        have A3 := add_ h _ hI2 l (by simp at hsz; omega)
        rw [addL_all l hI2 B1.2] at A3
        rw [Nat.sub_self] at A3
        (conv => whnf)
        refine CallLeaf.o [1536, 2056, 2057] (by (repeat' (first | exact ArgsTo.nil | refine ArgsTo.cons ?_ ?_ | exact ArgTo.mk' rfl (Wk.refl _) | exact ArgTo.mk' rfl Wk.nilm | exact ArgTo.mk' rfl (Wk.list _ _) | exact ArgTo.mk' rfl (Wk.agg (by (repeat' (first | exact Wks.nil | refine Wks.cons ?_ ?_ | exact Wk.refl _ | exact Wk.nilm | exact Wk.list _ _  | exact Wk.natN rfl | refine Wk.agg ?_))))))) (A2) rfl rfl (by (repeat' (first | exact trivial | exact rfl | refine And.intro ?_ ?_))) (by (repeat' (first | exact trivial | exact rfl | refine And.intro ?_ ?_))) (by (repeat' (first | exact trivial | exact rfl | refine And.intro ?_ ?_))) rfl rfl ?_
        (conv => whnf)
        refine LWp.loop hT hmix [] (fun j : Nat => [(11, vI j)]) (fun _ => []) (fun j => j ≤ l.length) (fun j => l.length - j) 0 (Nat.zero_le _) ?_
        (conv => whnf)
        refine ⟨?_, fun k hj => ?_⟩
        · (repeat' (first | exact trivial | exact Wk.refl _ | exact ObWk.refl _ | exact rfl | exact ⟨_, rfl⟩ | exact Nat.zero_lt_one | refine And.intro ?_ ?_ | unfold okTo | (unfold okO; conv => whnf) | (unfold okS; conv => whnf) | (unfold SlotOk; conv => whnf) | (unfold ObjOk; conv => whnf) | (unfold okCells; conv => whnf) | (unfold liveTo; conv => whnf)))
        · (conv => whnf)
          refine split_intro (fun g => ?_) (fun g => ?_)
          · have hj' : k < l.length := by simpa using g
            obtain ⟨s, hs⟩ := exI hj'
            (conv => whnf)
            refine ⟨_, ⟨by omega, getMap hs⟩, ?_⟩
            (conv => whnf)
            refine CallLeaf.o [1536, 2056, 2057] (by (repeat' (first | exact ArgsTo.nil | refine ArgsTo.cons ?_ ?_ | exact ArgTo.mk' rfl (Wk.refl _) | exact ArgTo.mk' rfl Wk.nilm | exact ArgTo.mk' rfl (Wk.list _ _) | exact ArgTo.mk' rfl (Wk.agg (by (repeat' (first | exact Wks.nil | refine Wks.cons ?_ ?_ | exact Wk.refl _ | exact Wk.nilm | exact Wk.list _ _  | exact Wk.natN rfl | refine Wk.agg ?_))))))) (seen_ h _ hI2 s) rfl rfl (by (repeat' (first | exact trivial | exact rfl | refine And.intro ?_ ?_))) (by (repeat' (first | exact trivial | exact rfl | refine And.intro ?_ ?_))) (by (repeat' (first | exact trivial | exact rfl | refine And.intro ?_ ?_))) rfl rfl ?_
            (conv => whnf)
            refine split_intro (fun h => absurd h (by (simp [B1.2 s (List.mem_of_getElem? hs)]))) (fun _ => ?_)
            (conv => whnf)
            refine ⟨_, add64 (c := ((k + 1 : Nat) : Int)) (by omega) (by omega), ?_⟩
            (conv => whnf)
            refine ⟨k + 1, ⟨by omega, by simp only []; omega⟩, ?_⟩
            (repeat' (first | exact trivial | exact Wk.refl _ | exact ObWk.refl _ | exact rfl | exact ⟨_, rfl⟩ | exact Nat.zero_lt_one | refine And.intro ?_ ?_ | unfold okTo | (unfold okO; conv => whnf) | (unfold okS; conv => whnf) | (unfold SlotOk; conv => whnf) | (unfold ObjOk; conv => whnf) | (unfold okCells; conv => whnf) | (unfold liveTo; conv => whnf)))
          · (conv => whnf)
            refine CallLeaf.o [1536, 2056, 2057] (by (repeat' (first | exact ArgsTo.nil | refine ArgsTo.cons ?_ ?_ | exact ArgTo.mk' rfl (Wk.refl _) | exact ArgTo.mk' rfl Wk.nilm | exact ArgTo.mk' rfl (Wk.list _ _) | exact ArgTo.mk' rfl (Wk.agg (by (repeat' (first | exact Wks.nil | refine Wks.cons ?_ ?_ | exact Wk.refl _ | exact Wk.nilm | exact Wk.list _ _  | exact Wk.natN rfl | refine Wk.agg ?_))))))) (wlen_ h) rfl rfl (by (repeat' (first | exact trivial | exact rfl | refine And.intro ?_ ?_))) (by (repeat' (first | exact trivial | exact rfl | refine And.intro ?_ ?_))) (by (repeat' (first | exact trivial | exact rfl | refine And.intro ?_ ?_))) rfl rfl ?_
            (conv => whnf)
            refine split_intro (fun _ => ?_) (fun h => absurd h (by (rw [hsz]; simp)))
            (conv => whnf)
            refine CallLeaf.o [1536, 2056, 2057] (by (repeat' (first | exact ArgsTo.nil | refine ArgsTo.cons ?_ ?_ | exact ArgTo.mk' rfl (Wk.refl _) | exact ArgTo.mk' rfl Wk.nilm | exact ArgTo.mk' rfl (Wk.list _ _) | exact ArgTo.mk' rfl (Wk.agg (by (repeat' (first | exact Wks.nil | refine Wks.cons ?_ ?_ | exact Wk.refl _ | exact Wk.nilm | exact Wk.list _ _  | exact Wk.natN rfl | refine Wk.agg ?_))))))) (A3) rfl rfl (by (repeat' (first | exact trivial | exact rfl | refine And.intro ?_ ?_))) (by (repeat' (first | exact trivial | exact rfl | refine And.intro ?_ ?_))) (by (repeat' (first | exact trivial | exact rfl | refine And.intro ?_ ?_))) rfl rfl ?_
            (conv => whnf)
            exact Wk.refl _
theorem split_ (l : List Str) (cut : Int) (hc : 0 ≤ cut ∧ cut ≤ 255) : FCall Try.prog Gl 5 [LS l, .v (.int .u8 cut)] [] (vB true) [] := by
  refine FCall.enterL hT hmix [] Try.func5 rfl rfl rfl fun hbd => ?_
  obtain ⟨c, rfl⟩ := Int.eq_ofNat_of_zero_le hc.1
  (conv => whnf)
  refine CallLeaf.w (by (repeat' (first | exact ArgsTo.nil | refine ArgsTo.cons ?_ ?_ | exact ArgTo.mk' rfl (Wk.refl _) | exact ArgTo.mk' rfl Wk.nilm | exact ArgTo.mk' rfl (Wk.list _ _) | exact ArgTo.mk' rfl (Wk.agg (by (repeat' (first | exact Wks.nil | refine Wks.cons ?_ ?_ | exact Wk.refl _ | exact Wk.nilm | exact Wk.list _ _  | exact Wk.natN rfl | refine Wk.agg ?_))))))) (awake_) rfl ?_
  (conv => whnf)
  refine CallLeaf.w (by (repeat' (first | exact ArgsTo.nil | refine ArgsTo.cons ?_ ?_ | exact ArgTo.mk' rfl (Wk.refl _) | exact ArgTo.mk' rfl Wk.nilm | exact ArgTo.mk' rfl (Wk.list _ _) | exact ArgTo.mk' rfl (Wk.agg (by (repeat' (first | exact Wks.nil | refine Wks.cons ?_ ?_ | exact Wk.refl _ | exact Wk.nilm | exact Wk.list _ _  | exact Wk.natN rfl | refine Wk.agg ?_))))))) (few_ [(false, l)]) rfl ?_
  (conv => whnf)
  refine split_intro (fun hf => ?_) (fun hf => ?_)
  · (conv => whnf)
    refine CallLeaf.w (by (repeat' (first | exact ArgsTo.nil | refine ArgsTo.cons ?_ ?_ | exact ArgTo.mk' rfl (Wk.refl _) | exact ArgTo.mk' rfl Wk.nilm | exact ArgTo.mk' rfl (Wk.list _ _) | exact ArgTo.mk' rfl (Wk.agg (by (repeat' (first | exact Wks.nil | refine Wks.cons ?_ ?_ | exact Wk.refl _ | exact Wk.nilm | exact Wk.list _ _  | exact Wk.natN rfl | refine Wk.agg ?_))))))) (awake_) rfl ?_
    (conv => whnf)
    exact Wk.refl _
  · have hf' : few [(false, l)] = true := by simpa using hf
    have hl := few1 hf'
    have hcm : c % (l.length + 1) ≤ l.length := by have := Nat.mod_lt c (show 0 < l.length + 1 by omega); omega
    generalize hcc : c % (l.length + 1) = m at hcm
    have A1 := addZ_ l (by omega)
    have R1 := Wt.Rl.zero.addL l
    have hlt : (l.take m).length ≤ l.length := by simp; omega
    have hld : (l.drop m).length ≤ l.length := by simp
    have A2 := addZ_ (l.take m) (by omega)
    have R2 := Wt.Rl.zero.addL (l.take m)
    have hn2 := Wt.Hs.addL_n (l.take m) h0
    have A3 := add_ _ _ R2 (l.drop m) (by have : h0.n = 0 := rfl; have := hn2.2; show (h0.addL (l.take m)).n + _ ≤ _; omega)
    have R3 := R2.addL (l.drop m)
    have hn3 := Wt.Hs.addL_n (l.drop m) (h0.addL (l.take m))
    have er : (Wt.Rs.addL ([], []) (l.take m)).addL (l.drop m) = Wt.Rs.addL ([], []) l := by
      simp only [Wt.Rs.addL]
      rw [← List.foldl_append, List.take_append_drop]
    rw [er] at R3
    generalize h0.addL l = h1 at A1 R1
    generalize h0.addL (l.take m) = h2 at A2 A3 R3 hn2 hn3
    generalize h2.addL (l.drop m) = h3 at A3 R3 hn3
    generalize Wt.Rs.addL ([], []) l = r1 at R1 R3
    obtain ⟨ws1, seen⟩ := r1
    have hs1 : h1.n = ws1.length := R1.wl.size
    have hs3 : h3.n = ws1.length := R3.wl.size
    have hh0 : h0.n = 0 := rfl
    (conv => whnf)
    refine ⟨_, wrap64 (by omega), ?_⟩
    (conv => whnf)
    refine ⟨((l.length + 1 : Nat) : Int), add64 (by simp) (by omega), ?_⟩
    (conv => whnf)
    refine ⟨(m : Int), rem64 (by rw [← hcc]; exact (Int.ofNat_tmod c (l.length + 1)).symm) (by omega), ?_⟩
    (conv => whnf)
    refine CallLeaf.o [2048, 3080, 3081] (by (repeat' (first | exact ArgsTo.nil | refine ArgsTo.cons ?_ ?_ | exact ArgTo.mk' rfl (Wk.refl _) | exact ArgTo.mk' rfl Wk.nilm | exact ArgTo.mk' rfl (Wk.list _ _) | exact ArgTo.mk' rfl (Wk.agg (by (repeat' (first | exact Wks.nil | refine Wks.cons ?_ ?_ | exact Wk.refl _ | exact Wk.nilm | exact Wk.list _ _  | exact Wk.natN rfl | refine Wk.agg ?_))))))) (A1) rfl rfl (by (repeat' (first | exact trivial | exact rfl | refine And.intro ?_ ?_))) (by (repeat' (first | exact trivial | exact rfl | refine And.intro ?_ ?_))) (by (repeat' (first | exact trivial | exact rfl | refine And.intro ?_ ?_))) rfl rfl ?_
    (conv => whnf)
    refine ⟨_, slL (f := eS) (l := l) (r := l.take m) (s := 1) (by decide) (by omega) (by simp; omega) (fun _ => rfl) (by simp), ?_⟩
    (conv => whnf)
    refine CallLeaf.o [2560, 3608, 3609] (by (repeat' (first | exact ArgsTo.nil | refine ArgsTo.cons ?_ ?_ | exact ArgTo.mk' rfl (Wk.refl _) | exact ArgTo.mk' rfl Wk.nilm | exact ArgTo.mk' rfl (Wk.list _ _) | exact ArgTo.mk' rfl (Wk.agg (by (repeat' (first | exact Wks.nil | refine Wks.cons ?_ ?_ | exact Wk.refl _ | exact Wk.nilm | exact Wk.list _ _  | exact Wk.natN rfl | refine Wk.agg ?_))))))) (A2) rfl rfl (by (repeat' (first | exact trivial | exact rfl | refine And.intro ?_ ?_))) (by (repeat' (first | exact trivial | exact rfl | refine And.intro ?_ ?_))) (by (repeat' (first | exact trivial | exact rfl | refine And.intro ?_ ?_))) rfl rfl ?_
    (conv => whnf)
    refine ⟨_, slL (f := eS) (l := l) (r := l.drop m) (s := 1) (by omega) (by simp; omega) (by simp) (fun _ => rfl) (by simp), ?_⟩
    (conv => whnf)
    refine CallLeaf.o [2560, 3608, 3609] (by (repeat' (first | exact ArgsTo.nil | refine ArgsTo.cons ?_ ?_ | exact ArgTo.mk' rfl (Wk.refl _) | exact ArgTo.mk' rfl Wk.nilm | exact ArgTo.mk' rfl (Wk.list _ _) | exact ArgTo.mk' rfl (Wk.agg (by (repeat' (first | exact Wks.nil | refine Wks.cons ?_ ?_ | exact Wk.refl _ | exact Wk.nilm | exact Wk.list _ _  | exact Wk.natN rfl | refine Wk.agg ?_))))))) (A3) rfl rfl (by (repeat' (first | exact trivial | exact rfl | refine And.intro ?_ ?_))) (by (repeat' (first | exact trivial | exact rfl | refine And.intro ?_ ?_))) (by (repeat' (first | exact trivial | exact rfl | refine And.intro ?_ ?_))) rfl rfl ?_
    (conv => whnf)
    refine ⟨(h3.n : Int), add64 (by omega) (by omega), ?_⟩
    (conv => whnf)
    refine split_intro (fun h => absurd h (by (rw [hs1, hs3]; simp))) (fun _ => ?_)
    (conv => whnf)
    refine CallLeaf.o [2048, 3080, 3081] (by (repeat' (first | exact ArgsTo.nil | refine ArgsTo.cons ?_ ?_ | exact ArgTo.mk' rfl (Wk.refl _) | exact ArgTo.mk' rfl Wk.nilm | exact ArgTo.mk' rfl (Wk.list _ _) | exact ArgTo.mk' rfl (Wk.agg (by (repeat' (first | exact Wks.nil | refine Wks.cons ?_ ?_ | exact Wk.refl _ | exact Wk.nilm | exact Wk.list _ _  | exact Wk.natN rfl | refine Wk.agg ?_))))))) (wlen_ h1) rfl rfl (by (repeat' (first | exact trivial | exact rfl | refine And.intro ?_ ?_))) (by (repeat' (first | exact trivial | exact rfl | refine And.intro ?_ ?_))) (by (repeat' (first | exact trivial | exact rfl | refine And.intro ?_ ?_))) rfl rfl ?_
    (conv => whnf)
    refine CallLeaf.o [2560, 3608, 3609] (by (repeat' (first | exact ArgsTo.nil | refine ArgsTo.cons ?_ ?_ | exact ArgTo.mk' rfl (Wk.refl _) | exact ArgTo.mk' rfl Wk.nilm | exact ArgTo.mk' rfl (Wk.list _ _) | exact ArgTo.mk' rfl (Wk.agg (by (repeat' (first | exact Wks.nil | refine Wks.cons ?_ ?_ | exact Wk.refl _ | exact Wk.nilm | exact Wk.list _ _  | exact Wk.natN rfl | refine Wk.agg ?_))))))) (wlen_ h3) rfl rfl (by (repeat' (first | exact trivial | exact rfl | refine And.intro ?_ ?_))) (by (repeat' (first | exact trivial | exact rfl | refine And.intro ?_ ?_))) (by (repeat' (first | exact trivial | exact rfl | refine And.intro ?_ ?_))) rfl rfl ?_
    (conv => whnf)
    refine split_intro (fun h => absurd h (by (rw [hs1, hs3]; simp))) (fun _ => ?_)
    (conv => whnf)
    refine LWp.loop hT hmix [] (fun x : Nat × Wt.Hs × Wt.Hs × List Str => [(10, vI x.1)]) (fun x => [(2048, .cells [.sl 3080 x.2.1.g 0 x.2.1.n, .map 3081]), (3080, .arr x.2.1.g 1 (x.2.1.xs.map eS)), (3081, .map x.2.1.es), (2560, .cells [.sl 3608 x.2.2.1.g 0 x.2.2.1.n, .map 3609]), (3608, .arr x.2.2.1.g 1 (x.2.2.1.xs.map eS)), (3609, .map x.2.2.1.es)]) (fun x => x.1 + x.2.2.2.length = h1.n ∧ Wt.Rl x.2.1 (x.2.2.2, seen) ∧ Wt.Rl x.2.2.1 (x.2.2.2, seen)) (fun x => x.2.2.2.length) (0, h1, h3, ws1) ⟨by simp [hs1], R1, R3⟩ ?_
    (conv => whnf)
    refine ⟨?_, fun ⟨k, x, y, ws⟩ ⟨hI1, hI2, hI3⟩ => ?_⟩
    · (repeat' (first | exact trivial | exact Wk.refl _ | exact ObWk.refl _ | exact rfl | exact ⟨_, rfl⟩ | exact Nat.zero_lt_one | refine And.intro ?_ ?_ | unfold okTo | (unfold okO; conv => whnf) | (unfold okS; conv => whnf) | (unfold SlotOk; conv => whnf) | (unfold ObjOk; conv => whnf) | (unfold okCells; conv => whnf) | (unfold liveTo; conv => whnf)))
    · replace hI1 : k + ws.length = h1.n := hI1
      replace hI2 : Wt.Rl x (ws, seen) := hI2
      replace hI3 : Wt.Rl y (ws, seen) := hI3
      have hx : x.n = ws.length := hI2.wl.size
      have hy : y.n = ws.length := hI3.wl.size
      (conv => whnf)
      refine split_intro (fun hlt => ?_) (fun hlt => ?_)
      · cases ws with
        | nil => simp at hI1; simp [hI1] at hlt
        | cons w ws =>
          simp at hI1
          (conv => whnf)
          refine CallLeaf.o [2048, 3080, 3081] (by (repeat' (first | exact ArgsTo.nil | refine ArgsTo.cons ?_ ?_ | exact ArgTo.mk' rfl (Wk.refl _) | exact ArgTo.mk' rfl Wk.nilm | exact ArgTo.mk' rfl (Wk.list _ _) | exact ArgTo.mk' rfl (Wk.agg (by (repeat' (first | exact Wks.nil | refine Wks.cons ?_ ?_ | exact Wk.refl _ | exact Wk.nilm | exact Wk.list _ _  | exact Wk.natN rfl | refine Wk.agg ?_))))))) (take_ x w ws seen hI2 (by simp at hx; omega)) rfl rfl (by (repeat' (first | exact trivial | exact rfl | refine And.intro ?_ ?_))) (by (repeat' (first | exact trivial | exact rfl | refine And.intro ?_ ?_))) (by (repeat' (first | exact trivial | exact rfl | refine And.intro ?_ ?_))) rfl rfl ?_
          (conv => whnf)
          refine CallLeaf.o [2560, 3608, 3609] (by (repeat' (first | exact ArgsTo.nil | refine ArgsTo.cons ?_ ?_ | exact ArgTo.mk' rfl (Wk.refl _) | exact ArgTo.mk' rfl Wk.nilm | exact ArgTo.mk' rfl (Wk.list _ _) | exact ArgTo.mk' rfl (Wk.agg (by (repeat' (first | exact Wks.nil | refine Wks.cons ?_ ?_ | exact Wk.refl _ | exact Wk.nilm | exact Wk.list _ _  | exact Wk.natN rfl | refine Wk.agg ?_))))))) (take_ y w ws seen hI3 (by simp at hy; omega)) rfl rfl (by (repeat' (first | exact trivial | exact rfl | refine And.intro ?_ ?_))) (by (repeat' (first | exact trivial | exact rfl | refine And.intro ?_ ?_))) (by (repeat' (first | exact trivial | exact rfl | refine And.intro ?_ ?_))) rfl rfl ?_
          (conv => whnf)
          refine split_intro (fun h => absurd h (by (simp))) (fun _ => ?_)
          (conv => whnf)
          refine ⟨_, add64 (c := ((k + 1 : Nat) : Int)) (by omega) (by omega), ?_⟩
          (conv => whnf)
          refine ⟨(k + 1, x.pop, y.pop, ws), ⟨⟨by show k + 1 + ws.length = _; omega, hI2.pop.2, hI3.pop.2⟩, by show ws.length < (w :: ws).length; simp⟩, ?_⟩
          (repeat' (first | exact trivial | exact Wk.refl _ | exact ObWk.refl _ | exact rfl | exact ⟨_, rfl⟩ | exact Nat.zero_lt_one | refine And.intro ?_ ?_ | unfold okTo | (unfold okO; conv => whnf) | (unfold okS; conv => whnf) | (unfold SlotOk; conv => whnf) | (unfold ObjOk; conv => whnf) | (unfold okCells; conv => whnf) | (unfold liveTo; conv => whnf)))
      · (conv => whnf)
        exact Wk.refl _
end Go.Proofs.Ytbbaojokfabmlaa

/- What the rows of layer 15 share. No condition. -/
set_option linter.unusedVariables false
set_option linter.unusedSimpArgs false
namespace Go.Proofs.Ytbbaojokfabmlaa
open Go Go.AL
open Go.ChangeShapes Go.WideShapes Go.ChangeAt Go.RowKit
theorem own : ownKnob Try.prog.godebug = none := by kernel_rfl
theorem laidOut : laidOutB Try.prog = true := by kernel_rfl
theorem globOk0 {W : World} : GlobOk Gl W := fun g j hj => by simp [Gl] at hj
theorem strs_of {n : Nat} {ds : List D} (h : Rd Try.prog (n + 1) 9 ds) : ∃ s : Str, ds = eS s := by
  simp only [Rd, Try.underlying9] at h
  obtain ⟨s, hs, rfl⟩ := h
  exact ⟨_, rfl⟩
theorem arg_S {ds : List D} (h : Rd Try.prog 8 9 ds) : ∃ s : Str, True ∧ argD Try.prog 9 ds = sD s := by
  obtain ⟨s, rfl⟩ := strs_of (n := 7) h
  exact ⟨s, trivial, by simp only [argD, Try.underlying9]⟩
theorem arg_LS {ds : List D} (h : Rd Try.prog 8 25 ds) : ∃ l : List Str, True ∧ argD Try.prog 25 ds = LS l := by
  obtain ⟨l, e⟩ := list_of (f := eS) Try.underlying25 (fun x => strs_of (n := 6)) h
  exact ⟨l, trivial, e⟩
theorem arg_LSt {ds : List D} (h : Rd Try.prog 8 22 ds) : ∃ l : List Step, True ∧ argD Try.prog 22 ds = LSt l := by
  obtain ⟨l, e⟩ := list_of (f := Step.enc) Try.underlying22 (fun x hx => by
    simp only [Rd, Try.underlying33, RdFs] at hx
    obtain ⟨a, b, rfl, h1, a2, b2, rfl, h2, rfl⟩ := hx
    obtain ⟨t, rfl⟩ : ∃ t, a = [vB t] := by simpa only [Rd, Try.underlying4] using h1
    obtain ⟨l, rfl⟩ := list_of' (f := eS) (n := 5) Try.underlying25 (fun x => strs_of (n := 4)) h2
    exact ⟨(t, l), rfl⟩) h
  exact ⟨l, trivial, e⟩
theorem arg_u8 {ds : List D} (h : Rd Try.prog 8 5 ds) : ∃ t : Int, (0 ≤ t ∧ t ≤ 255) ∧ argD Try.prog 5 ds = .v (.int .u8 t) := arg_u8' Try.underlying5 h
end Go.Proofs.Ytbbaojokfabmlaa
