/- The walks through the heap of names. No condition. -/
import Derived.Test.YtdlcaoobaejlpaaDoorSyb
import Derived.Test.YtdlcaoobaejlpaaDoorProg
import Derived.KernelRfl
import Derived.Test.YtdlcaoobaejlpaaDoorAop
import Derived.Test.YtdlcaoobaejlpaaDoorRows
import Derived.Test.YtdlcaoobaejlpaaDoorCards
import Derived.Test.YtdlcaoobaejlpaaDoorTie
import Derived.SevenTiedAt
set_option linter.unusedVariables false
set_option linter.unusedSimpArgs false
namespace Go.Proofs.YtdlcaoobaejlpaaDoor.V
open Go Go.AL
set_option maxRecDepth 100000
abbrev sLt (a b : Str) : Bool := Op.bytesLess a b
theorem less_ (xs : List Str) (g n i k : Nat) (a b : Str) (hn : n ≤ xs.length) (hi : i < n) (hk : k < n) (ha : xs[i]? = some a) (hb : xs[k]? = some b) :
    FCall Tryd.prog Gl 102 [.sl 0 g 0 n, vI i, vI k] [.arr g 1 (xs.map eS)] (vB (sLt a b)) [.arr g 1 (xs.map eS)] := by
  refine FCall.enterO hT hmix [] Tryd.func102 rfl rfl rfl fun hbd => ?_
  (conv => whnf)
  refine ⟨⟨rfl, rfl, by omega, by omega, by simpa using hn⟩, ?_⟩
  (conv => whnf)
  refine ⟨eS a, ⟨rfl, rfl, by simp [ha]⟩, ?_⟩
  (conv => whnf)
  refine ⟨⟨rfl, rfl, by omega, by omega, by simpa using hn⟩, ?_⟩
  (conv => whnf)
  refine ⟨eS b, ⟨rfl, rfl, by simp [hb]⟩, ?_⟩
  (conv => whnf)
  refine ⟨[0], rfl, by (try unfold pullOk); (repeat' (first | exact trivial | exact ObWk.refl _ | refine And.intro ?_ ?_ | unfold pullOk)), ?_⟩
  exact Wk.refl _
def swapL (xs : List Str) (i k : Nat) (a b : Str) : List Str := (xs.set i b).set k a
theorem len_ (xs : List Str) (g n : Nat) : FCall Tryd.prog Gl 101 [.sl 0 g 0 n] [.arr g 1 (xs.map eS)] (vI n) [.arr g 1 (xs.map eS)] := by
  refine FCall.enterO hT hmix [] Tryd.func101 rfl rfl rfl fun hbd => ?_
  (conv => whnf)
  refine ⟨[0], rfl, by (try unfold pullOk); (repeat' (first | exact trivial | exact ObWk.refl _ | refine And.intro ?_ ?_ | unfold pullOk)), ?_⟩
  exact Wk.refl _
theorem swap_ (xs : List Str) (g n i k : Nat) (a b : Str) (hn : n ≤ xs.length) (hi : i < n) (hk : k < n) (ha : xs[i]? = some a) (hb : xs[k]? = some b) :
    FCall Tryd.prog Gl 103 [.sl 0 g 0 n, vI i, vI k] [.arr g 1 (xs.map eS)] (.tuple []) [.arr g 1 ((swapL xs i k a b).map eS)] := by
  refine FCall.enterO hT hmix [] Tryd.func103 rfl rfl rfl fun hbd => ?_
  (conv => whnf)
  refine ⟨⟨rfl, rfl, by omega, by omega, by simpa using hn⟩, ?_⟩
  (conv => whnf)
  refine ⟨eS b, ⟨rfl, rfl, by simp [hb]⟩, ?_⟩
  (conv => whnf)
  refine ⟨⟨rfl, rfl, by omega, by omega, by simpa using hn⟩, ?_⟩
  (conv => whnf)
  refine ⟨eS a, ⟨rfl, rfl, by simp [ha]⟩, ?_⟩
  (conv => whnf)
  refine ⟨⟨rfl, rfl, by omega, by omega, by simpa using hn⟩, ?_⟩
  (conv => whnf)
  refine ⟨eS a, (xs.set i b).map eS, ⟨rfl, rfl, by simp [ha]⟩, ⟨Nat.le_refl 1, by simp [setCells, toCells]⟩, ?_⟩
  (conv => whnf)
  refine ⟨⟨rfl, rfl, by omega, by omega, by simpa using hn⟩, ?_⟩
  (conv => whnf)
  obtain ⟨c, hc⟩ := exI (l := xs.set i b) (k := k) (by simp; omega)
  refine ⟨eS c, (swapL xs i k a b).map eS, ⟨rfl, rfl, by simp only [Nat.zero_add, Int.toNat_natCast]; exact getMap hc⟩, ⟨Nat.le_refl 1, by simp [setCells, toCells, swapL]⟩, ?_⟩
  (conv => whnf)
  refine ⟨[0], rfl, by (try unfold pullOk); (repeat' (first | exact trivial | exact ObWk.refl _ | refine And.intro ?_ ?_ | unfold pullOk)), ?_⟩
  exact Wk.refl _
/-- a list of names, and what lies beside it -/
abbrev Hp (g n : Nat) (xs : List Str) (es : Ents) : List AObj := [.cells [.sl 1 g 0 n, .map 2], .arr g 1 (xs.map eS), .map es]
theorem push_ (xs : List Str) (g n : Nat) (s : Str) (es : Ents) (hn : n ≤ xs.length) (hb : n ≤ 100000000) :
    FCall Tryd.prog Gl 105 [.ptr 0 0, .iface 9 (sD s)] (Hp g n xs es) (.tuple []) (Hp (g + 1) (n + 1) (xs.take n ++ [s]) es) := by
  refine FCall.enterO hT hmix [] Tryd.func105 rfl rfl rfl fun hbd => ?_
  (conv => whnf)
  refine ⟨(xs.take n ++ [s]).map eS, ⟨rfl, rfl, by simpa using hn, by simp, fun c hc => by simp at hc; subst hc; rfl, by show (n + 1) * 16 ≤ _; omega⟩, ?_⟩
  (conv => whnf)
  refine ⟨[0, 1, 2], rfl, by (try unfold pullOk); (repeat' (first | exact trivial | exact ObWk.refl _ | refine And.intro ?_ ?_ | unfold pullOk)), ?_⟩
  exact Wk.refl _
theorem pop_ (xs : List Str) (g n : Nat) (s : Str) (es : Ents) (hn : n + 1 ≤ xs.length) (hb : n ≤ 100000000) (hs : xs[n]? = some s) :
    FCall Tryd.prog Gl 104 [.ptr 0 0] (Hp g (n + 1) xs es) (.iface 9 (sD s)) (Hp g n xs es) := by
  refine FCall.enterO hT hmix [] Tryd.func104 rfl rfl rfl fun hbd => ?_
  (conv => whnf)
  refine ⟨(n : Int), sub64 (by omega) (by omega), ?_⟩
  (conv => whnf)
  refine ⟨⟨rfl, rfl, by omega, by omega, by simpa using hn⟩, ?_⟩
  (conv => whnf)
  refine ⟨eS s, ⟨rfl, rfl, by simp [hs]⟩, ?_⟩
  (conv => whnf)
  refine ⟨⟨rfl, rfl, by simpa using hn, by omega, by omega, by omega⟩, ?_⟩
  (conv => whnf)
  refine ⟨[0, 1, 2], rfl, by (try unfold pullOk); (repeat' (first | exact trivial | exact ObWk.refl _ | refine And.intro ?_ ?_ | unfold pullOk)), ?_⟩
  exact Wk.refl _
end Go.Proofs.YtdlcaoobaejlpaaDoor.V

/- The walks through container/heap over the heap of names. No condition. -/
set_option linter.unusedVariables false
set_option linter.unusedSimpArgs false
namespace Go.Proofs.YtdlcaoobaejlpaaDoor.V
open Go Go.AL
set_option maxRecDepth 100000
abbrev hq : D := .iface 113 (.ptr 0 0)
theorem at_some {xs : List Str} {i : Nat} (h : i < xs.length) : xs[i]? = some (Wt.at' xs i) := by
  simp [Wt.at', List.getD, h]
theorem quo_par (k : Nat) (hk : k ≤ 100000000) : intBin .quo .i64 ((k : Int) - 1) 2 = some (Wt.par k : Int) := by
  have : ((k : Int) - 1).tdiv 2 = (Wt.par k : Int) := by
    unfold Wt.par
    rcases Nat.eq_zero_or_pos k with h | h
    · subst h; rfl
    · rw [Int.tdiv_eq_ediv_of_nonneg (by omega)]; omega
  show (if (2 : Int) = 0 then none else some (IntKind.i64.wrap (((k : Int) - 1).tdiv 2))) = _
  have hb : (Wt.par k : Int) ≤ 9223372036854775807 := by unfold Wt.par; omega
  rw [if_neg (by decide), this, IntWalk.i64_in _ ⟨by omega, hb⟩]
theorem less' (xs : List Str) (g n i k : Nat) (hn : n ≤ xs.length) (hi : i < n) (hk : k < n) :
    FCall Tryd.prog Gl 102 [.sl 0 g 0 n, vI i, vI k] [.arr g 1 (xs.map eS)] (vB (Wt.lt (Wt.at' xs i) (Wt.at' xs k))) [.arr g 1 (xs.map eS)] :=
  less_ xs g n i k _ _ hn hi hk (at_some (by omega)) (at_some (by omega))
theorem swap' (xs : List Str) (g n i k : Nat) (hn : n ≤ xs.length) (hi : i < n) (hk : k < n) :
    FCall Tryd.prog Gl 103 [.sl 0 g 0 n, vI i, vI k] [.arr g 1 (xs.map eS)] (.tuple []) [.arr g 1 ((Wt.swp xs i k).map eS)] :=
  swap_ xs g n i k _ _ hn hi hk (at_some (by omega)) (at_some (by omega))
theorem up_ (xs : List Str) (g n j : Nat) (es : Ents) (hn : n ≤ xs.length) (hj : j < n) (hb : n ≤ 100000000) :
    FCall Tryd.prog Gl 64 [hq, vI j] (Hp g n xs es) (.tuple []) (Hp g n (Wt.up xs j) es) := by
  refine FCall.enterO hT hmix [] Tryd.func64 rfl rfl rfl fun hbd => ?_
  refine LWp.loop hT hmix [] (fun x : List Str × Nat => [(1, vI x.2)]) (fun x => [(1, .arr g 1 (x.1.map eS))]) (fun x => Wt.up x.1 x.2 = Wt.up xs j ∧ n ≤ x.1.length ∧ x.2 < n) (fun x => x.2) (xs, j) ⟨rfl, hn, hj⟩ ?_
  (conv => whnf)
  refine ⟨?_, fun ⟨ys, k⟩ ⟨h1, h2, h3⟩ => ?_⟩
  · (repeat' (first | exact trivial | exact Wk.refl _ | exact ObWk.refl _ | exact rfl | exact ⟨_, rfl⟩ | exact Nat.zero_lt_one | refine And.intro ?_ ?_ | unfold okTo | (unfold okO; conv => whnf) | (unfold okS; conv => whnf) | (unfold SlotOk; conv => whnf) | (unfold ObjOk; conv => whnf) | (unfold okCells; conv => whnf) | (unfold liveTo; conv => whnf) | exact Nat.zero_lt_succ _))
  · have h3' : k ≤ 100000000 := by simp at h3; omega
    (conv => whnf)
    refine ⟨(k : Int) - 1, sub64 rfl (by omega), ?_⟩
    (conv => whnf)
    refine ⟨(Wt.par k : Int), quo_par k h3', ?_⟩
    (conv => whnf)
    refine split_intro (fun h => ?_) (fun h => ?_)
    · have hk0 : k = 0 := by
        have : Wt.par k = k := Int.ofNat_inj.1 (eq_of_beq h)
        unfold Wt.par at this; omega
      have e : ys = Wt.up xs j := by
        rw [← h1]; subst hk0; rw [Wt.up]; rfl
      subst e
      (conv => whnf)
      refine ⟨[0, 1, 2], rfl, by (try unfold pullOk); (repeat' (first | exact trivial | exact ObWk.refl _ | refine And.intro ?_ ?_ | unfold pullOk)), ?_⟩
      exact Wk.refl _
    · have hk0 : 0 < k := by
        rcases Nat.eq_zero_or_pos k with h' | h'
        · subst h'; simp [Wt.par] at h
        · exact h'
      have hpk := Wt.par_lt hk0
      have hless := less' ys g n k (Wt.par k) h2 h3 (Nat.lt_trans hpk h3)
      have hswap := swap' ys g n (Wt.par k) k h2 (Nat.lt_trans hpk h3) h3
      (conv => whnf)
      refine ⟨102, false, by kernel_rfl, ?_⟩
      (conv => whnf)
      refine CallLeaf.o [1] (by (repeat' (first | exact ArgsTo.nil | refine ArgsTo.cons ?_ ?_ | exact ArgTo.mk' rfl (Wk.refl _) | exact ArgTo.mk' rfl Wk.nilm | exact ArgTo.mk' rfl (Wk.int (by simp)) | exact ArgTo.mk' rfl (Wk.list _ _) | exact ArgTo.mk' rfl (Wk.agg (by (repeat' (first | exact Wks.nil | refine Wks.cons ?_ ?_ | exact Wk.refl _ | exact Wk.nilm | exact Wk.list _ _  | exact Wk.natN rfl | refine Wk.agg ?_))))))) (hless) rfl rfl (by (repeat' (first | exact trivial | exact rfl | refine And.intro ?_ ?_))) (by (repeat' (first | exact trivial | exact rfl | refine And.intro ?_ ?_))) (by (repeat' (first | exact trivial | exact rfl | refine And.intro ?_ ?_))) rfl rfl ?_
      (conv => whnf)
      refine split_intro (fun hl => ?_) (fun hl => ?_)
      · have e : ys = Wt.up xs j := by
          rw [← h1, Wt.up, dif_pos hk0, if_neg (by simpa using hl)]
        subst e
        (conv => whnf)
        refine ⟨[0, 1, 2], rfl, by (try unfold pullOk); (repeat' (first | exact trivial | exact ObWk.refl _ | refine And.intro ?_ ?_ | unfold pullOk)), ?_⟩
        exact Wk.refl _
      · (conv => whnf)
        refine ⟨103, false, by kernel_rfl, ?_⟩
        (conv => whnf)
        refine CallLeaf.o [1] (by (repeat' (first | exact ArgsTo.nil | refine ArgsTo.cons ?_ ?_ | exact ArgTo.mk' rfl (Wk.refl _) | exact ArgTo.mk' rfl Wk.nilm | exact ArgTo.mk' rfl (Wk.int (by simp)) | exact ArgTo.mk' rfl (Wk.list _ _) | exact ArgTo.mk' rfl (Wk.agg (by (repeat' (first | exact Wks.nil | refine Wks.cons ?_ ?_ | exact Wk.refl _ | exact Wk.nilm | exact Wk.list _ _  | exact Wk.natN rfl | refine Wk.agg ?_))))))) (hswap) rfl rfl (by (repeat' (first | exact trivial | exact rfl | refine And.intro ?_ ?_))) (by (repeat' (first | exact trivial | exact rfl | refine And.intro ?_ ?_))) (by (repeat' (first | exact trivial | exact rfl | refine And.intro ?_ ?_))) rfl rfl ?_
        (conv => whnf)
        refine ⟨(Wt.swp ys (Wt.par k) k, Wt.par k), ⟨⟨?_, ?_, ?_⟩, ?_⟩, ?_⟩
        · rw [← h1]
          conv => rhs; rw [Wt.up, dif_pos hk0, if_pos (by simpa using hl)]
        · show n ≤ (Wt.swp ys (Wt.par k) k).length
          rw [Wt.swp_len]; exact h2
        · exact Nat.lt_trans hpk h3
        · exact hpk
        · (repeat' (first | exact trivial | exact Wk.refl _ | exact ObWk.refl _ | exact rfl | exact ⟨_, rfl⟩ | exact Nat.zero_lt_one | refine And.intro ?_ ?_ | unfold okTo | (unfold okO; conv => whnf) | (unfold okS; conv => whnf) | (unfold SlotOk; conv => whnf) | (unfold ObjOk; conv => whnf) | (unfold okCells; conv => whnf) | (unfold liveTo; conv => whnf) | exact Nat.zero_lt_succ _))
theorem mul64 {a b c : Int} (h : a * b = c) (hb : -9223372036854775808 ≤ c ∧ c ≤ 9223372036854775807) : intBin .mul .i64 a b = some c := by
  subst h; simp only [intBin]; rw [IntWalk.i64_in _ hb]
theorem down_ (xs : List Str) (g n m i : Nat) (es : Ents) (hn : n ≤ xs.length) (hm : m ≤ n) (hi : i ≤ m) (hb : n ≤ 100000000) :
    FCall Tryd.prog Gl 65 [hq, vI i, vI m] (Hp g n xs es) .junk (Hp g n (Wt.down m xs i) es) := by
  refine FCall.enterO hT hmix [] Tryd.func65 rfl rfl rfl fun hbd => ?_
  (conv => whnf)
  refine LWp.loop hT hmix [] (fun x : List Str × Nat => [(7, vI x.2)]) (fun x => [(1, .arr g 1 (x.1.map eS))]) (fun x => Wt.down m x.1 x.2 = Wt.down m xs i ∧ n ≤ x.1.length ∧ x.2 ≤ m) (fun x => m - x.2) (xs, i) ⟨rfl, hn, hi⟩ ?_
  (conv => whnf)
  refine ⟨?_, fun ⟨ys, k⟩ ⟨h1, h2, h3⟩ => ?_⟩
  · (repeat' (first | exact trivial | exact Wk.refl _ | exact ObWk.refl _ | exact rfl | exact ⟨_, rfl⟩ | exact Nat.zero_lt_one | refine And.intro ?_ ?_ | unfold okTo | (unfold okO; conv => whnf) | (unfold okS; conv => whnf) | (unfold SlotOk; conv => whnf) | (unfold ObjOk; conv => whnf) | (unfold okCells; conv => whnf) | (unfold liveTo; conv => whnf) | exact Nat.zero_lt_succ _))
  · replace h1 : Wt.down m ys k = Wt.down m xs i := h1
    replace h2 : n ≤ ys.length := h2
    replace h3 : k ≤ m := h3
    (conv => whnf)
    refine ⟨((2 * k : Nat) : Int), mul64 (by show 2 * (k : Int) = _; omega) (by omega), ?_⟩
    (conv => whnf)
    refine ⟨((2 * k + 1 : Nat) : Int), add64 (by omega) (by omega), ?_⟩
    (conv => whnf)
    refine split_intro (fun h => ?_) (fun h => ?_)
    · have e : ys = Wt.down m xs i := by
        have : ¬ 2 * k + 1 < m := by have := of_decide_eq_true h; omega
        rw [← h1, Wt.down, dif_neg this]
      subst e
      (conv => whnf)
      refine ⟨[0, 1, 2], rfl, by (try unfold pullOk); (repeat' (first | exact trivial | exact ObWk.refl _ | refine And.intro ?_ ?_ | unfold pullOk)), ?_⟩
      exact Wk.junk _
    · have hlt : 2 * k + 1 < m := by have := of_decide_eq_false h; omega
      (conv => whnf)
      refine ⟨((2 * k + 2 : Nat) : Int), add64 (by omega) (by omega), ?_⟩
      have hkl := Wt.kid_lt (xs := ys) hlt
      have hkg := Wt.kid_gt m ys k
      have l1 := fun h : 2 * k + 2 < m => less' ys g n (2 * k + 2) (2 * k + 1) h2 (by omega) (by omega)
      have l2 := less' ys g n (Wt.kid m ys k) k h2 (by omega) (by omega)
      have hsw := swap' ys g n k (Wt.kid m ys k) h2 (by omega) (by omega)
      have fin : ∀ h : Wt.lt (Wt.at' ys (Wt.kid m ys k)) (Wt.at' ys k) = false, ys = Wt.down m xs i := by
        intro h
        rw [← h1, Wt.down, dif_pos hlt, if_neg (by rw [h]; decide)]
      have stp : ∀ h : Wt.lt (Wt.at' ys (Wt.kid m ys k)) (Wt.at' ys k) = true, Wt.down m (Wt.swp ys k (Wt.kid m ys k)) (Wt.kid m ys k) = Wt.down m xs i := by
        intro h
        rw [← h1]
        conv => rhs; rw [Wt.down, dif_pos hlt, if_pos h]
      have kd : ∀ j, Wt.kid m ys k = j → (Wt.kid m ys k = j) := fun _ h => h
      generalize hkk : Wt.kid m ys k = c at hkl hkg l2 hsw fin stp kd
      (conv => whnf)
      refine split_intro (fun ha => ?_) (fun ha => ?_)
      · have ha' : 2 * k + 2 < m := by have := of_decide_eq_true ha; omega
        have l1' := l1 ha'
        (conv => whnf)
        refine ⟨102, false, by kernel_rfl, ?_⟩
        (conv => whnf)
        refine CallLeaf.o [1] (by (repeat' (first | exact ArgsTo.nil | refine ArgsTo.cons ?_ ?_ | exact ArgTo.mk' rfl (Wk.refl _) | exact ArgTo.mk' rfl Wk.nilm | exact ArgTo.mk' rfl (Wk.int (by simp)) | exact ArgTo.mk' rfl (Wk.list _ _) | exact ArgTo.mk' rfl (Wk.agg (by (repeat' (first | exact Wks.nil | refine Wks.cons ?_ ?_ | exact Wk.refl _ | exact Wk.nilm | exact Wk.list _ _  | exact Wk.natN rfl | refine Wk.agg ?_))))))) (l1') rfl rfl (by (repeat' (first | exact trivial | exact rfl | refine And.intro ?_ ?_))) (by (repeat' (first | exact trivial | exact rfl | refine And.intro ?_ ?_))) (by (repeat' (first | exact trivial | exact rfl | refine And.intro ?_ ?_))) rfl rfl ?_
        (conv => whnf)
        refine split_intro (fun hc => ?_) (fun hc => ?_)
        · have : 2 * k + 2 = c := by rw [← hkk, Wt.kid, if_pos (by rw [hc, Bool.and_true]; exact decide_eq_true ha')]
          (subst this; ((conv => whnf)); (refine ⟨102, false, by kernel_rfl, ?_⟩); ((conv => whnf)); (refine CallLeaf.o [1] (by (repeat' (first | exact ArgsTo.nil | refine ArgsTo.cons ?_ ?_ | exact ArgTo.mk' rfl (Wk.refl _) | exact ArgTo.mk' rfl Wk.nilm | exact ArgTo.mk' rfl (Wk.int (by simp)) | exact ArgTo.mk' rfl (Wk.list _ _) | exact ArgTo.mk' rfl (Wk.agg (by (repeat' (first | exact Wks.nil | refine Wks.cons ?_ ?_ | exact Wk.refl _ | exact Wk.nilm | exact Wk.list _ _  | exact Wk.natN rfl | refine Wk.agg ?_))))))) (l2) rfl rfl (by (repeat' (first | exact trivial | exact rfl | refine And.intro ?_ ?_))) (by (repeat' (first | exact trivial | exact rfl | refine And.intro ?_ ?_))) (by (repeat' (first | exact trivial | exact rfl | refine And.intro ?_ ?_))) rfl rfl ?_); ((conv => whnf)); (refine split_intro (fun hl => ?_) (fun hl => ?_)); (have e := fin (by simpa using hl); subst e; ((conv => whnf)); (refine ⟨[0, 1, 2], rfl, by (try unfold pullOk); (repeat' (first | exact trivial | exact ObWk.refl _ | refine And.intro ?_ ?_ | unfold pullOk)), ?_⟩); exact Wk.junk _); (((conv => whnf)); (refine ⟨103, false, by kernel_rfl, ?_⟩); ((conv => whnf)); (refine CallLeaf.o [1] (by (repeat' (first | exact ArgsTo.nil | refine ArgsTo.cons ?_ ?_ | exact ArgTo.mk' rfl (Wk.refl _) | exact ArgTo.mk' rfl Wk.nilm | exact ArgTo.mk' rfl (Wk.int (by simp)) | exact ArgTo.mk' rfl (Wk.list _ _) | exact ArgTo.mk' rfl (Wk.agg (by (repeat' (first | exact Wks.nil | refine Wks.cons ?_ ?_ | exact Wk.refl _ | exact Wk.nilm | exact Wk.list _ _  | exact Wk.natN rfl | refine Wk.agg ?_))))))) (hsw) rfl rfl (by (repeat' (first | exact trivial | exact rfl | refine And.intro ?_ ?_))) (by (repeat' (first | exact trivial | exact rfl | refine And.intro ?_ ?_))) (by (repeat' (first | exact trivial | exact rfl | refine And.intro ?_ ?_))) rfl rfl ?_); ((conv => whnf)); (refine ⟨(_, _), ⟨⟨stp (by simpa using hl), (by show n ≤ (Wt.swp _ _ _).length; rw [Wt.swp_len]; exact h2), Nat.le_of_lt hkl⟩, (by show m - _ < m - k; omega)⟩, ?_⟩); (repeat' (first | exact trivial | exact Wk.refl _ | exact ObWk.refl _ | exact rfl | exact ⟨_, rfl⟩ | exact Nat.zero_lt_one | refine And.intro ?_ ?_ | unfold okTo | (unfold okO; conv => whnf) | (unfold okS; conv => whnf) | (unfold SlotOk; conv => whnf) | (unfold ObjOk; conv => whnf) | (unfold okCells; conv => whnf) | (unfold liveTo; conv => whnf) | exact Nat.zero_lt_succ _))))
        · have : 2 * k + 1 = c := by rw [← hkk, Wt.kid, if_neg (by rw [hc, Bool.and_false]; decide)]
          (subst this; ((conv => whnf)); (refine ⟨102, false, by kernel_rfl, ?_⟩); ((conv => whnf)); (refine CallLeaf.o [1] (by (repeat' (first | exact ArgsTo.nil | refine ArgsTo.cons ?_ ?_ | exact ArgTo.mk' rfl (Wk.refl _) | exact ArgTo.mk' rfl Wk.nilm | exact ArgTo.mk' rfl (Wk.int (by simp)) | exact ArgTo.mk' rfl (Wk.list _ _) | exact ArgTo.mk' rfl (Wk.agg (by (repeat' (first | exact Wks.nil | refine Wks.cons ?_ ?_ | exact Wk.refl _ | exact Wk.nilm | exact Wk.list _ _  | exact Wk.natN rfl | refine Wk.agg ?_))))))) (l2) rfl rfl (by (repeat' (first | exact trivial | exact rfl | refine And.intro ?_ ?_))) (by (repeat' (first | exact trivial | exact rfl | refine And.intro ?_ ?_))) (by (repeat' (first | exact trivial | exact rfl | refine And.intro ?_ ?_))) rfl rfl ?_); ((conv => whnf)); (refine split_intro (fun hl => ?_) (fun hl => ?_)); (have e := fin (by simpa using hl); subst e; ((conv => whnf)); (refine ⟨[0, 1, 2], rfl, by (try unfold pullOk); (repeat' (first | exact trivial | exact ObWk.refl _ | refine And.intro ?_ ?_ | unfold pullOk)), ?_⟩); exact Wk.junk _); (((conv => whnf)); (refine ⟨103, false, by kernel_rfl, ?_⟩); ((conv => whnf)); (refine CallLeaf.o [1] (by (repeat' (first | exact ArgsTo.nil | refine ArgsTo.cons ?_ ?_ | exact ArgTo.mk' rfl (Wk.refl _) | exact ArgTo.mk' rfl Wk.nilm | exact ArgTo.mk' rfl (Wk.int (by simp)) | exact ArgTo.mk' rfl (Wk.list _ _) | exact ArgTo.mk' rfl (Wk.agg (by (repeat' (first | exact Wks.nil | refine Wks.cons ?_ ?_ | exact Wk.refl _ | exact Wk.nilm | exact Wk.list _ _  | exact Wk.natN rfl | refine Wk.agg ?_))))))) (hsw) rfl rfl (by (repeat' (first | exact trivial | exact rfl | refine And.intro ?_ ?_))) (by (repeat' (first | exact trivial | exact rfl | refine And.intro ?_ ?_))) (by (repeat' (first | exact trivial | exact rfl | refine And.intro ?_ ?_))) rfl rfl ?_); ((conv => whnf)); (refine ⟨(_, _), ⟨⟨stp (by simpa using hl), (by show n ≤ (Wt.swp _ _ _).length; rw [Wt.swp_len]; exact h2), Nat.le_of_lt hkl⟩, (by show m - _ < m - k; omega)⟩, ?_⟩); (repeat' (first | exact trivial | exact Wk.refl _ | exact ObWk.refl _ | exact rfl | exact ⟨_, rfl⟩ | exact Nat.zero_lt_one | refine And.intro ?_ ?_ | unfold okTo | (unfold okO; conv => whnf) | (unfold okS; conv => whnf) | (unfold SlotOk; conv => whnf) | (unfold ObjOk; conv => whnf) | (unfold okCells; conv => whnf) | (unfold liveTo; conv => whnf) | exact Nat.zero_lt_succ _))))
      · have : 2 * k + 1 = c := by
          have ha' : ¬ 2 * k + 2 < m := by have := of_decide_eq_false ha; omega
          rw [← hkk, Wt.kid, if_neg (by rw [decide_eq_false ha', Bool.false_and]; decide)]
        (conv => whnf)
        (subst this; ((conv => whnf)); (refine ⟨102, false, by kernel_rfl, ?_⟩); ((conv => whnf)); (refine CallLeaf.o [1] (by (repeat' (first | exact ArgsTo.nil | refine ArgsTo.cons ?_ ?_ | exact ArgTo.mk' rfl (Wk.refl _) | exact ArgTo.mk' rfl Wk.nilm | exact ArgTo.mk' rfl (Wk.int (by simp)) | exact ArgTo.mk' rfl (Wk.list _ _) | exact ArgTo.mk' rfl (Wk.agg (by (repeat' (first | exact Wks.nil | refine Wks.cons ?_ ?_ | exact Wk.refl _ | exact Wk.nilm | exact Wk.list _ _  | exact Wk.natN rfl | refine Wk.agg ?_))))))) (l2) rfl rfl (by (repeat' (first | exact trivial | exact rfl | refine And.intro ?_ ?_))) (by (repeat' (first | exact trivial | exact rfl | refine And.intro ?_ ?_))) (by (repeat' (first | exact trivial | exact rfl | refine And.intro ?_ ?_))) rfl rfl ?_); ((conv => whnf)); (refine split_intro (fun hl => ?_) (fun hl => ?_)); (have e := fin (by simpa using hl); subst e; ((conv => whnf)); (refine ⟨[0, 1, 2], rfl, by (try unfold pullOk); (repeat' (first | exact trivial | exact ObWk.refl _ | refine And.intro ?_ ?_ | unfold pullOk)), ?_⟩); exact Wk.junk _); (((conv => whnf)); (refine ⟨103, false, by kernel_rfl, ?_⟩); ((conv => whnf)); (refine CallLeaf.o [1] (by (repeat' (first | exact ArgsTo.nil | refine ArgsTo.cons ?_ ?_ | exact ArgTo.mk' rfl (Wk.refl _) | exact ArgTo.mk' rfl Wk.nilm | exact ArgTo.mk' rfl (Wk.int (by simp)) | exact ArgTo.mk' rfl (Wk.list _ _) | exact ArgTo.mk' rfl (Wk.agg (by (repeat' (first | exact Wks.nil | refine Wks.cons ?_ ?_ | exact Wk.refl _ | exact Wk.nilm | exact Wk.list _ _  | exact Wk.natN rfl | refine Wk.agg ?_))))))) (hsw) rfl rfl (by (repeat' (first | exact trivial | exact rfl | refine And.intro ?_ ?_))) (by (repeat' (first | exact trivial | exact rfl | refine And.intro ?_ ?_))) (by (repeat' (first | exact trivial | exact rfl | refine And.intro ?_ ?_))) rfl rfl ?_); ((conv => whnf)); (refine ⟨(_, _), ⟨⟨stp (by simpa using hl), (by show n ≤ (Wt.swp _ _ _).length; rw [Wt.swp_len]; exact h2), Nat.le_of_lt hkl⟩, (by show m - _ < m - k; omega)⟩, ?_⟩); (repeat' (first | exact trivial | exact Wk.refl _ | exact ObWk.refl _ | exact rfl | exact ⟨_, rfl⟩ | exact Nat.zero_lt_one | refine And.intro ?_ ?_ | unfold okTo | (unfold okO; conv => whnf) | (unfold okS; conv => whnf) | (unfold SlotOk; conv => whnf) | (unfold ObjOk; conv => whnf) | (unfold okCells; conv => whnf) | (unfold liveTo; conv => whnf) | exact Nat.zero_lt_succ _))))
end Go.Proofs.YtdlcaoobaejlpaaDoor.V

/- heap.Push and heap.Pop over the heap of names. No condition. -/
set_option linter.unusedVariables false
set_option linter.unusedSimpArgs false
namespace Go.Proofs.YtdlcaoobaejlpaaDoor.V
open Go Go.AL
set_option maxRecDepth 100000
theorem pushH_ (xs : List Str) (g n : Nat) (s : Str) (es : Ents) (hn : n ≤ xs.length) (hb : n ≤ 10000000) :
    FCall Tryd.prog Gl 56 [hq, .iface 9 (sD s)] (Hp g n xs es) (.tuple []) (Hp (g + 1) (n + 1) (Wt.up (xs.take n ++ [s]) n) es) := by
  have hp := push_ xs g n s es hn (by omega)
  have hl := len_ (xs.take n ++ [s]) (g + 1) (n + 1)
  have hu := up_ (xs.take n ++ [s]) (g + 1) (n + 1) n es (by simp; omega) (by omega) (by omega)
  refine FCall.enterO hT hmix [] Tryd.func56 rfl rfl rfl fun hbd => ?_
  (conv => whnf)
  refine ⟨105, true, by kernel_rfl, ?_⟩
  (conv => whnf)
  refine CallLeaf.o [0, 1, 2] (by (repeat' (first | exact ArgsTo.nil | refine ArgsTo.cons ?_ ?_ | exact ArgTo.mk' rfl (Wk.refl _) | exact ArgTo.mk' rfl Wk.nilm | exact ArgTo.mk' rfl (Wk.int (by simp)) | exact ArgTo.mk' rfl (Wk.list _ _) | exact ArgTo.mk' rfl (Wk.agg (by (repeat' (first | exact Wks.nil | refine Wks.cons ?_ ?_ | exact Wk.refl _ | exact Wk.nilm | exact Wk.list _ _  | exact Wk.natN rfl | refine Wk.agg ?_))))))) (hp) rfl rfl (by (repeat' (first | exact trivial | exact rfl | refine And.intro ?_ ?_))) (by (repeat' (first | exact trivial | exact rfl | refine And.intro ?_ ?_))) (by (repeat' (first | exact trivial | exact rfl | refine And.intro ?_ ?_))) rfl rfl ?_
  (conv => whnf)
  refine ⟨101, false, by kernel_rfl, ?_⟩
  (conv => whnf)
  refine CallLeaf.o [1] (by (repeat' (first | exact ArgsTo.nil | refine ArgsTo.cons ?_ ?_ | exact ArgTo.mk' rfl (Wk.refl _) | exact ArgTo.mk' rfl Wk.nilm | exact ArgTo.mk' rfl (Wk.int (by simp)) | exact ArgTo.mk' rfl (Wk.list _ _) | exact ArgTo.mk' rfl (Wk.agg (by (repeat' (first | exact Wks.nil | refine Wks.cons ?_ ?_ | exact Wk.refl _ | exact Wk.nilm | exact Wk.list _ _  | exact Wk.natN rfl | refine Wk.agg ?_))))))) (hl) rfl rfl (by (repeat' (first | exact trivial | exact rfl | refine And.intro ?_ ?_))) (by (repeat' (first | exact trivial | exact rfl | refine And.intro ?_ ?_))) (by (repeat' (first | exact trivial | exact rfl | refine And.intro ?_ ?_))) rfl rfl ?_
  (conv => whnf)
  refine ⟨(n : Int), sub64 (by omega) (by omega), ?_⟩
  (conv => whnf)
  refine CallLeaf.o [0, 1, 2] (by (repeat' (first | exact ArgsTo.nil | refine ArgsTo.cons ?_ ?_ | exact ArgTo.mk' rfl (Wk.refl _) | exact ArgTo.mk' rfl Wk.nilm | exact ArgTo.mk' rfl (Wk.int (by simp)) | exact ArgTo.mk' rfl (Wk.list _ _) | exact ArgTo.mk' rfl (Wk.agg (by (repeat' (first | exact Wks.nil | refine Wks.cons ?_ ?_ | exact Wk.refl _ | exact Wk.nilm | exact Wk.list _ _  | exact Wk.natN rfl | refine Wk.agg ?_))))))) (hu) rfl rfl (by (repeat' (first | exact trivial | exact rfl | refine And.intro ?_ ?_))) (by (repeat' (first | exact trivial | exact rfl | refine And.intro ?_ ?_))) (by (repeat' (first | exact trivial | exact rfl | refine And.intro ?_ ?_))) rfl rfl ?_
  (conv => whnf)
  refine ⟨[0, 1, 2], rfl, by (try unfold pullOk); (repeat' (first | exact trivial | exact ObWk.refl _ | refine And.intro ?_ ?_ | unfold pullOk)), ?_⟩
  exact Wk.refl _
theorem popH_ (xs : List Str) (g n : Nat) (es : Ents) (hn : n + 1 ≤ xs.length) (hb : n ≤ 10000000) :
    FCall Tryd.prog Gl 58 [hq] (Hp g (n + 1) xs es) (.iface 9 (sD (Wt.at' (Wt.popH n xs) n))) (Hp g n (Wt.popH n xs) es) := by
  have h1 : n + 1 ≤ (Wt.swp xs 0 n).length := by rw [Wt.swp_len]; exact hn
  have h2 : n + 1 ≤ (Wt.popH n xs).length := by rw [Wt.popH, Wt.down_len _ _ _ rfl]; exact h1
  have hl := len_ xs g (n + 1)
  have hs := swap' xs g (n + 1) 0 n hn (by omega) (by omega)
  have hd := down_ (Wt.swp xs 0 n) g (n + 1) n 0 es h1 (by omega) (by omega) (by omega)
  have hp := pop_ (Wt.popH n xs) g n _ es h2 (by omega) (at_some (by omega))
  refine FCall.enterO hT hmix [] Tryd.func58 rfl rfl rfl fun hbd => ?_
  (conv => whnf)
  refine ⟨101, false, by kernel_rfl, ?_⟩
  (conv => whnf)
  refine CallLeaf.o [1] (by (repeat' (first | exact ArgsTo.nil | refine ArgsTo.cons ?_ ?_ | exact ArgTo.mk' rfl (Wk.refl _) | exact ArgTo.mk' rfl Wk.nilm | exact ArgTo.mk' rfl (Wk.int (by simp)) | exact ArgTo.mk' rfl (Wk.list _ _) | exact ArgTo.mk' rfl (Wk.agg (by (repeat' (first | exact Wks.nil | refine Wks.cons ?_ ?_ | exact Wk.refl _ | exact Wk.nilm | exact Wk.list _ _  | exact Wk.natN rfl | refine Wk.agg ?_))))))) (hl) rfl rfl (by (repeat' (first | exact trivial | exact rfl | refine And.intro ?_ ?_))) (by (repeat' (first | exact trivial | exact rfl | refine And.intro ?_ ?_))) (by (repeat' (first | exact trivial | exact rfl | refine And.intro ?_ ?_))) rfl rfl ?_
  (conv => whnf)
  refine ⟨(n : Int), sub64 (by omega) (by omega), ?_⟩
  (conv => whnf)
  refine ⟨103, false, by kernel_rfl, ?_⟩
  (conv => whnf)
  refine CallLeaf.o [1] (by (repeat' (first | exact ArgsTo.nil | refine ArgsTo.cons ?_ ?_ | exact ArgTo.mk' rfl (Wk.refl _) | exact ArgTo.mk' rfl Wk.nilm | exact ArgTo.mk' rfl (Wk.int (by simp)) | exact ArgTo.mk' rfl (Wk.list _ _) | exact ArgTo.mk' rfl (Wk.agg (by (repeat' (first | exact Wks.nil | refine Wks.cons ?_ ?_ | exact Wk.refl _ | exact Wk.nilm | exact Wk.list _ _  | exact Wk.natN rfl | refine Wk.agg ?_))))))) (hs) rfl rfl (by (repeat' (first | exact trivial | exact rfl | refine And.intro ?_ ?_))) (by (repeat' (first | exact trivial | exact rfl | refine And.intro ?_ ?_))) (by (repeat' (first | exact trivial | exact rfl | refine And.intro ?_ ?_))) rfl rfl ?_
  (conv => whnf)
  refine CallLeaf.o [0, 1, 2] (by (repeat' (first | exact ArgsTo.nil | refine ArgsTo.cons ?_ ?_ | exact ArgTo.mk' rfl (Wk.refl _) | exact ArgTo.mk' rfl Wk.nilm | exact ArgTo.mk' rfl (Wk.int (by simp)) | exact ArgTo.mk' rfl (Wk.list _ _) | exact ArgTo.mk' rfl (Wk.agg (by (repeat' (first | exact Wks.nil | refine Wks.cons ?_ ?_ | exact Wk.refl _ | exact Wk.nilm | exact Wk.list _ _  | exact Wk.natN rfl | refine Wk.agg ?_))))))) (hd) rfl rfl (by (repeat' (first | exact trivial | exact rfl | refine And.intro ?_ ?_))) (by (repeat' (first | exact trivial | exact rfl | refine And.intro ?_ ?_))) (by (repeat' (first | exact trivial | exact rfl | refine And.intro ?_ ?_))) rfl rfl ?_
  (conv => whnf)
  refine ⟨104, true, by kernel_rfl, ?_⟩
  (conv => whnf)
  refine CallLeaf.o [0, 1, 2] (by (repeat' (first | exact ArgsTo.nil | refine ArgsTo.cons ?_ ?_ | exact ArgTo.mk' rfl (Wk.refl _) | exact ArgTo.mk' rfl Wk.nilm | exact ArgTo.mk' rfl (Wk.int (by simp)) | exact ArgTo.mk' rfl (Wk.list _ _) | exact ArgTo.mk' rfl (Wk.agg (by (repeat' (first | exact Wks.nil | refine Wks.cons ?_ ?_ | exact Wk.refl _ | exact Wk.nilm | exact Wk.list _ _  | exact Wk.natN rfl | refine Wk.agg ?_))))))) (hp) rfl rfl (by (repeat' (first | exact trivial | exact rfl | refine And.intro ?_ ?_))) (by (repeat' (first | exact trivial | exact rfl | refine And.intro ?_ ?_))) (by (repeat' (first | exact trivial | exact rfl | refine And.intro ?_ ?_))) rfl rfl ?_
  (conv => whnf)
  refine ⟨[0, 1, 2], rfl, by (try unfold pullOk); (repeat' (first | exact trivial | exact ObWk.refl _ | refine And.intro ?_ ?_ | unfold pullOk)), ?_⟩
  exact Wk.refl _
end Go.Proofs.YtdlcaoobaejlpaaDoor.V

/- The program's worklist. No condition. -/
set_option linter.unusedVariables false
set_option linter.unusedSimpArgs false
namespace Go.Proofs.YtdlcaoobaejlpaaDoor.V
open Go Go.AL
set_option maxRecDepth 100000
abbrev Hq (h : Wt.Hs) : List AObj := Hp h.g h.n h.xs h.es
abbrev mN : D := .v (.map none)
abbrev pN : D := .v (.pointer none)
abbrev Hz : List AObj := [.cells [.nil, mN]]
theorem queue_ (h : Wt.Hs) : FCall Tryd.prog Gl 57 [.ptr 0 0] (Hq h) hq (Hq h) := by
  refine FCall.enterO hT hmix [] Tryd.func57 rfl rfl rfl fun hbd => ?_
  (conv => whnf)
  refine ⟨[0, 1, 2], rfl, by (try unfold pullOk); (repeat' (first | exact trivial | exact ObWk.refl _ | refine And.intro ?_ ?_ | unfold pullOk)), ?_⟩
  exact Wk.refl _
theorem wlen_ (h : Wt.Hs) : FCall Tryd.prog Gl 45 [.ptr 0 0] (Hq h) (vI h.n) (Hq h) := by
  refine FCall.enterO hT hmix [] Tryd.func45 rfl rfl rfl fun hbd => ?_
  (conv => whnf)
  refine ⟨[0, 1, 2], rfl, by (try unfold pullOk); (repeat' (first | exact trivial | exact ObWk.refl _ | refine And.intro ?_ ?_ | unfold pullOk)), ?_⟩
  exact Wk.refl _
theorem wlenZ_ : FCall Tryd.prog Gl 45 [.ptr 0 0] Hz (vI 0) Hz := by
  refine FCall.enterO hT hmix [] Tryd.func45 rfl rfl rfl fun hbd => ?_
  (conv => whnf)
  refine ⟨[0], rfl, by (try unfold pullOk); (repeat' (first | exact trivial | exact ObWk.refl _ | refine And.intro ?_ ?_ | unfold pullOk)), ?_⟩
  exact Wk.refl _
theorem wlenN_ : FCall Tryd.prog Gl 45 [pN] [] (vI 0) [] := by
  refine FCall.enterO hT hmix [] Tryd.func45 rfl rfl rfl fun hbd => ?_
  (conv => whnf)
  refine ⟨[], rfl, by (try unfold pullOk); (repeat' (first | exact trivial | exact ObWk.refl _ | refine And.intro ?_ ?_ | unfold pullOk)), ?_⟩
  exact Wk.refl _
theorem seen_ (h : Wt.Hs) (r : Wt.Rs) (R : Wt.Rl h r) (s : Str) : FCall Tryd.prog Gl 46 [.ptr 0 0, sD s] (Hq h) (vB (decide (s ∈ r.2))) (Hq h) := by
  refine FCall.enterO hT hmix [] Tryd.func46 rfl rfl rfl fun hbd => ?_
  (conv => whnf)
  refine ⟨_, ⟨R.sn.keys, R.sn.look' s⟩, ?_⟩
  (conv => whnf)
  refine ⟨[0, 1, 2], rfl, by (try unfold pullOk); (repeat' (first | exact trivial | exact ObWk.refl _ | refine And.intro ?_ ?_ | unfold pullOk)), ?_⟩
  exact Wk.refl _
theorem seenZ_ (s : Str) : FCall Tryd.prog Gl 46 [.ptr 0 0, sD s] Hz (vB false) Hz := by
  refine FCall.enterO hT hmix [] Tryd.func46 rfl rfl rfl fun hbd => ?_
  (conv => whnf)
  refine ⟨[0], rfl, by (try unfold pullOk); (repeat' (first | exact trivial | exact ObWk.refl _ | refine And.intro ?_ ?_ | unfold pullOk)), ?_⟩
  exact Wk.refl _
theorem seenN_ (s : Str) : FCall Tryd.prog Gl 46 [pN, sD s] [] (vB false) [] := by
  refine FCall.enterO hT hmix [] Tryd.func46 rfl rfl rfl fun hbd => ?_
  (conv => whnf)
  refine ⟨[], rfl, by (try unfold pullOk); (repeat' (first | exact trivial | exact ObWk.refl _ | refine And.intro ?_ ?_ | unfold pullOk)), ?_⟩
  exact Wk.refl _
theorem takeZ_ : FCall Tryd.prog Gl 44 [.ptr 0 0] Hz (.tuple [sD [], vB false]) Hz := by
  refine FCall.enterO hT hmix [] Tryd.func44 rfl rfl rfl fun hbd => ?_
  (conv => whnf)
  refine CallLeaf.o [0] (by (repeat' (first | exact ArgsTo.nil | refine ArgsTo.cons ?_ ?_ | exact ArgTo.mk' rfl (Wk.refl _) | exact ArgTo.mk' rfl Wk.nilm | exact ArgTo.mk' rfl (Wk.int (by simp)) | exact ArgTo.mk' rfl (Wk.list _ _) | exact ArgTo.mk' rfl (Wk.agg (by (repeat' (first | exact Wks.nil | refine Wks.cons ?_ ?_ | exact Wk.refl _ | exact Wk.nilm | exact Wk.list _ _  | exact Wk.natN rfl | refine Wk.agg ?_))))))) (wlenZ_) rfl rfl (by (repeat' (first | exact trivial | exact rfl | refine And.intro ?_ ?_))) (by (repeat' (first | exact trivial | exact rfl | refine And.intro ?_ ?_))) (by (repeat' (first | exact trivial | exact rfl | refine And.intro ?_ ?_))) rfl rfl ?_
  (conv => whnf)
  refine ⟨[0], rfl, by (try unfold pullOk); (repeat' (first | exact trivial | exact ObWk.refl _ | refine And.intro ?_ ?_ | unfold pullOk)), ?_⟩
  exact Wk.refl _
theorem take0_ (h : Wt.Hs) (h0 : h.n = 0) : FCall Tryd.prog Gl 44 [.ptr 0 0] (Hq h) (.tuple [sD [], vB false]) (Hq h) := by
  refine FCall.enterO hT hmix [] Tryd.func44 rfl rfl rfl fun hbd => ?_
  have hl := wlen_ h
  (conv => whnf)
  refine CallLeaf.o [0, 1, 2] (by (repeat' (first | exact ArgsTo.nil | refine ArgsTo.cons ?_ ?_ | exact ArgTo.mk' rfl (Wk.refl _) | exact ArgTo.mk' rfl Wk.nilm | exact ArgTo.mk' rfl (Wk.int (by simp)) | exact ArgTo.mk' rfl (Wk.list _ _) | exact ArgTo.mk' rfl (Wk.agg (by (repeat' (first | exact Wks.nil | refine Wks.cons ?_ ?_ | exact Wk.refl _ | exact Wk.nilm | exact Wk.list _ _  | exact Wk.natN rfl | refine Wk.agg ?_))))))) (hl) rfl rfl (by (repeat' (first | exact trivial | exact rfl | refine And.intro ?_ ?_))) (by (repeat' (first | exact trivial | exact rfl | refine And.intro ?_ ?_))) (by (repeat' (first | exact trivial | exact rfl | refine And.intro ?_ ?_))) rfl rfl ?_
  (conv => whnf)
  refine split_intro (fun _ => ?_) (fun h => absurd h (by (rw [h0]; decide)))
  (conv => whnf)
  refine ⟨[0, 1, 2], rfl, by (try unfold pullOk); (repeat' (first | exact trivial | exact ObWk.refl _ | refine And.intro ?_ ?_ | unfold pullOk)), ?_⟩
  exact Wk.refl _
theorem take_ (h : Wt.Hs) (w : Str) (ws seen : List Str) (R : Wt.Rl h (w :: ws, seen)) (hb : h.n ≤ 10000000) :
    FCall Tryd.prog Gl 44 [.ptr 0 0] (Hq h) (.tuple [sD w, vB true]) (Hq h.pop) := by
  refine FCall.enterO hT hmix [] Tryd.func44 rfl rfl rfl fun hbd => ?_
  have hl := wlen_ h
  have hq := queue_ h
  obtain ⟨n, hn⟩ : ∃ n, h.n = n + 1 := ⟨h.n - 1, by have := R.wl.size; simp at this; omega⟩
  have hp := popH_ h.xs h.g n h.es (by have := R.wl.len; omega) (by omega)
  have ht := (R.pop).1
  have hpop : h.pop = ⟨h.g, n, Wt.popH n h.xs, h.es⟩ := by simp [Wt.Hs.pop, hn]
  have htop : Wt.at' (Wt.popH n h.xs) n = w := by rw [← ht]; simp [Wt.Hs.top, hn]
  rw [htop, ← hn] at hp
  rw [hpop]
  (conv => whnf)
  refine CallLeaf.o [0, 1, 2] (by (repeat' (first | exact ArgsTo.nil | refine ArgsTo.cons ?_ ?_ | exact ArgTo.mk' rfl (Wk.refl _) | exact ArgTo.mk' rfl Wk.nilm | exact ArgTo.mk' rfl (Wk.int (by simp)) | exact ArgTo.mk' rfl (Wk.list _ _) | exact ArgTo.mk' rfl (Wk.agg (by (repeat' (first | exact Wks.nil | refine Wks.cons ?_ ?_ | exact Wk.refl _ | exact Wk.nilm | exact Wk.list _ _  | exact Wk.natN rfl | refine Wk.agg ?_))))))) (hl) rfl rfl (by (repeat' (first | exact trivial | exact rfl | refine And.intro ?_ ?_))) (by (repeat' (first | exact trivial | exact rfl | refine And.intro ?_ ?_))) (by (repeat' (first | exact trivial | exact rfl | refine And.intro ?_ ?_))) rfl rfl ?_
  (conv => whnf)
  refine split_intro (fun h => absurd h (by (rw [hn]; simp; omega))) (fun _ => ?_)
  (conv => whnf)
  refine CallLeaf.o [0, 1, 2] (by (repeat' (first | exact ArgsTo.nil | refine ArgsTo.cons ?_ ?_ | exact ArgTo.mk' rfl (Wk.refl _) | exact ArgTo.mk' rfl Wk.nilm | exact ArgTo.mk' rfl (Wk.int (by simp)) | exact ArgTo.mk' rfl (Wk.list _ _) | exact ArgTo.mk' rfl (Wk.agg (by (repeat' (first | exact Wks.nil | refine Wks.cons ?_ ?_ | exact Wk.refl _ | exact Wk.nilm | exact Wk.list _ _  | exact Wk.natN rfl | refine Wk.agg ?_))))))) (hq) rfl rfl (by (repeat' (first | exact trivial | exact rfl | refine And.intro ?_ ?_))) (by (repeat' (first | exact trivial | exact rfl | refine And.intro ?_ ?_))) (by (repeat' (first | exact trivial | exact rfl | refine And.intro ?_ ?_))) rfl rfl ?_
  (conv => whnf)
  refine CallLeaf.o [0, 1, 2] (by (repeat' (first | exact ArgsTo.nil | refine ArgsTo.cons ?_ ?_ | exact ArgTo.mk' rfl (Wk.refl _) | exact ArgTo.mk' rfl Wk.nilm | exact ArgTo.mk' rfl (Wk.int (by simp)) | exact ArgTo.mk' rfl (Wk.list _ _) | exact ArgTo.mk' rfl (Wk.agg (by (repeat' (first | exact Wks.nil | refine Wks.cons ?_ ?_ | exact Wk.refl _ | exact Wk.nilm | exact Wk.list _ _  | exact Wk.natN rfl | refine Wk.agg ?_))))))) (hp) rfl rfl (by (repeat' (first | exact trivial | exact rfl | refine And.intro ?_ ?_))) (by (repeat' (first | exact trivial | exact rfl | refine And.intro ?_ ?_))) (by (repeat' (first | exact trivial | exact rfl | refine And.intro ?_ ?_))) rfl rfl ?_
  (conv => whnf)
  refine ⟨[0, 1, 2], rfl, by (try unfold pullOk); (repeat' (first | exact trivial | exact ObWk.refl _ | refine And.intro ?_ ?_ | unfold pullOk)), ?_⟩
  exact Wk.refl _
theorem sn_set {es : Ents} {seen : List Str} (h : Wt.Sn es seen) (s : Str) : Go.AL.strKeys es := h.keys
/-- how a step of the program's list looks -/
theorem add1_new {h : Wt.Hs} {r : Wt.Rs} (R : Wt.Rl h r) {s : Str} (hs : ¬ s ∈ r.2) : h.add1 s = ⟨h.g + 1, h.n + 1, Wt.up (h.xs.take h.n ++ [s]) h.n, mset h.es (.string (sB s)) (vB true)⟩ := by
  unfold Wt.Hs.add1
  rw [R.has, decide_eq_false hs]
theorem add1_old {h : Wt.Hs} {r : Wt.Rs} (R : Wt.Rl h r) {s : Str} (hs : s ∈ r.2) : h.add1 s = h := by
  unfold Wt.Hs.add1
  rw [R.has, decide_eq_true hs]
theorem add_ (h : Wt.Hs) (r : Wt.Rs) (R : Wt.Rl h r) (l : List Str) (hb : h.n + l.length ≤ 100000) :
    FCall Tryd.prog Gl 43 [.ptr 0 0, LS l] (Hq h) (vI (((h.addL l).n - h.n : Nat) : Int)) (Hq (h.addL l)) := by
  refine FCall.enterO hT hmix [] Tryd.func43 rfl rfl rfl fun hbd => ?_
  (conv => whnf)
  refine LWp.loop hT hmix [] (fun x : Nat × Wt.Hs => [(21, vI x.1), (5, vI ((x.2.n - h.n : Nat) : Int))]) (fun x => [(0, .cells [.sl 1 x.2.g 0 x.2.n, .map 2]), (1, .arr x.2.g 1 (x.2.xs.map eS)), (2, .map x.2.es)]) (fun x => x.1 ≤ l.length ∧ x.2 = h.addL (l.take x.1)) (fun x => l.length - x.1) (0, h) ⟨Nat.zero_le _, by simp [Wt.Hs.addL]⟩ ?_
  (conv => whnf)
  refine ⟨?_, fun ⟨k, q⟩ ⟨hk, hqq⟩ => ?_⟩
  · (repeat' (first | exact trivial | exact Wk.refl _ | exact ObWk.refl _ | exact rfl | exact ⟨_, rfl⟩ | exact Nat.zero_lt_one | refine And.intro ?_ ?_ | unfold okTo | (unfold okO; conv => whnf) | (unfold okS; conv => whnf) | (unfold SlotOk; conv => whnf) | (unfold ObjOk; conv => whnf) | (unfold okCells; conv => whnf) | (unfold liveTo; conv => whnf) | exact Nat.zero_lt_succ _))
    all_goals exact Wk.int (by simp)
  · replace hk : k ≤ l.length := hk
    replace hqq : q = h.addL (l.take k) := hqq
    (conv => whnf)
    refine split_intro (fun hlt' => ?_) (fun hlt' => ?_)
    · have hlt : k < l.length := by simpa using hlt'
      obtain ⟨s, hs⟩ := exI hlt
      have e1 := Wt.Hs.addL_take (h := h) hs
      have Rk := R.addL (l.take k)
      have b1 := Wt.Hs.addL_n (l.take k) h
      have b3 : (l.take k).length ≤ l.length := by simp; omega
      rw [← hqq] at e1 Rk b1
      generalize hrr : r.addL (l.take k) = rq at *
      have hq_ := queue_ q
      (conv => whnf)
      refine ⟨_, ⟨by omega, getMap hs⟩, ?_⟩
      (conv => whnf)
      refine ⟨_, ⟨Rk.sn.keys, Rk.sn.look' s⟩, ?_⟩
      (conv => whnf)
      refine split_intro (fun hin => ?_) (fun hin => ?_)
      · have hno : ¬ s ∈ rq.2 := by simpa using hin
        have e2 := add1_new Rk hno
        have hpu := pushH_ q.xs q.g q.n s (mset q.es (.string (sB s)) (vB true)) Rk.wl.len (by omega)
        have hq2 := queue_ ⟨q.g, q.n, q.xs, mset q.es (.string (sB s)) (vB true)⟩
        (conv => whnf)
        refine ⟨_, ⟨Rk.sn.keys, rfl⟩, ?_⟩
        (conv => whnf)
        refine CallLeaf.o [0, 1, 2] (by (repeat' (first | exact ArgsTo.nil | refine ArgsTo.cons ?_ ?_ | exact ArgTo.mk' rfl (Wk.refl _) | exact ArgTo.mk' rfl Wk.nilm | exact ArgTo.mk' rfl (Wk.int (by simp)) | exact ArgTo.mk' rfl (Wk.list _ _) | exact ArgTo.mk' rfl (Wk.agg (by (repeat' (first | exact Wks.nil | refine Wks.cons ?_ ?_ | exact Wk.refl _ | exact Wk.nilm | exact Wk.list _ _  | exact Wk.natN rfl | refine Wk.agg ?_))))))) (hq2) rfl rfl (by (repeat' (first | exact trivial | exact rfl | refine And.intro ?_ ?_))) (by (repeat' (first | exact trivial | exact rfl | refine And.intro ?_ ?_))) (by (repeat' (first | exact trivial | exact rfl | refine And.intro ?_ ?_))) rfl rfl ?_
        (conv => whnf)
        refine CallLeaf.o [0, 1, 2] (by (repeat' (first | exact ArgsTo.nil | refine ArgsTo.cons ?_ ?_ | exact ArgTo.mk' rfl (Wk.refl _) | exact ArgTo.mk' rfl Wk.nilm | exact ArgTo.mk' rfl (Wk.int (by simp)) | exact ArgTo.mk' rfl (Wk.list _ _) | exact ArgTo.mk' rfl (Wk.agg (by (repeat' (first | exact Wks.nil | refine Wks.cons ?_ ?_ | exact Wk.refl _ | exact Wk.nilm | exact Wk.list _ _  | exact Wk.natN rfl | refine Wk.agg ?_))))))) (hpu) rfl rfl (by (repeat' (first | exact trivial | exact rfl | refine And.intro ?_ ?_))) (by (repeat' (first | exact trivial | exact rfl | refine And.intro ?_ ?_))) (by (repeat' (first | exact trivial | exact rfl | refine And.intro ?_ ?_))) rfl rfl ?_
        (conv => whnf)
        refine ⟨_, add64 (c := ((q.n + 1 - h.n : Nat) : Int)) (by show ((q.n - h.n : Nat) : Int) + 1 = _; omega) (by omega), ?_⟩
        (conv => whnf)
        refine ⟨_, add64 (c := ((k + 1 : Nat) : Int)) (by omega) (by omega), ?_⟩
        (conv => whnf)
        refine ⟨(k + 1, ⟨q.g + 1, q.n + 1, Wt.up (q.xs.take q.n ++ [s]) q.n, mset q.es (.string (sB s)) (vB true)⟩), ⟨⟨by show k + 1 ≤ _; omega, ?_⟩, by show l.length - (k + 1) < l.length - k; omega⟩, ?_⟩
        · show _ = h.addL (l.take (k + 1))
          rw [e1, e2]
        · (repeat' (first | exact trivial | exact Wk.refl _ | exact ObWk.refl _ | exact rfl | exact ⟨_, rfl⟩ | exact Nat.zero_lt_one | refine And.intro ?_ ?_ | unfold okTo | (unfold okO; conv => whnf) | (unfold okS; conv => whnf) | (unfold SlotOk; conv => whnf) | (unfold ObjOk; conv => whnf) | (unfold okCells; conv => whnf) | (unfold liveTo; conv => whnf) | exact Nat.zero_lt_succ _))
      · have hi : s ∈ rq.2 := by simpa using hin
        have e2 := add1_old Rk hi
        (conv => whnf)
        refine ⟨_, add64 (c := ((k + 1 : Nat) : Int)) (by omega) (by omega), ?_⟩
        (conv => whnf)
        refine ⟨(k + 1, q), ⟨⟨by show k + 1 ≤ _; omega, ?_⟩, by show l.length - (k + 1) < l.length - k; omega⟩, ?_⟩
        · show _ = h.addL (l.take (k + 1))
          rw [e1, e2]
        · (repeat' (first | exact trivial | exact Wk.refl _ | exact ObWk.refl _ | exact rfl | exact ⟨_, rfl⟩ | exact Nat.zero_lt_one | refine And.intro ?_ ?_ | unfold okTo | (unfold okO; conv => whnf) | (unfold okS; conv => whnf) | (unfold SlotOk; conv => whnf) | (unfold ObjOk; conv => whnf) | (unfold okCells; conv => whnf) | (unfold liveTo; conv => whnf) | exact Nat.zero_lt_succ _))
    · have hge : l.length ≤ k := by simpa using hlt'
      rw [List.take_of_length_le hge] at hqq
      subst hqq
      (conv => whnf)
      refine ⟨[0, 1, 2], rfl, by (try unfold pullOk); (repeat' (first | exact trivial | exact ObWk.refl _ | refine And.intro ?_ ?_ | unfold pullOk)), ?_⟩
      exact Wk.refl _
abbrev h0 : Wt.Hs := ⟨0, 0, [], []⟩
theorem addZ_ (l : List Str) (hb : l.length ≤ 100000) :
    FCall Tryd.prog Gl 43 [.ptr 0 0, LS l] Hz (vI (((h0.addL l).n : Nat) : Int)) (Hq (h0.addL l)) := by
  refine FCall.enterO hT hmix [] Tryd.func43 rfl rfl rfl fun hbd => ?_
  (conv => whnf)
  refine LWp.loop hT hmix [] (fun x : Nat × Wt.Hs => [(21, vI x.1), (5, vI ((x.2.n - 0 : Nat) : Int))]) (fun x => [(0, .cells [.sl 900001 x.2.g 0 x.2.n, .map 2057]), (900001, .arr x.2.g 1 (x.2.xs.map eS)), (2057, .map x.2.es)]) (fun x => x.1 ≤ l.length ∧ x.2 = h0.addL (l.take x.1)) (fun x => l.length - x.1) (0, h0) ⟨Nat.zero_le _, by simp [Wt.Hs.addL]⟩ ?_
  (conv => whnf)
  refine ⟨?_, fun ⟨k, q⟩ ⟨hk, hqq⟩ => ?_⟩
  · (repeat' (first | exact trivial | exact Wk.refl _ | exact ObWk.refl _ | exact rfl | exact ⟨_, rfl⟩ | exact Nat.zero_lt_one | refine And.intro ?_ ?_ | unfold okTo | (unfold okO; conv => whnf) | (unfold okS; conv => whnf) | (unfold SlotOk; conv => whnf) | (unfold ObjOk; conv => whnf) | (unfold okCells; conv => whnf) | (unfold liveTo; conv => whnf) | exact Nat.zero_lt_succ _))
    
  · replace hk : k ≤ l.length := hk
    replace hqq : q = h0.addL (l.take k) := hqq
    (conv => whnf)
    refine split_intro (fun hlt' => ?_) (fun hlt' => ?_)
    · have hlt : k < l.length := by simpa using hlt'
      obtain ⟨s, hs⟩ := exI hlt
      have e1 := Wt.Hs.addL_take (h := h0) hs
      have Rk := Wt.Rl.zero.addL (l.take k)
      have b1 := Wt.Hs.addL_n (l.take k) h0
      replace b1 := b1.2
      replace b1 : (h0.addL (l.take k)).n ≤ (l.take k).length := by simpa using b1
      have b3 : (l.take k).length ≤ l.length := by simp; omega
      rw [← hqq] at e1 Rk b1
      generalize hrr : Wt.Rs.addL ([], []) (l.take k) = rq at *
      have hq_ := queue_ q
      (conv => whnf)
      refine ⟨_, ⟨by omega, getMap hs⟩, ?_⟩
      (conv => whnf)
      refine ⟨_, ⟨Rk.sn.keys, Rk.sn.look' s⟩, ?_⟩
      (conv => whnf)
      refine split_intro (fun hin => ?_) (fun hin => ?_)
      · have hno : ¬ s ∈ rq.2 := by simpa using hin
        have e2 := add1_new Rk hno
        have hpu := pushH_ q.xs q.g q.n s (mset q.es (.string (sB s)) (vB true)) Rk.wl.len (by omega)
        have hq2 := queue_ ⟨q.g, q.n, q.xs, mset q.es (.string (sB s)) (vB true)⟩
        (conv => whnf)
        refine ⟨_, ⟨Rk.sn.keys, rfl⟩, ?_⟩
        (conv => whnf)
        refine CallLeaf.o [0, 900001, 2057] (by (repeat' (first | exact ArgsTo.nil | refine ArgsTo.cons ?_ ?_ | exact ArgTo.mk' rfl (Wk.refl _) | exact ArgTo.mk' rfl Wk.nilm | exact ArgTo.mk' rfl (Wk.int (by simp)) | exact ArgTo.mk' rfl (Wk.list _ _) | exact ArgTo.mk' rfl (Wk.agg (by (repeat' (first | exact Wks.nil | refine Wks.cons ?_ ?_ | exact Wk.refl _ | exact Wk.nilm | exact Wk.list _ _  | exact Wk.natN rfl | refine Wk.agg ?_))))))) (hq2) rfl rfl (by (repeat' (first | exact trivial | exact rfl | refine And.intro ?_ ?_))) (by (repeat' (first | exact trivial | exact rfl | refine And.intro ?_ ?_))) (by (repeat' (first | exact trivial | exact rfl | refine And.intro ?_ ?_))) rfl rfl ?_
        (conv => whnf)
        refine CallLeaf.o [0, 900001, 2057] (by (repeat' (first | exact ArgsTo.nil | refine ArgsTo.cons ?_ ?_ | exact ArgTo.mk' rfl (Wk.refl _) | exact ArgTo.mk' rfl Wk.nilm | exact ArgTo.mk' rfl (Wk.int (by simp)) | exact ArgTo.mk' rfl (Wk.list _ _) | exact ArgTo.mk' rfl (Wk.agg (by (repeat' (first | exact Wks.nil | refine Wks.cons ?_ ?_ | exact Wk.refl _ | exact Wk.nilm | exact Wk.list _ _  | exact Wk.natN rfl | refine Wk.agg ?_))))))) (hpu) rfl rfl (by (repeat' (first | exact trivial | exact rfl | refine And.intro ?_ ?_))) (by (repeat' (first | exact trivial | exact rfl | refine And.intro ?_ ?_))) (by (repeat' (first | exact trivial | exact rfl | refine And.intro ?_ ?_))) rfl rfl ?_
        (conv => whnf)
        refine ⟨_, add64 (c := ((q.n + 1 - 0 : Nat) : Int)) (by show ((q.n - 0 : Nat) : Int) + 1 = _; omega) (by omega), ?_⟩
        (conv => whnf)
        refine ⟨_, add64 (c := ((k + 1 : Nat) : Int)) (by omega) (by omega), ?_⟩
        (conv => whnf)
        refine ⟨(k + 1, ⟨q.g + 1, q.n + 1, Wt.up (q.xs.take q.n ++ [s]) q.n, mset q.es (.string (sB s)) (vB true)⟩), ⟨⟨by show k + 1 ≤ _; omega, ?_⟩, by show l.length - (k + 1) < l.length - k; omega⟩, ?_⟩
        · show _ = h0.addL (l.take (k + 1))
          rw [e1, e2]
        · (repeat' (first | exact trivial | exact Wk.refl _ | exact ObWk.refl _ | exact rfl | exact ⟨_, rfl⟩ | exact Nat.zero_lt_one | refine And.intro ?_ ?_ | unfold okTo | (unfold okO; conv => whnf) | (unfold okS; conv => whnf) | (unfold SlotOk; conv => whnf) | (unfold ObjOk; conv => whnf) | (unfold okCells; conv => whnf) | (unfold liveTo; conv => whnf) | exact Nat.zero_lt_succ _))
      · have hi : s ∈ rq.2 := by simpa using hin
        have e2 := add1_old Rk hi
        (conv => whnf)
        refine ⟨_, add64 (c := ((k + 1 : Nat) : Int)) (by omega) (by omega), ?_⟩
        (conv => whnf)
        refine ⟨(k + 1, q), ⟨⟨by show k + 1 ≤ _; omega, ?_⟩, by show l.length - (k + 1) < l.length - k; omega⟩, ?_⟩
        · show _ = h0.addL (l.take (k + 1))
          rw [e1, e2]
        · (repeat' (first | exact trivial | exact Wk.refl _ | exact ObWk.refl _ | exact rfl | exact ⟨_, rfl⟩ | exact Nat.zero_lt_one | refine And.intro ?_ ?_ | unfold okTo | (unfold okO; conv => whnf) | (unfold okS; conv => whnf) | (unfold SlotOk; conv => whnf) | (unfold ObjOk; conv => whnf) | (unfold okCells; conv => whnf) | (unfold liveTo; conv => whnf) | exact Nat.zero_lt_succ _))
    · have hge : l.length ≤ k := by simpa using hlt'
      rw [List.take_of_length_le hge] at hqq
      subst hqq
      (conv => whnf)
      refine ⟨[0, 900001, 2057], rfl, by (try unfold pullOk); (repeat' (first | exact trivial | exact ObWk.refl _ | refine And.intro ?_ ?_ | unfold pullOk)), ?_⟩
      exact Wk.refl _
theorem addN_ (l : List Str) : FCall Tryd.prog Gl 43 [pN, LS l] [] (vI 0) [] := by
  refine FCall.enterL hT hmix [] Tryd.func43 rfl rfl rfl fun hbd => ?_
  (conv => whnf)
  exact Wk.refl _
end Go.Proofs.YtdlcaoobaejlpaaDoor.V

/- The laws of the worklist. No condition. -/
set_option linter.unusedVariables false
set_option linter.unusedSimpArgs false
namespace Go.Proofs.YtdlcaoobaejlpaaDoor.V
open Go Go.AL
set_option maxRecDepth 100000
theorem wawake_ : FCall Tryd.prog Gl 26 [] [] (vB true) [] := by
  have R1 : Wt.Rl (h0.addL [[98], [97], [98]]) ([[97], [98]], [[98], [97]]) := by
    have := Wt.Rl.zero.addL [[98], [97], [98]]
    rwa [show Wt.Rs.addL ([], []) [[98], [97], [98]] = ([[97], [98]], [[98], [97]]) by decide] at this
  have A1 := addZ_ [[98], [97], [98]] (by simp)
  generalize h0.addL [[98], [97], [98]] = h1 at *
  have n1 : h1.n = 2 := R1.wl.size
  rw [n1] at A1
  have A2 := take_ h1 [97] [[98]] _ R1 (by omega)
  have R2 := R1.pop.2
  generalize h1.pop = h2 at *
  have n2 : h2.n = 1 := R2.wl.size
  have A3 := add_ h2 _ R2 [[97]] (by simp; omega)
  have e3 : h2.addL [[97]] = h2 := add1_old R2 (by simp)
  rw [e3, Nat.sub_self] at A3
  have A4 := take_ h2 [98] [] _ R2 (by omega)
  have R3 := R2.pop.2
  generalize h2.pop = h3 at *
  have n3 : h3.n = 0 := R3.wl.size
  have A5 := take0_ h3 n3
  have A6 := wlen_ h3
  rw [n3] at A6
  have A7 := seen_ h3 _ R3 [97]
  rw [decide_eq_true (by simp)] at A7
  have A8 := seen_ h3 _ R3 [99]
  rw [decide_eq_false (by simp)] at A8
  have A9 := addN_ [[97]]
  have A10 := seenN_ [97]
  refine FCall.enterL hT hmix [] Tryd.func26 rfl rfl rfl fun hbd => ?_
  (conv => whnf)
  refine CallLeaf.o [512, 1544, 1545] (by (repeat' (first | exact ArgsTo.nil | refine ArgsTo.cons ?_ ?_ | exact ArgTo.mk' rfl (Wk.refl _) | exact ArgTo.mk' rfl Wk.nilm | exact ArgTo.mk' rfl (Wk.int (by simp)) | exact ArgTo.mk' rfl (Wk.list _ _) | exact ArgTo.mk' rfl (Wk.agg (by (repeat' (first | exact Wks.nil | refine Wks.cons ?_ ?_ | exact Wk.refl _ | exact Wk.nilm | exact Wk.list _ _  | exact Wk.natN rfl | refine Wk.agg ?_))))))) (A1) rfl rfl (by (repeat' (first | exact trivial | exact rfl | refine And.intro ?_ ?_))) (by (repeat' (first | exact trivial | exact rfl | refine And.intro ?_ ?_))) (by (repeat' (first | exact trivial | exact rfl | refine And.intro ?_ ?_))) rfl rfl ?_
  (conv => whnf)
  refine CallLeaf.o [512, 1544, 1545] (by (repeat' (first | exact ArgsTo.nil | refine ArgsTo.cons ?_ ?_ | exact ArgTo.mk' rfl (Wk.refl _) | exact ArgTo.mk' rfl Wk.nilm | exact ArgTo.mk' rfl (Wk.int (by simp)) | exact ArgTo.mk' rfl (Wk.list _ _) | exact ArgTo.mk' rfl (Wk.agg (by (repeat' (first | exact Wks.nil | refine Wks.cons ?_ ?_ | exact Wk.refl _ | exact Wk.nilm | exact Wk.list _ _  | exact Wk.natN rfl | refine Wk.agg ?_))))))) (A2) rfl rfl (by (repeat' (first | exact trivial | exact rfl | refine And.intro ?_ ?_))) (by (repeat' (first | exact trivial | exact rfl | refine And.intro ?_ ?_))) (by (repeat' (first | exact trivial | exact rfl | refine And.intro ?_ ?_))) rfl rfl ?_
  (conv => whnf)
  refine CallLeaf.o [512, 1544, 1545] (by (repeat' (first | exact ArgsTo.nil | refine ArgsTo.cons ?_ ?_ | exact ArgTo.mk' rfl (Wk.refl _) | exact ArgTo.mk' rfl Wk.nilm | exact ArgTo.mk' rfl (Wk.int (by simp)) | exact ArgTo.mk' rfl (Wk.list _ _) | exact ArgTo.mk' rfl (Wk.agg (by (repeat' (first | exact Wks.nil | refine Wks.cons ?_ ?_ | exact Wk.refl _ | exact Wk.nilm | exact Wk.list _ _  | exact Wk.natN rfl | refine Wk.agg ?_))))))) (A3) rfl rfl (by (repeat' (first | exact trivial | exact rfl | refine And.intro ?_ ?_))) (by (repeat' (first | exact trivial | exact rfl | refine And.intro ?_ ?_))) (by (repeat' (first | exact trivial | exact rfl | refine And.intro ?_ ?_))) rfl rfl ?_
  (conv => whnf)
  refine CallLeaf.o [512, 1544, 1545] (by (repeat' (first | exact ArgsTo.nil | refine ArgsTo.cons ?_ ?_ | exact ArgTo.mk' rfl (Wk.refl _) | exact ArgTo.mk' rfl Wk.nilm | exact ArgTo.mk' rfl (Wk.int (by simp)) | exact ArgTo.mk' rfl (Wk.list _ _) | exact ArgTo.mk' rfl (Wk.agg (by (repeat' (first | exact Wks.nil | refine Wks.cons ?_ ?_ | exact Wk.refl _ | exact Wk.nilm | exact Wk.list _ _  | exact Wk.natN rfl | refine Wk.agg ?_))))))) (A4) rfl rfl (by (repeat' (first | exact trivial | exact rfl | refine And.intro ?_ ?_))) (by (repeat' (first | exact trivial | exact rfl | refine And.intro ?_ ?_))) (by (repeat' (first | exact trivial | exact rfl | refine And.intro ?_ ?_))) rfl rfl ?_
  (conv => whnf)
  refine CallLeaf.o [512, 1544, 1545] (by (repeat' (first | exact ArgsTo.nil | refine ArgsTo.cons ?_ ?_ | exact ArgTo.mk' rfl (Wk.refl _) | exact ArgTo.mk' rfl Wk.nilm | exact ArgTo.mk' rfl (Wk.int (by simp)) | exact ArgTo.mk' rfl (Wk.list _ _) | exact ArgTo.mk' rfl (Wk.agg (by (repeat' (first | exact Wks.nil | refine Wks.cons ?_ ?_ | exact Wk.refl _ | exact Wk.nilm | exact Wk.list _ _  | exact Wk.natN rfl | refine Wk.agg ?_))))))) (A5) rfl rfl (by (repeat' (first | exact trivial | exact rfl | refine And.intro ?_ ?_))) (by (repeat' (first | exact trivial | exact rfl | refine And.intro ?_ ?_))) (by (repeat' (first | exact trivial | exact rfl | refine And.intro ?_ ?_))) rfl rfl ?_
  (conv => whnf)
  refine CallLeaf.o [512, 1544, 1545] (by (repeat' (first | exact ArgsTo.nil | refine ArgsTo.cons ?_ ?_ | exact ArgTo.mk' rfl (Wk.refl _) | exact ArgTo.mk' rfl Wk.nilm | exact ArgTo.mk' rfl (Wk.int (by simp)) | exact ArgTo.mk' rfl (Wk.list _ _) | exact ArgTo.mk' rfl (Wk.agg (by (repeat' (first | exact Wks.nil | refine Wks.cons ?_ ?_ | exact Wk.refl _ | exact Wk.nilm | exact Wk.list _ _  | exact Wk.natN rfl | refine Wk.agg ?_))))))) (A6) rfl rfl (by (repeat' (first | exact trivial | exact rfl | refine And.intro ?_ ?_))) (by (repeat' (first | exact trivial | exact rfl | refine And.intro ?_ ?_))) (by (repeat' (first | exact trivial | exact rfl | refine And.intro ?_ ?_))) rfl rfl ?_
  (conv => whnf)
  refine CallLeaf.o [512, 1544, 1545] (by (repeat' (first | exact ArgsTo.nil | refine ArgsTo.cons ?_ ?_ | exact ArgTo.mk' rfl (Wk.refl _) | exact ArgTo.mk' rfl Wk.nilm | exact ArgTo.mk' rfl (Wk.int (by simp)) | exact ArgTo.mk' rfl (Wk.list _ _) | exact ArgTo.mk' rfl (Wk.agg (by (repeat' (first | exact Wks.nil | refine Wks.cons ?_ ?_ | exact Wk.refl _ | exact Wk.nilm | exact Wk.list _ _  | exact Wk.natN rfl | refine Wk.agg ?_))))))) (A7) rfl rfl (by (repeat' (first | exact trivial | exact rfl | refine And.intro ?_ ?_))) (by (repeat' (first | exact trivial | exact rfl | refine And.intro ?_ ?_))) (by (repeat' (first | exact trivial | exact rfl | refine And.intro ?_ ?_))) rfl rfl ?_
  (conv => whnf)
  refine CallLeaf.o [512, 1544, 1545] (by (repeat' (first | exact ArgsTo.nil | refine ArgsTo.cons ?_ ?_ | exact ArgTo.mk' rfl (Wk.refl _) | exact ArgTo.mk' rfl Wk.nilm | exact ArgTo.mk' rfl (Wk.int (by simp)) | exact ArgTo.mk' rfl (Wk.list _ _) | exact ArgTo.mk' rfl (Wk.agg (by (repeat' (first | exact Wks.nil | refine Wks.cons ?_ ?_ | exact Wk.refl _ | exact Wk.nilm | exact Wk.list _ _  | exact Wk.natN rfl | refine Wk.agg ?_))))))) (A8) rfl rfl (by (repeat' (first | exact trivial | exact rfl | refine And.intro ?_ ?_))) (by (repeat' (first | exact trivial | exact rfl | refine And.intro ?_ ?_))) (by (repeat' (first | exact trivial | exact rfl | refine And.intro ?_ ?_))) rfl rfl ?_
  (conv => whnf)
  refine CallLeaf.w (by (repeat' (first | exact ArgsTo.nil | refine ArgsTo.cons ?_ ?_ | exact ArgTo.mk' rfl (Wk.refl _) | exact ArgTo.mk' rfl Wk.nilm | exact ArgTo.mk' rfl (Wk.int (by simp)) | exact ArgTo.mk' rfl (Wk.list _ _) | exact ArgTo.mk' rfl (Wk.agg (by (repeat' (first | exact Wks.nil | refine Wks.cons ?_ ?_ | exact Wk.refl _ | exact Wk.nilm | exact Wk.list _ _  | exact Wk.natN rfl | refine Wk.agg ?_))))))) (A9) rfl ?_
  (conv => whnf)
  refine CallLeaf.w (by (repeat' (first | exact ArgsTo.nil | refine ArgsTo.cons ?_ ?_ | exact ArgTo.mk' rfl (Wk.refl _) | exact ArgTo.mk' rfl Wk.nilm | exact ArgTo.mk' rfl (Wk.int (by simp)) | exact ArgTo.mk' rfl (Wk.list _ _) | exact ArgTo.mk' rfl (Wk.agg (by (repeat' (first | exact Wks.nil | refine Wks.cons ?_ ?_ | exact Wk.refl _ | exact Wk.nilm | exact Wk.list _ _  | exact Wk.natN rfl | refine Wk.agg ?_))))))) (wlenN_) rfl ?_
  (conv => whnf)
  refine CallLeaf.w (by (repeat' (first | exact ArgsTo.nil | refine ArgsTo.cons ?_ ?_ | exact ArgTo.mk' rfl (Wk.refl _) | exact ArgTo.mk' rfl Wk.nilm | exact ArgTo.mk' rfl (Wk.int (by simp)) | exact ArgTo.mk' rfl (Wk.list _ _) | exact ArgTo.mk' rfl (Wk.agg (by (repeat' (first | exact Wks.nil | refine Wks.cons ?_ ?_ | exact Wk.refl _ | exact Wk.nilm | exact Wk.list _ _  | exact Wk.natN rfl | refine Wk.agg ?_))))))) (A10) rfl ?_
  (conv => whnf)
  exact Wk.refl _
end Go.Proofs.YtdlcaoobaejlpaaDoor.V

/- WantedLoadable, walked. No condition. -/
set_option linter.unusedVariables false
set_option linter.unusedSimpArgs false
namespace Go.Proofs.YtdlcaoobaejlpaaDoor
open Go Go.AL Go.AL.Bd
set_option maxRecDepth 100000
set_option maxHeartbeats 4000000
/-- the first name that a test takes -/
def fst1 (p : Str → Bool) : List Str → Option Str
  | [] => none
  | s :: r => if p s = true then some s else fst1 p r
abbrev fst1D (o : Option Str) : D := .tuple [sD (o.getD []), vB o.isSome]
theorem fst1_at {p : Str → Bool} : ∀ {l : List Str} {k : Nat} {s : Str}, l[k]? = some s → p s = true → (∀ x ∈ l.take k, ¬ p x = true) → fst1 p l = some s
  | [], k, s, h, _, _ => by simp at h
  | x :: r, 0, s, h, hp, _ => by simp at h; subst h; simp [fst1, hp]
  | x :: r, k + 1, s, h, hp, hk => by
    have h0 := hk x (by simp)
    simp only [fst1, if_neg h0]
    exact fst1_at (by simpa using h) hp fun y hy => hk y (by simp [hy])
theorem fst1_none {p : Str → Bool} : ∀ {l : List Str}, (∀ x ∈ l, ¬ p x = true) → fst1 p l = none
  | [], _ => rfl
  | x :: r, h => by simp only [fst1, if_neg (h x (by simp))]; exact fst1_none fun y hy => h y (by simp [hy])
theorem fst1_is (p : Str → Bool) : ∀ l : List Str, (fst1 p l).isSome = l.any p
  | [] => rfl
  | x :: r => by
    by_cases h : p x = true
    · simp [fst1, h]
    · simp only [fst1, if_neg h, List.any_cons, fst1_is p r]; simp [h]
def wd (U : List Use) (s : Str) : Bool := wanted (all (Sy.of U s))
theorem step_not {p : Str → Bool} {l : List Str} {k : Nat} {s : Str} (hs : l[k]? = some s) (hp : ¬ p s = true) (h : ∀ x ∈ l.take k, ¬ p x = true) : ∀ x ∈ l.take (k + 1), ¬ p x = true := fun x hx => by
  rw [List.take_add_one, hs] at hx
  simp only [Option.toList_some, List.mem_append, List.mem_singleton] at hx
  rcases hx with hx | rfl
  · exact h x hx
  · exact hp
theorem loadable_ (U : List Use) (n : Nat) (ds : List Str) (hU : U.length ≤ 1000000) : FCall Tryd.prog Gl 27 [.ptr 0 0, LS ds] (Tq n (Sy.build U)) (fst1D (fst1 (wd U) ds)) (Tq n (Sy.build U)) := by
  refine FCall.enterO hT hmix [] Tryd.func27 rfl rfl rfl fun hbd => ?_
  have ha := bds_list hbd (.tail _ (.head _))
  (conv => whnf)
  refine LWp.loop hT hmix [] (fun k : Nat => [(10, vI k)]) (fun _ => []) (fun k => k ≤ ds.length ∧ ∀ x ∈ ds.take k, ¬ wd U x = true) (fun k => ds.length - k) 0 ⟨Nat.zero_le _, by simp⟩ ?_
  (conv => whnf)
  refine ⟨?_, fun k ⟨hk, hkk⟩ => ?_⟩
  · (repeat' (first | exact trivial | exact Wk.refl _ | exact ObWk.refl _ | exact rfl | exact ⟨_, rfl⟩ | exact Nat.zero_lt_one | refine And.intro ?_ ?_ | unfold okTo | (unfold okO; conv => whnf) | (unfold okS; conv => whnf) | (unfold SlotOk; conv => whnf) | (unfold ObjOk; conv => whnf) | (unfold okCells; conv => whnf) | (unfold liveTo; conv => whnf) | exact Nat.zero_lt_succ _))
  · (conv => whnf)
    refine split_intro (fun h => ?_) (fun h => ?_)
    · have hlt : k < ds.length := by have := of_decide_eq_true h; simp at this; omega
      obtain ⟨s, hs⟩ := exI hlt
      (conv => whnf)
      refine ⟨_, ⟨by omega, getMap hs⟩, ?_⟩
      (conv => whnf)
      refine CallLeaf.o [0, 1] (by (repeat' (first | exact ArgsTo.nil | refine ArgsTo.cons ?_ ?_ | exact ArgTo.mk' rfl (Wk.refl _) | exact ArgTo.mk' rfl Wk.nilm | exact ArgTo.mk' rfl (Wk.int (by simp)) | exact ArgTo.mk' rfl (Wk.list _ _) | exact ArgTo.mk' rfl (Wk.agg (by (repeat' (first | exact Wks.nil | refine Wks.cons ?_ ?_ | exact Wk.refl _ | exact Wk.nilm | exact Wk.list _ _  | exact Wk.natN rfl | refine Wk.agg ?_))))))) (tstate_ U n s hU) rfl rfl (by (repeat' (first | exact trivial | exact rfl | refine And.intro ?_ ?_))) (by (repeat' (first | exact trivial | exact rfl | refine And.intro ?_ ?_))) (by (repeat' (first | exact trivial | exact rfl | refine And.intro ?_ ?_))) rfl rfl ?_
      (conv => whnf)
      refine CallLeaf.w (by (repeat' (first | exact ArgsTo.nil | refine ArgsTo.cons ?_ ?_ | exact ArgTo.mk' rfl (Wk.refl _) | exact ArgTo.mk' rfl Wk.nilm | exact ArgTo.mk' rfl (Wk.int (by simp)) | exact ArgTo.mk' rfl (Wk.list _ _) | exact ArgTo.mk' rfl (Wk.agg (by (repeat' (first | exact Wks.nil | refine Wks.cons ?_ ?_ | exact Wk.refl _ | exact Wk.nilm | exact Wk.list _ _  | exact Wk.natN rfl | refine Wk.agg ?_))))))) (wanted_ (all (Sy.of U s))) rfl ?_
      (conv => whnf)
      refine split_intro (fun hp => ?_) (fun hp => ?_)
      · rw [fst1_at hs hp hkk]
        (conv => whnf)
        refine ⟨[0, 1], rfl, by (try unfold pullOk); (repeat' (first | exact trivial | exact ObWk.refl _ | refine And.intro ?_ ?_ | unfold pullOk)), ?_⟩
        exact Wk.refl _
      · (conv => whnf)
        refine ⟨_, add64 (c := ((k + 1 : Nat) : Int)) (by (try simp only []); omega) (by omega), ?_⟩
        (conv => whnf)
        refine ⟨k + 1, ⟨⟨by omega, step_not hs (by rw [wd, hp]; simp) hkk⟩, by simp only []; omega⟩, ?_⟩
        (repeat' (first | exact trivial | exact Wk.refl _ | exact ObWk.refl _ | exact rfl | exact ⟨_, rfl⟩ | exact Nat.zero_lt_one | refine And.intro ?_ ?_ | unfold okTo | (unfold okO; conv => whnf) | (unfold okS; conv => whnf) | (unfold SlotOk; conv => whnf) | (unfold ObjOk; conv => whnf) | (unfold okCells; conv => whnf) | (unfold liveTo; conv => whnf) | exact Nat.zero_lt_succ _))
    · have hge : ds.length ≤ k := by have := of_decide_eq_false h; simp at this; omega
      rw [List.take_of_length_le hge] at hkk
      rw [fst1_none hkk]
      (conv => whnf)
      refine ⟨[0, 1], rfl, by (try unfold pullOk); (repeat' (first | exact trivial | exact ObWk.refl _ | refine And.intro ?_ ?_ | unfold pullOk)), ?_⟩
      exact Wk.refl _
theorem wd_nil (s : Str) : wd [] s = false := rfl
theorem loadableZ_ (ds : List Str) : FCall Tryd.prog Gl 27 [.ptr 0 0, LS ds] Tz (fst1D (fst1 (wd []) ds)) Tz := by
  refine FCall.enterO hT hmix [] Tryd.func27 rfl rfl rfl fun hbd => ?_
  have ha := bds_list hbd (.tail _ (.head _))
  rw [fst1_none (l := ds) (p := wd []) (fun x _ => by rw [wd_nil]; simp)]
  (conv => whnf)
  refine LWp.loop hT hmix [] (fun k : Nat => [(10, vI k)]) (fun _ => []) (fun k => k ≤ ds.length) (fun k => ds.length - k) 0 (Nat.zero_le _) ?_
  (conv => whnf)
  refine ⟨?_, fun k hk => ?_⟩
  · (repeat' (first | exact trivial | exact Wk.refl _ | exact ObWk.refl _ | exact rfl | exact ⟨_, rfl⟩ | exact Nat.zero_lt_one | refine And.intro ?_ ?_ | unfold okTo | (unfold okO; conv => whnf) | (unfold okS; conv => whnf) | (unfold SlotOk; conv => whnf) | (unfold ObjOk; conv => whnf) | (unfold okCells; conv => whnf) | (unfold liveTo; conv => whnf) | exact Nat.zero_lt_succ _))
  · (conv => whnf)
    refine split_intro (fun h => ?_) (fun h => ?_)
    · have hlt : k < ds.length := by have := of_decide_eq_true h; simp at this; omega
      obtain ⟨s, hs⟩ := exI hlt
      (conv => whnf)
      refine ⟨_, ⟨by omega, getMap hs⟩, ?_⟩
      (conv => whnf)
      refine CallLeaf.o [0] (by (repeat' (first | exact ArgsTo.nil | refine ArgsTo.cons ?_ ?_ | exact ArgTo.mk' rfl (Wk.refl _) | exact ArgTo.mk' rfl Wk.nilm | exact ArgTo.mk' rfl (Wk.int (by simp)) | exact ArgTo.mk' rfl (Wk.list _ _) | exact ArgTo.mk' rfl (Wk.agg (by (repeat' (first | exact Wks.nil | refine Wks.cons ?_ ?_ | exact Wk.refl _ | exact Wk.nilm | exact Wk.list _ _  | exact Wk.natN rfl | refine Wk.agg ?_))))))) (tstateZ_ s) rfl rfl (by (repeat' (first | exact trivial | exact rfl | refine And.intro ?_ ?_))) (by (repeat' (first | exact trivial | exact rfl | refine And.intro ?_ ?_))) (by (repeat' (first | exact trivial | exact rfl | refine And.intro ?_ ?_))) rfl rfl ?_
      (conv => whnf)
      refine CallLeaf.w (by (repeat' (first | exact ArgsTo.nil | refine ArgsTo.cons ?_ ?_ | exact ArgTo.mk' rfl (Wk.refl _) | exact ArgTo.mk' rfl Wk.nilm | exact ArgTo.mk' rfl (Wk.int (by simp)) | exact ArgTo.mk' rfl (Wk.list _ _) | exact ArgTo.mk' rfl (Wk.agg (by (repeat' (first | exact Wks.nil | refine Wks.cons ?_ ?_ | exact Wk.refl _ | exact Wk.nilm | exact Wk.list _ _  | exact Wk.natN rfl | refine Wk.agg ?_))))))) (wanted_ empty) rfl ?_
      (conv => whnf)
      refine ⟨_, add64 (c := ((k + 1 : Nat) : Int)) (by (try simp only []); omega) (by omega), ?_⟩
      (conv => whnf)
      refine ⟨k + 1, ⟨by omega, by simp only []; omega⟩, ?_⟩
      (repeat' (first | exact trivial | exact Wk.refl _ | exact ObWk.refl _ | exact rfl | exact ⟨_, rfl⟩ | exact Nat.zero_lt_one | refine And.intro ?_ ?_ | unfold okTo | (unfold okO; conv => whnf) | (unfold okS; conv => whnf) | (unfold SlotOk; conv => whnf) | (unfold ObjOk; conv => whnf) | (unfold okCells; conv => whnf) | (unfold liveTo; conv => whnf) | exact Nat.zero_lt_succ _))
    · (conv => whnf)
      refine ⟨[0], rfl, by (try unfold pullOk); (repeat' (first | exact trivial | exact ObWk.refl _ | refine And.intro ?_ ?_ | unfold pullOk)), ?_⟩
      exact Wk.refl _
theorem rloadable_ (l : List Ob.Obj) (ok : OkL l) (ds : List Str) : FCall Tryd.prog Gl 28 [LO l, LS ds] [] (fst1D (fst1 (wd (Us l)) ds)) [] := by
  refine FCall.enterL hT hmix [] Tryd.func28 rfl rfl rfl fun hbd => ?_
  have ha := bds_list hbd (.tail _ (.head _))
  (conv => whnf)
  refine LWp.loop hT hmix [] (fun k : Nat => [(6, vI k)]) (fun _ => []) (fun k => k ≤ ds.length ∧ ∀ x ∈ ds.take k, ¬ wd (Us l) x = true) (fun k => ds.length - k) 0 ⟨Nat.zero_le _, by simp⟩ ?_
  (conv => whnf)
  refine ⟨?_, fun k ⟨hk, hkk⟩ => ?_⟩
  · (repeat' (first | exact trivial | exact Wk.refl _ | exact ObWk.refl _ | exact rfl | exact ⟨_, rfl⟩ | exact Nat.zero_lt_one | refine And.intro ?_ ?_ | unfold okTo | (unfold okO; conv => whnf) | (unfold okS; conv => whnf) | (unfold SlotOk; conv => whnf) | (unfold ObjOk; conv => whnf) | (unfold okCells; conv => whnf) | (unfold liveTo; conv => whnf) | exact Nat.zero_lt_succ _))
  · (conv => whnf)
    refine split_intro (fun h => ?_) (fun h => ?_)
    · have hlt : k < ds.length := by have := of_decide_eq_true h; simp at this; omega
      obtain ⟨s, hs⟩ := exI hlt
      have hwd : wd (Us l) s = ((all (Sy.of (Us l) s)).sref && !(all (Sy.of (Us l) s)).defd) := rfl
      (conv => whnf)
      refine ⟨_, ⟨by omega, getMap hs⟩, ?_⟩
      (conv => whnf)
      refine CallLeaf.w (by (repeat' (first | exact ArgsTo.nil | refine ArgsTo.cons ?_ ?_ | exact ArgTo.mk' rfl (Wk.refl _) | exact ArgTo.mk' rfl Wk.nilm | exact ArgTo.mk' rfl (Wk.int (by simp)) | exact ArgTo.mk' rfl (Wk.list _ _) | exact ArgTo.mk' rfl (Wk.agg (by (repeat' (first | exact Wks.nil | refine Wks.cons ?_ ?_ | exact Wk.refl _ | exact Wk.nilm | exact Wk.list _ _  | exact Wk.natN rfl | refine Wk.agg ?_))))))) (rstate_ l s ok) rfl ?_
      (conv => whnf)
      refine split_intro (fun h1 => ?_) (fun h1 => ?_)
      · (conv => whnf)
        refine split_intro (fun h2 => ?_) (fun h2 => ?_)
        · have hp : wd (Us l) s = true := by rw [hwd]; simp only [h1, h2]; rfl
          rw [fst1_at hs hp hkk]
          (conv => whnf)
          refine ⟨_, ⟨by omega, getMap hs⟩, ?_⟩
          (conv => whnf)
          exact Wk.refl _
        · have hp : ¬ wd (Us l) s = true := by rw [hwd]; simp only [h1, h2]; simp
          (conv => whnf)
          refine ⟨_, add64 (c := ((k + 1 : Nat) : Int)) (by (try simp only []); omega) (by omega), ?_⟩
          (conv => whnf)
          refine ⟨k + 1, ⟨⟨by omega, step_not hs hp hkk⟩, by simp only []; omega⟩, ?_⟩
          (repeat' (first | exact trivial | exact Wk.refl _ | exact ObWk.refl _ | exact rfl | exact ⟨_, rfl⟩ | exact Nat.zero_lt_one | refine And.intro ?_ ?_ | unfold okTo | (unfold okO; conv => whnf) | (unfold okS; conv => whnf) | (unfold SlotOk; conv => whnf) | (unfold ObjOk; conv => whnf) | (unfold okCells; conv => whnf) | (unfold liveTo; conv => whnf) | exact Nat.zero_lt_succ _))
      · have hp : ¬ wd (Us l) s = true := by rw [hwd]; simp only [h1]; simp
        (conv => whnf)
        refine ⟨_, add64 (c := ((k + 1 : Nat) : Int)) (by (try simp only []); omega) (by omega), ?_⟩
        (conv => whnf)
        refine ⟨k + 1, ⟨⟨by omega, step_not hs hp hkk⟩, by simp only []; omega⟩, ?_⟩
        (repeat' (first | exact trivial | exact Wk.refl _ | exact ObWk.refl _ | exact rfl | exact ⟨_, rfl⟩ | exact Nat.zero_lt_one | refine And.intro ?_ ?_ | unfold okTo | (unfold okO; conv => whnf) | (unfold okS; conv => whnf) | (unfold SlotOk; conv => whnf) | (unfold ObjOk; conv => whnf) | (unfold okCells; conv => whnf) | (unfold liveTo; conv => whnf) | exact Nat.zero_lt_succ _))
    · have hge : ds.length ≤ k := by have := of_decide_eq_false h; simp at this; omega
      rw [List.take_of_length_le hge] at hkk
      rw [fst1_none hkk]
      (conv => whnf)
      exact Wk.refl _
theorem mem_wanted (U : List Use) (s : Str) : decide (s ∈ wantedL U) = wd U s := by
  rw [Bool.eq_iff_iff, decide_eq_true_eq]
  unfold wantedL
  rw [List.mem_filter]
  constructor
  · exact fun h => h.2
  · intro h
    refine ⟨(Sy.mem_names s U).2 fun e => ?_, h⟩
    rw [wd, e] at h; simp [all, wanted, empty] at h
theorem any_step {p : Str → Bool} {l : List Str} {k : Nat} {s : Str} (hs : l[k]? = some s) : (l.take (k + 1)).any p = ((l.take k).any p || p s) := by
  rw [List.take_add_one, hs]; simp
theorem wLoadable_ (l : List Ob.Obj) (defs : List Str) : FCall Tryd.prog Gl 8 [LO l, LS defs] [] (vB true) [] := by
  refine FCall.enterL hT hmix [] Tryd.func8 rfl rfl rfl fun hbd => ?_
  (conv => whnf)
  refine CallLeaf.w (by (repeat' (first | exact ArgsTo.nil | refine ArgsTo.cons ?_ ?_ | exact ArgTo.mk' rfl (Wk.refl _) | exact ArgTo.mk' rfl Wk.nilm | exact ArgTo.mk' rfl (Wk.int (by simp)) | exact ArgTo.mk' rfl (Wk.list _ _) | exact ArgTo.mk' rfl (Wk.agg (by (repeat' (first | exact Wks.nil | refine Wks.cons ?_ ?_ | exact Wk.refl _ | exact Wk.nilm | exact Wk.list _ _  | exact Wk.natN rfl | refine Wk.agg ?_))))))) (V.wawake_) rfl ?_
  (conv => whnf)
  refine CallLeaf.w (by (repeat' (first | exact ArgsTo.nil | refine ArgsTo.cons ?_ ?_ | exact ArgTo.mk' rfl (Wk.refl _) | exact ArgTo.mk' rfl Wk.nilm | exact ArgTo.mk' rfl (Wk.int (by simp)) | exact ArgTo.mk' rfl (Wk.list _ _) | exact ArgTo.mk' rfl (Wk.agg (by (repeat' (first | exact Wks.nil | refine Wks.cons ?_ ?_ | exact Wk.refl _ | exact Wk.nilm | exact Wk.list _ _  | exact Wk.natN rfl | refine Wk.agg ?_))))))) (right_ l) rfl ?_
  (conv => whnf)
  refine split_intro (fun hr => ?_) (fun hr => ?_)
  · (((conv => whnf)); (refine CallLeaf.w (by (repeat' (first | exact ArgsTo.nil | refine ArgsTo.cons ?_ ?_ | exact ArgTo.mk' rfl (Wk.refl _) | exact ArgTo.mk' rfl Wk.nilm | exact ArgTo.mk' rfl (Wk.int (by simp)) | exact ArgTo.mk' rfl (Wk.list _ _) | exact ArgTo.mk' rfl (Wk.agg (by (repeat' (first | exact Wks.nil | refine Wks.cons ?_ ?_ | exact Wk.refl _ | exact Wk.nilm | exact Wk.list _ _  | exact Wk.natN rfl | refine Wk.agg ?_))))))) (V.wawake_) rfl ?_); ((conv => whnf)); exact Wk.refl _)
  · have ok := right_ok (not_f hr)
    have hl := ok.len
    (conv => whnf)
    refine split_intro (fun hd => ?_) (fun hd => ?_)
    · (((conv => whnf)); (refine CallLeaf.w (by (repeat' (first | exact ArgsTo.nil | refine ArgsTo.cons ?_ ?_ | exact ArgTo.mk' rfl (Wk.refl _) | exact ArgTo.mk' rfl Wk.nilm | exact ArgTo.mk' rfl (Wk.int (by simp)) | exact ArgTo.mk' rfl (Wk.list _ _) | exact ArgTo.mk' rfl (Wk.agg (by (repeat' (first | exact Wks.nil | refine Wks.cons ?_ ?_ | exact Wk.refl _ | exact Wk.nilm | exact Wk.list _ _  | exact Wk.natN rfl | refine Wk.agg ?_))))))) (V.wawake_) rfl ?_); ((conv => whnf)); exact Wk.refl _)
    · have hd' : defs.length ≤ 50 := by have := of_decide_eq_false hd; simp at this; omega
      have C := rloadable_ l ok defs
      have hany := fst1_is (wd (Us l)) defs
      (conv => whnf)
      refine LWp.loop hT hmix [] (fun k : Nat => [(6, vI k)]) (fun k => TK 1536 3616 l k) (fun k => k ≤ l.length) (fun k => l.length - k) 0 (Nat.zero_le _) ?_
      (conv => whnf)
      refine ⟨?_, fun k hk => ?_⟩
      · (repeat' (first | exact trivial | exact Wk.refl _ | exact ObWk.refl _ | exact rfl | exact ⟨_, rfl⟩ | exact Nat.zero_lt_one | refine And.intro ?_ ?_ | unfold okTo | (unfold okO; conv => whnf) | (unfold okS; conv => whnf) | (unfold SlotOk; conv => whnf) | (unfold ObjOk; conv => whnf) | (unfold okCells; conv => whnf) | (unfold liveTo; conv => whnf) | exact Nat.zero_lt_succ _))
      · cases k with
        | zero =>
          (conv => whnf)
          refine split_intro (fun h => ?_) (fun h => ?_)
          · ((have hlt : 0 < l.length := by (have := of_decide_eq_true h; simp at this; omega)); (obtain ⟨o, ho⟩ := exI hlt); ((conv => whnf)); (refine ⟨_, ⟨by omega, getMap ho⟩, ?_⟩); ((conv => whnf)); (refine CallLeaf.o [1536, 3616] (by (repeat' (first | exact ArgsTo.nil | refine ArgsTo.cons ?_ ?_ | exact ArgTo.mk' rfl (Wk.refl _) | exact ArgTo.mk' rfl Wk.nilm | exact ArgTo.mk' rfl (Wk.int (by simp)) | exact ArgTo.mk' rfl (Wk.list _ _) | exact ArgTo.mk' rfl (Wk.agg (by (repeat' (first | exact Wks.nil | refine Wks.cons ?_ ?_ | exact Wk.refl _ | exact Wk.nilm | exact Wk.list _ _  | exact Wk.natN rfl | refine Wk.agg ?_))))))) (load0 ok ho) rfl rfl (by (repeat' (first | exact trivial | exact rfl | refine And.intro ?_ ?_))) (by (repeat' (first | exact trivial | exact rfl | refine And.intro ?_ ?_))) (by (repeat' (first | exact trivial | exact rfl | refine And.intro ?_ ?_))) rfl rfl ?_); ((conv => whnf)); (refine ⟨_, add64 (c := ((0 + 1 : Nat) : Int)) (by (try simp only []); omega) (by omega), ?_⟩); ((conv => whnf)); (refine ⟨0 + 1, ⟨by omega, by simp only []; omega⟩, ?_⟩); ((repeat' (first | exact trivial | exact Wk.refl _ | exact ObWk.refl _ | exact rfl | exact ⟨_, rfl⟩ | exact Nat.zero_lt_one | refine And.intro ?_ ?_ | unfold okTo | (unfold okO; conv => whnf) | (unfold okS; conv => whnf) | (unfold SlotOk; conv => whnf) | (unfold ObjOk; conv => whnf) | (unfold okCells; conv => whnf) | (unfold liveTo; conv => whnf) | exact Nat.zero_lt_succ _))))
          · have h0 : l = [] := by have := of_decide_eq_false h; simpa using this
            subst h0
            have A := loadableZ_ defs
            have hx : fst1 (wd (Us [])) defs = none := fst1_none (fun x _ => by rw [show Us [] = [] from rfl, wd_nil]; simp)
            rw [show fst1 (wd []) defs = none from hx] at A
            rw [hx] at C hany
            (conv => whnf)
            refine CallLeaf.o [1536] (by (repeat' (first | exact ArgsTo.nil | refine ArgsTo.cons ?_ ?_ | exact ArgTo.mk' rfl (Wk.refl _) | exact ArgTo.mk' rfl Wk.nilm | exact ArgTo.mk' rfl (Wk.int (by simp)) | exact ArgTo.mk' rfl (Wk.list _ _) | exact ArgTo.mk' rfl (Wk.agg (by (repeat' (first | exact Wks.nil | refine Wks.cons ?_ ?_ | exact Wk.refl _ | exact Wk.nilm | exact Wk.list _ _  | exact Wk.natN rfl | refine Wk.agg ?_))))))) (A) rfl rfl (by (repeat' (first | exact trivial | exact rfl | refine And.intro ?_ ?_))) (by (repeat' (first | exact trivial | exact rfl | refine And.intro ?_ ?_))) (by (repeat' (first | exact trivial | exact rfl | refine And.intro ?_ ?_))) rfl rfl ?_
            (conv => whnf)
            refine CallLeaf.w (by (repeat' (first | exact ArgsTo.nil | refine ArgsTo.cons ?_ ?_ | exact ArgTo.mk' rfl (Wk.refl _) | exact ArgTo.mk' rfl Wk.nilm | exact ArgTo.mk' rfl (Wk.int (by simp)) | exact ArgTo.mk' rfl (Wk.list _ _) | exact ArgTo.mk' rfl (Wk.agg (by (repeat' (first | exact Wks.nil | refine Wks.cons ?_ ?_ | exact Wk.refl _ | exact Wk.nilm | exact Wk.list _ _  | exact Wk.natN rfl | refine Wk.agg ?_))))))) (C) rfl ?_
            (conv => whnf)
            refine CallLeaf.o [1536] (by (repeat' (first | exact ArgsTo.nil | refine ArgsTo.cons ?_ ?_ | exact ArgTo.mk' rfl (Wk.refl _) | exact ArgTo.mk' rfl Wk.nilm | exact ArgTo.mk' rfl (Wk.int (by simp)) | exact ArgTo.mk' rfl (Wk.list _ _) | exact ArgTo.mk' rfl (Wk.agg (by (repeat' (first | exact Wks.nil | refine Wks.cons ?_ ?_ | exact Wk.refl _ | exact Wk.nilm | exact Wk.list _ _  | exact Wk.natN rfl | refine Wk.agg ?_))))))) (twantedZ_) rfl rfl (by (repeat' (first | exact trivial | exact rfl | refine And.intro ?_ ?_))) (by (repeat' (first | exact trivial | exact rfl | refine And.intro ?_ ?_))) (by (repeat' (first | exact trivial | exact rfl | refine And.intro ?_ ?_))) rfl rfl ?_
            (conv => whnf)
            refine LWp.loop hT hmix [] (fun k : Nat => [(13, vI k), (12, vB false)]) (fun _ => []) (fun k => k ≤ defs.length) (fun k => defs.length - k) 0 (Nat.zero_le _) ?_
            (conv => whnf)
            refine ⟨?_, fun k hk => ?_⟩
            · (repeat' (first | exact trivial | exact Wk.refl _ | exact ObWk.refl _ | exact rfl | exact ⟨_, rfl⟩ | exact Nat.zero_lt_one | refine And.intro ?_ ?_ | unfold okTo | (unfold okO; conv => whnf) | (unfold okS; conv => whnf) | (unfold SlotOk; conv => whnf) | (unfold ObjOk; conv => whnf) | (unfold okCells; conv => whnf) | (unfold liveTo; conv => whnf) | exact Nat.zero_lt_succ _))
            · (conv => whnf)
              refine split_intro (fun h1 => ?_) (fun h1 => ?_)
              · have hlt : k < defs.length := by have := of_decide_eq_true h1; simp at this; omega
                obtain ⟨s, hs⟩ := exI hlt
                (conv => whnf)
                refine ⟨_, ⟨by omega, getMap hs⟩, ?_⟩
                (conv => whnf)
                refine CallLeaf.w (by (repeat' (first | exact ArgsTo.nil | refine ArgsTo.cons ?_ ?_ | exact ArgTo.mk' rfl (Wk.refl _) | exact ArgTo.mk' rfl Wk.nilm | exact ArgTo.mk' rfl (Wk.int (by simp)) | exact ArgTo.mk' rfl (Wk.list _ _) | exact ArgTo.mk' rfl (Wk.agg (by (repeat' (first | exact Wks.nil | refine Wks.cons ?_ ?_ | exact Wk.refl _ | exact Wk.nilm | exact Wk.list _ _  | exact Wk.natN rfl | refine Wk.agg ?_))))))) (has_ [] s) rfl ?_
                (conv => whnf)
                refine ⟨_, add64 (c := ((k + 1 : Nat) : Int)) (by (try simp only []); omega) (by omega), ?_⟩
                (conv => whnf)
                refine ⟨k + 1, ⟨by omega, by simp only []; omega⟩, ?_⟩
                (repeat' (first | exact trivial | exact Wk.refl _ | exact ObWk.refl _ | exact rfl | exact ⟨_, rfl⟩ | exact Nat.zero_lt_one | refine And.intro ?_ ?_ | unfold okTo | (unfold okO; conv => whnf) | (unfold okS; conv => whnf) | (unfold SlotOk; conv => whnf) | (unfold ObjOk; conv => whnf) | (unfold okCells; conv => whnf) | (unfold liveTo; conv => whnf) | exact Nat.zero_lt_succ _))
              · (conv => whnf)
                exact Wk.refl _
        | succ k =>
          (conv => whnf)
          refine split_intro (fun h => ?_) (fun h => ?_)
          · ((have hlt : k + 1 < l.length := by (have := of_decide_eq_true h; simp at this; omega)); (obtain ⟨o, ho⟩ := exI hlt); ((conv => whnf)); (refine ⟨_, ⟨by omega, getMap ho⟩, ?_⟩); ((conv => whnf)); (refine CallLeaf.o [1536, 3616] (by (repeat' (first | exact ArgsTo.nil | refine ArgsTo.cons ?_ ?_ | exact ArgTo.mk' rfl (Wk.refl _) | exact ArgTo.mk' rfl Wk.nilm | exact ArgTo.mk' rfl (Wk.int (by simp)) | exact ArgTo.mk' rfl (Wk.list _ _) | exact ArgTo.mk' rfl (Wk.agg (by (repeat' (first | exact Wks.nil | refine Wks.cons ?_ ?_ | exact Wk.refl _ | exact Wk.nilm | exact Wk.list _ _  | exact Wk.natN rfl | refine Wk.agg ?_))))))) (loadK ok ho) rfl rfl (by (repeat' (first | exact trivial | exact rfl | refine And.intro ?_ ?_))) (by (repeat' (first | exact trivial | exact rfl | refine And.intro ?_ ?_))) (by (repeat' (first | exact trivial | exact rfl | refine And.intro ?_ ?_))) rfl rfl ?_); ((conv => whnf)); (refine ⟨_, add64 (c := ((k + 1 + 1 : Nat) : Int)) (by (try simp only []); omega) (by omega), ?_⟩); ((conv => whnf)); (refine ⟨k + 1 + 1, ⟨by omega, by simp only []; omega⟩, ?_⟩); ((repeat' (first | exact trivial | exact Wk.refl _ | exact ObWk.refl _ | exact rfl | exact ⟨_, rfl⟩ | exact Nat.zero_lt_one | refine And.intro ?_ ?_ | unfold okTo | (unfold okO; conv => whnf) | (unfold okS; conv => whnf) | (unfold SlotOk; conv => whnf) | (unfold ObjOk; conv => whnf) | (unfold okCells; conv => whnf) | (unfold liveTo; conv => whnf) | exact Nat.zero_lt_succ _))))
          · have hge : l.length ≤ k + 1 := by have := of_decide_eq_false h; simp at this; omega
            have e : l.take (k + 1) = l := List.take_of_length_le hge
            have A := loadable_ (Us (l.take (k + 1))) (k + 1) defs (by have := (ok.take (k + 1)).le; omega)
            have hA : fst1 (wd (Us (l.take (k + 1)))) defs = fst1 (wd (Us l)) defs := by rw [e]
            rw [hA] at A
            have B := wantedK ok (k + 1)
            have hB : ∀ s, decide (s ∈ wantedL (Us (l.take (k + 1)))) = wd (Us l) s := fun s => by rw [mem_wanted, e]
            generalize wantedL (Us (l.take (k + 1))) = W at *
            generalize wd (Us l) = p at *
            generalize fst1 p defs = F at *
            (conv => whnf)
            refine CallLeaf.o [1536, 3616] (by (repeat' (first | exact ArgsTo.nil | refine ArgsTo.cons ?_ ?_ | exact ArgTo.mk' rfl (Wk.refl _) | exact ArgTo.mk' rfl Wk.nilm | exact ArgTo.mk' rfl (Wk.int (by simp)) | exact ArgTo.mk' rfl (Wk.list _ _) | exact ArgTo.mk' rfl (Wk.agg (by (repeat' (first | exact Wks.nil | refine Wks.cons ?_ ?_ | exact Wk.refl _ | exact Wk.nilm | exact Wk.list _ _  | exact Wk.natN rfl | refine Wk.agg ?_))))))) (A) rfl rfl (by (repeat' (first | exact trivial | exact rfl | refine And.intro ?_ ?_))) (by (repeat' (first | exact trivial | exact rfl | refine And.intro ?_ ?_))) (by (repeat' (first | exact trivial | exact rfl | refine And.intro ?_ ?_))) rfl rfl ?_
            (conv => whnf)
            refine CallLeaf.w (by (repeat' (first | exact ArgsTo.nil | refine ArgsTo.cons ?_ ?_ | exact ArgTo.mk' rfl (Wk.refl _) | exact ArgTo.mk' rfl Wk.nilm | exact ArgTo.mk' rfl (Wk.int (by simp)) | exact ArgTo.mk' rfl (Wk.list _ _) | exact ArgTo.mk' rfl (Wk.agg (by (repeat' (first | exact Wks.nil | refine Wks.cons ?_ ?_ | exact Wk.refl _ | exact Wk.nilm | exact Wk.list _ _  | exact Wk.natN rfl | refine Wk.agg ?_))))))) (C) rfl ?_
            (conv => whnf)
            refine CallLeaf.o [1536, 3616] (by (repeat' (first | exact ArgsTo.nil | refine ArgsTo.cons ?_ ?_ | exact ArgTo.mk' rfl (Wk.refl _) | exact ArgTo.mk' rfl Wk.nilm | exact ArgTo.mk' rfl (Wk.int (by simp)) | exact ArgTo.mk' rfl (Wk.list _ _) | exact ArgTo.mk' rfl (Wk.agg (by (repeat' (first | exact Wks.nil | refine Wks.cons ?_ ?_ | exact Wk.refl _ | exact Wk.nilm | exact Wk.list _ _  | exact Wk.natN rfl | refine Wk.agg ?_))))))) (B) rfl rfl (by (repeat' (first | exact trivial | exact rfl | refine And.intro ?_ ?_))) (by (repeat' (first | exact trivial | exact rfl | refine And.intro ?_ ?_))) (by (repeat' (first | exact trivial | exact rfl | refine And.intro ?_ ?_))) rfl rfl ?_
            (conv => whnf)
            refine LWp.loop hT hmix [] (fun k : Nat => [(13, vI k), (12, vB ((defs.take k).any p))]) (fun _ => []) (fun k => k ≤ defs.length) (fun k => defs.length - k) 0 (Nat.zero_le _) ?_
            (conv => whnf)
            refine ⟨?_, fun k hk => ?_⟩
            · (repeat' (first | exact trivial | exact Wk.refl _ | exact ObWk.refl _ | exact rfl | exact ⟨_, rfl⟩ | exact Nat.zero_lt_one | refine And.intro ?_ ?_ | unfold okTo | (unfold okO; conv => whnf) | (unfold okS; conv => whnf) | (unfold SlotOk; conv => whnf) | (unfold ObjOk; conv => whnf) | (unfold okCells; conv => whnf) | (unfold liveTo; conv => whnf) | exact Nat.zero_lt_succ _))
            · (conv => whnf)
              refine split_intro (fun h1 => ?_) (fun h1 => ?_)
              · have hlt : k < defs.length := by have := of_decide_eq_true h1; simp at this; omega
                obtain ⟨s, hs⟩ := exI hlt
                have hst := any_step (p := p) hs
                (conv => whnf)
                refine split_intro (fun h2 => ?_) (fun h2 => ?_)
                · rw [h2, Bool.true_or] at hst
                  (conv => whnf)
                  refine ⟨_, add64 (c := ((k + 1 : Nat) : Int)) (by (try simp only []); omega) (by omega), ?_⟩
                  (conv => whnf)
                  refine ⟨k + 1, ⟨by omega, by simp only []; omega⟩, ?_⟩
                  dsimp only
                  rw [hst]
                  (repeat' (first | exact trivial | exact Wk.refl _ | exact ObWk.refl _ | exact rfl | exact ⟨_, rfl⟩ | exact Nat.zero_lt_one | refine And.intro ?_ ?_ | unfold okTo | (unfold okO; conv => whnf) | (unfold okS; conv => whnf) | (unfold SlotOk; conv => whnf) | (unfold ObjOk; conv => whnf) | (unfold okCells; conv => whnf) | (unfold liveTo; conv => whnf) | exact Nat.zero_lt_succ _))
                · rw [h2, Bool.false_or] at hst
                  (conv => whnf)
                  refine ⟨_, ⟨by omega, getMap hs⟩, ?_⟩
                  (conv => whnf)
                  refine CallLeaf.w (by (repeat' (first | exact ArgsTo.nil | refine ArgsTo.cons ?_ ?_ | exact ArgTo.mk' rfl (Wk.refl _) | exact ArgTo.mk' rfl Wk.nilm | exact ArgTo.mk' rfl (Wk.int (by simp)) | exact ArgTo.mk' rfl (Wk.list _ _) | exact ArgTo.mk' rfl (Wk.agg (by (repeat' (first | exact Wks.nil | refine Wks.cons ?_ ?_ | exact Wk.refl _ | exact Wk.nilm | exact Wk.list _ _  | exact Wk.natN rfl | refine Wk.agg ?_))))))) (has_ W s) rfl ?_
                  (conv => whnf)
                  refine ⟨_, add64 (c := ((k + 1 : Nat) : Int)) (by (try simp only []); omega) (by omega), ?_⟩
                  (conv => whnf)
                  refine ⟨k + 1, ⟨by omega, by simp only []; omega⟩, ?_⟩
                  dsimp only
                  rw [hst, ← hB s]
                  (repeat' (first | exact trivial | exact Wk.refl _ | exact ObWk.refl _ | exact rfl | exact ⟨_, rfl⟩ | exact Nat.zero_lt_one | refine And.intro ?_ ?_ | unfold okTo | (unfold okO; conv => whnf) | (unfold okS; conv => whnf) | (unfold SlotOk; conv => whnf) | (unfold ObjOk; conv => whnf) | (unfold okCells; conv => whnf) | (unfold liveTo; conv => whnf) | exact Nat.zero_lt_succ _))
              · have hge1 : defs.length ≤ k := by have := of_decide_eq_false h1; simp at this; omega
                rw [← List.take_of_length_le hge1] at hany
                (conv => whnf)
                refine split_intro (fun _ => ?_) (fun h => absurd h (by simp))
                (conv => whnf)
                refine split_intro (fun _ => ?_) (fun h => absurd h (by simp))
                (conv => whnf)
                refine Wk.bool ?_
                rw [hany]
                simp
end Go.Proofs.YtdlcaoobaejlpaaDoor

/- WantedLoadable: for every input the law returns true and leaves its arguments as they were. No condition but the given statement's own. -/
set_option linter.unusedVariables false
set_option linter.unusedSimpArgs false
namespace Go.Proofs.YtdlcaoobaejlpaaDoor
open Go Go.AL
open Go.ChangeShapes Go.WideShapes Go.ChangeAt Go.RowKit
set_option maxRecDepth 100000 in
theorem wantedLoadable_lifted (os : Os) (started : os.Started) (H : Type) (enc : TypeId × Value → H) :
    ReturnsInHanded {} Tryd.checked os 8 .any (fun w args => (Rows.wantedLoadableSpec.pre enc Tryd.prog Tryd.f8 [] false w args ∧ laidMetH Tryd.prog laidL w) ∧ sizedMet enc Tryd.prog Tryd.f8 (OpenSpec.ofChange Rows.wantedLoadableSpec) false w args)
      (Rows.wantedLoadableSpec.post enc Tryd.prog Tryd.f8 false true false false) := by
  refine returnsInHanded_of_change_and (C := Tryd.checked) (X := fun w _ => laidMetH Tryd.prog laidL w) (fun _ _ _ hh h => h.of_heap hh) own started (by kernel_rfl) Tryd.func8
    (ChangeSpec.witness_shaped (enc := enc) (C := Tryd.checked) (os := os) (X := fun w _ => laidMetH Tryd.prog laidL w) false (World.doorLaid Tryd.prog doorSteps os) #[.slice none 0 0, .slice none 0 0] 8 rfl (World.shaped_of_RefB (by kernel_rfl) (by kernel_rfl)) (by kernel_rfl) (by kernel_rfl) (by kernel_rfl) (door_met os _)) ?_
  intro W base args ds gs before hval hW _ hsz hL _
  exact law_contract (P := Tryd.prog) (G := Gl) (n := 8) laidOut (ts := [22, 45]) (by rw [Tryd.params8]) (by kernel_rfl)
    (fun t ht => by
      have : [22, 45].all (fun t => Tryd.prog.readableRec t && decide (t < Tryd.prog.types.size)) = true := by kernel_rfl
      have := List.all_eq_true.1 this t ht
      simpa using this) rfl rfl Tryd.underlying4
    (fun ds hd => by
      match ds, hd with
      | [d0, d1], _ => rfl)
    (fun xs ha => by
      cases ha with
      | cons h0 ha =>
        cases ha with
        | cons h1 ha =>
          cases ha
          obtain ⟨v0, c0, e0⟩ := arg_LO h0
          obtain ⟨v1, c1, e1⟩ := arg_LS h1
          rw [e0, e1]
          exact wLoadable_ v0 v1) hval hW hsz (globOk hL)

theorem wantedLoadable_row : Rows.WantedLoadableSaid :=
  OpenClaim.holds_of_wide 8 Tryd.f8 rfl rfl rfl rfl rfl rfl rfl ⟨rfl, rfl, rfl, rfl, rfl⟩ rfl rfl rfl rfl rfl (by kernel_rfl) Tryd.func8 (by kernel_rfl)
    (of_decide_eq_true (by kernel_rfl)) (by unfold Func.isWrapper; first | (rw [if_pos (by decide +kernel)]; kernel_rfl) | (rw [if_neg (by decide +kernel)]; exact ⟨rfl, rfl⟩))
    (fun os started H enc _ => wantedLoadable_lifted os started H enc)

theorem wantedLoadable_holds : Rows.WantedLoadableCardSaid :=
  Claim7.holds_tied_plain_at .later [] [.data] true (true, "034a03f84f236c40f9ea70330cfa542203856bf18f59b8879aaf8906f2ac695d") true
    wantedLoadable_row (fun _ h => by cases h) (by kernel_rfl) (fun _ h => by cases h) wantedLoadable_row_tie rfl ⟨rfl, rfl⟩ (by kernel_rfl) rfl
    (fun f fn hf hfn => by
      obtain rfl : f = 8 := Option.some.inj ((show Tryd.prog.funcNamed "arlink/arlinklaw15.WantedLoadable" = some 8 by kernel_rfl).symm.trans hf) |>.symm
      obtain rfl : fn = Tryd.f8 := (Option.some.inj (Tryd.func8.symm.trans hfn)).symm
      exact ⟨by kernel_rfl, fun j t ht => by
        have hm : t ∈ [22, 45] := by
          have := Array.mem_of_getElem? ht
          rw [Tryd.params8] at this
          simpa using this
        have : [22, 45].all (fun t => !Tryd.prog.wantsStandIn t) = true := by kernel_rfl
        have := List.all_eq_true.1 this t hm
        exact (show Tryd.prog.wantsStandIn t = false by simpa using this)⟩)
    (by kernel_rfl)
#print axioms wantedLoadable_holds
end Go.Proofs.YtdlcaoobaejlpaaDoor
