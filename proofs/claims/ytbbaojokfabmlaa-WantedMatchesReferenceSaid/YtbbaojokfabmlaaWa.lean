/- The walks through the heap of names. No condition. -/
import Derived.Test.YtbbaojokfabmlaaAmB
import Derived.Test.YtbbaojokfabmlaaProg
import Derived.KernelRfl
import Derived.Test.YtbbaojokfabmlaaWt
set_option linter.unusedVariables false
set_option linter.unusedSimpArgs false
namespace Go.Proofs.Ytbbaojokfabmlaa
open Go Go.AL
theorem hT : TOk Try.prog (tabOf Try.prog) := tabOf_ok _
theorem hmix : Try.prog.follows .mixedOrders = true := by kernel_rfl
def Gl : Glob := fun _ => []
set_option maxRecDepth 100000
abbrev sLt (a b : Str) : Bool := Op.bytesLess a b
theorem less_ (xs : List Str) (g n i k : Nat) (a b : Str) (hn : n ≤ xs.length) (hi : i < n) (hk : k < n) (ha : xs[i]? = some a) (hb : xs[k]? = some b) :
    FCall Try.prog Gl 38 [.sl 0 g 0 n, vI i, vI k] [.arr g 1 (xs.map eS)] (vB (sLt a b)) [.arr g 1 (xs.map eS)] := by
  refine FCall.enterO hT hmix [] Try.func38 rfl rfl rfl fun hbd => ?_
  (conv => whnf)
  refine ⟨⟨rfl, rfl, by omega, by omega, by simpa using hn⟩, ?_⟩
  (conv => whnf)
  refine ⟨eS a, ⟨rfl, rfl, by simp [ha]⟩, ?_⟩
  (conv => whnf)
  refine ⟨⟨rfl, rfl, by omega, by omega, by simpa using hn⟩, ?_⟩
  (conv => whnf)
  refine ⟨eS b, ⟨rfl, rfl, by simp [hb]⟩, ?_⟩
  (conv => whnf)
  refine ⟨[0], rfl, by (try unfold pullOk); (repeat' (first | exact trivial | exact ObWk.refl _ | refine And.intro ?_ ?_ | unfold pullOk)), ?_⟩
  exact Wk.refl _
def swapL (xs : List Str) (i k : Nat) (a b : Str) : List Str := (xs.set i b).set k a
theorem len_ (xs : List Str) (g n : Nat) : FCall Try.prog Gl 37 [.sl 0 g 0 n] [.arr g 1 (xs.map eS)] (vI n) [.arr g 1 (xs.map eS)] := by
  refine FCall.enterO hT hmix [] Try.func37 rfl rfl rfl fun hbd => ?_
  (conv => whnf)
  refine ⟨[0], rfl, by (try unfold pullOk); (repeat' (first | exact trivial | exact ObWk.refl _ | refine And.intro ?_ ?_ | unfold pullOk)), ?_⟩
  exact Wk.refl _
theorem swap_ (xs : List Str) (g n i k : Nat) (a b : Str) (hn : n ≤ xs.length) (hi : i < n) (hk : k < n) (ha : xs[i]? = some a) (hb : xs[k]? = some b) :
    FCall Try.prog Gl 39 [.sl 0 g 0 n, vI i, vI k] [.arr g 1 (xs.map eS)] (.tuple []) [.arr g 1 ((swapL xs i k a b).map eS)] := by
  refine FCall.enterO hT hmix [] Try.func39 rfl rfl rfl fun hbd => ?_
  (conv => whnf)
  refine ⟨⟨rfl, rfl, by omega, by omega, by simpa using hn⟩, ?_⟩
  (conv => whnf)
  refine ⟨eS b, ⟨rfl, rfl, by simp [hb]⟩, ?_⟩
  (conv => whnf)
  refine ⟨⟨rfl, rfl, by omega, by omega, by simpa using hn⟩, ?_⟩
  (conv => whnf)
  refine ⟨eS a, ⟨rfl, rfl, by simp [ha]⟩, ?_⟩
  (conv => whnf)
  refine ⟨⟨rfl, rfl, by omega, by omega, by simpa using hn⟩, ?_⟩
  (conv => whnf)
  refine ⟨eS a, (xs.set i b).map eS, ⟨rfl, rfl, by simp [ha]⟩, ⟨Nat.le_refl 1, by simp [setCells, toCells]⟩, ?_⟩
  (conv => whnf)
  refine ⟨⟨rfl, rfl, by omega, by omega, by simpa using hn⟩, ?_⟩
  (conv => whnf)
  obtain ⟨c, hc⟩ := exI (l := xs.set i b) (k := k) (by simp; omega)
  refine ⟨eS c, (swapL xs i k a b).map eS, ⟨rfl, rfl, by simp only [Nat.zero_add, Int.toNat_natCast]; exact getMap hc⟩, ⟨Nat.le_refl 1, by simp [setCells, toCells, swapL]⟩, ?_⟩
  (conv => whnf)
  refine ⟨[0], rfl, by (try unfold pullOk); (repeat' (first | exact trivial | exact ObWk.refl _ | refine And.intro ?_ ?_ | unfold pullOk)), ?_⟩
  exact Wk.refl _
/-- a list of names, and what lies beside it -/
abbrev Hp (g n : Nat) (xs : List Str) (es : Ents) : List AObj := [.cells [.sl 1 g 0 n, .map 2], .arr g 1 (xs.map eS), .map es]
theorem push_ (xs : List Str) (g n : Nat) (s : Str) (es : Ents) (hn : n ≤ xs.length) (hb : n ≤ 100000000) :
    FCall Try.prog Gl 41 [.ptr 0 0, .iface 9 (sD s)] (Hp g n xs es) (.tuple []) (Hp (g + 1) (n + 1) (xs.take n ++ [s]) es) := by
  refine FCall.enterO hT hmix [] Try.func41 rfl rfl rfl fun hbd => ?_
  (conv => whnf)
  refine ⟨(xs.take n ++ [s]).map eS, ⟨rfl, rfl, by simpa using hn, by simp, fun c hc => by simp at hc; subst hc; rfl, by show (n + 1) * 16 ≤ _; omega⟩, ?_⟩
  (conv => whnf)
  refine ⟨[0, 1, 2], rfl, by (try unfold pullOk); (repeat' (first | exact trivial | exact ObWk.refl _ | refine And.intro ?_ ?_ | unfold pullOk)), ?_⟩
  exact Wk.refl _
theorem pop_ (xs : List Str) (g n : Nat) (s : Str) (es : Ents) (hn : n + 1 ≤ xs.length) (hb : n ≤ 100000000) (hs : xs[n]? = some s) :
    FCall Try.prog Gl 40 [.ptr 0 0] (Hp g (n + 1) xs es) (.iface 9 (sD s)) (Hp g n xs es) := by
  refine FCall.enterO hT hmix [] Try.func40 rfl rfl rfl fun hbd => ?_
  (conv => whnf)
  refine ⟨(n : Int), sub64 (by omega) (by omega), ?_⟩
  (conv => whnf)
  refine ⟨⟨rfl, rfl, by omega, by omega, by simpa using hn⟩, ?_⟩
  (conv => whnf)
  refine ⟨eS s, ⟨rfl, rfl, by simp [hs]⟩, ?_⟩
  (conv => whnf)
  refine ⟨⟨rfl, rfl, by simpa using hn, by omega, by omega, by omega⟩, ?_⟩
  (conv => whnf)
  refine ⟨[0, 1, 2], rfl, by (try unfold pullOk); (repeat' (first | exact trivial | exact ObWk.refl _ | refine And.intro ?_ ?_ | unfold pullOk)), ?_⟩
  exact Wk.refl _
end Go.Proofs.Ytbbaojokfabmlaa

/- The walks through container/heap over the heap of names. No condition. -/
set_option linter.unusedVariables false
set_option linter.unusedSimpArgs false
namespace Go.Proofs.Ytbbaojokfabmlaa
open Go Go.AL
set_option maxRecDepth 100000
abbrev hq : D := .iface 58 (.ptr 0 0)
theorem at_some {xs : List Str} {i : Nat} (h : i < xs.length) : xs[i]? = some (Wt.at' xs i) := by
  simp [Wt.at', List.getD, h]
theorem quo_par (k : Nat) (hk : k ≤ 100000000) : intBin .quo .i64 ((k : Int) - 1) 2 = some (Wt.par k : Int) := by
  have : ((k : Int) - 1).tdiv 2 = (Wt.par k : Int) := by
    unfold Wt.par
    rcases Nat.eq_zero_or_pos k with h | h
    · subst h; rfl
    · rw [Int.tdiv_eq_ediv_of_nonneg (by omega)]; omega
  show (if (2 : Int) = 0 then none else some (IntKind.i64.wrap (((k : Int) - 1).tdiv 2))) = _
  have hb : (Wt.par k : Int) ≤ 9223372036854775807 := by unfold Wt.par; omega
  rw [if_neg (by decide), this, IntWalk.i64_in _ ⟨by omega, hb⟩]
theorem less' (xs : List Str) (g n i k : Nat) (hn : n ≤ xs.length) (hi : i < n) (hk : k < n) :
    FCall Try.prog Gl 38 [.sl 0 g 0 n, vI i, vI k] [.arr g 1 (xs.map eS)] (vB (Wt.lt (Wt.at' xs i) (Wt.at' xs k))) [.arr g 1 (xs.map eS)] :=
  less_ xs g n i k _ _ hn hi hk (at_some (by omega)) (at_some (by omega))
theorem swap' (xs : List Str) (g n i k : Nat) (hn : n ≤ xs.length) (hi : i < n) (hk : k < n) :
    FCall Try.prog Gl 39 [.sl 0 g 0 n, vI i, vI k] [.arr g 1 (xs.map eS)] (.tuple []) [.arr g 1 ((Wt.swp xs i k).map eS)] :=
  swap_ xs g n i k _ _ hn hi hk (at_some (by omega)) (at_some (by omega))
theorem up_ (xs : List Str) (g n j : Nat) (es : Ents) (hn : n ≤ xs.length) (hj : j < n) (hb : n ≤ 100000000) :
    FCall Try.prog Gl 20 [hq, vI j] (Hp g n xs es) (.tuple []) (Hp g n (Wt.up xs j) es) := by
  refine FCall.enterO hT hmix [] Try.func20 rfl rfl rfl fun hbd => ?_
  refine LWp.loop hT hmix [] (fun x : List Str × Nat => [(1, vI x.2)]) (fun x => [(1, .arr g 1 (x.1.map eS))]) (fun x => Wt.up x.1 x.2 = Wt.up xs j ∧ n ≤ x.1.length ∧ x.2 < n) (fun x => x.2) (xs, j) ⟨rfl, hn, hj⟩ ?_
  (conv => whnf)
  refine ⟨?_, fun ⟨ys, k⟩ ⟨h1, h2, h3⟩ => ?_⟩
  · (repeat' (first | exact trivial | exact Wk.refl _ | exact ObWk.refl _ | exact rfl | exact ⟨_, rfl⟩ | exact Nat.zero_lt_one | refine And.intro ?_ ?_ | unfold okTo | (unfold okO; conv => whnf) | (unfold okS; conv => whnf) | (unfold SlotOk; conv => whnf) | (unfold ObjOk; conv => whnf) | (unfold okCells; conv => whnf) | (unfold liveTo; conv => whnf)))
  · have h3' : k ≤ 100000000 := by simp at h3; omega
    (conv => whnf)
    refine ⟨(k : Int) - 1, sub64 rfl (by omega), ?_⟩
    (conv => whnf)
    refine ⟨(Wt.par k : Int), quo_par k h3', ?_⟩
    (conv => whnf)
    refine split_intro (fun h => ?_) (fun h => ?_)
    · have hk0 : k = 0 := by
        have : Wt.par k = k := Int.ofNat_inj.1 (eq_of_beq h)
        unfold Wt.par at this; omega
      have e : ys = Wt.up xs j := by
        rw [← h1]; subst hk0; rw [Wt.up]; rfl
      subst e
      (conv => whnf)
      refine ⟨[0, 1, 2], rfl, by (try unfold pullOk); (repeat' (first | exact trivial | exact ObWk.refl _ | refine And.intro ?_ ?_ | unfold pullOk)), ?_⟩
      exact Wk.refl _
    · have hk0 : 0 < k := by
        rcases Nat.eq_zero_or_pos k with h' | h'
        · subst h'; simp [Wt.par] at h
        · exact h'
      have hpk := Wt.par_lt hk0
      have hless := less' ys g n k (Wt.par k) h2 h3 (Nat.lt_trans hpk h3)
      have hswap := swap' ys g n (Wt.par k) k h2 (Nat.lt_trans hpk h3) h3
      (conv => whnf)
      refine ⟨38, false, by kernel_rfl, ?_⟩
      (conv => whnf)
      refine CallLeaf.o [1] (by (repeat' (first | exact ArgsTo.nil | refine ArgsTo.cons ?_ ?_ | exact ArgTo.mk' rfl (Wk.refl _) | exact ArgTo.mk' rfl Wk.nilm | exact ArgTo.mk' rfl (Wk.list _ _) | exact ArgTo.mk' rfl (Wk.agg (by (repeat' (first | exact Wks.nil | refine Wks.cons ?_ ?_ | exact Wk.refl _ | exact Wk.nilm | exact Wk.list _ _  | exact Wk.natN rfl | refine Wk.agg ?_))))))) (hless) rfl rfl (by (repeat' (first | exact trivial | exact rfl | refine And.intro ?_ ?_))) (by (repeat' (first | exact trivial | exact rfl | refine And.intro ?_ ?_))) (by (repeat' (first | exact trivial | exact rfl | refine And.intro ?_ ?_))) rfl rfl ?_
      (conv => whnf)
      refine split_intro (fun hl => ?_) (fun hl => ?_)
      · have e : ys = Wt.up xs j := by
          rw [← h1, Wt.up, dif_pos hk0, if_neg (by simpa using hl)]
        subst e
        (conv => whnf)
        refine ⟨[0, 1, 2], rfl, by (try unfold pullOk); (repeat' (first | exact trivial | exact ObWk.refl _ | refine And.intro ?_ ?_ | unfold pullOk)), ?_⟩
        exact Wk.refl _
      · (conv => whnf)
        refine ⟨39, false, by kernel_rfl, ?_⟩
        (conv => whnf)
        refine CallLeaf.o [1] (by (repeat' (first | exact ArgsTo.nil | refine ArgsTo.cons ?_ ?_ | exact ArgTo.mk' rfl (Wk.refl _) | exact ArgTo.mk' rfl Wk.nilm | exact ArgTo.mk' rfl (Wk.list _ _) | exact ArgTo.mk' rfl (Wk.agg (by (repeat' (first | exact Wks.nil | refine Wks.cons ?_ ?_ | exact Wk.refl _ | exact Wk.nilm | exact Wk.list _ _  | exact Wk.natN rfl | refine Wk.agg ?_))))))) (hswap) rfl rfl (by (repeat' (first | exact trivial | exact rfl | refine And.intro ?_ ?_))) (by (repeat' (first | exact trivial | exact rfl | refine And.intro ?_ ?_))) (by (repeat' (first | exact trivial | exact rfl | refine And.intro ?_ ?_))) rfl rfl ?_
        (conv => whnf)
        refine ⟨(Wt.swp ys (Wt.par k) k, Wt.par k), ⟨⟨?_, ?_, ?_⟩, ?_⟩, ?_⟩
        · rw [← h1]
          conv => rhs; rw [Wt.up, dif_pos hk0, if_pos (by simpa using hl)]
        · show n ≤ (Wt.swp ys (Wt.par k) k).length
          rw [Wt.swp_len]; exact h2
        · exact Nat.lt_trans hpk h3
        · exact hpk
        · (repeat' (first | exact trivial | exact Wk.refl _ | exact ObWk.refl _ | exact rfl | exact ⟨_, rfl⟩ | exact Nat.zero_lt_one | refine And.intro ?_ ?_ | unfold okTo | (unfold okO; conv => whnf) | (unfold okS; conv => whnf) | (unfold SlotOk; conv => whnf) | (unfold ObjOk; conv => whnf) | (unfold okCells; conv => whnf) | (unfold liveTo; conv => whnf)))
theorem mul64 {a b c : Int} (h : a * b = c) (hb : -9223372036854775808 ≤ c ∧ c ≤ 9223372036854775807) : intBin .mul .i64 a b = some c := by
  subst h; simp only [intBin]; rw [IntWalk.i64_in _ hb]
theorem down_ (xs : List Str) (g n m i : Nat) (es : Ents) (hn : n ≤ xs.length) (hm : m ≤ n) (hi : i ≤ m) (hb : n ≤ 100000000) :
    FCall Try.prog Gl 19 [hq, vI i, vI m] (Hp g n xs es) .junk (Hp g n (Wt.down m xs i) es) := by
  refine FCall.enterO hT hmix [] Try.func19 rfl rfl rfl fun hbd => ?_
  (conv => whnf)
  refine LWp.loop hT hmix [] (fun x : List Str × Nat => [(7, vI x.2)]) (fun x => [(1, .arr g 1 (x.1.map eS))]) (fun x => Wt.down m x.1 x.2 = Wt.down m xs i ∧ n ≤ x.1.length ∧ x.2 ≤ m) (fun x => m - x.2) (xs, i) ⟨rfl, hn, hi⟩ ?_
  (conv => whnf)
  refine ⟨?_, fun ⟨ys, k⟩ ⟨h1, h2, h3⟩ => ?_⟩
  · (repeat' (first | exact trivial | exact Wk.refl _ | exact ObWk.refl _ | exact rfl | exact ⟨_, rfl⟩ | exact Nat.zero_lt_one | refine And.intro ?_ ?_ | unfold okTo | (unfold okO; conv => whnf) | (unfold okS; conv => whnf) | (unfold SlotOk; conv => whnf) | (unfold ObjOk; conv => whnf) | (unfold okCells; conv => whnf) | (unfold liveTo; conv => whnf)))
  · replace h1 : Wt.down m ys k = Wt.down m xs i := h1
    replace h2 : n ≤ ys.length := h2
    replace h3 : k ≤ m := h3
    (conv => whnf)
    refine ⟨((2 * k : Nat) : Int), mul64 (by show 2 * (k : Int) = _; omega) (by omega), ?_⟩
    (conv => whnf)
    refine ⟨((2 * k + 1 : Nat) : Int), add64 (by omega) (by omega), ?_⟩
    (conv => whnf)
    refine split_intro (fun h => ?_) (fun h => ?_)
    · have e : ys = Wt.down m xs i := by
        have : ¬ 2 * k + 1 < m := by have := of_decide_eq_true h; omega
        rw [← h1, Wt.down, dif_neg this]
      subst e
      (conv => whnf)
      refine ⟨[0, 1, 2], rfl, by (try unfold pullOk); (repeat' (first | exact trivial | exact ObWk.refl _ | refine And.intro ?_ ?_ | unfold pullOk)), ?_⟩
      exact Wk.junk _
    · have hlt : 2 * k + 1 < m := by have := of_decide_eq_false h; omega
      (conv => whnf)
      refine ⟨((2 * k + 2 : Nat) : Int), add64 (by omega) (by omega), ?_⟩
      have hkl := Wt.kid_lt (xs := ys) hlt
      have hkg := Wt.kid_gt m ys k
      have l1 := fun h : 2 * k + 2 < m => less' ys g n (2 * k + 2) (2 * k + 1) h2 (by omega) (by omega)
      have l2 := less' ys g n (Wt.kid m ys k) k h2 (by omega) (by omega)
      have hsw := swap' ys g n k (Wt.kid m ys k) h2 (by omega) (by omega)
      have fin : ∀ h : Wt.lt (Wt.at' ys (Wt.kid m ys k)) (Wt.at' ys k) = false, ys = Wt.down m xs i := by
        intro h
        rw [← h1, Wt.down, dif_pos hlt, if_neg (by rw [h]; decide)]
      have stp : ∀ h : Wt.lt (Wt.at' ys (Wt.kid m ys k)) (Wt.at' ys k) = true, Wt.down m (Wt.swp ys k (Wt.kid m ys k)) (Wt.kid m ys k) = Wt.down m xs i := by
        intro h
        rw [← h1]
        conv => rhs; rw [Wt.down, dif_pos hlt, if_pos h]
      have kd : ∀ j, Wt.kid m ys k = j → (Wt.kid m ys k = j) := fun _ h => h
      generalize hkk : Wt.kid m ys k = c at hkl hkg l2 hsw fin stp kd
      (conv => whnf)
      refine split_intro (fun ha => ?_) (fun ha => ?_)
      · have ha' : 2 * k + 2 < m := by have := of_decide_eq_true ha; omega
        have l1' := l1 ha'
        (conv => whnf)
        refine ⟨38, false, by kernel_rfl, ?_⟩
        (conv => whnf)
        refine CallLeaf.o [1] (by (repeat' (first | exact ArgsTo.nil | refine ArgsTo.cons ?_ ?_ | exact ArgTo.mk' rfl (Wk.refl _) | exact ArgTo.mk' rfl Wk.nilm | exact ArgTo.mk' rfl (Wk.list _ _) | exact ArgTo.mk' rfl (Wk.agg (by (repeat' (first | exact Wks.nil | refine Wks.cons ?_ ?_ | exact Wk.refl _ | exact Wk.nilm | exact Wk.list _ _  | exact Wk.natN rfl | refine Wk.agg ?_))))))) (l1') rfl rfl (by (repeat' (first | exact trivial | exact rfl | refine And.intro ?_ ?_))) (by (repeat' (first | exact trivial | exact rfl | refine And.intro ?_ ?_))) (by (repeat' (first | exact trivial | exact rfl | refine And.intro ?_ ?_))) rfl rfl ?_
        (conv => whnf)
        refine split_intro (fun hc => ?_) (fun hc => ?_)
        · have : 2 * k + 2 = c := by rw [← hkk, Wt.kid, if_pos (by rw [hc, Bool.and_true]; exact decide_eq_true ha')]
          (subst this; ((conv => whnf)); (refine ⟨38, false, by kernel_rfl, ?_⟩); ((conv => whnf)); (refine CallLeaf.o [1] (by (repeat' (first | exact ArgsTo.nil | refine ArgsTo.cons ?_ ?_ | exact ArgTo.mk' rfl (Wk.refl _) | exact ArgTo.mk' rfl Wk.nilm | exact ArgTo.mk' rfl (Wk.list _ _) | exact ArgTo.mk' rfl (Wk.agg (by (repeat' (first | exact Wks.nil | refine Wks.cons ?_ ?_ | exact Wk.refl _ | exact Wk.nilm | exact Wk.list _ _  | exact Wk.natN rfl | refine Wk.agg ?_))))))) (l2) rfl rfl (by (repeat' (first | exact trivial | exact rfl | refine And.intro ?_ ?_))) (by (repeat' (first | exact trivial | exact rfl | refine And.intro ?_ ?_))) (by (repeat' (first | exact trivial | exact rfl | refine And.intro ?_ ?_))) rfl rfl ?_); ((conv => whnf)); (refine split_intro (fun hl => ?_) (fun hl => ?_)); (have e := fin (by simpa using hl); subst e; ((conv => whnf)); (refine ⟨[0, 1, 2], rfl, by (try unfold pullOk); (repeat' (first | exact trivial | exact ObWk.refl _ | refine And.intro ?_ ?_ | unfold pullOk)), ?_⟩); exact Wk.junk _); (((conv => whnf)); (refine ⟨39, false, by kernel_rfl, ?_⟩); ((conv => whnf)); (refine CallLeaf.o [1] (by (repeat' (first | exact ArgsTo.nil | refine ArgsTo.cons ?_ ?_ | exact ArgTo.mk' rfl (Wk.refl _) | exact ArgTo.mk' rfl Wk.nilm | exact ArgTo.mk' rfl (Wk.list _ _) | exact ArgTo.mk' rfl (Wk.agg (by (repeat' (first | exact Wks.nil | refine Wks.cons ?_ ?_ | exact Wk.refl _ | exact Wk.nilm | exact Wk.list _ _  | exact Wk.natN rfl | refine Wk.agg ?_))))))) (hsw) rfl rfl (by (repeat' (first | exact trivial | exact rfl | refine And.intro ?_ ?_))) (by (repeat' (first | exact trivial | exact rfl | refine And.intro ?_ ?_))) (by (repeat' (first | exact trivial | exact rfl | refine And.intro ?_ ?_))) rfl rfl ?_); ((conv => whnf)); (refine ⟨(_, _), ⟨⟨stp (by simpa using hl), (by show n ≤ (Wt.swp _ _ _).length; rw [Wt.swp_len]; exact h2), Nat.le_of_lt hkl⟩, (by show m - _ < m - k; omega)⟩, ?_⟩); (repeat' (first | exact trivial | exact Wk.refl _ | exact ObWk.refl _ | exact rfl | exact ⟨_, rfl⟩ | exact Nat.zero_lt_one | refine And.intro ?_ ?_ | unfold okTo | (unfold okO; conv => whnf) | (unfold okS; conv => whnf) | (unfold SlotOk; conv => whnf) | (unfold ObjOk; conv => whnf) | (unfold okCells; conv => whnf) | (unfold liveTo; conv => whnf)))))
        · have : 2 * k + 1 = c := by rw [← hkk, Wt.kid, if_neg (by rw [hc, Bool.and_false]; decide)]
          (subst this; ((conv => whnf)); (refine ⟨38, false, by kernel_rfl, ?_⟩); ((conv => whnf)); (refine CallLeaf.o [1] (by (repeat' (first | exact ArgsTo.nil | refine ArgsTo.cons ?_ ?_ | exact ArgTo.mk' rfl (Wk.refl _) | exact ArgTo.mk' rfl Wk.nilm | exact ArgTo.mk' rfl (Wk.list _ _) | exact ArgTo.mk' rfl (Wk.agg (by (repeat' (first | exact Wks.nil | refine Wks.cons ?_ ?_ | exact Wk.refl _ | exact Wk.nilm | exact Wk.list _ _  | exact Wk.natN rfl | refine Wk.agg ?_))))))) (l2) rfl rfl (by (repeat' (first | exact trivial | exact rfl | refine And.intro ?_ ?_))) (by (repeat' (first | exact trivial | exact rfl | refine And.intro ?_ ?_))) (by (repeat' (first | exact trivial | exact rfl | refine And.intro ?_ ?_))) rfl rfl ?_); ((conv => whnf)); (refine split_intro (fun hl => ?_) (fun hl => ?_)); (have e := fin (by simpa using hl); subst e; ((conv => whnf)); (refine ⟨[0, 1, 2], rfl, by (try unfold pullOk); (repeat' (first | exact trivial | exact ObWk.refl _ | refine And.intro ?_ ?_ | unfold pullOk)), ?_⟩); exact Wk.junk _); (((conv => whnf)); (refine ⟨39, false, by kernel_rfl, ?_⟩); ((conv => whnf)); (refine CallLeaf.o [1] (by (repeat' (first | exact ArgsTo.nil | refine ArgsTo.cons ?_ ?_ | exact ArgTo.mk' rfl (Wk.refl _) | exact ArgTo.mk' rfl Wk.nilm | exact ArgTo.mk' rfl (Wk.list _ _) | exact ArgTo.mk' rfl (Wk.agg (by (repeat' (first | exact Wks.nil | refine Wks.cons ?_ ?_ | exact Wk.refl _ | exact Wk.nilm | exact Wk.list _ _  | exact Wk.natN rfl | refine Wk.agg ?_))))))) (hsw) rfl rfl (by (repeat' (first | exact trivial | exact rfl | refine And.intro ?_ ?_))) (by (repeat' (first | exact trivial | exact rfl | refine And.intro ?_ ?_))) (by (repeat' (first | exact trivial | exact rfl | refine And.intro ?_ ?_))) rfl rfl ?_); ((conv => whnf)); (refine ⟨(_, _), ⟨⟨stp (by simpa using hl), (by show n ≤ (Wt.swp _ _ _).length; rw [Wt.swp_len]; exact h2), Nat.le_of_lt hkl⟩, (by show m - _ < m - k; omega)⟩, ?_⟩); (repeat' (first | exact trivial | exact Wk.refl _ | exact ObWk.refl _ | exact rfl | exact ⟨_, rfl⟩ | exact Nat.zero_lt_one | refine And.intro ?_ ?_ | unfold okTo | (unfold okO; conv => whnf) | (unfold okS; conv => whnf) | (unfold SlotOk; conv => whnf) | (unfold ObjOk; conv => whnf) | (unfold okCells; conv => whnf) | (unfold liveTo; conv => whnf)))))
      · have : 2 * k + 1 = c := by
          have ha' : ¬ 2 * k + 2 < m := by have := of_decide_eq_false ha; omega
          rw [← hkk, Wt.kid, if_neg (by rw [decide_eq_false ha', Bool.false_and]; decide)]
        (conv => whnf)
        (subst this; ((conv => whnf)); (refine ⟨38, false, by kernel_rfl, ?_⟩); ((conv => whnf)); (refine CallLeaf.o [1] (by (repeat' (first | exact ArgsTo.nil | refine ArgsTo.cons ?_ ?_ | exact ArgTo.mk' rfl (Wk.refl _) | exact ArgTo.mk' rfl Wk.nilm | exact ArgTo.mk' rfl (Wk.list _ _) | exact ArgTo.mk' rfl (Wk.agg (by (repeat' (first | exact Wks.nil | refine Wks.cons ?_ ?_ | exact Wk.refl _ | exact Wk.nilm | exact Wk.list _ _  | exact Wk.natN rfl | refine Wk.agg ?_))))))) (l2) rfl rfl (by (repeat' (first | exact trivial | exact rfl | refine And.intro ?_ ?_))) (by (repeat' (first | exact trivial | exact rfl | refine And.intro ?_ ?_))) (by (repeat' (first | exact trivial | exact rfl | refine And.intro ?_ ?_))) rfl rfl ?_); ((conv => whnf)); (refine split_intro (fun hl => ?_) (fun hl => ?_)); (have e := fin (by simpa using hl); subst e; ((conv => whnf)); (refine ⟨[0, 1, 2], rfl, by (try unfold pullOk); (repeat' (first | exact trivial | exact ObWk.refl _ | refine And.intro ?_ ?_ | unfold pullOk)), ?_⟩); exact Wk.junk _); (((conv => whnf)); (refine ⟨39, false, by kernel_rfl, ?_⟩); ((conv => whnf)); (refine CallLeaf.o [1] (by (repeat' (first | exact ArgsTo.nil | refine ArgsTo.cons ?_ ?_ | exact ArgTo.mk' rfl (Wk.refl _) | exact ArgTo.mk' rfl Wk.nilm | exact ArgTo.mk' rfl (Wk.list _ _) | exact ArgTo.mk' rfl (Wk.agg (by (repeat' (first | exact Wks.nil | refine Wks.cons ?_ ?_ | exact Wk.refl _ | exact Wk.nilm | exact Wk.list _ _  | exact Wk.natN rfl | refine Wk.agg ?_))))))) (hsw) rfl rfl (by (repeat' (first | exact trivial | exact rfl | refine And.intro ?_ ?_))) (by (repeat' (first | exact trivial | exact rfl | refine And.intro ?_ ?_))) (by (repeat' (first | exact trivial | exact rfl | refine And.intro ?_ ?_))) rfl rfl ?_); ((conv => whnf)); (refine ⟨(_, _), ⟨⟨stp (by simpa using hl), (by show n ≤ (Wt.swp _ _ _).length; rw [Wt.swp_len]; exact h2), Nat.le_of_lt hkl⟩, (by show m - _ < m - k; omega)⟩, ?_⟩); (repeat' (first | exact trivial | exact Wk.refl _ | exact ObWk.refl _ | exact rfl | exact ⟨_, rfl⟩ | exact Nat.zero_lt_one | refine And.intro ?_ ?_ | unfold okTo | (unfold okO; conv => whnf) | (unfold okS; conv => whnf) | (unfold SlotOk; conv => whnf) | (unfold ObjOk; conv => whnf) | (unfold okCells; conv => whnf) | (unfold liveTo; conv => whnf)))))
end Go.Proofs.Ytbbaojokfabmlaa

/- heap.Push and heap.Pop over the heap of names. No condition. -/
set_option linter.unusedVariables false
set_option linter.unusedSimpArgs false
namespace Go.Proofs.Ytbbaojokfabmlaa
open Go Go.AL
set_option maxRecDepth 100000
theorem pushH_ (xs : List Str) (g n : Nat) (s : Str) (es : Ents) (hn : n ≤ xs.length) (hb : n ≤ 10000000) :
    FCall Try.prog Gl 17 [hq, .iface 9 (sD s)] (Hp g n xs es) (.tuple []) (Hp (g + 1) (n + 1) (Wt.up (xs.take n ++ [s]) n) es) := by
  have hp := push_ xs g n s es hn (by omega)
  have hl := len_ (xs.take n ++ [s]) (g + 1) (n + 1)
  have hu := up_ (xs.take n ++ [s]) (g + 1) (n + 1) n es (by simp; omega) (by omega) (by omega)
  refine FCall.enterO hT hmix [] Try.func17 rfl rfl rfl fun hbd => ?_
  (conv => whnf)
  refine ⟨41, true, by kernel_rfl, ?_⟩
  (conv => whnf)
  refine CallLeaf.o [0, 1, 2] (by (repeat' (first | exact ArgsTo.nil | refine ArgsTo.cons ?_ ?_ | exact ArgTo.mk' rfl (Wk.refl _) | exact ArgTo.mk' rfl Wk.nilm | exact ArgTo.mk' rfl (Wk.list _ _) | exact ArgTo.mk' rfl (Wk.agg (by (repeat' (first | exact Wks.nil | refine Wks.cons ?_ ?_ | exact Wk.refl _ | exact Wk.nilm | exact Wk.list _ _  | exact Wk.natN rfl | refine Wk.agg ?_))))))) (hp) rfl rfl (by (repeat' (first | exact trivial | exact rfl | refine And.intro ?_ ?_))) (by (repeat' (first | exact trivial | exact rfl | refine And.intro ?_ ?_))) (by (repeat' (first | exact trivial | exact rfl | refine And.intro ?_ ?_))) rfl rfl ?_
  (conv => whnf)
  refine ⟨37, false, by kernel_rfl, ?_⟩
  (conv => whnf)
  refine CallLeaf.o [1] (by (repeat' (first | exact ArgsTo.nil | refine ArgsTo.cons ?_ ?_ | exact ArgTo.mk' rfl (Wk.refl _) | exact ArgTo.mk' rfl Wk.nilm | exact ArgTo.mk' rfl (Wk.list _ _) | exact ArgTo.mk' rfl (Wk.agg (by (repeat' (first | exact Wks.nil | refine Wks.cons ?_ ?_ | exact Wk.refl _ | exact Wk.nilm | exact Wk.list _ _  | exact Wk.natN rfl | refine Wk.agg ?_))))))) (hl) rfl rfl (by (repeat' (first | exact trivial | exact rfl | refine And.intro ?_ ?_))) (by (repeat' (first | exact trivial | exact rfl | refine And.intro ?_ ?_))) (by (repeat' (first | exact trivial | exact rfl | refine And.intro ?_ ?_))) rfl rfl ?_
  (conv => whnf)
  refine ⟨(n : Int), sub64 (by omega) (by omega), ?_⟩
  (conv => whnf)
  refine CallLeaf.o [0, 1, 2] (by (repeat' (first | exact ArgsTo.nil | refine ArgsTo.cons ?_ ?_ | exact ArgTo.mk' rfl (Wk.refl _) | exact ArgTo.mk' rfl Wk.nilm | exact ArgTo.mk' rfl (Wk.list _ _) | exact ArgTo.mk' rfl (Wk.agg (by (repeat' (first | exact Wks.nil | refine Wks.cons ?_ ?_ | exact Wk.refl _ | exact Wk.nilm | exact Wk.list _ _  | exact Wk.natN rfl | refine Wk.agg ?_))))))) (hu) rfl rfl (by (repeat' (first | exact trivial | exact rfl | refine And.intro ?_ ?_))) (by (repeat' (first | exact trivial | exact rfl | refine And.intro ?_ ?_))) (by (repeat' (first | exact trivial | exact rfl | refine And.intro ?_ ?_))) rfl rfl ?_
  (conv => whnf)
  refine ⟨[0, 1, 2], rfl, by (try unfold pullOk); (repeat' (first | exact trivial | exact ObWk.refl _ | refine And.intro ?_ ?_ | unfold pullOk)), ?_⟩
  exact Wk.refl _
theorem popH_ (xs : List Str) (g n : Nat) (es : Ents) (hn : n + 1 ≤ xs.length) (hb : n ≤ 10000000) :
    FCall Try.prog Gl 15 [hq] (Hp g (n + 1) xs es) (.iface 9 (sD (Wt.at' (Wt.popH n xs) n))) (Hp g n (Wt.popH n xs) es) := by
  have h1 : n + 1 ≤ (Wt.swp xs 0 n).length := by rw [Wt.swp_len]; exact hn
  have h2 : n + 1 ≤ (Wt.popH n xs).length := by rw [Wt.popH, Wt.down_len _ _ _ rfl]; exact h1
  have hl := len_ xs g (n + 1)
  have hs := swap' xs g (n + 1) 0 n hn (by omega) (by omega)
  have hd := down_ (Wt.swp xs 0 n) g (n + 1) n 0 es h1 (by omega) (by omega) (by omega)
  have hp := pop_ (Wt.popH n xs) g n _ es h2 (by omega) (at_some (by omega))
  refine FCall.enterO hT hmix [] Try.func15 rfl rfl rfl fun hbd => ?_
  (conv => whnf)
  refine ⟨37, false, by kernel_rfl, ?_⟩
  (conv => whnf)
  refine CallLeaf.o [1] (by (repeat' (first | exact ArgsTo.nil | refine ArgsTo.cons ?_ ?_ | exact ArgTo.mk' rfl (Wk.refl _) | exact ArgTo.mk' rfl Wk.nilm | exact ArgTo.mk' rfl (Wk.list _ _) | exact ArgTo.mk' rfl (Wk.agg (by (repeat' (first | exact Wks.nil | refine Wks.cons ?_ ?_ | exact Wk.refl _ | exact Wk.nilm | exact Wk.list _ _  | exact Wk.natN rfl | refine Wk.agg ?_))))))) (hl) rfl rfl (by (repeat' (first | exact trivial | exact rfl | refine And.intro ?_ ?_))) (by (repeat' (first | exact trivial | exact rfl | refine And.intro ?_ ?_))) (by (repeat' (first | exact trivial | exact rfl | refine And.intro ?_ ?_))) rfl rfl ?_
  (conv => whnf)
  refine ⟨(n : Int), sub64 (by omega) (by omega), ?_⟩
  (conv => whnf)
  refine ⟨39, false, by kernel_rfl, ?_⟩
  (conv => whnf)
  refine CallLeaf.o [1] (by (repeat' (first | exact ArgsTo.nil | refine ArgsTo.cons ?_ ?_ | exact ArgTo.mk' rfl (Wk.refl _) | exact ArgTo.mk' rfl Wk.nilm | exact ArgTo.mk' rfl (Wk.list _ _) | exact ArgTo.mk' rfl (Wk.agg (by (repeat' (first | exact Wks.nil | refine Wks.cons ?_ ?_ | exact Wk.refl _ | exact Wk.nilm | exact Wk.list _ _  | exact Wk.natN rfl | refine Wk.agg ?_))))))) (hs) rfl rfl (by (repeat' (first | exact trivial | exact rfl | refine And.intro ?_ ?_))) (by (repeat' (first | exact trivial | exact rfl | refine And.intro ?_ ?_))) (by (repeat' (first | exact trivial | exact rfl | refine And.intro ?_ ?_))) rfl rfl ?_
  (conv => whnf)
  refine CallLeaf.o [0, 1, 2] (by (repeat' (first | exact ArgsTo.nil | refine ArgsTo.cons ?_ ?_ | exact ArgTo.mk' rfl (Wk.refl _) | exact ArgTo.mk' rfl Wk.nilm | exact ArgTo.mk' rfl (Wk.list _ _) | exact ArgTo.mk' rfl (Wk.agg (by (repeat' (first | exact Wks.nil | refine Wks.cons ?_ ?_ | exact Wk.refl _ | exact Wk.nilm | exact Wk.list _ _  | exact Wk.natN rfl | refine Wk.agg ?_))))))) (hd) rfl rfl (by (repeat' (first | exact trivial | exact rfl | refine And.intro ?_ ?_))) (by (repeat' (first | exact trivial | exact rfl | refine And.intro ?_ ?_))) (by (repeat' (first | exact trivial | exact rfl | refine And.intro ?_ ?_))) rfl rfl ?_
  (conv => whnf)
  refine ⟨40, true, by kernel_rfl, ?_⟩
  (conv => whnf)
  refine CallLeaf.o [0, 1, 2] (by (repeat' (first | exact ArgsTo.nil | refine ArgsTo.cons ?_ ?_ | exact ArgTo.mk' rfl (Wk.refl _) | exact ArgTo.mk' rfl Wk.nilm | exact ArgTo.mk' rfl (Wk.list _ _) | exact ArgTo.mk' rfl (Wk.agg (by (repeat' (first | exact Wks.nil | refine Wks.cons ?_ ?_ | exact Wk.refl _ | exact Wk.nilm | exact Wk.list _ _  | exact Wk.natN rfl | refine Wk.agg ?_))))))) (hp) rfl rfl (by (repeat' (first | exact trivial | exact rfl | refine And.intro ?_ ?_))) (by (repeat' (first | exact trivial | exact rfl | refine And.intro ?_ ?_))) (by (repeat' (first | exact trivial | exact rfl | refine And.intro ?_ ?_))) rfl rfl ?_
  (conv => whnf)
  refine ⟨[0, 1, 2], rfl, by (try unfold pullOk); (repeat' (first | exact trivial | exact ObWk.refl _ | refine And.intro ?_ ?_ | unfold pullOk)), ?_⟩
  exact Wk.refl _
end Go.Proofs.Ytbbaojokfabmlaa

/- The reference's worklist. No condition. -/
set_option linter.unusedVariables false
set_option linter.unusedSimpArgs false
namespace Go.Proofs.Ytbbaojokfabmlaa
open Go Go.AL
set_option maxRecDepth 100000
theorem has_ (l : List Str) (s : Str) : FCall Try.prog Gl 14 [LS l, sD s] [] (vB (decide (s ∈ l))) [] := by
  refine FCall.enterL hT hmix [] Try.func14 rfl rfl rfl fun hbd => ?_
  have ha := bds_list hbd (.head _)
  (conv => whnf)
  refine LWp.loop hT hmix [] (fun k : Nat => [(5, vI k)]) (fun _ => []) (fun k => k ≤ l.length ∧ s ∉ l.take k) (fun k => l.length - k) 0 ⟨Nat.zero_le _, by simp⟩ ?_
  (conv => whnf)
  refine ⟨?_, fun k ⟨hk, hkk⟩ => ?_⟩
  · (repeat' (first | exact trivial | exact Wk.refl _ | exact ObWk.refl _ | exact rfl | exact ⟨_, rfl⟩ | exact Nat.zero_lt_one | refine And.intro ?_ ?_ | unfold okTo | (unfold okO; conv => whnf) | (unfold okS; conv => whnf) | (unfold SlotOk; conv => whnf) | (unfold ObjOk; conv => whnf) | (unfold okCells; conv => whnf) | (unfold liveTo; conv => whnf)))
  · (conv => whnf)
    refine split_intro (fun h => ?_) (fun h => ?_)
    · have hlt : k < l.length := by simpa using h
      obtain ⟨x, hx⟩ := exI hlt
      (conv => whnf)
      refine ⟨_, ⟨by omega, getMap hx⟩, ?_⟩
      (conv => whnf)
      refine split_intro (fun hxy => ?_) (fun hxy => ?_)
      · have e : x = s := of_decide_eq_true hxy
        (conv => whnf)
        exact Wk.bool (by subst e; simp [List.mem_of_getElem? hx])
      · have e : ¬ x = s := of_decide_eq_false hxy
        (conv => whnf)
        refine ⟨_, add64 (c := ((k + 1 : Nat) : Int)) (by omega) (by omega), ?_⟩
        (conv => whnf)
        refine ⟨k + 1, ⟨⟨by omega, ?_⟩, by simp only []; omega⟩, ?_⟩
        · rw [List.take_add_one, hx]; simp [hkk]; exact fun e' => e (Eq.symm e')
        · (repeat' (first | exact trivial | exact Wk.refl _ | exact ObWk.refl _ | exact rfl | exact ⟨_, rfl⟩ | exact Nat.zero_lt_one | refine And.intro ?_ ?_ | unfold okTo | (unfold okO; conv => whnf) | (unfold okS; conv => whnf) | (unfold SlotOk; conv => whnf) | (unfold ObjOk; conv => whnf) | (unfold okCells; conv => whnf) | (unfold liveTo; conv => whnf)))
    · (conv => whnf)
      exact Wk.bool (by
        have hge : l.length ≤ k := by simpa using h
        rw [List.take_of_length_le hge] at hkk
        simp [hkk])
def putP (l : List Str) (s : Str) (k : Nat) (out : List Str) (done : Bool) : Prop :=
  (if done then out ++ l.drop k else out ++ Wt.put (l.drop k) s) = Wt.put l s
theorem put_len : ∀ (l : List Str) (s : Str), (Wt.put l s).length ≤ l.length + 1
  | [], s => by simp [Wt.put]
  | x :: r, s => by
    have := put_len r s
    simp only [Wt.put]
    split
    · simp; omega
    · split <;> simp
theorem put_ (l : List Str) (s : Str) (hb : l.length ≤ 100000) : FCall Try.prog Gl 18 [LS l, sD s] [] (LSn (Wt.put l s)) [] := by
  refine FCall.enterL hT hmix [] Try.func18 rfl rfl rfl fun hbd => ?_
  (conv => whnf)
  refine LWp.loop hT hmix [] (fun x : Nat × List Str × Bool => [(7, vI x.1), (6, vB x.2.2), (5, .list (.tok 900001) (x.2.1.map eS))]) (fun x => [(900001, .tok (x.2.1.map eS).length 1)]) (fun x => x.1 ≤ l.length ∧ putP l s x.1 x.2.1 x.2.2) (fun x => l.length - x.1) (0, [], false) ⟨Nat.zero_le _, by simp [putP]⟩ ?_
  (conv => whnf)
  refine ⟨?_, fun ⟨k, out, done⟩ ⟨hk, hkk⟩ => ?_⟩
  · (repeat' (first | exact trivial | exact Wk.refl _ | exact ObWk.refl _ | exact rfl | exact ⟨_, rfl⟩ | exact Nat.zero_lt_one | refine And.intro ?_ ?_ | unfold okTo | (unfold okO; conv => whnf) | (unfold okS; conv => whnf) | (unfold SlotOk; conv => whnf) | (unfold ObjOk; conv => whnf) | (unfold okCells; conv => whnf) | (unfold liveTo; conv => whnf)))
  · replace hk : k ≤ l.length := hk
    replace hkk : putP l s k out done := hkk
    have hlen : out.length ≤ l.length + 1 := by
      have h1 := put_len l s
      unfold putP at hkk
      rw [← hkk] at h1
      split at h1 <;> simp at h1 <;> omega
    (conv => whnf)
    refine split_intro (fun h => ?_) (fun h => ?_)
    · have hlt : k < l.length := by simpa using h
      obtain ⟨x, hx⟩ := exI hlt
      have hd : l.drop k = x :: l.drop (k + 1) := by
        rw [List.drop_eq_getElem_cons hlt]
        rw [List.getElem?_eq_getElem hlt] at hx
        injection hx with hx; rw [hx]
      unfold putP at hkk
      cases done with
      | true =>
        simp only [if_true] at hkk
        (conv => whnf)
        refine ⟨_, ⟨by omega, getMap hx⟩, ?_⟩
        (conv => whnf)
        refine ⟨_, appL (f := eS) (xs := out) (ys := [x]) (zs := out ++ [x]) rfl rfl (fun _ => rfl) rfl (by rw [List.length_append]; show (_ + 1) * 16 ≤ _; (try rw [List.length_append]); (try simp only [List.length_singleton]); omega), ?_⟩
        (conv => whnf)
        refine ⟨_, add64 (c := ((k + 1 : Nat) : Int)) (by omega) (by omega), ?_⟩
        (conv => whnf)
        refine ⟨(k + 1, out ++ [x], true), ⟨⟨by show k + 1 ≤ _; omega, ?_⟩, by show l.length - (k + 1) < l.length - k; omega⟩, ?_⟩
        · show putP l s (k + 1) (out ++ [x]) true
          unfold putP; rw [← hkk, hd]; simp [putP]
        · (repeat' (first | exact trivial | exact Wk.refl _ | exact ObWk.refl _ | exact rfl | exact ⟨_, rfl⟩ | exact Nat.zero_lt_one | refine And.intro ?_ ?_ | unfold okTo | (unfold okO; conv => whnf) | (unfold okS; conv => whnf) | (unfold SlotOk; conv => whnf) | (unfold ObjOk; conv => whnf) | (unfold okCells; conv => whnf) | (unfold liveTo; conv => whnf)))
      | false =>
        simp only [Bool.false_eq_true, if_false] at hkk
        (conv => whnf)
        refine ⟨_, ⟨by omega, getMap hx⟩, ?_⟩
        (conv => whnf)
        refine split_intro (fun h1 => ?_) (fun h1 => ?_)
        · have h1' : Wt.lt x s = false := by simpa [Wt.lt] using h1
          (conv => whnf)
          refine ⟨_, ⟨by omega, getMap hx⟩, ?_⟩
          (conv => whnf)
          refine split_intro (fun h2 => ?_) (fun h2 => ?_)
          · have h2' : ¬ x = s := by simpa using h2
            (conv => whnf)
            refine ⟨_, appL (f := eS) (xs := out) (ys := [s]) (zs := out ++ [s]) rfl rfl (fun _ => rfl) rfl (by rw [List.length_append]; show (_ + 1) * 16 ≤ _; (try rw [List.length_append]); (try simp only [List.length_singleton]); omega), ?_⟩
            (conv => whnf)
            refine ⟨_, ⟨by omega, getMap hx⟩, ?_⟩
            (conv => whnf)
            refine ⟨_, appL (f := eS) (xs := out ++ [s]) (ys := [x]) (zs := out ++ [s] ++ [x]) rfl rfl (fun _ => rfl) rfl (by rw [List.length_append]; show (_ + 1) * 16 ≤ _; (try rw [List.length_append]); (try simp only [List.length_singleton]); omega), ?_⟩
            (conv => whnf)
            refine ⟨_, add64 (c := ((k + 1 : Nat) : Int)) (by omega) (by omega), ?_⟩
            (conv => whnf)
            refine ⟨(k + 1, out ++ [s] ++ [x], true), ⟨⟨by show k + 1 ≤ _; omega, ?_⟩, by show l.length - (k + 1) < l.length - k; omega⟩, ?_⟩
            · show putP l s (k + 1) (out ++ [s] ++ [x]) true
              unfold putP; rw [← hkk, hd]; simp [putP, Wt.put, h1', h2']
            · (repeat' (first | exact trivial | exact Wk.refl _ | exact ObWk.refl _ | exact rfl | exact ⟨_, rfl⟩ | exact Nat.zero_lt_one | refine And.intro ?_ ?_ | unfold okTo | (unfold okO; conv => whnf) | (unfold okS; conv => whnf) | (unfold SlotOk; conv => whnf) | (unfold ObjOk; conv => whnf) | (unfold okCells; conv => whnf) | (unfold liveTo; conv => whnf)))
          · have h2' : x = s := by simpa using h2
            (conv => whnf)
            refine ⟨_, ⟨by omega, getMap hx⟩, ?_⟩
            (conv => whnf)
            refine ⟨_, appL (f := eS) (xs := out) (ys := [x]) (zs := out ++ [x]) rfl rfl (fun _ => rfl) rfl (by rw [List.length_append]; show (_ + 1) * 16 ≤ _; (try rw [List.length_append]); (try simp only [List.length_singleton]); omega), ?_⟩
            (conv => whnf)
            refine ⟨_, add64 (c := ((k + 1 : Nat) : Int)) (by omega) (by omega), ?_⟩
            (conv => whnf)
            refine ⟨(k + 1, out ++ [x], true), ⟨⟨by show k + 1 ≤ _; omega, ?_⟩, by show l.length - (k + 1) < l.length - k; omega⟩, ?_⟩
            · show putP l s (k + 1) (out ++ [x]) true
              unfold putP; rw [← hkk, hd]; simp [putP, Wt.put, h1', h2', Wt.lt_irr]
            · (repeat' (first | exact trivial | exact Wk.refl _ | exact ObWk.refl _ | exact rfl | exact ⟨_, rfl⟩ | exact Nat.zero_lt_one | refine And.intro ?_ ?_ | unfold okTo | (unfold okO; conv => whnf) | (unfold okS; conv => whnf) | (unfold SlotOk; conv => whnf) | (unfold ObjOk; conv => whnf) | (unfold okCells; conv => whnf) | (unfold liveTo; conv => whnf)))
        · have h1' : Wt.lt x s = true := by simpa [Wt.lt] using h1
          (conv => whnf)
          refine ⟨_, ⟨by omega, getMap hx⟩, ?_⟩
          (conv => whnf)
          refine ⟨_, appL (f := eS) (xs := out) (ys := [x]) (zs := out ++ [x]) rfl rfl (fun _ => rfl) rfl (by rw [List.length_append]; show (_ + 1) * 16 ≤ _; (try rw [List.length_append]); (try simp only [List.length_singleton]); omega), ?_⟩
          (conv => whnf)
          refine ⟨_, add64 (c := ((k + 1 : Nat) : Int)) (by omega) (by omega), ?_⟩
          (conv => whnf)
          refine ⟨(k + 1, out ++ [x], false), ⟨⟨by show k + 1 ≤ _; omega, ?_⟩, by show l.length - (k + 1) < l.length - k; omega⟩, ?_⟩
          · show putP l s (k + 1) (out ++ [x]) false
            unfold putP; rw [← hkk, hd]; simp [putP, Wt.put, h1']
          · (repeat' (first | exact trivial | exact Wk.refl _ | exact ObWk.refl _ | exact rfl | exact ⟨_, rfl⟩ | exact Nat.zero_lt_one | refine And.intro ?_ ?_ | unfold okTo | (unfold okO; conv => whnf) | (unfold okS; conv => whnf) | (unfold SlotOk; conv => whnf) | (unfold ObjOk; conv => whnf) | (unfold okCells; conv => whnf) | (unfold liveTo; conv => whnf)))
    · have hge : l.length ≤ k := by simpa using h
      unfold putP at hkk
      rw [List.drop_of_length_le hge] at hkk
      cases done with
      | true =>
        simp only [if_true, List.append_nil] at hkk
        subst hkk
        (conv => whnf)
        exact Wk.nat' rfl
      | false =>
        simp only [Bool.false_eq_true, if_false, Wt.put] at hkk
        (conv => whnf)
        refine ⟨_, appL (f := eS) (xs := out) (ys := [s]) (zs := out ++ [s]) rfl rfl (fun _ => rfl) rfl (by rw [List.length_append]; show (_ + 1) * 16 ≤ _; (try rw [List.length_append]); (try simp only [List.length_singleton]); omega), ?_⟩
        (conv => whnf)
        exact Wk.nat' (by rw [hkk])
abbrev rD (r : Wt.Rs) : D := .agg [LS r.1, LS r.2]
theorem rtake_ (w : Str) (ws seen : List Str) : FCall Try.prog Gl 9 [rD (w :: ws, seen)] [] (.tuple [rD (ws, seen), sD w, vB true]) [] := by
  refine FCall.enterL hT hmix [] Try.func9 rfl rfl rfl fun hbd => ?_
  (conv => whnf)
  refine ⟨_, slL (f := eS) (l := w :: ws) (r := ws) (s := 1) (by decide) (by simp; omega) (by simp) (fun _ => rfl) (by simp), ?_⟩
  (conv => whnf)
  refine ⟨_, ⟨by decide, rfl⟩, ?_⟩
  (conv => whnf)
  exact Wk.refl _
theorem rtake0_ (seen : List Str) : FCall Try.prog Gl 9 [rD ([], seen)] [] (.tuple [rD ([], seen), sD [], vB false]) [] := by
  refine FCall.enterL hT hmix [] Try.func9 rfl rfl rfl fun hbd => ?_
  (conv => whnf)
  exact Wk.refl _
theorem radd1_len (r : Wt.Rs) (s : Str) : (r.add1 s).1.length ≤ r.1.length + 1 ∧ (r.add1 s).2.length ≤ r.2.length + 1 ∧ r.2.length ≤ (r.add1 s).2.length := by
  have := put_len r.1 s
  unfold Wt.Rs.add1
  split <;> simp <;> omega
theorem radd_len : ∀ (r : Wt.Rs) (l : List Str), (r.addL l).1.length ≤ r.1.length + l.length ∧ (r.addL l).2.length ≤ r.2.length + l.length ∧ r.2.length ≤ (r.addL l).2.length
  | r, [] => by simp [Wt.Rs.addL]
  | r, s :: l => by
    have h1 := radd1_len r s
    have h2 := radd_len (r.add1 s) l
    simp only [Wt.Rs.addL, List.foldl_cons, List.length_cons] at *
    omega
theorem radd_ (r : Wt.Rs) (l : List Str) (hb : r.1.length + r.2.length + l.length ≤ 50000) : FCall Try.prog Gl 11 [rD r, LS l] [] (.tuple [rD (r.addL l), vI (((r.addL l).2.length - r.2.length : Nat) : Int)]) [] := by
  refine FCall.enterL hT hmix [] Try.func11 rfl rfl rfl fun hbd => ?_
  (conv => whnf)
  refine LWp.loop hT hmix [] (fun k : Nat => [(7, vI k), (6, vI (((r.addL (l.take k)).2.length - r.2.length : Nat) : Int))]) (fun k => [(0, .cells [LS (r.addL (l.take k)).1, LS (r.addL (l.take k)).2])]) (fun k => k ≤ l.length) (fun k => l.length - k) 0 (Nat.zero_le _) ?_
  (conv => whnf)
  refine ⟨?_, fun k hk => ?_⟩
  · (repeat' (first | exact trivial | exact Wk.refl _ | exact ObWk.refl _ | exact rfl | exact ⟨_, rfl⟩ | exact Nat.zero_lt_one | refine And.intro ?_ ?_ | unfold okTo | (unfold okO; conv => whnf) | (unfold okS; conv => whnf) | (unfold SlotOk; conv => whnf) | (unfold ObjOk; conv => whnf) | (unfold okCells; conv => whnf) | (unfold liveTo; conv => whnf)))
    exact Wk.int (by simp [Wt.Rs.addL])
  · (conv => whnf)
    refine split_intro (fun h => ?_) (fun h => ?_)
    · have hlt : k < l.length := by simpa using h
      obtain ⟨s, hs⟩ := exI hlt
      have e1 := Wt.Rs.addL_take (h := r) hs
      have b1 := radd_len r (l.take k)
      have b2 := radd_len r (l.take (k + 1))
      have b3 : (l.take k).length ≤ l.length := by simp; omega
      have b4 : (l.take (k + 1)).length ≤ l.length := by simp; omega
      (conv => whnf)
      refine ⟨_, ⟨by omega, getMap hs⟩, ?_⟩
      (conv => whnf)
      refine CallLeaf.w (by (repeat' (first | exact ArgsTo.nil | refine ArgsTo.cons ?_ ?_ | exact ArgTo.mk' rfl (Wk.refl _) | exact ArgTo.mk' rfl Wk.nilm | exact ArgTo.mk' rfl (Wk.list _ _) | exact ArgTo.mk' rfl (Wk.agg (by (repeat' (first | exact Wks.nil | refine Wks.cons ?_ ?_ | exact Wk.refl _ | exact Wk.nilm | exact Wk.list _ _  | exact Wk.natN rfl | refine Wk.agg ?_))))))) (has_ (r.addL (l.take k)).2 s) rfl ?_
      (conv => whnf)
      refine split_intro (fun h1 => ?_) (fun h1 => ?_)
      · have hno : ¬ s ∈ (r.addL (l.take k)).2 := by simpa using h1
        have e2 : (r.addL (l.take k)).add1 s = (Wt.put (r.addL (l.take k)).1 s, (r.addL (l.take k)).2 ++ [s]) := if_neg hno
        rw [e2] at e1
        (conv => whnf)
        refine ⟨_, appL (f := eS) (xs := []) (ys := (r.addL (l.take k)).2) (zs := (r.addL (l.take k)).2) rfl rfl (fun _ => rfl) rfl (by show _ * 16 ≤ _; omega), ?_⟩
        (conv => whnf)
        refine ⟨_, ⟨by omega, getMap hs⟩, ?_⟩
        (conv => whnf)
        refine ⟨_, appL (f := eS) (xs := (r.addL (l.take k)).2) (ys := [s]) (zs := (r.addL (l.take k)).2 ++ [s]) rfl rfl (fun _ => rfl) rfl (by rw [List.length_append]; show (_ + 1) * 16 ≤ _; omega), ?_⟩
        (conv => whnf)
        refine ⟨_, ⟨by omega, getMap hs⟩, ?_⟩
        (conv => whnf)
        refine CallLeaf.w (by (repeat' (first | exact ArgsTo.nil | refine ArgsTo.cons ?_ ?_ | exact ArgTo.mk' rfl (Wk.refl _) | exact ArgTo.mk' rfl Wk.nilm | exact ArgTo.mk' rfl (Wk.list _ _) | exact ArgTo.mk' rfl (Wk.agg (by (repeat' (first | exact Wks.nil | refine Wks.cons ?_ ?_ | exact Wk.refl _ | exact Wk.nilm | exact Wk.list _ _  | exact Wk.natN rfl | refine Wk.agg ?_))))))) (put_ (r.addL (l.take k)).1 s (by omega)) rfl ?_
        (conv => whnf)
        refine ⟨_, add64 (c := (((r.addL (l.take (k + 1))).2.length - r.2.length : Nat) : Int)) (by rw [e1]; simp; omega) (by omega), ?_⟩
        (conv => whnf)
        refine ⟨_, add64 (c := ((k + 1 : Nat) : Int)) (by omega) (by omega), ?_⟩
        (conv => whnf)
        refine ⟨k + 1, ⟨by omega, by simp only []; omega⟩, ?_⟩
        (repeat' (first | exact trivial | exact Wk.refl _ | exact ObWk.refl _ | exact rfl | exact ⟨_, rfl⟩ | exact Nat.zero_lt_one | refine And.intro ?_ ?_ | unfold okTo | (unfold okO; conv => whnf) | (unfold okS; conv => whnf) | (unfold SlotOk; conv => whnf) | (unfold ObjOk; conv => whnf) | (unfold okCells; conv => whnf) | (unfold liveTo; conv => whnf)))
        all_goals exact Wk.list' _ (by rw [e1])
      · have hin : s ∈ (r.addL (l.take k)).2 := by simpa using h1
        have e2 : (r.addL (l.take k)).add1 s = (r.addL (l.take k)) := if_pos hin
        rw [e2] at e1
        (conv => whnf)
        refine ⟨_, add64 (c := ((k + 1 : Nat) : Int)) (by omega) (by omega), ?_⟩
        (conv => whnf)
        refine ⟨k + 1, ⟨by omega, by simp only []; omega⟩, ?_⟩
        simp only [e1]
        (repeat' (first | exact trivial | exact Wk.refl _ | exact ObWk.refl _ | exact rfl | exact ⟨_, rfl⟩ | exact Nat.zero_lt_one | refine And.intro ?_ ?_ | unfold okTo | (unfold okO; conv => whnf) | (unfold okS; conv => whnf) | (unfold SlotOk; conv => whnf) | (unfold ObjOk; conv => whnf) | (unfold okCells; conv => whnf) | (unfold liveTo; conv => whnf)))
    · have hge : l.length ≤ k := by simpa using h
      have e : l.take k = l := List.take_of_length_le hge
      (conv => whnf)
      rw [e]
      exact Wk.refl _
end Go.Proofs.Ytbbaojokfabmlaa

/- The reference's guard: few steps. No condition. -/
set_option linter.unusedVariables false
set_option linter.unusedSimpArgs false
namespace Go.Proofs.Ytbbaojokfabmlaa
open Go Go.AL
set_option maxRecDepth 100000
theorem sB_size (s : Str) : (sB s).size = s.length := by simp [sB, ByteArray.size]


abbrev Step := Bool × List Str
abbrev Step.enc (s : Step) : List D := [vB s.1, LS s.2]
abbrev LSt (l : List Step) : D := .list .any (l.map Step.enc)
def total (l : List Step) : Nat := (l.map fun s => s.2.length).sum
def small (l : List Str) : Bool := (l.take 201).all fun s => decide (s.length ≤ 100)
def few (l : List Step) : Bool := (l.take 61).all (fun s => small s.2) && (decide (l.length ≤ 60) && decide (total (l.take 61) ≤ 200))
theorem total_take {l : List Step} {k : Nat} {s : Step} (h : l[k]? = some s) : total (l.take (k + 1)) = total (l.take k) + s.2.length := by
  simp [total, List.take_add_one, h]
theorem few_ (l : List Step) : FCall Try.prog Gl 7 [LSt l] [] (vB (few l)) [] := by
  refine FCall.enterL hT hmix [] Try.func7 rfl rfl rfl fun hbd => ?_
  have ha := bds_list hbd (.head _)
  have hc : ∀ s ∈ l, s.2.length ≤ 140737488355328 := fun s hs => by
    have h1 := (hbd _ (.head _)).2 (Step.enc s) (List.mem_map.2 ⟨s, hs, rfl⟩) (LS s.2) (by simp)
    have := h1.1
    simpa using this
  (conv => whnf)
  refine LWp.loop hT hmix [] (fun k : Nat => [(4, vI k), (3, vI (total (l.take k) : Nat))]) (fun _ => []) (fun k => k ≤ l.length ∧ k ≤ 61 ∧ (l.take k).all (fun s => small s.2) = true ∧ total (l.take k) ≤ k * 140737488355328) (fun k => l.length - k) 0 ⟨Nat.zero_le _, Nat.zero_le _, rfl, by simp [total]⟩ ?_
  (conv => whnf)
  refine ⟨?_, fun k ⟨hk, hk2, hkk, hkt⟩ => ?_⟩
  · (repeat' (first | exact trivial | exact Wk.refl _ | exact ObWk.refl _ | exact rfl | exact ⟨_, rfl⟩ | exact Nat.zero_lt_one | refine And.intro ?_ ?_ | unfold okTo | (unfold okO; conv => whnf) | (unfold okS; conv => whnf) | (unfold SlotOk; conv => whnf) | (unfold ObjOk; conv => whnf) | (unfold okCells; conv => whnf) | (unfold liveTo; conv => whnf)))
  · (conv => whnf)
    refine split_intro (fun h => ?_) (fun h => ?_)
    · have hlt : k < l.length := by simpa using h
      obtain ⟨s, hs⟩ := exI hlt
      have hcs := hc s (List.mem_of_getElem? hs)
      (conv => whnf)
      refine split_intro (fun h1 => ?_) (fun h1 => ?_)
      · have hk3 : k ≤ 60 := by have := of_decide_eq_true h1; omega
        have e1 := total_take hs
        (conv => whnf)
        refine ⟨_, ⟨by omega, getMap hs⟩, ?_⟩
        (conv => whnf)
        refine ⟨_, add64 (c := ((total (l.take (k + 1)) : Nat) : Int)) (by rw [e1]; simp) (by omega), ?_⟩
        (conv => whnf)
        refine LWp.loop hT hmix [] (fun j : Nat => [(5, vI j)]) (fun _ => []) (fun j => j ≤ s.2.length ∧ j ≤ 201 ∧ (s.2.take j).all (fun s => decide (s.length ≤ 100)) = true) (fun j => s.2.length - j) 0 ⟨Nat.zero_le _, Nat.zero_le _, rfl⟩ ?_
        (conv => whnf)
        refine ⟨?_, fun j ⟨hj, hj2, hjj⟩ => ?_⟩
        · (repeat' (first | exact trivial | exact Wk.refl _ | exact ObWk.refl _ | exact rfl | exact ⟨_, rfl⟩ | exact Nat.zero_lt_one | refine And.intro ?_ ?_ | unfold okTo | (unfold okO; conv => whnf) | (unfold okS; conv => whnf) | (unfold SlotOk; conv => whnf) | (unfold ObjOk; conv => whnf) | (unfold okCells; conv => whnf) | (unfold liveTo; conv => whnf)))
        · (conv => whnf)
          refine ⟨_, ⟨by omega, getMap hs⟩, ?_⟩
          (conv => whnf)
          refine split_intro (fun g1 => ?_) (fun g1 => ?_)
          · have hjl : j < s.2.length := by simpa using g1
            obtain ⟨x, hx⟩ := exI hjl
            (conv => whnf)
            refine split_intro (fun g2 => ?_) (fun g2 => ?_)
            · have hj3 : j ≤ 200 := by have := of_decide_eq_true g2; omega
              (conv => whnf)
              refine ⟨_, ⟨by omega, getMap hs⟩, ?_⟩
              (conv => whnf)
              refine ⟨_, ⟨by omega, getMap hx⟩, ?_⟩
              (conv => whnf)
              refine split_intro (fun g3 => ?_) (fun g3 => ?_)
              · have hx3 : ¬ x.length ≤ 100 := by have := of_decide_eq_true g3; rw [sB_size] at this; omega
                (conv => whnf)
                exact Wk.bool (by
                  symm
                  have : small s.2 = false := by
                    rw [small, List.all_eq_false]
                    exact ⟨x, List.mem_of_getElem? (i := j) (by rw [List.getElem?_take_of_lt (by omega), hx]), by simpa using hx3⟩
                  have : ((l.take 61).all fun s => small s.2) = false := by
                    rw [List.all_eq_false]
                    exact ⟨s, List.mem_of_getElem? (i := k) (by rw [List.getElem?_take_of_lt (by omega), hs]), by simp [this]⟩
                  rw [few, this]; rfl)
              · have hx3 : x.length ≤ 100 := by have := of_decide_eq_false g3; rw [sB_size] at this; omega
                (conv => whnf)
                refine ⟨_, add64 (c := ((j + 1 : Nat) : Int)) (by omega) (by omega), ?_⟩
                (conv => whnf)
                refine ⟨j + 1, ⟨⟨by omega, by omega, ?_⟩, by simp only []; omega⟩, ?_⟩
                · rw [List.take_add_one, hx]; simp only [List.all_append, hjj, Option.toList_some, List.all_cons, List.all_nil, decide_eq_true hx3]; rfl
                · (repeat' (first | exact trivial | exact Wk.refl _ | exact ObWk.refl _ | exact rfl | exact ⟨_, rfl⟩ | exact Nat.zero_lt_one | refine And.intro ?_ ?_ | unfold okTo | (unfold okO; conv => whnf) | (unfold okS; conv => whnf) | (unfold SlotOk; conv => whnf) | (unfold ObjOk; conv => whnf) | (unfold okCells; conv => whnf) | (unfold liveTo; conv => whnf)))
            · have hj3 : j = 201 := by have := of_decide_eq_false g2; omega
              have hsm : small s.2 = true := by subst hj3; exact hjj
              (((conv => whnf)); (refine ⟨_, add64 (c := ((k + 1 : Nat) : Int)) (by omega) (by omega), ?_⟩); ((conv => whnf)); (refine ⟨k + 1, ⟨⟨by omega, by omega, by rw [List.take_add_one, hs]; simp [hkk, hsm], by omega⟩, by simp only []; omega⟩, ?_⟩); (repeat' (first | exact trivial | exact Wk.refl _ | exact ObWk.refl _ | exact rfl | exact ⟨_, rfl⟩ | exact Nat.zero_lt_one | refine And.intro ?_ ?_ | unfold okTo | (unfold okO; conv => whnf) | (unfold okS; conv => whnf) | (unfold SlotOk; conv => whnf) | (unfold ObjOk; conv => whnf) | (unfold okCells; conv => whnf) | (unfold liveTo; conv => whnf))))
          · have hjl : s.2.length ≤ j := by simpa using g1
            have hsm : small s.2 = true := by
              rw [List.take_of_length_le hjl] at hjj
              rw [small, List.all_eq_true]
              exact fun x hx => List.all_eq_true.1 hjj x (List.mem_of_mem_take hx)
            (((conv => whnf)); (refine ⟨_, add64 (c := ((k + 1 : Nat) : Int)) (by omega) (by omega), ?_⟩); ((conv => whnf)); (refine ⟨k + 1, ⟨⟨by omega, by omega, by rw [List.take_add_one, hs]; simp [hkk, hsm], by omega⟩, by simp only []; omega⟩, ?_⟩); (repeat' (first | exact trivial | exact Wk.refl _ | exact ObWk.refl _ | exact rfl | exact ⟨_, rfl⟩ | exact Nat.zero_lt_one | refine And.intro ?_ ?_ | unfold okTo | (unfold okO; conv => whnf) | (unfold okS; conv => whnf) | (unfold SlotOk; conv => whnf) | (unfold ObjOk; conv => whnf) | (unfold okCells; conv => whnf) | (unfold liveTo; conv => whnf))))
      · have hk3 : k = 61 := by have := of_decide_eq_false h1; omega
        have hf : few l = false := by
          rw [few, decide_eq_false (show ¬ l.length ≤ 60 by omega)]; simp
        (conv => whnf)
        refine split_intro (fun g1 => ?_) (fun g1 => ?_)
        · simp at g1; omega
        · (conv => whnf)
          exact Wk.bool hf.symm
    · have hge : l.length ≤ k := by simpa using h
      have e61 : l.take 61 = l := List.take_of_length_le (by omega)
      rw [List.take_of_length_le hge] at hkk hkt
      (conv => whnf)
      refine split_intro (fun g1 => ?_) (fun g1 => ?_)
      · have hl : l.length ≤ 60 := by simp at g1; omega
        (conv => whnf)
        exact Wk.bool (by rw [few, e61, hkk, decide_eq_true hl, List.take_of_length_le hge]; simp; omega)
      · have hl : ¬ l.length ≤ 60 := by simp at g1; omega
        (conv => whnf)
        exact Wk.bool (by rw [few, decide_eq_false hl]; simp)
end Go.Proofs.Ytbbaojokfabmlaa

/- The program's worklist. No condition. -/
set_option linter.unusedVariables false
set_option linter.unusedSimpArgs false
namespace Go.Proofs.Ytbbaojokfabmlaa
open Go Go.AL
set_option maxRecDepth 100000
abbrev Hq (h : Wt.Hs) : List AObj := Hp h.g h.n h.xs h.es
abbrev mN : D := .v (.map none)
abbrev pN : D := .v (.pointer none)
abbrev Hz : List AObj := [.cells [.nil, mN]]
theorem queue_ (h : Wt.Hs) : FCall Try.prog Gl 16 [.ptr 0 0] (Hq h) hq (Hq h) := by
  refine FCall.enterO hT hmix [] Try.func16 rfl rfl rfl fun hbd => ?_
  (conv => whnf)
  refine ⟨[0, 1, 2], rfl, by (try unfold pullOk); (repeat' (first | exact trivial | exact ObWk.refl _ | refine And.intro ?_ ?_ | unfold pullOk)), ?_⟩
  exact Wk.refl _
theorem wlen_ (h : Wt.Hs) : FCall Try.prog Gl 12 [.ptr 0 0] (Hq h) (vI h.n) (Hq h) := by
  refine FCall.enterO hT hmix [] Try.func12 rfl rfl rfl fun hbd => ?_
  (conv => whnf)
  refine ⟨[0, 1, 2], rfl, by (try unfold pullOk); (repeat' (first | exact trivial | exact ObWk.refl _ | refine And.intro ?_ ?_ | unfold pullOk)), ?_⟩
  exact Wk.refl _
theorem wlenZ_ : FCall Try.prog Gl 12 [.ptr 0 0] Hz (vI 0) Hz := by
  refine FCall.enterO hT hmix [] Try.func12 rfl rfl rfl fun hbd => ?_
  (conv => whnf)
  refine ⟨[0], rfl, by (try unfold pullOk); (repeat' (first | exact trivial | exact ObWk.refl _ | refine And.intro ?_ ?_ | unfold pullOk)), ?_⟩
  exact Wk.refl _
theorem wlenN_ : FCall Try.prog Gl 12 [pN] [] (vI 0) [] := by
  refine FCall.enterO hT hmix [] Try.func12 rfl rfl rfl fun hbd => ?_
  (conv => whnf)
  refine ⟨[], rfl, by (try unfold pullOk); (repeat' (first | exact trivial | exact ObWk.refl _ | refine And.intro ?_ ?_ | unfold pullOk)), ?_⟩
  exact Wk.refl _
theorem seen_ (h : Wt.Hs) (r : Wt.Rs) (R : Wt.Rl h r) (s : Str) : FCall Try.prog Gl 13 [.ptr 0 0, sD s] (Hq h) (vB (decide (s ∈ r.2))) (Hq h) := by
  refine FCall.enterO hT hmix [] Try.func13 rfl rfl rfl fun hbd => ?_
  (conv => whnf)
  refine ⟨_, ⟨R.sn.keys, R.sn.look' s⟩, ?_⟩
  (conv => whnf)
  refine ⟨[0, 1, 2], rfl, by (try unfold pullOk); (repeat' (first | exact trivial | exact ObWk.refl _ | refine And.intro ?_ ?_ | unfold pullOk)), ?_⟩
  exact Wk.refl _
theorem seenZ_ (s : Str) : FCall Try.prog Gl 13 [.ptr 0 0, sD s] Hz (vB false) Hz := by
  refine FCall.enterO hT hmix [] Try.func13 rfl rfl rfl fun hbd => ?_
  (conv => whnf)
  refine ⟨[0], rfl, by (try unfold pullOk); (repeat' (first | exact trivial | exact ObWk.refl _ | refine And.intro ?_ ?_ | unfold pullOk)), ?_⟩
  exact Wk.refl _
theorem seenN_ (s : Str) : FCall Try.prog Gl 13 [pN, sD s] [] (vB false) [] := by
  refine FCall.enterO hT hmix [] Try.func13 rfl rfl rfl fun hbd => ?_
  (conv => whnf)
  refine ⟨[], rfl, by (try unfold pullOk); (repeat' (first | exact trivial | exact ObWk.refl _ | refine And.intro ?_ ?_ | unfold pullOk)), ?_⟩
  exact Wk.refl _
theorem takeZ_ : FCall Try.prog Gl 8 [.ptr 0 0] Hz (.tuple [sD [], vB false]) Hz := by
  refine FCall.enterO hT hmix [] Try.func8 rfl rfl rfl fun hbd => ?_
  (conv => whnf)
  refine CallLeaf.o [0] (by (repeat' (first | exact ArgsTo.nil | refine ArgsTo.cons ?_ ?_ | exact ArgTo.mk' rfl (Wk.refl _) | exact ArgTo.mk' rfl Wk.nilm | exact ArgTo.mk' rfl (Wk.list _ _) | exact ArgTo.mk' rfl (Wk.agg (by (repeat' (first | exact Wks.nil | refine Wks.cons ?_ ?_ | exact Wk.refl _ | exact Wk.nilm | exact Wk.list _ _  | exact Wk.natN rfl | refine Wk.agg ?_))))))) (wlenZ_) rfl rfl (by (repeat' (first | exact trivial | exact rfl | refine And.intro ?_ ?_))) (by (repeat' (first | exact trivial | exact rfl | refine And.intro ?_ ?_))) (by (repeat' (first | exact trivial | exact rfl | refine And.intro ?_ ?_))) rfl rfl ?_
  (conv => whnf)
  refine ⟨[0], rfl, by (try unfold pullOk); (repeat' (first | exact trivial | exact ObWk.refl _ | refine And.intro ?_ ?_ | unfold pullOk)), ?_⟩
  exact Wk.refl _
theorem take0_ (h : Wt.Hs) (h0 : h.n = 0) : FCall Try.prog Gl 8 [.ptr 0 0] (Hq h) (.tuple [sD [], vB false]) (Hq h) := by
  refine FCall.enterO hT hmix [] Try.func8 rfl rfl rfl fun hbd => ?_
  have hl := wlen_ h
  (conv => whnf)
  refine CallLeaf.o [0, 1, 2] (by (repeat' (first | exact ArgsTo.nil | refine ArgsTo.cons ?_ ?_ | exact ArgTo.mk' rfl (Wk.refl _) | exact ArgTo.mk' rfl Wk.nilm | exact ArgTo.mk' rfl (Wk.list _ _) | exact ArgTo.mk' rfl (Wk.agg (by (repeat' (first | exact Wks.nil | refine Wks.cons ?_ ?_ | exact Wk.refl _ | exact Wk.nilm | exact Wk.list _ _  | exact Wk.natN rfl | refine Wk.agg ?_))))))) (hl) rfl rfl (by (repeat' (first | exact trivial | exact rfl | refine And.intro ?_ ?_))) (by (repeat' (first | exact trivial | exact rfl | refine And.intro ?_ ?_))) (by (repeat' (first | exact trivial | exact rfl | refine And.intro ?_ ?_))) rfl rfl ?_
  (conv => whnf)
  refine split_intro (fun _ => ?_) (fun h => absurd h (by (rw [h0]; decide)))
  (conv => whnf)
  refine ⟨[0, 1, 2], rfl, by (try unfold pullOk); (repeat' (first | exact trivial | exact ObWk.refl _ | refine And.intro ?_ ?_ | unfold pullOk)), ?_⟩
  exact Wk.refl _
theorem take_ (h : Wt.Hs) (w : Str) (ws seen : List Str) (R : Wt.Rl h (w :: ws, seen)) (hb : h.n ≤ 10000000) :
    FCall Try.prog Gl 8 [.ptr 0 0] (Hq h) (.tuple [sD w, vB true]) (Hq h.pop) := by
  refine FCall.enterO hT hmix [] Try.func8 rfl rfl rfl fun hbd => ?_
  have hl := wlen_ h
  have hq := queue_ h
  obtain ⟨n, hn⟩ : ∃ n, h.n = n + 1 := ⟨h.n - 1, by have := R.wl.size; simp at this; omega⟩
  have hp := popH_ h.xs h.g n h.es (by have := R.wl.len; omega) (by omega)
  have ht := (R.pop).1
  have hpop : h.pop = ⟨h.g, n, Wt.popH n h.xs, h.es⟩ := by simp [Wt.Hs.pop, hn]
  have htop : Wt.at' (Wt.popH n h.xs) n = w := by rw [← ht]; simp [Wt.Hs.top, hn]
  rw [htop, ← hn] at hp
  rw [hpop]
  (conv => whnf)
  refine CallLeaf.o [0, 1, 2] (by (repeat' (first | exact ArgsTo.nil | refine ArgsTo.cons ?_ ?_ | exact ArgTo.mk' rfl (Wk.refl _) | exact ArgTo.mk' rfl Wk.nilm | exact ArgTo.mk' rfl (Wk.list _ _) | exact ArgTo.mk' rfl (Wk.agg (by (repeat' (first | exact Wks.nil | refine Wks.cons ?_ ?_ | exact Wk.refl _ | exact Wk.nilm | exact Wk.list _ _  | exact Wk.natN rfl | refine Wk.agg ?_))))))) (hl) rfl rfl (by (repeat' (first | exact trivial | exact rfl | refine And.intro ?_ ?_))) (by (repeat' (first | exact trivial | exact rfl | refine And.intro ?_ ?_))) (by (repeat' (first | exact trivial | exact rfl | refine And.intro ?_ ?_))) rfl rfl ?_
  (conv => whnf)
  refine split_intro (fun h => absurd h (by (rw [hn]; simp; omega))) (fun _ => ?_)
  (conv => whnf)
  refine CallLeaf.o [0, 1, 2] (by (repeat' (first | exact ArgsTo.nil | refine ArgsTo.cons ?_ ?_ | exact ArgTo.mk' rfl (Wk.refl _) | exact ArgTo.mk' rfl Wk.nilm | exact ArgTo.mk' rfl (Wk.list _ _) | exact ArgTo.mk' rfl (Wk.agg (by (repeat' (first | exact Wks.nil | refine Wks.cons ?_ ?_ | exact Wk.refl _ | exact Wk.nilm | exact Wk.list _ _  | exact Wk.natN rfl | refine Wk.agg ?_))))))) (hq) rfl rfl (by (repeat' (first | exact trivial | exact rfl | refine And.intro ?_ ?_))) (by (repeat' (first | exact trivial | exact rfl | refine And.intro ?_ ?_))) (by (repeat' (first | exact trivial | exact rfl | refine And.intro ?_ ?_))) rfl rfl ?_
  (conv => whnf)
  refine CallLeaf.o [0, 1, 2] (by (repeat' (first | exact ArgsTo.nil | refine ArgsTo.cons ?_ ?_ | exact ArgTo.mk' rfl (Wk.refl _) | exact ArgTo.mk' rfl Wk.nilm | exact ArgTo.mk' rfl (Wk.list _ _) | exact ArgTo.mk' rfl (Wk.agg (by (repeat' (first | exact Wks.nil | refine Wks.cons ?_ ?_ | exact Wk.refl _ | exact Wk.nilm | exact Wk.list _ _  | exact Wk.natN rfl | refine Wk.agg ?_))))))) (hp) rfl rfl (by (repeat' (first | exact trivial | exact rfl | refine And.intro ?_ ?_))) (by (repeat' (first | exact trivial | exact rfl | refine And.intro ?_ ?_))) (by (repeat' (first | exact trivial | exact rfl | refine And.intro ?_ ?_))) rfl rfl ?_
  (conv => whnf)
  refine ⟨[0, 1, 2], rfl, by (try unfold pullOk); (repeat' (first | exact trivial | exact ObWk.refl _ | refine And.intro ?_ ?_ | unfold pullOk)), ?_⟩
  exact Wk.refl _
theorem sn_set {es : Ents} {seen : List Str} (h : Wt.Sn es seen) (s : Str) : strKeys es := h.keys
/-- how a step of the program's list looks -/
theorem add1_new {h : Wt.Hs} {r : Wt.Rs} (R : Wt.Rl h r) {s : Str} (hs : ¬ s ∈ r.2) : h.add1 s = ⟨h.g + 1, h.n + 1, Wt.up (h.xs.take h.n ++ [s]) h.n, mset h.es (.string (sB s)) (vB true)⟩ := by
  unfold Wt.Hs.add1
  rw [R.has, decide_eq_false hs]
theorem add1_old {h : Wt.Hs} {r : Wt.Rs} (R : Wt.Rl h r) {s : Str} (hs : s ∈ r.2) : h.add1 s = h := by
  unfold Wt.Hs.add1
  rw [R.has, decide_eq_true hs]
theorem add_ (h : Wt.Hs) (r : Wt.Rs) (R : Wt.Rl h r) (l : List Str) (hb : h.n + l.length ≤ 100000) :
    FCall Try.prog Gl 10 [.ptr 0 0, LS l] (Hq h) (vI (((h.addL l).n - h.n : Nat) : Int)) (Hq (h.addL l)) := by
  refine FCall.enterO hT hmix [] Try.func10 rfl rfl rfl fun hbd => ?_
  (conv => whnf)
  refine LWp.loop hT hmix [] (fun x : Nat × Wt.Hs => [(21, vI x.1), (5, vI ((x.2.n - h.n : Nat) : Int))]) (fun x => [(0, .cells [.sl 1 x.2.g 0 x.2.n, .map 2]), (1, .arr x.2.g 1 (x.2.xs.map eS)), (2, .map x.2.es)]) (fun x => x.1 ≤ l.length ∧ x.2 = h.addL (l.take x.1)) (fun x => l.length - x.1) (0, h) ⟨Nat.zero_le _, by simp [Wt.Hs.addL]⟩ ?_
  (conv => whnf)
  refine ⟨?_, fun ⟨k, q⟩ ⟨hk, hqq⟩ => ?_⟩
  · (repeat' (first | exact trivial | exact Wk.refl _ | exact ObWk.refl _ | exact rfl | exact ⟨_, rfl⟩ | exact Nat.zero_lt_one | refine And.intro ?_ ?_ | unfold okTo | (unfold okO; conv => whnf) | (unfold okS; conv => whnf) | (unfold SlotOk; conv => whnf) | (unfold ObjOk; conv => whnf) | (unfold okCells; conv => whnf) | (unfold liveTo; conv => whnf)))
    all_goals exact Wk.int (by simp)
  · replace hk : k ≤ l.length := hk
    replace hqq : q = h.addL (l.take k) := hqq
    (conv => whnf)
    refine split_intro (fun hlt' => ?_) (fun hlt' => ?_)
    · have hlt : k < l.length := by simpa using hlt'
      obtain ⟨s, hs⟩ := exI hlt
      have e1 := Wt.Hs.addL_take (h := h) hs
      have Rk := R.addL (l.take k)
      have b1 := Wt.Hs.addL_n (l.take k) h
      have b3 : (l.take k).length ≤ l.length := by simp; omega
      rw [← hqq] at e1 Rk b1
      generalize hrr : r.addL (l.take k) = rq at *
      have hq_ := queue_ q
      (conv => whnf)
      refine ⟨_, ⟨by omega, getMap hs⟩, ?_⟩
      (conv => whnf)
      refine ⟨_, ⟨Rk.sn.keys, Rk.sn.look' s⟩, ?_⟩
      (conv => whnf)
      refine split_intro (fun hin => ?_) (fun hin => ?_)
      · have hno : ¬ s ∈ rq.2 := by simpa using hin
        have e2 := add1_new Rk hno
        have hpu := pushH_ q.xs q.g q.n s (mset q.es (.string (sB s)) (vB true)) Rk.wl.len (by omega)
        have hq2 := queue_ ⟨q.g, q.n, q.xs, mset q.es (.string (sB s)) (vB true)⟩
        (conv => whnf)
        refine ⟨_, ⟨Rk.sn.keys, rfl⟩, ?_⟩
        (conv => whnf)
        refine CallLeaf.o [0, 1, 2] (by (repeat' (first | exact ArgsTo.nil | refine ArgsTo.cons ?_ ?_ | exact ArgTo.mk' rfl (Wk.refl _) | exact ArgTo.mk' rfl Wk.nilm | exact ArgTo.mk' rfl (Wk.list _ _) | exact ArgTo.mk' rfl (Wk.agg (by (repeat' (first | exact Wks.nil | refine Wks.cons ?_ ?_ | exact Wk.refl _ | exact Wk.nilm | exact Wk.list _ _  | exact Wk.natN rfl | refine Wk.agg ?_))))))) (hq2) rfl rfl (by (repeat' (first | exact trivial | exact rfl | refine And.intro ?_ ?_))) (by (repeat' (first | exact trivial | exact rfl | refine And.intro ?_ ?_))) (by (repeat' (first | exact trivial | exact rfl | refine And.intro ?_ ?_))) rfl rfl ?_
        (conv => whnf)
        refine CallLeaf.o [0, 1, 2] (by (repeat' (first | exact ArgsTo.nil | refine ArgsTo.cons ?_ ?_ | exact ArgTo.mk' rfl (Wk.refl _) | exact ArgTo.mk' rfl Wk.nilm | exact ArgTo.mk' rfl (Wk.list _ _) | exact ArgTo.mk' rfl (Wk.agg (by (repeat' (first | exact Wks.nil | refine Wks.cons ?_ ?_ | exact Wk.refl _ | exact Wk.nilm | exact Wk.list _ _  | exact Wk.natN rfl | refine Wk.agg ?_))))))) (hpu) rfl rfl (by (repeat' (first | exact trivial | exact rfl | refine And.intro ?_ ?_))) (by (repeat' (first | exact trivial | exact rfl | refine And.intro ?_ ?_))) (by (repeat' (first | exact trivial | exact rfl | refine And.intro ?_ ?_))) rfl rfl ?_
        (conv => whnf)
        refine ⟨_, add64 (c := ((q.n + 1 - h.n : Nat) : Int)) (by show ((q.n - h.n : Nat) : Int) + 1 = _; omega) (by omega), ?_⟩
        (conv => whnf)
        refine ⟨_, add64 (c := ((k + 1 : Nat) : Int)) (by omega) (by omega), ?_⟩
        (conv => whnf)
        refine ⟨(k + 1, ⟨q.g + 1, q.n + 1, Wt.up (q.xs.take q.n ++ [s]) q.n, mset q.es (.string (sB s)) (vB true)⟩), ⟨⟨by show k + 1 ≤ _; omega, ?_⟩, by show l.length - (k + 1) < l.length - k; omega⟩, ?_⟩
        · show _ = h.addL (l.take (k + 1))
          rw [e1, e2]
        · (repeat' (first | exact trivial | exact Wk.refl _ | exact ObWk.refl _ | exact rfl | exact ⟨_, rfl⟩ | exact Nat.zero_lt_one | refine And.intro ?_ ?_ | unfold okTo | (unfold okO; conv => whnf) | (unfold okS; conv => whnf) | (unfold SlotOk; conv => whnf) | (unfold ObjOk; conv => whnf) | (unfold okCells; conv => whnf) | (unfold liveTo; conv => whnf)))
      · have hi : s ∈ rq.2 := by simpa using hin
        have e2 := add1_old Rk hi
        (conv => whnf)
        refine ⟨_, add64 (c := ((k + 1 : Nat) : Int)) (by omega) (by omega), ?_⟩
        (conv => whnf)
        refine ⟨(k + 1, q), ⟨⟨by show k + 1 ≤ _; omega, ?_⟩, by show l.length - (k + 1) < l.length - k; omega⟩, ?_⟩
        · show _ = h.addL (l.take (k + 1))
          rw [e1, e2]
        · (repeat' (first | exact trivial | exact Wk.refl _ | exact ObWk.refl _ | exact rfl | exact ⟨_, rfl⟩ | exact Nat.zero_lt_one | refine And.intro ?_ ?_ | unfold okTo | (unfold okO; conv => whnf) | (unfold okS; conv => whnf) | (unfold SlotOk; conv => whnf) | (unfold ObjOk; conv => whnf) | (unfold okCells; conv => whnf) | (unfold liveTo; conv => whnf)))
    · have hge : l.length ≤ k := by simpa using hlt'
      rw [List.take_of_length_le hge] at hqq
      subst hqq
      (conv => whnf)
      refine ⟨[0, 1, 2], rfl, by (try unfold pullOk); (repeat' (first | exact trivial | exact ObWk.refl _ | refine And.intro ?_ ?_ | unfold pullOk)), ?_⟩
      exact Wk.refl _
abbrev h0 : Wt.Hs := ⟨0, 0, [], []⟩
theorem addZ_ (l : List Str) (hb : l.length ≤ 100000) :
    FCall Try.prog Gl 10 [.ptr 0 0, LS l] Hz (vI (((h0.addL l).n : Nat) : Int)) (Hq (h0.addL l)) := by
  refine FCall.enterO hT hmix [] Try.func10 rfl rfl rfl fun hbd => ?_
  (conv => whnf)
  refine LWp.loop hT hmix [] (fun x : Nat × Wt.Hs => [(21, vI x.1), (5, vI ((x.2.n - 0 : Nat) : Int))]) (fun x => [(0, .cells [.sl 900001 x.2.g 0 x.2.n, .map 2057]), (900001, .arr x.2.g 1 (x.2.xs.map eS)), (2057, .map x.2.es)]) (fun x => x.1 ≤ l.length ∧ x.2 = h0.addL (l.take x.1)) (fun x => l.length - x.1) (0, h0) ⟨Nat.zero_le _, by simp [Wt.Hs.addL]⟩ ?_
  (conv => whnf)
  refine ⟨?_, fun ⟨k, q⟩ ⟨hk, hqq⟩ => ?_⟩
  · (repeat' (first | exact trivial | exact Wk.refl _ | exact ObWk.refl _ | exact rfl | exact ⟨_, rfl⟩ | exact Nat.zero_lt_one | refine And.intro ?_ ?_ | unfold okTo | (unfold okO; conv => whnf) | (unfold okS; conv => whnf) | (unfold SlotOk; conv => whnf) | (unfold ObjOk; conv => whnf) | (unfold okCells; conv => whnf) | (unfold liveTo; conv => whnf)))
    
  · replace hk : k ≤ l.length := hk
    replace hqq : q = h0.addL (l.take k) := hqq
    (conv => whnf)
    refine split_intro (fun hlt' => ?_) (fun hlt' => ?_)
    · have hlt : k < l.length := by simpa using hlt'
      obtain ⟨s, hs⟩ := exI hlt
      have e1 := Wt.Hs.addL_take (h := h0) hs
      have Rk := Wt.Rl.zero.addL (l.take k)
      have b1 := Wt.Hs.addL_n (l.take k) h0
      replace b1 := b1.2
      replace b1 : (h0.addL (l.take k)).n ≤ (l.take k).length := by simpa using b1
      have b3 : (l.take k).length ≤ l.length := by simp; omega
      rw [← hqq] at e1 Rk b1
      generalize hrr : Wt.Rs.addL ([], []) (l.take k) = rq at *
      have hq_ := queue_ q
      (conv => whnf)
      refine ⟨_, ⟨by omega, getMap hs⟩, ?_⟩
      (conv => whnf)
      refine ⟨_, ⟨Rk.sn.keys, Rk.sn.look' s⟩, ?_⟩
      (conv => whnf)
      refine split_intro (fun hin => ?_) (fun hin => ?_)
      · have hno : ¬ s ∈ rq.2 := by simpa using hin
        have e2 := add1_new Rk hno
        have hpu := pushH_ q.xs q.g q.n s (mset q.es (.string (sB s)) (vB true)) Rk.wl.len (by omega)
        have hq2 := queue_ ⟨q.g, q.n, q.xs, mset q.es (.string (sB s)) (vB true)⟩
        (conv => whnf)
        refine ⟨_, ⟨Rk.sn.keys, rfl⟩, ?_⟩
        (conv => whnf)
        refine CallLeaf.o [0, 900001, 2057] (by (repeat' (first | exact ArgsTo.nil | refine ArgsTo.cons ?_ ?_ | exact ArgTo.mk' rfl (Wk.refl _) | exact ArgTo.mk' rfl Wk.nilm | exact ArgTo.mk' rfl (Wk.list _ _) | exact ArgTo.mk' rfl (Wk.agg (by (repeat' (first | exact Wks.nil | refine Wks.cons ?_ ?_ | exact Wk.refl _ | exact Wk.nilm | exact Wk.list _ _  | exact Wk.natN rfl | refine Wk.agg ?_))))))) (hq2) rfl rfl (by (repeat' (first | exact trivial | exact rfl | refine And.intro ?_ ?_))) (by (repeat' (first | exact trivial | exact rfl | refine And.intro ?_ ?_))) (by (repeat' (first | exact trivial | exact rfl | refine And.intro ?_ ?_))) rfl rfl ?_
        (conv => whnf)
        refine CallLeaf.o [0, 900001, 2057] (by (repeat' (first | exact ArgsTo.nil | refine ArgsTo.cons ?_ ?_ | exact ArgTo.mk' rfl (Wk.refl _) | exact ArgTo.mk' rfl Wk.nilm | exact ArgTo.mk' rfl (Wk.list _ _) | exact ArgTo.mk' rfl (Wk.agg (by (repeat' (first | exact Wks.nil | refine Wks.cons ?_ ?_ | exact Wk.refl _ | exact Wk.nilm | exact Wk.list _ _  | exact Wk.natN rfl | refine Wk.agg ?_))))))) (hpu) rfl rfl (by (repeat' (first | exact trivial | exact rfl | refine And.intro ?_ ?_))) (by (repeat' (first | exact trivial | exact rfl | refine And.intro ?_ ?_))) (by (repeat' (first | exact trivial | exact rfl | refine And.intro ?_ ?_))) rfl rfl ?_
        (conv => whnf)
        refine ⟨_, add64 (c := ((q.n + 1 - 0 : Nat) : Int)) (by show ((q.n - 0 : Nat) : Int) + 1 = _; omega) (by omega), ?_⟩
        (conv => whnf)
        refine ⟨_, add64 (c := ((k + 1 : Nat) : Int)) (by omega) (by omega), ?_⟩
        (conv => whnf)
        refine ⟨(k + 1, ⟨q.g + 1, q.n + 1, Wt.up (q.xs.take q.n ++ [s]) q.n, mset q.es (.string (sB s)) (vB true)⟩), ⟨⟨by show k + 1 ≤ _; omega, ?_⟩, by show l.length - (k + 1) < l.length - k; omega⟩, ?_⟩
        · show _ = h0.addL (l.take (k + 1))
          rw [e1, e2]
        · (repeat' (first | exact trivial | exact Wk.refl _ | exact ObWk.refl _ | exact rfl | exact ⟨_, rfl⟩ | exact Nat.zero_lt_one | refine And.intro ?_ ?_ | unfold okTo | (unfold okO; conv => whnf) | (unfold okS; conv => whnf) | (unfold SlotOk; conv => whnf) | (unfold ObjOk; conv => whnf) | (unfold okCells; conv => whnf) | (unfold liveTo; conv => whnf)))
      · have hi : s ∈ rq.2 := by simpa using hin
        have e2 := add1_old Rk hi
        (conv => whnf)
        refine ⟨_, add64 (c := ((k + 1 : Nat) : Int)) (by omega) (by omega), ?_⟩
        (conv => whnf)
        refine ⟨(k + 1, q), ⟨⟨by show k + 1 ≤ _; omega, ?_⟩, by show l.length - (k + 1) < l.length - k; omega⟩, ?_⟩
        · show _ = h0.addL (l.take (k + 1))
          rw [e1, e2]
        · (repeat' (first | exact trivial | exact Wk.refl _ | exact ObWk.refl _ | exact rfl | exact ⟨_, rfl⟩ | exact Nat.zero_lt_one | refine And.intro ?_ ?_ | unfold okTo | (unfold okO; conv => whnf) | (unfold okS; conv => whnf) | (unfold SlotOk; conv => whnf) | (unfold ObjOk; conv => whnf) | (unfold okCells; conv => whnf) | (unfold liveTo; conv => whnf)))
    · have hge : l.length ≤ k := by simpa using hlt'
      rw [List.take_of_length_le hge] at hqq
      subst hqq
      (conv => whnf)
      refine ⟨[0, 900001, 2057], rfl, by (try unfold pullOk); (repeat' (first | exact trivial | exact ObWk.refl _ | refine And.intro ?_ ?_ | unfold pullOk)), ?_⟩
      exact Wk.refl _
theorem addN_ (l : List Str) : FCall Try.prog Gl 10 [pN, LS l] [] (vI 0) [] := by
  refine FCall.enterL hT hmix [] Try.func10 rfl rfl rfl fun hbd => ?_
  (conv => whnf)
  exact Wk.refl _
end Go.Proofs.Ytbbaojokfabmlaa
