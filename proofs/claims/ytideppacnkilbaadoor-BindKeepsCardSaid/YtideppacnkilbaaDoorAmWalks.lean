/- The walks through layer 13. No condition. -/
import Derived.Test.YtideppacnkilbaaDoorAmBd
import Derived.Test.YtideppacnkilbaaDoorProg
import Derived.KernelRfl
import Derived.Test.YtideppacnkilbaaDoorAmB
import Derived.Test.YtideppacnkilbaaDoorRows
import Derived.LaidMore
import Derived.Stop.Joined
import Derived.SevenTiedAt
import Derived.Lib.LaidTab
set_option linter.unusedVariables false
set_option linter.unusedSimpArgs false
namespace Go.Proofs.YtideppacnkilbaaDoor
open Go Go.AL Go.AL.Bd
theorem hT : TOk Tryd.prog (tabOf Tryd.prog) := tabOf_ok _
theorem hmix : Tryd.prog.follows .mixedOrders = true := by kernel_rfl
def Gl : Glob := fun g => match g with | 0 => [vI 0, vI 3, vI 1, vI 2, vI 0, vI 0] | _ => []
set_option maxRecDepth 100000

theorem empty_ : FCall Tryd.prog Gl 14 [] [] (.agg empty.encN) [] := by
  refine FCall.enterL hT hmix [] Tryd.func14 rfl rfl rfl fun hbd => ?_
  (conv => whnf)
  exact Wk.agg (by (repeat' (first | exact Wks.nil | refine Wks.cons ?_ ?_ | exact Wk.refl _ | exact Wk.nilm | exact Wk.list _ _  | exact Wk.natN rfl | refine Wk.agg ?_)))

theorem wanted_ (s : State) : FCall Tryd.prog Gl 17 [.agg s.enc] [] (vB (wanted s)) [] := by
  refine FCall.enterL hT hmix [] Tryd.func17 rfl rfl rfl fun hbd => ?_
  (conv => whnf)
  refine split_intro (fun h => ?_) (fun h => ?_)
  · (conv => whnf)
    exact Wk.bool (by simp [wanted, h])
  · (conv => whnf)
    exact Wk.bool (by simp [wanted, h])

theorem undefined_ (s : State) : FCall Tryd.prog Gl 18 [.agg s.enc] [] (vB (undefined s)) [] := by
  refine FCall.enterL hT hmix [] Tryd.func18 rfl rfl rfl fun hbd => ?_
  (conv => whnf)
  refine split_intro (fun h => ?_) (fun h => ?_)
  · (conv => whnf)
    exact Wk.bool (by simp [undefined, h]; rfl)
  · (conv => whnf)
    exact Wk.bool (by simp [undefined, h])

theorem duplicate_ (s : State) : FCall Tryd.prog Gl 16 [.agg s.enc] [] (vB (duplicate s)) [] := by
  refine FCall.enterL hT hmix [] Tryd.func16 rfl rfl rfl fun hbd => ?_
  (conv => whnf)
  exact Wk.bool (by simp [duplicate]; omega)

theorem numbers_ (a b : List Int) : FCall Tryd.prog Gl 19 [LI a, LI b] [] (vB (decide (a = b))) [] := by
  refine FCall.enterL hT hmix [] Tryd.func19 rfl rfl rfl fun hbd => ?_
  have ha := bds_list hbd (.head _)
  (conv => whnf)
  refine split_intro (fun h => ?_) (fun h => ?_)
  · (conv => whnf)
    exact Wk.bool (by simp at h; simp; intro e; subst e; exact h rfl)
  · have hab : a.length = b.length := by simp at h; omega
    (conv => whnf)
    refine LWp.loop hT hmix [] (fun k : Nat => [(5, vI k)]) (fun _ => []) (fun k => k ≤ a.length ∧ a.take k = b.take k) (fun k => a.length - k) 0 ⟨Nat.zero_le _, rfl⟩ ?_
    (conv => whnf)
    refine ⟨?_, fun k ⟨hk, hkk⟩ => ?_⟩
    · (repeat' (first | exact trivial | exact Wk.refl _ | exact ObWk.refl _ | exact rfl | exact ⟨_, rfl⟩ | exact Nat.zero_lt_one | refine And.intro ?_ ?_ | unfold okTo | (unfold okO; conv => whnf) | (unfold okS; conv => whnf) | (unfold SlotOk; conv => whnf) | (unfold ObjOk; conv => whnf) | (unfold okCells; conv => whnf) | (unfold liveTo; conv => whnf)))
    · (conv => whnf)
      refine split_intro (fun h => ?_) (fun h => ?_)
      · have hlt : k < a.length := by simpa using h
        obtain ⟨x, hx⟩ := exI hlt
        obtain ⟨y, hy⟩ := exI (hab ▸ hlt : k < b.length)
        (conv => whnf)
        refine ⟨_, ⟨by omega, getMap hx⟩, ?_⟩
        (conv => whnf)
        refine ⟨_, ⟨by omega, getMap hy⟩, ?_⟩
        (conv => whnf)
        refine split_intro (fun hxy => ?_) (fun hxy => ?_)
        · (conv => whnf)
          exact Wk.bool (by
            symm; simp; intro e; subst e
            simp [hx] at hy; simp [hy] at hxy)
        · (conv => whnf)
          refine ⟨_, add64 (c := ((k + 1 : Nat) : Int)) (by omega) (by omega), ?_⟩
          (conv => whnf)
          refine ⟨k + 1, ⟨⟨by omega, ?_⟩, by simp only []; omega⟩, ?_⟩
          · have : x = y := by simpa using hxy
            subst this
            rw [List.take_add_one, List.take_add_one, hx, hy, hkk]
          · (repeat' (first | exact trivial | exact Wk.refl _ | exact ObWk.refl _ | exact rfl | exact ⟨_, rfl⟩ | exact Nat.zero_lt_one | refine And.intro ?_ ?_ | unfold okTo | (unfold okO; conv => whnf) | (unfold okS; conv => whnf) | (unfold SlotOk; conv => whnf) | (unfold ObjOk; conv => whnf) | (unfold okCells; conv => whnf) | (unfold liveTo; conv => whnf)))
      · (conv => whnf)
        exact Wk.bool (by
          have hge : a.length ≤ k := by simpa using h
          symm; simp
          rwa [List.take_of_length_le hge, List.take_of_length_le (by omega)] at hkk)

theorem state_ (s : State) : FCall Tryd.prog Gl 11 [.agg s.enc] [] (.agg s.enc) [] := by
  refine FCall.enterL hT hmix [] Tryd.func11 rfl rfl rfl fun hbd => ?_
  (conv => whnf)
  exact Wk.refl _

theorem first_ (l : List Use) (b : Int) : FCall Tryd.prog Gl 21 [LU l, vI b] [] (vI (first l b)) [] := by
  refine FCall.enterL hT hmix [] Tryd.func21 rfl rfl rfl fun hbd => ?_
  have ha := bds_list hbd (.head _)
  (conv => whnf)
  refine LWp.loop hT hmix [] (fun k : Nat => [(5, vI k)]) (fun _ => []) (fun k => k ≤ l.length ∧ ∀ j x, j < k → l[j]? = some x → x.sym.bind ≠ b) (fun k => l.length - k) 0 ⟨Nat.zero_le _, fun j x h => by omega⟩ ?_
  (conv => whnf)
  refine ⟨?_, fun k ⟨hk, hkk⟩ => ?_⟩
  · (repeat' (first | exact trivial | exact Wk.refl _ | exact ObWk.refl _ | exact rfl | exact ⟨_, rfl⟩ | exact Nat.zero_lt_one | refine And.intro ?_ ?_ | unfold okTo | (unfold okO; conv => whnf) | (unfold okS; conv => whnf) | (unfold SlotOk; conv => whnf) | (unfold ObjOk; conv => whnf) | (unfold okCells; conv => whnf) | (unfold liveTo; conv => whnf)))
  · (conv => whnf)
    refine split_intro (fun h => ?_) (fun h => ?_)
    · have hlt : k < l.length := by simpa using h
      obtain ⟨x, hx⟩ := exI hlt
      (conv => whnf)
      refine ⟨_, ⟨by omega, getMap hx⟩, ?_⟩
      (conv => whnf)
      refine split_intro (fun hxy => ?_) (fun hxy => ?_)
      · (conv => whnf)
        exact Wk.int (by rw [first_eq hx (by simpa using hxy) hkk])
      · (conv => whnf)
        refine ⟨_, add64 (c := ((k + 1 : Nat) : Int)) (by omega) (by omega), ?_⟩
        (conv => whnf)
        refine ⟨k + 1, ⟨⟨by omega, fun j y hj hy => ?_⟩, by simp only []; omega⟩, ?_⟩
        · rcases Nat.lt_or_ge j k with h1 | h1
          · exact hkk j y h1 hy
          · obtain rfl : j = k := by omega
            rw [hx] at hy
            simp at hy; subst hy
            simpa using hxy
        · (repeat' (first | exact trivial | exact Wk.refl _ | exact ObWk.refl _ | exact rfl | exact ⟨_, rfl⟩ | exact Nat.zero_lt_one | refine And.intro ?_ ?_ | unfold okTo | (unfold okO; conv => whnf) | (unfold okS; conv => whnf) | (unfold SlotOk; conv => whnf) | (unfold ObjOk; conv => whnf) | (unfold okCells; conv => whnf) | (unfold liveTo; conv => whnf)))
    · (conv => whnf)
      have hge : l.length ≤ k := by simpa using h
      exact Wk.int (by rw [first_neg (fun j x hj => hkk j x (by have := (List.getElem?_eq_some_iff.1 hj).1; omega) hj)])

theorem one_ (x : Sym) (u : Int) : FCall Tryd.prog Gl 22 [.agg x.enc, vI u] [] (.agg (one x u).encN) [] := by
  refine FCall.enterL hT hmix [] Tryd.func22 rfl rfl rfl fun hbd => ?_
  (conv => whnf)
  refine CallLeaf.w (by (repeat' (first | exact ArgsTo.nil | refine ArgsTo.cons ?_ ?_ | exact ArgTo.mk' rfl (Wk.refl _) | exact ArgTo.mk' rfl Wk.nilm | exact ArgTo.mk' rfl (Wk.list _ _) | exact ArgTo.mk' rfl (Wk.agg (by (repeat' (first | exact Wks.nil | refine Wks.cons ?_ ?_ | exact Wk.refl _ | exact Wk.nilm | exact Wk.list _ _  | exact Wk.natN rfl | refine Wk.agg ?_))))))) (empty_) rfl ?_
  (conv => whnf)
  refine split_intro (fun h1 => ?_) (fun h1 => ?_)
  · (conv => whnf)
    exact Wk.of_eq (by simp at h1; simp [one, h1, empty])
  · (conv => whnf)
    refine split_intro (fun h2 => ?_) (fun h2 => ?_)
    · (conv => whnf)
      exact Wk.of_eq (by simp at h1 h2; simp [one, h2, empty])
    · (conv => whnf)
      refine split_intro (fun h3 => ?_) (fun h3 => ?_)
      · (conv => whnf)
        refine split_intro (fun h4 => ?_) (fun h4 => ?_)
        · (conv => whnf)
          simp at h1 h2 h3 h4
          omega
        · (conv => whnf)
          exact Wk.of_eq (by simp at h1 h2 h3 h4; simp [one, h3, empty])
      · (conv => whnf)
        refine split_intro (fun h4 => ?_) (fun h4 => ?_)
        · (conv => whnf)
          exact Wk.of_eq (by simp at h1 h2 h3 h4; simp [one, h4, empty])
        · (conv => whnf)
          exact Wk.of_eq (by simp at h1 h2 h3 h4; simp [one, h1, h2, h3, h4, empty])
end Go.Proofs.YtideppacnkilbaaDoor

set_option linter.unusedVariables false
set_option linter.unusedSimpArgs false
namespace Go.Proofs.YtideppacnkilbaaDoor
open Go Go.AL Go.AL.Bd
set_option maxRecDepth 100000
theorem growP_ (n : Int) (h0 : 0 < n) (h1 : n * 8 ≤ 140737488355328) : FCall Tryd.prog Gl 23 [.nil, vI n] [] (.list (.tok 0) []) [.tok 0 1] := by
  refine FCall.enterO hT hmix [] Tryd.func23 rfl rfl rfl fun hbd => ?_
  (conv => whnf)
  refine split_intro (fun h2 => ?_) (fun h2 => ?_)
  · simp at h2; omega
  · (conv => whnf)
    refine ⟨0, sub64 (by omega) (by omega), ?_⟩
    (conv => whnf)
    refine ⟨n, sub64 (by omega) (by omega), ?_⟩
    (conv => whnf)
    refine split_intro (fun h3 => ?_) (fun h3 => ?_)
    · (conv => whnf)
      refine ⟨⟨rfl, rfl⟩, ?_⟩
      (conv => whnf)
      refine ⟨⟨by omega, (by show _ * 8 ≤ _; omega)⟩, ?_⟩
      (conv => whnf)
      refine ⟨rfl, ?_⟩
      (conv => whnf)
      refine ⟨[2600], rfl, by (try unfold pullOk); (repeat' (first | exact trivial | exact ObWk.refl _ | refine And.intro ?_ ?_ | unfold pullOk)), ?_⟩
      exact Wk.refl _
    · simp at h3; omega

theorem grow0_ (n : Int) (hn : n = 0) : FCall Tryd.prog Gl 23 [.nil, vI n] [] .nil [] := by
  subst hn
  refine FCall.enterL hT hmix [] Tryd.func23 rfl rfl rfl fun hbd => ?_
  (conv => whnf)
  refine ⟨0, rfl, ?_⟩
  (conv => whnf)
  refine ⟨0, rfl, ?_⟩
  (conv => whnf)
  exact Wk.refl _

def sumLen (ls : List (List Int)) : Nat := ls.flatten.length
theorem take_flatten {α : Type} {ls : List (List α)} {k : Nat} {x : List α} (h : ls[k]? = some x) : (ls.take (k + 1)).flatten = (ls.take k).flatten ++ x := by
  rw [List.take_add_one, h]; simp
theorem take_flatten_le {α : Type} (ls : List (List α)) (k : Nat) : (ls.take k).flatten.length ≤ ls.flatten.length := by
  have : ls.flatten.length = (ls.take k).flatten.length + (ls.drop k).flatten.length := by
    rw [← List.length_append, ← List.flatten_append, List.take_append_drop]
  omega
abbrev eLI (l : List Int) : List D := [LI l]
theorem concat_ (ls : List (List Int)) (hb : ls.flatten.length * 8 ≤ 140737488355328) : FCall Tryd.prog Gl 20 [.list .any (ls.map eLI)] [] (LIn ls.flatten) [] := by
  refine FCall.enterL hT hmix [] Tryd.func20 rfl rfl rfl fun hbd => ?_
  have ha := bds_list hbd (.head _)
  (conv => whnf)
  refine LWp.loop hT hmix [] (fun k : Nat => [(11, vI k), (3, vI ((ls.take k).flatten.length : Nat))]) (fun _ => []) (fun k => k ≤ ls.length) (fun k => ls.length - k) 0 (Nat.zero_le _) ?_
  (conv => whnf)
  refine ⟨?_, fun k hk => ?_⟩
  · (repeat' (first | exact trivial | exact Wk.refl _ | exact ObWk.refl _ | exact rfl | exact ⟨_, rfl⟩ | exact Nat.zero_lt_one | refine And.intro ?_ ?_ | unfold okTo | (unfold okO; conv => whnf) | (unfold okS; conv => whnf) | (unfold SlotOk; conv => whnf) | (unfold ObjOk; conv => whnf) | (unfold okCells; conv => whnf) | (unfold liveTo; conv => whnf)))
  · have hsz := take_flatten_le ls k
    have hsz1 := take_flatten_le ls (k + 1)
    (conv => whnf)
    refine split_intro (fun h => ?_) (fun h => ?_)
    · have hlt : k < ls.length := by simpa using h
      obtain ⟨x, hx⟩ := exI hlt
      have htk := take_flatten hx
      (conv => whnf)
      refine ⟨_, ⟨by omega, getMap hx⟩, ?_⟩
      (conv => whnf)
      refine ⟨_, add64 (c := (((ls.take (k + 1)).flatten.length : Nat) : Int)) (by rw [htk]; simp) (by omega), ?_⟩
      (conv => whnf)
      refine ⟨_, add64 (c := ((k + 1 : Nat) : Int)) (by omega) (by omega), ?_⟩
      (conv => whnf)
      refine ⟨k + 1, ⟨by omega, by simp only []; omega⟩, ?_⟩
      (repeat' (first | exact trivial | exact Wk.refl _ | exact ObWk.refl _ | exact rfl | exact ⟨_, rfl⟩ | exact Nat.zero_lt_one | refine And.intro ?_ ?_ | unfold okTo | (unfold okO; conv => whnf) | (unfold okS; conv => whnf) | (unfold SlotOk; conv => whnf) | (unfold ObjOk; conv => whnf) | (unfold okCells; conv => whnf) | (unfold liveTo; conv => whnf)))
    · have hge : k = ls.length := by simp at h; omega
      subst hge
      rw [List.take_length] at hsz
      rcases Nat.eq_zero_or_pos ls.flatten.length with h0 | h0
      · have hall : ∀ x ∈ ls, x = [] := fun x hx => by
          have := List.sublist_flatten_of_mem hx
          exact List.eq_nil_of_length_eq_zero (by have := this.length_le; omega)
        (conv => whnf)
        refine CallLeaf.w (by (repeat' (first | exact ArgsTo.nil | refine ArgsTo.cons ?_ ?_ | exact ArgTo.mk' rfl (Wk.refl _) | exact ArgTo.mk' rfl Wk.nilm | exact ArgTo.mk' rfl (Wk.list _ _) | exact ArgTo.mk' rfl (Wk.agg (by (repeat' (first | exact Wks.nil | refine Wks.cons ?_ ?_ | exact Wk.refl _ | exact Wk.nilm | exact Wk.list _ _  | exact Wk.natN rfl | refine Wk.agg ?_))))))) (grow0_ _ (by rw [List.take_length]; omega)) rfl ?_
        (conv => whnf)
        refine LWp.loop hT hmix [] (fun k : Nat => [(27, vI k), (6, .list (.tok 900000) [])]) (fun _ => [(900000, .tok 0 1)]) (fun k => k ≤ ls.length) (fun k => ls.length - k) 0 (Nat.zero_le _) ?_
        (conv => whnf)
        refine ⟨?_, fun k hk => ?_⟩
        · (repeat' (first | exact trivial | exact Wk.refl _ | exact ObWk.refl _ | exact rfl | exact ⟨_, rfl⟩ | exact Nat.zero_lt_one | refine And.intro ?_ ?_ | unfold okTo | (unfold okO; conv => whnf) | (unfold okS; conv => whnf) | (unfold SlotOk; conv => whnf) | (unfold ObjOk; conv => whnf) | (unfold okCells; conv => whnf) | (unfold liveTo; conv => whnf)))
        · (conv => whnf)
          refine split_intro (fun h => ?_) (fun h => ?_)
          · have hlt : k < ls.length := by simpa using h
            obtain ⟨x, hx⟩ := exI hlt
            obtain rfl := hall x (List.mem_of_getElem? hx)
            (conv => whnf)
            refine ⟨_, ⟨by omega, getMap hx⟩, ?_⟩
            (conv => whnf)
            refine ⟨_, appL (xs := []) (ys := []) (zs := []) rfl rfl (fun _ => rfl) rfl (by decide), ?_⟩
            (conv => whnf)
            refine ⟨_, add64 (c := ((k + 1 : Nat) : Int)) (by omega) (by omega), ?_⟩
            (conv => whnf)
            refine ⟨k + 1, ⟨by omega, by simp only []; omega⟩, ?_⟩
            (repeat' (first | exact trivial | exact Wk.refl _ | exact ObWk.refl _ | exact rfl | exact ⟨_, rfl⟩ | exact Nat.zero_lt_one | refine And.intro ?_ ?_ | unfold okTo | (unfold okO; conv => whnf) | (unfold okS; conv => whnf) | (unfold SlotOk; conv => whnf) | (unfold ObjOk; conv => whnf) | (unfold okCells; conv => whnf) | (unfold liveTo; conv => whnf)))
          · (conv => whnf)
            have : ls.flatten = [] := List.eq_nil_of_length_eq_zero h0
            exact Wk.nat' (by rw [this]; rfl)
      · (conv => whnf)
        refine CallLeaf.o [4616] (by (repeat' (first | exact ArgsTo.nil | refine ArgsTo.cons ?_ ?_ | exact ArgTo.mk' rfl (Wk.refl _) | exact ArgTo.mk' rfl Wk.nilm | exact ArgTo.mk' rfl (Wk.list _ _) | exact ArgTo.mk' rfl (Wk.agg (by (repeat' (first | exact Wks.nil | refine Wks.cons ?_ ?_ | exact Wk.refl _ | exact Wk.nilm | exact Wk.list _ _  | exact Wk.natN rfl | refine Wk.agg ?_))))))) (growP_ _ (by rw [List.take_length]; omega) (by rw [List.take_length]; omega)) rfl rfl (by (repeat' (first | exact trivial | exact rfl | refine And.intro ?_ ?_))) (by (repeat' (first | exact trivial | exact rfl | refine And.intro ?_ ?_))) (by (repeat' (first | exact trivial | exact rfl | refine And.intro ?_ ?_))) rfl rfl ?_
        (conv => whnf)
        refine LWp.loop hT hmix [] (fun k : Nat => [(27, vI k), (6, .list (.tok 4616) ((ls.take k).flatten.map eI))]) (fun k => [(4616, .tok ((ls.take k).flatten.map eI).length 1)]) (fun k => k ≤ ls.length) (fun k => ls.length - k) 0 (Nat.zero_le _) ?_
        (conv => whnf)
        refine ⟨?_, fun k hk => ?_⟩
        · (repeat' (first | exact trivial | exact Wk.refl _ | exact ObWk.refl _ | exact rfl | exact ⟨_, rfl⟩ | exact Nat.zero_lt_one | refine And.intro ?_ ?_ | unfold okTo | (unfold okO; conv => whnf) | (unfold okS; conv => whnf) | (unfold SlotOk; conv => whnf) | (unfold ObjOk; conv => whnf) | (unfold okCells; conv => whnf) | (unfold liveTo; conv => whnf)))
        · have hsz1 := take_flatten_le ls (k + 1)
          (conv => whnf)
          refine split_intro (fun h => ?_) (fun h => ?_)
          · have hlt : k < ls.length := by simpa using h
            obtain ⟨x, hx⟩ := exI hlt
            have htk := take_flatten hx
            (conv => whnf)
            refine ⟨_, ⟨by omega, getMap hx⟩, ?_⟩
            (conv => whnf)
            refine ⟨_, appL rfl rfl (fun _ => rfl) htk.symm (by show _ * 8 ≤ _; omega), ?_⟩
            (conv => whnf)
            refine ⟨_, add64 (c := ((k + 1 : Nat) : Int)) (by omega) (by omega), ?_⟩
            (conv => whnf)
            refine ⟨k + 1, ⟨by omega, by simp only []; omega⟩, ?_⟩
            (repeat' (first | exact trivial | exact Wk.refl _ | exact ObWk.refl _ | exact rfl | exact ⟨_, rfl⟩ | exact Nat.zero_lt_one | refine And.intro ?_ ?_ | unfold okTo | (unfold okO; conv => whnf) | (unfold okS; conv => whnf) | (unfold SlotOk; conv => whnf) | (unfold ObjOk; conv => whnf) | (unfold okCells; conv => whnf) | (unfold liveTo; conv => whnf)))
          · (conv => whnf)
            have hge : k = ls.length := by simp at h; omega
            exact Wk.nat' (by rw [hge, List.take_length])
end Go.Proofs.YtideppacnkilbaaDoor

set_option linter.unusedVariables false
set_option linter.unusedSimpArgs false
namespace Go.Proofs.YtideppacnkilbaaDoor
open Go Go.AL Go.AL.Bd
set_option maxRecDepth 100000

theorem strength_drop {n : Int} (h0 : 0 ≤ n) (h1 : n < 6) : ∃ r, (Gl 0).drop (n.toNat * 1) = vI (strength n) :: r := by
  obtain ⟨m, rfl⟩ : ∃ m : Nat, n = m := ⟨n.toNat, by omega⟩
  have : m = 0 ∨ m = 1 ∨ m = 2 ∨ m = 3 ∨ m = 4 ∨ m = 5 := by omega
  rcases this with rfl | rfl | rfl | rfl | rfl | rfl <;> exact ⟨_, rfl⟩

theorem join_ (a b : State) (ha : 0 ≤ a.bind ∧ a.bind < 6) (hb : 0 ≤ b.bind ∧ b.bind < 6) (hs : (a.strongs ++ b.strongs).length * 8 ≤ 140737488355328) :
    FCall Tryd.prog Gl 12 [.agg a.enc, .agg b.enc] [] (.agg (join a b).encN) [] := by
  obtain ⟨r1, e1⟩ := strength_drop hb.1 hb.2
  obtain ⟨r2, e2⟩ := strength_drop ha.1 ha.2
  have hcat := concat_ [a.strongs, b.strongs] (by simpa using hs)
  refine FCall.enterL hT hmix [] Tryd.func12 rfl rfl rfl fun hbd => ?_
  (conv => whnf)
  refine ⟨_, ⟨hb.1, hb.2, e1⟩, ?_⟩
  (conv => whnf)
  refine ⟨_, ⟨ha.1, ha.2, e2⟩, ?_⟩
  (conv => whnf)
  refine split_intro (fun h => ?_) (fun h => ?_)
  · (conv => whnf)
    refine split_intro (fun h1 => ?_) (fun h1 => ?_)
    all_goals
      (conv => whnf)
      refine split_intro (fun h2 => ?_) (fun h2 => ?_)
      all_goals
        (conv => whnf)
        refine split_intro (fun h3 => ?_) (fun h3 => ?_)
        all_goals
          (conv => whnf)
          refine CallLeaf.w (by (repeat' (first | exact ArgsTo.nil | refine ArgsTo.cons ?_ ?_ | exact ArgTo.mk' rfl (Wk.refl _) | exact ArgTo.mk' rfl Wk.nilm | exact ArgTo.mk' rfl (Wk.list _ _) | exact ArgTo.mk' rfl (Wk.agg (by (repeat' (first | exact Wks.nil | refine Wks.cons ?_ ?_ | exact Wk.refl _ | exact Wk.nilm | exact Wk.list _ _  | exact Wk.natN rfl | refine Wk.agg ?_))))))) (hcat) rfl ?_
          (conv => whnf)
          exact Wk.of_eq (by simp at h h1 h2 h3; simp [join, h, h1, h2, h3])
  · (conv => whnf)
    refine split_intro (fun h4 => ?_) (fun h4 => ?_)
    · (conv => whnf)
      refine split_intro (fun h5 => ?_) (fun h5 => ?_)
      all_goals
        (conv => whnf)
        refine split_intro (fun h1 => ?_) (fun h1 => ?_)
        all_goals
          (conv => whnf)
          refine split_intro (fun h2 => ?_) (fun h2 => ?_)
          all_goals
            (conv => whnf)
            refine split_intro (fun h3 => ?_) (fun h3 => ?_)
            all_goals
              (conv => whnf)
              refine CallLeaf.w (by (repeat' (first | exact ArgsTo.nil | refine ArgsTo.cons ?_ ?_ | exact ArgTo.mk' rfl (Wk.refl _) | exact ArgTo.mk' rfl Wk.nilm | exact ArgTo.mk' rfl (Wk.list _ _) | exact ArgTo.mk' rfl (Wk.agg (by (repeat' (first | exact Wks.nil | refine Wks.cons ?_ ?_ | exact Wk.refl _ | exact Wk.nilm | exact Wk.list _ _  | exact Wk.natN rfl | refine Wk.agg ?_))))))) (hcat) rfl ?_
              (conv => whnf)
              exact Wk.of_eq (by (try simp only [goMax]); simp at h h1 h2 h3 h4 h5; have hn := Int.not_lt.2 h; rw [h4] at hn; simp [join, h1, h2, h3, h4, h5, hn])
    · (conv => whnf)
      refine split_intro (fun h1 => ?_) (fun h1 => ?_)
      all_goals
        (conv => whnf)
        refine split_intro (fun h2 => ?_) (fun h2 => ?_)
        all_goals
          (conv => whnf)
          refine split_intro (fun h3 => ?_) (fun h3 => ?_)
          all_goals
            (conv => whnf)
            refine CallLeaf.w (by (repeat' (first | exact ArgsTo.nil | refine ArgsTo.cons ?_ ?_ | exact ArgTo.mk' rfl (Wk.refl _) | exact ArgTo.mk' rfl Wk.nilm | exact ArgTo.mk' rfl (Wk.list _ _) | exact ArgTo.mk' rfl (Wk.agg (by (repeat' (first | exact Wks.nil | refine Wks.cons ?_ ?_ | exact Wk.refl _ | exact Wk.nilm | exact Wk.list _ _  | exact Wk.natN rfl | refine Wk.agg ?_))))))) (hcat) rfl ?_
            (conv => whnf)
            exact Wk.of_eq (by simp at h h1 h2 h3 h4; simp [join, h1, h2, h3, h4, Int.not_lt.2 h])

theorem merge_ (s : State) (x : Sym) (u : Int) (hs : 0 ≤ s.bind ∧ s.bind < 6) (hx : 1 ≤ x.bind ∧ x.bind ≤ 5) (hl : s.strongs.length ≤ 1000) :
    FCall Tryd.prog Gl 15 [.agg s.enc, .agg x.enc, vI u] [] (.agg (merge s x u).encN) [] := by
  have h1 := one_strongs x u
  have hj := join_ s (one x u) hs (one_bind u hx) (by simp; omega)
  refine FCall.enterL hT hmix [] Tryd.func15 rfl rfl rfl fun hbd => ?_
  (conv => whnf)
  refine CallLeaf.w (by (repeat' (first | exact ArgsTo.nil | refine ArgsTo.cons ?_ ?_ | exact ArgTo.mk' rfl (Wk.refl _) | exact ArgTo.mk' rfl Wk.nilm | exact ArgTo.mk' rfl (Wk.list _ _) | exact ArgTo.mk' rfl (Wk.agg (by (repeat' (first | exact Wks.nil | refine Wks.cons ?_ ?_ | exact Wk.refl _ | exact Wk.nilm | exact Wk.list _ _  | exact Wk.natN rfl | refine Wk.agg ?_))))))) (one_ x u) rfl ?_
  (conv => whnf)
  refine CallLeaf.w (by (repeat' (first | exact ArgsTo.nil | refine ArgsTo.cons ?_ ?_ | exact ArgTo.mk' rfl (Wk.refl _) | exact ArgTo.mk' rfl Wk.nilm | exact ArgTo.mk' rfl (Wk.list _ _) | exact ArgTo.mk' rfl (Wk.agg (by (repeat' (first | exact Wks.nil | refine Wks.cons ?_ ?_ | exact Wk.refl _ | exact Wk.nilm | exact Wk.list _ _  | exact Wk.natN rfl | refine Wk.agg ?_))))))) (hj) rfl ?_
  (conv => whnf)
  exact Wk.refl _

theorem same_ (a b : State) : FCall Tryd.prog Gl 10 [.agg a.enc, .agg b.enc] [] (vB (decide (a = b))) [] := by
  have hn := numbers_ a.strongs b.strongs
  have key : decide (a = b) = (a.bind == b.bind && (a.size == b.size && (a.align == b.align && (a.unit == b.unit && (a.defd == b.defd && (a.sref == b.sref && (a.wref == b.wref && decide (a.strongs = b.strongs)))))))) := by
    rw [Bool.eq_iff_iff]; cases a; cases b; simp [State.mk.injEq]
  refine FCall.enterL hT hmix [] Tryd.func10 rfl rfl rfl fun hbd => ?_
  (conv => whnf)
  refine split_intro (fun h1 => ?_) (fun h1 => ?_)
  · (conv => whnf)
    refine split_intro (fun h2 => ?_) (fun h2 => ?_)
    · (conv => whnf)
      refine split_intro (fun h3 => ?_) (fun h3 => ?_)
      · (conv => whnf)
        refine split_intro (fun h4 => ?_) (fun h4 => ?_)
        · (conv => whnf)
          refine split_intro (fun h5 => ?_) (fun h5 => ?_)
          · (conv => whnf)
            refine split_intro (fun h6 => ?_) (fun h6 => ?_)
            · (conv => whnf)
              refine split_intro (fun h7 => ?_) (fun h7 => ?_)
              · (conv => whnf)
                refine CallLeaf.w (by (repeat' (first | exact ArgsTo.nil | refine ArgsTo.cons ?_ ?_ | exact ArgTo.mk' rfl (Wk.refl _) | exact ArgTo.mk' rfl Wk.nilm | exact ArgTo.mk' rfl (Wk.list _ _) | exact ArgTo.mk' rfl (Wk.agg (by (repeat' (first | exact Wks.nil | refine Wks.cons ?_ ?_ | exact Wk.refl _ | exact Wk.nilm | exact Wk.list _ _  | exact Wk.natN rfl | refine Wk.agg ?_))))))) (hn) rfl ?_
                (conv => whnf)
                exact Wk.bool (by rw [key, h1, h2, h3, h4, h5, h6, h7]; simp)
              · (conv => whnf)
                exact Wk.bool (by rw [key, h7]; simp)
            · (conv => whnf)
              exact Wk.bool (by rw [key, h6]; simp)
          · (conv => whnf)
            exact Wk.bool (by rw [key, h5]; simp)
        · (conv => whnf)
          exact Wk.bool (by rw [key, h4]; simp)
      · (conv => whnf)
        exact Wk.bool (by rw [key, h3]; simp)
    · (conv => whnf)
      exact Wk.bool (by rw [key, h2]; simp)
  · (conv => whnf)
    exact Wk.bool (by rw [key, h1]; simp)

theorem right_ (l : List Use) : FCall Tryd.prog Gl 8 [LU l] [] (vB (right l)) [] := by
  refine FCall.enterL hT hmix [] Tryd.func8 rfl rfl rfl fun hbd => ?_
  have ha := bds_list hbd (.head _)
  (conv => whnf)
  refine split_intro (fun h => ?_) (fun h => ?_)
  · (conv => whnf)
    exact Wk.bool (by
      have : ¬ l.length ≤ 50 := by simp at h; omega
      simp [right, this])
  · have hlen : l.length ≤ 50 := by simp at h; omega
    (conv => whnf)
    refine LWp.loop hT hmix [] (fun k : Nat => [(3, vI k)]) (fun _ => []) (fun k => k ≤ l.length ∧ ∀ x ∈ l.take k, okUse x = true) (fun k => l.length - k) 0 ⟨Nat.zero_le _, by simp⟩ ?_
    (conv => whnf)
    refine ⟨?_, fun k ⟨hk, hkk⟩ => ?_⟩
    · (repeat' (first | exact trivial | exact Wk.refl _ | exact ObWk.refl _ | exact rfl | exact ⟨_, rfl⟩ | exact Nat.zero_lt_one | refine And.intro ?_ ?_ | unfold okTo | (unfold okO; conv => whnf) | (unfold okS; conv => whnf) | (unfold SlotOk; conv => whnf) | (unfold ObjOk; conv => whnf) | (unfold okCells; conv => whnf) | (unfold liveTo; conv => whnf)))
    · (conv => whnf)
      refine split_intro (fun h => ?_) (fun h => ?_)
      · have hlt : k < l.length := by simpa using h
        obtain ⟨x, hx⟩ := exI hlt
        have hmem : x ∈ l := List.mem_of_getElem? hx
        have hno : okUse x = false → right l = false := fun hf => by
          cases hr : right l with
          | false => rfl
          | true => have := (right_iff.1 hr).2 x hmem; rw [hf] at this; simp at this
        (conv => whnf)
        refine ⟨_, ⟨by omega, getMap hx⟩, ?_⟩
        (conv => whnf)
        refine split_intro (fun h1 => ?_) (fun h1 => ?_)
        · (conv => whnf)
          exact Wk.bool (by symm; apply hno; simp at h1; simp [okUse]; omega)
        · (conv => whnf)
          refine split_intro (fun h2 => ?_) (fun h2 => ?_)
          · (conv => whnf)
            exact Wk.bool (by symm; apply hno; simp at h1 h2; simp [okUse]; omega)
          · (conv => whnf)
            refine split_intro (fun h3 => ?_) (fun h3 => ?_)
            · (conv => whnf)
              exact Wk.bool (by symm; apply hno; simp at h1 h2 h3; simp [okUse]; omega)
            · (conv => whnf)
              refine split_intro (fun h4 => ?_) (fun h4 => ?_)
              · (conv => whnf)
                exact Wk.bool (by symm; apply hno; simp at h1 h2 h3 h4; simp [okUse]; omega)
              · (conv => whnf)
                refine ⟨_, ⟨by omega, getMap hx⟩, ?_⟩
                (conv => whnf)
                refine split_intro (fun h5 => ?_) (fun h5 => ?_)
                · (conv => whnf)
                  exact Wk.bool (by symm; apply hno; simp at h1 h2 h3 h4 h5; simp [okUse]; omega)
                · (conv => whnf)
                  refine ⟨_, add64 (c := ((k + 1 : Nat) : Int)) (by omega) (by omega), ?_⟩
                  (conv => whnf)
                  refine ⟨k + 1, ⟨⟨by omega, fun y hy => ?_⟩, by simp only []; omega⟩, ?_⟩
                  · rw [List.take_add_one, hx] at hy
                    rcases List.mem_append.1 hy with hy | hy
                    · exact hkk y hy
                    · simp at hy; subst hy
                      simp at h1 h2 h3 h4 h5; simp [okUse]; omega
                  · (repeat' (first | exact trivial | exact Wk.refl _ | exact ObWk.refl _ | exact rfl | exact ⟨_, rfl⟩ | exact Nat.zero_lt_one | refine And.intro ?_ ?_ | unfold okTo | (unfold okO; conv => whnf) | (unfold okS; conv => whnf) | (unfold SlotOk; conv => whnf) | (unfold ObjOk; conv => whnf) | (unfold okCells; conv => whnf) | (unfold liveTo; conv => whnf)))
      · (conv => whnf)
        exact Wk.bool (by
          have hge : k = l.length := by simp at h; omega
          subst hge
          rw [List.take_length] at hkk
          symm; exact right_iff.2 ⟨hlen, hkk⟩)

theorem all_ (l : List Use) (hl : l.length ≤ 100) (hr : ∀ x ∈ l, 1 ≤ x.sym.bind ∧ x.sym.bind ≤ 5) : FCall Tryd.prog Gl 9 [LU l] [] (.agg (all l).encN) [] := by
  refine FCall.enterL hT hmix [] Tryd.func9 rfl rfl rfl fun hbd => ?_
  (conv => whnf)
  refine CallLeaf.w (by (repeat' (first | exact ArgsTo.nil | refine ArgsTo.cons ?_ ?_ | exact ArgTo.mk' rfl (Wk.refl _) | exact ArgTo.mk' rfl Wk.nilm | exact ArgTo.mk' rfl (Wk.list _ _) | exact ArgTo.mk' rfl (Wk.agg (by (repeat' (first | exact Wks.nil | refine Wks.cons ?_ ?_ | exact Wk.refl _ | exact Wk.nilm | exact Wk.list _ _  | exact Wk.natN rfl | refine Wk.agg ?_))))))) (empty_) rfl ?_
  (conv => whnf)
  refine LWp.loop hT hmix [] (fun k : Nat => [(4, vI k)]) (fun k => [(520, .cells (all (l.take k)).encN)]) (fun k => k ≤ l.length) (fun k => l.length - k) 0 (Nat.zero_le _) ?_
  (conv => whnf)
  refine ⟨?_, fun k hk => ?_⟩
  · (repeat' (first | exact trivial | exact Wk.refl _ | exact ObWk.refl _ | exact rfl | exact ⟨_, rfl⟩ | exact Nat.zero_lt_one | refine And.intro ?_ ?_ | unfold okTo | (unfold okO; conv => whnf) | (unfold okS; conv => whnf) | (unfold SlotOk; conv => whnf) | (unfold ObjOk; conv => whnf) | (unfold okCells; conv => whnf) | (unfold liveTo; conv => whnf)))
  · (conv => whnf)
    refine split_intro (fun h => ?_) (fun h => ?_)
    · have hlt : k < l.length := by simpa using h
      obtain ⟨x, hx⟩ := exI hlt
      have hb := all_bind (l := l.take k) (fun y hy => hr y (List.mem_of_mem_take hy))
      have hlk : (l.take k).length ≤ 100 := by simp; omega
      (conv => whnf)
      refine ⟨_, ⟨by omega, getMap hx⟩, ?_⟩
      (conv => whnf)
      refine ⟨_, ⟨by omega, getMap hx⟩, ?_⟩
      (conv => whnf)
      refine CallLeaf.w (by (repeat' (first | exact ArgsTo.nil | refine ArgsTo.cons ?_ ?_ | exact ArgTo.mk' rfl (Wk.refl _) | exact ArgTo.mk' rfl Wk.nilm | exact ArgTo.mk' rfl (Wk.list _ _) | exact ArgTo.mk' rfl (Wk.agg (by (repeat' (first | exact Wks.nil | refine Wks.cons ?_ ?_ | exact Wk.refl _ | exact Wk.nilm | exact Wk.list _ _  | exact Wk.natN rfl | refine Wk.agg ?_))))))) (merge_ (all (l.take k)) x.sym x.unit hb.1 (hr x (List.mem_of_getElem? hx)) (by omega)) rfl ?_
      (conv => whnf)
      refine ⟨_, add64 (c := ((k + 1 : Nat) : Int)) (by omega) (by omega), ?_⟩
      (conv => whnf)
      have e : merge (all (l.take k)) x.sym x.unit = all (l.take (k + 1)) := by rw [List.take_add_one, hx, ← all_snoc]; rfl
      refine ⟨k + 1, ⟨by omega, by simp only []; omega⟩, ?_⟩
      simp only [e]
      (repeat' (first | exact trivial | exact Wk.refl _ | exact ObWk.refl _ | exact rfl | exact ⟨_, rfl⟩ | exact Nat.zero_lt_one | refine And.intro ?_ ?_ | unfold okTo | (unfold okO; conv => whnf) | (unfold okS; conv => whnf) | (unfold SlotOk; conv => whnf) | (unfold ObjOk; conv => whnf) | (unfold okCells; conv => whnf) | (unfold liveTo; conv => whnf)))
    · (conv => whnf)
      have hge : k = l.length := by simp at h; omega
      exact Wk.of_eq (by rw [hge, List.take_length]; rfl)
end Go.Proofs.YtideppacnkilbaaDoor

set_option linter.unusedVariables false
set_option linter.unusedSimpArgs false
namespace Go.Proofs.YtideppacnkilbaaDoor
open Go Go.AL Go.AL.Bd
set_option maxRecDepth 100000
set_option maxHeartbeats 4000000
theorem refOf_ (l : List Use) (hl : l.length ≤ 1000) : FCall Tryd.prog Gl 13 [LU l] [] (.agg (refOf l).encN) [] := by
  have g1 := useAt_get (l := l) (b := 1)
  have g2 := useAt_get (l := l) (b := 2)
  have g3 := useAt_get (l := l) (b := 3)
  refine FCall.enterL hT hmix [] Tryd.func13 rfl rfl rfl fun hbd => ?_
  (conv => whnf)
  refine CallLeaf.w (by (repeat' (first | exact ArgsTo.nil | refine ArgsTo.cons ?_ ?_ | exact ArgTo.mk' rfl (Wk.refl _) | exact ArgTo.mk' rfl Wk.nilm | exact ArgTo.mk' rfl (Wk.list _ _) | exact ArgTo.mk' rfl (Wk.agg (by (repeat' (first | exact Wks.nil | refine Wks.cons ?_ ?_ | exact Wk.refl _ | exact Wk.nilm | exact Wk.list _ _  | exact Wk.natN rfl | refine Wk.agg ?_))))))) (first_ l 1) rfl ?_
  (conv => whnf)
  refine CallLeaf.w (by (repeat' (first | exact ArgsTo.nil | refine ArgsTo.cons ?_ ?_ | exact ArgTo.mk' rfl (Wk.refl _) | exact ArgTo.mk' rfl Wk.nilm | exact ArgTo.mk' rfl (Wk.list _ _) | exact ArgTo.mk' rfl (Wk.agg (by (repeat' (first | exact Wks.nil | refine Wks.cons ?_ ?_ | exact Wk.refl _ | exact Wk.nilm | exact Wk.list _ _  | exact Wk.natN rfl | refine Wk.agg ?_))))))) (first_ l 2) rfl ?_
  (conv => whnf)
  refine CallLeaf.w (by (repeat' (first | exact ArgsTo.nil | refine ArgsTo.cons ?_ ?_ | exact ArgTo.mk' rfl (Wk.refl _) | exact ArgTo.mk' rfl Wk.nilm | exact ArgTo.mk' rfl (Wk.list _ _) | exact ArgTo.mk' rfl (Wk.agg (by (repeat' (first | exact Wks.nil | refine Wks.cons ?_ ?_ | exact Wk.refl _ | exact Wk.nilm | exact Wk.list _ _  | exact Wk.natN rfl | refine Wk.agg ?_))))))) (first_ l 3) rfl ?_
  (conv => whnf)
  refine split_intro (fun hs => ?_) (fun hs => ?_)
  all_goals
    (conv => whnf)
    refine CallLeaf.w (by (repeat' (first | exact ArgsTo.nil | refine ArgsTo.cons ?_ ?_ | exact ArgTo.mk' rfl (Wk.refl _) | exact ArgTo.mk' rfl Wk.nilm | exact ArgTo.mk' rfl (Wk.list _ _) | exact ArgTo.mk' rfl (Wk.agg (by (repeat' (first | exact Wks.nil | refine Wks.cons ?_ ?_ | exact Wk.refl _ | exact Wk.nilm | exact Wk.list _ _  | exact Wk.natN rfl | refine Wk.agg ?_))))))) (first_ l 4) rfl ?_
    (conv => whnf)
    refine CallLeaf.w (by (repeat' (first | exact ArgsTo.nil | refine ArgsTo.cons ?_ ?_ | exact ArgTo.mk' rfl (Wk.refl _) | exact ArgTo.mk' rfl Wk.nilm | exact ArgTo.mk' rfl (Wk.list _ _) | exact ArgTo.mk' rfl (Wk.agg (by (repeat' (first | exact Wks.nil | refine Wks.cons ?_ ?_ | exact Wk.refl _ | exact Wk.nilm | exact Wk.list _ _  | exact Wk.natN rfl | refine Wk.agg ?_))))))) (first_ l 5) rfl ?_
    (conv => whnf)
    refine LWp.loop hT hmix [] (fun k : Nat => [(7, vI k)]) (fun k => [(520, .cells (mid l k)), (900000, .tok ((strongsOf (l.take k)).map eI).length 1)]) (fun k => k ≤ l.length) (fun k => l.length - k) 0 (Nat.zero_le _) ?_
    (conv => whnf)
    refine ⟨?_, fun k hk => ?_⟩
    · (repeat' (first | exact trivial | exact Wk.refl _ | exact ObWk.refl _ | exact rfl | exact ⟨_, rfl⟩ | exact Nat.zero_lt_one | refine And.intro ?_ ?_ | unfold okTo | (unfold okO; conv => whnf) | (unfold okS; conv => whnf) | (unfold SlotOk; conv => whnf) | (unfold ObjOk; conv => whnf) | (unfold okCells; conv => whnf) | (unfold liveTo; conv => whnf)))
      all_goals first | (refine Wk.int ?_; simp [maxOf]; done) | (refine Wk.bool ?_; simp at hs; simp [hs]; done) | (refine Wk.bool ?_; rw [decide_eq_false (show ¬ 0 ≤ first l 1 by simpa using hs)]; simp)
    · have hsl := strongsOf_le (l.take k)
      have hlk : (l.take k).length ≤ k := by simp; omega
      (conv => whnf)
      refine split_intro (fun h => ?_) (fun h => ?_)
      · have hlt : k < l.length := by simpa using h
        obtain ⟨x, hx⟩ := exI hlt
        (conv => whnf)
        refine ⟨_, ⟨by omega, getMap hx⟩, ?_⟩
        (conv => whnf)
        refine split_intro (fun h1 => ?_) (fun h1 => ?_)
        · have hb1 : x.sym.bind = 1 := by simpa using h1
          (conv => whnf)
          refine ⟨_, ⟨by omega, getMap hx⟩, ?_⟩
          (conv => whnf)
          refine ⟨_, appL (ys := [x.unit]) (zs := strongsOf (l.take (k + 1))) rfl rfl (fun _ => rfl) (by rw [take_snoc hx, strongsOf_snoc]; simp [hb1]) (by rw [take_snoc hx, strongsOf_snoc]; simp [hb1]; show _ * 8 ≤ _; omega), ?_⟩
          (conv => whnf)
          refine split_intro (fun h2 => ?_) (fun h2 => ?_)
          · (conv => whnf)
            refine ⟨_, ⟨by omega, getMap hx⟩, ?_⟩
            (conv => whnf)
            have hb3 : (x.sym.bind == 3) = false := by simp [hb1]
            refine split_intro (fun h3 => ?_) (fun h3 => ?_)
            · rw [hb3] at h3; simp at h3
            · (conv => whnf)
              refine ⟨_, add64 (c := ((k + 1 : Nat) : Int)) (by omega) (by omega), ?_⟩
              (conv => whnf)
              refine ⟨k + 1, ⟨by omega, by simp only []; omega⟩, ?_⟩
              simp only [mid, max_same _ hx (show x.sym.bind ≠ 3 by omega)]
              (repeat' (first | exact trivial | exact Wk.refl _ | exact ObWk.refl _ | exact rfl | exact ⟨_, rfl⟩ | exact Nat.zero_lt_one | refine And.intro ?_ ?_ | unfold okTo | (unfold okO; conv => whnf) | (unfold okS; conv => whnf) | (unfold SlotOk; conv => whnf) | (unfold ObjOk; conv => whnf) | (unfold okCells; conv => whnf) | (unfold liveTo; conv => whnf)))
          · (conv => whnf)
            refine ⟨_, add64 (c := ((k + 1 : Nat) : Int)) (by omega) (by omega), ?_⟩
            (conv => whnf)
            refine ⟨k + 1, ⟨by omega, by simp only []; omega⟩, ?_⟩
            simp only [mid, max_same _ hx (show x.sym.bind ≠ 3 by omega)]
            (repeat' (first | exact trivial | exact Wk.refl _ | exact ObWk.refl _ | exact rfl | exact ⟨_, rfl⟩ | exact Nat.zero_lt_one | refine And.intro ?_ ?_ | unfold okTo | (unfold okO; conv => whnf) | (unfold okS; conv => whnf) | (unfold SlotOk; conv => whnf) | (unfold ObjOk; conv => whnf) | (unfold okCells; conv => whnf) | (unfold liveTo; conv => whnf)))
        · have hb1 : ¬ x.sym.bind = 1 := by simpa using h1
          (conv => whnf)
          refine split_intro (fun h2 => ?_) (fun h2 => ?_)
          · have hn : first l 1 < 0 := by simpa using h2
            (conv => whnf)
            refine ⟨_, ⟨by omega, getMap hx⟩, ?_⟩
            (conv => whnf)
            refine split_intro (fun h3 => ?_) (fun h3 => ?_)
            · have hb3 : x.sym.bind = 3 := by simpa using h3
              (conv => whnf)
              refine ⟨_, ⟨by omega, getMap hx⟩, ?_⟩
              (conv => whnf)
              refine ⟨_, ⟨by omega, getMap hx⟩, ?_⟩
              (conv => whnf)
              refine ⟨_, add64 (c := ((k + 1 : Nat) : Int)) (by omega) (by omega), ?_⟩
              (conv => whnf)
              refine ⟨k + 1, ⟨by omega, by simp only []; omega⟩, ?_⟩
              simp only [mid, strongs_same hx hb1, max_more _ hx hb3, goMax]
              (repeat' (first | exact trivial | exact Wk.refl _ | exact ObWk.refl _ | exact rfl | exact ⟨_, rfl⟩ | exact Nat.zero_lt_one | refine And.intro ?_ ?_ | unfold okTo | (unfold okO; conv => whnf) | (unfold okS; conv => whnf) | (unfold SlotOk; conv => whnf) | (unfold ObjOk; conv => whnf) | (unfold okCells; conv => whnf) | (unfold liveTo; conv => whnf)))
              all_goals exact Wk.int (by simp [hn])
            · have hb3 : ¬ x.sym.bind = 3 := by simpa using h3
              (conv => whnf)
              refine ⟨_, add64 (c := ((k + 1 : Nat) : Int)) (by omega) (by omega), ?_⟩
              (conv => whnf)
              refine ⟨k + 1, ⟨by omega, by simp only []; omega⟩, ?_⟩
              simp only [mid, strongs_same hx hb1, max_same _ hx hb3]
              (repeat' (first | exact trivial | exact Wk.refl _ | exact ObWk.refl _ | exact rfl | exact ⟨_, rfl⟩ | exact Nat.zero_lt_one | refine And.intro ?_ ?_ | unfold okTo | (unfold okO; conv => whnf) | (unfold okS; conv => whnf) | (unfold SlotOk; conv => whnf) | (unfold ObjOk; conv => whnf) | (unfold okCells; conv => whnf) | (unfold liveTo; conv => whnf)))
          · have hn : ¬ first l 1 < 0 := by simpa using h2
            (conv => whnf)
            refine ⟨_, add64 (c := ((k + 1 : Nat) : Int)) (by omega) (by omega), ?_⟩
            (conv => whnf)
            refine ⟨k + 1, ⟨by omega, by simp only []; omega⟩, ?_⟩
            simp only [mid, strongs_same hx hb1]
            (repeat' (first | exact trivial | exact Wk.refl _ | exact ObWk.refl _ | exact rfl | exact ⟨_, rfl⟩ | exact Nat.zero_lt_one | refine And.intro ?_ ?_ | unfold okTo | (unfold okO; conv => whnf) | (unfold okS; conv => whnf) | (unfold SlotOk; conv => whnf) | (unfold ObjOk; conv => whnf) | (unfold okCells; conv => whnf) | (unfold liveTo; conv => whnf)))
            all_goals exact Wk.int (by simp [hn])
      · have hge : k = l.length := by simp at h; omega
        subst hge
        (conv => whnf)
        refine split_intro (fun c1 => ?_) (fun c1 => ?_)
        · have c1' : 0 ≤ first l 1 := by simpa using c1
          (conv => whnf)
          refine ⟨_, ⟨c1', getMap (g1 c1')⟩, ?_⟩
          (conv => whnf)
          refine ⟨_, ⟨c1', getMap (g1 c1')⟩, ?_⟩
          (conv => whnf)
          exact Wk.of_eq (by simp [refOf, c1', Int.not_lt.2 c1'])
        · have c1' : ¬ 0 ≤ first l 1 := by simpa using c1
          (conv => whnf)
          refine split_intro (fun c3 => ?_) (fun c3 => ?_)
          · have c3' : 0 ≤ first l 3 := by simpa using c3
            (conv => whnf)
            refine ⟨_, ⟨c3', getMap (g3 c3')⟩, ?_⟩
            (conv => whnf)
            exact Wk.of_eq (by simp [refOf, c1', c3', Int.not_le.1 c1'])
          · (conv => whnf)
            refine split_intro (fun c2 => ?_) (fun c2 => ?_)
            · have c2' : 0 ≤ first l 2 := by simpa using c2
              (conv => whnf)
              refine ⟨_, ⟨c2', getMap (g2 c2')⟩, ?_⟩
              (conv => whnf)
              refine ⟨_, ⟨c2', getMap (g2 c2')⟩, ?_⟩
              (conv => whnf)
              exact Wk.of_eq (by simp [refOf, c1', c2', show ¬ 0 ≤ first l 3 by simpa using c3, Int.not_le.1 c1'])
            · (conv => whnf)
              exact Wk.of_eq (by simp [refOf, c1', show ¬ 0 ≤ first l 3 by simpa using c3, show ¬ 0 ≤ first l 2 by simpa using c2, Int.not_le.1 c1'])
end Go.Proofs.YtideppacnkilbaaDoor

set_option linter.unusedVariables false
set_option linter.unusedSimpArgs false
namespace Go.Proofs.YtideppacnkilbaaDoor
open Go Go.AL Go.AL.Bd
set_option maxRecDepth 100000
set_option maxHeartbeats 4000000
def aS1 : State := merge empty ⟨[120], 2, 9, 0⟩ 0
def aS2 : State := merge aS1 ⟨[120], 3, 4, 4⟩ 1
def aS3 : State := merge aS2 ⟨[120], 3, 2, 8⟩ 2
def aT : State := merge aS3 ⟨[120], 1, 3, 0⟩ 5
def aU : State := merge empty ⟨[120], 4, 0, 0⟩ 0
theorem awake_ : FCall Tryd.prog Gl 7 [] [] (vB true) [] := by
  refine FCall.enterL hT hmix [] Tryd.func7 rfl rfl rfl fun hbd => ?_
  (conv => whnf)
  refine CallLeaf.w (by (repeat' (first | exact ArgsTo.nil | refine ArgsTo.cons ?_ ?_ | exact ArgTo.mk' rfl (Wk.refl _) | exact ArgTo.mk' rfl Wk.nilm | exact ArgTo.mk' rfl (Wk.list _ _) | exact ArgTo.mk' rfl (Wk.agg (by (repeat' (first | exact Wks.nil | refine Wks.cons ?_ ?_ | exact Wk.refl _ | exact Wk.nilm | exact Wk.list _ _  | exact Wk.natN rfl | refine Wk.agg ?_))))))) (empty_) rfl ?_
  (conv => whnf)
  refine CallLeaf.w (by (repeat' (first | exact ArgsTo.nil | refine ArgsTo.cons ?_ ?_ | exact ArgTo.mk' rfl (Wk.refl _) | exact ArgTo.mk' rfl Wk.nilm | exact ArgTo.mk' rfl (Wk.list _ _) | exact ArgTo.mk' rfl (Wk.agg (by (repeat' (first | exact Wks.nil | refine Wks.cons ?_ ?_ | exact Wk.refl _ | exact Wk.nilm | exact Wk.list _ _  | exact Wk.natN rfl | refine Wk.agg ?_))))))) (merge_ empty ⟨[120], 2, 9, 0⟩ 0 (by decide) (by decide) (by decide)) rfl ?_
  (conv => whnf)
  refine CallLeaf.w (by (repeat' (first | exact ArgsTo.nil | refine ArgsTo.cons ?_ ?_ | exact ArgTo.mk' rfl (Wk.refl _) | exact ArgTo.mk' rfl Wk.nilm | exact ArgTo.mk' rfl (Wk.list _ _) | exact ArgTo.mk' rfl (Wk.agg (by (repeat' (first | exact Wks.nil | refine Wks.cons ?_ ?_ | exact Wk.refl _ | exact Wk.nilm | exact Wk.list _ _  | exact Wk.natN rfl | refine Wk.agg ?_))))))) (merge_ aS1 ⟨[120], 3, 4, 4⟩ 1 (by decide) (by decide) (by decide)) rfl ?_
  (conv => whnf)
  refine CallLeaf.w (by (repeat' (first | exact ArgsTo.nil | refine ArgsTo.cons ?_ ?_ | exact ArgTo.mk' rfl (Wk.refl _) | exact ArgTo.mk' rfl Wk.nilm | exact ArgTo.mk' rfl (Wk.list _ _) | exact ArgTo.mk' rfl (Wk.agg (by (repeat' (first | exact Wks.nil | refine Wks.cons ?_ ?_ | exact Wk.refl _ | exact Wk.nilm | exact Wk.list _ _  | exact Wk.natN rfl | refine Wk.agg ?_))))))) (merge_ aS2 ⟨[120], 3, 2, 8⟩ 2 (by decide) (by decide) (by decide)) rfl ?_
  (conv => whnf)
  refine CallLeaf.w (by (repeat' (first | exact ArgsTo.nil | refine ArgsTo.cons ?_ ?_ | exact ArgTo.mk' rfl (Wk.refl _) | exact ArgTo.mk' rfl Wk.nilm | exact ArgTo.mk' rfl (Wk.list _ _) | exact ArgTo.mk' rfl (Wk.agg (by (repeat' (first | exact Wks.nil | refine Wks.cons ?_ ?_ | exact Wk.refl _ | exact Wk.nilm | exact Wk.list _ _  | exact Wk.natN rfl | refine Wk.agg ?_))))))) (merge_ aS3 ⟨[120], 1, 3, 0⟩ 5 (by decide) (by decide) (by decide)) rfl ?_
  (conv => whnf)
  refine CallLeaf.w (by (repeat' (first | exact ArgsTo.nil | refine ArgsTo.cons ?_ ?_ | exact ArgTo.mk' rfl (Wk.refl _) | exact ArgTo.mk' rfl Wk.nilm | exact ArgTo.mk' rfl (Wk.list _ _) | exact ArgTo.mk' rfl (Wk.agg (by (repeat' (first | exact Wks.nil | refine Wks.cons ?_ ?_ | exact Wk.refl _ | exact Wk.nilm | exact Wk.list _ _  | exact Wk.natN rfl | refine Wk.agg ?_))))))) (empty_) rfl ?_
  (conv => whnf)
  refine CallLeaf.w (by (repeat' (first | exact ArgsTo.nil | refine ArgsTo.cons ?_ ?_ | exact ArgTo.mk' rfl (Wk.refl _) | exact ArgTo.mk' rfl Wk.nilm | exact ArgTo.mk' rfl (Wk.list _ _) | exact ArgTo.mk' rfl (Wk.agg (by (repeat' (first | exact Wks.nil | refine Wks.cons ?_ ?_ | exact Wk.refl _ | exact Wk.nilm | exact Wk.list _ _  | exact Wk.natN rfl | refine Wk.agg ?_))))))) (merge_ empty ⟨[120], 4, 0, 0⟩ 0 (by decide) (by decide) (by decide)) rfl ?_
  (conv => whnf)
  refine CallLeaf.w (by (repeat' (first | exact ArgsTo.nil | refine ArgsTo.cons ?_ ?_ | exact ArgTo.mk' rfl (Wk.refl _) | exact ArgTo.mk' rfl Wk.nilm | exact ArgTo.mk' rfl (Wk.list _ _) | exact ArgTo.mk' rfl (Wk.agg (by (repeat' (first | exact Wks.nil | refine Wks.cons ?_ ?_ | exact Wk.refl _ | exact Wk.nilm | exact Wk.list _ _  | exact Wk.natN rfl | refine Wk.agg ?_))))))) (state_ aS3) rfl ?_
  (conv => whnf)
  refine CallLeaf.w (by (repeat' (first | exact ArgsTo.nil | refine ArgsTo.cons ?_ ?_ | exact ArgTo.mk' rfl (Wk.refl _) | exact ArgTo.mk' rfl Wk.nilm | exact ArgTo.mk' rfl (Wk.list _ _) | exact ArgTo.mk' rfl (Wk.agg (by (repeat' (first | exact Wks.nil | refine Wks.cons ?_ ?_ | exact Wk.refl _ | exact Wk.nilm | exact Wk.list _ _  | exact Wk.natN rfl | refine Wk.agg ?_))))))) (same_ aS3 ⟨3, 4, 8, 1, true, false, false, []⟩) rfl ?_
  (conv => whnf)
  first | (refine split_intro (fun h => ?_) (fun h => absurd h (by decide)); conv => whnf) | skip
  refine CallLeaf.w (by (repeat' (first | exact ArgsTo.nil | refine ArgsTo.cons ?_ ?_ | exact ArgTo.mk' rfl (Wk.refl _) | exact ArgTo.mk' rfl Wk.nilm | exact ArgTo.mk' rfl (Wk.list _ _) | exact ArgTo.mk' rfl (Wk.agg (by (repeat' (first | exact Wks.nil | refine Wks.cons ?_ ?_ | exact Wk.refl _ | exact Wk.nilm | exact Wk.list _ _  | exact Wk.natN rfl | refine Wk.agg ?_))))))) (state_ aT) rfl ?_
  (conv => whnf)
  refine CallLeaf.w (by (repeat' (first | exact ArgsTo.nil | refine ArgsTo.cons ?_ ?_ | exact ArgTo.mk' rfl (Wk.refl _) | exact ArgTo.mk' rfl Wk.nilm | exact ArgTo.mk' rfl (Wk.list _ _) | exact ArgTo.mk' rfl (Wk.agg (by (repeat' (first | exact Wks.nil | refine Wks.cons ?_ ?_ | exact Wk.refl _ | exact Wk.nilm | exact Wk.list _ _  | exact Wk.natN rfl | refine Wk.agg ?_))))))) (same_ aT ⟨1, 3, 0, 5, true, false, false, [5]⟩) rfl ?_
  (conv => whnf)
  first | (refine split_intro (fun h => ?_) (fun h => absurd h (by decide)); conv => whnf) | skip
  refine CallLeaf.w (by (repeat' (first | exact ArgsTo.nil | refine ArgsTo.cons ?_ ?_ | exact ArgTo.mk' rfl (Wk.refl _) | exact ArgTo.mk' rfl Wk.nilm | exact ArgTo.mk' rfl (Wk.list _ _) | exact ArgTo.mk' rfl (Wk.agg (by (repeat' (first | exact Wks.nil | refine Wks.cons ?_ ?_ | exact Wk.refl _ | exact Wk.nilm | exact Wk.list _ _  | exact Wk.natN rfl | refine Wk.agg ?_))))))) (empty_) rfl ?_
  (conv => whnf)
  refine CallLeaf.w (by (repeat' (first | exact ArgsTo.nil | refine ArgsTo.cons ?_ ?_ | exact ArgTo.mk' rfl (Wk.refl _) | exact ArgTo.mk' rfl Wk.nilm | exact ArgTo.mk' rfl (Wk.list _ _) | exact ArgTo.mk' rfl (Wk.agg (by (repeat' (first | exact Wks.nil | refine Wks.cons ?_ ?_ | exact Wk.refl _ | exact Wk.nilm | exact Wk.list _ _  | exact Wk.natN rfl | refine Wk.agg ?_))))))) (state_ empty) rfl ?_
  (conv => whnf)
  refine CallLeaf.w (by (repeat' (first | exact ArgsTo.nil | refine ArgsTo.cons ?_ ?_ | exact ArgTo.mk' rfl (Wk.refl _) | exact ArgTo.mk' rfl Wk.nilm | exact ArgTo.mk' rfl (Wk.list _ _) | exact ArgTo.mk' rfl (Wk.agg (by (repeat' (first | exact Wks.nil | refine Wks.cons ?_ ?_ | exact Wk.refl _ | exact Wk.nilm | exact Wk.list _ _  | exact Wk.natN rfl | refine Wk.agg ?_))))))) (same_ empty ⟨0, 0, 0, -1, false, false, false, []⟩) rfl ?_
  (conv => whnf)
  first | (refine split_intro (fun h => ?_) (fun h => absurd h (by decide)); conv => whnf) | skip
  refine CallLeaf.w (by (repeat' (first | exact ArgsTo.nil | refine ArgsTo.cons ?_ ?_ | exact ArgTo.mk' rfl (Wk.refl _) | exact ArgTo.mk' rfl Wk.nilm | exact ArgTo.mk' rfl (Wk.list _ _) | exact ArgTo.mk' rfl (Wk.agg (by (repeat' (first | exact Wks.nil | refine Wks.cons ?_ ?_ | exact Wk.refl _ | exact Wk.nilm | exact Wk.list _ _  | exact Wk.natN rfl | refine Wk.agg ?_))))))) (wanted_ aU) rfl ?_
  (conv => whnf)
  first | (refine split_intro (fun h => ?_) (fun h => absurd h (by decide)); conv => whnf) | skip
  refine CallLeaf.w (by (repeat' (first | exact ArgsTo.nil | refine ArgsTo.cons ?_ ?_ | exact ArgTo.mk' rfl (Wk.refl _) | exact ArgTo.mk' rfl Wk.nilm | exact ArgTo.mk' rfl (Wk.list _ _) | exact ArgTo.mk' rfl (Wk.agg (by (repeat' (first | exact Wks.nil | refine Wks.cons ?_ ?_ | exact Wk.refl _ | exact Wk.nilm | exact Wk.list _ _  | exact Wk.natN rfl | refine Wk.agg ?_))))))) (undefined_ aU) rfl ?_
  (conv => whnf)
  first | (refine split_intro (fun h => ?_) (fun h => absurd h (by decide)); conv => whnf) | skip
  refine CallLeaf.w (by (repeat' (first | exact ArgsTo.nil | refine ArgsTo.cons ?_ ?_ | exact ArgTo.mk' rfl (Wk.refl _) | exact ArgTo.mk' rfl Wk.nilm | exact ArgTo.mk' rfl (Wk.list _ _) | exact ArgTo.mk' rfl (Wk.agg (by (repeat' (first | exact Wks.nil | refine Wks.cons ?_ ?_ | exact Wk.refl _ | exact Wk.nilm | exact Wk.list _ _  | exact Wk.natN rfl | refine Wk.agg ?_))))))) (wanted_ aS3) rfl ?_
  (conv => whnf)
  first | (refine split_intro (fun h => ?_) (fun h => absurd h (by decide)); conv => whnf) | skip
  refine CallLeaf.w (by (repeat' (first | exact ArgsTo.nil | refine ArgsTo.cons ?_ ?_ | exact ArgTo.mk' rfl (Wk.refl _) | exact ArgTo.mk' rfl Wk.nilm | exact ArgTo.mk' rfl (Wk.list _ _) | exact ArgTo.mk' rfl (Wk.agg (by (repeat' (first | exact Wks.nil | refine Wks.cons ?_ ?_ | exact Wk.refl _ | exact Wk.nilm | exact Wk.list _ _  | exact Wk.natN rfl | refine Wk.agg ?_))))))) (duplicate_ aT) rfl ?_
  (conv => whnf)
  first | (refine split_intro (fun h => ?_) (fun h => absurd h (by decide)); conv => whnf) | skip
  refine CallLeaf.w (by (repeat' (first | exact ArgsTo.nil | refine ArgsTo.cons ?_ ?_ | exact ArgTo.mk' rfl (Wk.refl _) | exact ArgTo.mk' rfl Wk.nilm | exact ArgTo.mk' rfl (Wk.list _ _) | exact ArgTo.mk' rfl (Wk.agg (by (repeat' (first | exact Wks.nil | refine Wks.cons ?_ ?_ | exact Wk.refl _ | exact Wk.nilm | exact Wk.list _ _  | exact Wk.natN rfl | refine Wk.agg ?_))))))) (join_ aT aT (by decide) (by decide) (by decide)) rfl ?_
  (conv => whnf)
  refine CallLeaf.w (by (repeat' (first | exact ArgsTo.nil | refine ArgsTo.cons ?_ ?_ | exact ArgTo.mk' rfl (Wk.refl _) | exact ArgTo.mk' rfl Wk.nilm | exact ArgTo.mk' rfl (Wk.list _ _) | exact ArgTo.mk' rfl (Wk.agg (by (repeat' (first | exact Wks.nil | refine Wks.cons ?_ ?_ | exact Wk.refl _ | exact Wk.nilm | exact Wk.list _ _  | exact Wk.natN rfl | refine Wk.agg ?_))))))) (duplicate_ (join aT aT)) rfl ?_
  (conv => whnf)
  exact Wk.bool (by decide)
end Go.Proofs.YtideppacnkilbaaDoor

/- What the rows of layer 13 share. No condition. -/
set_option linter.unusedVariables false
set_option linter.unusedSimpArgs false
namespace Go.Proofs.YtideppacnkilbaaDoor
open Go Go.AL Go.AL.Bd
open Go.ChangeShapes Go.WideShapes Go.ChangeAt Go.RowKit
theorem own : ownKnob Tryd.prog.godebug = none := by kernel_rfl
theorem laidOut : laidOutB Tryd.prog = true := by kernel_rfl
abbrev laidL {H : Type} : List (String × DataW H) := [("arlink/bind.strength", Rows.laid_arlink_bind_strength)]
abbrev doorSteps : Nat := 400
theorem door_met (os : Os) (args : Array Value) : laidMetH Tryd.prog laidL ((World.doorLaid Tryd.prog doorSteps os).forCall (fun _ _ => 0) ⟨#[], args, []⟩).memory :=
  laidMetH_of_parts3 (fuel := 8) (laidMet_of_run' 8 (by kernel_rfl) (by kernel_rfl)) (by kernel_rfl) (by kernel_rfl)
theorem gStrength : Tryd.prog.globalNamed "arlink/bind.strength" = some 0 := by kernel_rfl
theorem tStrength : (Tryd.prog.globals[0]?).map (·.type) = some 45 := by kernel_rfl
theorem globOk {W : World} (h : laidMetH Tryd.prog laidL W) : GlobOk Gl W := by
  rw [MakeChecks.laidMetH_plain _ _ _ (by kernel_rfl)] at h
  have hT := Lib.tabIs_of_head (P := Tryd.prog) (W := W) (name := "arlink/bind.strength") (k := .i64) (zs := [0, 3, 1, 2, 0, 0]) (rest := []) gStrength tStrength Tryd.underlying45 Tryd.underlying3 (by kernel_rfl) (by kernel_rfl) h
  intro g j hj
  by_cases hg : g = 0
  · subst hg
    have hj' : j < 6 := hj
    have hc := hT.cell gStrength j hj'
    rw [cell?_eq] at hc
    refine ⟨_, hc, ?_, ?_⟩
    · have : j = 0 ∨ j = 1 ∨ j = 2 ∨ j = 3 ∨ j = 4 ∨ j = 5 := by omega
      rcases this with rfl | rfl | rfl | rfl | rfl | rfl <;> exact .v _
    · have : j = 0 ∨ j = 1 ∨ j = 2 ∨ j = 3 ∨ j = 4 ∨ j = 5 := by omega
      rcases this with rfl | rfl | rfl | rfl | rfl | rfl <;> rfl
  · exfalso
    have : Gl g = [] := by unfold Gl; split <;> simp_all
    rw [this] at hj; simp at hj

theorem use_of {n : Nat} {ds : List D} (h : Rd Tryd.prog (n + 3) 39 ds) : ∃ x : Use, ds = x.enc := by
  simp only [Rd, Tryd.underlying39, Tryd.underlying37, Tryd.underlying3, Tryd.underlying9, RdFs] at h
  obtain ⟨a, b, rfl, ⟨a1, b1, rfl, ⟨s, _, rfl⟩, a2, b2, rfl, ⟨x1, _, rfl⟩, a3, b3, rfl, ⟨x2, _, rfl⟩, a4, b4, rfl, ⟨x3, _, rfl⟩, rfl⟩, a5, b5, rfl, ⟨x4, _, rfl⟩, rfl⟩ := h
  exact ⟨⟨⟨s, x1, x2, x3⟩, x4⟩, rfl⟩
theorem arg_LU {ds : List D} (h : Rd Tryd.prog 8 22 ds) : ∃ l : List Use, True ∧ argD Tryd.prog 22 ds = LU l := by
  obtain ⟨l, e⟩ := list_of (f := Use.enc) Tryd.underlying22 (fun x => use_of (n := 4)) h
  exact ⟨l, trivial, e⟩
theorem arg_Use {ds : List D} (h : Rd Tryd.prog 8 39 ds) : ∃ x : Use, True ∧ argD Tryd.prog 39 ds = .agg x.enc := by
  obtain ⟨x, rfl⟩ := use_of (n := 5) h
  exact ⟨x, trivial, by simp only [argD, Tryd.underlying39]⟩
theorem arg_u8 {ds : List D} (h : Rd Tryd.prog 8 5 ds) : ∃ t : Int, (0 ≤ t ∧ t ≤ 255) ∧ argD Tryd.prog 5 ds = .v (.int .u8 t) := arg_u8' Tryd.underlying5 h
end Go.Proofs.YtideppacnkilbaaDoor
