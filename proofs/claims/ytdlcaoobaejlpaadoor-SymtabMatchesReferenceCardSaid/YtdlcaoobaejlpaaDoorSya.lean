/- The walks through layer 13. No condition. -/
import Derived.Test.YtdlcaoobaejlpaaDoorAop
import Derived.Test.YtdlcaoobaejlpaaDoorAoC
import Derived.Test.YtdlcaoobaejlpaaDoorProg
import Derived.KernelRfl
import Derived.Shelf.SlIter.Nil
import Derived.Shelf.SortM.Plain
import Derived.Shelf.SortM.SortNone
import Derived.Ground.GgzProg
import Derived.Ground.SlgmProg
set_option linter.unusedVariables false
set_option linter.unusedSimpArgs false
namespace Go.Proofs.YtdlcaoobaejlpaaDoor
open Go Go.AL Go.AL.Bd
theorem hT : TOk Tryd.prog (tabOf Tryd.prog) := tabOf_ok _
theorem hmix : Tryd.prog.follows .mixedOrders = true := by kernel_rfl
def Gl : Glob := { g := fun g => match g with | 0 => [vI 0, vI 3, vI 1, vI 2, vI 0, vI 0] | _ => [] }
set_option maxRecDepth 100000

theorem empty_ : FCall Tryd.prog Gl 33 [] [] (.agg empty.encN) [] := by
  refine FCall.enterL hT hmix [] Tryd.func33 rfl rfl rfl fun hbd => ?_
  (conv => whnf)
  exact Wk.agg (by (repeat' (first | exact Wks.nil | refine Wks.cons ?_ ?_ | exact Wk.refl _ | exact Wk.nilm | exact Wk.list _ _  | exact Wk.natN rfl | refine Wk.agg ?_)))

theorem wanted_ (s : State) : FCall Tryd.prog Gl 25 [.agg s.enc] [] (vB (wanted s)) [] := by
  refine FCall.enterL hT hmix [] Tryd.func25 rfl rfl rfl fun hbd => ?_
  (conv => whnf)
  refine split_intro (fun h => ?_) (fun h => ?_)
  · (conv => whnf)
    exact Wk.bool (by simp [wanted, h])
  · (conv => whnf)
    exact Wk.bool (by simp [wanted, h])

theorem numbers_ (a b : List Int) : FCall Tryd.prog Gl 35 [LI a, LI b] [] (vB (decide (a = b))) [] := by
  refine FCall.enterL hT hmix [] Tryd.func35 rfl rfl rfl fun hbd => ?_
  have ha := bds_list hbd (.head _)
  (conv => whnf)
  refine split_intro (fun h => ?_) (fun h => ?_)
  · (conv => whnf)
    exact Wk.bool (by simp at h; simp; intro e; subst e; exact h rfl)
  · have hab : a.length = b.length := by simp at h; omega
    (conv => whnf)
    refine LWp.loop hT hmix [] (fun k : Nat => [(5, vI k)]) (fun _ => []) (fun k => k ≤ a.length ∧ a.take k = b.take k) (fun k => a.length - k) 0 ⟨Nat.zero_le _, rfl⟩ ?_
    (conv => whnf)
    refine ⟨?_, fun k ⟨hk, hkk⟩ => ?_⟩
    · (repeat' (first | exact trivial | exact Wk.refl _ | exact ObWk.refl _ | exact rfl | exact ⟨_, rfl⟩ | exact Nat.zero_lt_one | refine And.intro ?_ ?_ | unfold okTo | (unfold okO; conv => whnf) | (unfold okS; conv => whnf) | (unfold SlotOk; conv => whnf) | (unfold ObjOk; conv => whnf) | (unfold okCells; conv => whnf) | (unfold liveTo; conv => whnf) | exact Nat.zero_lt_succ _))
    · (conv => whnf)
      refine split_intro (fun h => ?_) (fun h => ?_)
      · have hlt : k < a.length := by simpa using h
        obtain ⟨x, hx⟩ := exI hlt
        obtain ⟨y, hy⟩ := exI (hab ▸ hlt : k < b.length)
        (conv => whnf)
        refine ⟨_, ⟨by omega, getMap hx⟩, ?_⟩
        (conv => whnf)
        refine ⟨_, ⟨by omega, getMap hy⟩, ?_⟩
        (conv => whnf)
        refine split_intro (fun hxy => ?_) (fun hxy => ?_)
        · (conv => whnf)
          exact Wk.bool (by
            symm; simp; intro e; subst e
            simp [hx] at hy; simp [hy] at hxy)
        · (conv => whnf)
          refine ⟨_, add64 (c := ((k + 1 : Nat) : Int)) (by omega) (by omega), ?_⟩
          (conv => whnf)
          refine ⟨k + 1, ⟨⟨by omega, ?_⟩, by simp only []; omega⟩, ?_⟩
          · have : x = y := by simpa using hxy
            subst this
            rw [List.take_add_one, List.take_add_one, hx, hy, hkk]
          · (repeat' (first | exact trivial | exact Wk.refl _ | exact ObWk.refl _ | exact rfl | exact ⟨_, rfl⟩ | exact Nat.zero_lt_one | refine And.intro ?_ ?_ | unfold okTo | (unfold okO; conv => whnf) | (unfold okS; conv => whnf) | (unfold SlotOk; conv => whnf) | (unfold ObjOk; conv => whnf) | (unfold okCells; conv => whnf) | (unfold liveTo; conv => whnf) | exact Nat.zero_lt_succ _))
      · (conv => whnf)
        exact Wk.bool (by
          have hge : a.length ≤ k := by simpa using h
          symm; simp
          rwa [List.take_of_length_le hge, List.take_of_length_le (by omega)] at hkk)

theorem state_ (s : State) : FCall Tryd.prog Gl 14 [.agg s.enc] [] (.agg s.enc) [] := by
  refine FCall.enterL hT hmix [] Tryd.func14 rfl rfl rfl fun hbd => ?_
  (conv => whnf)
  exact Wk.refl _

theorem first_ (l : List Use) (b : Int) : FCall Tryd.prog Gl 51 [LU l, vI b] [] (vI (first l b)) [] := by
  refine FCall.enterL hT hmix [] Tryd.func51 rfl rfl rfl fun hbd => ?_
  have ha := bds_list hbd (.head _)
  (conv => whnf)
  refine LWp.loop hT hmix [] (fun k : Nat => [(5, vI k)]) (fun _ => []) (fun k => k ≤ l.length ∧ ∀ j x, j < k → l[j]? = some x → x.sym.bind ≠ b) (fun k => l.length - k) 0 ⟨Nat.zero_le _, fun j x h => by omega⟩ ?_
  (conv => whnf)
  refine ⟨?_, fun k ⟨hk, hkk⟩ => ?_⟩
  · (repeat' (first | exact trivial | exact Wk.refl _ | exact ObWk.refl _ | exact rfl | exact ⟨_, rfl⟩ | exact Nat.zero_lt_one | refine And.intro ?_ ?_ | unfold okTo | (unfold okO; conv => whnf) | (unfold okS; conv => whnf) | (unfold SlotOk; conv => whnf) | (unfold ObjOk; conv => whnf) | (unfold okCells; conv => whnf) | (unfold liveTo; conv => whnf) | exact Nat.zero_lt_succ _))
  · (conv => whnf)
    refine split_intro (fun h => ?_) (fun h => ?_)
    · have hlt : k < l.length := by simpa using h
      obtain ⟨x, hx⟩ := exI hlt
      (conv => whnf)
      refine ⟨_, ⟨by omega, getMap hx⟩, ?_⟩
      (conv => whnf)
      refine split_intro (fun hxy => ?_) (fun hxy => ?_)
      · (conv => whnf)
        exact Wk.int (by rw [first_eq hx (by simpa using hxy) hkk])
      · (conv => whnf)
        refine ⟨_, add64 (c := ((k + 1 : Nat) : Int)) (by omega) (by omega), ?_⟩
        (conv => whnf)
        refine ⟨k + 1, ⟨⟨by omega, fun j y hj hy => ?_⟩, by simp only []; omega⟩, ?_⟩
        · rcases Nat.lt_or_ge j k with h1 | h1
          · exact hkk j y h1 hy
          · obtain rfl : j = k := by omega
            rw [hx] at hy
            simp at hy; subst hy
            simpa using hxy
        · (repeat' (first | exact trivial | exact Wk.refl _ | exact ObWk.refl _ | exact rfl | exact ⟨_, rfl⟩ | exact Nat.zero_lt_one | refine And.intro ?_ ?_ | unfold okTo | (unfold okO; conv => whnf) | (unfold okS; conv => whnf) | (unfold SlotOk; conv => whnf) | (unfold ObjOk; conv => whnf) | (unfold okCells; conv => whnf) | (unfold liveTo; conv => whnf) | exact Nat.zero_lt_succ _))
    · (conv => whnf)
      have hge : l.length ≤ k := by simpa using h
      exact Wk.int (by rw [first_neg (fun j x hj => hkk j x (by have := (List.getElem?_eq_some_iff.1 hj).1; omega) hj)])

theorem one_ (x : Sym) (u : Int) : FCall Tryd.prog Gl 50 [.agg x.enc, vI u] [] (.agg (Bd.one x u).encN) [] := by
  refine FCall.enterL hT hmix [] Tryd.func50 rfl rfl rfl fun hbd => ?_
  (conv => whnf)
  refine CallLeaf.w (by (repeat' (first | exact ArgsTo.nil | refine ArgsTo.cons ?_ ?_ | exact ArgTo.mk' rfl (Wk.refl _) | exact ArgTo.mk' rfl Wk.nilm | exact ArgTo.mk' rfl (Wk.int (by simp)) | exact ArgTo.mk' rfl (Wk.list _ _) | exact ArgTo.mk' rfl (Wk.agg (by (repeat' (first | exact Wks.nil | refine Wks.cons ?_ ?_ | exact Wk.refl _ | exact Wk.nilm | exact Wk.list _ _  | exact Wk.natN rfl | refine Wk.agg ?_))))))) (empty_) rfl ?_
  (conv => whnf)
  refine split_intro (fun h1 => ?_) (fun h1 => ?_)
  · (conv => whnf)
    exact Wk.of_eq (by simp at h1; simp [Bd.one, h1, empty])
  · (conv => whnf)
    refine split_intro (fun h2 => ?_) (fun h2 => ?_)
    · (conv => whnf)
      exact Wk.of_eq (by simp at h1 h2; simp [Bd.one, h2, empty])
    · (conv => whnf)
      refine split_intro (fun h3 => ?_) (fun h3 => ?_)
      · (conv => whnf)
        refine split_intro (fun h4 => ?_) (fun h4 => ?_)
        · (conv => whnf)
          simp at h1 h2 h3 h4
          omega
        · (conv => whnf)
          exact Wk.of_eq (by simp at h1 h2 h3 h4; simp [Bd.one, h3, empty])
      · (conv => whnf)
        refine split_intro (fun h4 => ?_) (fun h4 => ?_)
        · (conv => whnf)
          exact Wk.of_eq (by simp at h1 h2 h3 h4; simp [Bd.one, h4, empty])
        · (conv => whnf)
          exact Wk.of_eq (by simp at h1 h2 h3 h4; simp [Bd.one, h1, h2, h3, h4, empty])
end Go.Proofs.YtdlcaoobaejlpaaDoor

set_option linter.unusedVariables false
set_option linter.unusedSimpArgs false
namespace Go.Proofs.YtdlcaoobaejlpaaDoor
open Go Go.AL Go.AL.Bd
set_option maxRecDepth 100000
theorem growP_ (n : Int) (h0 : 0 < n) (h1 : n * 8 ≤ 140737488355328) : FCall Tryd.prog Gl 66 [.nil, vI n] [] (.list (.tok 0) []) [.tok 0 1] := by
  refine FCall.enterO hT hmix [] Tryd.func66 rfl rfl rfl fun hbd => ?_
  (conv => whnf)
  refine split_intro (fun h2 => ?_) (fun h2 => ?_)
  · simp at h2; omega
  · (conv => whnf)
    refine ⟨0, sub64 (by omega) (by omega), ?_⟩
    (conv => whnf)
    refine ⟨n, sub64 (by omega) (by omega), ?_⟩
    (conv => whnf)
    refine split_intro (fun h3 => ?_) (fun h3 => ?_)
    · (conv => whnf)
      refine ⟨⟨rfl, rfl⟩, ?_⟩
      (conv => whnf)
      refine ⟨⟨by omega, (by show _ * 8 ≤ _; omega)⟩, ?_⟩
      (conv => whnf)
      refine ⟨rfl, ?_⟩
      (conv => whnf)
      refine ⟨[2600], rfl, by (try unfold pullOk); (repeat' (first | exact trivial | exact ObWk.refl _ | refine And.intro ?_ ?_ | unfold pullOk)), ?_⟩
      exact Wk.refl _
    · simp at h3; omega

theorem grow0_ (n : Int) (hn : n = 0) : FCall Tryd.prog Gl 66 [.nil, vI n] [] .nil [] := by
  subst hn
  refine FCall.enterL hT hmix [] Tryd.func66 rfl rfl rfl fun hbd => ?_
  (conv => whnf)
  refine ⟨0, rfl, ?_⟩
  (conv => whnf)
  refine ⟨0, rfl, ?_⟩
  (conv => whnf)
  exact Wk.refl _

def sumLen (ls : List (List Int)) : Nat := ls.flatten.length
theorem take_flatten {α : Type} {ls : List (List α)} {k : Nat} {x : List α} (h : ls[k]? = some x) : (ls.take (k + 1)).flatten = (ls.take k).flatten ++ x := by
  rw [List.take_add_one, h]; simp
theorem take_flatten_le {α : Type} (ls : List (List α)) (k : Nat) : (ls.take k).flatten.length ≤ ls.flatten.length := by
  have : ls.flatten.length = (ls.take k).flatten.length + (ls.drop k).flatten.length := by
    rw [← List.length_append, ← List.flatten_append, List.take_append_drop]
  omega
abbrev eLI (l : List Int) : List D := [LI l]
theorem concat_ (ls : List (List Int)) (hb : ls.flatten.length * 8 ≤ 140737488355328) : FCall Tryd.prog Gl 60 [.list .any (ls.map eLI)] [] (LIn ls.flatten) [] := by
  refine FCall.enterL hT hmix [] Tryd.func60 rfl rfl rfl fun hbd => ?_
  have ha := bds_list hbd (.head _)
  (conv => whnf)
  refine LWp.loop hT hmix [] (fun k : Nat => [(11, vI k), (3, vI ((ls.take k).flatten.length : Nat))]) (fun _ => []) (fun k => k ≤ ls.length) (fun k => ls.length - k) 0 (Nat.zero_le _) ?_
  (conv => whnf)
  refine ⟨?_, fun k hk => ?_⟩
  · (repeat' (first | exact trivial | exact Wk.refl _ | exact ObWk.refl _ | exact rfl | exact ⟨_, rfl⟩ | exact Nat.zero_lt_one | refine And.intro ?_ ?_ | unfold okTo | (unfold okO; conv => whnf) | (unfold okS; conv => whnf) | (unfold SlotOk; conv => whnf) | (unfold ObjOk; conv => whnf) | (unfold okCells; conv => whnf) | (unfold liveTo; conv => whnf) | exact Nat.zero_lt_succ _))
  · have hsz := take_flatten_le ls k
    have hsz1 := take_flatten_le ls (k + 1)
    (conv => whnf)
    refine split_intro (fun h => ?_) (fun h => ?_)
    · have hlt : k < ls.length := by simpa using h
      obtain ⟨x, hx⟩ := exI hlt
      have htk := take_flatten hx
      (conv => whnf)
      refine ⟨_, ⟨by omega, getMap hx⟩, ?_⟩
      (conv => whnf)
      refine ⟨_, add64 (c := (((ls.take (k + 1)).flatten.length : Nat) : Int)) (by rw [htk]; simp) (by omega), ?_⟩
      (conv => whnf)
      refine ⟨_, add64 (c := ((k + 1 : Nat) : Int)) (by omega) (by omega), ?_⟩
      (conv => whnf)
      refine ⟨k + 1, ⟨by omega, by simp only []; omega⟩, ?_⟩
      (repeat' (first | exact trivial | exact Wk.refl _ | exact ObWk.refl _ | exact rfl | exact ⟨_, rfl⟩ | exact Nat.zero_lt_one | refine And.intro ?_ ?_ | unfold okTo | (unfold okO; conv => whnf) | (unfold okS; conv => whnf) | (unfold SlotOk; conv => whnf) | (unfold ObjOk; conv => whnf) | (unfold okCells; conv => whnf) | (unfold liveTo; conv => whnf) | exact Nat.zero_lt_succ _))
    · have hge : k = ls.length := by simp at h; omega
      subst hge
      rw [List.take_length] at hsz
      rcases Nat.eq_zero_or_pos ls.flatten.length with h0 | h0
      · have hall : ∀ x ∈ ls, x = [] := fun x hx => by
          have := List.sublist_flatten_of_mem hx
          exact List.eq_nil_of_length_eq_zero (by have := this.length_le; omega)
        (conv => whnf)
        refine CallLeaf.w (by (repeat' (first | exact ArgsTo.nil | refine ArgsTo.cons ?_ ?_ | exact ArgTo.mk' rfl (Wk.refl _) | exact ArgTo.mk' rfl Wk.nilm | exact ArgTo.mk' rfl (Wk.int (by simp)) | exact ArgTo.mk' rfl (Wk.list _ _) | exact ArgTo.mk' rfl (Wk.agg (by (repeat' (first | exact Wks.nil | refine Wks.cons ?_ ?_ | exact Wk.refl _ | exact Wk.nilm | exact Wk.list _ _  | exact Wk.natN rfl | refine Wk.agg ?_))))))) (grow0_ _ (by rw [List.take_length]; omega)) rfl ?_
        (conv => whnf)
        refine LWp.loop hT hmix [] (fun k : Nat => [(27, vI k), (6, .list (.tok 900000) [])]) (fun _ => [(900000, .tok 0 1)]) (fun k => k ≤ ls.length) (fun k => ls.length - k) 0 (Nat.zero_le _) ?_
        (conv => whnf)
        refine ⟨?_, fun k hk => ?_⟩
        · (repeat' (first | exact trivial | exact Wk.refl _ | exact ObWk.refl _ | exact rfl | exact ⟨_, rfl⟩ | exact Nat.zero_lt_one | refine And.intro ?_ ?_ | unfold okTo | (unfold okO; conv => whnf) | (unfold okS; conv => whnf) | (unfold SlotOk; conv => whnf) | (unfold ObjOk; conv => whnf) | (unfold okCells; conv => whnf) | (unfold liveTo; conv => whnf) | exact Nat.zero_lt_succ _))
        · (conv => whnf)
          refine split_intro (fun h => ?_) (fun h => ?_)
          · have hlt : k < ls.length := by simpa using h
            obtain ⟨x, hx⟩ := exI hlt
            obtain rfl := hall x (List.mem_of_getElem? hx)
            (conv => whnf)
            refine ⟨_, ⟨by omega, getMap hx⟩, ?_⟩
            (conv => whnf)
            refine ⟨_, appL (xs := []) (ys := []) (zs := []) rfl rfl (fun _ => rfl) rfl (by decide), ?_⟩
            (conv => whnf)
            refine ⟨_, add64 (c := ((k + 1 : Nat) : Int)) (by omega) (by omega), ?_⟩
            (conv => whnf)
            refine ⟨k + 1, ⟨by omega, by simp only []; omega⟩, ?_⟩
            (repeat' (first | exact trivial | exact Wk.refl _ | exact ObWk.refl _ | exact rfl | exact ⟨_, rfl⟩ | exact Nat.zero_lt_one | refine And.intro ?_ ?_ | unfold okTo | (unfold okO; conv => whnf) | (unfold okS; conv => whnf) | (unfold SlotOk; conv => whnf) | (unfold ObjOk; conv => whnf) | (unfold okCells; conv => whnf) | (unfold liveTo; conv => whnf) | exact Nat.zero_lt_succ _))
          · (conv => whnf)
            have : ls.flatten = [] := List.eq_nil_of_length_eq_zero h0
            exact Wk.nat' (by rw [this]; rfl)
      · (conv => whnf)
        refine CallLeaf.o [4616] (by (repeat' (first | exact ArgsTo.nil | refine ArgsTo.cons ?_ ?_ | exact ArgTo.mk' rfl (Wk.refl _) | exact ArgTo.mk' rfl Wk.nilm | exact ArgTo.mk' rfl (Wk.int (by simp)) | exact ArgTo.mk' rfl (Wk.list _ _) | exact ArgTo.mk' rfl (Wk.agg (by (repeat' (first | exact Wks.nil | refine Wks.cons ?_ ?_ | exact Wk.refl _ | exact Wk.nilm | exact Wk.list _ _  | exact Wk.natN rfl | refine Wk.agg ?_))))))) (growP_ _ (by rw [List.take_length]; omega) (by rw [List.take_length]; omega)) rfl rfl (by (repeat' (first | exact trivial | exact rfl | refine And.intro ?_ ?_))) (by (repeat' (first | exact trivial | exact rfl | refine And.intro ?_ ?_))) (by (repeat' (first | exact trivial | exact rfl | refine And.intro ?_ ?_))) rfl rfl ?_
        (conv => whnf)
        refine LWp.loop hT hmix [] (fun k : Nat => [(27, vI k), (6, .list (.tok 4616) ((ls.take k).flatten.map eI))]) (fun k => [(4616, .tok ((ls.take k).flatten.map eI).length 1)]) (fun k => k ≤ ls.length) (fun k => ls.length - k) 0 (Nat.zero_le _) ?_
        (conv => whnf)
        refine ⟨?_, fun k hk => ?_⟩
        · (repeat' (first | exact trivial | exact Wk.refl _ | exact ObWk.refl _ | exact rfl | exact ⟨_, rfl⟩ | exact Nat.zero_lt_one | refine And.intro ?_ ?_ | unfold okTo | (unfold okO; conv => whnf) | (unfold okS; conv => whnf) | (unfold SlotOk; conv => whnf) | (unfold ObjOk; conv => whnf) | (unfold okCells; conv => whnf) | (unfold liveTo; conv => whnf) | exact Nat.zero_lt_succ _))
        · have hsz1 := take_flatten_le ls (k + 1)
          (conv => whnf)
          refine split_intro (fun h => ?_) (fun h => ?_)
          · have hlt : k < ls.length := by simpa using h
            obtain ⟨x, hx⟩ := exI hlt
            have htk := take_flatten hx
            (conv => whnf)
            refine ⟨_, ⟨by omega, getMap hx⟩, ?_⟩
            (conv => whnf)
            refine ⟨_, appL rfl rfl (fun _ => rfl) htk.symm (by show _ * 8 ≤ _; omega), ?_⟩
            (conv => whnf)
            refine ⟨_, add64 (c := ((k + 1 : Nat) : Int)) (by omega) (by omega), ?_⟩
            (conv => whnf)
            refine ⟨k + 1, ⟨by omega, by simp only []; omega⟩, ?_⟩
            (repeat' (first | exact trivial | exact Wk.refl _ | exact ObWk.refl _ | exact rfl | exact ⟨_, rfl⟩ | exact Nat.zero_lt_one | refine And.intro ?_ ?_ | unfold okTo | (unfold okO; conv => whnf) | (unfold okS; conv => whnf) | (unfold SlotOk; conv => whnf) | (unfold ObjOk; conv => whnf) | (unfold okCells; conv => whnf) | (unfold liveTo; conv => whnf) | exact Nat.zero_lt_succ _))
          · (conv => whnf)
            have hge : k = ls.length := by simp at h; omega
            exact Wk.nat' (by rw [hge, List.take_length])
end Go.Proofs.YtdlcaoobaejlpaaDoor

set_option linter.unusedVariables false
set_option linter.unusedSimpArgs false
namespace Go.Proofs.YtdlcaoobaejlpaaDoor
open Go Go.AL Go.AL.Bd
set_option maxRecDepth 100000

theorem strength_drop {n : Int} (h0 : 0 ≤ n) (h1 : n < 6) : ∃ r, (Gl 0).drop (n.toNat * 1) = vI (strength n) :: r := by
  obtain ⟨m, rfl⟩ : ∃ m : Nat, n = m := ⟨n.toNat, by omega⟩
  have : m = 0 ∨ m = 1 ∨ m = 2 ∨ m = 3 ∨ m = 4 ∨ m = 5 := by omega
  rcases this with rfl | rfl | rfl | rfl | rfl | rfl <;> exact ⟨_, rfl⟩

theorem join_ (a b : State) (ha : 0 ≤ a.bind ∧ a.bind < 6) (hb : 0 ≤ b.bind ∧ b.bind < 6) (hs : (a.strongs ++ b.strongs).length * 8 ≤ 140737488355328) :
    FCall Tryd.prog Gl 49 [.agg a.enc, .agg b.enc] [] (.agg (join a b).encN) [] := by
  obtain ⟨r1, e1⟩ := strength_drop hb.1 hb.2
  obtain ⟨r2, e2⟩ := strength_drop ha.1 ha.2
  have hcat := concat_ [a.strongs, b.strongs] (by simpa using hs)
  refine FCall.enterL hT hmix [] Tryd.func49 rfl rfl rfl fun hbd => ?_
  (conv => whnf)
  refine ⟨_, ⟨hb.1, hb.2, e1⟩, ?_⟩
  (conv => whnf)
  refine ⟨_, ⟨ha.1, ha.2, e2⟩, ?_⟩
  (conv => whnf)
  refine split_intro (fun h => ?_) (fun h => ?_)
  · (conv => whnf)
    refine split_intro (fun h1 => ?_) (fun h1 => ?_)
    all_goals
      (conv => whnf)
      refine split_intro (fun h2 => ?_) (fun h2 => ?_)
      all_goals
        (conv => whnf)
        refine split_intro (fun h3 => ?_) (fun h3 => ?_)
        all_goals
          (conv => whnf)
          refine CallLeaf.w (by (repeat' (first | exact ArgsTo.nil | refine ArgsTo.cons ?_ ?_ | exact ArgTo.mk' rfl (Wk.refl _) | exact ArgTo.mk' rfl Wk.nilm | exact ArgTo.mk' rfl (Wk.int (by simp)) | exact ArgTo.mk' rfl (Wk.list _ _) | exact ArgTo.mk' rfl (Wk.agg (by (repeat' (first | exact Wks.nil | refine Wks.cons ?_ ?_ | exact Wk.refl _ | exact Wk.nilm | exact Wk.list _ _  | exact Wk.natN rfl | refine Wk.agg ?_))))))) (hcat) rfl ?_
          (conv => whnf)
          exact Wk.of_eq (by simp at h h1 h2 h3; simp [join, h, h1, h2, h3])
  · (conv => whnf)
    refine split_intro (fun h4 => ?_) (fun h4 => ?_)
    · (conv => whnf)
      refine split_intro (fun h5 => ?_) (fun h5 => ?_)
      all_goals
        (conv => whnf)
        refine split_intro (fun h1 => ?_) (fun h1 => ?_)
        all_goals
          (conv => whnf)
          refine split_intro (fun h2 => ?_) (fun h2 => ?_)
          all_goals
            (conv => whnf)
            refine split_intro (fun h3 => ?_) (fun h3 => ?_)
            all_goals
              (conv => whnf)
              refine CallLeaf.w (by (repeat' (first | exact ArgsTo.nil | refine ArgsTo.cons ?_ ?_ | exact ArgTo.mk' rfl (Wk.refl _) | exact ArgTo.mk' rfl Wk.nilm | exact ArgTo.mk' rfl (Wk.int (by simp)) | exact ArgTo.mk' rfl (Wk.list _ _) | exact ArgTo.mk' rfl (Wk.agg (by (repeat' (first | exact Wks.nil | refine Wks.cons ?_ ?_ | exact Wk.refl _ | exact Wk.nilm | exact Wk.list _ _  | exact Wk.natN rfl | refine Wk.agg ?_))))))) (hcat) rfl ?_
              (conv => whnf)
              exact Wk.of_eq (by (try simp only [goMax]); simp at h h1 h2 h3 h4 h5; have hn := Int.not_lt.2 h; rw [h4] at hn; simp [join, h1, h2, h3, h4, h5, hn])
    · (conv => whnf)
      refine split_intro (fun h1 => ?_) (fun h1 => ?_)
      all_goals
        (conv => whnf)
        refine split_intro (fun h2 => ?_) (fun h2 => ?_)
        all_goals
          (conv => whnf)
          refine split_intro (fun h3 => ?_) (fun h3 => ?_)
          all_goals
            (conv => whnf)
            refine CallLeaf.w (by (repeat' (first | exact ArgsTo.nil | refine ArgsTo.cons ?_ ?_ | exact ArgTo.mk' rfl (Wk.refl _) | exact ArgTo.mk' rfl Wk.nilm | exact ArgTo.mk' rfl (Wk.int (by simp)) | exact ArgTo.mk' rfl (Wk.list _ _) | exact ArgTo.mk' rfl (Wk.agg (by (repeat' (first | exact Wks.nil | refine Wks.cons ?_ ?_ | exact Wk.refl _ | exact Wk.nilm | exact Wk.list _ _  | exact Wk.natN rfl | refine Wk.agg ?_))))))) (hcat) rfl ?_
            (conv => whnf)
            exact Wk.of_eq (by simp at h h1 h2 h3 h4; simp [join, h1, h2, h3, h4, Int.not_lt.2 h])

theorem merge_ (s : State) (x : Sym) (u : Int) (hs : 0 ≤ s.bind ∧ s.bind < 6) (hx : 1 ≤ x.bind ∧ x.bind ≤ 5) (hl : s.strongs.length ≤ 1000) :
    FCall Tryd.prog Gl 34 [.agg s.enc, .agg x.enc, vI u] [] (.agg (merge s x u).encN) [] := by
  have h1 := one_strongs x u
  have hj := join_ s (Bd.one x u) hs (one_bind u hx) (by simp; omega)
  refine FCall.enterL hT hmix [] Tryd.func34 rfl rfl rfl fun hbd => ?_
  (conv => whnf)
  refine CallLeaf.w (by (repeat' (first | exact ArgsTo.nil | refine ArgsTo.cons ?_ ?_ | exact ArgTo.mk' rfl (Wk.refl _) | exact ArgTo.mk' rfl Wk.nilm | exact ArgTo.mk' rfl (Wk.int (by simp)) | exact ArgTo.mk' rfl (Wk.list _ _) | exact ArgTo.mk' rfl (Wk.agg (by (repeat' (first | exact Wks.nil | refine Wks.cons ?_ ?_ | exact Wk.refl _ | exact Wk.nilm | exact Wk.list _ _  | exact Wk.natN rfl | refine Wk.agg ?_))))))) (one_ x u) rfl ?_
  (conv => whnf)
  refine CallLeaf.w (by (repeat' (first | exact ArgsTo.nil | refine ArgsTo.cons ?_ ?_ | exact ArgTo.mk' rfl (Wk.refl _) | exact ArgTo.mk' rfl Wk.nilm | exact ArgTo.mk' rfl (Wk.int (by simp)) | exact ArgTo.mk' rfl (Wk.list _ _) | exact ArgTo.mk' rfl (Wk.agg (by (repeat' (first | exact Wks.nil | refine Wks.cons ?_ ?_ | exact Wk.refl _ | exact Wk.nilm | exact Wk.list _ _  | exact Wk.natN rfl | refine Wk.agg ?_))))))) (hj) rfl ?_
  (conv => whnf)
  exact Wk.refl _

theorem same_ (a b : State) : FCall Tryd.prog Gl 13 [.agg a.enc, .agg b.enc] [] (vB (decide (a = b))) [] := by
  have hn := numbers_ a.strongs b.strongs
  have key : decide (a = b) = (a.bind == b.bind && (a.size == b.size && (a.align == b.align && (a.unit == b.unit && (a.defd == b.defd && (a.sref == b.sref && (a.wref == b.wref && decide (a.strongs = b.strongs)))))))) := by
    rw [Bool.eq_iff_iff]; cases a; cases b; simp [State.mk.injEq]
  refine FCall.enterL hT hmix [] Tryd.func13 rfl rfl rfl fun hbd => ?_
  (conv => whnf)
  refine split_intro (fun h1 => ?_) (fun h1 => ?_)
  · (conv => whnf)
    refine split_intro (fun h2 => ?_) (fun h2 => ?_)
    · (conv => whnf)
      refine split_intro (fun h3 => ?_) (fun h3 => ?_)
      · (conv => whnf)
        refine split_intro (fun h4 => ?_) (fun h4 => ?_)
        · (conv => whnf)
          refine split_intro (fun h5 => ?_) (fun h5 => ?_)
          · (conv => whnf)
            refine split_intro (fun h6 => ?_) (fun h6 => ?_)
            · (conv => whnf)
              refine split_intro (fun h7 => ?_) (fun h7 => ?_)
              · (conv => whnf)
                refine CallLeaf.w (by (repeat' (first | exact ArgsTo.nil | refine ArgsTo.cons ?_ ?_ | exact ArgTo.mk' rfl (Wk.refl _) | exact ArgTo.mk' rfl Wk.nilm | exact ArgTo.mk' rfl (Wk.int (by simp)) | exact ArgTo.mk' rfl (Wk.list _ _) | exact ArgTo.mk' rfl (Wk.agg (by (repeat' (first | exact Wks.nil | refine Wks.cons ?_ ?_ | exact Wk.refl _ | exact Wk.nilm | exact Wk.list _ _  | exact Wk.natN rfl | refine Wk.agg ?_))))))) (hn) rfl ?_
                (conv => whnf)
                exact Wk.bool (by rw [key, h1, h2, h3, h4, h5, h6, h7]; simp)
              · (conv => whnf)
                exact Wk.bool (by rw [key, h7]; simp)
            · (conv => whnf)
              exact Wk.bool (by rw [key, h6]; simp)
          · (conv => whnf)
            exact Wk.bool (by rw [key, h5]; simp)
        · (conv => whnf)
          exact Wk.bool (by rw [key, h4]; simp)
      · (conv => whnf)
        exact Wk.bool (by rw [key, h3]; simp)
    · (conv => whnf)
      exact Wk.bool (by rw [key, h2]; simp)
  · (conv => whnf)
    exact Wk.bool (by rw [key, h1]; simp)
end Go.Proofs.YtdlcaoobaejlpaaDoor

set_option linter.unusedVariables false
set_option linter.unusedSimpArgs false
namespace Go.Proofs.YtdlcaoobaejlpaaDoor
open Go Go.AL Go.AL.Bd
set_option maxRecDepth 100000
set_option maxHeartbeats 4000000
theorem refOf_ (l : List Use) (hl : l.length ≤ 1000) : FCall Tryd.prog Gl 37 [LU l] [] (.agg (refOf l).encN) [] := by
  have g1 := useAt_get (l := l) (b := 1)
  have g2 := useAt_get (l := l) (b := 2)
  have g3 := useAt_get (l := l) (b := 3)
  refine FCall.enterL hT hmix [] Tryd.func37 rfl rfl rfl fun hbd => ?_
  (conv => whnf)
  refine CallLeaf.w (by (repeat' (first | exact ArgsTo.nil | refine ArgsTo.cons ?_ ?_ | exact ArgTo.mk' rfl (Wk.refl _) | exact ArgTo.mk' rfl Wk.nilm | exact ArgTo.mk' rfl (Wk.int (by simp)) | exact ArgTo.mk' rfl (Wk.list _ _) | exact ArgTo.mk' rfl (Wk.agg (by (repeat' (first | exact Wks.nil | refine Wks.cons ?_ ?_ | exact Wk.refl _ | exact Wk.nilm | exact Wk.list _ _  | exact Wk.natN rfl | refine Wk.agg ?_))))))) (first_ l 1) rfl ?_
  (conv => whnf)
  refine CallLeaf.w (by (repeat' (first | exact ArgsTo.nil | refine ArgsTo.cons ?_ ?_ | exact ArgTo.mk' rfl (Wk.refl _) | exact ArgTo.mk' rfl Wk.nilm | exact ArgTo.mk' rfl (Wk.int (by simp)) | exact ArgTo.mk' rfl (Wk.list _ _) | exact ArgTo.mk' rfl (Wk.agg (by (repeat' (first | exact Wks.nil | refine Wks.cons ?_ ?_ | exact Wk.refl _ | exact Wk.nilm | exact Wk.list _ _  | exact Wk.natN rfl | refine Wk.agg ?_))))))) (first_ l 2) rfl ?_
  (conv => whnf)
  refine CallLeaf.w (by (repeat' (first | exact ArgsTo.nil | refine ArgsTo.cons ?_ ?_ | exact ArgTo.mk' rfl (Wk.refl _) | exact ArgTo.mk' rfl Wk.nilm | exact ArgTo.mk' rfl (Wk.int (by simp)) | exact ArgTo.mk' rfl (Wk.list _ _) | exact ArgTo.mk' rfl (Wk.agg (by (repeat' (first | exact Wks.nil | refine Wks.cons ?_ ?_ | exact Wk.refl _ | exact Wk.nilm | exact Wk.list _ _  | exact Wk.natN rfl | refine Wk.agg ?_))))))) (first_ l 3) rfl ?_
  (conv => whnf)
  refine split_intro (fun hs => ?_) (fun hs => ?_)
  all_goals
    (conv => whnf)
    refine CallLeaf.w (by (repeat' (first | exact ArgsTo.nil | refine ArgsTo.cons ?_ ?_ | exact ArgTo.mk' rfl (Wk.refl _) | exact ArgTo.mk' rfl Wk.nilm | exact ArgTo.mk' rfl (Wk.int (by simp)) | exact ArgTo.mk' rfl (Wk.list _ _) | exact ArgTo.mk' rfl (Wk.agg (by (repeat' (first | exact Wks.nil | refine Wks.cons ?_ ?_ | exact Wk.refl _ | exact Wk.nilm | exact Wk.list _ _  | exact Wk.natN rfl | refine Wk.agg ?_))))))) (first_ l 4) rfl ?_
    (conv => whnf)
    refine CallLeaf.w (by (repeat' (first | exact ArgsTo.nil | refine ArgsTo.cons ?_ ?_ | exact ArgTo.mk' rfl (Wk.refl _) | exact ArgTo.mk' rfl Wk.nilm | exact ArgTo.mk' rfl (Wk.int (by simp)) | exact ArgTo.mk' rfl (Wk.list _ _) | exact ArgTo.mk' rfl (Wk.agg (by (repeat' (first | exact Wks.nil | refine Wks.cons ?_ ?_ | exact Wk.refl _ | exact Wk.nilm | exact Wk.list _ _  | exact Wk.natN rfl | refine Wk.agg ?_))))))) (first_ l 5) rfl ?_
    (conv => whnf)
    refine LWp.loop hT hmix [] (fun k : Nat => [(7, vI k)]) (fun k => [(520, .cells (mid l k)), (900000, .tok ((strongsOf (l.take k)).map eI).length 1)]) (fun k => k ≤ l.length) (fun k => l.length - k) 0 (Nat.zero_le _) ?_
    (conv => whnf)
    refine ⟨?_, fun k hk => ?_⟩
    · (repeat' (first | exact trivial | exact Wk.refl _ | exact ObWk.refl _ | exact rfl | exact ⟨_, rfl⟩ | exact Nat.zero_lt_one | refine And.intro ?_ ?_ | unfold okTo | (unfold okO; conv => whnf) | (unfold okS; conv => whnf) | (unfold SlotOk; conv => whnf) | (unfold ObjOk; conv => whnf) | (unfold okCells; conv => whnf) | (unfold liveTo; conv => whnf) | exact Nat.zero_lt_succ _))
      all_goals first | (refine Wk.int ?_; simp [maxOf]; done) | (refine Wk.bool ?_; simp at hs; simp [hs]; done) | (refine Wk.bool ?_; rw [decide_eq_false (show ¬ 0 ≤ first l 1 by simpa using hs)]; simp)
    · have hsl := strongsOf_le (l.take k)
      have hlk : (l.take k).length ≤ k := by simp; omega
      (conv => whnf)
      refine split_intro (fun h => ?_) (fun h => ?_)
      · have hlt : k < l.length := by simpa using h
        obtain ⟨x, hx⟩ := exI hlt
        (conv => whnf)
        refine ⟨_, ⟨by omega, getMap hx⟩, ?_⟩
        (conv => whnf)
        refine split_intro (fun h1 => ?_) (fun h1 => ?_)
        · have hb1 : x.sym.bind = 1 := by simpa using h1
          (conv => whnf)
          refine ⟨_, ⟨by omega, getMap hx⟩, ?_⟩
          (conv => whnf)
          refine ⟨_, appL (ys := [x.unit]) (zs := strongsOf (l.take (k + 1))) rfl rfl (fun _ => rfl) (by rw [take_snoc hx, strongsOf_snoc]; simp [hb1]) (by rw [take_snoc hx, strongsOf_snoc]; simp [hb1]; show _ * 8 ≤ _; omega), ?_⟩
          (conv => whnf)
          refine split_intro (fun h2 => ?_) (fun h2 => ?_)
          · (conv => whnf)
            refine ⟨_, ⟨by omega, getMap hx⟩, ?_⟩
            (conv => whnf)
            have hb3 : (x.sym.bind == 3) = false := by simp [hb1]
            refine split_intro (fun h3 => ?_) (fun h3 => ?_)
            · rw [hb3] at h3; simp at h3
            · (conv => whnf)
              refine ⟨_, add64 (c := ((k + 1 : Nat) : Int)) (by omega) (by omega), ?_⟩
              (conv => whnf)
              refine ⟨k + 1, ⟨by omega, by simp only []; omega⟩, ?_⟩
              simp only [mid, max_same _ hx (show x.sym.bind ≠ 3 by omega)]
              (repeat' (first | exact trivial | exact Wk.refl _ | exact ObWk.refl _ | exact rfl | exact ⟨_, rfl⟩ | exact Nat.zero_lt_one | refine And.intro ?_ ?_ | unfold okTo | (unfold okO; conv => whnf) | (unfold okS; conv => whnf) | (unfold SlotOk; conv => whnf) | (unfold ObjOk; conv => whnf) | (unfold okCells; conv => whnf) | (unfold liveTo; conv => whnf) | exact Nat.zero_lt_succ _))
          · (conv => whnf)
            refine ⟨_, add64 (c := ((k + 1 : Nat) : Int)) (by omega) (by omega), ?_⟩
            (conv => whnf)
            refine ⟨k + 1, ⟨by omega, by simp only []; omega⟩, ?_⟩
            simp only [mid, max_same _ hx (show x.sym.bind ≠ 3 by omega)]
            (repeat' (first | exact trivial | exact Wk.refl _ | exact ObWk.refl _ | exact rfl | exact ⟨_, rfl⟩ | exact Nat.zero_lt_one | refine And.intro ?_ ?_ | unfold okTo | (unfold okO; conv => whnf) | (unfold okS; conv => whnf) | (unfold SlotOk; conv => whnf) | (unfold ObjOk; conv => whnf) | (unfold okCells; conv => whnf) | (unfold liveTo; conv => whnf) | exact Nat.zero_lt_succ _))
        · have hb1 : ¬ x.sym.bind = 1 := by simpa using h1
          (conv => whnf)
          refine split_intro (fun h2 => ?_) (fun h2 => ?_)
          · have hn : first l 1 < 0 := by simpa using h2
            (conv => whnf)
            refine ⟨_, ⟨by omega, getMap hx⟩, ?_⟩
            (conv => whnf)
            refine split_intro (fun h3 => ?_) (fun h3 => ?_)
            · have hb3 : x.sym.bind = 3 := by simpa using h3
              (conv => whnf)
              refine ⟨_, ⟨by omega, getMap hx⟩, ?_⟩
              (conv => whnf)
              refine ⟨_, ⟨by omega, getMap hx⟩, ?_⟩
              (conv => whnf)
              refine ⟨_, add64 (c := ((k + 1 : Nat) : Int)) (by omega) (by omega), ?_⟩
              (conv => whnf)
              refine ⟨k + 1, ⟨by omega, by simp only []; omega⟩, ?_⟩
              simp only [mid, strongs_same hx hb1, max_more _ hx hb3, goMax]
              (repeat' (first | exact trivial | exact Wk.refl _ | exact ObWk.refl _ | exact rfl | exact ⟨_, rfl⟩ | exact Nat.zero_lt_one | refine And.intro ?_ ?_ | unfold okTo | (unfold okO; conv => whnf) | (unfold okS; conv => whnf) | (unfold SlotOk; conv => whnf) | (unfold ObjOk; conv => whnf) | (unfold okCells; conv => whnf) | (unfold liveTo; conv => whnf) | exact Nat.zero_lt_succ _))
              all_goals exact Wk.int (by simp [hn])
            · have hb3 : ¬ x.sym.bind = 3 := by simpa using h3
              (conv => whnf)
              refine ⟨_, add64 (c := ((k + 1 : Nat) : Int)) (by omega) (by omega), ?_⟩
              (conv => whnf)
              refine ⟨k + 1, ⟨by omega, by simp only []; omega⟩, ?_⟩
              simp only [mid, strongs_same hx hb1, max_same _ hx hb3]
              (repeat' (first | exact trivial | exact Wk.refl _ | exact ObWk.refl _ | exact rfl | exact ⟨_, rfl⟩ | exact Nat.zero_lt_one | refine And.intro ?_ ?_ | unfold okTo | (unfold okO; conv => whnf) | (unfold okS; conv => whnf) | (unfold SlotOk; conv => whnf) | (unfold ObjOk; conv => whnf) | (unfold okCells; conv => whnf) | (unfold liveTo; conv => whnf) | exact Nat.zero_lt_succ _))
          · have hn : ¬ first l 1 < 0 := by simpa using h2
            (conv => whnf)
            refine ⟨_, add64 (c := ((k + 1 : Nat) : Int)) (by omega) (by omega), ?_⟩
            (conv => whnf)
            refine ⟨k + 1, ⟨by omega, by simp only []; omega⟩, ?_⟩
            simp only [mid, strongs_same hx hb1]
            (repeat' (first | exact trivial | exact Wk.refl _ | exact ObWk.refl _ | exact rfl | exact ⟨_, rfl⟩ | exact Nat.zero_lt_one | refine And.intro ?_ ?_ | unfold okTo | (unfold okO; conv => whnf) | (unfold okS; conv => whnf) | (unfold SlotOk; conv => whnf) | (unfold ObjOk; conv => whnf) | (unfold okCells; conv => whnf) | (unfold liveTo; conv => whnf) | exact Nat.zero_lt_succ _))
            all_goals exact Wk.int (by simp [hn])
      · have hge : k = l.length := by simp at h; omega
        subst hge
        (conv => whnf)
        refine split_intro (fun c1 => ?_) (fun c1 => ?_)
        · have c1' : 0 ≤ first l 1 := by simpa using c1
          (conv => whnf)
          refine ⟨_, ⟨c1', getMap (g1 c1')⟩, ?_⟩
          (conv => whnf)
          refine ⟨_, ⟨c1', getMap (g1 c1')⟩, ?_⟩
          (conv => whnf)
          exact Wk.of_eq (by simp [refOf, c1', Int.not_lt.2 c1'])
        · have c1' : ¬ 0 ≤ first l 1 := by simpa using c1
          (conv => whnf)
          refine split_intro (fun c3 => ?_) (fun c3 => ?_)
          · have c3' : 0 ≤ first l 3 := by simpa using c3
            (conv => whnf)
            refine ⟨_, ⟨c3', getMap (g3 c3')⟩, ?_⟩
            (conv => whnf)
            exact Wk.of_eq (by simp [refOf, c1', c3', Int.not_le.1 c1'])
          · (conv => whnf)
            refine split_intro (fun c2 => ?_) (fun c2 => ?_)
            · have c2' : 0 ≤ first l 2 := by simpa using c2
              (conv => whnf)
              refine ⟨_, ⟨c2', getMap (g2 c2')⟩, ?_⟩
              (conv => whnf)
              refine ⟨_, ⟨c2', getMap (g2 c2')⟩, ?_⟩
              (conv => whnf)
              exact Wk.of_eq (by simp [refOf, c1', c2', show ¬ 0 ≤ first l 3 by simpa using c3, Int.not_le.1 c1'])
            · (conv => whnf)
              exact Wk.of_eq (by simp [refOf, c1', show ¬ 0 ≤ first l 3 by simpa using c3, show ¬ 0 ≤ first l 2 by simpa using c2, Int.not_le.1 c1'])
end Go.Proofs.YtdlcaoobaejlpaaDoor

/- The reference of objects at the tables of symbols. No condition. -/
set_option linter.unusedVariables false
set_option linter.unusedSimpArgs false
namespace Go.Proofs.YtdlcaoobaejlpaaDoor
open Go Go.AL Go.AL.Ap Go.AL.Ob
set_option maxRecDepth 100000
set_option maxHeartbeats 4000000
theorem sB_sz (s : Str) : (sB s).size = s.length := by simp [sB, ByteArray.size]
abbrev SE (l : List Ob.Sym) : List (List D) := l.map Ob.Sym.enc
abbrev oD (o : Ob.Obj) : D := .agg [.list .any (SE o.syms), LB o.body]
theorem not_t {b : Bool} (h : (!b) = true) : b = false := by cases b <;> simp_all
theorem not_f {b : Bool} (h : (!b) = false) : b = true := by cases b <;> simp_all
theorem len_ne {a b : Nat} (h : ((a : Int) != (b : Int)) = true) : a ≠ b := by intro e; subst e; simp at h
theorem len_eq {a b : Nat} (h : ((a : Int) != (b : Int)) = false) : a = b := by
  by_cases e : a = b
  · exact e
  · have : ((a : Int) != (b : Int)) = true := by simp; omega
    rw [this] at h; exact absurd h (by decide)
theorem vbad {s : Ob.Sym} (h : ¬ (1 ≤ s.name.length ∧ s.name.length ≤ 255 ∧ (0 : UInt8) ∉ s.name ∧ 0 ≤ s.size ∧ s.size ≤ 4294967295)) : valid s = false := by
  cases hv : valid s with
  | false => rfl
  | true =>
    obtain ⟨h1, h2, h3, h4, h5, _⟩ := valid_iff.1 hv
    exact absurd ⟨h1, h2, h3, h4, h5⟩ h
theorem vgood {s : Ob.Sym} (h1 : 1 ≤ s.name.length) (h2 : s.name.length ≤ 255) (h3 : (0 : UInt8) ∉ s.name) (h4 : 0 ≤ s.size) (h5 : s.size ≤ 4294967295) : valid s = bindOk s := by
  simp [valid, h1, h2, h3, h4, h5]
theorem has_mem (l : List Ob.Sym) (n : Str) : Ob.has l n = decide (n ∈ l.map Ob.Sym.name) := by
  rw [Bool.eq_iff_iff, Ob.has_iff]; simp
theorem okL_step {l : List Ob.Sym} {k : Nat} {s : Ob.Sym} (h : l[k]? = some s) : okL [] (l.take (k + 1)) = (okL [] (l.take k) && (valid s && !Ob.has (l.take k) s.name)) := by
  rw [List.take_add_one, h, Option.toList_some, okL_app]
  simp [okL]
theorem okL_bad {l : List Ob.Sym} {k : Nat} {s : Ob.Sym} (h : l[k]? = some s) (hb : (valid s && !Ob.has (l.take k) s.name) = false) : validO l = false := by
  have h1 := okL_step h
  rw [hb, Bool.and_false] at h1
  have h2 := okL_app (l.take (k + 1)) (l.drop (k + 1)) []
  rw [List.take_append_drop, h1, Bool.false_and] at h2
  simp [validO, h2]
theorem pows_at : ∀ i < 17, pows[i]? = some ((2 ^ i : Nat) : Int) := by decide
theorem pow_le16 {j : Nat} (h : (2 ^ j : Nat) ≤ 65536) : j ≤ 16 := by
  rcases Nat.lt_or_ge 16 j with hj | hj
  · have : 2 ^ 17 ≤ 2 ^ j := Nat.pow_le_pow_right (by decide) hj
    omega
  · exact hj
theorem two_step {j : Nat} (h : (2 ^ j : Nat) ≤ 65536) : intBin .mul .i64 2 ((2 ^ j : Nat) : Int) = some ((2 ^ (j + 1) : Nat) : Int) := by
  rw [Nat.pow_succ]
  generalize 2 ^ j = m at *
  exact mul64 (by push_cast; omega) (by push_cast; omega)
theorem power_ (n : Int) : FCall Tryd.prog Gl 59 [vI n] [] (vB (power n)) [] := by
  refine FCall.enterL hT hmix [] Tryd.func59 rfl rfl rfl fun hbd => ?_
  (conv => whnf)
  refine LWp.loop hT hmix [] (fun j : Nat => [(3, vI ((2 ^ j : Nat) : Int))]) (fun _ => []) (fun j => j ≤ 17 ∧ n ∉ pows.take j) (fun j => 17 - j) 0 ⟨Nat.zero_le _, (List.not_mem_nil : n ∉ ([] : List Int))⟩ ?_
  (conv => whnf)
  refine ⟨?_, fun j ⟨hj, hn⟩ => ?_⟩
  · (repeat' (first | exact trivial | exact Wk.refl _ | exact ObWk.refl _ | exact rfl | exact ⟨_, rfl⟩ | exact Nat.zero_lt_one | refine And.intro ?_ ?_ | unfold okTo | (unfold okO; conv => whnf) | (unfold okS; conv => whnf) | (unfold SlotOk; conv => whnf) | (unfold ObjOk; conv => whnf) | (unfold okCells; conv => whnf) | (unfold liveTo; conv => whnf) | exact Nat.zero_lt_succ _))
  · (conv => whnf)
    refine split_intro (fun h => ?_) (fun h => ?_)
    · have h' : (2 ^ j : Nat) ≤ 65536 := Int.ofNat_le.1 (show ((2 ^ j : Nat) : Int) ≤ ((65536 : Nat) : Int) from of_decide_eq_true h)
      have hj16 := pow_le16 h'
      have hp := pows_at j (by omega)
      (conv => whnf)
      refine split_intro (fun h2 => ?_) (fun h2 => ?_)
      · have e : ((2 ^ j : Nat) : Int) = n := eq_of_beq h2
        (conv => whnf)
        exact Wk.bool (by
          symm; unfold power; rw [decide_eq_true_eq, ← e]
          exact List.mem_of_getElem? hp)
      · have e : ¬ ((2 ^ j : Nat) : Int) = n := fun e => by rw [e] at h2; simp at h2
        (conv => whnf)
        refine ⟨_, two_step h', ?_⟩
        (conv => whnf)
        refine ⟨j + 1, ⟨⟨by omega, ?_⟩, by simp only []; omega⟩, ?_⟩
        · rw [List.take_add_one, hp]
          simp only [Option.toList_some, List.mem_append, List.mem_singleton, not_or]
          exact ⟨hn, fun h => e h.symm⟩
        · (repeat' (first | exact trivial | exact Wk.refl _ | exact ObWk.refl _ | exact rfl | exact ⟨_, rfl⟩ | exact Nat.zero_lt_one | refine And.intro ?_ ?_ | unfold okTo | (unfold okO; conv => whnf) | (unfold okS; conv => whnf) | (unfold SlotOk; conv => whnf) | (unfold ObjOk; conv => whnf) | (unfold okCells; conv => whnf) | (unfold liveTo; conv => whnf) | exact Nat.zero_lt_succ _))
    · have h' : ¬ ((2 ^ j : Nat) : Int) ≤ 65536 := of_decide_eq_false h
      have hj17 : j = 17 := by
        rcases Nat.lt_or_ge j 17 with hlt | hge
        · have : 2 ^ j ≤ 65536 := Nat.pow_le_pow_right (j := 16) (by decide) (by omega)
          exact absurd (show ((2 ^ j : Nat) : Int) ≤ ((65536 : Nat) : Int) from Int.ofNat_le.2 this) h'
        · omega
      subst hj17
      (conv => whnf)
      exact Wk.bool (by symm; unfold power; rw [decide_eq_false_iff_not]; exact hn)
theorem rsym_ (s : Ob.Sym) (hb : s.name.length ≤ 1000000000) : FCall Tryd.prog Gl 47 [.agg s.enc] [] (vB (valid s)) [] := by
  obtain ⟨nm, bd, sz, al⟩ := s
  have hsz := sB_sz nm
  replace hb : nm.length ≤ 1000000000 := hb
  refine FCall.enterL hT hmix [] Tryd.func47 rfl rfl rfl fun hbd => ?_
  (conv => whnf)
  refine split_intro (fun h1 => ?_) (fun h1 => ?_)
  · have h1' : ((sB nm).size : Int) = 0 := eq_of_beq h1
    (conv => whnf)
    exact Wk.bool (vbad (by simp only; omega)).symm
  · have h1' : ¬ ((sB nm).size : Int) = 0 := by simpa using h1
    (conv => whnf)
    refine split_intro (fun h2 => ?_) (fun h2 => ?_)
    · have h2' : (255 : Int) < (sB nm).size := of_decide_eq_true h2
      (conv => whnf)
      exact Wk.bool (vbad (by simp only; omega)).symm
    · have h2' : ¬ ((255 : Int) < (sB nm).size) := of_decide_eq_false h2
      (conv => whnf)
      refine split_intro (fun h4 => ?_) (fun h4 => ?_)
      · have h4' : sz < 0 := of_decide_eq_true h4
        (conv => whnf)
        exact Wk.bool (vbad (by simp only; omega)).symm
      · have h4' : ¬ (sz < 0) := of_decide_eq_false h4
        (conv => whnf)
        refine split_intro (fun h5 => ?_) (fun h5 => ?_)
        · have h5' : (4294967295 : Int) < sz := of_decide_eq_true h5
          (conv => whnf)
          exact Wk.bool (vbad (by simp only; omega)).symm
        · have h5' : ¬ ((4294967295 : Int) < sz) := of_decide_eq_false h5
          (conv => whnf)
          refine LWp.loop hT hmix [] (fun k : Nat => [(3, vI k)]) (fun _ => []) (fun k => k ≤ nm.length ∧ (0 : UInt8) ∉ nm.take k) (fun k => nm.length - k) 0 ⟨Nat.zero_le _, by simp⟩ ?_
          (conv => whnf)
          refine ⟨?_, fun k ⟨hk, hkk⟩ => ?_⟩
          · (repeat' (first | exact trivial | exact Wk.refl _ | exact ObWk.refl _ | exact rfl | exact ⟨_, rfl⟩ | exact Nat.zero_lt_one | refine And.intro ?_ ?_ | unfold okTo | (unfold okO; conv => whnf) | (unfold okS; conv => whnf) | (unfold SlotOk; conv => whnf) | (unfold ObjOk; conv => whnf) | (unfold okCells; conv => whnf) | (unfold liveTo; conv => whnf) | exact Nat.zero_lt_succ _))
          · (conv => whnf)
            refine split_intro (fun h => ?_) (fun h => ?_)
            · have hlt : k < nm.length := by have := of_decide_eq_true h; simp only at this; omega
              obtain ⟨x, hx⟩ := exI hlt
              (conv => whnf)
              refine ⟨x, ⟨by omega, by simpa using hx⟩, ?_⟩
              (conv => whnf)
              refine split_intro (fun h6 => ?_) (fun h6 => ?_)
              · have hx0 : x = 0 := by
                  have : (x.toNat : Int) = 0 := by simpa using h6
                  exact UInt8.toNat_inj.1 (by simpa using this)
                (conv => whnf)
                exact Wk.bool (vbad (fun h => h.2.2.1 (by rw [← hx0]; exact List.mem_of_getElem? hx))).symm
              · have hx0 : ¬ 0 = x := by
                  intro e; subst e; simp at h6
                (conv => whnf)
                refine ⟨_, add64 (c := ((k + 1 : Nat) : Int)) (by (try simp only []); omega) (by omega), ?_⟩
                (conv => whnf)
                refine ⟨k + 1, ⟨⟨by omega, ?_⟩, by simp only []; omega⟩, ?_⟩
                · rw [List.take_add_one, hx]; simp [hkk, hx0]
                · (repeat' (first | exact trivial | exact Wk.refl _ | exact ObWk.refl _ | exact rfl | exact ⟨_, rfl⟩ | exact Nat.zero_lt_one | refine And.intro ?_ ?_ | unfold okTo | (unfold okO; conv => whnf) | (unfold okS; conv => whnf) | (unfold SlotOk; conv => whnf) | (unfold ObjOk; conv => whnf) | (unfold okCells; conv => whnf) | (unfold liveTo; conv => whnf) | exact Nat.zero_lt_succ _))
            · have hge : nm.length ≤ k := by have := of_decide_eq_false h; simp only at this; omega
              rw [List.take_of_length_le hge] at hkk
              rw [vgood (s := ⟨nm, bd, sz, al⟩) (by simp only; omega) (by simp only; omega) hkk (by simp only; omega) (by simp only; omega)]
              (conv => whnf)
              refine split_intro (fun b3 => ?_) (fun b3 => ?_)
              · have b3' : bd = 3 := eq_of_beq b3
                (conv => whnf)
                refine CallLeaf.w (by (repeat' (first | exact ArgsTo.nil | refine ArgsTo.cons ?_ ?_ | exact ArgTo.mk' rfl (Wk.refl _) | exact ArgTo.mk' rfl Wk.nilm | exact ArgTo.mk' rfl (Wk.int (by simp)) | exact ArgTo.mk' rfl (Wk.list _ _) | exact ArgTo.mk' rfl (Wk.agg (by (repeat' (first | exact Wks.nil | refine Wks.cons ?_ ?_ | exact Wk.refl _ | exact Wk.nilm | exact Wk.list _ _  | exact Wk.natN rfl | refine Wk.agg ?_))))))) (power_ al) rfl ?_
                (conv => whnf)
                exact Wk.bool (by simp [bindOk, b3'])
              · have b3' : ¬ bd = 3 := by simpa using b3
                (conv => whnf)
                refine split_intro (fun b4 => ?_) (fun b4 => ?_)
                · have b4' : bd = 4 := eq_of_beq b4
                  (conv => whnf)
                  refine split_intro (fun z => ?_) (fun z => ?_)
                  · have z' : sz = 0 := eq_of_beq z
                    (conv => whnf)
                    exact Wk.bool (by rw [Bool.eq_iff_iff]; simp [bindOk, b4', z'])
                  · have z' : ¬ sz = 0 := by simpa using z
                    (conv => whnf)
                    exact Wk.bool (by simp [bindOk, b4', z'])
                · have b4' : ¬ bd = 4 := by simpa using b4
                  (conv => whnf)
                  refine split_intro (fun b5 => ?_) (fun b5 => ?_)
                  · have b5' : bd = 5 := eq_of_beq b5
                    (conv => whnf)
                    refine split_intro (fun z => ?_) (fun z => ?_)
                    · have z' : sz = 0 := eq_of_beq z
                      (conv => whnf)
                      exact Wk.bool (by rw [Bool.eq_iff_iff]; simp [bindOk, b5', z'])
                    · have z' : ¬ sz = 0 := by simpa using z
                      (conv => whnf)
                      exact Wk.bool (by simp [bindOk, b5', z'])
                  · have b5' : ¬ bd = 5 := by simpa using b5
                    (conv => whnf)
                    refine split_intro (fun b1 => ?_) (fun b1 => ?_)
                    · have b1' : bd = 1 := eq_of_beq b1
                      (conv => whnf)
                      exact Wk.bool (by rw [Bool.eq_iff_iff]; simp [bindOk, b1'])
                    · have b1' : ¬ bd = 1 := by simpa using b1
                      (conv => whnf)
                      refine split_intro (fun b2 => ?_) (fun b2 => ?_)
                      · have b2' : bd = 2 := eq_of_beq b2
                        (conv => whnf)
                        exact Wk.bool (by rw [Bool.eq_iff_iff]; simp [bindOk, b2'])
                      · have b2' : ¬ bd = 2 := by simpa using b2
                        (conv => whnf)
                        exact Wk.bool (by simp [bindOk, b1', b2', b3', b4', b5'])
theorem rhas_ (l : List Ob.Sym) (n : Str) (hl : l.length ≤ 1000000000) : FCall Tryd.prog Gl 48 [.list .any (SE l), sD n] [] (vB (Ob.has l n)) [] := by
  refine FCall.enterL hT hmix [] Tryd.func48 rfl rfl rfl fun hbd => ?_
  (conv => whnf)
  refine LWp.loop hT hmix [] (fun k : Nat => [(5, vI k)]) (fun _ => []) (fun k => k ≤ l.length ∧ Ob.has (l.take k) n = false) (fun k => l.length - k) 0 ⟨Nat.zero_le _, rfl⟩ ?_
  (conv => whnf)
  refine ⟨?_, fun k ⟨hk, hkk⟩ => ?_⟩
  · (repeat' (first | exact trivial | exact Wk.refl _ | exact ObWk.refl _ | exact rfl | exact ⟨_, rfl⟩ | exact Nat.zero_lt_one | refine And.intro ?_ ?_ | unfold okTo | (unfold okO; conv => whnf) | (unfold okS; conv => whnf) | (unfold SlotOk; conv => whnf) | (unfold ObjOk; conv => whnf) | (unfold okCells; conv => whnf) | (unfold liveTo; conv => whnf) | exact Nat.zero_lt_succ _))
  · (conv => whnf)
    refine split_intro (fun h => ?_) (fun h => ?_)
    · have hlt : k < l.length := by simpa using h
      obtain ⟨s, hs⟩ := exI hlt
      (conv => whnf)
      refine ⟨_, ⟨by omega, getMap hs⟩, ?_⟩
      (conv => whnf)
      refine split_intro (fun hc => ?_) (fun hc => ?_)
      · have hc' : s.name = n := of_decide_eq_true hc
        (conv => whnf)
        exact Wk.bool (Ob.has_iff.2 ⟨s, List.mem_of_getElem? hs, hc'⟩).symm
      · have hc' : ¬ s.name = n := of_decide_eq_false hc
        (conv => whnf)
        refine ⟨_, add64 (c := ((k + 1 : Nat) : Int)) (by (try simp only []); omega) (by omega), ?_⟩
        (conv => whnf)
        refine ⟨k + 1, ⟨⟨by omega, ?_⟩, by simp only []; omega⟩, ?_⟩
        · rw [List.take_add_one, hs]
          unfold Ob.has at *
          rw [List.any_append, hkk]; simp [hc']
        · (repeat' (first | exact trivial | exact Wk.refl _ | exact ObWk.refl _ | exact rfl | exact ⟨_, rfl⟩ | exact Nat.zero_lt_one | refine And.intro ?_ ?_ | unfold okTo | (unfold okO; conv => whnf) | (unfold okS; conv => whnf) | (unfold SlotOk; conv => whnf) | (unfold ObjOk; conv => whnf) | (unfold okCells; conv => whnf) | (unfold liveTo; conv => whnf) | exact Nat.zero_lt_succ _))
    · have hge : l.length ≤ k := by simpa using h
      rw [List.take_of_length_le hge] at hkk
      (conv => whnf)
      exact Wk.bool hkk.symm
def fewO (o : Ob.Obj) : Bool := decide (o.syms.length ≤ 60) && (o.syms.all (fun s => decide (s.name.length ≤ 300)) && decide (o.body.length ≤ 1000))
theorem fewO_iff {o : Ob.Obj} : fewO o = true ↔ o.syms.length ≤ 60 ∧ (∀ s ∈ o.syms, s.name.length ≤ 300) ∧ o.body.length ≤ 1000 := by simp [fewO]
theorem ofew_ (l : List Ob.Sym) (x : List UInt8) : FCall Tryd.prog Gl 30 [oD ⟨l, x⟩] [] (vB (fewO ⟨l, x⟩)) [] := by
  refine FCall.enterL hT hmix [] Tryd.func30 rfl rfl rfl fun hbd => ?_
  (conv => whnf)
  refine LWp.loop hT hmix [] (fun k : Nat => [(3, vI k)]) (fun _ => []) (fun k => k ≤ l.length ∧ k ≤ 61 ∧ (l.take k).all (fun s => decide (s.name.length ≤ 300)) = true) (fun k => l.length - k) 0 ⟨Nat.zero_le _, Nat.zero_le _, rfl⟩ ?_
  (conv => whnf)
  refine ⟨?_, fun k ⟨hk, hk61, hkk⟩ => ?_⟩
  · (repeat' (first | exact trivial | exact Wk.refl _ | exact ObWk.refl _ | exact rfl | exact ⟨_, rfl⟩ | exact Nat.zero_lt_one | refine And.intro ?_ ?_ | unfold okTo | (unfold okO; conv => whnf) | (unfold okS; conv => whnf) | (unfold SlotOk; conv => whnf) | (unfold ObjOk; conv => whnf) | (unfold okCells; conv => whnf) | (unfold liveTo; conv => whnf) | exact Nat.zero_lt_succ _))
  · (conv => whnf)
    refine split_intro (fun h1 => ?_) (fun h1 => ?_)
    · have hlt : k < l.length := by have := of_decide_eq_true h1; simp at this; omega
      obtain ⟨s, hs⟩ := exI hlt
      (conv => whnf)
      refine split_intro (fun h2 => ?_) (fun h2 => ?_)
      · have h2' : (k : Int) ≤ 60 := of_decide_eq_true h2
        (conv => whnf)
        refine ⟨_, ⟨by omega, getMap hs⟩, ?_⟩
        (conv => whnf)
        refine split_intro (fun h3 => ?_) (fun h3 => ?_)
        · have h3' : (300 : Int) < (sB s.name).size := of_decide_eq_true h3
          have hsz := sB_sz s.name
          (conv => whnf)
          exact Wk.bool (by
            symm; rw [Bool.eq_false_iff]; intro hc
            have := (fewO_iff.1 hc).2.1 s (List.mem_of_getElem? hs); omega)
        · have h3' : ¬ (300 : Int) < (sB s.name).size := of_decide_eq_false h3
          have hsz := sB_sz s.name
          (conv => whnf)
          refine ⟨_, add64 (c := ((k + 1 : Nat) : Int)) (by (try simp only []); omega) (by omega), ?_⟩
          (conv => whnf)
          refine ⟨k + 1, ⟨⟨by omega, by omega, ?_⟩, by simp only []; omega⟩, ?_⟩
          · rw [List.take_add_one, hs, Option.toList_some, List.all_append, hkk]; simp; omega
          · (repeat' (first | exact trivial | exact Wk.refl _ | exact ObWk.refl _ | exact rfl | exact ⟨_, rfl⟩ | exact Nat.zero_lt_one | refine And.intro ?_ ?_ | unfold okTo | (unfold okO; conv => whnf) | (unfold okS; conv => whnf) | (unfold SlotOk; conv => whnf) | (unfold ObjOk; conv => whnf) | (unfold okCells; conv => whnf) | (unfold liveTo; conv => whnf) | exact Nat.zero_lt_succ _))
      · have h2' : ¬ (k : Int) ≤ 60 := of_decide_eq_false h2
        (conv => whnf)
        refine split_intro (fun h => absurd h (by (simp; omega))) (fun _ => ?_)
        (conv => whnf)
        exact Wk.bool (by
          symm; rw [Bool.eq_false_iff]; intro hc
          have := (fewO_iff.1 hc).1; simp only at this; omega)
    · have hge : l.length ≤ k := by have := of_decide_eq_false h1; simp at this; omega
      rw [List.take_of_length_le hge] at hkk
      (conv => whnf)
      refine split_intro (fun h4 => ?_) (fun h4 => ?_)
      · have h4' : l.length ≤ 60 := by have := of_decide_eq_true h4; simp at this; omega
        (conv => whnf)
        exact Wk.bool (by rw [Bool.eq_iff_iff]; simp only [fewO, hkk, h4', decide_true, Bool.true_and]; simp; omega)
      · have h4' : ¬ l.length ≤ 60 := by have := of_decide_eq_false h4; simp at this; omega
        (conv => whnf)
        exact Wk.bool (by simp [fewO, h4'])
theorem plainS (s : Ob.Sym) : plainEq Tryd.prog 56 s.enc = true := by
  obtain ⟨a, b, c, d⟩ := s
  kernel_rfl
theorem eqS (a b : Ob.Sym) : eqCellsD a.enc b.enc = some (decide (a.name = b.name) && (a.bind == b.bind && (a.size == b.size && (a.align == b.align && true)))) := rfl
theorem eqS' (a b : Ob.Sym) : (decide (a.name = b.name) && (a.bind == b.bind && (a.size == b.size && (a.align == b.align && true)))) = decide (a = b) := by
  obtain ⟨a1, a2, a3, a4⟩ := a
  obtain ⟨b1, b2, b3, b4⟩ := b
  rw [Bool.eq_iff_iff]; simp
theorem orvalid_ (l : List Ob.Sym) (x : List UInt8) (hl : l.length ≤ 1000000000) (hn : ∀ s ∈ l, s.name.length ≤ 1000000000) : FCall Tryd.prog Gl 31 [oD ⟨l, x⟩] [] (vB (validO l)) [] := by
  refine FCall.enterL hT hmix [] Tryd.func31 rfl rfl rfl fun hbd => ?_
  (conv => whnf)
  refine LWp.loop hT hmix [] (fun k : Nat => [(3, vI k)]) (fun _ => []) (fun k => k ≤ l.length ∧ okL [] (l.take k) = true) (fun k => l.length - k) 0 ⟨Nat.zero_le _, rfl⟩ ?_
  (conv => whnf)
  refine ⟨?_, fun k ⟨hk, hkk⟩ => ?_⟩
  · (repeat' (first | exact trivial | exact Wk.refl _ | exact ObWk.refl _ | exact rfl | exact ⟨_, rfl⟩ | exact Nat.zero_lt_one | refine And.intro ?_ ?_ | unfold okTo | (unfold okO; conv => whnf) | (unfold okS; conv => whnf) | (unfold SlotOk; conv => whnf) | (unfold ObjOk; conv => whnf) | (unfold okCells; conv => whnf) | (unfold liveTo; conv => whnf) | exact Nat.zero_lt_succ _))
  · (conv => whnf)
    refine split_intro (fun h => ?_) (fun h => ?_)
    · have hlt : k < l.length := by have := of_decide_eq_true h; simp at this; omega
      obtain ⟨s, hs⟩ := exI hlt
      (conv => whnf)
      refine ⟨_, ⟨by omega, getMap hs⟩, ?_⟩
      (conv => whnf)
      refine CallLeaf.w (by (repeat' (first | exact ArgsTo.nil | refine ArgsTo.cons ?_ ?_ | exact ArgTo.mk' rfl (Wk.refl _) | exact ArgTo.mk' rfl Wk.nilm | exact ArgTo.mk' rfl (Wk.int (by simp)) | exact ArgTo.mk' rfl (Wk.list _ _) | exact ArgTo.mk' rfl (Wk.agg (by (repeat' (first | exact Wks.nil | refine Wks.cons ?_ ?_ | exact Wk.refl _ | exact Wk.nilm | exact Wk.list _ _  | exact Wk.natN rfl | refine Wk.agg ?_))))))) (rsym_ s (hn s (List.mem_of_getElem? hs))) rfl ?_
      (conv => whnf)
      refine split_intro (fun hv => ?_) (fun hv => ?_)
      · have hv' : valid s = false := by simpa using hv
        (conv => whnf)
        exact Wk.bool (okL_bad hs (by simp [hv'])).symm
      · have hv' : valid s = true := by simpa using hv
        (conv => whnf)
        refine ⟨_, slTake (f := Ob.Sym.enc) (l := l) (b := k) (r := l.take k) rfl (by omega) (fun _ => rfl) rfl, ?_⟩
        (conv => whnf)
        refine ⟨_, ⟨by omega, getMap hs⟩, ?_⟩
        (conv => whnf)
        refine CallLeaf.w (by (repeat' (first | exact ArgsTo.nil | refine ArgsTo.cons ?_ ?_ | exact ArgTo.mk' rfl (Wk.refl _) | exact ArgTo.mk' rfl Wk.nilm | exact ArgTo.mk' rfl (Wk.int (by simp)) | exact ArgTo.mk' rfl (Wk.list _ _) | exact ArgTo.mk' rfl (Wk.agg (by (repeat' (first | exact Wks.nil | refine Wks.cons ?_ ?_ | exact Wk.refl _ | exact Wk.nilm | exact Wk.list _ _  | exact Wk.natN rfl | refine Wk.agg ?_))))))) (rhas_ (l.take k) s.name (by simp; omega)) rfl ?_
        (conv => whnf)
        refine split_intro (fun hh => ?_) (fun hh => ?_)
        · have hh' : Ob.has (l.take k) s.name = true := hh
          (conv => whnf)
          exact Wk.bool (okL_bad hs (by simp [hh'])).symm
        · have hh' : Ob.has (l.take k) s.name = false := hh
          (conv => whnf)
          refine ⟨_, add64 (c := ((k + 1 : Nat) : Int)) (by (try simp only []); omega) (by omega), ?_⟩
          (conv => whnf)
          refine ⟨k + 1, ⟨⟨by omega, by rw [okL_step hs, hkk, hv', hh']; rfl⟩, by simp only []; omega⟩, ?_⟩
          (repeat' (first | exact trivial | exact Wk.refl _ | exact ObWk.refl _ | exact rfl | exact ⟨_, rfl⟩ | exact Nat.zero_lt_one | refine And.intro ?_ ?_ | unfold okTo | (unfold okO; conv => whnf) | (unfold okS; conv => whnf) | (unfold SlotOk; conv => whnf) | (unfold ObjOk; conv => whnf) | (unfold okCells; conv => whnf) | (unfold liveTo; conv => whnf) | exact Nat.zero_lt_succ _))
    · have hge : l.length ≤ k := by have := of_decide_eq_false h; simp at this; omega
      rw [List.take_of_length_le hge] at hkk
      (conv => whnf)
      exact Wk.bool (by simp only [validO, hkk, Bool.true_and]; congr 1; simp; omega)
end Go.Proofs.YtdlcaoobaejlpaaDoor

/- The table: loading, states. No condition. -/
set_option linter.unusedVariables false
set_option linter.unusedSimpArgs false
namespace Go.Proofs.YtdlcaoobaejlpaaDoor
open Go Go.AL Go.AL.Bd
set_option maxRecDepth 100000
set_option maxHeartbeats 4000000
abbrev mN : D := .v (.map none)
abbrev pN : D := .v (.pointer none)
abbrev Tq (n : Nat) (T : Sy.Tb) : List AObj := [.cells [vI n, .map 1], .map (Sy.ents T)]
abbrev Tz : List AObj := [.cells [vI 0, mN]]
theorem next_ (n : Nat) (T : Sy.Tb) (hn : n ≤ 1000000000) : FCall Tryd.prog Gl 32 [.ptr 0 0] (Tq n T) (vI n) (Tq (n + 1) T) := by
  refine FCall.enterO hT hmix [] Tryd.func32 rfl rfl rfl fun hbd => ?_
  (conv => whnf)
  refine ⟨_, add64 (c := ((n + 1 : Nat) : Int)) (by omega) (by omega), ?_⟩
  (conv => whnf)
  refine ⟨_, sub64 (c := (n : Int)) (by omega) (by omega), ?_⟩
  (conv => whnf)
  refine ⟨[0, 1], rfl, by (try unfold pullOk); (repeat' (first | exact trivial | exact ObWk.refl _ | refine And.intro ?_ ?_ | unfold pullOk)), ?_⟩
  exact Wk.refl _
theorem empty_' : FCall Tryd.prog Gl 33 [] [] (.agg empty.encN) [] := empty_
theorem tload_ (U : List Use) (n : Nat) (l : List Ob.Sym) (x : List UInt8) (hU : Sy.okB U) (hl : ∀ s ∈ l, 1 ≤ s.bind ∧ s.bind ≤ 5) (hb : U.length + l.length ≤ 900) (hn : n ≤ 100000000) :
    FCall Tryd.prog Gl 11 [.ptr 0 0, oD ⟨l, x⟩] (Tq n (Sy.build U)) (vI n) (Tq (n + 1) (Sy.build (U ++ Sy.uses n l))) := by
  refine FCall.enterO hT hmix [] Tryd.func11 rfl rfl rfl fun hbd => ?_
  (conv => whnf)
  refine CallLeaf.o [0, 1] (by (repeat' (first | exact ArgsTo.nil | refine ArgsTo.cons ?_ ?_ | exact ArgTo.mk' rfl (Wk.refl _) | exact ArgTo.mk' rfl Wk.nilm | exact ArgTo.mk' rfl (Wk.int (by simp)) | exact ArgTo.mk' rfl (Wk.list _ _) | exact ArgTo.mk' rfl (Wk.agg (by (repeat' (first | exact Wks.nil | refine Wks.cons ?_ ?_ | exact Wk.refl _ | exact Wk.nilm | exact Wk.list _ _  | exact Wk.natN rfl | refine Wk.agg ?_))))))) (next_ n (Sy.build U) (by omega)) rfl rfl (by (repeat' (first | exact trivial | exact rfl | refine And.intro ?_ ?_))) (by (repeat' (first | exact trivial | exact rfl | refine And.intro ?_ ?_))) (by (repeat' (first | exact trivial | exact rfl | refine And.intro ?_ ?_))) rfl rfl ?_
  (conv => whnf)
  refine LWp.loop hT hmix [] (fun k : Nat => [(28, vI k)]) (fun k => [(1, .map (Sy.ents (Sy.build (U ++ Sy.uses n (l.take k)))))]) (fun k => k ≤ l.length) (fun k => l.length - k) 0 (Nat.zero_le _) ?_
  (conv => whnf)
  refine ⟨?_, fun k hk => ?_⟩
  · (repeat' (first | exact trivial | exact Wk.refl _ | exact ObWk.refl _ | exact rfl | exact ⟨_, rfl⟩ | exact Nat.zero_lt_one | refine And.intro ?_ ?_ | unfold okTo | (unfold okO; conv => whnf) | (unfold okS; conv => whnf) | (unfold SlotOk; conv => whnf) | (unfold ObjOk; conv => whnf) | (unfold okCells; conv => whnf) | (unfold liveTo; conv => whnf) | exact Nat.zero_lt_succ _))
    exact ObWk.of_eq (by simp [Sy.uses])
  · (conv => whnf)
    refine split_intro (fun h => ?_) (fun h => ?_)
    · have hlt : k < l.length := by simpa using h
      obtain ⟨s, hs⟩ := exI hlt
      have hV : Sy.okB (U ++ Sy.uses n (l.take k)) := hU.app (fun u hu => by
        obtain ⟨y, hy, rfl⟩ := List.mem_map.1 hu
        exact hl y (List.mem_of_mem_take hy))
      have hVl : (U ++ Sy.uses n (l.take k)).length ≤ 900 := by simp [Sy.uses]; omega
      have hnew : Sy.build (U ++ Sy.uses n (l.take (k + 1))) = Sy.add1 (Sy.build (U ++ Sy.uses n (l.take k))) ⟨Sy.toB s, (n : Int)⟩ := by
        rw [Sy.uses_take hs, ← List.append_assoc, Sy.build_snoc]
      have hsl : 1 ≤ s.bind ∧ s.bind ≤ 5 := hl s (List.mem_of_getElem? hs)
      have hget := Sy.tget_build s.name (U ++ Sy.uses n (l.take k))
      have hgd := Sy.tget_getD s.name (U ++ Sy.uses n (l.take k))
      have hM := merge_ ((Sy.tget (Sy.build (U ++ Sy.uses n (l.take k))) s.name).getD empty) (Sy.toB s) (n : Int) (by rw [hgd]; exact Sy.all_bind (hV.of _)) hsl (by rw [hgd]; have := Sy.all_strongs (Sy.of (U ++ Sy.uses n (l.take k)) s.name); have := Sy.of_le (U ++ Sy.uses n (l.take k)) s.name; omega)
      have hset : ∀ st, (Sy.tget (Sy.build (U ++ Sy.uses n (l.take k))) s.name).getD empty = st → mset (Sy.ents (Sy.build (U ++ Sy.uses n (l.take k)))) (.string (sB s.name)) (.agg (merge st (Sy.toB s) n).enc) = Sy.ents (Sy.build (U ++ Sy.uses n (l.take (k + 1)))) := fun st e => by
        rw [hnew, ← e]; exact Sy.mset_ents _ _ _
      cases hT : Sy.tget (Sy.build (U ++ Sy.uses n (l.take k))) s.name with
      | none =>
        rw [hT] at hM
        (conv => whnf)
        refine ⟨_, ⟨by omega, getMap hs⟩, ?_⟩
        (conv => whnf)
        refine ⟨_, ⟨Sy.ents_keys _, Sy.look_none hT _⟩, ?_⟩
        (conv => whnf)
        refine CallLeaf.w (by (repeat' (first | exact ArgsTo.nil | refine ArgsTo.cons ?_ ?_ | exact ArgTo.mk' rfl (Wk.refl _) | exact ArgTo.mk' rfl Wk.nilm | exact ArgTo.mk' rfl (Wk.int (by simp)) | exact ArgTo.mk' rfl (Wk.list _ _) | exact ArgTo.mk' rfl (Wk.agg (by (repeat' (first | exact Wks.nil | refine Wks.cons ?_ ?_ | exact Wk.refl _ | exact Wk.nilm | exact Wk.list _ _  | exact Wk.natN rfl | refine Wk.agg ?_))))))) (empty_) rfl ?_
        (conv => whnf)
        refine CallLeaf.w (by (repeat' (first | exact ArgsTo.nil | refine ArgsTo.cons ?_ ?_ | exact ArgTo.mk' rfl (Wk.refl _) | exact ArgTo.mk' rfl Wk.nilm | exact ArgTo.mk' rfl (Wk.int (by simp)) | exact ArgTo.mk' rfl (Wk.list _ _) | exact ArgTo.mk' rfl (Wk.agg (by (repeat' (first | exact Wks.nil | refine Wks.cons ?_ ?_ | exact Wk.refl _ | exact Wk.nilm | exact Wk.list _ _  | exact Wk.natN rfl | refine Wk.agg ?_))))))) (hM) rfl ?_
        (conv => whnf)
        refine ⟨_, ⟨Sy.ents_keys _, hset empty (by rw [hT]; rfl)⟩, ?_⟩
        (conv => whnf)
        refine ⟨_, add64 (c := ((k + 1 : Nat) : Int)) (by (try simp only []); omega) (by omega), ?_⟩
        (conv => whnf)
        refine ⟨k + 1, ⟨by omega, by simp only []; omega⟩, ?_⟩
        (repeat' (first | exact trivial | exact Wk.refl _ | exact ObWk.refl _ | exact rfl | exact ⟨_, rfl⟩ | exact Nat.zero_lt_one | refine And.intro ?_ ?_ | unfold okTo | (unfold okO; conv => whnf) | (unfold okS; conv => whnf) | (unfold SlotOk; conv => whnf) | (unfold ObjOk; conv => whnf) | (unfold okCells; conv => whnf) | (unfold liveTo; conv => whnf) | exact Nat.zero_lt_succ _))
      | some st =>
        rw [hT] at hM
        (conv => whnf)
        refine ⟨_, ⟨by omega, getMap hs⟩, ?_⟩
        (conv => whnf)
        refine ⟨_, ⟨Sy.ents_keys _, Sy.look_some hT _⟩, ?_⟩
        (conv => whnf)
        refine CallLeaf.w (by (repeat' (first | exact ArgsTo.nil | refine ArgsTo.cons ?_ ?_ | exact ArgTo.mk' rfl (Wk.refl _) | exact ArgTo.mk' rfl Wk.nilm | exact ArgTo.mk' rfl (Wk.int (by simp)) | exact ArgTo.mk' rfl (Wk.list _ _) | exact ArgTo.mk' rfl (Wk.agg (by (repeat' (first | exact Wks.nil | refine Wks.cons ?_ ?_ | exact Wk.refl _ | exact Wk.nilm | exact Wk.list _ _  | exact Wk.natN rfl | refine Wk.agg ?_))))))) (hM) rfl ?_
        (conv => whnf)
        refine ⟨_, ⟨Sy.ents_keys _, hset st (by rw [hT]; rfl)⟩, ?_⟩
        (conv => whnf)
        refine ⟨_, add64 (c := ((k + 1 : Nat) : Int)) (by (try simp only []); omega) (by omega), ?_⟩
        (conv => whnf)
        refine ⟨k + 1, ⟨by omega, by simp only []; omega⟩, ?_⟩
        (repeat' (first | exact trivial | exact Wk.refl _ | exact ObWk.refl _ | exact rfl | exact ⟨_, rfl⟩ | exact Nat.zero_lt_one | refine And.intro ?_ ?_ | unfold okTo | (unfold okO; conv => whnf) | (unfold okS; conv => whnf) | (unfold SlotOk; conv => whnf) | (unfold ObjOk; conv => whnf) | (unfold okCells; conv => whnf) | (unfold liveTo; conv => whnf) | exact Nat.zero_lt_succ _))
    · have hge : l.length ≤ k := by simpa using h
      (conv => whnf)
      refine ⟨[0, 1], rfl, by (try unfold pullOk); (repeat' (first | exact trivial | exact ObWk.refl _ | exact ObWk.of_eq (by rw [List.take_of_length_le hge]) | refine And.intro ?_ ?_ | unfold pullOk)), ?_⟩
      exact Wk.refl _
end Go.Proofs.YtdlcaoobaejlpaaDoor

/- The names of a table. No condition. -/
set_option linter.unusedVariables false
set_option linter.unusedSimpArgs false
namespace Go.Proofs
open Go.RowKit Go.Maps Go.Sort Go.Shelf
def YtdlcaoobaejlpaaDoor.keysA_ren : Go.Shelf.Ren := ⟨fun | 7 => 41 | 10 => 55 | n => n, fun | 23 => 27 | 26 => 9 | 3 => 41 | 28 => 80 | 0 => 0 | 27 => 79 | 33 => 77 | 4 => 4 | n => n, fun | n => n⟩
theorem YtdlcaoobaejlpaaDoor.keysA : Go.Proofs.SlLaysZ.n7 Tryd.prog YtdlcaoobaejlpaaDoor.keysA_ren := {
  mixed := by kernel_rfl
  f7 := ⟨Tryd.f41.name, by decide, Tryd.func41.trans (congrArg some (by kernel_rfl))⟩
  f10 := ⟨Tryd.f55.name, by decide, Tryd.func55.trans (congrArg some (by kernel_rfl))⟩
  t0 := Tryd.underlying0
  a0 := Tryd.isAgg0
  z0 := Tryd.sizeOf0
  v0 := Tryd.zeroValue0
  t4 := Tryd.underlying4
  a4 := Tryd.isAgg4
  z4 := Tryd.sizeOf4
  v4 := Tryd.zeroValue4
  t23 := Tryd.underlying27
  a23 := Tryd.isAgg27
  z23 := Tryd.sizeOf27
  v23 := Tryd.zeroValue27
  t26 := Tryd.underlying9
  a26 := Tryd.isAgg9
  z26 := Tryd.sizeOf9
  v26 := Tryd.zeroValue9
  t27 := Tryd.underlying79
  a27 := Tryd.isAgg79
  z27 := Tryd.sizeOf79
  v27 := Tryd.zeroValue79
  t28 := Tryd.underlying80
  a28 := Tryd.isAgg80
  z28 := Tryd.sizeOf80
  v28 := Tryd.zeroValue80
  t33 := Tryd.underlying77
  a33 := Tryd.isAgg77
  z33 := Tryd.sizeOf77
  v33 := Tryd.zeroValue77 }
def YtdlcaoobaejlpaaDoor.sortedA_ren : Go.Shelf.Ren := ⟨fun | 6 => 40 | 8 => 53 | 9 => 54 | 11 => 61 | 13 => 63 | 12 => 62 | 23 => 76 | 24 => 77 | 14 => 67 | 15 => 68 | 16 => 69 | 17 => 70 | 18 => 71 | 19 => 72 | 20 => 73 | 21 => 74 | 22 => 75 | 25 => 78 | 26 => 79 | 27 => 80 | 28 => 81 | 29 => 82 | 30 => 83 | 31 => 84 | n => n, fun | 26 => 9 | 28 => 80 | 24 => 45 | 0 => 0 | 3 => 3 | 37 => 109 | 48 => 129 | 50 => 131 | 4 => 4 | 40 => 121 | 39 => 120 | 45 => 126 | 5 => 5 | 9 => 9 | 51 => 133 | 55 => 137 | 57 => 139 | 58 => 140 | 33 => 77 | n => n, fun | n => n⟩
theorem YtdlcaoobaejlpaaDoor.sortedA : Go.Proofs.SlLaysZ.n6 Tryd.prog YtdlcaoobaejlpaaDoor.sortedA_ren := {
  mixed := by kernel_rfl
  f6 := ⟨Tryd.f40.name, by decide, Tryd.func40.trans (congrArg some (by kernel_rfl))⟩
  f8 := ⟨Tryd.f53.name, by decide, Tryd.func53.trans (congrArg some (by kernel_rfl))⟩
  f11 := ⟨Tryd.f61.name, by decide, Tryd.func61.trans (congrArg some (by kernel_rfl))⟩
  t0 := Tryd.underlying0
  a0 := Tryd.isAgg0
  z0 := Tryd.sizeOf0
  v0 := Tryd.zeroValue0
  t24 := Tryd.underlying45
  a24 := Tryd.isAgg45
  z24 := Tryd.sizeOf45
  v24 := Tryd.zeroValue45
  t26 := Tryd.underlying9
  a26 := Tryd.isAgg9
  z26 := Tryd.sizeOf9
  v26 := Tryd.zeroValue9
  t28 := Tryd.underlying80
  a28 := Tryd.isAgg80
  z28 := Tryd.sizeOf80
  v28 := Tryd.zeroValue80
  i26 := by kernel_rfl }
def YtdlcaoobaejlpaaDoor.sortA_ren : Go.Shelf.Ren := ⟨fun | 6 => 54 | 8 => 63 | 9 => 62 | 19 => 76 | 20 => 77 | 21 => 67 | 22 => 68 | 23 => 69 | 24 => 70 | 25 => 71 | 26 => 72 | 27 => 73 | 28 => 74 | 29 => 75 | 36 => 78 | 31 => 79 | 32 => 80 | 37 => 81 | 38 => 82 | 39 => 83 | 41 => 84 | n => n, fun | 27 => 45 | 29 => 9 | 3 => 3 | 32 => 109 | 26 => 45 | 0 => 0 | 44 => 129 | 46 => 131 | 4 => 4 | 36 => 121 | 35 => 120 | 41 => 126 | 5 => 5 | 9 => 9 | 53 => 133 | 57 => 137 | 63 => 139 | 64 => 140 | n => n, fun | n => n⟩
theorem YtdlcaoobaejlpaaDoor.sortA : Go.Proofs.SlLaysM.n6 Tryd.prog YtdlcaoobaejlpaaDoor.sortA_ren := {
  mixed := by kernel_rfl
  f6 := ⟨Tryd.f54.name, by decide, Tryd.func54.trans (congrArg some (by kernel_rfl))⟩
  f8 := Tryd.func63.trans (congrArg some (by kernel_rfl))
  f9 := ⟨Tryd.f62.name, by decide, Tryd.func62.trans (congrArg some (by kernel_rfl))⟩
  f19 := Tryd.func76.trans (congrArg some (by kernel_rfl))
  f20 := Tryd.func77.trans (congrArg some (by kernel_rfl))
  f21 := ⟨Tryd.f67.name, by decide, Tryd.func67.trans (congrArg some (by kernel_rfl))⟩
  f22 := ⟨Tryd.f68.name, by decide, Tryd.func68.trans (congrArg some (by kernel_rfl))⟩
  f23 := ⟨Tryd.f69.name, by decide, Tryd.func69.trans (congrArg some (by kernel_rfl))⟩
  f24 := ⟨Tryd.f70.name, by decide, Tryd.func70.trans (congrArg some (by kernel_rfl))⟩
  f25 := ⟨Tryd.f71.name, by decide, Tryd.func71.trans (congrArg some (by kernel_rfl))⟩
  f26 := ⟨Tryd.f72.name, by decide, Tryd.func72.trans (congrArg some (by kernel_rfl))⟩
  f27 := ⟨Tryd.f73.name, by decide, Tryd.func73.trans (congrArg some (by kernel_rfl))⟩
  f28 := ⟨Tryd.f74.name, by decide, Tryd.func74.trans (congrArg some (by kernel_rfl))⟩
  f29 := ⟨Tryd.f75.name, by decide, Tryd.func75.trans (congrArg some (by kernel_rfl))⟩
  f31 := Tryd.func79.trans (congrArg some (by kernel_rfl))
  f32 := Tryd.func80.trans (congrArg some (by kernel_rfl))
  f36 := ⟨Tryd.f78.name, by decide, Tryd.func78.trans (congrArg some (by kernel_rfl))⟩
  f37 := ⟨Tryd.f81.name, by decide, Tryd.func81.trans (congrArg some (by kernel_rfl))⟩
  f38 := ⟨Tryd.f82.name, by decide, Tryd.func82.trans (congrArg some (by kernel_rfl))⟩
  f39 := ⟨Tryd.f83.name, by decide, Tryd.func83.trans (congrArg some (by kernel_rfl))⟩
  f41 := ⟨Tryd.f84.name, by decide, Tryd.func84.trans (congrArg some (by kernel_rfl))⟩
  t0 := Tryd.underlying0
  a0 := Tryd.isAgg0
  z0 := Tryd.sizeOf0
  v0 := Tryd.zeroValue0
  t3 := Tryd.underlying3
  a3 := Tryd.isAgg3
  z3 := Tryd.sizeOf3
  v3 := Tryd.zeroValue3
  t4 := Tryd.underlying4
  a4 := Tryd.isAgg4
  z4 := Tryd.sizeOf4
  v4 := Tryd.zeroValue4
  t5 := Tryd.underlying5
  a5 := Tryd.isAgg5
  z5 := Tryd.sizeOf5
  v5 := Tryd.zeroValue5
  t9 := Tryd.underlying9
  a9 := Tryd.isAgg9
  z9 := Tryd.sizeOf9
  v9 := Tryd.zeroValue9
  t26 := Tryd.underlying45
  a26 := Tryd.isAgg45
  z26 := Tryd.sizeOf45
  v26 := Tryd.zeroValue45
  t27 := Tryd.underlying45
  a27 := Tryd.isAgg45
  z27 := Tryd.sizeOf45
  v27 := Tryd.zeroValue45
  t29 := Tryd.underlying9
  a29 := Tryd.isAgg9
  z29 := Tryd.sizeOf9
  v29 := Tryd.zeroValue9
  t32 := Tryd.underlying109
  a32 := Tryd.isAgg109
  z32 := Tryd.sizeOf109
  v32 := Tryd.zeroValue109
  t35 := Tryd.underlying120
  a35 := Tryd.isAgg120
  z35 := Tryd.sizeOf120
  v35 := Tryd.zeroValue120
  t36 := Tryd.underlying121
  a36 := Tryd.isAgg121
  z36 := Tryd.sizeOf121
  v36 := Tryd.zeroValue121
  t41 := Tryd.underlying126
  a41 := Tryd.isAgg126
  z41 := Tryd.sizeOf126
  v41 := Tryd.zeroValue126
  t44 := Tryd.underlying129
  a44 := Tryd.isAgg129
  z44 := Tryd.sizeOf129
  v44 := Tryd.zeroValue129
  t46 := Tryd.underlying131
  a46 := Tryd.isAgg131
  z46 := Tryd.sizeOf131
  v46 := Tryd.zeroValue131
  t53 := Tryd.underlying133
  a53 := Tryd.isAgg133
  z53 := Tryd.sizeOf133
  v53 := Tryd.zeroValue133
  t57 := Tryd.underlying137
  a57 := Tryd.isAgg137
  z57 := Tryd.sizeOf137
  v57 := Tryd.zeroValue137
  t63 := Tryd.underlying139
  a63 := Tryd.isAgg139
  z63 := Tryd.sizeOf139
  v63 := Tryd.zeroValue139
  t64 := Tryd.underlying140
  a64 := Tryd.isAgg140
  z64 := Tryd.sizeOf140
  v64 := Tryd.zeroValue140 }
theorem YtdlcaoobaejlpaaDoor.sortsA (m : Nat) : AnyZ.SortsIn Tryd.prog YtdlcaoobaejlpaaDoor.sortedA_ren Fence.wide m :=
  ⟨fun blk off cap ss W hH hblk hsz => callsIn_wide.2 (AnyM.slices_Sort_string YtdlcaoobaejlpaaDoor.sortA blk off cap ss W hH hblk hsz),
   fun p cap W => callsIn_wide.2 (AnyM.slices_Sort_string_none YtdlcaoobaejlpaaDoor.sortA p cap W)⟩
theorem YtdlcaoobaejlpaaDoor.sorted_at {H : Type} (Bm b nn : Nat) (D0 : DataW H) (R : Value → Option (DataW H × List MemPlace)) (w : World) (hBm : Bm < w.heap.size) (hm : w.cell? ⟨Bm, 0, none⟩ = some (.map (some b)))
    (hown : w.ownsMap Tryd.prog 9 R b nn D0) (hmax : Maps.size D0 ≤ maxLen) (hbytes : Maps.size D0 * 16 ≤ 140737488355328) :
    Calls Tryd.prog 40 #[.func (.func 55) #[] #[.pointer (some ⟨Bm, 0, none⟩)]] w fun e w' => ∃ (v : Value) (ss : List (List UInt8)), e = .returned v ∧ ss.Perm (strKeys D0) ∧
      w'.ownsRow w.heap.size 9 1 v ss.length ((ss.mergeSort (fun x y => decide (x ≤ y))).map encStr) ∧ (v = .slice none 0 0 ↔ ss = []) ∧ Below w.heap.size w w' := by
  refine (callsIn_wide (n := 5)).1 ?_
  have hseq : SeqGives Fence.wide 2 Tryd.prog 55 #[.pointer (some ⟨Bm, 0, none⟩)] encStr (fun ss => ss.Perm (strKeys D0)) (Maps.size D0) w :=
    AnyZ.keys_gives (ρ := YtdlcaoobaejlpaaDoor.keysA_ren) { YtdlcaoobaejlpaaDoor.keysA with } Fence.wide _ trivial rfl (by omega) Bm b nn D0 _ hBm hm hown
  have cS := AnyZ.sorted_in YtdlcaoobaejlpaaDoor.sortedA Fence.wide 5 trivial trivial trivial trivial rfl (by omega) (YtdlcaoobaejlpaaDoor.sortsA _) (enters_of Tryd.func54 (by kernel_rfl) rfl) 55 #[.pointer (some ⟨Bm, 0, none⟩)] trivial (enters_of Tryd.func55 (by kernel_rfl) rfl) _ _ hmax hbytes _ hseq
  exact cS
end Go.Proofs
namespace Go.Proofs.YtdlcaoobaejlpaaDoor
open Go Go.AL Go.AL.Bd
abbrev kF : D := .func (.func 55) [] [.ptr 0 0]
abbrev Kq (T : Sy.Tb) : List AObj := [.cells [.map 1], .map (Sy.ents T)]
theorem sorted_run (U : List Use) (hU : ∀ u ∈ U, u.sym.name.length ≤ 1000000) (hl : U.length ≤ 1000000) :
    ∀ E (w : World) vs, Core Gl E w.heap (sto (Kq (Sy.build U))) (Kq (Sy.build U)).length → VRs E w.heap (sto (Kq (Sy.build U))) [kF] vs →
      Calls Tryd.prog 40 vs.toArray w fun e w' => ∃ (v : Value) (t : TypeId), e = .returned v ∧ w'.ownsRow w.heap.size t 1 v (Sy.names U).length ((Sy.names U).map encStr) ∧ RowKit.Below w.heap.size w w' := by
  intro E w vs C hv
  have h0 : OR E w.heap (sto (Kq (Sy.build U))) 0 (.cells [.map 1]) := C.objs 0
  have h1 : OR E w.heap (sto (Kq (Sy.build U))) 1 (.map (Sy.ents (Sy.build U))) := C.objs 1
  obtain ⟨us, e, hb0, hv0, _⟩ := h0
  obtain ⟨ents, clk, hb1, ⟨hsz, hst⟩, hev, _⟩ := h1
  have hus : us = #[.map (some (E.φ 1))] := by
    have hl0 := hv0.1
    have hx := hv0.2 0 (by simp) (by rw [hl0]; simp)
    simp only [List.getElem_cons_zero] at hx
    have := hx.map_inv.1
    match hh : us.toList, hl0 with
    | [y], _ =>
      simp only [hh, List.getElem_cons_zero] at this
      apply Array.ext'
      rw [hh, this]
  have hvs : vs = [.func (.func 55) #[] #[.pointer (some ⟨E.φ 0, 0, none⟩)]] := by
    have hl0 := hv.1
    match vs, hl0 with
    | [y], _ =>
      have hx := hv.2 0 (by simp) (by simp)
      simp only [List.getElem_cons_zero] at hx
      cases hx with
      | func fn fs cs us' vs' l1 l2 g1 g2 =>
        have e1 : us' = [] := List.eq_nil_of_length_eq_zero (by simpa using l1)
        subst e1
        match vs', l2 with
        | [z], _ =>
          have hz := g2 0 (by simp) (by simp)
          simp only [List.getElem_cons_zero] at hz
          rw [hz.ptr_inv.1]
  have hkl := Sy.keys_len U
  have hcl : (Sy.ents (Sy.build U)).length = (Sy.keys (Sy.build U)).length := by simp [Sy.ents, Sy.keys]
  have hnm : ∀ s ∈ Sy.keys (Sy.build U), s.length ≤ maxLen := by
    intro s hs
    have := (Sy.mem_keys_names s U).1 hs
    rw [Sy.mem_names] at this
    obtain ⟨u, hu⟩ := List.exists_mem_of_ne_nil _ this
    have h2 := List.mem_filter.1 hu
    have h3 := of_decide_eq_true h2.2
    have := hU u h2.1
    rw [h3] at this
    unfold maxLen; omega
  obtain ⟨D0, o1, o2, o3⟩ := map_owns (P := Tryd.prog) (k := 9) Tryd.underlying9 hb1 hst (Sy.keys (Sy.build U)) (by rw [hsz, hcl]) (fun i hi hi' => by
    have h2 := (hev i (by rw [← hsz]; exact hi) hi).1
    rw [h2]; simp [Sy.ents, Sy.keys]) hnm (by unfold maxLen; omega)
  subst hvs
  have hbm : w.cell? ⟨E.φ 0, 0, none⟩ = some (.map (some (E.φ 1))) := by
    rw [cell?_eq]; simp [cellH, hb0, hus]
  refine (sorted_at (E.φ 0) (E.φ 1) _ D0 RN w (lt_of_get hb0) hbm o1 (by rw [o3]; unfold maxLen; omega) (by rw [o3]; omega)).mono fun e w' ⟨v, ss, he, hp, hr, _, hbl⟩ => ?_
  have hs := Sy.sort_names (hp.trans o2)
  have hlen : ss.length = (Sy.names U).length := by rw [← hs]; simp
  rw [hs, hlen] at hr
  exact ⟨v, _, he, hr, hbl⟩
theorem names_len (U : List Use) : (Sy.names U).length ≤ U.length := by
  have := (Sy.keys_perm U).length_eq
  have := Sy.keys_len U
  omega
theorem isSorted : IsFn Tryd.prog 40 := ⟨_, Tryd.func40, by kernel_rfl, by kernel_rfl⟩
theorem sortedL_ (U : List Use) (hU : ∀ u ∈ U, u.sym.name.length ≤ 1000000) (hl : U.length ≤ 1000000) :
    FCall Tryd.prog Gl 40 [kF] (Kq (Sy.build U)) (LSn (Sy.names U)) (Kq (Sy.build U)) :=
  FCall.rowL isSorted (by have := names_len U; omega) (sorted_run U hU hl)
theorem sortedA_ (U : List Use) (hU : ∀ u ∈ U, u.sym.name.length ≤ 1000000) (hl : U.length ≤ 1000000) :
    FCall Tryd.prog Gl 40 [kF] (Kq (Sy.build U)) (.sl 2 0 0 (Sy.names U).length) (Kq (Sy.build U) ++ [.arr 0 1 ((Sy.names U).map eS)]) :=
  FCall.rowA isSorted (sorted_run U hU hl)
end Go.Proofs.YtdlcaoobaejlpaaDoor
