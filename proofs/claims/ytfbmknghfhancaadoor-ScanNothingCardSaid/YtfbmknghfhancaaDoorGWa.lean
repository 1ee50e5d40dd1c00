/- What all walks of a seat share. No condition. -/
import Derived.Test.YtfbmknghfhancaaDoorGAc
import Derived.Test.YtfbmknghfhancaaDoorProg
import Derived.KernelRfl
import Derived.Test.YtfbmknghfhancaaDoorGPa
import Derived.Shelf.SlIter.Nil
import Derived.Shelf.SortM.Plain
import Derived.Shelf.SortM.SortNone
import Derived.Ground.GgzProg
import Derived.Ground.SlgmProg
set_option linter.unusedVariables false
set_option linter.unusedSimpArgs false
namespace Go.Proofs.YtfbmknghfhancaaDoor
open Go Go.AL
theorem hT : TOk Tryd.prog (tabOf Tryd.prog) := tabOf_ok _
theorem hmix : Tryd.prog.follows .mixedOrders = true := by kernel_rfl
def Gl : Glob := { g := fun g => match g with | 0 => [vI 0, vI 3, vI 1, vI 2, vI 0, vI 0] | _ => [] }
end Go.Proofs.YtfbmknghfhancaaDoor

namespace Go.Proofs.YtfbmknghfhancaaDoor
open Go Go.AL Go.AL.Bd
set_option maxRecDepth 100000

theorem empty_ : FCall Tryd.prog Gl 85 [] [] (.agg empty.encN) [] := by
 refine FCall.enterL hT hmix [] Tryd.func85 rfl rfl rfl fun hbd => ?_
 (conv => whnf)
 exact Wk.agg (by (repeat' (first | exact Wks.nil | refine Wks.cons ?_ ?_ | exact Wk.refl _ | exact Wk.nilm | exact Wk.list _ _  | exact Wk.natN rfl | refine Wk.agg ?_)))

theorem wanted_ (s : State) : FCall Tryd.prog Gl 77 [.agg s.enc] [] (vB (wanted s)) [] := by
 refine FCall.enterL hT hmix [] Tryd.func77 rfl rfl rfl fun hbd => ?_
 (conv => whnf)
 refine split_intro (fun h => ?_) (fun h => ?_)
 ·(conv => whnf)
  exact Wk.bool (by simp [wanted, h])
 ·(conv => whnf)
  exact Wk.bool (by simp [wanted, h])

theorem numbers_ (a b : List Int) : FCall Tryd.prog Gl 54 [LI a, LI b] [] (vB (decide (a = b))) [] := by
 refine FCall.enterL hT hmix [] Tryd.func54 rfl rfl rfl fun hbd => ?_
 have ha := bds_list hbd (.head _)
 (conv => whnf)
 refine split_intro (fun h => ?_) (fun h => ?_)
 ·(conv => whnf)
  exact Wk.bool (by simp at h; simp; intro e; subst e; exact h rfl)
 ·have hab : a.length = b.length := by simp at h; omega
  (conv => whnf)
  refine LWp.loop hT hmix [] (fun k : Nat => [(5, vI k)]) (fun _ => []) (fun k => k ≤ a.length ∧ a.take k = b.take k) (fun k => a.length - k) 0 ⟨Nat.zero_le _, rfl⟩ ?_
  (conv => whnf)
  refine ⟨?_, fun k ⟨hk, hkk⟩ => ?_⟩
  ·(repeat' (first | exact trivial | exact Wk.refl _ | exact ObWk.refl _ | exact rfl | exact ⟨_, rfl⟩ | exact Nat.zero_lt_one | refine And.intro ?_ ?_ | unfold okTo | (unfold okO; conv => whnf) | (unfold okS; conv => whnf) | (unfold SlotOk; conv => whnf) | (unfold ObjOk; conv => whnf) | (unfold okCells; conv => whnf) | (unfold liveTo; conv => whnf) | exact Nat.zero_lt_succ _))
  ·(conv => whnf)
   refine split_intro (fun h => ?_) (fun h => ?_)
   ·have hlt : k < a.length := by simpa using h
    obtain ⟨x, hx⟩ := exI hlt
    obtain ⟨y, hy⟩ := exI (hab ▸ hlt : k < b.length)
    (conv => whnf)
    refine ⟨_, ⟨by omega, getMap hx⟩, ?_⟩
    (conv => whnf)
    refine ⟨_, ⟨by omega, getMap hy⟩, ?_⟩
    (conv => whnf)
    refine split_intro (fun hxy => ?_) (fun hxy => ?_)
    ·(conv => whnf)
     exact Wk.bool (by
      symm; simp; intro e; subst e
      simp [hx] at hy; simp [hy] at hxy)
    ·(conv => whnf)
     refine ⟨_, add64 (c := ((k + 1 : Nat) : Int)) (by omega) (by omega), ?_⟩
     (conv => whnf)
     refine ⟨k + 1, ⟨⟨by omega, ?_⟩, by simp only []; omega⟩, ?_⟩
     ·have : x = y := by simpa using hxy
      subst this
      rw [List.take_add_one, List.take_add_one, hx, hy, hkk]
     ·(repeat' (first | exact trivial | exact Wk.refl _ | exact ObWk.refl _ | exact rfl | exact ⟨_, rfl⟩ | exact Nat.zero_lt_one | refine And.intro ?_ ?_ | unfold okTo | (unfold okO; conv => whnf) | (unfold okS; conv => whnf) | (unfold SlotOk; conv => whnf) | (unfold ObjOk; conv => whnf) | (unfold okCells; conv => whnf) | (unfold liveTo; conv => whnf) | exact Nat.zero_lt_succ _))
   ·(conv => whnf)
    exact Wk.bool (by
     have hge : a.length ≤ k := by simpa using h
     symm; simp
     rwa [List.take_of_length_le hge, List.take_of_length_le (by omega)] at hkk)

theorem first_ (l : List Use) (b : Int) : FCall Tryd.prog Gl 121 [LU l, vI b] [] (vI (first l b)) [] := by
 refine FCall.enterL hT hmix [] Tryd.func121 rfl rfl rfl fun hbd => ?_
 have ha := bds_list hbd (.head _)
 (conv => whnf)
 refine LWp.loop hT hmix [] (fun k : Nat => [(5, vI k)]) (fun _ => []) (fun k => k ≤ l.length ∧ ∀ j x, j < k → l[j]? = some x → x.sym.bind ≠ b) (fun k => l.length - k) 0 ⟨Nat.zero_le _, fun j x h => by omega⟩ ?_
 (conv => whnf)
 refine ⟨?_, fun k ⟨hk, hkk⟩ => ?_⟩
 ·(repeat' (first | exact trivial | exact Wk.refl _ | exact ObWk.refl _ | exact rfl | exact ⟨_, rfl⟩ | exact Nat.zero_lt_one | refine And.intro ?_ ?_ | unfold okTo | (unfold okO; conv => whnf) | (unfold okS; conv => whnf) | (unfold SlotOk; conv => whnf) | (unfold ObjOk; conv => whnf) | (unfold okCells; conv => whnf) | (unfold liveTo; conv => whnf) | exact Nat.zero_lt_succ _))
 ·(conv => whnf)
  refine split_intro (fun h => ?_) (fun h => ?_)
  ·have hlt : k < l.length := by simpa using h
   obtain ⟨x, hx⟩ := exI hlt
   (conv => whnf)
   refine ⟨_, ⟨by omega, getMap hx⟩, ?_⟩
   (conv => whnf)
   refine split_intro (fun hxy => ?_) (fun hxy => ?_)
   ·(conv => whnf)
    exact Wk.int (by rw [first_eq hx (by simpa using hxy) hkk])
   ·(conv => whnf)
    refine ⟨_, add64 (c := ((k + 1 : Nat) : Int)) (by omega) (by omega), ?_⟩
    (conv => whnf)
    refine ⟨k + 1, ⟨⟨by omega, fun j y hj hy => ?_⟩, by simp only []; omega⟩, ?_⟩
    ·rcases Nat.lt_or_ge j k with h1 | h1
     ·exact hkk j y h1 hy
     ·obtain rfl : j = k := by omega
      rw [hx] at hy
      simp at hy; subst hy
      simpa using hxy
    ·(repeat' (first | exact trivial | exact Wk.refl _ | exact ObWk.refl _ | exact rfl | exact ⟨_, rfl⟩ | exact Nat.zero_lt_one | refine And.intro ?_ ?_ | unfold okTo | (unfold okO; conv => whnf) | (unfold okS; conv => whnf) | (unfold SlotOk; conv => whnf) | (unfold ObjOk; conv => whnf) | (unfold okCells; conv => whnf) | (unfold liveTo; conv => whnf) | exact Nat.zero_lt_succ _))
  ·(conv => whnf)
   have hge : l.length ≤ k := by simpa using h
   exact Wk.int (by rw [first_neg (fun j x hj => hkk j x (by have := (List.getElem?_eq_some_iff.1 hj).1; omega) hj)])

theorem one_ (x : Sym) (u : Int) : FCall Tryd.prog Gl 103 [.agg x.enc, vI u] [] (.agg (Bd.one x u).encN) [] := by
 refine FCall.enterL hT hmix [] Tryd.func103 rfl rfl rfl fun hbd => ?_
 (conv => whnf)
 refine CallLeaf.wa (empty_) rfl ?_
 (conv => whnf)
 refine split_intro (fun h1 => ?_) (fun h1 => ?_)
 ·(conv => whnf)
  exact Wk.of_eq (by simp at h1; simp [Bd.one, h1, empty])
 ·(conv => whnf)
  refine split_intro (fun h2 => ?_) (fun h2 => ?_)
  ·(conv => whnf)
   exact Wk.of_eq (by simp at h1 h2; simp [Bd.one, h2, empty])
  ·(conv => whnf)
   refine split_intro (fun h3 => ?_) (fun h3 => ?_)
   ·(conv => whnf)
    refine split_intro (fun h4 => ?_) (fun h4 => ?_)
    ·(conv => whnf)
     simp at h1 h2 h3 h4
     omega
    ·(conv => whnf)
     exact Wk.of_eq (by simp at h1 h2 h3 h4; simp [Bd.one, h3, empty])
   ·(conv => whnf)
    refine split_intro (fun h4 => ?_) (fun h4 => ?_)
    ·(conv => whnf)
     exact Wk.of_eq (by simp at h1 h2 h3 h4; simp [Bd.one, h4, empty])
    ·(conv => whnf)
     exact Wk.of_eq (by simp at h1 h2 h3 h4; simp [Bd.one, h1, h2, h3, h4, empty])
end Go.Proofs.YtfbmknghfhancaaDoor

namespace Go.Proofs.YtfbmknghfhancaaDoor
open Go Go.AL Go.AL.Bd
set_option maxRecDepth 100000
theorem growP_ (n : Int) (h0 : 0 < n) (h1 : n * 8 ≤ 140737488355328) : FCall Tryd.prog Gl 120 [.nil, vI n] [] (.list (.tok 0) []) [.tok 0 1] := by
 refine FCall.enterO hT hmix [] Tryd.func120 rfl rfl rfl fun hbd => ?_
 (conv => whnf)
 refine split_intro (fun h2 => ?_) (fun h2 => ?_)
 ·simp at h2; omega
 ·(conv => whnf)
  refine ⟨0, sub64 (by omega) (by omega), ?_⟩
  (conv => whnf)
  refine ⟨n, sub64 (by omega) (by omega), ?_⟩
  (conv => whnf)
  refine split_intro (fun h3 => ?_) (fun h3 => ?_)
  ·(conv => whnf)
   refine ⟨⟨rfl, rfl⟩, ?_⟩
   (conv => whnf)
   refine ⟨⟨by omega, (by show _ * 8 ≤ _; omega)⟩, ?_⟩
   (conv => whnf)
   refine ⟨rfl, ?_⟩
   (conv => whnf)
   refine ⟨[2600], rfl, by (try unfold pullOk); (repeat' (first | exact trivial | exact ObWk.refl _ | refine And.intro ?_ ?_ | unfold pullOk)), ?_⟩
   exact Wk.refl _
  ·simp at h3; omega

theorem grow0_ (n : Int) (hn : n = 0) : FCall Tryd.prog Gl 120 [.nil, vI n] [] .nil [] := by
 subst hn
 refine FCall.enterL hT hmix [] Tryd.func120 rfl rfl rfl fun hbd => ?_
 (conv => whnf)
 refine ⟨0, rfl, ?_⟩
 (conv => whnf)
 refine ⟨0, rfl, ?_⟩
 (conv => whnf)
 exact Wk.refl _

def sumLen (ls : List (List Int)) : Nat := ls.flatten.length
theorem take_flatten {α : Type} {ls : List (List α)} {k : Nat} {x : List α} (h : ls[k]? = some x) : (ls.take (k + 1)).flatten = (ls.take k).flatten ++ x := by
 rw [List.take_add_one, h]; simp
theorem take_flatten_le {α : Type} (ls : List (List α)) (k : Nat) : (ls.take k).flatten.length ≤ ls.flatten.length := by
 have : ls.flatten.length = (ls.take k).flatten.length + (ls.drop k).flatten.length := by
  rw [← List.length_append, ← List.flatten_append, List.take_append_drop]
 omega
abbrev eLI (l : List Int) : List D := [LI l]
theorem concat_ (ls : List (List Int)) (hb : ls.flatten.length * 8 ≤ 140737488355328) : FCall Tryd.prog Gl 112 [.list .any (ls.map eLI)] [] (LIn ls.flatten) [] := by
 refine FCall.enterL hT hmix [] Tryd.func112 rfl rfl rfl fun hbd => ?_
 have ha := bds_list hbd (.head _)
 (conv => whnf)
 refine LWp.loop hT hmix [] (fun k : Nat => [(11, vI k), (3, vI ((ls.take k).flatten.length : Nat))]) (fun _ => []) (fun k => k ≤ ls.length) (fun k => ls.length - k) 0 (Nat.zero_le _) ?_
 (conv => whnf)
 refine ⟨?_, fun k hk => ?_⟩
 ·(repeat' (first | exact trivial | exact Wk.refl _ | exact ObWk.refl _ | exact rfl | exact ⟨_, rfl⟩ | exact Nat.zero_lt_one | refine And.intro ?_ ?_ | unfold okTo | (unfold okO; conv => whnf) | (unfold okS; conv => whnf) | (unfold SlotOk; conv => whnf) | (unfold ObjOk; conv => whnf) | (unfold okCells; conv => whnf) | (unfold liveTo; conv => whnf) | exact Nat.zero_lt_succ _))
 ·have hsz := take_flatten_le ls k
  have hsz1 := take_flatten_le ls (k + 1)
  (conv => whnf)
  refine split_intro (fun h => ?_) (fun h => ?_)
  ·have hlt : k < ls.length := by simpa using h
   obtain ⟨x, hx⟩ := exI hlt
   have htk := take_flatten hx
   (conv => whnf)
   refine ⟨_, ⟨by omega, getMap hx⟩, ?_⟩
   (conv => whnf)
   refine ⟨_, add64 (c := (((ls.take (k + 1)).flatten.length : Nat) : Int)) (by rw [htk]; simp) (by omega), ?_⟩
   (conv => whnf)
   refine ⟨_, add64 (c := ((k + 1 : Nat) : Int)) (by omega) (by omega), ?_⟩
   (conv => whnf)
   refine ⟨k + 1, ⟨by omega, by simp only []; omega⟩, ?_⟩
   (repeat' (first | exact trivial | exact Wk.refl _ | exact ObWk.refl _ | exact rfl | exact ⟨_, rfl⟩ | exact Nat.zero_lt_one | refine And.intro ?_ ?_ | unfold okTo | (unfold okO; conv => whnf) | (unfold okS; conv => whnf) | (unfold SlotOk; conv => whnf) | (unfold ObjOk; conv => whnf) | (unfold okCells; conv => whnf) | (unfold liveTo; conv => whnf) | exact Nat.zero_lt_succ _))
  ·have hge : k = ls.length := by simp at h; omega
   subst hge
   rw [List.take_length] at hsz
   rcases Nat.eq_zero_or_pos ls.flatten.length with h0 | h0
   ·have hall : ∀ x ∈ ls, x = [] := fun x hx => by
     have := List.sublist_flatten_of_mem hx
     exact List.eq_nil_of_length_eq_zero (by have := this.length_le; omega)
    (conv => whnf)
    refine CallLeaf.w (by (repeat' (first | exact ArgsTo.nil | refine ArgsTo.cons ?_ ?_ | exact ArgTo.mk' rfl (Wk.refl _) | exact ArgTo.mk' rfl Wk.nilm | exact ArgTo.mk' rfl (Wk.int (by simp)) | exact ArgTo.mk' rfl (Wk.list _ _) | exact ArgTo.mk' rfl (Wk.agg (by (repeat' (first | exact Wks.nil | refine Wks.cons ?_ ?_ | exact Wk.refl _ | exact Wk.nilm | exact Wk.list _ _  | exact Wk.natN rfl | refine Wk.agg ?_))))))) (grow0_ _ (by rw [List.take_length]; omega)) rfl ?_
    (conv => whnf)
    refine LWp.loop hT hmix [] (fun k : Nat => [(27, vI k), (6, .list (.tok 900000) [])]) (fun _ => [(900000, .tok 0 1)]) (fun k => k ≤ ls.length) (fun k => ls.length - k) 0 (Nat.zero_le _) ?_
    (conv => whnf)
    refine ⟨?_, fun k hk => ?_⟩
    ·(repeat' (first | exact trivial | exact Wk.refl _ | exact ObWk.refl _ | exact rfl | exact ⟨_, rfl⟩ | exact Nat.zero_lt_one | refine And.intro ?_ ?_ | unfold okTo | (unfold okO; conv => whnf) | (unfold okS; conv => whnf) | (unfold SlotOk; conv => whnf) | (unfold ObjOk; conv => whnf) | (unfold okCells; conv => whnf) | (unfold liveTo; conv => whnf) | exact Nat.zero_lt_succ _))
    ·(conv => whnf)
     refine split_intro (fun h => ?_) (fun h => ?_)
     ·have hlt : k < ls.length := by simpa using h
      obtain ⟨x, hx⟩ := exI hlt
      obtain rfl := hall x (List.mem_of_getElem? hx)
      (conv => whnf)
      refine ⟨_, ⟨by omega, getMap hx⟩, ?_⟩
      (conv => whnf)
      refine ⟨_, appL (xs := []) (ys := []) (zs := []) rfl rfl (fun _ => rfl) rfl (by decide), ?_⟩
      (conv => whnf)
      refine ⟨_, add64 (c := ((k + 1 : Nat) : Int)) (by omega) (by omega), ?_⟩
      (conv => whnf)
      refine ⟨k + 1, ⟨by omega, by simp only []; omega⟩, ?_⟩
      (repeat' (first | exact trivial | exact Wk.refl _ | exact ObWk.refl _ | exact rfl | exact ⟨_, rfl⟩ | exact Nat.zero_lt_one | refine And.intro ?_ ?_ | unfold okTo | (unfold okO; conv => whnf) | (unfold okS; conv => whnf) | (unfold SlotOk; conv => whnf) | (unfold ObjOk; conv => whnf) | (unfold okCells; conv => whnf) | (unfold liveTo; conv => whnf) | exact Nat.zero_lt_succ _))
     ·(conv => whnf)
      have : ls.flatten = [] := List.eq_nil_of_length_eq_zero h0
      exact Wk.nat' (by rw [this]; rfl)
   ·(conv => whnf)
    refine CallLeaf.o [4616] (by (repeat' (first | exact ArgsTo.nil | refine ArgsTo.cons ?_ ?_ | exact ArgTo.mk' rfl (Wk.refl _) | exact ArgTo.mk' rfl Wk.nilm | exact ArgTo.mk' rfl (Wk.int (by simp)) | exact ArgTo.mk' rfl (Wk.list _ _) | exact ArgTo.mk' rfl (Wk.agg (by (repeat' (first | exact Wks.nil | refine Wks.cons ?_ ?_ | exact Wk.refl _ | exact Wk.nilm | exact Wk.list _ _  | exact Wk.natN rfl | refine Wk.agg ?_))))))) (growP_ _ (by rw [List.take_length]; omega) (by rw [List.take_length]; omega)) rfl rfl (by (repeat' (first | exact trivial | exact rfl | refine And.intro ?_ ?_))) (by (repeat' (first | exact trivial | exact rfl | refine And.intro ?_ ?_))) (by (repeat' (first | exact trivial | exact rfl | refine And.intro ?_ ?_))) rfl rfl ?_
    (conv => whnf)
    refine LWp.loop hT hmix [] (fun k : Nat => [(27, vI k), (6, .list (.tok 4616) ((ls.take k).flatten.map eI))]) (fun k => [(4616, .tok ((ls.take k).flatten.map eI).length 1)]) (fun k => k ≤ ls.length) (fun k => ls.length - k) 0 (Nat.zero_le _) ?_
    (conv => whnf)
    refine ⟨?_, fun k hk => ?_⟩
    ·(repeat' (first | exact trivial | exact Wk.refl _ | exact ObWk.refl _ | exact rfl | exact ⟨_, rfl⟩ | exact Nat.zero_lt_one | refine And.intro ?_ ?_ | unfold okTo | (unfold okO; conv => whnf) | (unfold okS; conv => whnf) | (unfold SlotOk; conv => whnf) | (unfold ObjOk; conv => whnf) | (unfold okCells; conv => whnf) | (unfold liveTo; conv => whnf) | exact Nat.zero_lt_succ _))
    ·have hsz1 := take_flatten_le ls (k + 1)
     (conv => whnf)
     refine split_intro (fun h => ?_) (fun h => ?_)
     ·have hlt : k < ls.length := by simpa using h
      obtain ⟨x, hx⟩ := exI hlt
      have htk := take_flatten hx
      (conv => whnf)
      refine ⟨_, ⟨by omega, getMap hx⟩, ?_⟩
      (conv => whnf)
      refine ⟨_, appL rfl rfl (fun _ => rfl) htk.symm (by show _ * 8 ≤ _; omega), ?_⟩
      (conv => whnf)
      refine ⟨_, add64 (c := ((k + 1 : Nat) : Int)) (by omega) (by omega), ?_⟩
      (conv => whnf)
      refine ⟨k + 1, ⟨by omega, by simp only []; omega⟩, ?_⟩
      (repeat' (first | exact trivial | exact Wk.refl _ | exact ObWk.refl _ | exact rfl | exact ⟨_, rfl⟩ | exact Nat.zero_lt_one | refine And.intro ?_ ?_ | unfold okTo | (unfold okO; conv => whnf) | (unfold okS; conv => whnf) | (unfold SlotOk; conv => whnf) | (unfold ObjOk; conv => whnf) | (unfold okCells; conv => whnf) | (unfold liveTo; conv => whnf) | exact Nat.zero_lt_succ _))
     ·(conv => whnf)
      have hge : k = ls.length := by simp at h; omega
      exact Wk.nat' (by rw [hge, List.take_length])
end Go.Proofs.YtfbmknghfhancaaDoor

namespace Go.Proofs.YtfbmknghfhancaaDoor
open Go Go.AL Go.AL.Bd
set_option maxRecDepth 100000

theorem strength_drop {n : Int} (h0 : 0 ≤ n) (h1 : n < 6) : ∃ r, (Gl 0).drop (n.toNat * 1) = vI (strength n) :: r := by
 obtain ⟨m, rfl⟩ : ∃ m : Nat, n = m := ⟨n.toNat, by omega⟩
 have : m = 0 ∨ m = 1 ∨ m = 2 ∨ m = 3 ∨ m = 4 ∨ m = 5 := by omega
 rcases this with rfl | rfl | rfl | rfl | rfl | rfl <;> exact ⟨_, rfl⟩

theorem join_ (a b : State) (ha : 0 ≤ a.bind ∧ a.bind < 6) (hb : 0 ≤ b.bind ∧ b.bind < 6) (hs : (a.strongs ++ b.strongs).length * 8 ≤ 140737488355328) :
  FCall Tryd.prog Gl 102 [.agg a.enc, .agg b.enc] [] (.agg (join a b).encN) [] := by
 obtain ⟨r1, e1⟩ := strength_drop hb.1 hb.2
 obtain ⟨r2, e2⟩ := strength_drop ha.1 ha.2
 have hcat := concat_ [a.strongs, b.strongs] (by simpa using hs)
 refine FCall.enterL hT hmix [] Tryd.func102 rfl rfl rfl fun hbd => ?_
 (conv => whnf)
 refine ⟨_, ⟨hb.1, hb.2, e1⟩, ?_⟩
 (conv => whnf)
 refine ⟨_, ⟨ha.1, ha.2, e2⟩, ?_⟩
 (conv => whnf)
 refine split_intro (fun h => ?_) (fun h => ?_)
 ·(conv => whnf)
  refine split_intro (fun h1 => ?_) (fun h1 => ?_)
  all_goals
   (conv => whnf)
   refine split_intro (fun h2 => ?_) (fun h2 => ?_)
   all_goals
    (conv => whnf)
    refine split_intro (fun h3 => ?_) (fun h3 => ?_)
    all_goals
     (conv => whnf)
     refine CallLeaf.wa (hcat) rfl ?_
     (conv => whnf)
     exact Wk.of_eq (by simp at h h1 h2 h3; simp [join, h, h1, h2, h3])
 ·(conv => whnf)
  refine split_intro (fun h4 => ?_) (fun h4 => ?_)
  ·(conv => whnf)
   refine split_intro (fun h5 => ?_) (fun h5 => ?_)
   all_goals
    (conv => whnf)
    refine split_intro (fun h1 => ?_) (fun h1 => ?_)
    all_goals
     (conv => whnf)
     refine split_intro (fun h2 => ?_) (fun h2 => ?_)
     all_goals
      (conv => whnf)
      refine split_intro (fun h3 => ?_) (fun h3 => ?_)
      all_goals
       (conv => whnf)
       refine CallLeaf.wa (hcat) rfl ?_
       (conv => whnf)
       exact Wk.of_eq (by (try simp only [goMax]); simp at h h1 h2 h3 h4 h5; have hn := Int.not_lt.2 h; rw [h4] at hn; simp [join, h1, h2, h3, h4, h5, hn])
  ·(conv => whnf)
   refine split_intro (fun h1 => ?_) (fun h1 => ?_)
   all_goals
    (conv => whnf)
    refine split_intro (fun h2 => ?_) (fun h2 => ?_)
    all_goals
     (conv => whnf)
     refine split_intro (fun h3 => ?_) (fun h3 => ?_)
     all_goals
      (conv => whnf)
      refine CallLeaf.wa (hcat) rfl ?_
      (conv => whnf)
      exact Wk.of_eq (by simp at h h1 h2 h3 h4; simp [join, h1, h2, h3, h4, Int.not_lt.2 h])

theorem merge_ (s : State) (x : Sym) (u : Int) (hs : 0 ≤ s.bind ∧ s.bind < 6) (hx : 1 ≤ x.bind ∧ x.bind ≤ 5) (hl : s.strongs.length ≤ 1000000) :
  FCall Tryd.prog Gl 86 [.agg s.enc, .agg x.enc, vI u] [] (.agg (merge s x u).encN) [] := by
 have h1 := one_strongs x u
 have hj := join_ s (Bd.one x u) hs (one_bind u hx) (by simp; omega)
 refine FCall.enterL hT hmix [] Tryd.func86 rfl rfl rfl fun hbd => ?_
 (conv => whnf)
 refine CallLeaf.wa (one_ x u) rfl ?_
 (conv => whnf)
 refine CallLeaf.wa (hj) rfl ?_
 (conv => whnf)
 exact Wk.refl _

end Go.Proofs.YtfbmknghfhancaaDoor

namespace Go.Proofs.YtfbmknghfhancaaDoor
open Go Go.AL Go.AL.Bd
set_option maxRecDepth 100000
set_option maxHeartbeats 4000000
theorem refOf_ (l : List Use) (hl : l.length ≤ 1000000) : FCall Tryd.prog Gl 113 [LU l] [] (.agg (refOf l).encN) [] := by
 have g1 := useAt_get (l := l) (b := 1)
 have g2 := useAt_get (l := l) (b := 2)
 have g3 := useAt_get (l := l) (b := 3)
 refine FCall.enterL hT hmix [] Tryd.func113 rfl rfl rfl fun hbd => ?_
 (conv => whnf)
 refine CallLeaf.wa (first_ l 1) rfl ?_
 (conv => whnf)
 refine CallLeaf.wa (first_ l 2) rfl ?_
 (conv => whnf)
 refine CallLeaf.wa (first_ l 3) rfl ?_
 (conv => whnf)
 refine split_intro (fun hs => ?_) (fun hs => ?_)
 all_goals
  (conv => whnf)
  refine CallLeaf.wa (first_ l 4) rfl ?_
  (conv => whnf)
  refine CallLeaf.wa (first_ l 5) rfl ?_
  (conv => whnf)
  refine LWp.loop hT hmix [] (fun k : Nat => [(7, vI k)]) (fun k => [(520, .cells (mid l k)), (900000, .tok ((strongsOf (l.take k)).map eI).length 1)]) (fun k => k ≤ l.length) (fun k => l.length - k) 0 (Nat.zero_le _) ?_
  (conv => whnf)
  refine ⟨?_, fun k hk => ?_⟩
  ·(repeat' (first | exact trivial | exact Wk.refl _ | exact ObWk.refl _ | exact rfl | exact ⟨_, rfl⟩ | exact Nat.zero_lt_one | refine And.intro ?_ ?_ | unfold okTo | (unfold okO; conv => whnf) | (unfold okS; conv => whnf) | (unfold SlotOk; conv => whnf) | (unfold ObjOk; conv => whnf) | (unfold okCells; conv => whnf) | (unfold liveTo; conv => whnf) | exact Nat.zero_lt_succ _))
   all_goals first | (refine Wk.int ?_; simp [maxOf]; done) | (refine Wk.bool ?_; simp at hs; simp [hs]; done) | (refine Wk.bool ?_; rw [decide_eq_false (show ¬ 0 ≤ first l 1 by simpa using hs)]; simp)
  ·have hsl := strongsOf_le (l.take k)
   have hlk : (l.take k).length ≤ k := by simp; omega
   (conv => whnf)
   refine split_intro (fun h => ?_) (fun h => ?_)
   ·have hlt : k < l.length := by simpa using h
    obtain ⟨x, hx⟩ := exI hlt
    (conv => whnf)
    refine ⟨_, ⟨by omega, getMap hx⟩, ?_⟩
    (conv => whnf)
    refine split_intro (fun h1 => ?_) (fun h1 => ?_)
    ·have hb1 : x.sym.bind = 1 := by simpa using h1
     (conv => whnf)
     refine ⟨_, ⟨by omega, getMap hx⟩, ?_⟩
     (conv => whnf)
     refine ⟨_, appL (ys := [x.unit]) (zs := strongsOf (l.take (k + 1))) rfl rfl (fun _ => rfl) (by rw [take_snoc hx, strongsOf_snoc]; simp [hb1]) (by rw [take_snoc hx, strongsOf_snoc]; simp [hb1]; show _ * 8 ≤ _; omega), ?_⟩
     (conv => whnf)
     refine split_intro (fun h2 => ?_) (fun h2 => ?_)
     ·(conv => whnf)
      refine ⟨_, ⟨by omega, getMap hx⟩, ?_⟩
      (conv => whnf)
      have hb3 : (x.sym.bind == 3) = false := by simp [hb1]
      refine split_intro (fun h3 => ?_) (fun h3 => ?_)
      ·rw [hb3] at h3; simp at h3
      ·(conv => whnf)
       refine ⟨_, add64 (c := ((k + 1 : Nat) : Int)) (by omega) (by omega), ?_⟩
       (conv => whnf)
       refine ⟨k + 1, ⟨by omega, by simp only []; omega⟩, ?_⟩
       simp only [mid, max_same _ hx (show x.sym.bind ≠ 3 by omega)]
       (repeat' (first | exact trivial | exact Wk.refl _ | exact ObWk.refl _ | exact rfl | exact ⟨_, rfl⟩ | exact Nat.zero_lt_one | refine And.intro ?_ ?_ | unfold okTo | (unfold okO; conv => whnf) | (unfold okS; conv => whnf) | (unfold SlotOk; conv => whnf) | (unfold ObjOk; conv => whnf) | (unfold okCells; conv => whnf) | (unfold liveTo; conv => whnf) | exact Nat.zero_lt_succ _))
     ·(conv => whnf)
      refine ⟨_, add64 (c := ((k + 1 : Nat) : Int)) (by omega) (by omega), ?_⟩
      (conv => whnf)
      refine ⟨k + 1, ⟨by omega, by simp only []; omega⟩, ?_⟩
      simp only [mid, max_same _ hx (show x.sym.bind ≠ 3 by omega)]
      (repeat' (first | exact trivial | exact Wk.refl _ | exact ObWk.refl _ | exact rfl | exact ⟨_, rfl⟩ | exact Nat.zero_lt_one | refine And.intro ?_ ?_ | unfold okTo | (unfold okO; conv => whnf) | (unfold okS; conv => whnf) | (unfold SlotOk; conv => whnf) | (unfold ObjOk; conv => whnf) | (unfold okCells; conv => whnf) | (unfold liveTo; conv => whnf) | exact Nat.zero_lt_succ _))
    ·have hb1 : ¬ x.sym.bind = 1 := by simpa using h1
     (conv => whnf)
     refine split_intro (fun h2 => ?_) (fun h2 => ?_)
     ·have hn : first l 1 < 0 := by simpa using h2
      (conv => whnf)
      refine ⟨_, ⟨by omega, getMap hx⟩, ?_⟩
      (conv => whnf)
      refine split_intro (fun h3 => ?_) (fun h3 => ?_)
      ·have hb3 : x.sym.bind = 3 := by simpa using h3
       (conv => whnf)
       refine ⟨_, ⟨by omega, getMap hx⟩, ?_⟩
       (conv => whnf)
       refine ⟨_, ⟨by omega, getMap hx⟩, ?_⟩
       (conv => whnf)
       refine ⟨_, add64 (c := ((k + 1 : Nat) : Int)) (by omega) (by omega), ?_⟩
       (conv => whnf)
       refine ⟨k + 1, ⟨by omega, by simp only []; omega⟩, ?_⟩
       simp only [mid, strongs_same hx hb1, max_more _ hx hb3, goMax]
       (repeat' (first | exact trivial | exact Wk.refl _ | exact ObWk.refl _ | exact rfl | exact ⟨_, rfl⟩ | exact Nat.zero_lt_one | refine And.intro ?_ ?_ | unfold okTo | (unfold okO; conv => whnf) | (unfold okS; conv => whnf) | (unfold SlotOk; conv => whnf) | (unfold ObjOk; conv => whnf) | (unfold okCells; conv => whnf) | (unfold liveTo; conv => whnf) | exact Nat.zero_lt_succ _))
       all_goals exact Wk.int (by simp [hn])
      ·have hb3 : ¬ x.sym.bind = 3 := by simpa using h3
       (conv => whnf)
       refine ⟨_, add64 (c := ((k + 1 : Nat) : Int)) (by omega) (by omega), ?_⟩
       (conv => whnf)
       refine ⟨k + 1, ⟨by omega, by simp only []; omega⟩, ?_⟩
       simp only [mid, strongs_same hx hb1, max_same _ hx hb3]
       (repeat' (first | exact trivial | exact Wk.refl _ | exact ObWk.refl _ | exact rfl | exact ⟨_, rfl⟩ | exact Nat.zero_lt_one | refine And.intro ?_ ?_ | unfold okTo | (unfold okO; conv => whnf) | (unfold okS; conv => whnf) | (unfold SlotOk; conv => whnf) | (unfold ObjOk; conv => whnf) | (unfold okCells; conv => whnf) | (unfold liveTo; conv => whnf) | exact Nat.zero_lt_succ _))
     ·have hn : ¬ first l 1 < 0 := by simpa using h2
      (conv => whnf)
      refine ⟨_, add64 (c := ((k + 1 : Nat) : Int)) (by omega) (by omega), ?_⟩
      (conv => whnf)
      refine ⟨k + 1, ⟨by omega, by simp only []; omega⟩, ?_⟩
      simp only [mid, strongs_same hx hb1]
      (repeat' (first | exact trivial | exact Wk.refl _ | exact ObWk.refl _ | exact rfl | exact ⟨_, rfl⟩ | exact Nat.zero_lt_one | refine And.intro ?_ ?_ | unfold okTo | (unfold okO; conv => whnf) | (unfold okS; conv => whnf) | (unfold SlotOk; conv => whnf) | (unfold ObjOk; conv => whnf) | (unfold okCells; conv => whnf) | (unfold liveTo; conv => whnf) | exact Nat.zero_lt_succ _))
      all_goals exact Wk.int (by simp [hn])
   ·have hge : k = l.length := by simp at h; omega
    subst hge
    (conv => whnf)
    refine split_intro (fun c1 => ?_) (fun c1 => ?_)
    ·have c1' : 0 ≤ first l 1 := by simpa using c1
     (conv => whnf)
     refine ⟨_, ⟨c1', getMap (g1 c1')⟩, ?_⟩
     (conv => whnf)
     refine ⟨_, ⟨c1', getMap (g1 c1')⟩, ?_⟩
     (conv => whnf)
     exact Wk.of_eq (by simp [refOf, c1', Int.not_lt.2 c1'])
    ·have c1' : ¬ 0 ≤ first l 1 := by simpa using c1
     (conv => whnf)
     refine split_intro (fun c3 => ?_) (fun c3 => ?_)
     ·have c3' : 0 ≤ first l 3 := by simpa using c3
      (conv => whnf)
      refine ⟨_, ⟨c3', getMap (g3 c3')⟩, ?_⟩
      (conv => whnf)
      exact Wk.of_eq (by simp [refOf, c1', c3', Int.not_le.1 c1'])
     ·(conv => whnf)
      refine split_intro (fun c2 => ?_) (fun c2 => ?_)
      ·have c2' : 0 ≤ first l 2 := by simpa using c2
       (conv => whnf)
       refine ⟨_, ⟨c2', getMap (g2 c2')⟩, ?_⟩
       (conv => whnf)
       refine ⟨_, ⟨c2', getMap (g2 c2')⟩, ?_⟩
       (conv => whnf)
       exact Wk.of_eq (by simp [refOf, c1', c2', show ¬ 0 ≤ first l 3 by simpa using c3, Int.not_le.1 c1'])
      ·(conv => whnf)
       exact Wk.of_eq (by simp [refOf, c1', show ¬ 0 ≤ first l 3 by simpa using c3, show ¬ 0 ≤ first l 2 by simpa using c2, Int.not_le.1 c1'])
end Go.Proofs.YtfbmknghfhancaaDoor

namespace Go.Proofs.YtfbmknghfhancaaDoor
open Go Go.AL Go.AL.Ap Go.AL.Ob Go.AL.Tb
set_option maxRecDepth 100000
set_option maxHeartbeats 4000000
theorem sB_sz (s : Str) : (sB s).size = s.length := by simp [sB, ByteArray.size]
abbrev oD (o : Ob.Obj) : D := .agg [.list .any (SE o.syms), LB o.body]
theorem not_t {b : Bool} (h : (!b) = true) : b = false := by cases b <;> simp_all
theorem not_f {b : Bool} (h : (!b) = false) : b = true := by cases b <;> simp_all
theorem len_ne {a b : Nat} (h : ((a : Int) != (b : Int)) = true) : a ≠ b := by intro e; subst e; simp at h
theorem len_eq {a b : Nat} (h : ((a : Int) != (b : Int)) = false) : a = b := by
 by_cases e : a = b
 ·exact e
 ·have : ((a : Int) != (b : Int)) = true := by simp; omega
  rw [this] at h; exact absurd h (by decide)
theorem vbad {s : Ob.Sym} (h : ¬ (1 ≤ s.name.length ∧ s.name.length ≤ 255 ∧ (0 : UInt8) ∉ s.name ∧ 0 ≤ s.size ∧ s.size ≤ 4294967295)) : valid s = false := by
 cases hv : valid s with
 | false => rfl
 | true =>
  obtain ⟨h1, h2, h3, h4, h5, _⟩ := valid_iff.1 hv
  exact absurd ⟨h1, h2, h3, h4, h5⟩ h
theorem vgood {s : Ob.Sym} (h1 : 1 ≤ s.name.length) (h2 : s.name.length ≤ 255) (h3 : (0 : UInt8) ∉ s.name) (h4 : 0 ≤ s.size) (h5 : s.size ≤ 4294967295) : valid s = bindOk s := by
 simp [valid, h1, h2, h3, h4, h5]
theorem has_mem (l : List Ob.Sym) (n : Str) : Ob.has l n = decide (n ∈ l.map Ob.Sym.name) := by
 rw [Bool.eq_iff_iff, Ob.has_iff]; simp
theorem okL_step {l : List Ob.Sym} {k : Nat} {s : Ob.Sym} (h : l[k]? = some s) : okL [] (l.take (k + 1)) = (okL [] (l.take k) && (valid s && !Ob.has (l.take k) s.name)) := by
 rw [List.take_add_one, h, Option.toList_some, okL_app]
 simp [okL]
theorem okL_bad {l : List Ob.Sym} {k : Nat} {s : Ob.Sym} (h : l[k]? = some s) (hb : (valid s && !Ob.has (l.take k) s.name) = false) : validO l = false := by
 have h1 := okL_step h
 rw [hb, Bool.and_false] at h1
 have h2 := okL_app (l.take (k + 1)) (l.drop (k + 1)) []
 rw [List.take_append_drop, h1, Bool.false_and] at h2
 simp [validO, h2]
theorem pows_at : ∀ i < 17, pows[i]? = some ((2 ^ i : Nat) : Int) := by decide
theorem pow_le16 {j : Nat} (h : (2 ^ j : Nat) ≤ 65536) : j ≤ 16 := by
 rcases Nat.lt_or_ge 16 j with hj | hj
 ·have : 2 ^ 17 ≤ 2 ^ j := Nat.pow_le_pow_right (by decide) hj
  omega
 ·exact hj
theorem two_step {j : Nat} (h : (2 ^ j : Nat) ≤ 65536) : intBin .mul .i64 2 ((2 ^ j : Nat) : Int) = some ((2 ^ (j + 1) : Nat) : Int) := by
 rw [Nat.pow_succ]
 generalize 2 ^ j = m at *
 exact mul64 (by push_cast; omega) (by push_cast; omega)
theorem power_ (n : Int) : FCall Tryd.prog Gl 80 [vI n] [] (vB (power n)) [] := by
 refine FCall.enterL hT hmix [] Tryd.func80 rfl rfl rfl fun hbd => ?_
 (conv => whnf)
 refine LWp.loop hT hmix [] (fun j : Nat => [(3, vI ((2 ^ j : Nat) : Int))]) (fun _ => []) (fun j => j ≤ 17 ∧ n ∉ pows.take j) (fun j => 17 - j) 0 ⟨Nat.zero_le _, (List.not_mem_nil : n ∉ ([] : List Int))⟩ ?_
 (conv => whnf)
 refine ⟨?_, fun j ⟨hj, hn⟩ => ?_⟩
 ·(repeat' (first | exact trivial | exact Wk.refl _ | exact ObWk.refl _ | exact rfl | exact ⟨_, rfl⟩ | exact Nat.zero_lt_one | refine And.intro ?_ ?_ | unfold okTo | (unfold okO; conv => whnf) | (unfold okS; conv => whnf) | (unfold SlotOk; conv => whnf) | (unfold ObjOk; conv => whnf) | (unfold okCells; conv => whnf) | (unfold liveTo; conv => whnf) | exact Nat.zero_lt_succ _))
 ·(conv => whnf)
  refine split_intro (fun h => ?_) (fun h => ?_)
  ·have h' : (2 ^ j : Nat) ≤ 65536 := Int.ofNat_le.1 (show ((2 ^ j : Nat) : Int) ≤ ((65536 : Nat) : Int) from of_decide_eq_true h)
   have hj16 := pow_le16 h'
   have hp := pows_at j (by omega)
   (conv => whnf)
   refine split_intro (fun h2 => ?_) (fun h2 => ?_)
   ·have e : ((2 ^ j : Nat) : Int) = n := eq_of_beq h2
    (conv => whnf)
    exact Wk.bool (by
     symm; unfold power; rw [decide_eq_true_eq, ← e]
     exact List.mem_of_getElem? hp)
   ·have e : ¬ ((2 ^ j : Nat) : Int) = n := fun e => by rw [e] at h2; simp at h2
    (conv => whnf)
    refine ⟨_, two_step h', ?_⟩
    (conv => whnf)
    refine ⟨j + 1, ⟨⟨by omega, ?_⟩, by simp only []; omega⟩, ?_⟩
    ·rw [List.take_add_one, hp]
     simp only [Option.toList_some, List.mem_append, List.mem_singleton, not_or]
     exact ⟨hn, fun h => e h.symm⟩
    ·(repeat' (first | exact trivial | exact Wk.refl _ | exact ObWk.refl _ | exact rfl | exact ⟨_, rfl⟩ | exact Nat.zero_lt_one | refine And.intro ?_ ?_ | unfold okTo | (unfold okO; conv => whnf) | (unfold okS; conv => whnf) | (unfold SlotOk; conv => whnf) | (unfold ObjOk; conv => whnf) | (unfold okCells; conv => whnf) | (unfold liveTo; conv => whnf) | exact Nat.zero_lt_succ _))
  ·have h' : ¬ ((2 ^ j : Nat) : Int) ≤ 65536 := of_decide_eq_false h
   have hj17 : j = 17 := by
    rcases Nat.lt_or_ge j 17 with hlt | hge
    ·have : 2 ^ j ≤ 65536 := Nat.pow_le_pow_right (j := 16) (by decide) (by omega)
     exact absurd (show ((2 ^ j : Nat) : Int) ≤ ((65536 : Nat) : Int) from Int.ofNat_le.2 this) h'
    ·omega
   subst hj17
   (conv => whnf)
   exact Wk.bool (by symm; unfold power; rw [decide_eq_false_iff_not]; exact hn)
theorem rsym_ (s : Ob.Sym) (hb : s.name.length ≤ 1000000000) : FCall Tryd.prog Gl 59 [.agg s.enc] [] (vB (valid s)) [] := by
 obtain ⟨nm, bd, sz, al⟩ := s
 have hsz := sB_sz nm
 replace hb : nm.length ≤ 1000000000 := hb
 refine FCall.enterL hT hmix [] Tryd.func59 rfl rfl rfl fun hbd => ?_
 (conv => whnf)
 refine split_intro (fun h1 => ?_) (fun h1 => ?_)
 ·have h1' : ((sB nm).size : Int) = 0 := eq_of_beq h1
  (conv => whnf)
  exact Wk.bool (vbad (by simp only; omega)).symm
 ·have h1' : ¬ ((sB nm).size : Int) = 0 := by simpa using h1
  (conv => whnf)
  refine split_intro (fun h2 => ?_) (fun h2 => ?_)
  ·have h2' : (255 : Int) < (sB nm).size := of_decide_eq_true h2
   (conv => whnf)
   exact Wk.bool (vbad (by simp only; omega)).symm
  ·have h2' : ¬ ((255 : Int) < (sB nm).size) := of_decide_eq_false h2
   (conv => whnf)
   refine split_intro (fun h4 => ?_) (fun h4 => ?_)
   ·have h4' : sz < 0 := of_decide_eq_true h4
    (conv => whnf)
    exact Wk.bool (vbad (by simp only; omega)).symm
   ·have h4' : ¬ (sz < 0) := of_decide_eq_false h4
    (conv => whnf)
    refine split_intro (fun h5 => ?_) (fun h5 => ?_)
    ·have h5' : (4294967295 : Int) < sz := of_decide_eq_true h5
     (conv => whnf)
     exact Wk.bool (vbad (by simp only; omega)).symm
    ·have h5' : ¬ ((4294967295 : Int) < sz) := of_decide_eq_false h5
     (conv => whnf)
     refine LWp.loop hT hmix [] (fun k : Nat => [(3, vI k)]) (fun _ => []) (fun k => k ≤ nm.length ∧ (0 : UInt8) ∉ nm.take k) (fun k => nm.length - k) 0 ⟨Nat.zero_le _, by simp⟩ ?_
     (conv => whnf)
     refine ⟨?_, fun k ⟨hk, hkk⟩ => ?_⟩
     ·(repeat' (first | exact trivial | exact Wk.refl _ | exact ObWk.refl _ | exact rfl | exact ⟨_, rfl⟩ | exact Nat.zero_lt_one | refine And.intro ?_ ?_ | unfold okTo | (unfold okO; conv => whnf) | (unfold okS; conv => whnf) | (unfold SlotOk; conv => whnf) | (unfold ObjOk; conv => whnf) | (unfold okCells; conv => whnf) | (unfold liveTo; conv => whnf) | exact Nat.zero_lt_succ _))
     ·(conv => whnf)
      refine split_intro (fun h => ?_) (fun h => ?_)
      ·have hlt : k < nm.length := by have := of_decide_eq_true h; simp only at this; omega
       obtain ⟨x, hx⟩ := exI hlt
       (conv => whnf)
       refine ⟨x, ⟨by omega, by simpa using hx⟩, ?_⟩
       (conv => whnf)
       refine split_intro (fun h6 => ?_) (fun h6 => ?_)
       ·have hx0 : x = 0 := by
         have : (x.toNat : Int) = 0 := by simpa using h6
         exact UInt8.toNat_inj.1 (by simpa using this)
        (conv => whnf)
        exact Wk.bool (vbad (fun h => h.2.2.1 (by rw [← hx0]; exact List.mem_of_getElem? hx))).symm
       ·have hx0 : ¬ 0 = x := by
         intro e; subst e; simp at h6
        (conv => whnf)
        refine ⟨_, add64 (c := ((k + 1 : Nat) : Int)) (by (try simp only []); omega) (by omega), ?_⟩
        (conv => whnf)
        refine ⟨k + 1, ⟨⟨by omega, ?_⟩, by simp only []; omega⟩, ?_⟩
        ·rw [List.take_add_one, hx]; simp [hkk, hx0]
        ·(repeat' (first | exact trivial | exact Wk.refl _ | exact ObWk.refl _ | exact rfl | exact ⟨_, rfl⟩ | exact Nat.zero_lt_one | refine And.intro ?_ ?_ | unfold okTo | (unfold okO; conv => whnf) | (unfold okS; conv => whnf) | (unfold SlotOk; conv => whnf) | (unfold ObjOk; conv => whnf) | (unfold okCells; conv => whnf) | (unfold liveTo; conv => whnf) | exact Nat.zero_lt_succ _))
      ·have hge : nm.length ≤ k := by have := of_decide_eq_false h; simp only at this; omega
       rw [List.take_of_length_le hge] at hkk
       rw [vgood (s := ⟨nm, bd, sz, al⟩) (by simp only; omega) (by simp only; omega) hkk (by simp only; omega) (by simp only; omega)]
       (conv => whnf)
       refine split_intro (fun b3 => ?_) (fun b3 => ?_)
       ·have b3' : bd = 3 := eq_of_beq b3
        (conv => whnf)
        refine CallLeaf.wa (power_ al) rfl ?_
        (conv => whnf)
        exact Wk.bool (by simp [bindOk, b3'])
       ·have b3' : ¬ bd = 3 := by simpa using b3
        (conv => whnf)
        refine split_intro (fun b4 => ?_) (fun b4 => ?_)
        ·have b4' : bd = 4 := eq_of_beq b4
         (conv => whnf)
         refine split_intro (fun z => ?_) (fun z => ?_)
         ·have z' : sz = 0 := eq_of_beq z
          (conv => whnf)
          exact Wk.bool (by rw [Bool.eq_iff_iff]; simp [bindOk, b4', z'])
         ·have z' : ¬ sz = 0 := by simpa using z
          (conv => whnf)
          exact Wk.bool (by simp [bindOk, b4', z'])
        ·have b4' : ¬ bd = 4 := by simpa using b4
         (conv => whnf)
         refine split_intro (fun b5 => ?_) (fun b5 => ?_)
         ·have b5' : bd = 5 := eq_of_beq b5
          (conv => whnf)
          refine split_intro (fun z => ?_) (fun z => ?_)
          ·have z' : sz = 0 := eq_of_beq z
           (conv => whnf)
           exact Wk.bool (by rw [Bool.eq_iff_iff]; simp [bindOk, b5', z'])
          ·have z' : ¬ sz = 0 := by simpa using z
           (conv => whnf)
           exact Wk.bool (by simp [bindOk, b5', z'])
         ·have b5' : ¬ bd = 5 := by simpa using b5
          (conv => whnf)
          refine split_intro (fun b1 => ?_) (fun b1 => ?_)
          ·have b1' : bd = 1 := eq_of_beq b1
           (conv => whnf)
           exact Wk.bool (by rw [Bool.eq_iff_iff]; simp [bindOk, b1'])
          ·have b1' : ¬ bd = 1 := by simpa using b1
           (conv => whnf)
           refine split_intro (fun b2 => ?_) (fun b2 => ?_)
           ·have b2' : bd = 2 := eq_of_beq b2
            (conv => whnf)
            exact Wk.bool (by rw [Bool.eq_iff_iff]; simp [bindOk, b2'])
           ·have b2' : ¬ bd = 2 := by simpa using b2
            (conv => whnf)
            exact Wk.bool (by simp [bindOk, b1', b2', b3', b4', b5'])
theorem rhas_ (l : List Ob.Sym) (n : Str) (hl : l.length ≤ 1000000000) : FCall Tryd.prog Gl 60 [.list .any (SE l), sD n] [] (vB (Ob.has l n)) [] := by
 refine FCall.enterL hT hmix [] Tryd.func60 rfl rfl rfl fun hbd => ?_
 (conv => whnf)
 refine LWp.loop hT hmix [] (fun k : Nat => [(5, vI k)]) (fun _ => []) (fun k => k ≤ l.length ∧ Ob.has (l.take k) n = false) (fun k => l.length - k) 0 ⟨Nat.zero_le _, rfl⟩ ?_
 (conv => whnf)
 refine ⟨?_, fun k ⟨hk, hkk⟩ => ?_⟩
 ·(repeat' (first | exact trivial | exact Wk.refl _ | exact ObWk.refl _ | exact rfl | exact ⟨_, rfl⟩ | exact Nat.zero_lt_one | refine And.intro ?_ ?_ | unfold okTo | (unfold okO; conv => whnf) | (unfold okS; conv => whnf) | (unfold SlotOk; conv => whnf) | (unfold ObjOk; conv => whnf) | (unfold okCells; conv => whnf) | (unfold liveTo; conv => whnf) | exact Nat.zero_lt_succ _))
 ·(conv => whnf)
  refine split_intro (fun h => ?_) (fun h => ?_)
  ·have hlt : k < l.length := by simpa using h
   obtain ⟨s, hs⟩ := exI hlt
   (conv => whnf)
   refine ⟨_, ⟨by omega, getMap hs⟩, ?_⟩
   (conv => whnf)
   refine split_intro (fun hc => ?_) (fun hc => ?_)
   ·have hc' : s.name = n := of_decide_eq_true hc
    (conv => whnf)
    exact Wk.bool (Ob.has_iff.2 ⟨s, List.mem_of_getElem? hs, hc'⟩).symm
   ·have hc' : ¬ s.name = n := of_decide_eq_false hc
    (conv => whnf)
    refine ⟨_, add64 (c := ((k + 1 : Nat) : Int)) (by (try simp only []); omega) (by omega), ?_⟩
    (conv => whnf)
    refine ⟨k + 1, ⟨⟨by omega, ?_⟩, by simp only []; omega⟩, ?_⟩
    ·rw [List.take_add_one, hs]
     unfold Ob.has at *
     rw [List.any_append, hkk]; simp [hc']
    ·(repeat' (first | exact trivial | exact Wk.refl _ | exact ObWk.refl _ | exact rfl | exact ⟨_, rfl⟩ | exact Nat.zero_lt_one | refine And.intro ?_ ?_ | unfold okTo | (unfold okO; conv => whnf) | (unfold okS; conv => whnf) | (unfold SlotOk; conv => whnf) | (unfold ObjOk; conv => whnf) | (unfold okCells; conv => whnf) | (unfold liveTo; conv => whnf) | exact Nat.zero_lt_succ _))
  ·have hge : l.length ≤ k := by simpa using h
   rw [List.take_of_length_le hge] at hkk
   (conv => whnf)
   exact Wk.bool hkk.symm
theorem ofew_ (l : List Ob.Sym) (x : List UInt8) : FCall Tryd.prog Gl 35 [oD ⟨l, x⟩] [] (vB (fewO ⟨l, x⟩)) [] := by
 refine FCall.enterL hT hmix [] Tryd.func35 rfl rfl rfl fun hbd => ?_
 (conv => whnf)
 refine LWp.loop hT hmix [] (fun k : Nat => [(3, vI k)]) (fun _ => []) (fun k => k ≤ l.length ∧ k ≤ 61 ∧ (l.take k).all (fun s => decide (s.name.length ≤ 300)) = true) (fun k => l.length - k) 0 ⟨Nat.zero_le _, Nat.zero_le _, rfl⟩ ?_
 (conv => whnf)
 refine ⟨?_, fun k ⟨hk, hk61, hkk⟩ => ?_⟩
 ·(repeat' (first | exact trivial | exact Wk.refl _ | exact ObWk.refl _ | exact rfl | exact ⟨_, rfl⟩ | exact Nat.zero_lt_one | refine And.intro ?_ ?_ | unfold okTo | (unfold okO; conv => whnf) | (unfold okS; conv => whnf) | (unfold SlotOk; conv => whnf) | (unfold ObjOk; conv => whnf) | (unfold okCells; conv => whnf) | (unfold liveTo; conv => whnf) | exact Nat.zero_lt_succ _))
 ·(conv => whnf)
  refine split_intro (fun h1 => ?_) (fun h1 => ?_)
  ·have hlt : k < l.length := by have := of_decide_eq_true h1; simp at this; omega
   obtain ⟨s, hs⟩ := exI hlt
   (conv => whnf)
   refine split_intro (fun h2 => ?_) (fun h2 => ?_)
   ·have h2' : (k : Int) ≤ 60 := of_decide_eq_true h2
    (conv => whnf)
    refine ⟨_, ⟨by omega, getMap hs⟩, ?_⟩
    (conv => whnf)
    refine split_intro (fun h3 => ?_) (fun h3 => ?_)
    ·have h3' : (300 : Int) < (sB s.name).size := of_decide_eq_true h3
     have hsz := sB_sz s.name
     (conv => whnf)
     exact Wk.bool (by
      symm; rw [Bool.eq_false_iff]; intro hc
      have := (fewO_iff.1 hc).2.1 s (List.mem_of_getElem? hs); omega)
    ·have h3' : ¬ (300 : Int) < (sB s.name).size := of_decide_eq_false h3
     have hsz := sB_sz s.name
     (conv => whnf)
     refine ⟨_, add64 (c := ((k + 1 : Nat) : Int)) (by (try simp only []); omega) (by omega), ?_⟩
     (conv => whnf)
     refine ⟨k + 1, ⟨⟨by omega, by omega, ?_⟩, by simp only []; omega⟩, ?_⟩
     ·rw [List.take_add_one, hs, Option.toList_some, List.all_append, hkk]; simp; omega
     ·(repeat' (first | exact trivial | exact Wk.refl _ | exact ObWk.refl _ | exact rfl | exact ⟨_, rfl⟩ | exact Nat.zero_lt_one | refine And.intro ?_ ?_ | unfold okTo | (unfold okO; conv => whnf) | (unfold okS; conv => whnf) | (unfold SlotOk; conv => whnf) | (unfold ObjOk; conv => whnf) | (unfold okCells; conv => whnf) | (unfold liveTo; conv => whnf) | exact Nat.zero_lt_succ _))
   ·have h2' : ¬ (k : Int) ≤ 60 := of_decide_eq_false h2
    (conv => whnf)
    refine split_intro (fun h => absurd h (by (simp; omega))) (fun _ => ?_)
    (conv => whnf)
    exact Wk.bool (by
     symm; rw [Bool.eq_false_iff]; intro hc
     have := (fewO_iff.1 hc).1; simp only at this; omega)
  ·have hge : l.length ≤ k := by have := of_decide_eq_false h1; simp at this; omega
   rw [List.take_of_length_le hge] at hkk
   (conv => whnf)
   refine split_intro (fun h4 => ?_) (fun h4 => ?_)
   ·have h4' : l.length ≤ 60 := by have := of_decide_eq_true h4; simp at this; omega
    (conv => whnf)
    exact Wk.bool (by rw [Bool.eq_iff_iff]; simp only [fewO, hkk, h4', decide_true, Bool.true_and]; simp; omega)
   ·have h4' : ¬ l.length ≤ 60 := by have := of_decide_eq_false h4; simp at this; omega
    (conv => whnf)
    exact Wk.bool (by simp [fewO, h4'])
theorem plainS (s : Ob.Sym) : plainEq Tryd.prog 86 s.enc = true := by
 obtain ⟨a, b, c, d⟩ := s
 kernel_rfl
theorem eqS (a b : Ob.Sym) : eqCellsD a.enc b.enc = some (decide (a.name = b.name) && (a.bind == b.bind && (a.size == b.size && (a.align == b.align && true)))) := rfl
theorem eqS' (a b : Ob.Sym) : (decide (a.name = b.name) && (a.bind == b.bind && (a.size == b.size && (a.align == b.align && true)))) = decide (a = b) := by
 obtain ⟨a1, a2, a3, a4⟩ := a
 obtain ⟨b1, b2, b3, b4⟩ := b
 rw [Bool.eq_iff_iff]; simp
theorem orvalid_ (l : List Ob.Sym) (x : List UInt8) (hl : l.length ≤ 1000000000) (hn : ∀ s ∈ l, s.name.length ≤ 1000000000) : FCall Tryd.prog Gl 36 [oD ⟨l, x⟩] [] (vB (validO l)) [] := by
 refine FCall.enterL hT hmix [] Tryd.func36 rfl rfl rfl fun hbd => ?_
 (conv => whnf)
 refine LWp.loop hT hmix [] (fun k : Nat => [(3, vI k)]) (fun _ => []) (fun k => k ≤ l.length ∧ okL [] (l.take k) = true) (fun k => l.length - k) 0 ⟨Nat.zero_le _, rfl⟩ ?_
 (conv => whnf)
 refine ⟨?_, fun k ⟨hk, hkk⟩ => ?_⟩
 ·(repeat' (first | exact trivial | exact Wk.refl _ | exact ObWk.refl _ | exact rfl | exact ⟨_, rfl⟩ | exact Nat.zero_lt_one | refine And.intro ?_ ?_ | unfold okTo | (unfold okO; conv => whnf) | (unfold okS; conv => whnf) | (unfold SlotOk; conv => whnf) | (unfold ObjOk; conv => whnf) | (unfold okCells; conv => whnf) | (unfold liveTo; conv => whnf) | exact Nat.zero_lt_succ _))
 ·(conv => whnf)
  refine split_intro (fun h => ?_) (fun h => ?_)
  ·have hlt : k < l.length := by have := of_decide_eq_true h; simp at this; omega
   obtain ⟨s, hs⟩ := exI hlt
   (conv => whnf)
   refine ⟨_, ⟨by omega, getMap hs⟩, ?_⟩
   (conv => whnf)
   refine CallLeaf.wa (rsym_ s (hn s (List.mem_of_getElem? hs))) rfl ?_
   (conv => whnf)
   refine split_intro (fun hv => ?_) (fun hv => ?_)
   ·have hv' : valid s = false := by simpa using hv
    (conv => whnf)
    exact Wk.bool (okL_bad hs (by simp [hv'])).symm
   ·have hv' : valid s = true := by simpa using hv
    (conv => whnf)
    refine ⟨_, slTake (f := Ob.Sym.enc) (l := l) (b := k) (r := l.take k) rfl (by omega) (fun _ => rfl) rfl, ?_⟩
    (conv => whnf)
    refine ⟨_, ⟨by omega, getMap hs⟩, ?_⟩
    (conv => whnf)
    refine CallLeaf.wa (rhas_ (l.take k) s.name (by simp; omega)) rfl ?_
    (conv => whnf)
    refine split_intro (fun hh => ?_) (fun hh => ?_)
    ·have hh' : Ob.has (l.take k) s.name = true := hh
     (conv => whnf)
     exact Wk.bool (okL_bad hs (by simp [hh'])).symm
    ·have hh' : Ob.has (l.take k) s.name = false := hh
     (conv => whnf)
     refine ⟨_, add64 (c := ((k + 1 : Nat) : Int)) (by (try simp only []); omega) (by omega), ?_⟩
     (conv => whnf)
     refine ⟨k + 1, ⟨⟨by omega, by rw [okL_step hs, hkk, hv', hh']; rfl⟩, by simp only []; omega⟩, ?_⟩
     (repeat' (first | exact trivial | exact Wk.refl _ | exact ObWk.refl _ | exact rfl | exact ⟨_, rfl⟩ | exact Nat.zero_lt_one | refine And.intro ?_ ?_ | unfold okTo | (unfold okO; conv => whnf) | (unfold okS; conv => whnf) | (unfold SlotOk; conv => whnf) | (unfold ObjOk; conv => whnf) | (unfold okCells; conv => whnf) | (unfold liveTo; conv => whnf) | exact Nat.zero_lt_succ _))
  ·have hge : l.length ≤ k := by have := of_decide_eq_false h; simp at this; omega
   rw [List.take_of_length_le hge] at hkk
   (conv => whnf)
   exact Wk.bool (by simp only [validO, hkk, Bool.true_and]; congr 1; simp; omega)
end Go.Proofs.YtfbmknghfhancaaDoor

namespace Go.Proofs.YtfbmknghfhancaaDoor
open Go Go.AL
set_option maxRecDepth 100000
def putP (l : List Str) (s : Str) (k : Nat) (out : List Str) (done : Bool) : Prop :=
 (if done then out ++ l.drop k else out ++ Wt.put (l.drop k) s) = Wt.put l s
theorem put_len : ∀ (l : List Str) (s : Str), (Wt.put l s).length ≤ l.length + 1
 | [], s => by simp [Wt.put]
 | x :: r, s => by
  have := put_len r s
  simp only [Wt.put]
  split
  ·simp; omega
  ·split <;> simp
end Go.Proofs.YtfbmknghfhancaaDoor

namespace Go.Proofs.YtfbmknghfhancaaDoor
open Go Go.AL Go.AL.Bd Go.AL.Tb
set_option maxRecDepth 100000
set_option maxHeartbeats 4000000
theorem right_ (l : List Ob.Obj) : FCall Tryd.prog Gl 12 [LO l] [] (vB (rightO l)) [] := by
 refine FCall.enterL hT hmix [] Tryd.func12 rfl rfl rfl fun hbd => ?_
 have ha := bds_list hbd (.head _)
 (conv => whnf)
 refine split_intro (fun h1 => ?_) (fun h1 => ?_)
 ·have h1' : ¬ l.length ≤ 12 := by have := of_decide_eq_true h1; simp at this; omega
  (conv => whnf)
  exact Wk.bool (by simp [rightO, h1'])
 ·have h1' : l.length ≤ 12 := by have := of_decide_eq_false h1; simp at this; omega
  (conv => whnf)
  refine LWp.loop hT hmix [] (fun k : Nat => [(3, vI k)]) (fun _ => []) (fun k => k ≤ l.length ∧ (l.take k).all (fun o => decide (o.syms.length ≤ 20) && (fewO o && Ob.validO o.syms)) = true) (fun k => l.length - k) 0 ⟨Nat.zero_le _, rfl⟩ ?_
  (conv => whnf)
  refine ⟨?_, fun k ⟨hk, hkk⟩ => ?_⟩
  ·(repeat' (first | exact trivial | exact Wk.refl _ | exact ObWk.refl _ | exact rfl | exact ⟨_, rfl⟩ | exact Nat.zero_lt_one | refine And.intro ?_ ?_ | unfold okTo | (unfold okO; conv => whnf) | (unfold okS; conv => whnf) | (unfold SlotOk; conv => whnf) | (unfold ObjOk; conv => whnf) | (unfold okCells; conv => whnf) | (unfold liveTo; conv => whnf) | exact Nat.zero_lt_succ _))
  ·(conv => whnf)
   refine split_intro (fun h => ?_) (fun h => ?_)
   ·have hlt : k < l.length := by have := of_decide_eq_true h; simp at this; omega
    obtain ⟨o, ho⟩ := exI hlt
    have hbad : (decide (o.syms.length ≤ 20) && (fewO o && Ob.validO o.syms)) = false → rightO l = false := fun hb => by
     rw [Bool.eq_false_iff]; intro hr
     have := (rightO_iff.1 hr).2 o (List.mem_of_getElem? ho)
     rw [this.2.1, this.2.2] at hb
     simp [this.1] at hb
    have hgood : (decide (o.syms.length ≤ 20) && (fewO o && Ob.validO o.syms)) = true → (l.take (k + 1)).all (fun o => decide (o.syms.length ≤ 20) && (fewO o && Ob.validO o.syms)) = true := fun hb => by
     rw [List.take_add_one, ho, Option.toList_some, List.all_append, hkk, List.all_cons, hb]; rfl
    (conv => whnf)
    refine ⟨_, ⟨by omega, getMap ho⟩, ?_⟩
    (conv => whnf)
    refine split_intro (fun h2 => ?_) (fun h2 => ?_)
    ·have h2' : ¬ o.syms.length ≤ 20 := by have := of_decide_eq_true h2; simp at this; omega
     (conv => whnf)
     exact Wk.bool (hbad (by simp [h2'])).symm
    ·have h2' : o.syms.length ≤ 20 := by have := of_decide_eq_false h2; simp at this; omega
     (conv => whnf)
     refine ⟨_, ⟨by omega, getMap ho⟩, ?_⟩
     (conv => whnf)
     refine CallLeaf.wa (ofew_ o.syms o.body) rfl ?_
     (conv => whnf)
     refine split_intro (fun h3 => ?_) (fun h3 => ?_)
     ·have h3' : fewO o = false := by simpa using h3
      (conv => whnf)
      exact Wk.bool (hbad (by simp [h3'])).symm
     ·have h3' : fewO o = true := not_f h3
      have hfn := (fewO_iff.1 h3').2.1
      (conv => whnf)
      refine ⟨_, ⟨by omega, getMap ho⟩, ?_⟩
      (conv => whnf)
      refine CallLeaf.wa (orvalid_ o.syms o.body (by omega) (fun s hs => by have := hfn s hs; omega)) rfl ?_
      (conv => whnf)
      refine split_intro (fun h4 => ?_) (fun h4 => ?_)
      ·have h4' : Ob.validO o.syms = false := by simpa using h4
       (conv => whnf)
       exact Wk.bool (hbad (by simp [h4'])).symm
      ·have h4' : Ob.validO o.syms = true := not_f h4
       (conv => whnf)
       refine ⟨_, add64 (c := ((k + 1 : Nat) : Int)) (by (try simp only []); omega) (by omega), ?_⟩
       (conv => whnf)
       refine ⟨k + 1, ⟨⟨by omega, hgood (by simp [h2', h3', h4'])⟩, by simp only []; omega⟩, ?_⟩
       (repeat' (first | exact trivial | exact Wk.refl _ | exact ObWk.refl _ | exact rfl | exact ⟨_, rfl⟩ | exact Nat.zero_lt_one | refine And.intro ?_ ?_ | unfold okTo | (unfold okO; conv => whnf) | (unfold okS; conv => whnf) | (unfold SlotOk; conv => whnf) | (unfold ObjOk; conv => whnf) | (unfold okCells; conv => whnf) | (unfold liveTo; conv => whnf) | exact Nat.zero_lt_succ _))
   ·have hge : l.length ≤ k := by have := of_decide_eq_false h; simp at this; omega
    rw [List.take_of_length_le hge] at hkk
    (conv => whnf)
    exact Wk.bool (by simp only [rightO, hkk, h1', decide_true, Bool.true_and])
theorem rstate_ (l : List Ob.Obj) (n : Str) (ok : OkL l) : FCall Tryd.prog Gl 104 [LO l, sD n] [] (.agg (all (Sy.of (Us l) n)).encN) [] := by
 have hlen := ok.len
 have hfin : refOf (Sy.of (Us l) n) = all (Sy.of (Us l) n) := refOf_of ok.use n
 have hR := refOf_ (Sy.of (Us l) n) (by have := ok.le; have := Sy.of_le (Us l) n; omega)
 rw [hfin] at hR
 refine FCall.enterL hT hmix [] Tryd.func104 rfl rfl rfl fun hbd => ?_
 (conv => whnf)
 refine LWp.loop hT hmix [] (fun i : Nat => [(6, vI i), (5, .list (.tok 403) ((Sy.of (Us (l.take i)) n).map Use.enc))]) (fun i => [(403, .tok ((Sy.of (Us (l.take i)) n).map Use.enc).length 5)]) (fun i => i ≤ l.length) (fun i => l.length - i) 0 (Nat.zero_le _) ?_
 (conv => whnf)
 refine ⟨?_, fun i hi => ?_⟩
 ·(repeat' (first | exact trivial | exact Wk.refl _ | exact ObWk.refl _ | exact rfl | exact ⟨_, rfl⟩ | exact Nat.zero_lt_one | refine And.intro ?_ ?_ | unfold okTo | (unfold okO; conv => whnf) | (unfold okS; conv => whnf) | (unfold SlotOk; conv => whnf) | (unfold ObjOk; conv => whnf) | (unfold okCells; conv => whnf) | (unfold liveTo; conv => whnf) | exact Nat.zero_lt_succ _))
 ·(conv => whnf)
  refine split_intro (fun h => ?_) (fun h => ?_)
  ·have hlt : i < l.length := by have := of_decide_eq_true h; simp at this; omega
   obtain ⟨o, ho⟩ := exI hlt
   have hol := ok.syms o (List.mem_of_getElem? ho)
   (conv => whnf)
   refine LWp.loop hT hmix [] (fun k : Nat => [(7, vI k), (5, .list (.tok 403) ((ofX l n i (o.syms.take k)).map Use.enc))]) (fun k => [(403, .tok ((ofX l n i (o.syms.take k)).map Use.enc).length 5)]) (fun k => k ≤ o.syms.length) (fun k => o.syms.length - k) 0 (Nat.zero_le _) ?_
   (conv => whnf)
   refine ⟨?_, fun k hk => ?_⟩
   ·have e : ofX l n i (o.syms.take 0) = Sy.of (Us (l.take i)) n := by simp [ofX, Sy.uses]
    dsimp only
    rw [e]
    (repeat' (first | exact trivial | exact Wk.refl _ | exact ObWk.refl _ | exact rfl | exact ⟨_, rfl⟩ | exact Nat.zero_lt_one | refine And.intro ?_ ?_ | unfold okTo | (unfold okO; conv => whnf) | (unfold okS; conv => whnf) | (unfold SlotOk; conv => whnf) | (unfold ObjOk; conv => whnf) | (unfold okCells; conv => whnf) | (unfold liveTo; conv => whnf) | exact Nat.zero_lt_succ _))
   ·have hle := of_take_le l i (k + 1) o ok ho n
    (conv => whnf)
    refine ⟨_, ⟨by omega, getMap ho⟩, ?_⟩
    (conv => whnf)
    refine split_intro (fun h1 => ?_) (fun h1 => ?_)
    ·have hlt1 : k < o.syms.length := by have := of_decide_eq_true h1; simp at this; omega
     obtain ⟨s, hs⟩ := exI hlt1
     have hst : ofX l n i (o.syms.take (k + 1)) = ofX l n i (o.syms.take k) ++ if s.name = n then [⟨Sy.toB s, (i : Int)⟩] else [] := uses_step (Us (l.take i)) hs n (i := i)
     (conv => whnf)
     refine ⟨_, ⟨by omega, getMap ho⟩, ?_⟩
     (conv => whnf)
     refine ⟨_, ⟨by omega, getMap hs⟩, ?_⟩
     (conv => whnf)
     refine split_intro (fun h2 => ?_) (fun h2 => ?_)
     ·have h2' : s.name = n := of_decide_eq_true h2
      rw [if_pos h2'] at hst
      (conv => whnf)
      refine ⟨_, ⟨by omega, getMap ho⟩, ?_⟩
      (conv => whnf)
      refine ⟨_, ⟨by omega, getMap hs⟩, ?_⟩
      (conv => whnf)
      refine ⟨_, appL (f := Use.enc) (xs := ofX l n i (o.syms.take k)) (ys := [⟨Sy.toB s, (i : Int)⟩]) (zs := ofX l n i (o.syms.take (k + 1))) rfl rfl (fun _ => rfl) hst.symm (by show _ * 48 ≤ _; simp only [ofX]; omega), ?_⟩
      (conv => whnf)
      refine ⟨_, add64 (c := ((k + 1 : Nat) : Int)) (by (try simp only []); omega) (by omega), ?_⟩
      (conv => whnf)
      refine ⟨k + 1, ⟨by omega, by simp only []; omega⟩, ?_⟩
      (repeat' (first | exact trivial | exact Wk.refl _ | exact ObWk.refl _ | exact rfl | exact ⟨_, rfl⟩ | exact Nat.zero_lt_one | refine And.intro ?_ ?_ | unfold okTo | (unfold okO; conv => whnf) | (unfold okS; conv => whnf) | (unfold SlotOk; conv => whnf) | (unfold ObjOk; conv => whnf) | (unfold okCells; conv => whnf) | (unfold liveTo; conv => whnf) | exact Nat.zero_lt_succ _))
     ·have h2' : ¬ s.name = n := of_decide_eq_false h2
      rw [if_neg h2', List.append_nil] at hst
      (conv => whnf)
      refine ⟨_, add64 (c := ((k + 1 : Nat) : Int)) (by (try simp only []); omega) (by omega), ?_⟩
      (conv => whnf)
      refine ⟨k + 1, ⟨by omega, by simp only []; omega⟩, ?_⟩
      dsimp only
      rw [hst]
      (repeat' (first | exact trivial | exact Wk.refl _ | exact ObWk.refl _ | exact rfl | exact ⟨_, rfl⟩ | exact Nat.zero_lt_one | refine And.intro ?_ ?_ | unfold okTo | (unfold okO; conv => whnf) | (unfold okS; conv => whnf) | (unfold SlotOk; conv => whnf) | (unfold ObjOk; conv => whnf) | (unfold okCells; conv => whnf) | (unfold liveTo; conv => whnf) | exact Nat.zero_lt_succ _))
    ·have hge : o.syms.length ≤ k := by have := of_decide_eq_false h1; simp at this; omega
     have e : ofX l n i (o.syms.take k) = Sy.of (Us (l.take (i + 1))) n := by
      rw [List.take_of_length_le hge, Us_take ho]
     (conv => whnf)
     refine ⟨_, add64 (c := ((i + 1 : Nat) : Int)) (by (try simp only []); omega) (by omega), ?_⟩
     (conv => whnf)
     refine ⟨i + 1, ⟨by omega, by simp only []; omega⟩, ?_⟩
     dsimp only
     rw [← e]
     (repeat' (first | exact trivial | exact Wk.refl _ | exact ObWk.refl _ | exact rfl | exact ⟨_, rfl⟩ | exact Nat.zero_lt_one | refine And.intro ?_ ?_ | unfold okTo | (unfold okO; conv => whnf) | (unfold okS; conv => whnf) | (unfold SlotOk; conv => whnf) | (unfold ObjOk; conv => whnf) | (unfold okCells; conv => whnf) | (unfold liveTo; conv => whnf) | exact Nat.zero_lt_succ _))
  ·have hge : l.length ≤ i := by have := of_decide_eq_false h; simp at this; omega
   rw [show Us l = Us (l.take i) by rw [List.take_of_length_le hge]] at hR
   (conv => whnf)
   refine CallLeaf.wa (hR) rfl ?_
   (conv => whnf)
   exact Wk.of_eq (by rw [List.take_of_length_le hge]; rfl)
theorem texts_ (a b : List Str) : FCall Tryd.prog Gl 68 [LS a, LS b] [] (vB (decide (a = b))) [] := by
 refine FCall.enterL hT hmix [] Tryd.func68 rfl rfl rfl fun hbd => ?_
 have ha := bds_list hbd (.head _)
 (conv => whnf)
 refine split_intro (fun h => ?_) (fun h => ?_)
 ·have h' := len_ne h
  simp at h'
  (conv => whnf)
  exact Wk.bool (by symm; simp; intro e; subst e; exact h' rfl)
 ·have hab : a.length = b.length := by have := len_eq h; simpa using this
  (conv => whnf)
  refine LWp.loop hT hmix [] (fun k : Nat => [(5, vI k)]) (fun _ => []) (fun k => k ≤ a.length ∧ a.take k = b.take k) (fun k => a.length - k) 0 ⟨Nat.zero_le _, rfl⟩ ?_
  (conv => whnf)
  refine ⟨?_, fun k ⟨hk, hkk⟩ => ?_⟩
  ·(repeat' (first | exact trivial | exact Wk.refl _ | exact ObWk.refl _ | exact rfl | exact ⟨_, rfl⟩ | exact Nat.zero_lt_one | refine And.intro ?_ ?_ | unfold okTo | (unfold okO; conv => whnf) | (unfold okS; conv => whnf) | (unfold SlotOk; conv => whnf) | (unfold ObjOk; conv => whnf) | (unfold okCells; conv => whnf) | (unfold liveTo; conv => whnf) | exact Nat.zero_lt_succ _))
  ·(conv => whnf)
   refine split_intro (fun h => ?_) (fun h => ?_)
   ·have hlt : k < a.length := by simpa using h
    obtain ⟨x, hx⟩ := exI hlt
    obtain ⟨y, hy⟩ := exI (hab ▸ hlt : k < b.length)
    (conv => whnf)
    refine ⟨_, ⟨by omega, getMap hx⟩, ?_⟩
    (conv => whnf)
    refine ⟨_, ⟨by omega, getMap hy⟩, ?_⟩
    (conv => whnf)
    refine split_intro (fun hxy => ?_) (fun hxy => ?_)
    ·(conv => whnf)
     exact Wk.bool (by
      symm; simp; intro e; subst e
      simp [hx] at hy; simp [hy] at hxy)
    ·(conv => whnf)
     refine ⟨_, add64 (c := ((k + 1 : Nat) : Int)) (by (try simp only []); omega) (by omega), ?_⟩
     (conv => whnf)
     refine ⟨k + 1, ⟨⟨by omega, ?_⟩, by simp only []; omega⟩, ?_⟩
     ·have : x = y := by simpa using hxy
      subst this
      rw [List.take_add_one, List.take_add_one, hx, hy, hkk]
     ·(repeat' (first | exact trivial | exact Wk.refl _ | exact ObWk.refl _ | exact rfl | exact ⟨_, rfl⟩ | exact Nat.zero_lt_one | refine And.intro ?_ ?_ | unfold okTo | (unfold okO; conv => whnf) | (unfold okS; conv => whnf) | (unfold SlotOk; conv => whnf) | (unfold ObjOk; conv => whnf) | (unfold okCells; conv => whnf) | (unfold liveTo; conv => whnf) | exact Nat.zero_lt_succ _))
   ·(conv => whnf)
    exact Wk.bool (by
     have hge : a.length ≤ k := by simpa using h
     symm; simp
     rwa [List.take_of_length_le hge, List.take_of_length_le (by omega)] at hkk)
end Go.Proofs.YtfbmknghfhancaaDoor

namespace Go.Proofs
open Go.RowKit Go.Maps Go.Sort Go.Shelf
def YtfbmknghfhancaaDoor.keysA_ren : Go.Shelf.Ren := ⟨fun | 7 => 94 | 10 => 108 | n => n, fun | 23 => 33 | 26 => 9 | 3 => 140 | 28 => 162 | 0 => 0 | 27 => 161 | 33 => 132 | 4 => 4 | n => n, fun | n => n⟩
theorem YtfbmknghfhancaaDoor.keysA : Go.Proofs.SlLaysZ.n7 Tryd.prog YtfbmknghfhancaaDoor.keysA_ren := {
  mixed := by kernel_rfl
  f7 := ⟨Tryd.f94.name, by decide, Tryd.func94.trans (congrArg some (by kernel_rfl))⟩
  f10 := ⟨Tryd.f108.name, by decide, Tryd.func108.trans (congrArg some (by kernel_rfl))⟩
  t0 := Tryd.underlying0
  a0 := Tryd.isAgg0
  z0 := Tryd.sizeOf0
  v0 := Tryd.zeroValue0
  t4 := Tryd.underlying4
  a4 := Tryd.isAgg4
  z4 := Tryd.sizeOf4
  v4 := Tryd.zeroValue4
  t23 := Tryd.underlying33
  a23 := Tryd.isAgg33
  z23 := Tryd.sizeOf33
  v23 := Tryd.zeroValue33
  t26 := Tryd.underlying9
  a26 := Tryd.isAgg9
  z26 := Tryd.sizeOf9
  v26 := Tryd.zeroValue9
  t27 := Tryd.underlying161
  a27 := Tryd.isAgg161
  z27 := Tryd.sizeOf161
  v27 := Tryd.zeroValue161
  t28 := Tryd.underlying162
  a28 := Tryd.isAgg162
  z28 := Tryd.sizeOf162
  v28 := Tryd.zeroValue162
  t33 := Tryd.underlying132
  a33 := Tryd.isAgg132
  z33 := Tryd.sizeOf132
  v33 := Tryd.zeroValue132 }
def YtfbmknghfhancaaDoor.sortedA_ren : Go.Shelf.Ren := ⟨fun | 6 => 93 | 8 => 106 | 9 => 107 | 11 => 116 | 13 => 118 | 12 => 117 | 23 => 131 | 24 => 132 | 14 => 122 | 15 => 123 | 16 => 124 | 17 => 125 | 18 => 126 | 19 => 127 | 20 => 128 | 21 => 129 | 22 => 130 | 25 => 134 | 26 => 135 | 27 => 136 | 28 => 137 | 29 => 138 | 30 => 139 | 31 => 144 | n => n, fun | 26 => 9 | 28 => 162 | 24 => 105 | 0 => 0 | 3 => 3 | 37 => 188 | 48 => 202 | 50 => 204 | 4 => 4 | 40 => 195 | 39 => 194 | 45 => 199 | 5 => 5 | 9 => 9 | 51 => 205 | 55 => 209 | 57 => 213 | 58 => 109 | 33 => 132 | n => n, fun | n => n⟩
theorem YtfbmknghfhancaaDoor.sortedA : Go.Proofs.SlLaysZ.n6 Tryd.prog YtfbmknghfhancaaDoor.sortedA_ren := {
  mixed := by kernel_rfl
  f6 := ⟨Tryd.f93.name, by decide, Tryd.func93.trans (congrArg some (by kernel_rfl))⟩
  f8 := ⟨Tryd.f106.name, by decide, Tryd.func106.trans (congrArg some (by kernel_rfl))⟩
  f11 := ⟨Tryd.f116.name, by decide, Tryd.func116.trans (congrArg some (by kernel_rfl))⟩
  t0 := Tryd.underlying0
  a0 := Tryd.isAgg0
  z0 := Tryd.sizeOf0
  v0 := Tryd.zeroValue0
  t24 := Tryd.underlying105
  a24 := Tryd.isAgg105
  z24 := Tryd.sizeOf105
  v24 := Tryd.zeroValue105
  t26 := Tryd.underlying9
  a26 := Tryd.isAgg9
  z26 := Tryd.sizeOf9
  v26 := Tryd.zeroValue9
  t28 := Tryd.underlying162
  a28 := Tryd.isAgg162
  z28 := Tryd.sizeOf162
  v28 := Tryd.zeroValue162
  i26 := by kernel_rfl }
def YtfbmknghfhancaaDoor.sortA_ren : Go.Shelf.Ren := ⟨fun | 6 => 107 | 8 => 118 | 9 => 117 | 19 => 131 | 20 => 132 | 21 => 122 | 22 => 123 | 23 => 124 | 24 => 125 | 25 => 126 | 26 => 127 | 27 => 128 | 28 => 129 | 29 => 130 | 36 => 134 | 31 => 135 | 32 => 136 | 37 => 137 | 38 => 138 | 39 => 139 | 41 => 144 | n => n, fun | 27 => 105 | 29 => 9 | 3 => 3 | 32 => 188 | 26 => 105 | 0 => 0 | 44 => 202 | 46 => 204 | 4 => 4 | 36 => 195 | 35 => 194 | 41 => 199 | 5 => 5 | 9 => 9 | 53 => 205 | 57 => 209 | 63 => 213 | 64 => 109 | n => n, fun | n => n⟩
theorem YtfbmknghfhancaaDoor.sortA : Go.Proofs.SlLaysM.n6 Tryd.prog YtfbmknghfhancaaDoor.sortA_ren := {
  mixed := by kernel_rfl
  f6 := ⟨Tryd.f107.name, by decide, Tryd.func107.trans (congrArg some (by kernel_rfl))⟩
  f8 := Tryd.func118.trans (congrArg some (by kernel_rfl))
  f9 := ⟨Tryd.f117.name, by decide, Tryd.func117.trans (congrArg some (by kernel_rfl))⟩
  f19 := Tryd.func131.trans (congrArg some (by kernel_rfl))
  f20 := Tryd.func132.trans (congrArg some (by kernel_rfl))
  f21 := ⟨Tryd.f122.name, by decide, Tryd.func122.trans (congrArg some (by kernel_rfl))⟩
  f22 := ⟨Tryd.f123.name, by decide, Tryd.func123.trans (congrArg some (by kernel_rfl))⟩
  f23 := ⟨Tryd.f124.name, by decide, Tryd.func124.trans (congrArg some (by kernel_rfl))⟩
  f24 := ⟨Tryd.f125.name, by decide, Tryd.func125.trans (congrArg some (by kernel_rfl))⟩
  f25 := ⟨Tryd.f126.name, by decide, Tryd.func126.trans (congrArg some (by kernel_rfl))⟩
  f26 := ⟨Tryd.f127.name, by decide, Tryd.func127.trans (congrArg some (by kernel_rfl))⟩
  f27 := ⟨Tryd.f128.name, by decide, Tryd.func128.trans (congrArg some (by kernel_rfl))⟩
  f28 := ⟨Tryd.f129.name, by decide, Tryd.func129.trans (congrArg some (by kernel_rfl))⟩
  f29 := ⟨Tryd.f130.name, by decide, Tryd.func130.trans (congrArg some (by kernel_rfl))⟩
  f31 := Tryd.func135.trans (congrArg some (by kernel_rfl))
  f32 := Tryd.func136.trans (congrArg some (by kernel_rfl))
  f36 := ⟨Tryd.f134.name, by decide, Tryd.func134.trans (congrArg some (by kernel_rfl))⟩
  f37 := ⟨Tryd.f137.name, by decide, Tryd.func137.trans (congrArg some (by kernel_rfl))⟩
  f38 := ⟨Tryd.f138.name, by decide, Tryd.func138.trans (congrArg some (by kernel_rfl))⟩
  f39 := ⟨Tryd.f139.name, by decide, Tryd.func139.trans (congrArg some (by kernel_rfl))⟩
  f41 := ⟨Tryd.f144.name, by decide, Tryd.func144.trans (congrArg some (by kernel_rfl))⟩
  t0 := Tryd.underlying0
  a0 := Tryd.isAgg0
  z0 := Tryd.sizeOf0
  v0 := Tryd.zeroValue0
  t3 := Tryd.underlying3
  a3 := Tryd.isAgg3
  z3 := Tryd.sizeOf3
  v3 := Tryd.zeroValue3
  t4 := Tryd.underlying4
  a4 := Tryd.isAgg4
  z4 := Tryd.sizeOf4
  v4 := Tryd.zeroValue4
  t5 := Tryd.underlying5
  a5 := Tryd.isAgg5
  z5 := Tryd.sizeOf5
  v5 := Tryd.zeroValue5
  t9 := Tryd.underlying9
  a9 := Tryd.isAgg9
  z9 := Tryd.sizeOf9
  v9 := Tryd.zeroValue9
  t26 := Tryd.underlying105
  a26 := Tryd.isAgg105
  z26 := Tryd.sizeOf105
  v26 := Tryd.zeroValue105
  t27 := Tryd.underlying105
  a27 := Tryd.isAgg105
  z27 := Tryd.sizeOf105
  v27 := Tryd.zeroValue105
  t29 := Tryd.underlying9
  a29 := Tryd.isAgg9
  z29 := Tryd.sizeOf9
  v29 := Tryd.zeroValue9
  t32 := Tryd.underlying188
  a32 := Tryd.isAgg188
  z32 := Tryd.sizeOf188
  v32 := Tryd.zeroValue188
  t35 := Tryd.underlying194
  a35 := Tryd.isAgg194
  z35 := Tryd.sizeOf194
  v35 := Tryd.zeroValue194
  t36 := Tryd.underlying195
  a36 := Tryd.isAgg195
  z36 := Tryd.sizeOf195
  v36 := Tryd.zeroValue195
  t41 := Tryd.underlying199
  a41 := Tryd.isAgg199
  z41 := Tryd.sizeOf199
  v41 := Tryd.zeroValue199
  t44 := Tryd.underlying202
  a44 := Tryd.isAgg202
  z44 := Tryd.sizeOf202
  v44 := Tryd.zeroValue202
  t46 := Tryd.underlying204
  a46 := Tryd.isAgg204
  z46 := Tryd.sizeOf204
  v46 := Tryd.zeroValue204
  t53 := Tryd.underlying205
  a53 := Tryd.isAgg205
  z53 := Tryd.sizeOf205
  v53 := Tryd.zeroValue205
  t57 := Tryd.underlying209
  a57 := Tryd.isAgg209
  z57 := Tryd.sizeOf209
  v57 := Tryd.zeroValue209
  t63 := Tryd.underlying213
  a63 := Tryd.isAgg213
  z63 := Tryd.sizeOf213
  v63 := Tryd.zeroValue213
  t64 := Tryd.underlying109
  a64 := Tryd.isAgg109
  z64 := Tryd.sizeOf109
  v64 := Tryd.zeroValue109 }
theorem YtfbmknghfhancaaDoor.sortsA (m : Nat) : AnyZ.SortsIn Tryd.prog YtfbmknghfhancaaDoor.sortedA_ren Fence.wide m :=
  ⟨fun blk off cap ss W hH hblk hsz => callsIn_wide.2 (AnyM.slices_Sort_string YtfbmknghfhancaaDoor.sortA blk off cap ss W hH hblk hsz),
   fun p cap W => callsIn_wide.2 (AnyM.slices_Sort_string_none YtfbmknghfhancaaDoor.sortA p cap W)⟩
theorem YtfbmknghfhancaaDoor.sorted_at {H : Type} (Bm b nn : Nat) (D0 : DataW H) (R : Value → Option (DataW H × List MemPlace)) (w : World) (hBm : Bm < w.heap.size) (hm : w.cell? ⟨Bm, 0, none⟩ = some (.map (some b)))
    (hown : w.ownsMap Tryd.prog 9 R b nn D0) (hmax : Maps.size D0 ≤ maxLen) (hbytes : Maps.size D0 * 16 ≤ 140737488355328) :
    Calls Tryd.prog 93 #[.func (.func 108) #[] #[.pointer (some ⟨Bm, 0, none⟩)]] w fun e w' => ∃ (v : Value) (ss : List (List UInt8)), e = .returned v ∧ ss.Perm (strKeys D0) ∧
      w'.ownsRow w.heap.size 9 1 v ss.length ((ss.mergeSort (fun x y => decide (x ≤ y))).map encStr) ∧ (v = .slice none 0 0 ↔ ss = []) ∧ Below w.heap.size w w' := by
  refine (callsIn_wide (n := 5)).1 ?_
  have hseq : SeqGives Fence.wide 2 Tryd.prog 108 #[.pointer (some ⟨Bm, 0, none⟩)] encStr (fun ss => ss.Perm (strKeys D0)) (Maps.size D0) w :=
    AnyZ.keys_gives (ρ := YtfbmknghfhancaaDoor.keysA_ren) { YtfbmknghfhancaaDoor.keysA with } Fence.wide _ trivial rfl (by omega) Bm b nn D0 _ hBm hm hown
  have cS := AnyZ.sorted_in YtfbmknghfhancaaDoor.sortedA Fence.wide 5 trivial trivial trivial trivial rfl (by omega) (YtfbmknghfhancaaDoor.sortsA _) (enters_of Tryd.func107 (by kernel_rfl) rfl) 108 #[.pointer (some ⟨Bm, 0, none⟩)] trivial (enters_of Tryd.func108 (by kernel_rfl) rfl) _ _ hmax hbytes _ hseq
  exact cS
theorem YtfbmknghfhancaaDoor.sorted_nil (Bm : Nat) (w : World) (hBm : Bm < w.heap.size) (hm : w.cell? ⟨Bm, 0, none⟩ = some (.map none)) :
    Calls Tryd.prog 93 #[.func (.func 108) #[] #[.pointer (some ⟨Bm, 0, none⟩)]] w fun e w' => ∃ (v : Value) (ss : List (List UInt8)), e = .returned v ∧ ss = [] ∧
      w'.ownsRow w.heap.size 9 1 v ss.length ((ss.mergeSort (fun x y => decide (x ≤ y))).map encStr) ∧ (v = .slice none 0 0 ↔ ss = []) ∧ Below w.heap.size w w' := by
  refine (callsIn_wide (n := 5)).1 ?_
  have hseq : SeqGives Fence.wide 2 Tryd.prog 108 #[.pointer (some ⟨Bm, 0, none⟩)] encStr (fun ss : List (List UInt8) => ss = []) 0 w :=
    AnyZ.keys_gives_nil (ρ := YtfbmknghfhancaaDoor.keysA_ren) { YtfbmknghfhancaaDoor.keysA with } Fence.wide _ trivial rfl Bm w hBm hm
  have cS := AnyZ.sorted_in YtfbmknghfhancaaDoor.sortedA Fence.wide 5 trivial trivial trivial trivial rfl (by omega) (YtfbmknghfhancaaDoor.sortsA _) (enters_of Tryd.func107 (by kernel_rfl) rfl) 108 #[.pointer (some ⟨Bm, 0, none⟩)] trivial (enters_of Tryd.func108 (by kernel_rfl) rfl) _ 0 (by unfold maxLen; omega) (by omega) _ hseq
  exact cS
end Go.Proofs
namespace Go.Proofs.YtfbmknghfhancaaDoor
open Go Go.AL Go.AL.Bd Go.AL.Tb
set_option maxRecDepth 100000
set_option maxHeartbeats 4000000
abbrev mN : D := .v (.map none)
abbrev pN : D := .v (.pointer none)
abbrev kF : D := .func (.func 108) [] [.ptr 0 0]
abbrev Kq (T : Sy.Tb) : List AObj := [.cells [.map 1], .map (Sy.ents T)]
theorem sorted_run (U : List Use) (hU : ∀ u ∈ U, u.sym.name.length ≤ 1000000) (hl : U.length ≤ 1000000) :
    ∀ E (w : World) vs, Core Gl E w.heap (sto (Kq (Sy.build U))) (Kq (Sy.build U)).length → VRs E w.heap (sto (Kq (Sy.build U))) [kF] vs →
      Calls Tryd.prog 93 vs.toArray w fun e w' => ∃ (v : Value) (t : TypeId), e = .returned v ∧ w'.ownsRow w.heap.size t 1 v (Sy.names U).length ((Sy.names U).map encStr) ∧ RowKit.Below w.heap.size w w' := by
  intro E w vs C hv
  have h0 : OR E w.heap (sto (Kq (Sy.build U))) 0 (.cells [.map 1]) := C.objs 0
  have h1 : OR E w.heap (sto (Kq (Sy.build U))) 1 (.map (Sy.ents (Sy.build U))) := C.objs 1
  obtain ⟨us, e, hb0, hv0, _⟩ := h0
  obtain ⟨ents, clk, hb1, ⟨hsz, hst⟩, hev, _⟩ := h1
  have hus : us = #[.map (some (E.φ 1))] := by
    have hl0 := hv0.1
    have hx := hv0.2 0 (by simp) (by rw [hl0]; simp)
    simp only [List.getElem_cons_zero] at hx
    have := hx.map_inv.1
    match hh : us.toList, hl0 with
    | [y], _ =>
      simp only [hh, List.getElem_cons_zero] at this
      apply Array.ext'
      rw [hh, this]
  have hvs : vs = [.func (.func 108) #[] #[.pointer (some ⟨E.φ 0, 0, none⟩)]] := by
    have hl0 := hv.1
    match vs, hl0 with
    | [y], _ =>
      have hx := hv.2 0 (by simp) (by simp)
      simp only [List.getElem_cons_zero] at hx
      cases hx with
      | func fn fs cs us' vs' l1 l2 g1 g2 =>
        have e1 : us' = [] := List.eq_nil_of_length_eq_zero (by simpa using l1)
        subst e1
        match vs', l2 with
        | [z], _ =>
          have hz := g2 0 (by simp) (by simp)
          simp only [List.getElem_cons_zero] at hz
          rw [hz.ptr_inv.1]
  have hkl := Sy.keys_len U
  have hcl : (Sy.ents (Sy.build U)).length = (Sy.keys (Sy.build U)).length := by simp [Sy.ents, Sy.keys]
  have hnm : ∀ s ∈ Sy.keys (Sy.build U), s.length ≤ maxLen := by
    intro s hs
    have := (Sy.mem_keys_names s U).1 hs
    rw [Sy.mem_names] at this
    obtain ⟨u, hu⟩ := List.exists_mem_of_ne_nil _ this
    have h2 := List.mem_filter.1 hu
    have h3 := of_decide_eq_true h2.2
    have := hU u h2.1
    rw [h3] at this
    unfold maxLen; omega
  obtain ⟨D0, o1, o2, o3⟩ := map_owns (P := Tryd.prog) (k := 9) Tryd.underlying9 hb1 hst (Sy.keys (Sy.build U)) (by rw [hsz, hcl]) (fun i hi hi' => by
    have h2 := (hev i (by rw [← hsz]; exact hi) hi).1
    rw [h2]; simp [Sy.ents, Sy.keys]) hnm (by unfold maxLen; omega)
  subst hvs
  have hbm : w.cell? ⟨E.φ 0, 0, none⟩ = some (.map (some (E.φ 1))) := by
    rw [cell?_eq]; simp [cellH, hb0, hus]
  refine (sorted_at (E.φ 0) (E.φ 1) _ D0 RN w (lt_of_get hb0) hbm o1 (by rw [o3]; unfold maxLen; omega) (by rw [o3]; omega)).mono fun e w' ⟨v, ss, he, hp, hr, _, hbl⟩ => ?_
  have hs := Sy.sort_names (hp.trans o2)
  have hlen : ss.length = (Sy.names U).length := by rw [← hs]; simp
  rw [hs, hlen] at hr
  exact ⟨v, _, he, hr, hbl⟩
theorem isSorted : IsFn Tryd.prog 93 := ⟨_, Tryd.func93, by kernel_rfl, by kernel_rfl⟩
theorem sortedL_ (U : List Use) (hU : ∀ u ∈ U, u.sym.name.length ≤ 1000000) (hl : U.length ≤ 1000000) :
    FCall Tryd.prog Gl 93 [kF] (Kq (Sy.build U)) (LSn (Sy.names U)) (Kq (Sy.build U)) :=
  FCall.rowL isSorted (by have := names_len U; omega) (sorted_run U hU hl)
theorem sortedA_ (U : List Use) (hU : ∀ u ∈ U, u.sym.name.length ≤ 1000000) (hl : U.length ≤ 1000000) :
    FCall Tryd.prog Gl 93 [kF] (Kq (Sy.build U)) (.sl 2 0 0 (Sy.names U).length) (Kq (Sy.build U) ++ [.arr 0 1 ((Sy.names U).map eS)]) :=
  FCall.rowA isSorted (sorted_run U hU hl)
theorem keys_ (T : Sy.Tb) : FCall Tryd.prog Gl 94 [.map 0] [.map (Sy.ents T)] (.func (.func 108) [] [.ptr 1 0]) [.map (Sy.ents T), .cells [.map 0]] := by
  refine FCall.enterO hT hmix [] Tryd.func94 rfl rfl rfl fun hbd => ?_
  (conv => whnf)
  refine ⟨[0, 1], rfl, by (try unfold pullOk); (repeat' (first | exact trivial | exact ObWk.refl _ | refine And.intro ?_ ?_ | unfold pullOk)), ?_⟩
  exact Wk.refl _
theorem keysZ_ : FCall Tryd.prog Gl 94 [mN] [] (.func (.func 108) [] [.ptr 0 0]) [.cells [mN]] := by
  refine FCall.enterO hT hmix [] Tryd.func94 rfl rfl rfl fun hbd => ?_
  (conv => whnf)
  refine ⟨[0], rfl, by (try unfold pullOk); (repeat' (first | exact trivial | exact ObWk.refl _ | refine And.intro ?_ ?_ | unfold pullOk)), ?_⟩
  exact Wk.refl _
theorem sortedZ_run :
    ∀ E (w : World) vs, Core Gl E w.heap (sto [.cells [mN]]) ([.cells [mN]] : List AObj).length → VRs E w.heap (sto [.cells [mN]]) [kF] vs →
      Calls Tryd.prog 93 vs.toArray w fun e w' => ∃ (v : Value) (t : TypeId), e = .returned v ∧ w'.ownsRow w.heap.size t 1 v ([] : List Str).length (([] : List Str).map encStr) ∧ RowKit.Below w.heap.size w w' := by
  intro E w vs C hv
  have h0 : OR E w.heap (sto [.cells [mN]]) 0 (.cells [mN]) := C.objs 0
  obtain ⟨us, e, hb0, hv0, _⟩ := h0
  have hus : us = #[.map none] := by
    have hl0 := hv0.1
    have hx := hv0.2 0 (by simp) (by rw [hl0]; simp)
    simp only [List.getElem_cons_zero] at hx
    have := hx.v_inv
    match hh : us.toList, hl0 with
    | [y], _ =>
      simp only [hh, List.getElem_cons_zero] at this
      apply Array.ext'
      rw [hh, this]
  have hvs : vs = [.func (.func 108) #[] #[.pointer (some ⟨E.φ 0, 0, none⟩)]] := by
    have hl0 := hv.1
    match vs, hl0 with
    | [y], _ =>
      have hx := hv.2 0 (by simp) (by simp)
      simp only [List.getElem_cons_zero] at hx
      cases hx with
      | func fn fs cs us' vs' l1 l2 g1 g2 =>
        have e1 : us' = [] := List.eq_nil_of_length_eq_zero (by simpa using l1)
        subst e1
        match vs', l2 with
        | [z], _ =>
          have hz := g2 0 (by simp) (by simp)
          simp only [List.getElem_cons_zero] at hz
          rw [hz.ptr_inv.1]
  subst hvs
  have hbm : w.cell? ⟨E.φ 0, 0, none⟩ = some (.map none) := by
    rw [cell?_eq]; simp [cellH, hb0, hus]
  refine (sorted_nil (E.φ 0) w (lt_of_get hb0) hbm).mono fun e w' ⟨v, ss, he, hp, hr, _, hbl⟩ => ?_
  subst hp
  rw [List.mergeSort_nil] at hr
  exact ⟨v, _, he, hr, hbl⟩
theorem sortedZA_ : FCall Tryd.prog Gl 93 [kF] [.cells [mN]] (.sl 1 0 0 0) ([.cells [mN]] ++ [.arr 0 1 (([] : List Str).map eS)]) :=
  FCall.rowA (l := []) isSorted sortedZ_run
theorem sortedZ_ : FCall Tryd.prog Gl 93 [kF] [.cells [mN]] (LSn []) [.cells [mN]] :=
  FCall.rowL (l := []) isSorted (by simp) sortedZ_run
end Go.Proofs.YtfbmknghfhancaaDoor

namespace Go.Proofs.YtfbmknghfhancaaDoor.O
open Go Go.AL Go.AL.Ap
set_option maxRecDepth 100000
theorem ibs (s : Str) (c : Int) : ECall Tryd.prog 145 [sD s, .v (.int .u8 c)] (vI (Lib.indexByte s c.toNat.toUInt8)) :=
 ibs_ Tryd.func145 (by kernel_rfl) (by kernel_rfl) (by kernel_rfl) (by kernel_rfl) s c
theorem has0 (s : Str) : decide (0 ≤ Lib.indexByte s 0) = decide ((0 : UInt8) ∈ s) := by
 rw [ib_spec]
 by_cases h : (0 : UInt8) ∈ s
 ·have : s.dropWhile isz ≠ [] := by
   intro e
   have h2 := List.takeWhile_append_dropWhile (p := isz) (l := s)
   rw [e, List.append_nil] at h2
   have h3 := List.all_takeWhile (p := isz) (l := s)
   rw [h2] at h3
   have := List.all_eq_true.1 h3 0 h
   simp [isz] at this
  rw [if_neg this]; simp [h]
 ·have := dw_app (isz_of h) []
  simp only [List.append_nil, List.dropWhile_nil] at this
  rw [if_pos this]; simp [h]
theorem sibyte_ (s : Str) (c : Int) : FCall Tryd.prog Gl 140 [sD s, .v (.int .u8 c)] [] (vI (Lib.indexByte s c.toNat.toUInt8)) [] := by
 refine FCall.enterL hT hmix [] Tryd.func140 rfl rfl rfl fun hbd => ?_
 (conv => whnf)
 refine CallLeaf.e (Wks.cons (Wk.refl _) (Wks.cons (Wk.refl _) Wks.nil)) (ibs s c) ?_
 (conv => whnf)
 exact Wk.refl _
theorem slindex_ (s : Str) (c : UInt8) : FCall Tryd.prog Gl 133 [sD s, sD [c]] [] (vI (Lib.indexByte s c)) [] := by
 have h1 := sibyte_ s (c.toNat : Int)
 simp only [Int.toNat_natCast, Nat.toUInt8] at h1
 refine FCall.enterL hT hmix [] Tryd.func133 rfl rfl rfl fun hbd => ?_
 (conv => whnf)
 refine split_intro (fun h => ?_) (fun h => ?_)
 ·have e : [c] = s := of_decide_eq_true h
  subst e
  (conv => whnf)
  exact Wk.int (by simp [Lib.indexByte])
 ·(conv => whnf)
  refine ⟨c, ⟨by decide, rfl⟩, ?_⟩
  (conv => whnf)
  refine CallLeaf.wa (h1) rfl ?_
  (conv => whnf)
  exact Wk.int (by simp)
theorem sindex_ (s : Str) (c : UInt8) : FCall Tryd.prog Gl 119 [sD s, sD [c]] [] (vI (Lib.indexByte s c)) [] := by
 refine FCall.enterL hT hmix [] Tryd.func119 rfl rfl rfl fun hbd => ?_
 (conv => whnf)
 refine CallLeaf.wa (slindex_ s c) rfl ?_
 (conv => whnf)
 exact Wk.refl _
theorem contains0_ (s : Str) : FCall Tryd.prog Gl 111 [sD s, sD [0]] [] (vB (decide ((0 : UInt8) ∈ s))) [] := by
 refine FCall.enterL hT hmix [] Tryd.func111 rfl rfl rfl fun hbd => ?_
 (conv => whnf)
 refine CallLeaf.wa (sindex_ s 0) rfl ?_
 (conv => whnf)
 exact Wk.bool (has0 s)
end Go.Proofs.YtfbmknghfhancaaDoor.O

namespace Go.Proofs.YtfbmknghfhancaaDoor.O
open Go Go.AL Go.AL.Ap
set_option maxRecDepth 100000
abbrev B (l : List UInt8) : List (List D) := l.map byteD
theorem word_ (n : Nat) (hn : n < 4294967296) : FCall Tryd.prog Gl 79 [vI n] [] (LBn (W4 n)) [] := by
 refine FCall.enterL hT hmix [] Tryd.func79 rfl rfl rfl fun hbd => ?_
 (conv => whnf)
 refine ⟨_, quo64k (b := 16777216) rfl (by omega) (by omega), ?_⟩
 (conv => whnf)
 refine ⟨_, wrapU8 _, ?_⟩
 (conv => whnf)
 refine ⟨_, quo64k (b := 65536) rfl (by omega) (by omega), ?_⟩
 (conv => whnf)
 refine ⟨_, wrapU8 _, ?_⟩
 (conv => whnf)
 refine ⟨_, quo64k (b := 256) rfl (by omega) (by omega), ?_⟩
 (conv => whnf)
 refine ⟨_, wrapU8 _, ?_⟩
 (conv => whnf)
 refine ⟨_, wrapU8 _, ?_⟩
 (conv => whnf)
 exact Wk.nat' rfl
theorem wordT_ (n : Nat) (hn : n < 4294967296) : FCall Tryd.prog Gl 79 [vI n] [] (.list (.tok 0) (B (W4 n))) [.tok (B (W4 n)).length 1] := by
 refine FCall.enterO hT hmix [] Tryd.func79 rfl rfl rfl fun hbd => ?_
 (conv => whnf)
 refine ⟨_, quo64k (b := 16777216) rfl (by omega) (by omega), ?_⟩
 (conv => whnf)
 refine ⟨_, wrapU8 _, ?_⟩
 (conv => whnf)
 refine ⟨_, quo64k (b := 65536) rfl (by omega) (by omega), ?_⟩
 (conv => whnf)
 refine ⟨_, wrapU8 _, ?_⟩
 (conv => whnf)
 refine ⟨_, quo64k (b := 256) rfl (by omega) (by omega), ?_⟩
 (conv => whnf)
 refine ⟨_, wrapU8 _, ?_⟩
 (conv => whnf)
 refine ⟨_, wrapU8 _, ?_⟩
 (conv => whnf)
 refine ⟨[600], rfl, by (try unfold pullOk); (repeat' (first | exact trivial | exact ObWk.refl _ | refine And.intro ?_ ?_ | unfold pullOk)), ?_⟩
 exact Wk.refl _
end Go.Proofs.YtfbmknghfhancaaDoor.O

namespace Go.Proofs.YtfbmknghfhancaaDoor.O
open Go Go.AL Go.AL.Ap
set_option maxRecDepth 100000
theorem num4 (a b c d : UInt8) (r : List UInt8) : num (a :: b :: c :: d :: r) = ((a.toNat * 256 + b.toNat) * 256 + c.toNat) * 256 + d.toNat := rfl
theorem split4 : ∀ {b : List UInt8}, 4 ≤ b.length → ∃ x y z w r, b = x :: y :: z :: w :: r
 | x :: y :: z :: w :: r, _ => ⟨x, y, z, w, r, rfl⟩
theorem number_ (b : List UInt8) (hb : 4 ≤ b.length) : FCall Tryd.prog Gl 73 [LB b] [] (vI (num b)) [] := by
 obtain ⟨x, y, z, w, r, rfl⟩ := split4 hb
 have hx := x.toNat_lt
 have hy := y.toNat_lt
 have hz := z.toNat_lt
 have hw := w.toNat_lt
 refine FCall.enterL hT hmix [] Tryd.func73 rfl rfl rfl fun hbd => ?_
 (conv => whnf)
 refine ⟨_, ⟨by decide, rfl⟩, ?_⟩
 (conv => whnf)
 refine ⟨_, wrap64 (by omega), ?_⟩
 (conv => whnf)
 refine ⟨_, mulN (b := 256) rfl rfl (by omega), ?_⟩
 (conv => whnf)
 refine ⟨_, ⟨by decide, rfl⟩, ?_⟩
 (conv => whnf)
 refine ⟨_, wrap64 (by omega), ?_⟩
 (conv => whnf)
 refine ⟨_, addN rfl (by omega), ?_⟩
 (conv => whnf)
 refine ⟨_, mulN (b := 256) rfl rfl (by omega), ?_⟩
 (conv => whnf)
 refine ⟨_, ⟨by decide, rfl⟩, ?_⟩
 (conv => whnf)
 refine ⟨_, wrap64 (by omega), ?_⟩
 (conv => whnf)
 refine ⟨_, addN rfl (by omega), ?_⟩
 (conv => whnf)
 refine ⟨_, mulN (b := 256) rfl rfl (by omega), ?_⟩
 (conv => whnf)
 refine ⟨_, ⟨by decide, rfl⟩, ?_⟩
 (conv => whnf)
 refine ⟨_, wrap64 (by omega), ?_⟩
 (conv => whnf)
 refine ⟨_, addN rfl (by omega), ?_⟩
 (conv => whnf)
 exact Wk.refl _
end Go.Proofs.YtfbmknghfhancaaDoor.O

namespace Go.Proofs.YtfbmknghfhancaaDoor.O
open Go Go.AL Go.AL.Ap
set_option maxRecDepth 100000
end Go.Proofs.YtfbmknghfhancaaDoor.O

namespace Go.Proofs.YtfbmknghfhancaaDoor.O
open Go Go.AL Go.AL.Ap
set_option maxRecDepth 100000
abbrev LE (l : List Ent) : D := .list .any (l.map Ent.enc)
abbrev LEn (l : List Ent) : D := .list .nat (l.map Ent.enc)
def encR (l : List Ent) : List UInt8 × Int := if l.all fits then (encB l, 0) else ([], 9)
theorem offs_take {l : List Ent} {k : Nat} {e : Ent} (h : l[k]? = some e) : offs (l.take (k + 1)) = offs (l.take k) ++ W4 e.2.toNat := by
 rw [List.take_add_one, h]; simp [offs]
theorem nams_take {l : List Ent} {k : Nat} {e : Ent} (h : l[k]? = some e) : nams (l.take (k + 1)) = (nams (l.take k) ++ e.1) ++ [0] := by
 rw [List.take_add_one, h]; simp [nams]
theorem nams_le (l : List Ent) (k : Nat) : (nams (l.take k)).length ≤ (nams l).length := by
 conv => rhs; rw [← List.take_append_drop k l]
 simp only [nams, List.flatMap_append, List.length_append]
 omega
theorem all_take {l : List Ent} {k : Nat} {e : Ent} (h : l[k]? = some e) : (l.take (k + 1)).all fits = ((l.take k).all fits && fits e) := by
 rw [List.take_add_one, h]; simp
theorem all_false {l : List Ent} {k : Nat} {e : Ent} (h : l[k]? = some e) (hf : fits e = false) : l.all fits = false := by
 rw [List.all_eq_false]
 exact ⟨e, List.mem_of_getElem? h, by simp [hf]⟩
end Go.Proofs.YtfbmknghfhancaaDoor.O

namespace Go.Proofs.YtfbmknghfhancaaDoor.O
open Go Go.AL Go.AL.Ap
set_option maxRecDepth 100000
def decR (b : List UInt8) : List Ent × Int := match dec b with | some q => (q, 0) | none => ([], 8)
theorem decR_none {b : List UInt8} (h : dec b = none) : decR b = ([], 8) := by simp [decR, h]
theorem decR_some {b : List UInt8} {q : List Ent} (h : dec b = some q) : decR b = (q, 0) := by simp [decR, h]
end Go.Proofs.YtfbmknghfhancaaDoor.O

namespace Go.Proofs.YtfbmknghfhancaaDoor.O
open Go Go.AL Go.AL.Ap
set_option maxRecDepth 100000
theorem num_take {x : List UInt8} (h : 4 ≤ x.length) : num (x.take 4) = num x := by
 obtain ⟨a, b, c, d, r, rfl⟩ := split4 h
 rfl
theorem sB_app (a b : Str) : sB a ++ sB b = sB (a ++ b) := by
 simp [sB, ByteArray.append]
 apply ByteArray.ext
 simp
theorem sB_sz (s : Str) : (sB s).size = s.length := by simp [sB, ByteArray.size]
end Go.Proofs.YtfbmknghfhancaaDoor.O

namespace Go.Proofs.YtfbmknghfhancaaDoor.O
open Go Go.AL Go.AL.Ap
set_option maxRecDepth 100000
theorem not_t {b : Bool} (h : (!b) = true) : b = false := by cases b <;> simp_all
theorem not_f {b : Bool} (h : (!b) = false) : b = true := by cases b <;> simp_all
theorem len_ne {a b : Nat} (h : ((a : Int) != (b : Int)) = true) : a ≠ b := by intro e; subst e; simp at h
theorem len_eq {a b : Nat} (h : ((a : Int) != (b : Int)) = false) : a = b := by
 by_cases e : a = b
 ·exact e
 ·have : ((a : Int) != (b : Int)) = true := by simp; omega
  rw [this] at h; exact absurd h (by decide)
theorem u8_ne {x y : UInt8} (h : ((x.toNat : Int) != (y.toNat : Int)) = true) : x ≠ y := fun e => by subst e; simp at h
theorem u8_eq {x y : UInt8} (h : ((x.toNat : Int) != (y.toNat : Int)) = false) : x = y := UInt8.toNat_inj.1 (len_eq h)
theorem same_ (a b : List UInt8) : FCall Tryd.prog Gl 66 [LB a, LB b] [] (vB (decide (a = b))) [] := by
 refine FCall.enterL hT hmix [] Tryd.func66 rfl rfl rfl fun hbd => ?_
 have ha := bds_list hbd (.head _)
 (conv => whnf)
 refine split_intro (fun h => ?_) (fun h => ?_)
 ·have hne : a.length ≠ b.length := by have := len_ne h; simpa using this
  (conv => whnf)
  exact Wk.bool (by symm; simp; intro e; subst e; exact hne rfl)
 ·have hl : a.length = b.length := by have := len_eq h; simpa using this
  (conv => whnf)
  refine LWp.loop hT hmix [] (fun k : Nat => [(5, vI k)]) (fun _ => []) (fun k => k ≤ a.length ∧ a.take k = b.take k) (fun k => a.length - k) 0 ⟨Nat.zero_le _, rfl⟩ ?_
  (conv => whnf)
  refine ⟨?_, fun k ⟨hk, hkk⟩ => ?_⟩
  ·(repeat' (first | exact trivial | exact Wk.refl _ | exact ObWk.refl _ | exact rfl | exact ⟨_, rfl⟩ | exact Nat.zero_lt_one | refine And.intro ?_ ?_ | unfold okTo | (unfold okO; conv => whnf) | (unfold okS; conv => whnf) | (unfold SlotOk; conv => whnf) | (unfold ObjOk; conv => whnf) | (unfold okCells; conv => whnf) | (unfold liveTo; conv => whnf) | exact Nat.zero_lt_succ _))
  ·(conv => whnf)
   refine split_intro (fun h1 => ?_) (fun h1 => ?_)
   ·have hlt : k < a.length := by have := of_decide_eq_true h1; simp at this; omega
    obtain ⟨x, hx⟩ := exI hlt
    obtain ⟨y, hy⟩ := exI (l := b) (k := k) (by omega)
    (conv => whnf)
    refine ⟨_, ⟨by omega, getMap hx⟩, ?_⟩
    (conv => whnf)
    refine ⟨_, ⟨by omega, getMap hy⟩, ?_⟩
    (conv => whnf)
    refine split_intro (fun h2 => ?_) (fun h2 => ?_)
    ·have := u8_ne h2
     (conv => whnf)
     exact Wk.bool (by
      symm; simp; intro e; subst e
      rw [hx] at hy; injection hy with hy; exact this hy)
    ·have := u8_eq h2
     subst this
     (conv => whnf)
     refine ⟨_, add64 (c := ((k + 1 : Nat) : Int)) (by omega) (by omega), ?_⟩
     (conv => whnf)
     refine ⟨k + 1, ⟨⟨by omega, by rw [List.take_add_one, List.take_add_one, hx, hy, hkk]⟩, by simp only []; omega⟩, ?_⟩
     (repeat' (first | exact trivial | exact Wk.refl _ | exact ObWk.refl _ | exact rfl | exact ⟨_, rfl⟩ | exact Nat.zero_lt_one | refine And.intro ?_ ?_ | unfold okTo | (unfold okO; conv => whnf) | (unfold okS; conv => whnf) | (unfold SlotOk; conv => whnf) | (unfold ObjOk; conv => whnf) | (unfold okCells; conv => whnf) | (unfold liveTo; conv => whnf) | exact Nat.zero_lt_succ _))
   ·have hge : a.length ≤ k := by have := of_decide_eq_false h1; simp at this; omega
    rw [List.take_of_length_le hge, List.take_of_length_le (by omega)] at hkk
    (conv => whnf)
    exact Wk.bool (by simp [hkk])
theorem eqE (a b : Ent) : eqCellsD a.enc b.enc = some (decide (a.1 = b.1) && (a.2 == b.2 && true)) := rfl
theorem eqE' (a b : Ent) : (decide (a.1 = b.1) && (a.2 == b.2 && true)) = decide (a = b) := by
 rw [Bool.eq_iff_iff]; simp [Prod.ext_iff]
def few (l : List Ent) : Bool := (l.take 101).all (fun e => decide (e.1.length ≤ 300)) && decide (l.length ≤ 100)
theorem few_iff {l : List Ent} (h : few l = true) : l.length ≤ 100 ∧ ∀ e ∈ l, e.1.length ≤ 300 := by
 simp only [few, Bool.and_eq_true, decide_eq_true_eq] at h
 obtain ⟨h1, h2⟩ := h
 rw [List.take_of_length_le (by omega)] at h1
 exact ⟨h2, fun e he => of_decide_eq_true (List.all_eq_true.1 h1 e he)⟩
def szs (l : List Str) : Nat := (l.map fun s => 5 + s.length).sum
theorem szs_take {l : List Str} {k : Nat} {s : Str} (h : l[k]? = some s) : szs (l.take (k + 1)) = szs (l.take k) + (5 + s.length) := by
 rw [List.take_add_one, h]
 simp only [szs, List.map_append, List.sum_append, Option.toList_some, List.map_cons, List.map_nil, List.sum_cons, List.sum_nil]
 omega
theorem szs_le {l : List Str} (hb : ∀ s ∈ l, s.length ≤ 1000) : ∀ k, szs (l.take k) ≤ 1005 * k
 | 0 => by simp [szs]
 | k + 1 => by
  have ih := szs_le hb k
  cases hs : l[k]? with
  | none => rw [List.take_add_one, hs]; simp only [Option.toList_none, List.append_nil]; omega
  | some s =>
   have := hb s (List.mem_of_getElem? hs)
   rw [szs_take hs]; omega
end Go.Proofs.YtfbmknghfhancaaDoor.O

namespace Go.Proofs.YtfbmknghfhancaaDoor.O
open Go Go.AL Go.AL.Ap Go.AL.Ob
set_option maxRecDepth 100000
abbrev SE (l : List Ob.Sym) : List (List D) := l.map Ob.Sym.enc
abbrev oD (o : Ob.Obj) : D := .agg [.list .any (SE o.syms), LB o.body]
abbrev oDn (o : Ob.Obj) : D := .agg [.list .nat (SE o.syms), LBn o.body]
theorem oget_ (b : List UInt8) (hb : 4 ≤ b.length) : FCall Tryd.prog Gl 110 [LB b] [] (vI (num b)) [] := by
 obtain ⟨x, y, z, w, r, rfl⟩ := split4 hb
 have hx := x.toNat_lt
 have hy := y.toNat_lt
 have hz := z.toNat_lt
 have hw := w.toNat_lt
 refine FCall.enterL hT hmix [] Tryd.func110 rfl rfl rfl fun hbd => ?_
 (conv => whnf)
 refine ⟨_, ⟨by decide, rfl⟩, ?_⟩
 (conv => whnf)
 refine ⟨_, wrap64 (by omega), ?_⟩
 (conv => whnf)
 refine ⟨_, shl64n (k := 24) (by omega) rfl (by omega), ?_⟩
 (conv => whnf)
 refine ⟨_, ⟨by decide, rfl⟩, ?_⟩
 (conv => whnf)
 refine ⟨_, wrap64 (by omega), ?_⟩
 (conv => whnf)
 refine ⟨_, shl64n (k := 16) (by omega) rfl (by omega), ?_⟩
 (conv => whnf)
 refine ⟨_, or64n (x.toNat) 24 rfl (by omega) rfl (by omega), ?_⟩
 (conv => whnf)
 refine ⟨_, ⟨by decide, rfl⟩, ?_⟩
 (conv => whnf)
 refine ⟨_, wrap64 (by omega), ?_⟩
 (conv => whnf)
 refine ⟨_, shl64n (k := 8) (by omega) rfl (by omega), ?_⟩
 (conv => whnf)
 refine ⟨_, or64n (x.toNat * 256 + y.toNat) 16 (by omega) (by omega) rfl (by omega), ?_⟩
 (conv => whnf)
 refine ⟨_, ⟨by decide, rfl⟩, ?_⟩
 (conv => whnf)
 refine ⟨_, wrap64 (by omega), ?_⟩
 (conv => whnf)
 refine ⟨_, or64n ((x.toNat * 256 + y.toNat) * 256 + z.toNat) 8 (by omega) (by omega) rfl (by omega), ?_⟩
 (conv => whnf)
 exact Wk.int (by rw [num4]; omega)
abbrev thr (n : Int) : D := .iface 145 (.agg [vI n])
abbrev Dr (r : List UInt8) : List AObj := [.cells [LB r]]
theorem must_t (n : Int) : FCall Tryd.prog Gl 96 [vB true, vI n] [] (.tuple []) [] := by
 refine FCall.enterL hT hmix [] Tryd.func96 rfl rfl rfl fun hbd => ?_
 (conv => whnf)
 exact Wk.refl _
theorem must_f (n : Int) : PCall Tryd.prog Gl 96 [vB false, vI n] [] (thr n) [] := by
 refine PCall.enter hT hmix [] Tryd.func96 rfl rfl rfl fun hbd => ?_
 (conv => whnf)
 refine ⟨[], rfl, by (try unfold pullOk); (repeat' (first | exact trivial | exact ObWk.refl _ | refine And.intro ?_ ?_ | unfold pullOk)), ?_⟩
 exact Wk.refl _
theorem take_ (r : List UInt8) (n : Nat) (hn : n ≤ r.length) : FCall Tryd.prog Gl 97 [.ptr 0 0, vI n] (Dr r) (LB (r.take n)) (Dr (r.drop n)) := by
 refine FCall.enterO hT hmix [] Tryd.func97 rfl rfl rfl fun hbd => ?_
 (conv => whnf)
 refine split_intro (fun h => absurd h (by (simp; omega))) (fun _ => ?_)
 (conv => whnf)
 refine ⟨_, slTake (f := byteD) (l := r) (b := n) (r := r.take n) rfl hn (fun _ => rfl) rfl, ?_⟩
 (conv => whnf)
 refine ⟨_, slDrop (f := byteD) (l := r) (a := n) (r := r.drop n) rfl hn (fun _ => rfl) rfl, ?_⟩
 (conv => whnf)
 refine ⟨[0], rfl, by (try unfold pullOk); (repeat' (first | exact trivial | exact ObWk.refl _ | refine And.intro ?_ ?_ | unfold pullOk)), ?_⟩
 exact Wk.refl _
theorem take_f (r : List UInt8) (n : Nat) (hn : ¬ n ≤ r.length) : PCall Tryd.prog Gl 97 [.ptr 0 0, vI n] (Dr r) (thr 2) (Dr r) := by
 refine PCall.enter hT hmix [] Tryd.func97 rfl rfl rfl fun hbd => ?_
 (conv => whnf)
 refine split_intro (fun _ => ?_) (fun h => absurd h (by (simp; omega)))
 (conv => whnf)
 refine ⟨[0], rfl, by (try unfold pullOk); (repeat' (first | exact trivial | exact ObWk.refl _ | refine And.intro ?_ ?_ | unfold pullOk)), ?_⟩
 exact Wk.refl _
end Go.Proofs.YtfbmknghfhancaaDoor.O
