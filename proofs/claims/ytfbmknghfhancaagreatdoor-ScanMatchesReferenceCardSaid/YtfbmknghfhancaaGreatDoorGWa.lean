/- What all walks of a seat share. No condition. -/
import Derived.Test.YtfbmknghfhancaaGreatDoorGAc
import Derived.Test.YtfbmknghfhancaaGreatDoorProg
import Derived.KernelRfl
import Derived.Test.YtfbmknghfhancaaGreatDoorGPa
set_option linter.unusedVariables false
set_option linter.unusedSimpArgs false
namespace Go.Proofs.YtfbmknghfhancaaGreatDoor
open Go Go.AL
theorem hT : TOk Tryz.prog (tabOf Tryz.prog) := tabOf_ok _
theorem hmix : Tryz.prog.follows .mixedOrders = true := by kernel_rfl
def Gl : Glob := { g := fun g => match g with | 0 => [vI 0, vI 3, vI 1, vI 2, vI 0, vI 0] | _ => [] }
end Go.Proofs.YtfbmknghfhancaaGreatDoor

namespace Go.Proofs.YtfbmknghfhancaaGreatDoor
open Go Go.AL Go.AL.Bd
set_option maxRecDepth 100000

theorem empty_ : FCall Tryz.prog Gl 79 [] [] (.agg empty.encN) [] := by
 refine FCall.enterL hT hmix [] Tryz.func79 rfl rfl rfl fun hbd => ?_
 (conv => whnf)
 exact Wk.agg (by (repeat' (first | exact Wks.nil | refine Wks.cons ?_ ?_ | exact Wk.refl _ | exact Wk.nilm | exact Wk.list _ _  | exact Wk.natN rfl | refine Wk.agg ?_)))

theorem wanted_ (s : State) : FCall Tryz.prog Gl 50 [.agg s.enc] [] (vB (wanted s)) [] := by
 refine FCall.enterL hT hmix [] Tryz.func50 rfl rfl rfl fun hbd => ?_
 (conv => whnf)
 refine split_intro (fun h => ?_) (fun h => ?_)
 ·(conv => whnf)
  exact Wk.bool (by simp [wanted, h])
 ·(conv => whnf)
  exact Wk.bool (by simp [wanted, h])

theorem numbers_ (a b : List Int) : FCall Tryz.prog Gl 22 [LI a, LI b] [] (vB (decide (a = b))) [] := by
 refine FCall.enterL hT hmix [] Tryz.func22 rfl rfl rfl fun hbd => ?_
 have ha := bds_list hbd (.head _)
 (conv => whnf)
 refine split_intro (fun h => ?_) (fun h => ?_)
 ·(conv => whnf)
  exact Wk.bool (by simp at h; simp; intro e; subst e; exact h rfl)
 ·have hab : a.length = b.length := by simp at h; omega
  (conv => whnf)
  refine LWp.loop hT hmix [] (fun k : Nat => [(5, vI k)]) (fun _ => []) (fun k => k ≤ a.length ∧ a.take k = b.take k) (fun k => a.length - k) 0 ⟨Nat.zero_le _, rfl⟩ ?_
  (conv => whnf)
  refine ⟨?_, fun k ⟨hk, hkk⟩ => ?_⟩
  ·(repeat' (first | exact trivial | exact Wk.refl _ | exact ObWk.refl _ | exact rfl | exact ⟨_, rfl⟩ | exact Nat.zero_lt_one | refine And.intro ?_ ?_ | unfold okTo | (unfold okO; conv => whnf) | (unfold okS; conv => whnf) | (unfold SlotOk; conv => whnf) | (unfold ObjOk; conv => whnf) | (unfold okCells; conv => whnf) | (unfold liveTo; conv => whnf) | exact Nat.zero_lt_succ _))
  ·(conv => whnf)
   refine split_intro (fun h => ?_) (fun h => ?_)
   ·have hlt : k < a.length := by simpa using h
    obtain ⟨x, hx⟩ := exI hlt
    obtain ⟨y, hy⟩ := exI (hab ▸ hlt : k < b.length)
    (conv => whnf)
    refine ⟨_, ⟨by omega, getMap hx⟩, ?_⟩
    (conv => whnf)
    refine ⟨_, ⟨by omega, getMap hy⟩, ?_⟩
    (conv => whnf)
    refine split_intro (fun hxy => ?_) (fun hxy => ?_)
    ·(conv => whnf)
     exact Wk.bool (by
      symm; simp; intro e; subst e
      simp [hx] at hy; simp [hy] at hxy)
    ·(conv => whnf)
     refine ⟨_, add64 (c := ((k + 1 : Nat) : Int)) (by omega) (by omega), ?_⟩
     (conv => whnf)
     refine ⟨k + 1, ⟨⟨by omega, ?_⟩, by simp only []; omega⟩, ?_⟩
     ·have : x = y := by simpa using hxy
      subst this
      rw [List.take_add_one, List.take_add_one, hx, hy, hkk]
     ·(repeat' (first | exact trivial | exact Wk.refl _ | exact ObWk.refl _ | exact rfl | exact ⟨_, rfl⟩ | exact Nat.zero_lt_one | refine And.intro ?_ ?_ | unfold okTo | (unfold okO; conv => whnf) | (unfold okS; conv => whnf) | (unfold SlotOk; conv => whnf) | (unfold ObjOk; conv => whnf) | (unfold okCells; conv => whnf) | (unfold liveTo; conv => whnf) | exact Nat.zero_lt_succ _))
   ·(conv => whnf)
    exact Wk.bool (by
     have hge : a.length ≤ k := by simpa using h
     symm; simp
     rwa [List.take_of_length_le hge, List.take_of_length_le (by omega)] at hkk)

theorem first_ (l : List Use) (b : Int) : FCall Tryz.prog Gl 84 [LU l, vI b] [] (vI (first l b)) [] := by
 refine FCall.enterL hT hmix [] Tryz.func84 rfl rfl rfl fun hbd => ?_
 have ha := bds_list hbd (.head _)
 (conv => whnf)
 refine LWp.loop hT hmix [] (fun k : Nat => [(5, vI k)]) (fun _ => []) (fun k => k ≤ l.length ∧ ∀ j x, j < k → l[j]? = some x → x.sym.bind ≠ b) (fun k => l.length - k) 0 ⟨Nat.zero_le _, fun j x h => by omega⟩ ?_
 (conv => whnf)
 refine ⟨?_, fun k ⟨hk, hkk⟩ => ?_⟩
 ·(repeat' (first | exact trivial | exact Wk.refl _ | exact ObWk.refl _ | exact rfl | exact ⟨_, rfl⟩ | exact Nat.zero_lt_one | refine And.intro ?_ ?_ | unfold okTo | (unfold okO; conv => whnf) | (unfold okS; conv => whnf) | (unfold SlotOk; conv => whnf) | (unfold ObjOk; conv => whnf) | (unfold okCells; conv => whnf) | (unfold liveTo; conv => whnf) | exact Nat.zero_lt_succ _))
 ·(conv => whnf)
  refine split_intro (fun h => ?_) (fun h => ?_)
  ·have hlt : k < l.length := by simpa using h
   obtain ⟨x, hx⟩ := exI hlt
   (conv => whnf)
   refine ⟨_, ⟨by omega, getMap hx⟩, ?_⟩
   (conv => whnf)
   refine split_intro (fun hxy => ?_) (fun hxy => ?_)
   ·(conv => whnf)
    exact Wk.int (by rw [first_eq hx (by simpa using hxy) hkk])
   ·(conv => whnf)
    refine ⟨_, add64 (c := ((k + 1 : Nat) : Int)) (by omega) (by omega), ?_⟩
    (conv => whnf)
    refine ⟨k + 1, ⟨⟨by omega, fun j y hj hy => ?_⟩, by simp only []; omega⟩, ?_⟩
    ·rcases Nat.lt_or_ge j k with h1 | h1
     ·exact hkk j y h1 hy
     ·obtain rfl : j = k := by omega
      rw [hx] at hy
      simp at hy; subst hy
      simpa using hxy
    ·(repeat' (first | exact trivial | exact Wk.refl _ | exact ObWk.refl _ | exact rfl | exact ⟨_, rfl⟩ | exact Nat.zero_lt_one | refine And.intro ?_ ?_ | unfold okTo | (unfold okO; conv => whnf) | (unfold okS; conv => whnf) | (unfold SlotOk; conv => whnf) | (unfold ObjOk; conv => whnf) | (unfold okCells; conv => whnf) | (unfold liveTo; conv => whnf) | exact Nat.zero_lt_succ _))
  ·(conv => whnf)
   have hge : l.length ≤ k := by simpa using h
   exact Wk.int (by rw [first_neg (fun j x hj => hkk j x (by have := (List.getElem?_eq_some_iff.1 hj).1; omega) hj)])

theorem one_ (x : Sym) (u : Int) : FCall Tryz.prog Gl 90 [.agg x.enc, vI u] [] (.agg (Bd.one x u).encN) [] := by
 refine FCall.enterL hT hmix [] Tryz.func90 rfl rfl rfl fun hbd => ?_
 (conv => whnf)
 refine CallLeaf.wa (empty_) rfl ?_
 (conv => whnf)
 refine split_intro (fun h1 => ?_) (fun h1 => ?_)
 ·(conv => whnf)
  exact Wk.of_eq (by simp at h1; simp [Bd.one, h1, empty])
 ·(conv => whnf)
  refine split_intro (fun h2 => ?_) (fun h2 => ?_)
  ·(conv => whnf)
   exact Wk.of_eq (by simp at h1 h2; simp [Bd.one, h2, empty])
  ·(conv => whnf)
   refine split_intro (fun h3 => ?_) (fun h3 => ?_)
   ·(conv => whnf)
    refine split_intro (fun h4 => ?_) (fun h4 => ?_)
    ·(conv => whnf)
     simp at h1 h2 h3 h4
     omega
    ·(conv => whnf)
     exact Wk.of_eq (by simp at h1 h2 h3 h4; simp [Bd.one, h3, empty])
   ·(conv => whnf)
    refine split_intro (fun h4 => ?_) (fun h4 => ?_)
    ·(conv => whnf)
     exact Wk.of_eq (by simp at h1 h2 h3 h4; simp [Bd.one, h4, empty])
    ·(conv => whnf)
     exact Wk.of_eq (by simp at h1 h2 h3 h4; simp [Bd.one, h1, h2, h3, h4, empty])
end Go.Proofs.YtfbmknghfhancaaGreatDoor

namespace Go.Proofs.YtfbmknghfhancaaGreatDoor
open Go Go.AL Go.AL.Bd
set_option maxRecDepth 100000
theorem growP_ (n : Int) (h0 : 0 < n) (h1 : n * 8 ≤ 140737488355328) : FCall Tryz.prog Gl 110 [.nil, vI n] [] (.list (.tok 0) []) [.tok 0 1] := by
 refine FCall.enterO hT hmix [] Tryz.func110 rfl rfl rfl fun hbd => ?_
 (conv => whnf)
 refine split_intro (fun h2 => ?_) (fun h2 => ?_)
 ·simp at h2; omega
 ·(conv => whnf)
  refine ⟨0, sub64 (by omega) (by omega), ?_⟩
  (conv => whnf)
  refine ⟨n, sub64 (by omega) (by omega), ?_⟩
  (conv => whnf)
  refine split_intro (fun h3 => ?_) (fun h3 => ?_)
  ·(conv => whnf)
   refine ⟨⟨rfl, rfl⟩, ?_⟩
   (conv => whnf)
   refine ⟨⟨by omega, (by show _ * 8 ≤ _; omega)⟩, ?_⟩
   (conv => whnf)
   refine ⟨rfl, ?_⟩
   (conv => whnf)
   refine ⟨[2600], rfl, by (try unfold pullOk); (repeat' (first | exact trivial | exact ObWk.refl _ | refine And.intro ?_ ?_ | unfold pullOk)), ?_⟩
   exact Wk.refl _
  ·simp at h3; omega

theorem grow0_ (n : Int) (hn : n = 0) : FCall Tryz.prog Gl 110 [.nil, vI n] [] .nil [] := by
 subst hn
 refine FCall.enterL hT hmix [] Tryz.func110 rfl rfl rfl fun hbd => ?_
 (conv => whnf)
 refine ⟨0, rfl, ?_⟩
 (conv => whnf)
 refine ⟨0, rfl, ?_⟩
 (conv => whnf)
 exact Wk.refl _

def sumLen (ls : List (List Int)) : Nat := ls.flatten.length
theorem take_flatten {α : Type} {ls : List (List α)} {k : Nat} {x : List α} (h : ls[k]? = some x) : (ls.take (k + 1)).flatten = (ls.take k).flatten ++ x := by
 rw [List.take_add_one, h]; simp
theorem take_flatten_le {α : Type} (ls : List (List α)) (k : Nat) : (ls.take k).flatten.length ≤ ls.flatten.length := by
 have : ls.flatten.length = (ls.take k).flatten.length + (ls.drop k).flatten.length := by
  rw [← List.length_append, ← List.flatten_append, List.take_append_drop]
 omega
abbrev eLI (l : List Int) : List D := [LI l]
theorem concat_ (ls : List (List Int)) (hb : ls.flatten.length * 8 ≤ 140737488355328) : FCall Tryz.prog Gl 97 [.list .any (ls.map eLI)] [] (LIn ls.flatten) [] := by
 refine FCall.enterL hT hmix [] Tryz.func97 rfl rfl rfl fun hbd => ?_
 have ha := bds_list hbd (.head _)
 (conv => whnf)
 refine LWp.loop hT hmix [] (fun k : Nat => [(11, vI k), (3, vI ((ls.take k).flatten.length : Nat))]) (fun _ => []) (fun k => k ≤ ls.length) (fun k => ls.length - k) 0 (Nat.zero_le _) ?_
 (conv => whnf)
 refine ⟨?_, fun k hk => ?_⟩
 ·(repeat' (first | exact trivial | exact Wk.refl _ | exact ObWk.refl _ | exact rfl | exact ⟨_, rfl⟩ | exact Nat.zero_lt_one | refine And.intro ?_ ?_ | unfold okTo | (unfold okO; conv => whnf) | (unfold okS; conv => whnf) | (unfold SlotOk; conv => whnf) | (unfold ObjOk; conv => whnf) | (unfold okCells; conv => whnf) | (unfold liveTo; conv => whnf) | exact Nat.zero_lt_succ _))
 ·have hsz := take_flatten_le ls k
  have hsz1 := take_flatten_le ls (k + 1)
  (conv => whnf)
  refine split_intro (fun h => ?_) (fun h => ?_)
  ·have hlt : k < ls.length := by simpa using h
   obtain ⟨x, hx⟩ := exI hlt
   have htk := take_flatten hx
   (conv => whnf)
   refine ⟨_, ⟨by omega, getMap hx⟩, ?_⟩
   (conv => whnf)
   refine ⟨_, add64 (c := (((ls.take (k + 1)).flatten.length : Nat) : Int)) (by rw [htk]; simp) (by omega), ?_⟩
   (conv => whnf)
   refine ⟨_, add64 (c := ((k + 1 : Nat) : Int)) (by omega) (by omega), ?_⟩
   (conv => whnf)
   refine ⟨k + 1, ⟨by omega, by simp only []; omega⟩, ?_⟩
   (repeat' (first | exact trivial | exact Wk.refl _ | exact ObWk.refl _ | exact rfl | exact ⟨_, rfl⟩ | exact Nat.zero_lt_one | refine And.intro ?_ ?_ | unfold okTo | (unfold okO; conv => whnf) | (unfold okS; conv => whnf) | (unfold SlotOk; conv => whnf) | (unfold ObjOk; conv => whnf) | (unfold okCells; conv => whnf) | (unfold liveTo; conv => whnf) | exact Nat.zero_lt_succ _))
  ·have hge : k = ls.length := by simp at h; omega
   subst hge
   rw [List.take_length] at hsz
   rcases Nat.eq_zero_or_pos ls.flatten.length with h0 | h0
   ·have hall : ∀ x ∈ ls, x = [] := fun x hx => by
     have := List.sublist_flatten_of_mem hx
     exact List.eq_nil_of_length_eq_zero (by have := this.length_le; omega)
    (conv => whnf)
    refine CallLeaf.w (by (repeat' (first | exact ArgsTo.nil | refine ArgsTo.cons ?_ ?_ | exact ArgTo.mk' rfl (Wk.refl _) | exact ArgTo.mk' rfl Wk.nilm | exact ArgTo.mk' rfl (Wk.int (by simp)) | exact ArgTo.mk' rfl (Wk.list _ _) | exact ArgTo.mk' rfl (Wk.agg (by (repeat' (first | exact Wks.nil | refine Wks.cons ?_ ?_ | exact Wk.refl _ | exact Wk.nilm | exact Wk.list _ _  | exact Wk.natN rfl | refine Wk.agg ?_))))))) (grow0_ _ (by rw [List.take_length]; omega)) rfl ?_
    (conv => whnf)
    refine LWp.loop hT hmix [] (fun k : Nat => [(27, vI k), (6, .list (.tok 900000) [])]) (fun _ => [(900000, .tok 0 1)]) (fun k => k ≤ ls.length) (fun k => ls.length - k) 0 (Nat.zero_le _) ?_
    (conv => whnf)
    refine ⟨?_, fun k hk => ?_⟩
    ·(repeat' (first | exact trivial | exact Wk.refl _ | exact ObWk.refl _ | exact rfl | exact ⟨_, rfl⟩ | exact Nat.zero_lt_one | refine And.intro ?_ ?_ | unfold okTo | (unfold okO; conv => whnf) | (unfold okS; conv => whnf) | (unfold SlotOk; conv => whnf) | (unfold ObjOk; conv => whnf) | (unfold okCells; conv => whnf) | (unfold liveTo; conv => whnf) | exact Nat.zero_lt_succ _))
    ·(conv => whnf)
     refine split_intro (fun h => ?_) (fun h => ?_)
     ·have hlt : k < ls.length := by simpa using h
      obtain ⟨x, hx⟩ := exI hlt
      obtain rfl := hall x (List.mem_of_getElem? hx)
      (conv => whnf)
      refine ⟨_, ⟨by omega, getMap hx⟩, ?_⟩
      (conv => whnf)
      refine ⟨_, appL (xs := []) (ys := []) (zs := []) rfl rfl (fun _ => rfl) rfl (by decide), ?_⟩
      (conv => whnf)
      refine ⟨_, add64 (c := ((k + 1 : Nat) : Int)) (by omega) (by omega), ?_⟩
      (conv => whnf)
      refine ⟨k + 1, ⟨by omega, by simp only []; omega⟩, ?_⟩
      (repeat' (first | exact trivial | exact Wk.refl _ | exact ObWk.refl _ | exact rfl | exact ⟨_, rfl⟩ | exact Nat.zero_lt_one | refine And.intro ?_ ?_ | unfold okTo | (unfold okO; conv => whnf) | (unfold okS; conv => whnf) | (unfold SlotOk; conv => whnf) | (unfold ObjOk; conv => whnf) | (unfold okCells; conv => whnf) | (unfold liveTo; conv => whnf) | exact Nat.zero_lt_succ _))
     ·(conv => whnf)
      have : ls.flatten = [] := List.eq_nil_of_length_eq_zero h0
      exact Wk.nat' (by rw [this]; rfl)
   ·(conv => whnf)
    refine CallLeaf.o [4616] (by (repeat' (first | exact ArgsTo.nil | refine ArgsTo.cons ?_ ?_ | exact ArgTo.mk' rfl (Wk.refl _) | exact ArgTo.mk' rfl Wk.nilm | exact ArgTo.mk' rfl (Wk.int (by simp)) | exact ArgTo.mk' rfl (Wk.list _ _) | exact ArgTo.mk' rfl (Wk.agg (by (repeat' (first | exact Wks.nil | refine Wks.cons ?_ ?_ | exact Wk.refl _ | exact Wk.nilm | exact Wk.list _ _  | exact Wk.natN rfl | refine Wk.agg ?_))))))) (growP_ _ (by rw [List.take_length]; omega) (by rw [List.take_length]; omega)) rfl rfl (by (repeat' (first | exact trivial | exact rfl | refine And.intro ?_ ?_))) (by (repeat' (first | exact trivial | exact rfl | refine And.intro ?_ ?_))) (by (repeat' (first | exact trivial | exact rfl | refine And.intro ?_ ?_))) rfl rfl ?_
    (conv => whnf)
    refine LWp.loop hT hmix [] (fun k : Nat => [(27, vI k), (6, .list (.tok 4616) ((ls.take k).flatten.map eI))]) (fun k => [(4616, .tok ((ls.take k).flatten.map eI).length 1)]) (fun k => k ≤ ls.length) (fun k => ls.length - k) 0 (Nat.zero_le _) ?_
    (conv => whnf)
    refine ⟨?_, fun k hk => ?_⟩
    ·(repeat' (first | exact trivial | exact Wk.refl _ | exact ObWk.refl _ | exact rfl | exact ⟨_, rfl⟩ | exact Nat.zero_lt_one | refine And.intro ?_ ?_ | unfold okTo | (unfold okO; conv => whnf) | (unfold okS; conv => whnf) | (unfold SlotOk; conv => whnf) | (unfold ObjOk; conv => whnf) | (unfold okCells; conv => whnf) | (unfold liveTo; conv => whnf) | exact Nat.zero_lt_succ _))
    ·have hsz1 := take_flatten_le ls (k + 1)
     (conv => whnf)
     refine split_intro (fun h => ?_) (fun h => ?_)
     ·have hlt : k < ls.length := by simpa using h
      obtain ⟨x, hx⟩ := exI hlt
      have htk := take_flatten hx
      (conv => whnf)
      refine ⟨_, ⟨by omega, getMap hx⟩, ?_⟩
      (conv => whnf)
      refine ⟨_, appL rfl rfl (fun _ => rfl) htk.symm (by show _ * 8 ≤ _; omega), ?_⟩
      (conv => whnf)
      refine ⟨_, add64 (c := ((k + 1 : Nat) : Int)) (by omega) (by omega), ?_⟩
      (conv => whnf)
      refine ⟨k + 1, ⟨by omega, by simp only []; omega⟩, ?_⟩
      (repeat' (first | exact trivial | exact Wk.refl _ | exact ObWk.refl _ | exact rfl | exact ⟨_, rfl⟩ | exact Nat.zero_lt_one | refine And.intro ?_ ?_ | unfold okTo | (unfold okO; conv => whnf) | (unfold okS; conv => whnf) | (unfold SlotOk; conv => whnf) | (unfold ObjOk; conv => whnf) | (unfold okCells; conv => whnf) | (unfold liveTo; conv => whnf) | exact Nat.zero_lt_succ _))
     ·(conv => whnf)
      have hge : k = ls.length := by simp at h; omega
      exact Wk.nat' (by rw [hge, List.take_length])
end Go.Proofs.YtfbmknghfhancaaGreatDoor

namespace Go.Proofs.YtfbmknghfhancaaGreatDoor
open Go Go.AL Go.AL.Bd
set_option maxRecDepth 100000

theorem strength_drop {n : Int} (h0 : 0 ≤ n) (h1 : n < 6) : ∃ r, (Gl 0).drop (n.toNat * 1) = vI (strength n) :: r := by
 obtain ⟨m, rfl⟩ : ∃ m : Nat, n = m := ⟨n.toNat, by omega⟩
 have : m = 0 ∨ m = 1 ∨ m = 2 ∨ m = 3 ∨ m = 4 ∨ m = 5 := by omega
 rcases this with rfl | rfl | rfl | rfl | rfl | rfl <;> exact ⟨_, rfl⟩

theorem join_ (a b : State) (ha : 0 ≤ a.bind ∧ a.bind < 6) (hb : 0 ≤ b.bind ∧ b.bind < 6) (hs : (a.strongs ++ b.strongs).length * 8 ≤ 140737488355328) :
  FCall Tryz.prog Gl 89 [.agg a.enc, .agg b.enc] [] (.agg (join a b).encN) [] := by
 obtain ⟨r1, e1⟩ := strength_drop hb.1 hb.2
 obtain ⟨r2, e2⟩ := strength_drop ha.1 ha.2
 have hcat := concat_ [a.strongs, b.strongs] (by simpa using hs)
 refine FCall.enterL hT hmix [] Tryz.func89 rfl rfl rfl fun hbd => ?_
 (conv => whnf)
 refine ⟨_, ⟨hb.1, hb.2, e1⟩, ?_⟩
 (conv => whnf)
 refine ⟨_, ⟨ha.1, ha.2, e2⟩, ?_⟩
 (conv => whnf)
 refine split_intro (fun h => ?_) (fun h => ?_)
 ·(conv => whnf)
  refine split_intro (fun h1 => ?_) (fun h1 => ?_)
  all_goals
   (conv => whnf)
   refine split_intro (fun h2 => ?_) (fun h2 => ?_)
   all_goals
    (conv => whnf)
    refine split_intro (fun h3 => ?_) (fun h3 => ?_)
    all_goals
     (conv => whnf)
     refine CallLeaf.wa (hcat) rfl ?_
     (conv => whnf)
     exact Wk.of_eq (by simp at h h1 h2 h3; simp [join, h, h1, h2, h3])
 ·(conv => whnf)
  refine split_intro (fun h4 => ?_) (fun h4 => ?_)
  ·(conv => whnf)
   refine split_intro (fun h5 => ?_) (fun h5 => ?_)
   all_goals
    (conv => whnf)
    refine split_intro (fun h1 => ?_) (fun h1 => ?_)
    all_goals
     (conv => whnf)
     refine split_intro (fun h2 => ?_) (fun h2 => ?_)
     all_goals
      (conv => whnf)
      refine split_intro (fun h3 => ?_) (fun h3 => ?_)
      all_goals
       (conv => whnf)
       refine CallLeaf.wa (hcat) rfl ?_
       (conv => whnf)
       exact Wk.of_eq (by (try simp only [goMax]); simp at h h1 h2 h3 h4 h5; have hn := Int.not_lt.2 h; rw [h4] at hn; simp [join, h1, h2, h3, h4, h5, hn])
  ·(conv => whnf)
   refine split_intro (fun h1 => ?_) (fun h1 => ?_)
   all_goals
    (conv => whnf)
    refine split_intro (fun h2 => ?_) (fun h2 => ?_)
    all_goals
     (conv => whnf)
     refine split_intro (fun h3 => ?_) (fun h3 => ?_)
     all_goals
      (conv => whnf)
      refine CallLeaf.wa (hcat) rfl ?_
      (conv => whnf)
      exact Wk.of_eq (by simp at h h1 h2 h3 h4; simp [join, h1, h2, h3, h4, Int.not_lt.2 h])

theorem merge_ (s : State) (x : Sym) (u : Int) (hs : 0 ≤ s.bind ∧ s.bind < 6) (hx : 1 ≤ x.bind ∧ x.bind ≤ 5) (hl : s.strongs.length ≤ 1000000) :
  FCall Tryz.prog Gl 80 [.agg s.enc, .agg x.enc, vI u] [] (.agg (merge s x u).encN) [] := by
 have h1 := one_strongs x u
 have hj := join_ s (Bd.one x u) hs (one_bind u hx) (by simp; omega)
 refine FCall.enterL hT hmix [] Tryz.func80 rfl rfl rfl fun hbd => ?_
 (conv => whnf)
 refine CallLeaf.wa (one_ x u) rfl ?_
 (conv => whnf)
 refine CallLeaf.wa (hj) rfl ?_
 (conv => whnf)
 exact Wk.refl _

end Go.Proofs.YtfbmknghfhancaaGreatDoor

namespace Go.Proofs.YtfbmknghfhancaaGreatDoor
open Go Go.AL Go.AL.Bd
set_option maxRecDepth 100000
set_option maxHeartbeats 4000000
theorem refOf_ (l : List Use) (hl : l.length ≤ 1000000) : FCall Tryz.prog Gl 66 [LU l] [] (.agg (refOf l).encN) [] := by
 have g1 := useAt_get (l := l) (b := 1)
 have g2 := useAt_get (l := l) (b := 2)
 have g3 := useAt_get (l := l) (b := 3)
 refine FCall.enterL hT hmix [] Tryz.func66 rfl rfl rfl fun hbd => ?_
 (conv => whnf)
 refine CallLeaf.wa (first_ l 1) rfl ?_
 (conv => whnf)
 refine CallLeaf.wa (first_ l 2) rfl ?_
 (conv => whnf)
 refine CallLeaf.wa (first_ l 3) rfl ?_
 (conv => whnf)
 refine split_intro (fun hs => ?_) (fun hs => ?_)
 all_goals
  (conv => whnf)
  refine CallLeaf.wa (first_ l 4) rfl ?_
  (conv => whnf)
  refine CallLeaf.wa (first_ l 5) rfl ?_
  (conv => whnf)
  refine LWp.loop hT hmix [] (fun k : Nat => [(7, vI k)]) (fun k => [(520, .cells (mid l k)), (900000, .tok ((strongsOf (l.take k)).map eI).length 1)]) (fun k => k ≤ l.length) (fun k => l.length - k) 0 (Nat.zero_le _) ?_
  (conv => whnf)
  refine ⟨?_, fun k hk => ?_⟩
  ·(repeat' (first | exact trivial | exact Wk.refl _ | exact ObWk.refl _ | exact rfl | exact ⟨_, rfl⟩ | exact Nat.zero_lt_one | refine And.intro ?_ ?_ | unfold okTo | (unfold okO; conv => whnf) | (unfold okS; conv => whnf) | (unfold SlotOk; conv => whnf) | (unfold ObjOk; conv => whnf) | (unfold okCells; conv => whnf) | (unfold liveTo; conv => whnf) | exact Nat.zero_lt_succ _))
   all_goals first | (refine Wk.int ?_; simp [maxOf]; done) | (refine Wk.bool ?_; simp at hs; simp [hs]; done) | (refine Wk.bool ?_; rw [decide_eq_false (show ¬ 0 ≤ first l 1 by simpa using hs)]; simp)
  ·have hsl := strongsOf_le (l.take k)
   have hlk : (l.take k).length ≤ k := by simp; omega
   (conv => whnf)
   refine split_intro (fun h => ?_) (fun h => ?_)
   ·have hlt : k < l.length := by simpa using h
    obtain ⟨x, hx⟩ := exI hlt
    (conv => whnf)
    refine ⟨_, ⟨by omega, getMap hx⟩, ?_⟩
    (conv => whnf)
    refine split_intro (fun h1 => ?_) (fun h1 => ?_)
    ·have hb1 : x.sym.bind = 1 := by simpa using h1
     (conv => whnf)
     refine ⟨_, ⟨by omega, getMap hx⟩, ?_⟩
     (conv => whnf)
     refine ⟨_, appL (ys := [x.unit]) (zs := strongsOf (l.take (k + 1))) rfl rfl (fun _ => rfl) (by rw [take_snoc hx, strongsOf_snoc]; simp [hb1]) (by rw [take_snoc hx, strongsOf_snoc]; simp [hb1]; show _ * 8 ≤ _; omega), ?_⟩
     (conv => whnf)
     refine split_intro (fun h2 => ?_) (fun h2 => ?_)
     ·(conv => whnf)
      refine ⟨_, ⟨by omega, getMap hx⟩, ?_⟩
      (conv => whnf)
      have hb3 : (x.sym.bind == 3) = false := by simp [hb1]
      refine split_intro (fun h3 => ?_) (fun h3 => ?_)
      ·rw [hb3] at h3; simp at h3
      ·(conv => whnf)
       refine ⟨_, add64 (c := ((k + 1 : Nat) : Int)) (by omega) (by omega), ?_⟩
       (conv => whnf)
       refine ⟨k + 1, ⟨by omega, by simp only []; omega⟩, ?_⟩
       simp only [mid, max_same _ hx (show x.sym.bind ≠ 3 by omega)]
       (repeat' (first | exact trivial | exact Wk.refl _ | exact ObWk.refl _ | exact rfl | exact ⟨_, rfl⟩ | exact Nat.zero_lt_one | refine And.intro ?_ ?_ | unfold okTo | (unfold okO; conv => whnf) | (unfold okS; conv => whnf) | (unfold SlotOk; conv => whnf) | (unfold ObjOk; conv => whnf) | (unfold okCells; conv => whnf) | (unfold liveTo; conv => whnf) | exact Nat.zero_lt_succ _))
     ·(conv => whnf)
      refine ⟨_, add64 (c := ((k + 1 : Nat) : Int)) (by omega) (by omega), ?_⟩
      (conv => whnf)
      refine ⟨k + 1, ⟨by omega, by simp only []; omega⟩, ?_⟩
      simp only [mid, max_same _ hx (show x.sym.bind ≠ 3 by omega)]
      (repeat' (first | exact trivial | exact Wk.refl _ | exact ObWk.refl _ | exact rfl | exact ⟨_, rfl⟩ | exact Nat.zero_lt_one | refine And.intro ?_ ?_ | unfold okTo | (unfold okO; conv => whnf) | (unfold okS; conv => whnf) | (unfold SlotOk; conv => whnf) | (unfold ObjOk; conv => whnf) | (unfold okCells; conv => whnf) | (unfold liveTo; conv => whnf) | exact Nat.zero_lt_succ _))
    ·have hb1 : ¬ x.sym.bind = 1 := by simpa using h1
     (conv => whnf)
     refine split_intro (fun h2 => ?_) (fun h2 => ?_)
     ·have hn : first l 1 < 0 := by simpa using h2
      (conv => whnf)
      refine ⟨_, ⟨by omega, getMap hx⟩, ?_⟩
      (conv => whnf)
      refine split_intro (fun h3 => ?_) (fun h3 => ?_)
      ·have hb3 : x.sym.bind = 3 := by simpa using h3
       (conv => whnf)
       refine ⟨_, ⟨by omega, getMap hx⟩, ?_⟩
       (conv => whnf)
       refine ⟨_, ⟨by omega, getMap hx⟩, ?_⟩
       (conv => whnf)
       refine ⟨_, add64 (c := ((k + 1 : Nat) : Int)) (by omega) (by omega), ?_⟩
       (conv => whnf)
       refine ⟨k + 1, ⟨by omega, by simp only []; omega⟩, ?_⟩
       simp only [mid, strongs_same hx hb1, max_more _ hx hb3, goMax]
       (repeat' (first | exact trivial | exact Wk.refl _ | exact ObWk.refl _ | exact rfl | exact ⟨_, rfl⟩ | exact Nat.zero_lt_one | refine And.intro ?_ ?_ | unfold okTo | (unfold okO; conv => whnf) | (unfold okS; conv => whnf) | (unfold SlotOk; conv => whnf) | (unfold ObjOk; conv => whnf) | (unfold okCells; conv => whnf) | (unfold liveTo; conv => whnf) | exact Nat.zero_lt_succ _))
       all_goals exact Wk.int (by simp [hn])
      ·have hb3 : ¬ x.sym.bind = 3 := by simpa using h3
       (conv => whnf)
       refine ⟨_, add64 (c := ((k + 1 : Nat) : Int)) (by omega) (by omega), ?_⟩
       (conv => whnf)
       refine ⟨k + 1, ⟨by omega, by simp only []; omega⟩, ?_⟩
       simp only [mid, strongs_same hx hb1, max_same _ hx hb3]
       (repeat' (first | exact trivial | exact Wk.refl _ | exact ObWk.refl _ | exact rfl | exact ⟨_, rfl⟩ | exact Nat.zero_lt_one | refine And.intro ?_ ?_ | unfold okTo | (unfold okO; conv => whnf) | (unfold okS; conv => whnf) | (unfold SlotOk; conv => whnf) | (unfold ObjOk; conv => whnf) | (unfold okCells; conv => whnf) | (unfold liveTo; conv => whnf) | exact Nat.zero_lt_succ _))
     ·have hn : ¬ first l 1 < 0 := by simpa using h2
      (conv => whnf)
      refine ⟨_, add64 (c := ((k + 1 : Nat) : Int)) (by omega) (by omega), ?_⟩
      (conv => whnf)
      refine ⟨k + 1, ⟨by omega, by simp only []; omega⟩, ?_⟩
      simp only [mid, strongs_same hx hb1]
      (repeat' (first | exact trivial | exact Wk.refl _ | exact ObWk.refl _ | exact rfl | exact ⟨_, rfl⟩ | exact Nat.zero_lt_one | refine And.intro ?_ ?_ | unfold okTo | (unfold okO; conv => whnf) | (unfold okS; conv => whnf) | (unfold SlotOk; conv => whnf) | (unfold ObjOk; conv => whnf) | (unfold okCells; conv => whnf) | (unfold liveTo; conv => whnf) | exact Nat.zero_lt_succ _))
      all_goals exact Wk.int (by simp [hn])
   ·have hge : k = l.length := by simp at h; omega
    subst hge
    (conv => whnf)
    refine split_intro (fun c1 => ?_) (fun c1 => ?_)
    ·have c1' : 0 ≤ first l 1 := by simpa using c1
     (conv => whnf)
     refine ⟨_, ⟨c1', getMap (g1 c1')⟩, ?_⟩
     (conv => whnf)
     refine ⟨_, ⟨c1', getMap (g1 c1')⟩, ?_⟩
     (conv => whnf)
     exact Wk.of_eq (by simp [refOf, c1', Int.not_lt.2 c1'])
    ·have c1' : ¬ 0 ≤ first l 1 := by simpa using c1
     (conv => whnf)
     refine split_intro (fun c3 => ?_) (fun c3 => ?_)
     ·have c3' : 0 ≤ first l 3 := by simpa using c3
      (conv => whnf)
      refine ⟨_, ⟨c3', getMap (g3 c3')⟩, ?_⟩
      (conv => whnf)
      exact Wk.of_eq (by simp [refOf, c1', c3', Int.not_le.1 c1'])
     ·(conv => whnf)
      refine split_intro (fun c2 => ?_) (fun c2 => ?_)
      ·have c2' : 0 ≤ first l 2 := by simpa using c2
       (conv => whnf)
       refine ⟨_, ⟨c2', getMap (g2 c2')⟩, ?_⟩
       (conv => whnf)
       refine ⟨_, ⟨c2', getMap (g2 c2')⟩, ?_⟩
       (conv => whnf)
       exact Wk.of_eq (by simp [refOf, c1', c2', show ¬ 0 ≤ first l 3 by simpa using c3, Int.not_le.1 c1'])
      ·(conv => whnf)
       exact Wk.of_eq (by simp [refOf, c1', show ¬ 0 ≤ first l 3 by simpa using c3, show ¬ 0 ≤ first l 2 by simpa using c2, Int.not_le.1 c1'])
end Go.Proofs.YtfbmknghfhancaaGreatDoor

namespace Go.Proofs.YtfbmknghfhancaaGreatDoor
open Go Go.AL Go.AL.Ap Go.AL.Ob Go.AL.Tb
set_option maxRecDepth 100000
set_option maxHeartbeats 4000000
theorem sB_sz (s : Str) : (sB s).size = s.length := by simp [sB, ByteArray.size]
abbrev oD (o : Ob.Obj) : D := .agg [.list .any (SE o.syms), LB o.body]
theorem not_t {b : Bool} (h : (!b) = true) : b = false := by cases b <;> simp_all
theorem not_f {b : Bool} (h : (!b) = false) : b = true := by cases b <;> simp_all
theorem len_ne {a b : Nat} (h : ((a : Int) != (b : Int)) = true) : a ≠ b := by intro e; subst e; simp at h
theorem len_eq {a b : Nat} (h : ((a : Int) != (b : Int)) = false) : a = b := by
 by_cases e : a = b
 ·exact e
 ·have : ((a : Int) != (b : Int)) = true := by simp; omega
  rw [this] at h; exact absurd h (by decide)
theorem vbad {s : Ob.Sym} (h : ¬ (1 ≤ s.name.length ∧ s.name.length ≤ 255 ∧ (0 : UInt8) ∉ s.name ∧ 0 ≤ s.size ∧ s.size ≤ 4294967295)) : valid s = false := by
 cases hv : valid s with
 | false => rfl
 | true =>
  obtain ⟨h1, h2, h3, h4, h5, _⟩ := valid_iff.1 hv
  exact absurd ⟨h1, h2, h3, h4, h5⟩ h
theorem vgood {s : Ob.Sym} (h1 : 1 ≤ s.name.length) (h2 : s.name.length ≤ 255) (h3 : (0 : UInt8) ∉ s.name) (h4 : 0 ≤ s.size) (h5 : s.size ≤ 4294967295) : valid s = bindOk s := by
 simp [valid, h1, h2, h3, h4, h5]
theorem has_mem (l : List Ob.Sym) (n : Str) : Ob.has l n = decide (n ∈ l.map Ob.Sym.name) := by
 rw [Bool.eq_iff_iff, Ob.has_iff]; simp
theorem okL_step {l : List Ob.Sym} {k : Nat} {s : Ob.Sym} (h : l[k]? = some s) : okL [] (l.take (k + 1)) = (okL [] (l.take k) && (valid s && !Ob.has (l.take k) s.name)) := by
 rw [List.take_add_one, h, Option.toList_some, okL_app]
 simp [okL]
theorem okL_bad {l : List Ob.Sym} {k : Nat} {s : Ob.Sym} (h : l[k]? = some s) (hb : (valid s && !Ob.has (l.take k) s.name) = false) : validO l = false := by
 have h1 := okL_step h
 rw [hb, Bool.and_false] at h1
 have h2 := okL_app (l.take (k + 1)) (l.drop (k + 1)) []
 rw [List.take_append_drop, h1, Bool.false_and] at h2
 simp [validO, h2]
theorem pows_at : ∀ i < 17, pows[i]? = some ((2 ^ i : Nat) : Int) := by decide
theorem pow_le16 {j : Nat} (h : (2 ^ j : Nat) ≤ 65536) : j ≤ 16 := by
 rcases Nat.lt_or_ge 16 j with hj | hj
 ·have : 2 ^ 17 ≤ 2 ^ j := Nat.pow_le_pow_right (by decide) hj
  omega
 ·exact hj
theorem two_step {j : Nat} (h : (2 ^ j : Nat) ≤ 65536) : intBin .mul .i64 2 ((2 ^ j : Nat) : Int) = some ((2 ^ (j + 1) : Nat) : Int) := by
 rw [Nat.pow_succ]
 generalize 2 ^ j = m at *
 exact mul64 (by push_cast; omega) (by push_cast; omega)
theorem power_ (n : Int) : FCall Tryz.prog Gl 57 [vI n] [] (vB (power n)) [] := by
 refine FCall.enterL hT hmix [] Tryz.func57 rfl rfl rfl fun hbd => ?_
 (conv => whnf)
 refine LWp.loop hT hmix [] (fun j : Nat => [(3, vI ((2 ^ j : Nat) : Int))]) (fun _ => []) (fun j => j ≤ 17 ∧ n ∉ pows.take j) (fun j => 17 - j) 0 ⟨Nat.zero_le _, (List.not_mem_nil : n ∉ ([] : List Int))⟩ ?_
 (conv => whnf)
 refine ⟨?_, fun j ⟨hj, hn⟩ => ?_⟩
 ·(repeat' (first | exact trivial | exact Wk.refl _ | exact ObWk.refl _ | exact rfl | exact ⟨_, rfl⟩ | exact Nat.zero_lt_one | refine And.intro ?_ ?_ | unfold okTo | (unfold okO; conv => whnf) | (unfold okS; conv => whnf) | (unfold SlotOk; conv => whnf) | (unfold ObjOk; conv => whnf) | (unfold okCells; conv => whnf) | (unfold liveTo; conv => whnf) | exact Nat.zero_lt_succ _))
 ·(conv => whnf)
  refine split_intro (fun h => ?_) (fun h => ?_)
  ·have h' : (2 ^ j : Nat) ≤ 65536 := Int.ofNat_le.1 (show ((2 ^ j : Nat) : Int) ≤ ((65536 : Nat) : Int) from of_decide_eq_true h)
   have hj16 := pow_le16 h'
   have hp := pows_at j (by omega)
   (conv => whnf)
   refine split_intro (fun h2 => ?_) (fun h2 => ?_)
   ·have e : ((2 ^ j : Nat) : Int) = n := eq_of_beq h2
    (conv => whnf)
    exact Wk.bool (by
     symm; unfold power; rw [decide_eq_true_eq, ← e]
     exact List.mem_of_getElem? hp)
   ·have e : ¬ ((2 ^ j : Nat) : Int) = n := fun e => by rw [e] at h2; simp at h2
    (conv => whnf)
    refine ⟨_, two_step h', ?_⟩
    (conv => whnf)
    refine ⟨j + 1, ⟨⟨by omega, ?_⟩, by simp only []; omega⟩, ?_⟩
    ·rw [List.take_add_one, hp]
     simp only [Option.toList_some, List.mem_append, List.mem_singleton, not_or]
     exact ⟨hn, fun h => e h.symm⟩
    ·(repeat' (first | exact trivial | exact Wk.refl _ | exact ObWk.refl _ | exact rfl | exact ⟨_, rfl⟩ | exact Nat.zero_lt_one | refine And.intro ?_ ?_ | unfold okTo | (unfold okO; conv => whnf) | (unfold okS; conv => whnf) | (unfold SlotOk; conv => whnf) | (unfold ObjOk; conv => whnf) | (unfold okCells; conv => whnf) | (unfold liveTo; conv => whnf) | exact Nat.zero_lt_succ _))
  ·have h' : ¬ ((2 ^ j : Nat) : Int) ≤ 65536 := of_decide_eq_false h
   have hj17 : j = 17 := by
    rcases Nat.lt_or_ge j 17 with hlt | hge
    ·have : 2 ^ j ≤ 65536 := Nat.pow_le_pow_right (j := 16) (by decide) (by omega)
     exact absurd (show ((2 ^ j : Nat) : Int) ≤ ((65536 : Nat) : Int) from Int.ofNat_le.2 this) h'
    ·omega
   subst hj17
   (conv => whnf)
   exact Wk.bool (by symm; unfold power; rw [decide_eq_false_iff_not]; exact hn)
theorem rsym_ (s : Ob.Sym) (hb : s.name.length ≤ 1000000000) : FCall Tryz.prog Gl 42 [.agg s.enc] [] (vB (valid s)) [] := by
 obtain ⟨nm, bd, sz, al⟩ := s
 have hsz := sB_sz nm
 replace hb : nm.length ≤ 1000000000 := hb
 refine FCall.enterL hT hmix [] Tryz.func42 rfl rfl rfl fun hbd => ?_
 (conv => whnf)
 refine split_intro (fun h1 => ?_) (fun h1 => ?_)
 ·have h1' : ((sB nm).size : Int) = 0 := eq_of_beq h1
  (conv => whnf)
  exact Wk.bool (vbad (by simp only; omega)).symm
 ·have h1' : ¬ ((sB nm).size : Int) = 0 := by simpa using h1
  (conv => whnf)
  refine split_intro (fun h2 => ?_) (fun h2 => ?_)
  ·have h2' : (255 : Int) < (sB nm).size := of_decide_eq_true h2
   (conv => whnf)
   exact Wk.bool (vbad (by simp only; omega)).symm
  ·have h2' : ¬ ((255 : Int) < (sB nm).size) := of_decide_eq_false h2
   (conv => whnf)
   refine split_intro (fun h4 => ?_) (fun h4 => ?_)
   ·have h4' : sz < 0 := of_decide_eq_true h4
    (conv => whnf)
    exact Wk.bool (vbad (by simp only; omega)).symm
   ·have h4' : ¬ (sz < 0) := of_decide_eq_false h4
    (conv => whnf)
    refine split_intro (fun h5 => ?_) (fun h5 => ?_)
    ·have h5' : (4294967295 : Int) < sz := of_decide_eq_true h5
     (conv => whnf)
     exact Wk.bool (vbad (by simp only; omega)).symm
    ·have h5' : ¬ ((4294967295 : Int) < sz) := of_decide_eq_false h5
     (conv => whnf)
     refine LWp.loop hT hmix [] (fun k : Nat => [(3, vI k)]) (fun _ => []) (fun k => k ≤ nm.length ∧ (0 : UInt8) ∉ nm.take k) (fun k => nm.length - k) 0 ⟨Nat.zero_le _, by simp⟩ ?_
     (conv => whnf)
     refine ⟨?_, fun k ⟨hk, hkk⟩ => ?_⟩
     ·(repeat' (first | exact trivial | exact Wk.refl _ | exact ObWk.refl _ | exact rfl | exact ⟨_, rfl⟩ | exact Nat.zero_lt_one | refine And.intro ?_ ?_ | unfold okTo | (unfold okO; conv => whnf) | (unfold okS; conv => whnf) | (unfold SlotOk; conv => whnf) | (unfold ObjOk; conv => whnf) | (unfold okCells; conv => whnf) | (unfold liveTo; conv => whnf) | exact Nat.zero_lt_succ _))
     ·(conv => whnf)
      refine split_intro (fun h => ?_) (fun h => ?_)
      ·have hlt : k < nm.length := by have := of_decide_eq_true h; simp only at this; omega
       obtain ⟨x, hx⟩ := exI hlt
       (conv => whnf)
       refine ⟨x, ⟨by omega, by simpa using hx⟩, ?_⟩
       (conv => whnf)
       refine split_intro (fun h6 => ?_) (fun h6 => ?_)
       ·have hx0 : x = 0 := by
         have : (x.toNat : Int) = 0 := by simpa using h6
         exact UInt8.toNat_inj.1 (by simpa using this)
        (conv => whnf)
        exact Wk.bool (vbad (fun h => h.2.2.1 (by rw [← hx0]; exact List.mem_of_getElem? hx))).symm
       ·have hx0 : ¬ 0 = x := by
         intro e; subst e; simp at h6
        (conv => whnf)
        refine ⟨_, add64 (c := ((k + 1 : Nat) : Int)) (by (try simp only []); omega) (by omega), ?_⟩
        (conv => whnf)
        refine ⟨k + 1, ⟨⟨by omega, ?_⟩, by simp only []; omega⟩, ?_⟩
        ·rw [List.take_add_one, hx]; simp [hkk, hx0]
        ·(repeat' (first | exact trivial | exact Wk.refl _ | exact ObWk.refl _ | exact rfl | exact ⟨_, rfl⟩ | exact Nat.zero_lt_one | refine And.intro ?_ ?_ | unfold okTo | (unfold okO; conv => whnf) | (unfold okS; conv => whnf) | (unfold SlotOk; conv => whnf) | (unfold ObjOk; conv => whnf) | (unfold okCells; conv => whnf) | (unfold liveTo; conv => whnf) | exact Nat.zero_lt_succ _))
      ·have hge : nm.length ≤ k := by have := of_decide_eq_false h; simp only at this; omega
       rw [List.take_of_length_le hge] at hkk
       rw [vgood (s := ⟨nm, bd, sz, al⟩) (by simp only; omega) (by simp only; omega) hkk (by simp only; omega) (by simp only; omega)]
       (conv => whnf)
       refine split_intro (fun b3 => ?_) (fun b3 => ?_)
       ·have b3' : bd = 3 := eq_of_beq b3
        (conv => whnf)
        refine CallLeaf.wa (power_ al) rfl ?_
        (conv => whnf)
        exact Wk.bool (by simp [bindOk, b3'])
       ·have b3' : ¬ bd = 3 := by simpa using b3
        (conv => whnf)
        refine split_intro (fun b4 => ?_) (fun b4 => ?_)
        ·have b4' : bd = 4 := eq_of_beq b4
         (conv => whnf)
         refine split_intro (fun z => ?_) (fun z => ?_)
         ·have z' : sz = 0 := eq_of_beq z
          (conv => whnf)
          exact Wk.bool (by rw [Bool.eq_iff_iff]; simp [bindOk, b4', z'])
         ·have z' : ¬ sz = 0 := by simpa using z
          (conv => whnf)
          exact Wk.bool (by simp [bindOk, b4', z'])
        ·have b4' : ¬ bd = 4 := by simpa using b4
         (conv => whnf)
         refine split_intro (fun b5 => ?_) (fun b5 => ?_)
         ·have b5' : bd = 5 := eq_of_beq b5
          (conv => whnf)
          refine split_intro (fun z => ?_) (fun z => ?_)
          ·have z' : sz = 0 := eq_of_beq z
           (conv => whnf)
           exact Wk.bool (by rw [Bool.eq_iff_iff]; simp [bindOk, b5', z'])
          ·have z' : ¬ sz = 0 := by simpa using z
           (conv => whnf)
           exact Wk.bool (by simp [bindOk, b5', z'])
         ·have b5' : ¬ bd = 5 := by simpa using b5
          (conv => whnf)
          refine split_intro (fun b1 => ?_) (fun b1 => ?_)
          ·have b1' : bd = 1 := eq_of_beq b1
           (conv => whnf)
           exact Wk.bool (by rw [Bool.eq_iff_iff]; simp [bindOk, b1'])
          ·have b1' : ¬ bd = 1 := by simpa using b1
           (conv => whnf)
           refine split_intro (fun b2 => ?_) (fun b2 => ?_)
           ·have b2' : bd = 2 := eq_of_beq b2
            (conv => whnf)
            exact Wk.bool (by rw [Bool.eq_iff_iff]; simp [bindOk, b2'])
           ·have b2' : ¬ bd = 2 := by simpa using b2
            (conv => whnf)
            exact Wk.bool (by simp [bindOk, b1', b2', b3', b4', b5'])
theorem rhas_ (l : List Ob.Sym) (n : Str) (hl : l.length ≤ 1000000000) : FCall Tryz.prog Gl 43 [.list .any (SE l), sD n] [] (vB (Ob.has l n)) [] := by
 refine FCall.enterL hT hmix [] Tryz.func43 rfl rfl rfl fun hbd => ?_
 (conv => whnf)
 refine LWp.loop hT hmix [] (fun k : Nat => [(5, vI k)]) (fun _ => []) (fun k => k ≤ l.length ∧ Ob.has (l.take k) n = false) (fun k => l.length - k) 0 ⟨Nat.zero_le _, rfl⟩ ?_
 (conv => whnf)
 refine ⟨?_, fun k ⟨hk, hkk⟩ => ?_⟩
 ·(repeat' (first | exact trivial | exact Wk.refl _ | exact ObWk.refl _ | exact rfl | exact ⟨_, rfl⟩ | exact Nat.zero_lt_one | refine And.intro ?_ ?_ | unfold okTo | (unfold okO; conv => whnf) | (unfold okS; conv => whnf) | (unfold SlotOk; conv => whnf) | (unfold ObjOk; conv => whnf) | (unfold okCells; conv => whnf) | (unfold liveTo; conv => whnf) | exact Nat.zero_lt_succ _))
 ·(conv => whnf)
  refine split_intro (fun h => ?_) (fun h => ?_)
  ·have hlt : k < l.length := by simpa using h
   obtain ⟨s, hs⟩ := exI hlt
   (conv => whnf)
   refine ⟨_, ⟨by omega, getMap hs⟩, ?_⟩
   (conv => whnf)
   refine split_intro (fun hc => ?_) (fun hc => ?_)
   ·have hc' : s.name = n := of_decide_eq_true hc
    (conv => whnf)
    exact Wk.bool (Ob.has_iff.2 ⟨s, List.mem_of_getElem? hs, hc'⟩).symm
   ·have hc' : ¬ s.name = n := of_decide_eq_false hc
    (conv => whnf)
    refine ⟨_, add64 (c := ((k + 1 : Nat) : Int)) (by (try simp only []); omega) (by omega), ?_⟩
    (conv => whnf)
    refine ⟨k + 1, ⟨⟨by omega, ?_⟩, by simp only []; omega⟩, ?_⟩
    ·rw [List.take_add_one, hs]
     unfold Ob.has at *
     rw [List.any_append, hkk]; simp [hc']
    ·(repeat' (first | exact trivial | exact Wk.refl _ | exact ObWk.refl _ | exact rfl | exact ⟨_, rfl⟩ | exact Nat.zero_lt_one | refine And.intro ?_ ?_ | unfold okTo | (unfold okO; conv => whnf) | (unfold okS; conv => whnf) | (unfold SlotOk; conv => whnf) | (unfold ObjOk; conv => whnf) | (unfold okCells; conv => whnf) | (unfold liveTo; conv => whnf) | exact Nat.zero_lt_succ _))
  ·have hge : l.length ≤ k := by simpa using h
   rw [List.take_of_length_le hge] at hkk
   (conv => whnf)
   exact Wk.bool hkk.symm
theorem ofew_ (l : List Ob.Sym) (x : List UInt8) : FCall Tryz.prog Gl 35 [oD ⟨l, x⟩] [] (vB (fewO ⟨l, x⟩)) [] := by
 refine FCall.enterL hT hmix [] Tryz.func35 rfl rfl rfl fun hbd => ?_
 (conv => whnf)
 refine LWp.loop hT hmix [] (fun k : Nat => [(3, vI k)]) (fun _ => []) (fun k => k ≤ l.length ∧ k ≤ 61 ∧ (l.take k).all (fun s => decide (s.name.length ≤ 300)) = true) (fun k => l.length - k) 0 ⟨Nat.zero_le _, Nat.zero_le _, rfl⟩ ?_
 (conv => whnf)
 refine ⟨?_, fun k ⟨hk, hk61, hkk⟩ => ?_⟩
 ·(repeat' (first | exact trivial | exact Wk.refl _ | exact ObWk.refl _ | exact rfl | exact ⟨_, rfl⟩ | exact Nat.zero_lt_one | refine And.intro ?_ ?_ | unfold okTo | (unfold okO; conv => whnf) | (unfold okS; conv => whnf) | (unfold SlotOk; conv => whnf) | (unfold ObjOk; conv => whnf) | (unfold okCells; conv => whnf) | (unfold liveTo; conv => whnf) | exact Nat.zero_lt_succ _))
 ·(conv => whnf)
  refine split_intro (fun h1 => ?_) (fun h1 => ?_)
  ·have hlt : k < l.length := by have := of_decide_eq_true h1; simp at this; omega
   obtain ⟨s, hs⟩ := exI hlt
   (conv => whnf)
   refine split_intro (fun h2 => ?_) (fun h2 => ?_)
   ·have h2' : (k : Int) ≤ 60 := of_decide_eq_true h2
    (conv => whnf)
    refine ⟨_, ⟨by omega, getMap hs⟩, ?_⟩
    (conv => whnf)
    refine split_intro (fun h3 => ?_) (fun h3 => ?_)
    ·have h3' : (300 : Int) < (sB s.name).size := of_decide_eq_true h3
     have hsz := sB_sz s.name
     (conv => whnf)
     exact Wk.bool (by
      symm; rw [Bool.eq_false_iff]; intro hc
      have := (fewO_iff.1 hc).2.1 s (List.mem_of_getElem? hs); omega)
    ·have h3' : ¬ (300 : Int) < (sB s.name).size := of_decide_eq_false h3
     have hsz := sB_sz s.name
     (conv => whnf)
     refine ⟨_, add64 (c := ((k + 1 : Nat) : Int)) (by (try simp only []); omega) (by omega), ?_⟩
     (conv => whnf)
     refine ⟨k + 1, ⟨⟨by omega, by omega, ?_⟩, by simp only []; omega⟩, ?_⟩
     ·rw [List.take_add_one, hs, Option.toList_some, List.all_append, hkk]; simp; omega
     ·(repeat' (first | exact trivial | exact Wk.refl _ | exact ObWk.refl _ | exact rfl | exact ⟨_, rfl⟩ | exact Nat.zero_lt_one | refine And.intro ?_ ?_ | unfold okTo | (unfold okO; conv => whnf) | (unfold okS; conv => whnf) | (unfold SlotOk; conv => whnf) | (unfold ObjOk; conv => whnf) | (unfold okCells; conv => whnf) | (unfold liveTo; conv => whnf) | exact Nat.zero_lt_succ _))
   ·have h2' : ¬ (k : Int) ≤ 60 := of_decide_eq_false h2
    (conv => whnf)
    refine split_intro (fun h => absurd h (by (simp; omega))) (fun _ => ?_)
    (conv => whnf)
    exact Wk.bool (by
     symm; rw [Bool.eq_false_iff]; intro hc
     have := (fewO_iff.1 hc).1; simp only at this; omega)
  ·have hge : l.length ≤ k := by have := of_decide_eq_false h1; simp at this; omega
   rw [List.take_of_length_le hge] at hkk
   (conv => whnf)
   refine split_intro (fun h4 => ?_) (fun h4 => ?_)
   ·have h4' : l.length ≤ 60 := by have := of_decide_eq_true h4; simp at this; omega
    (conv => whnf)
    exact Wk.bool (by rw [Bool.eq_iff_iff]; simp only [fewO, hkk, h4', decide_true, Bool.true_and]; simp; omega)
   ·have h4' : ¬ l.length ≤ 60 := by have := of_decide_eq_false h4; simp at this; omega
    (conv => whnf)
    exact Wk.bool (by simp [fewO, h4'])
theorem plainS (s : Ob.Sym) : plainEq Tryz.prog 84 s.enc = true := by
 obtain ⟨a, b, c, d⟩ := s
 kernel_rfl
theorem eqS (a b : Ob.Sym) : eqCellsD a.enc b.enc = some (decide (a.name = b.name) && (a.bind == b.bind && (a.size == b.size && (a.align == b.align && true)))) := rfl
theorem eqS' (a b : Ob.Sym) : (decide (a.name = b.name) && (a.bind == b.bind && (a.size == b.size && (a.align == b.align && true)))) = decide (a = b) := by
 obtain ⟨a1, a2, a3, a4⟩ := a
 obtain ⟨b1, b2, b3, b4⟩ := b
 rw [Bool.eq_iff_iff]; simp
theorem orvalid_ (l : List Ob.Sym) (x : List UInt8) (hl : l.length ≤ 1000000000) (hn : ∀ s ∈ l, s.name.length ≤ 1000000000) : FCall Tryz.prog Gl 36 [oD ⟨l, x⟩] [] (vB (validO l)) [] := by
 refine FCall.enterL hT hmix [] Tryz.func36 rfl rfl rfl fun hbd => ?_
 (conv => whnf)
 refine LWp.loop hT hmix [] (fun k : Nat => [(3, vI k)]) (fun _ => []) (fun k => k ≤ l.length ∧ okL [] (l.take k) = true) (fun k => l.length - k) 0 ⟨Nat.zero_le _, rfl⟩ ?_
 (conv => whnf)
 refine ⟨?_, fun k ⟨hk, hkk⟩ => ?_⟩
 ·(repeat' (first | exact trivial | exact Wk.refl _ | exact ObWk.refl _ | exact rfl | exact ⟨_, rfl⟩ | exact Nat.zero_lt_one | refine And.intro ?_ ?_ | unfold okTo | (unfold okO; conv => whnf) | (unfold okS; conv => whnf) | (unfold SlotOk; conv => whnf) | (unfold ObjOk; conv => whnf) | (unfold okCells; conv => whnf) | (unfold liveTo; conv => whnf) | exact Nat.zero_lt_succ _))
 ·(conv => whnf)
  refine split_intro (fun h => ?_) (fun h => ?_)
  ·have hlt : k < l.length := by have := of_decide_eq_true h; simp at this; omega
   obtain ⟨s, hs⟩ := exI hlt
   (conv => whnf)
   refine ⟨_, ⟨by omega, getMap hs⟩, ?_⟩
   (conv => whnf)
   refine CallLeaf.wa (rsym_ s (hn s (List.mem_of_getElem? hs))) rfl ?_
   (conv => whnf)
   refine split_intro (fun hv => ?_) (fun hv => ?_)
   ·have hv' : valid s = false := by simpa using hv
    (conv => whnf)
    exact Wk.bool (okL_bad hs (by simp [hv'])).symm
   ·have hv' : valid s = true := by simpa using hv
    (conv => whnf)
    refine ⟨_, slTake (f := Ob.Sym.enc) (l := l) (b := k) (r := l.take k) rfl (by omega) (fun _ => rfl) rfl, ?_⟩
    (conv => whnf)
    refine ⟨_, ⟨by omega, getMap hs⟩, ?_⟩
    (conv => whnf)
    refine CallLeaf.wa (rhas_ (l.take k) s.name (by simp; omega)) rfl ?_
    (conv => whnf)
    refine split_intro (fun hh => ?_) (fun hh => ?_)
    ·have hh' : Ob.has (l.take k) s.name = true := hh
     (conv => whnf)
     exact Wk.bool (okL_bad hs (by simp [hh'])).symm
    ·have hh' : Ob.has (l.take k) s.name = false := hh
     (conv => whnf)
     refine ⟨_, add64 (c := ((k + 1 : Nat) : Int)) (by (try simp only []); omega) (by omega), ?_⟩
     (conv => whnf)
     refine ⟨k + 1, ⟨⟨by omega, by rw [okL_step hs, hkk, hv', hh']; rfl⟩, by simp only []; omega⟩, ?_⟩
     (repeat' (first | exact trivial | exact Wk.refl _ | exact ObWk.refl _ | exact rfl | exact ⟨_, rfl⟩ | exact Nat.zero_lt_one | refine And.intro ?_ ?_ | unfold okTo | (unfold okO; conv => whnf) | (unfold okS; conv => whnf) | (unfold SlotOk; conv => whnf) | (unfold ObjOk; conv => whnf) | (unfold okCells; conv => whnf) | (unfold liveTo; conv => whnf) | exact Nat.zero_lt_succ _))
  ·have hge : l.length ≤ k := by have := of_decide_eq_false h; simp at this; omega
   rw [List.take_of_length_le hge] at hkk
   (conv => whnf)
   exact Wk.bool (by simp only [validO, hkk, Bool.true_and]; congr 1; simp; omega)
end Go.Proofs.YtfbmknghfhancaaGreatDoor

namespace Go.Proofs.YtfbmknghfhancaaGreatDoor
open Go Go.AL
set_option maxRecDepth 100000
def putP (l : List Str) (s : Str) (k : Nat) (out : List Str) (done : Bool) : Prop :=
 (if done then out ++ l.drop k else out ++ Wt.put (l.drop k) s) = Wt.put l s
theorem put_len : ∀ (l : List Str) (s : Str), (Wt.put l s).length ≤ l.length + 1
 | [], s => by simp [Wt.put]
 | x :: r, s => by
  have := put_len r s
  simp only [Wt.put]
  split
  ·simp; omega
  ·split <;> simp
theorem put_ (l : List Str) (s : Str) (hb : l.length ≤ 100000) : FCall Tryz.prog Gl 65 [LS l, sD s] [] (LSn (Wt.put l s)) [] := by
 refine FCall.enterL hT hmix [] Tryz.func65 rfl rfl rfl fun hbd => ?_
 (conv => whnf)
 refine LWp.loop hT hmix [] (fun x : Nat × List Str × Bool => [(7, vI x.1), (6, vB x.2.2), (5, .list (.tok 900001) (x.2.1.map eS))]) (fun x => [(900001, .tok (x.2.1.map eS).length 1)]) (fun x => x.1 ≤ l.length ∧ putP l s x.1 x.2.1 x.2.2) (fun x => l.length - x.1) (0, [], false) ⟨Nat.zero_le _, by simp [putP]⟩ ?_
 (conv => whnf)
 refine ⟨?_, fun ⟨k, out, done⟩ ⟨hk, hkk⟩ => ?_⟩
 ·(repeat' (first | exact trivial | exact Wk.refl _ | exact ObWk.refl _ | exact rfl | exact ⟨_, rfl⟩ | exact Nat.zero_lt_one | refine And.intro ?_ ?_ | unfold okTo | (unfold okO; conv => whnf) | (unfold okS; conv => whnf) | (unfold SlotOk; conv => whnf) | (unfold ObjOk; conv => whnf) | (unfold okCells; conv => whnf) | (unfold liveTo; conv => whnf) | exact Nat.zero_lt_succ _))
 ·replace hk : k ≤ l.length := hk
  replace hkk : putP l s k out done := hkk
  have hlen : out.length ≤ l.length + 1 := by
   have h1 := put_len l s
   unfold putP at hkk
   rw [← hkk] at h1
   split at h1 <;> simp at h1 <;> omega
  (conv => whnf)
  refine split_intro (fun h => ?_) (fun h => ?_)
  ·have hlt : k < l.length := by simpa using h
   obtain ⟨x, hx⟩ := exI hlt
   have hd : l.drop k = x :: l.drop (k + 1) := by
    rw [List.drop_eq_getElem_cons hlt]
    rw [List.getElem?_eq_getElem hlt] at hx
    injection hx with hx; rw [hx]
   unfold putP at hkk
   cases done with
   | true =>
    simp only [if_true] at hkk
    (conv => whnf)
    refine ⟨_, ⟨by omega, getMap hx⟩, ?_⟩
    (conv => whnf)
    refine ⟨_, appL (f := eS) (xs := out) (ys := [x]) (zs := out ++ [x]) rfl rfl (fun _ => rfl) rfl (by rw [List.length_append]; show (_ + 1) * 16 ≤ _; (try rw [List.length_append]); (try simp only [List.length_singleton]); omega), ?_⟩
    (conv => whnf)
    refine ⟨_, add64 (c := ((k + 1 : Nat) : Int)) (by omega) (by omega), ?_⟩
    (conv => whnf)
    refine ⟨(k + 1, out ++ [x], true), ⟨⟨by show k + 1 ≤ _; omega, ?_⟩, by show l.length - (k + 1) < l.length - k; omega⟩, ?_⟩
    ·show putP l s (k + 1) (out ++ [x]) true
     unfold putP; rw [← hkk, hd]; simp [putP]
    ·(repeat' (first | exact trivial | exact Wk.refl _ | exact ObWk.refl _ | exact rfl | exact ⟨_, rfl⟩ | exact Nat.zero_lt_one | refine And.intro ?_ ?_ | unfold okTo | (unfold okO; conv => whnf) | (unfold okS; conv => whnf) | (unfold SlotOk; conv => whnf) | (unfold ObjOk; conv => whnf) | (unfold okCells; conv => whnf) | (unfold liveTo; conv => whnf) | exact Nat.zero_lt_succ _))
   | false =>
    simp only [Bool.false_eq_true, if_false] at hkk
    (conv => whnf)
    refine ⟨_, ⟨by omega, getMap hx⟩, ?_⟩
    (conv => whnf)
    refine split_intro (fun h1 => ?_) (fun h1 => ?_)
    ·have h1' : Wt.lt x s = false := by simpa [Wt.lt] using h1
     (conv => whnf)
     refine ⟨_, ⟨by omega, getMap hx⟩, ?_⟩
     (conv => whnf)
     refine split_intro (fun h2 => ?_) (fun h2 => ?_)
     ·have h2' : ¬ x = s := by simpa using h2
      (conv => whnf)
      refine ⟨_, appL (f := eS) (xs := out) (ys := [s]) (zs := out ++ [s]) rfl rfl (fun _ => rfl) rfl (by rw [List.length_append]; show (_ + 1) * 16 ≤ _; (try rw [List.length_append]); (try simp only [List.length_singleton]); omega), ?_⟩
      (conv => whnf)
      refine ⟨_, ⟨by omega, getMap hx⟩, ?_⟩
      (conv => whnf)
      refine ⟨_, appL (f := eS) (xs := out ++ [s]) (ys := [x]) (zs := out ++ [s] ++ [x]) rfl rfl (fun _ => rfl) rfl (by rw [List.length_append]; show (_ + 1) * 16 ≤ _; (try rw [List.length_append]); (try simp only [List.length_singleton]); omega), ?_⟩
      (conv => whnf)
      refine ⟨_, add64 (c := ((k + 1 : Nat) : Int)) (by omega) (by omega), ?_⟩
      (conv => whnf)
      refine ⟨(k + 1, out ++ [s] ++ [x], true), ⟨⟨by show k + 1 ≤ _; omega, ?_⟩, by show l.length - (k + 1) < l.length - k; omega⟩, ?_⟩
      ·show putP l s (k + 1) (out ++ [s] ++ [x]) true
       unfold putP; rw [← hkk, hd]; simp [putP, Wt.put, h1', h2']
      ·(repeat' (first | exact trivial | exact Wk.refl _ | exact ObWk.refl _ | exact rfl | exact ⟨_, rfl⟩ | exact Nat.zero_lt_one | refine And.intro ?_ ?_ | unfold okTo | (unfold okO; conv => whnf) | (unfold okS; conv => whnf) | (unfold SlotOk; conv => whnf) | (unfold ObjOk; conv => whnf) | (unfold okCells; conv => whnf) | (unfold liveTo; conv => whnf) | exact Nat.zero_lt_succ _))
     ·have h2' : x = s := by simpa using h2
      (conv => whnf)
      refine ⟨_, ⟨by omega, getMap hx⟩, ?_⟩
      (conv => whnf)
      refine ⟨_, appL (f := eS) (xs := out) (ys := [x]) (zs := out ++ [x]) rfl rfl (fun _ => rfl) rfl (by rw [List.length_append]; show (_ + 1) * 16 ≤ _; (try rw [List.length_append]); (try simp only [List.length_singleton]); omega), ?_⟩
      (conv => whnf)
      refine ⟨_, add64 (c := ((k + 1 : Nat) : Int)) (by omega) (by omega), ?_⟩
      (conv => whnf)
      refine ⟨(k + 1, out ++ [x], true), ⟨⟨by show k + 1 ≤ _; omega, ?_⟩, by show l.length - (k + 1) < l.length - k; omega⟩, ?_⟩
      ·show putP l s (k + 1) (out ++ [x]) true
       unfold putP; rw [← hkk, hd]; simp [putP, Wt.put, h1', h2', Wt.lt_irr]
      ·(repeat' (first | exact trivial | exact Wk.refl _ | exact ObWk.refl _ | exact rfl | exact ⟨_, rfl⟩ | exact Nat.zero_lt_one | refine And.intro ?_ ?_ | unfold okTo | (unfold okO; conv => whnf) | (unfold okS; conv => whnf) | (unfold SlotOk; conv => whnf) | (unfold ObjOk; conv => whnf) | (unfold okCells; conv => whnf) | (unfold liveTo; conv => whnf) | exact Nat.zero_lt_succ _))
    ·have h1' : Wt.lt x s = true := by simpa [Wt.lt] using h1
     (conv => whnf)
     refine ⟨_, ⟨by omega, getMap hx⟩, ?_⟩
     (conv => whnf)
     refine ⟨_, appL (f := eS) (xs := out) (ys := [x]) (zs := out ++ [x]) rfl rfl (fun _ => rfl) rfl (by rw [List.length_append]; show (_ + 1) * 16 ≤ _; (try rw [List.length_append]); (try simp only [List.length_singleton]); omega), ?_⟩
     (conv => whnf)
     refine ⟨_, add64 (c := ((k + 1 : Nat) : Int)) (by omega) (by omega), ?_⟩
     (conv => whnf)
     refine ⟨(k + 1, out ++ [x], false), ⟨⟨by show k + 1 ≤ _; omega, ?_⟩, by show l.length - (k + 1) < l.length - k; omega⟩, ?_⟩
     ·show putP l s (k + 1) (out ++ [x]) false
      unfold putP; rw [← hkk, hd]; simp [putP, Wt.put, h1']
     ·(repeat' (first | exact trivial | exact Wk.refl _ | exact ObWk.refl _ | exact rfl | exact ⟨_, rfl⟩ | exact Nat.zero_lt_one | refine And.intro ?_ ?_ | unfold okTo | (unfold okO; conv => whnf) | (unfold okS; conv => whnf) | (unfold SlotOk; conv => whnf) | (unfold ObjOk; conv => whnf) | (unfold okCells; conv => whnf) | (unfold liveTo; conv => whnf) | exact Nat.zero_lt_succ _))
  ·have hge : l.length ≤ k := by simpa using h
   unfold putP at hkk
   rw [List.drop_of_length_le hge] at hkk
   cases done with
   | true =>
    simp only [if_true, List.append_nil] at hkk
    subst hkk
    (conv => whnf)
    exact Wk.nat' rfl
   | false =>
    simp only [Bool.false_eq_true, if_false, Wt.put] at hkk
    (conv => whnf)
    refine ⟨_, appL (f := eS) (xs := out) (ys := [s]) (zs := out ++ [s]) rfl rfl (fun _ => rfl) rfl (by rw [List.length_append]; show (_ + 1) * 16 ≤ _; (try rw [List.length_append]); (try simp only [List.length_singleton]); omega), ?_⟩
    (conv => whnf)
    exact Wk.nat' (by rw [hkk])
end Go.Proofs.YtfbmknghfhancaaGreatDoor

namespace Go.Proofs.YtfbmknghfhancaaGreatDoor
open Go Go.AL Go.AL.Bd Go.AL.Tb
set_option maxRecDepth 100000
set_option maxHeartbeats 4000000
theorem right_ (l : List Ob.Obj) : FCall Tryz.prog Gl 8 [LO l] [] (vB (rightO l)) [] := by
 refine FCall.enterL hT hmix [] Tryz.func8 rfl rfl rfl fun hbd => ?_
 have ha := bds_list hbd (.head _)
 (conv => whnf)
 refine split_intro (fun h1 => ?_) (fun h1 => ?_)
 ·have h1' : ¬ l.length ≤ 12 := by have := of_decide_eq_true h1; simp at this; omega
  (conv => whnf)
  exact Wk.bool (by simp [rightO, h1'])
 ·have h1' : l.length ≤ 12 := by have := of_decide_eq_false h1; simp at this; omega
  (conv => whnf)
  refine LWp.loop hT hmix [] (fun k : Nat => [(3, vI k)]) (fun _ => []) (fun k => k ≤ l.length ∧ (l.take k).all (fun o => decide (o.syms.length ≤ 20) && (fewO o && Ob.validO o.syms)) = true) (fun k => l.length - k) 0 ⟨Nat.zero_le _, rfl⟩ ?_
  (conv => whnf)
  refine ⟨?_, fun k ⟨hk, hkk⟩ => ?_⟩
  ·(repeat' (first | exact trivial | exact Wk.refl _ | exact ObWk.refl _ | exact rfl | exact ⟨_, rfl⟩ | exact Nat.zero_lt_one | refine And.intro ?_ ?_ | unfold okTo | (unfold okO; conv => whnf) | (unfold okS; conv => whnf) | (unfold SlotOk; conv => whnf) | (unfold ObjOk; conv => whnf) | (unfold okCells; conv => whnf) | (unfold liveTo; conv => whnf) | exact Nat.zero_lt_succ _))
  ·(conv => whnf)
   refine split_intro (fun h => ?_) (fun h => ?_)
   ·have hlt : k < l.length := by have := of_decide_eq_true h; simp at this; omega
    obtain ⟨o, ho⟩ := exI hlt
    have hbad : (decide (o.syms.length ≤ 20) && (fewO o && Ob.validO o.syms)) = false → rightO l = false := fun hb => by
     rw [Bool.eq_false_iff]; intro hr
     have := (rightO_iff.1 hr).2 o (List.mem_of_getElem? ho)
     rw [this.2.1, this.2.2] at hb
     simp [this.1] at hb
    have hgood : (decide (o.syms.length ≤ 20) && (fewO o && Ob.validO o.syms)) = true → (l.take (k + 1)).all (fun o => decide (o.syms.length ≤ 20) && (fewO o && Ob.validO o.syms)) = true := fun hb => by
     rw [List.take_add_one, ho, Option.toList_some, List.all_append, hkk, List.all_cons, hb]; rfl
    (conv => whnf)
    refine ⟨_, ⟨by omega, getMap ho⟩, ?_⟩
    (conv => whnf)
    refine split_intro (fun h2 => ?_) (fun h2 => ?_)
    ·have h2' : ¬ o.syms.length ≤ 20 := by have := of_decide_eq_true h2; simp at this; omega
     (conv => whnf)
     exact Wk.bool (hbad (by simp [h2'])).symm
    ·have h2' : o.syms.length ≤ 20 := by have := of_decide_eq_false h2; simp at this; omega
     (conv => whnf)
     refine ⟨_, ⟨by omega, getMap ho⟩, ?_⟩
     (conv => whnf)
     refine CallLeaf.wa (ofew_ o.syms o.body) rfl ?_
     (conv => whnf)
     refine split_intro (fun h3 => ?_) (fun h3 => ?_)
     ·have h3' : fewO o = false := by simpa using h3
      (conv => whnf)
      exact Wk.bool (hbad (by simp [h3'])).symm
     ·have h3' : fewO o = true := not_f h3
      have hfn := (fewO_iff.1 h3').2.1
      (conv => whnf)
      refine ⟨_, ⟨by omega, getMap ho⟩, ?_⟩
      (conv => whnf)
      refine CallLeaf.wa (orvalid_ o.syms o.body (by omega) (fun s hs => by have := hfn s hs; omega)) rfl ?_
      (conv => whnf)
      refine split_intro (fun h4 => ?_) (fun h4 => ?_)
      ·have h4' : Ob.validO o.syms = false := by simpa using h4
       (conv => whnf)
       exact Wk.bool (hbad (by simp [h4'])).symm
      ·have h4' : Ob.validO o.syms = true := not_f h4
       (conv => whnf)
       refine ⟨_, add64 (c := ((k + 1 : Nat) : Int)) (by (try simp only []); omega) (by omega), ?_⟩
       (conv => whnf)
       refine ⟨k + 1, ⟨⟨by omega, hgood (by simp [h2', h3', h4'])⟩, by simp only []; omega⟩, ?_⟩
       (repeat' (first | exact trivial | exact Wk.refl _ | exact ObWk.refl _ | exact rfl | exact ⟨_, rfl⟩ | exact Nat.zero_lt_one | refine And.intro ?_ ?_ | unfold okTo | (unfold okO; conv => whnf) | (unfold okS; conv => whnf) | (unfold SlotOk; conv => whnf) | (unfold ObjOk; conv => whnf) | (unfold okCells; conv => whnf) | (unfold liveTo; conv => whnf) | exact Nat.zero_lt_succ _))
   ·have hge : l.length ≤ k := by have := of_decide_eq_false h; simp at this; omega
    rw [List.take_of_length_le hge] at hkk
    (conv => whnf)
    exact Wk.bool (by simp only [rightO, hkk, h1', decide_true, Bool.true_and])
theorem rstate_ (l : List Ob.Obj) (n : Str) (ok : OkL l) : FCall Tryz.prog Gl 52 [LO l, sD n] [] (.agg (all (Sy.of (Us l) n)).encN) [] := by
 have hlen := ok.len
 have hfin : refOf (Sy.of (Us l) n) = all (Sy.of (Us l) n) := refOf_of ok.use n
 have hR := refOf_ (Sy.of (Us l) n) (by have := ok.le; have := Sy.of_le (Us l) n; omega)
 rw [hfin] at hR
 refine FCall.enterL hT hmix [] Tryz.func52 rfl rfl rfl fun hbd => ?_
 (conv => whnf)
 refine LWp.loop hT hmix [] (fun i : Nat => [(6, vI i), (5, .list (.tok 403) ((Sy.of (Us (l.take i)) n).map Use.enc))]) (fun i => [(403, .tok ((Sy.of (Us (l.take i)) n).map Use.enc).length 5)]) (fun i => i ≤ l.length) (fun i => l.length - i) 0 (Nat.zero_le _) ?_
 (conv => whnf)
 refine ⟨?_, fun i hi => ?_⟩
 ·(repeat' (first | exact trivial | exact Wk.refl _ | exact ObWk.refl _ | exact rfl | exact ⟨_, rfl⟩ | exact Nat.zero_lt_one | refine And.intro ?_ ?_ | unfold okTo | (unfold okO; conv => whnf) | (unfold okS; conv => whnf) | (unfold SlotOk; conv => whnf) | (unfold ObjOk; conv => whnf) | (unfold okCells; conv => whnf) | (unfold liveTo; conv => whnf) | exact Nat.zero_lt_succ _))
 ·(conv => whnf)
  refine split_intro (fun h => ?_) (fun h => ?_)
  ·have hlt : i < l.length := by have := of_decide_eq_true h; simp at this; omega
   obtain ⟨o, ho⟩ := exI hlt
   have hol := ok.syms o (List.mem_of_getElem? ho)
   (conv => whnf)
   refine LWp.loop hT hmix [] (fun k : Nat => [(7, vI k), (5, .list (.tok 403) ((ofX l n i (o.syms.take k)).map Use.enc))]) (fun k => [(403, .tok ((ofX l n i (o.syms.take k)).map Use.enc).length 5)]) (fun k => k ≤ o.syms.length) (fun k => o.syms.length - k) 0 (Nat.zero_le _) ?_
   (conv => whnf)
   refine ⟨?_, fun k hk => ?_⟩
   ·have e : ofX l n i (o.syms.take 0) = Sy.of (Us (l.take i)) n := by simp [ofX, Sy.uses]
    dsimp only
    rw [e]
    (repeat' (first | exact trivial | exact Wk.refl _ | exact ObWk.refl _ | exact rfl | exact ⟨_, rfl⟩ | exact Nat.zero_lt_one | refine And.intro ?_ ?_ | unfold okTo | (unfold okO; conv => whnf) | (unfold okS; conv => whnf) | (unfold SlotOk; conv => whnf) | (unfold ObjOk; conv => whnf) | (unfold okCells; conv => whnf) | (unfold liveTo; conv => whnf) | exact Nat.zero_lt_succ _))
   ·have hle := of_take_le l i (k + 1) o ok ho n
    (conv => whnf)
    refine ⟨_, ⟨by omega, getMap ho⟩, ?_⟩
    (conv => whnf)
    refine split_intro (fun h1 => ?_) (fun h1 => ?_)
    ·have hlt1 : k < o.syms.length := by have := of_decide_eq_true h1; simp at this; omega
     obtain ⟨s, hs⟩ := exI hlt1
     have hst : ofX l n i (o.syms.take (k + 1)) = ofX l n i (o.syms.take k) ++ if s.name = n then [⟨Sy.toB s, (i : Int)⟩] else [] := uses_step (Us (l.take i)) hs n (i := i)
     (conv => whnf)
     refine ⟨_, ⟨by omega, getMap ho⟩, ?_⟩
     (conv => whnf)
     refine ⟨_, ⟨by omega, getMap hs⟩, ?_⟩
     (conv => whnf)
     refine split_intro (fun h2 => ?_) (fun h2 => ?_)
     ·have h2' : s.name = n := of_decide_eq_true h2
      rw [if_pos h2'] at hst
      (conv => whnf)
      refine ⟨_, ⟨by omega, getMap ho⟩, ?_⟩
      (conv => whnf)
      refine ⟨_, ⟨by omega, getMap hs⟩, ?_⟩
      (conv => whnf)
      refine ⟨_, appL (f := Use.enc) (xs := ofX l n i (o.syms.take k)) (ys := [⟨Sy.toB s, (i : Int)⟩]) (zs := ofX l n i (o.syms.take (k + 1))) rfl rfl (fun _ => rfl) hst.symm (by show _ * 48 ≤ _; simp only [ofX]; omega), ?_⟩
      (conv => whnf)
      refine ⟨_, add64 (c := ((k + 1 : Nat) : Int)) (by (try simp only []); omega) (by omega), ?_⟩
      (conv => whnf)
      refine ⟨k + 1, ⟨by omega, by simp only []; omega⟩, ?_⟩
      (repeat' (first | exact trivial | exact Wk.refl _ | exact ObWk.refl _ | exact rfl | exact ⟨_, rfl⟩ | exact Nat.zero_lt_one | refine And.intro ?_ ?_ | unfold okTo | (unfold okO; conv => whnf) | (unfold okS; conv => whnf) | (unfold SlotOk; conv => whnf) | (unfold ObjOk; conv => whnf) | (unfold okCells; conv => whnf) | (unfold liveTo; conv => whnf) | exact Nat.zero_lt_succ _))
     ·have h2' : ¬ s.name = n := of_decide_eq_false h2
      rw [if_neg h2', List.append_nil] at hst
      (conv => whnf)
      refine ⟨_, add64 (c := ((k + 1 : Nat) : Int)) (by (try simp only []); omega) (by omega), ?_⟩
      (conv => whnf)
      refine ⟨k + 1, ⟨by omega, by simp only []; omega⟩, ?_⟩
      dsimp only
      rw [hst]
      (repeat' (first | exact trivial | exact Wk.refl _ | exact ObWk.refl _ | exact rfl | exact ⟨_, rfl⟩ | exact Nat.zero_lt_one | refine And.intro ?_ ?_ | unfold okTo | (unfold okO; conv => whnf) | (unfold okS; conv => whnf) | (unfold SlotOk; conv => whnf) | (unfold ObjOk; conv => whnf) | (unfold okCells; conv => whnf) | (unfold liveTo; conv => whnf) | exact Nat.zero_lt_succ _))
    ·have hge : o.syms.length ≤ k := by have := of_decide_eq_false h1; simp at this; omega
     have e : ofX l n i (o.syms.take k) = Sy.of (Us (l.take (i + 1))) n := by
      rw [List.take_of_length_le hge, Us_take ho]
     (conv => whnf)
     refine ⟨_, add64 (c := ((i + 1 : Nat) : Int)) (by (try simp only []); omega) (by omega), ?_⟩
     (conv => whnf)
     refine ⟨i + 1, ⟨by omega, by simp only []; omega⟩, ?_⟩
     dsimp only
     rw [← e]
     (repeat' (first | exact trivial | exact Wk.refl _ | exact ObWk.refl _ | exact rfl | exact ⟨_, rfl⟩ | exact Nat.zero_lt_one | refine And.intro ?_ ?_ | unfold okTo | (unfold okO; conv => whnf) | (unfold okS; conv => whnf) | (unfold SlotOk; conv => whnf) | (unfold ObjOk; conv => whnf) | (unfold okCells; conv => whnf) | (unfold liveTo; conv => whnf) | exact Nat.zero_lt_succ _))
  ·have hge : l.length ≤ i := by have := of_decide_eq_false h; simp at this; omega
   rw [show Us l = Us (l.take i) by rw [List.take_of_length_le hge]] at hR
   (conv => whnf)
   refine CallLeaf.wa (hR) rfl ?_
   (conv => whnf)
   exact Wk.of_eq (by rw [List.take_of_length_le hge]; rfl)
theorem rnames_ (l : List Ob.Obj) (ok : OkL l) : FCall Tryz.prog Gl 51 [LO l] [] (LSn (Sy.names (Us l))) [] := by
 have hlen := ok.len
 refine FCall.enterL hT hmix [] Tryz.func51 rfl rfl rfl fun hbd => ?_
 (conv => whnf)
 refine LWp.loop hT hmix [] (fun i : Nat => [(4, vI i), (3, LSn (Sy.names (Us (l.take i))))]) (fun i => []) (fun i => i ≤ l.length) (fun i => l.length - i) 0 (Nat.zero_le _) ?_
 (conv => whnf)
 refine ⟨?_, fun i hi => ?_⟩
 ·(repeat' (first | exact trivial | exact Wk.refl _ | exact ObWk.refl _ | exact rfl | exact ⟨_, rfl⟩ | exact Nat.zero_lt_one | refine And.intro ?_ ?_ | unfold okTo | (unfold okO; conv => whnf) | (unfold okS; conv => whnf) | (unfold SlotOk; conv => whnf) | (unfold ObjOk; conv => whnf) | (unfold okCells; conv => whnf) | (unfold liveTo; conv => whnf) | exact Nat.zero_lt_succ _))
  exact Wk.natN rfl
 ·(conv => whnf)
  refine split_intro (fun h => ?_) (fun h => ?_)
  ·have hlt : i < l.length := by have := of_decide_eq_true h; simp at this; omega
   obtain ⟨o, ho⟩ := exI hlt
   have hol := ok.syms o (List.mem_of_getElem? ho)
   (conv => whnf)
   refine LWp.loop hT hmix [] (fun k : Nat => [(5, vI k), (3, LSn (nmX l i (o.syms.take k)))]) (fun k => []) (fun k => k ≤ o.syms.length) (fun k => o.syms.length - k) 0 (Nat.zero_le _) ?_
   (conv => whnf)
   refine ⟨?_, fun k hk => ?_⟩
   ·have e : nmX l i (o.syms.take 0) = Sy.names (Us (l.take i)) := by simp [nmX, Sy.uses]
    dsimp only
    rw [e]
    (repeat' (first | exact trivial | exact Wk.refl _ | exact ObWk.refl _ | exact rfl | exact ⟨_, rfl⟩ | exact Nat.zero_lt_one | refine And.intro ?_ ?_ | unfold okTo | (unfold okO; conv => whnf) | (unfold okS; conv => whnf) | (unfold SlotOk; conv => whnf) | (unfold ObjOk; conv => whnf) | (unfold okCells; conv => whnf) | (unfold liveTo; conv => whnf) | exact Nat.zero_lt_succ _))
   ·have hle := namesX_le l i k o ok ho
    (conv => whnf)
    refine ⟨_, ⟨by omega, getMap ho⟩, ?_⟩
    (conv => whnf)
    refine split_intro (fun h1 => ?_) (fun h1 => ?_)
    ·have hlt1 : k < o.syms.length := by have := of_decide_eq_true h1; simp at this; omega
     obtain ⟨s, hs⟩ := exI hlt1
     have hst : nmX l i (o.syms.take (k + 1)) = Wt.put (nmX l i (o.syms.take k)) s.name := names_step (Us (l.take i)) hs (i := i)
     (conv => whnf)
     refine ⟨_, ⟨by omega, getMap ho⟩, ?_⟩
     (conv => whnf)
     refine ⟨_, ⟨by omega, getMap hs⟩, ?_⟩
     (conv => whnf)
     refine CallLeaf.wa (put_ (nmX l i (o.syms.take k)) s.name (by simp only [nmX]; omega)) rfl ?_
     (conv => whnf)
     refine ⟨_, add64 (c := ((k + 1 : Nat) : Int)) (by (try simp only []); omega) (by omega), ?_⟩
     (conv => whnf)
     refine ⟨k + 1, ⟨by omega, by simp only []; omega⟩, ?_⟩
     dsimp only
     rw [hst]
     (repeat' (first | exact trivial | exact Wk.refl _ | exact ObWk.refl _ | exact rfl | exact ⟨_, rfl⟩ | exact Nat.zero_lt_one | refine And.intro ?_ ?_ | unfold okTo | (unfold okO; conv => whnf) | (unfold okS; conv => whnf) | (unfold SlotOk; conv => whnf) | (unfold ObjOk; conv => whnf) | (unfold okCells; conv => whnf) | (unfold liveTo; conv => whnf) | exact Nat.zero_lt_succ _))
    ·have hge : o.syms.length ≤ k := by have := of_decide_eq_false h1; simp at this; omega
     have e : nmX l i (o.syms.take k) = Sy.names (Us (l.take (i + 1))) := by
      rw [List.take_of_length_le hge, Us_take ho]
     (conv => whnf)
     refine ⟨_, add64 (c := ((i + 1 : Nat) : Int)) (by (try simp only []); omega) (by omega), ?_⟩
     (conv => whnf)
     refine ⟨i + 1, ⟨by omega, by simp only []; omega⟩, ?_⟩
     dsimp only
     rw [← e]
     (repeat' (first | exact trivial | exact Wk.refl _ | exact ObWk.refl _ | exact rfl | exact ⟨_, rfl⟩ | exact Nat.zero_lt_one | refine And.intro ?_ ?_ | unfold okTo | (unfold okO; conv => whnf) | (unfold okS; conv => whnf) | (unfold SlotOk; conv => whnf) | (unfold ObjOk; conv => whnf) | (unfold okCells; conv => whnf) | (unfold liveTo; conv => whnf) | exact Nat.zero_lt_succ _))
  ·have hge : l.length ≤ i := by have := of_decide_eq_false h; simp at this; omega
   (conv => whnf)
   exact Wk.of_eq (by rw [List.take_of_length_le hge]; rfl)
theorem rwanted_ (l : List Ob.Obj) (ok : OkL l) : FCall Tryz.prog Gl 28 [LO l] [] (LSn (wantedL (Us l))) [] := by
 have hlen := ok.len
 have hnl := names_len (Us l)
 have hul := ok.le
 refine FCall.enterL hT hmix [] Tryz.func28 rfl rfl rfl fun hbd => ?_
 (conv => whnf)
 refine CallLeaf.wa (rnames_ l ok) rfl ?_
 (conv => whnf)
 refine LWp.loop hT hmix [] (fun k : Nat => [(5, vI k), (3, .list (.tok 403) ((wanX l k).map eS))]) (fun k => [(403, .tok ((wanX l k).map eS).length 1)]) (fun k => k ≤ (Sy.names (Us l)).length) (fun k => (Sy.names (Us l)).length - k) 0 (Nat.zero_le _) ?_
 (conv => whnf)
 refine ⟨?_, fun k hk => ?_⟩
 ·(repeat' (first | exact trivial | exact Wk.refl _ | exact ObWk.refl _ | exact rfl | exact ⟨_, rfl⟩ | exact Nat.zero_lt_one | refine And.intro ?_ ?_ | unfold okTo | (unfold okO; conv => whnf) | (unfold okS; conv => whnf) | (unfold SlotOk; conv => whnf) | (unfold ObjOk; conv => whnf) | (unfold okCells; conv => whnf) | (unfold liveTo; conv => whnf) | exact Nat.zero_lt_succ _))
 ·(conv => whnf)
  refine split_intro (fun h => ?_) (fun h => ?_)
  ·have hlt : k < (Sy.names (Us l)).length := by have := of_decide_eq_true h; simp at this; omega
   obtain ⟨s, hs⟩ := exI hlt
   have hst : wanX l (k + 1) = wanX l k ++ if keepW (Us l) s = true then [s] else [] := filter_step hs
   have hwl : (wanX l (k + 1)).length ≤ 50000 := by
    have := List.length_filter_le (keepW (Us l)) ((Sy.names (Us l)).take (k + 1))
    rw [List.length_take] at this
    simp only [wanX]; omega
   have hkw : keepW (Us l) s = wanted (all (Sy.of (Us l) s)) := rfl
   (conv => whnf)
   refine ⟨_, ⟨by omega, getMap hs⟩, ?_⟩
   (conv => whnf)
   refine CallLeaf.wa (rstate_ l s ok) rfl ?_
   (conv => whnf)
   refine split_intro (fun h1 => ?_) (fun h1 => ?_)
   ·have h1' : (all (Sy.of (Us l) s)).sref = true := h1
    (conv => whnf)
    refine split_intro (fun h2 => ?_) (fun h2 => ?_)
    ·have h2' : (all (Sy.of (Us l) s)).defd = false := by simpa using h2
     have hk' : keepW (Us l) s = true := by rw [hkw]; simp [wanted, h1', h2']
     rw [if_pos hk'] at hst
     (conv => whnf)
     refine ⟨_, ⟨by omega, getMap hs⟩, ?_⟩
     (conv => whnf)
     refine ⟨_, appL (f := eS) (xs := wanX l k) (ys := [s]) (zs := wanX l (k + 1)) rfl rfl (fun _ => rfl) hst.symm (by show _ * 16 ≤ _; omega), ?_⟩
     (conv => whnf)
     refine ⟨_, add64 (c := ((k + 1 : Nat) : Int)) (by (try simp only []); omega) (by omega), ?_⟩
     (conv => whnf)
     refine ⟨k + 1, ⟨by omega, by simp only []; omega⟩, ?_⟩
     (repeat' (first | exact trivial | exact Wk.refl _ | exact ObWk.refl _ | exact rfl | exact ⟨_, rfl⟩ | exact Nat.zero_lt_one | refine And.intro ?_ ?_ | unfold okTo | (unfold okO; conv => whnf) | (unfold okS; conv => whnf) | (unfold SlotOk; conv => whnf) | (unfold ObjOk; conv => whnf) | (unfold okCells; conv => whnf) | (unfold liveTo; conv => whnf) | exact Nat.zero_lt_succ _))
    ·have h2' : (all (Sy.of (Us l) s)).defd = true := not_f h2
     have hk' : ¬ keepW (Us l) s = true := by rw [hkw]; simp [wanted, h1', h2']
     rw [if_neg hk', List.append_nil] at hst
     (conv => whnf)
     refine ⟨_, add64 (c := ((k + 1 : Nat) : Int)) (by (try simp only []); omega) (by omega), ?_⟩
     (conv => whnf)
     refine ⟨k + 1, ⟨by omega, by simp only []; omega⟩, ?_⟩
     dsimp only
     rw [hst]
     (repeat' (first | exact trivial | exact Wk.refl _ | exact ObWk.refl _ | exact rfl | exact ⟨_, rfl⟩ | exact Nat.zero_lt_one | refine And.intro ?_ ?_ | unfold okTo | (unfold okO; conv => whnf) | (unfold okS; conv => whnf) | (unfold SlotOk; conv => whnf) | (unfold ObjOk; conv => whnf) | (unfold okCells; conv => whnf) | (unfold liveTo; conv => whnf) | exact Nat.zero_lt_succ _))
   ·have h1' : (all (Sy.of (Us l) s)).sref = false := h1
    have hk' : ¬ keepW (Us l) s = true := by rw [hkw]; simp [wanted, h1']
    rw [if_neg hk', List.append_nil] at hst
    (conv => whnf)
    refine ⟨_, add64 (c := ((k + 1 : Nat) : Int)) (by (try simp only []); omega) (by omega), ?_⟩
    (conv => whnf)
    refine ⟨k + 1, ⟨by omega, by simp only []; omega⟩, ?_⟩
    dsimp only
    rw [hst]
    (repeat' (first | exact trivial | exact Wk.refl _ | exact ObWk.refl _ | exact rfl | exact ⟨_, rfl⟩ | exact Nat.zero_lt_one | refine And.intro ?_ ?_ | unfold okTo | (unfold okO; conv => whnf) | (unfold okS; conv => whnf) | (unfold SlotOk; conv => whnf) | (unfold ObjOk; conv => whnf) | (unfold okCells; conv => whnf) | (unfold liveTo; conv => whnf) | exact Nat.zero_lt_succ _))
  ·have hge : (Sy.names (Us l)).length ≤ k := by have := of_decide_eq_false h; simp at this; omega
   (conv => whnf)
   refine Wk.nat' ?_
   simp only [wanX]
   rw [List.take_of_length_le hge]; rfl
theorem rres_ (l : List Ob.Obj) (ok : OkL l) : FCall Tryz.prog Gl 31 [LO l] [] (LRn (resL (Us l))) [] := by
 have hlen := ok.len
 have hnl := names_len (Us l)
 have hul := ok.le
 refine FCall.enterL hT hmix [] Tryz.func31 rfl rfl rfl fun hbd => ?_
 (conv => whnf)
 refine CallLeaf.wa (rnames_ l ok) rfl ?_
 (conv => whnf)
 refine LWp.loop hT hmix [] (fun k : Nat => [(5, vI k), (3, .list (.tok 403) ((resX l k).map Res.enc))]) (fun k => [(403, .tok ((resX l k).map Res.enc).length 5)]) (fun k => k ≤ (Sy.names (Us l)).length) (fun k => (Sy.names (Us l)).length - k) 0 (Nat.zero_le _) ?_
 (conv => whnf)
 refine ⟨?_, fun k hk => ?_⟩
 ·(repeat' (first | exact trivial | exact Wk.refl _ | exact ObWk.refl _ | exact rfl | exact ⟨_, rfl⟩ | exact Nat.zero_lt_one | refine And.intro ?_ ?_ | unfold okTo | (unfold okO; conv => whnf) | (unfold okS; conv => whnf) | (unfold SlotOk; conv => whnf) | (unfold ObjOk; conv => whnf) | (unfold okCells; conv => whnf) | (unfold liveTo; conv => whnf) | exact Nat.zero_lt_succ _))
 ·(conv => whnf)
  refine split_intro (fun h => ?_) (fun h => ?_)
  ·have hlt : k < (Sy.names (Us l)).length := by have := of_decide_eq_true h; simp at this; omega
   obtain ⟨s, hs⟩ := exI hlt
   (conv => whnf)
   refine ⟨_, ⟨by omega, getMap hs⟩, ?_⟩
   (conv => whnf)
   refine CallLeaf.wa (rstate_ l s ok) rfl ?_
   (conv => whnf)
   refine ⟨_, ⟨by omega, getMap hs⟩, ?_⟩
   (conv => whnf)
   refine split_intro (fun h1 => ?_) (fun h1 => ?_)
   ·have h1' : (all (Sy.of (Us l) s)).bind = 0 := eq_of_beq h1
    (conv => whnf)
    refine split_intro (fun h2 => ?_) (fun h2 => ?_)
    ·have h2' : (all (Sy.of (Us l) s)).sref = true := h2
     (conv => whnf)
     refine ⟨_, appL (f := Res.enc) (xs := resX l k) (ys := [⟨s, 4, (all (Sy.of (Us l) s)).size, (all (Sy.of (Us l) s)).align, (all (Sy.of (Us l) s)).unit⟩]) (zs := resX l (k + 1)) rfl rfl (fun _ => rfl) (resL_snoc (U := Us l) (f := fun n => resv (all (Sy.of (Us l) n)) n) _ hs (by simp [resv, h1', h2'])) (by simp only [resX]; rw [List.length_map, List.length_take]; show _ * 48 ≤ _; omega), ?_⟩
     (conv => whnf)
     refine ⟨_, add64 (c := ((k + 1 : Nat) : Int)) (by (try simp only []); omega) (by omega), ?_⟩
     (conv => whnf)
     (refine ⟨k + 1, ⟨by omega, by simp only []; omega⟩, ?_⟩; (repeat' (first | exact trivial | exact Wk.refl _ | exact ObWk.refl _ | exact rfl | exact ⟨_, rfl⟩ | exact Nat.zero_lt_one | refine And.intro ?_ ?_ | unfold okTo | (unfold okO; conv => whnf) | (unfold okS; conv => whnf) | (unfold SlotOk; conv => whnf) | (unfold ObjOk; conv => whnf) | (unfold okCells; conv => whnf) | (unfold liveTo; conv => whnf) | exact Nat.zero_lt_succ _)))
    ·have h2' : (all (Sy.of (Us l) s)).sref = false := h2
     (conv => whnf)
     refine ⟨_, appL (f := Res.enc) (xs := resX l k) (ys := [⟨s, 5, (all (Sy.of (Us l) s)).size, (all (Sy.of (Us l) s)).align, (all (Sy.of (Us l) s)).unit⟩]) (zs := resX l (k + 1)) rfl rfl (fun _ => rfl) (resL_snoc (U := Us l) (f := fun n => resv (all (Sy.of (Us l) n)) n) _ hs (by simp [resv, h1', h2'])) (by simp only [resX]; rw [List.length_map, List.length_take]; show _ * 48 ≤ _; omega), ?_⟩
     (conv => whnf)
     refine ⟨_, add64 (c := ((k + 1 : Nat) : Int)) (by (try simp only []); omega) (by omega), ?_⟩
     (conv => whnf)
     (refine ⟨k + 1, ⟨by omega, by simp only []; omega⟩, ?_⟩; (repeat' (first | exact trivial | exact Wk.refl _ | exact ObWk.refl _ | exact rfl | exact ⟨_, rfl⟩ | exact Nat.zero_lt_one | refine And.intro ?_ ?_ | unfold okTo | (unfold okO; conv => whnf) | (unfold okS; conv => whnf) | (unfold SlotOk; conv => whnf) | (unfold ObjOk; conv => whnf) | (unfold okCells; conv => whnf) | (unfold liveTo; conv => whnf) | exact Nat.zero_lt_succ _)))
   ·have h1' : ¬ (all (Sy.of (Us l) s)).bind = 0 := by simpa using h1
    (conv => whnf)
    refine ⟨_, appL (f := Res.enc) (xs := resX l k) (ys := [⟨s, (all (Sy.of (Us l) s)).bind, (all (Sy.of (Us l) s)).size, (all (Sy.of (Us l) s)).align, (all (Sy.of (Us l) s)).unit⟩]) (zs := resX l (k + 1)) rfl rfl (fun _ => rfl) (resL_snoc (U := Us l) (f := fun n => resv (all (Sy.of (Us l) n)) n) _ hs (by simp [resv, h1'])) (by simp only [resX]; rw [List.length_map, List.length_take]; show _ * 48 ≤ _; omega), ?_⟩
    (conv => whnf)
    refine ⟨_, add64 (c := ((k + 1 : Nat) : Int)) (by (try simp only []); omega) (by omega), ?_⟩
    (conv => whnf)
    (refine ⟨k + 1, ⟨by omega, by simp only []; omega⟩, ?_⟩; (repeat' (first | exact trivial | exact Wk.refl _ | exact ObWk.refl _ | exact rfl | exact ⟨_, rfl⟩ | exact Nat.zero_lt_one | refine And.intro ?_ ?_ | unfold okTo | (unfold okO; conv => whnf) | (unfold okS; conv => whnf) | (unfold SlotOk; conv => whnf) | (unfold ObjOk; conv => whnf) | (unfold okCells; conv => whnf) | (unfold liveTo; conv => whnf) | exact Nat.zero_lt_succ _)))
  ·have hge : (Sy.names (Us l)).length ≤ k := by have := of_decide_eq_false h; simp at this; omega
   (conv => whnf)
   refine Wk.nat' ?_
   simp only [resX]
   rw [List.take_of_length_le hge]; rfl
theorem plainR (s : Res) : plainEq Tryz.prog 111 s.enc = true := by
 obtain ⟨a, b, c, d, e⟩ := s
 kernel_rfl
theorem sameRes_ (a b : List Res) : FCall Tryz.prog Gl 29 [LR a, LR b] [] (vB (decide (a = b))) [] := by
 refine FCall.enterL hT hmix [] Tryz.func29 rfl rfl rfl fun hbd => ?_
 have ha := bds_list hbd (.head _)
 (conv => whnf)
 refine split_intro (fun h => ?_) (fun h => ?_)
 ·have h' := len_ne h
  simp at h'
  (conv => whnf)
  exact Wk.bool (by symm; simp; intro e; subst e; exact h' rfl)
 ·have hab : a.length = b.length := by have := len_eq h; simpa using this
  (conv => whnf)
  refine LWp.loop hT hmix [] (fun k : Nat => [(5, vI k)]) (fun _ => []) (fun k => k ≤ a.length ∧ a.take k = b.take k) (fun k => a.length - k) 0 ⟨Nat.zero_le _, rfl⟩ ?_
  (conv => whnf)
  refine ⟨?_, fun k ⟨hk, hkk⟩ => ?_⟩
  ·(repeat' (first | exact trivial | exact Wk.refl _ | exact ObWk.refl _ | exact rfl | exact ⟨_, rfl⟩ | exact Nat.zero_lt_one | refine And.intro ?_ ?_ | unfold okTo | (unfold okO; conv => whnf) | (unfold okS; conv => whnf) | (unfold SlotOk; conv => whnf) | (unfold ObjOk; conv => whnf) | (unfold okCells; conv => whnf) | (unfold liveTo; conv => whnf) | exact Nat.zero_lt_succ _))
  ·(conv => whnf)
   refine split_intro (fun h => ?_) (fun h => ?_)
   ·have hlt : k < a.length := by simpa using h
    obtain ⟨x, hx⟩ := exI hlt
    obtain ⟨y, hy⟩ := exI (hab ▸ hlt : k < b.length)
    (conv => whnf)
    refine ⟨_, ⟨by omega, getMap hx⟩, ?_⟩
    (conv => whnf)
    refine ⟨_, ⟨by omega, getMap hy⟩, ?_⟩
    (conv => whnf)
    refine ⟨plainR x, ?_⟩
    (conv => whnf)
    refine split_intro (fun hxy => ?_) (fun hxy => ?_)
    ·have hne : decide (x = y) = false := by rw [← eqR]; exact not_t hxy
     (conv => whnf)
     exact Wk.bool (by
      symm; rw [decide_eq_false_iff_not]; intro e; subst e
      rw [hx] at hy; injection hy with hy; subst hy; simp at hne)
    ·have he : x = y := of_decide_eq_true (by rw [← eqR]; exact not_f hxy)
     (conv => whnf)
     refine ⟨_, add64 (c := ((k + 1 : Nat) : Int)) (by (try simp only []); omega) (by omega), ?_⟩
     (conv => whnf)
     refine ⟨k + 1, ⟨⟨by omega, ?_⟩, by simp only []; omega⟩, ?_⟩
     ·subst he
      rw [List.take_add_one, List.take_add_one, hx, hy, hkk]
     ·(repeat' (first | exact trivial | exact Wk.refl _ | exact ObWk.refl _ | exact rfl | exact ⟨_, rfl⟩ | exact Nat.zero_lt_one | refine And.intro ?_ ?_ | unfold okTo | (unfold okO; conv => whnf) | (unfold okS; conv => whnf) | (unfold SlotOk; conv => whnf) | (unfold ObjOk; conv => whnf) | (unfold okCells; conv => whnf) | (unfold liveTo; conv => whnf) | exact Nat.zero_lt_succ _))
   ·(conv => whnf)
    exact Wk.bool (by
     have hge : a.length ≤ k := by simpa using h
     symm; simp
     rwa [List.take_of_length_le hge, List.take_of_length_le (by omega)] at hkk)
theorem texts_ (a b : List Str) : FCall Tryz.prog Gl 26 [LS a, LS b] [] (vB (decide (a = b))) [] := by
 refine FCall.enterL hT hmix [] Tryz.func26 rfl rfl rfl fun hbd => ?_
 have ha := bds_list hbd (.head _)
 (conv => whnf)
 refine split_intro (fun h => ?_) (fun h => ?_)
 ·have h' := len_ne h
  simp at h'
  (conv => whnf)
  exact Wk.bool (by symm; simp; intro e; subst e; exact h' rfl)
 ·have hab : a.length = b.length := by have := len_eq h; simpa using this
  (conv => whnf)
  refine LWp.loop hT hmix [] (fun k : Nat => [(5, vI k)]) (fun _ => []) (fun k => k ≤ a.length ∧ a.take k = b.take k) (fun k => a.length - k) 0 ⟨Nat.zero_le _, rfl⟩ ?_
  (conv => whnf)
  refine ⟨?_, fun k ⟨hk, hkk⟩ => ?_⟩
  ·(repeat' (first | exact trivial | exact Wk.refl _ | exact ObWk.refl _ | exact rfl | exact ⟨_, rfl⟩ | exact Nat.zero_lt_one | refine And.intro ?_ ?_ | unfold okTo | (unfold okO; conv => whnf) | (unfold okS; conv => whnf) | (unfold SlotOk; conv => whnf) | (unfold ObjOk; conv => whnf) | (unfold okCells; conv => whnf) | (unfold liveTo; conv => whnf) | exact Nat.zero_lt_succ _))
  ·(conv => whnf)
   refine split_intro (fun h => ?_) (fun h => ?_)
   ·have hlt : k < a.length := by simpa using h
    obtain ⟨x, hx⟩ := exI hlt
    obtain ⟨y, hy⟩ := exI (hab ▸ hlt : k < b.length)
    (conv => whnf)
    refine ⟨_, ⟨by omega, getMap hx⟩, ?_⟩
    (conv => whnf)
    refine ⟨_, ⟨by omega, getMap hy⟩, ?_⟩
    (conv => whnf)
    refine split_intro (fun hxy => ?_) (fun hxy => ?_)
    ·(conv => whnf)
     exact Wk.bool (by
      symm; simp; intro e; subst e
      simp [hx] at hy; simp [hy] at hxy)
    ·(conv => whnf)
     refine ⟨_, add64 (c := ((k + 1 : Nat) : Int)) (by (try simp only []); omega) (by omega), ?_⟩
     (conv => whnf)
     refine ⟨k + 1, ⟨⟨by omega, ?_⟩, by simp only []; omega⟩, ?_⟩
     ·have : x = y := by simpa using hxy
      subst this
      rw [List.take_add_one, List.take_add_one, hx, hy, hkk]
     ·(repeat' (first | exact trivial | exact Wk.refl _ | exact ObWk.refl _ | exact rfl | exact ⟨_, rfl⟩ | exact Nat.zero_lt_one | refine And.intro ?_ ?_ | unfold okTo | (unfold okO; conv => whnf) | (unfold okS; conv => whnf) | (unfold SlotOk; conv => whnf) | (unfold ObjOk; conv => whnf) | (unfold okCells; conv => whnf) | (unfold liveTo; conv => whnf) | exact Nat.zero_lt_succ _))
   ·(conv => whnf)
    exact Wk.bool (by
     have hge : a.length ≤ k := by simpa using h
     symm; simp
     rwa [List.take_of_length_le hge, List.take_of_length_le (by omega)] at hkk)
end Go.Proofs.YtfbmknghfhancaaGreatDoor
