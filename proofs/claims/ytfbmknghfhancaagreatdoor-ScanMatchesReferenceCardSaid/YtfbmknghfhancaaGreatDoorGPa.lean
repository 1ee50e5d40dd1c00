/- The states of symbols, in plain Lean. No condition. -/
import Derived.Test.YtfbmknghfhancaaGreatDoorGAc
import Derived.Lib.Bytealg
import Derived.Sort.Walk0
set_option linter.unusedVariables false
set_option linter.unusedSimpArgs false
namespace Go.AL.Bd
open Go Go.AL
structure Sym where
  name : Str
  bind : Int
  size : Int
  align : Int
structure Use where
  sym : Sym
  unit : Int
structure State where
  bind : Int
  size : Int
  align : Int
  unit : Int
  defd : Bool
  sref : Bool
  wref : Bool
  strongs : List Int
deriving DecidableEq
abbrev Sym.enc (x : Sym) : List D := [sD x.name, vI x.bind, vI x.size, vI x.align]
abbrev Use.enc (x : Use) : List D := [sD x.sym.name, vI x.sym.bind, vI x.sym.size, vI x.sym.align, vI x.unit]
abbrev State.enc (s : State) : List D := [vI s.bind, vI s.size, vI s.align, vI s.unit, vB s.defd, vB s.sref, vB s.wref, LI s.strongs]
abbrev State.encN (s : State) : List D := [vI s.bind, vI s.size, vI s.align, vI s.unit, vB s.defd, vB s.sref, vB s.wref, LIn s.strongs]
abbrev LU (l : List Use) : D := .list .any (l.map Use.enc)

def empty : State := ⟨0, 0, 0, -1, false, false, false, []⟩
def strength (b : Int) : Int := if b = 1 then 3 else if b = 3 then 2 else if b = 2 then 1 else 0
def one (x : Sym) (u : Int) : State :=
  if x.bind = 4 then { empty with sref := true }
  else if x.bind = 5 then { empty with wref := true }
  else ⟨x.bind, x.size, if x.bind = 3 then x.align else 0, u, !decide (x.bind = 3), false, false, if x.bind = 1 then [u] else []⟩
def join (a b : State) : State :=
  ⟨if strength b.bind > strength a.bind then b.bind else a.bind,
   if strength b.bind > strength a.bind then b.size else if a.bind = 3 ∧ b.bind = 3 then max a.size b.size else a.size,
   if strength b.bind > strength a.bind then b.align else if a.bind = 3 ∧ b.bind = 3 then max a.align b.align else a.align,
   if strength b.bind > strength a.bind then b.unit else a.unit,
   a.defd || b.defd, a.sref || b.sref, a.wref || b.wref, a.strongs ++ b.strongs⟩
def merge (s : State) (x : Sym) (u : Int) : State := join s (one x u)
def all (l : List Use) : State := l.foldl (fun s x => merge s x.sym x.unit) empty
def wanted (s : State) : Bool := s.sref && !s.defd
def undefined (s : State) : Bool := s.sref && decide (s.bind = 0)
def duplicate (s : State) : Bool := decide (1 < s.strongs.length)

def okUse (x : Use) : Bool := decide (1 ≤ x.sym.bind) && decide (x.sym.bind ≤ 5) && decide (0 ≤ x.sym.size) && decide (0 ≤ x.sym.align) && decide (0 ≤ x.unit)
def right (l : List Use) : Bool := decide (l.length ≤ 50) && l.all okUse

def first : List Use → Int → Int
  | [], _ => -1
  | x :: l, b => if x.sym.bind = b then 0 else (let r := first l b; if r < 0 then -1 else r + 1)
theorem first_neg : ∀ {l : List Use} {b : Int}, (∀ (j : Nat) x, l[j]? = some x → x.sym.bind ≠ b) → first l b = -1
  | [], b, h => rfl
  | x :: l, b, h => by
    have h0 := h 0 x rfl
    have ih := first_neg (l := l) (b := b) (fun j y hy => h (j + 1) y (by simpa using hy))
    simp [first, h0, ih]
theorem first_eq : ∀ {l : List Use} {b : Int} {k : Nat} {x : Use}, l[k]? = some x → x.sym.bind = b → (∀ j y, j < k → l[j]? = some y → y.sym.bind ≠ b) → first l b = k
  | [], b, k, x, h, _, _ => by simp at h
  | y :: l, b, 0, x, h, hb, _ => by simp at h; subst h; simp [first, hb]
  | y :: l, b, k + 1, x, h, hb, hk => by
    have h0 := hk 0 y (by omega) rfl
    have ih := first_eq (l := l) (b := b) (k := k) (x := x) (by simpa using h) hb (fun j z hj hz => hk (j + 1) z (by omega) (by simpa using hz))
    have h2 : ¬ ((k : Int) < 0) := by omega
    simp [first, h0, ih, h2]

def maxOf (f : Use → Int) (l : List Use) : Int := l.foldl (fun m x => if x.sym.bind = 3 then max m (f x) else m) 0
def strongsOf (l : List Use) : List Int := (l.filter fun x => decide (x.sym.bind = 1)).map (·.unit)
def useAt (l : List Use) (i : Int) : Use := l.getD i.toNat ⟨⟨[], 0, 0, 0⟩, 0⟩
def refOf (l : List Use) : State :=
  if 0 ≤ first l 1 then ⟨1, (useAt l (first l 1)).sym.size, 0, (useAt l (first l 1)).unit, true, decide (0 ≤ first l 4), decide (0 ≤ first l 5), strongsOf l⟩
  else if 0 ≤ first l 3 then ⟨3, maxOf (·.sym.size) l, maxOf (·.sym.align) l, (useAt l (first l 3)).unit, decide (0 ≤ first l 2), decide (0 ≤ first l 4), decide (0 ≤ first l 5), strongsOf l⟩
  else if 0 ≤ first l 2 then ⟨2, (useAt l (first l 2)).sym.size, maxOf (·.sym.align) l, (useAt l (first l 2)).unit, true, decide (0 ≤ first l 4), decide (0 ≤ first l 5), strongsOf l⟩
  else ⟨0, maxOf (·.sym.size) l, maxOf (·.sym.align) l, -1, false, decide (0 ≤ first l 4), decide (0 ≤ first l 5), strongsOf l⟩

theorem first_spec (l : List Use) (b : Int) : (first l b = -1 ∧ ∀ x ∈ l, x.sym.bind ≠ b) ∨ (∃ k : Nat, first l b = k ∧ k < l.length) := by
  induction l with
  | nil => exact .inl ⟨rfl, by simp⟩
  | cons x l ih =>
    by_cases h : x.sym.bind = b
    · exact .inr ⟨0, by simp [first, h], by simp⟩
    · rcases ih with ⟨h1, h2⟩ | ⟨k, h1, h2⟩
      · refine .inl ⟨by simp [first, h, h1], fun y hy => ?_⟩
        rcases List.mem_cons.1 hy with rfl | hy
        · exact h
        · exact h2 y hy
      · exact .inr ⟨k + 1, by have : ¬ ((k : Int) < 0) := by omega
                              simp [first, h, h1, this], by simp; omega⟩

theorem useAt_get {l : List Use} {b : Int} (h : 0 ≤ first l b) : l[(first l b).toNat]? = some (useAt l (first l b)) := by
  rcases first_spec l b with ⟨h1, _⟩ | ⟨k, h1, h2⟩
  · omega
  · rw [h1]; simp [useAt, h2]
theorem maxOf_snoc (f : Use → Int) (l : List Use) (x : Use) : maxOf f (l ++ [x]) = if x.sym.bind = 3 then max (maxOf f l) (f x) else maxOf f l := by simp [maxOf]
theorem strongsOf_snoc (l : List Use) (x : Use) : strongsOf (l ++ [x]) = strongsOf l ++ if x.sym.bind = 1 then [x.unit] else [] := by
  simp only [strongsOf, List.filter_append, List.map_append]
  by_cases h : x.sym.bind = 1 <;> simp [h]
theorem strongsOf_le (l : List Use) : (strongsOf l).length ≤ l.length := by
  simp only [strongsOf, List.length_map]; exact List.length_filter_le _ _
theorem take_snoc {α : Type} {l : List α} {k : Nat} {x : α} (h : l[k]? = some x) : l.take (k + 1) = l.take k ++ [x] := by
  rw [List.take_add_one, h]; rfl
theorem strongs_same {l : List Use} {k : Nat} {x : Use} (hx : l[k]? = some x) (h : x.sym.bind ≠ 1) : strongsOf (l.take (k + 1)) = strongsOf (l.take k) := by
  rw [take_snoc hx, strongsOf_snoc]; simp [h]
theorem max_same {l : List Use} {k : Nat} {x : Use} (f : Use → Int) (hx : l[k]? = some x) (h : x.sym.bind ≠ 3) : maxOf f (l.take (k + 1)) = maxOf f (l.take k) := by
  rw [take_snoc hx, maxOf_snoc]; simp [h]
theorem max_more {l : List Use} {k : Nat} {x : Use} (f : Use → Int) (hx : l[k]? = some x) (h : x.sym.bind = 3) : maxOf f (l.take (k + 1)) = max (maxOf f (l.take k)) (f x) := by
  rw [take_snoc hx, maxOf_snoc]; simp [h]
abbrev mid (l : List Use) (k : Nat) : List D :=
  [vI 0, vI (if first l 1 < 0 then maxOf (·.sym.size) (l.take k) else 0), vI (if first l 1 < 0 then maxOf (·.sym.align) (l.take k) else 0), vI (-1),
   vB (decide (0 ≤ first l 1) || decide (0 ≤ first l 2)), vB (decide (0 ≤ first l 4)), vB (decide (0 ≤ first l 5)), .list (.tok 900000) ((strongsOf (l.take k)).map eI)]
theorem one_bind {x : Sym} (u : Int) (h : 1 ≤ x.bind ∧ x.bind ≤ 5) : 0 ≤ (one x u).bind ∧ (one x u).bind < 6 := by
  unfold one; split
  · simp [empty]
  · split
    · simp [empty]
    · simp only []; omega
theorem one_strongs (x : Sym) (u : Int) : (one x u).strongs.length ≤ 1 := by
  unfold one; split
  · simp [empty]
  · split
    · simp [empty]
    · simp only []; split <;> simp
theorem join_bind {a b : State} (ha : 0 ≤ a.bind ∧ a.bind < 6) (hb : 0 ≤ b.bind ∧ b.bind < 6) : 0 ≤ (join a b).bind ∧ (join a b).bind < 6 := by
  simp only [join]; split <;> assumption
theorem merge_bind {s : State} {x : Sym} (u : Int) (hs : 0 ≤ s.bind ∧ s.bind < 6) (h : 1 ≤ x.bind ∧ x.bind ≤ 5) : 0 ≤ (merge s x u).bind ∧ (merge s x u).bind < 6 := join_bind hs (one_bind u h)
theorem merge_strongs (s : State) (x : Sym) (u : Int) : (merge s x u).strongs.length ≤ s.strongs.length + 1 := by
  have := one_strongs x u
  simp only [merge, join, List.length_append]; omega
theorem okUse_bind {x : Use} (h : okUse x = true) : 1 ≤ x.sym.bind ∧ x.sym.bind ≤ 5 := by
  simp [okUse] at h; omega
theorem all_snoc (l : List Use) (x : Use) : all (l ++ [x]) = merge (all l) x.sym x.unit := by simp [all]
theorem foldl_bind : ∀ (l : List Use) (s : State), (0 ≤ s.bind ∧ s.bind < 6) → (∀ x ∈ l, 1 ≤ x.sym.bind ∧ x.sym.bind ≤ 5) →
    (0 ≤ (l.foldl (fun s x => merge s x.sym x.unit) s).bind ∧ (l.foldl (fun s x => merge s x.sym x.unit) s).bind < 6) ∧ (l.foldl (fun s x => merge s x.sym x.unit) s).strongs.length ≤ s.strongs.length + l.length
  | [], s, hs, _ => by simpa using hs
  | x :: l, s, hs, h => by
    have ih := foldl_bind l (merge s x.sym x.unit) (merge_bind _ hs (h x (by simp))) (fun y hy => h y (by simp [hy]))
    have := merge_strongs s x.sym x.unit
    simp only [List.foldl_cons, List.length_cons]
    exact ⟨ih.1, by omega⟩
theorem all_bind {l : List Use} (h : ∀ x ∈ l, 1 ≤ x.sym.bind ∧ x.sym.bind ≤ 5) : (0 ≤ (all l).bind ∧ (all l).bind < 6) ∧ (all l).strongs.length ≤ l.length := by
  have := foldl_bind l empty (by simp [empty]) h
  simpa [all, empty] using this
theorem right_iff {l : List Use} : right l = true ↔ l.length ≤ 50 ∧ ∀ x ∈ l, okUse x = true := by simp [right]
theorem right_bind {l : List Use} (h : right l = true) : ∀ x ∈ l, 1 ≤ x.sym.bind ∧ x.sym.bind ≤ 5 := fun x hx => okUse_bind ((right_iff.1 h).2 x hx)
end Go.AL.Bd

namespace Go.AL.Ap
open Go Go.AL
abbrev Ent := Str × Int
abbrev Ent.enc (e : Ent) : List D := [sD e.1, vI e.2]
def fits (e : Ent) : Bool := decide (e.1 ≠ []) && (decide ((0 : UInt8) ∉ e.1) && (decide (0 ≤ e.2) && decide (e.2 ≤ 4294967295)))
theorem fits_iff {e : Ent} : fits e = true ↔ e.1 ≠ [] ∧ (0 : UInt8) ∉ e.1 ∧ 0 ≤ e.2 ∧ e.2 ≤ 4294967295 := by simp [fits]
def W4 (n : Nat) : List UInt8 := [UInt8.ofNat (n / 16777216), UInt8.ofNat (n / 65536), UInt8.ofNat (n / 256), UInt8.ofNat n]
def num (b : List UInt8) : Nat := (((b.getD 0 0).toNat * 256 + (b.getD 1 0).toNat) * 256 + (b.getD 2 0).toNat) * 256 + (b.getD 3 0).toNat
theorem num_W4 {n : Nat} (h : n < 4294967296) (r : List UInt8) : num (W4 n ++ r) = n := by
 simp [num, W4]
 omega
theorem num_lt (b : List UInt8) : num b < 4294967296 := by
 unfold num
 have h0 := (b.getD 0 0).toNat_lt
 have h1 := (b.getD 1 0).toNat_lt
 have h2 := (b.getD 2 0).toNat_lt
 have h3 := (b.getD 3 0).toNat_lt
 omega
theorem W4_num : ∀ {b : List UInt8}, 4 ≤ b.length → W4 (num b) = b.take 4
 | a :: b :: c :: d :: r, _ => by
  have h0 := a.toNat_lt
  have h1 := b.toNat_lt
  have h2 := c.toNat_lt
  have h3 := d.toNat_lt
  simp only [W4, num, List.getD_cons_zero, List.getD_cons_succ, List.take_succ_cons, List.take_zero, List.cons.injEq, and_true]
  refine ⟨?_, ?_, ?_, ?_⟩ <;> (apply UInt8.toNat_inj.1; simp only [UInt8.toNat_ofNat']; omega)
theorem W4_len (n : Nat) : (W4 n).length = 4 := rfl
def offs (l : List Ent) : List UInt8 := l.flatMap fun e => W4 e.2.toNat
def nams (l : List Ent) : List UInt8 := l.flatMap fun e => e.1 ++ [0]
def encB (l : List Ent) : List UInt8 := W4 l.length ++ offs l ++ nams l
theorem offs_len : ∀ l : List Ent, (offs l).length = 4 * l.length
 | [] => rfl
 | e :: l => by
  have ih := offs_len l
  simp only [offs, List.flatMap_cons, List.length_append, W4_len, List.length_cons] at ih ⊢
  omega

def isz (x : UInt8) : Bool := x != 0
def next (r : List UInt8) : Option (Str × List UInt8) :=
 if r.takeWhile isz = [] ∨ r.dropWhile isz = [] then none else some (r.takeWhile isz, (r.dropWhile isz).tail)
theorem isz_of {s : Str} (h : (0 : UInt8) ∉ s) : ∀ x ∈ s, isz x = true := fun x hx => by
 simp only [isz, bne_iff_ne]; intro e; subst e; exact h hx
theorem tw_app {s : Str} (h : ∀ x ∈ s, isz x = true) (r : List UInt8) : (s ++ r).takeWhile isz = s ++ r.takeWhile isz := by
 rw [List.takeWhile_append_of_pos h]
theorem dw_app {s : Str} (h : ∀ x ∈ s, isz x = true) (r : List UInt8) : (s ++ r).dropWhile isz = r.dropWhile isz := by
 rw [List.dropWhile_append_of_pos h]
theorem next_name {s : Str} (h1 : s ≠ []) (h2 : (0 : UInt8) ∉ s) (r : List UInt8) : next (s ++ 0 :: r) = some (s, r) := by
 unfold next
 rw [tw_app (isz_of h2), dw_app (isz_of h2)]
 simp [isz, h1]
theorem next_end {s : Str} (h2 : (0 : UInt8) ∉ s) : next s = none := by
 unfold next
 have := dw_app (isz_of h2) []
 simp only [List.append_nil, List.dropWhile_nil] at this
 rw [this]; simp
theorem next_some {r r' : List UInt8} {s : Str} (h : next r = some (s, r')) : r = s ++ 0 :: r' ∧ s ≠ [] ∧ (0 : UInt8) ∉ s := by
 unfold next at h
 split at h
 ·simp at h
 ·rename_i hn
  simp only [not_or] at hn
  simp only [Option.some.injEq, Prod.mk.injEq] at h
  obtain ⟨e1, e2⟩ := h
  subst e1
  refine ⟨?_, hn.1, fun h => ?_⟩
  ·have e := (List.takeWhile_append_dropWhile (p := isz) (l := r)).symm
   cases hd : r.dropWhile isz with
   | nil => exact absurd hd hn.2
   | cons x t =>
    rw [hd] at e e2
    have hx : x = 0 := by
     have := List.head?_dropWhile_not isz r
     rw [hd] at this
     simpa [isz] using this
    subst hx
    simp only [List.tail_cons] at e2
    subst e2
    exact e
  ·have := List.all_takeWhile (p := isz) (l := r)
   have := List.all_eq_true.1 this 0 h
   simp [isz] at this
theorem ib_spec : ∀ r : List UInt8, Lib.indexByte r 0 = if r.dropWhile isz = [] then -1 else ((r.takeWhile isz).length : Int)
 | [] => rfl
 | x :: r => by
  have ih := ib_spec r
  simp only [Lib.indexByte]
  by_cases hx : x = 0
  ·subst hx; simp [isz]
  ·have h1 : isz x = true := by simp [isz, hx]
   have h2 : (x == 0) = false := by simp [hx]
   rw [h2, ih]
   simp only [List.dropWhile_cons, List.takeWhile_cons, h1, if_true, Bool.false_eq_true, if_false]
   split
   ·rfl
   ·rename_i hne
    have : (((r.takeWhile isz).length : Int) == -1) = false := by simp
    rw [this]; simp
theorem take_tw (r : List UInt8) : r.take (r.takeWhile isz).length = r.takeWhile isz := (List.prefix_iff_eq_take.1 (List.takeWhile_prefix isz)).symm
theorem drop_tw (r : List UInt8) : r.drop ((r.takeWhile isz).length + 1) = (r.dropWhile isz).tail := by
 have e := List.takeWhile_append_dropWhile (p := isz) (l := r)
 have h : ∀ a b : List UInt8, (a ++ b).drop (a.length + 1) = b.tail := fun a b => by
  rw [← List.drop_drop, List.drop_left, List.drop_one]
 have := h (r.takeWhile isz) (r.dropWhile isz)
 rwa [e] at this

def decL (t : List UInt8) : Nat → Nat → List UInt8 → Option (List Ent)
 | _, 0, r => if r = [] then some [] else none
 | i, k + 1, r => match next r with
  | none => none
  | some (s, r') => (decL t (i + 1) k r').map fun q => (s, (num (t.drop (4 * i)) : Int)) :: q
def dec (b : List UInt8) : Option (List Ent) :=
 if b.length < 4 then none else if (b.length - 4) / 4 < num b then none else decL (b.drop 4) 0 (num b) ((b.drop 4).drop (4 * num b))

theorem decL_names (t : List UInt8) : ∀ (l : List Ent) (i : Nat) (x : List UInt8), l.all fits = true → (∀ j e, l[j]? = some e → (num (t.drop (4 * (i + j))) : Int) = e.2) →
  decL t i l.length (nams l ++ x) = if x = [] then some l else none
 | [], i, x, _, _ => by
  simp only [List.length_nil, decL, nams, List.flatMap_nil, List.nil_append]
 | e :: l, i, x, hf, ho => by
  simp only [List.all_cons, Bool.and_eq_true] at hf
  obtain ⟨h1, h2, h3, h4⟩ := fits_iff.1 hf.1
  have ih := decL_names t l (i + 1) x hf.2 (fun j e' he => by
   have := ho (j + 1) e' (by simpa using he)
   rw [← this]; congr 3; omega)
  have e0 := ho 0 e (by simp)
  simp only [Nat.add_zero] at e0
  have : nams (e :: l) ++ x = e.1 ++ 0 :: (nams l ++ x) := by simp [nams]
  rw [this]
  simp only [List.length_cons, decL, next_name h1 h2, ih, e0]
  split <;> simp
theorem decL_cut (t : List UInt8) : ∀ (l : List Ent) (i : Nat), l ≠ [] → l.all fits = true → decL t i l.length (nams l).dropLast = none
 | [], i, h, _ => absurd rfl h
 | e :: l, i, _, hf => by
  simp only [List.all_cons, Bool.and_eq_true] at hf
  obtain ⟨h1, h2, h3, h4⟩ := fits_iff.1 hf.1
  cases l with
  | nil =>
   have : (nams [e]).dropLast = e.1 := by simp [nams]
   rw [this]
   simp only [List.length_cons, decL, next_end h2]
  | cons e' l =>
   have ih := decL_cut t (e' :: l) (i + 1) (by simp) hf.2
   have : (nams (e :: e' :: l)).dropLast = e.1 ++ 0 :: (nams (e' :: l)).dropLast := by
    have hne : nams (e' :: l) ≠ [] := by simp [nams]
    have e1 : nams (e :: e' :: l) = (e.1 ++ [0]) ++ nams (e' :: l) := by simp [nams]
    rw [e1, List.dropLast_append_of_ne_nil hne]
    simp
   rw [this]
   simp only [List.length_cons, decL, next_name h1 h2] at ih ⊢
   simp [ih]
theorem decL_some (t : List UInt8) : ∀ (k i : Nat) (r : List UInt8) (q : List Ent), decL t i k r = some q →
  r = nams q ∧ q.length = k ∧ q.all fits = true ∧ ∀ j e, q[j]? = some e → e.2 = (num (t.drop (4 * (i + j))) : Int)
 | 0, i, r, q, h => by
  simp only [decL] at h
  split at h
  ·rename_i hr
   simp at h; subst h; subst hr
   exact ⟨rfl, rfl, rfl, fun j e he => by simp at he⟩
  ·simp at h
 | k + 1, i, r, q, h => by
  simp only [decL] at h
  split at h
  ·simp at h
  ·rename_i s r' hn
   simp only [Option.map_eq_some_iff] at h
   obtain ⟨q', hq', rfl⟩ := h
   obtain ⟨h1, h2, h3, h4⟩ := decL_some t k (i + 1) r' q' hq'
   obtain ⟨n1, n2, n3⟩ := next_some hn
   refine ⟨?_, by simp [h2], ?_, fun j e he => ?_⟩
   ·rw [n1, h1]; simp [nams]
   ·simp only [List.all_cons, h3, Bool.and_true]
    refine fits_iff.2 ⟨n2, n3, by simp, ?_⟩
    have := num_lt (t.drop (4 * i))
    simp; omega
   ·cases j with
    | zero => simp at he; subst he; simp
    | succ j =>
     rw [h4 j e (by simpa using he)]
     congr 3; omega

theorem drop_offs : ∀ (l : List Ent) (j : Nat) (e : Ent) (r : List UInt8), l[j]? = some e → (offs l ++ r).drop (4 * j) = W4 e.2.toNat ++ (offs (l.drop (j + 1)) ++ r)
 | [], j, e, r, h => by simp at h
 | x :: l, 0, e, r, h => by simp at h; subst h; simp [offs]
 | x :: l, j + 1, e, r, h => by
  have ih := drop_offs l j e r (by simpa using h)
  have : offs (x :: l) ++ r = W4 x.2.toNat ++ (offs l ++ r) := by simp [offs]
  rw [this]
  have e1 : 4 * (j + 1) = 4 + 4 * j := by omega
  rw [e1, ← List.drop_drop, List.drop_left' (W4_len _), ih]
  simp
theorem encB_parts {l : List Ent} (hl : l.length < 4294967296) (x : List UInt8) : num (encB l ++ x) = l.length ∧ (encB l ++ x).drop 4 = offs l ++ (nams l ++ x) ∧ ((encB l ++ x).drop 4).drop (4 * l.length) = nams l ++ x := by
 have e : encB l ++ x = W4 l.length ++ (offs l ++ (nams l ++ x)) := by simp [encB]
 rw [e]
 refine ⟨num_W4 hl _, List.drop_left' (W4_len _), ?_⟩
 rw [List.drop_left' (W4_len _), List.drop_left' (offs_len l)]
theorem encB_len (l : List Ent) : (encB l).length = 4 + 4 * l.length + (nams l).length := by
 simp [encB, W4_len, offs_len]; omega
theorem dec_encB {l : List Ent} (hl : l.length < 4294967296) (hf : l.all fits = true) (x : List UInt8) : dec (encB l ++ x) = if x = [] then some l else none := by
 obtain ⟨h1, h2, h3⟩ := encB_parts hl x
 unfold dec
 have hlen := encB_len l
 rw [h1, h3, h2, if_neg (by simp; omega), if_neg (by simp; omega)]
 refine decL_names _ l 0 x hf fun j e he => ?_
 rw [Nat.zero_add, drop_offs l j e _ he]
 have hfe := fits_iff.1 (List.all_eq_true.1 hf e (List.mem_of_getElem? he))
 rw [num_W4 (by omega)]
 omega
theorem dec_cut {l : List Ent} (hl : l.length < 4294967296) (hf : l.all fits = true) : dec (encB l).dropLast = none := by
 unfold dec
 have hlen := encB_len l
 cases l with
 | nil => simp [encB, W4, offs, nams]
 | cons e l =>
  have hne : nams (e :: l) ≠ [] := by simp [nams]
  have hpos : 0 < (nams (e :: l)).length := List.length_pos_iff.2 hne
  have e0 : (encB (e :: l)).dropLast = W4 (e :: l).length ++ (offs (e :: l) ++ (nams (e :: l)).dropLast) := by
   have : encB (e :: l) = (W4 (e :: l).length ++ offs (e :: l)) ++ nams (e :: l) := rfl
   rw [this, List.dropLast_append_of_ne_nil hne]
   simp
  rw [if_neg (by simp; omega)]
  split
  ·rfl
  ·rw [e0, num_W4 hl, List.drop_left' (W4_len _), List.drop_left' (offs_len _)]
   exact decL_cut _ _ 0 (by simp) hf
theorem take_offs (t : List UInt8) : ∀ (q : List Ent) (i : Nat), 4 * (i + q.length) ≤ t.length → (∀ j e, q[j]? = some e → e.2 = (num (t.drop (4 * (i + j))) : Int)) → offs q = (t.drop (4 * i)).take (4 * q.length)
 | [], i, _, _ => by simp [offs]
 | e :: q, i, hl, ho => by
  have ih := take_offs t q (i + 1) (by simp at hl; omega) (fun j e' he => by
   rw [ho (j + 1) e' (by simpa using he)]; congr 3; omega)
  have e0 := ho 0 e (by simp)
  simp only [Nat.add_zero] at e0
  have : offs (e :: q) = W4 e.2.toNat ++ offs q := by simp [offs]
  rw [this, ih, e0, Int.toNat_natCast, W4_num (by simp at hl ⊢; omega)]
  have e1 : 4 * (e :: q).length = 4 + 4 * q.length := by simp; omega
  have e2 : 4 * (i + 1) = 4 * i + 4 := by omega
  rw [e1, e2, ← List.drop_drop, List.take_add]
theorem enc_dec {b : List UInt8} {q : List Ent} (h : dec b = some q) : encB q = b ∧ q.all fits = true ∧ 4 * q.length + 4 ≤ b.length := by
 unfold dec at h
 split at h
 ·simp at h
 ·rename_i h4
  split at h
  ·simp at h
  ·rename_i hn
   obtain ⟨h1, h2, h3, h5⟩ := decL_some _ _ _ _ _ h
   have hlen : 4 * (0 + q.length) ≤ (b.drop 4).length := by simp; omega
   refine ⟨?_, h3, by simp at hlen; omega⟩
   have ho := take_offs (b.drop 4) q 0 hlen h5
   simp only [Nat.mul_zero, List.drop_zero] at ho
   unfold encB
   rw [← h1, ho, h2, W4_num (by omega)]
   rw [List.append_assoc, List.take_append_drop, List.take_append_drop]
end Go.AL.Ap

namespace Go.AL.Ob
open Go Go.AL Go.AL.Ap
structure Sym where
 name : Str
 bind : Int
 size : Int
 align : Int
deriving DecidableEq
abbrev Sym.enc (s : Sym) : List D := [sD s.name, vI s.bind, vI s.size, vI s.align]
structure Obj where
 syms : List Sym
 body : List UInt8
deriving DecidableEq
def pows : List Int := [1, 2, 4, 8, 16, 32, 64, 128, 256, 512, 1024, 2048, 4096, 8192, 16384, 32768, 65536]
def power (n : Int) : Bool := decide (n ∈ pows)
theorem band {k n : Nat} (h1 : 2 ^ k < n) (h2 : n < 2 ^ (k + 1)) : n &&& (n - 1) ≠ 0 := by
 have t1 : n.testBit k = true := Nat.testBit_of_two_pow_le_and_two_pow_add_one_gt (by omega) (by omega)
 have t2 : (n - 1).testBit k = true := Nat.testBit_of_two_pow_le_and_two_pow_add_one_gt (by omega) (by omega)
 intro e
 have := congrArg (fun x => Nat.testBit x k) e
 simp [t1, t2] at this
theorem power_nat (n : Nat) : power (n : Int) = decide (n = 1 ∨ n = 2 ∨ n = 4 ∨ n = 8 ∨ n = 16 ∨ n = 32 ∨ n = 64 ∨ n = 128 ∨ n = 256 ∨ n = 512 ∨ n = 1024 ∨ n = 2048 ∨ n = 4096 ∨ n = 8192 ∨ n = 16384 ∨ n = 32768 ∨ n = 65536) := by
 unfold power
 congr 1
 simp only [pows, List.mem_cons, List.not_mem_nil, or_false, eq_iff_iff]
 omega
theorem pow_and {n : Nat} (h1 : 1 ≤ n) (h2 : n ≤ 65536) : power (n : Int) = decide ((n &&& (n - 1)) = 0) := by
 rw [power_nat]
 by_cases hp : n = 1 ∨ n = 2 ∨ n = 4 ∨ n = 8 ∨ n = 16 ∨ n = 32 ∨ n = 64 ∨ n = 128 ∨ n = 256 ∨ n = 512 ∨ n = 1024 ∨ n = 2048 ∨ n = 4096 ∨ n = 8192 ∨ n = 16384 ∨ n = 32768 ∨ n = 65536
 ·rw [decide_eq_true hp]
  rcases hp with rfl | rfl | rfl | rfl | rfl | rfl | rfl | rfl | rfl | rfl | rfl | rfl | rfl | rfl | rfl | rfl | rfl <;> rfl
 ·rw [decide_eq_false hp]
  symm
  rw [decide_eq_false_iff_not]
  simp only [not_or] at hp
  have key : ∃ k, k ≤ 15 ∧ 2 ^ k < n ∧ n < 2 ^ (k + 1) := by
   by_cases c1 : n < 4
   ·exact ⟨1, by omega, by omega, by omega⟩
   by_cases c2 : n < 8
   ·exact ⟨2, by omega, by omega, by omega⟩
   by_cases c3 : n < 16
   ·exact ⟨3, by omega, by omega, by omega⟩
   by_cases c4 : n < 32
   ·exact ⟨4, by omega, by omega, by omega⟩
   by_cases c5 : n < 64
   ·exact ⟨5, by omega, by omega, by omega⟩
   by_cases c6 : n < 128
   ·exact ⟨6, by omega, by omega, by omega⟩
   by_cases c7 : n < 256
   ·exact ⟨7, by omega, by omega, by omega⟩
   by_cases c8 : n < 512
   ·exact ⟨8, by omega, by omega, by omega⟩
   by_cases c9 : n < 1024
   ·exact ⟨9, by omega, by omega, by omega⟩
   by_cases c10 : n < 2048
   ·exact ⟨10, by omega, by omega, by omega⟩
   by_cases c11 : n < 4096
   ·exact ⟨11, by omega, by omega, by omega⟩
   by_cases c12 : n < 8192
   ·exact ⟨12, by omega, by omega, by omega⟩
   by_cases c13 : n < 16384
   ·exact ⟨13, by omega, by omega, by omega⟩
   by_cases c14 : n < 32768
   ·exact ⟨14, by omega, by omega, by omega⟩
   ·exact ⟨15, by omega, by omega, by omega⟩
  obtain ⟨k, _, hk1, hk2⟩ := key
  exact band hk1 hk2
def bindOk (s : Sym) : Bool :=
 if s.bind = 3 then power s.align else if s.bind = 4 ∨ s.bind = 5 then decide (s.size = 0) && decide (s.align = 0) else (decide (s.bind = 1) || decide (s.bind = 2)) && decide (s.align = 0)
def valid (s : Sym) : Bool := decide (1 ≤ s.name.length) && (decide (s.name.length ≤ 255) && (decide ((0 : UInt8) ∉ s.name) && (decide (0 ≤ s.size) && (decide (s.size ≤ 4294967295) && bindOk s))))
theorem valid_iff {s : Sym} : valid s = true ↔ 1 ≤ s.name.length ∧ s.name.length ≤ 255 ∧ (0 : UInt8) ∉ s.name ∧ 0 ≤ s.size ∧ s.size ≤ 4294967295 ∧ bindOk s = true := by simp [valid]
theorem pow_le {n : Int} (h : power n = true) : 0 ≤ n ∧ n ≤ 65536 := by
 have := of_decide_eq_true h
 simp only [pows, List.mem_cons, List.not_mem_nil, or_false] at this
 omega
theorem bind_le {s : Sym} (h : bindOk s = true) : 1 ≤ s.bind ∧ s.bind ≤ 5 ∧ 0 ≤ s.align ∧ s.align ≤ 65536 := by
 unfold bindOk at h
 split at h
 ·have := pow_le h; omega
 ·split at h
  ·simp at h; omega
  ·simp at h; omega
def has (l : List Sym) (n : Str) : Bool := l.any fun s => decide (s.name = n)
theorem has_iff {l : List Sym} {n : Str} : has l n = true ↔ ∃ s ∈ l, s.name = n := by simp [has]
def okL : List Sym → List Sym → Bool
 | _, [] => true
 | acc, s :: r => valid s && !has acc s.name && okL (acc ++ [s]) r
def validO (l : List Sym) : Bool := okL [] l && decide (l.length ≤ 65536)

def encS (s : Sym) : List UInt8 := [UInt8.ofNat s.bind.toNat] ++ W4 s.size.toNat ++ W4 s.align.toNat ++ [UInt8.ofNat s.name.length] ++ s.name
def encL (l : List Sym) : List UInt8 := l.flatMap encS
def magic : List UInt8 := [79, 66, 74, 49]
def encO (o : Obj) : List UInt8 := magic ++ W4 o.syms.length ++ encL o.syms ++ o.body
theorem encS_len (s : Sym) : (encS s).length = 10 + s.name.length := by simp [encS, W4]; omega

def nextS (r : List UInt8) : Option (Sym × List UInt8) :=
 if r.length < 10 + (r.getD 9 0).toNat then none
 else some (⟨(r.drop 10).take (r.getD 9 0).toNat, ((r.getD 0 0).toNat : Int), (num (r.drop 1) : Int), (num (r.drop 5) : Int)⟩, r.drop (10 + (r.getD 9 0).toNat))
def decL : Nat → List UInt8 → List Sym → Except Int (List Sym × List UInt8)
 | 0, r, acc => .ok (acc, r)
 | k + 1, r, acc => match nextS r with
  | none => .error 2
  | some (s, r') => if valid s && !has acc s.name then decL k r' (acc ++ [s]) else .error 12
def decO (b : List UInt8) : Except Int (List Sym × List UInt8) :=
 if b.length < 4 then .error 2 else if b.take 4 ≠ magic then .error 1 else if b.length < 8 then .error 2
 else if 65536 < num (b.drop 4) then .error 12 else decL (num (b.drop 4)) (b.drop 8) []

theorem nextS_enc {s : Sym} (h : valid s = true) (x : List UInt8) : nextS (encS s ++ x) = some (s, x) := by
 obtain ⟨h1, h2, h3, h4, h5, h6⟩ := valid_iff.1 h
 obtain ⟨b1, b2, b3, b4⟩ := bind_le h6
 have e9 : (encS s ++ x).getD 9 0 = UInt8.ofNat s.name.length := by simp [encS, W4]
 have e0 : (encS s ++ x).getD 0 0 = UInt8.ofNat s.bind.toNat := by simp [encS, W4]
 have t9 : (UInt8.ofNat s.name.length).toNat = s.name.length := by simp; omega
 have d1 : (encS s ++ x).drop 1 = W4 s.size.toNat ++ (W4 s.align.toNat ++ ([UInt8.ofNat s.name.length] ++ s.name ++ x)) := by simp [encS]
 have d5 : (encS s ++ x).drop 5 = W4 s.align.toNat ++ ([UInt8.ofNat s.name.length] ++ s.name ++ x) := by simp [encS, W4]
 have d10 : (encS s ++ x).drop 10 = s.name ++ x := by simp [encS, W4]
 unfold nextS
 rw [e9, t9, if_neg (by simp [encS_len]), e0, d1, num_W4 (by omega), d5, num_W4 (by omega), d10]
 have dl : (encS s ++ x).drop (10 + s.name.length) = x := by
  rw [← List.drop_drop, d10, List.drop_left]
 rw [dl, List.take_left]
 have eb : (((UInt8.ofNat s.bind.toNat).toNat : Nat) : Int) = s.bind := by simp; omega
 rw [eb]
 have es : ((s.size.toNat : Nat) : Int) = s.size := by omega
 have ea : ((s.align.toNat : Nat) : Int) = s.align := by omega
 rw [es, ea]
theorem nextS_cut {s : Sym} (h : valid s = true) (x : List UInt8) (j : Nat) (hj : j < (encS s).length) : nextS ((encS s ++ x).take j) = none := by
 obtain ⟨h1, h2, h3, h4, h5, h6⟩ := valid_iff.1 h
 have hl := encS_len s
 unfold nextS
 rw [if_pos]
 have hle : ((encS s ++ x).take j).length ≤ j := by simp; omega
 by_cases h10 : j < 10
 ·omega
 ·have e9 : ((encS s ++ x).take j).getD 9 0 = UInt8.ofNat s.name.length := by
   have : ((encS s ++ x).take j).getD 9 0 = (encS s ++ x).getD 9 0 := by
    simp only [List.getD]
    rw [List.getElem?_take_of_lt (by omega)]
   rw [this]; simp [encS, W4]
  have t9 : (UInt8.ofNat s.name.length).toNat = s.name.length := by simp; omega
  rw [e9, t9]; omega
theorem nextS_some {r r' : List UInt8} {s : Sym} (h : nextS r = some (s, r')) (hv : valid s = true) : r = encS s ++ r' := by
 unfold nextS at h
 split at h
 ·simp at h
 ·rename_i hl
  simp only [Option.some.injEq, Prod.mk.injEq] at h
  obtain ⟨rfl, rfl⟩ := h
  match r, hl with
  | a :: b1 :: b2 :: b3 :: b4 :: c1 :: c2 :: c3 :: c4 :: l :: t, hl =>
   simp only [List.getD_cons_zero, List.getD_cons_succ, List.drop_succ_cons, List.drop_zero, List.length_cons] at hl ⊢
   have hlen : (t.take l.toNat).length = l.toNat := by simp; omega
   have e1 := W4_num (b := b1 :: b2 :: b3 :: b4 :: c1 :: c2 :: c3 :: c4 :: l :: t) (by simp)
   have e2 := W4_num (b := c1 :: c2 :: c3 :: c4 :: l :: t) (by simp)
   simp only [encS, Int.toNat_natCast, e1, e2, hlen]
   have ha : UInt8.ofNat a.toNat = a := by simp
   have hll : UInt8.ofNat l.toNat = l := by simp
   rw [ha, hll]
   have e3 : (a :: b1 :: b2 :: b3 :: b4 :: c1 :: c2 :: c3 :: c4 :: l :: t).drop (10 + l.toNat) = t.drop l.toNat := by
    rw [← List.drop_drop]; rfl
   rw [e3]
   simp
  | [], hl => simp at hl
  | [_], hl => simp at hl
  | [_, _], hl => simp at hl
  | [_, _, _], hl => simp at hl
  | [_, _, _, _], hl => simp at hl
  | [_, _, _, _, _], hl => simp at hl
  | [_, _, _, _, _, _], hl => simp at hl
  | [_, _, _, _, _, _, _], hl => simp at hl
  | [_, _, _, _, _, _, _, _], hl => simp at hl
  | [_, _, _, _, _, _, _, _, _], hl => simp at hl

theorem decL_enc : ∀ (l acc : List Sym) (x : List UInt8), okL acc l = true → decL l.length (encL l ++ x) acc = .ok (acc ++ l, x)
 | [], acc, x, _ => by simp [decL, encL]
 | s :: l, acc, x, h => by
  simp only [okL, Bool.and_eq_true, Bool.not_eq_true'] at h
  obtain ⟨⟨h1, h2⟩, h3⟩ := h
  have ih := decL_enc l (acc ++ [s]) x h3
  have : encL (s :: l) ++ x = encS s ++ (encL l ++ x) := by simp [encL]
  rw [this]
  simp only [List.length_cons, decL, nextS_enc h1, h1, h2, Bool.not_false, Bool.and_self, if_true, ih]
  simp
theorem decL_cut : ∀ (l acc : List Sym) (x : List UInt8) (j : Nat), okL acc l = true → j < (encL l).length → decL l.length ((encL l ++ x).take j) acc = .error 2
 | [], acc, x, j, _, hj => by simp [encL] at hj
 | s :: l, acc, x, j, h, hj => by
  simp only [okL, Bool.and_eq_true, Bool.not_eq_true'] at h
  obtain ⟨⟨h1, h2⟩, h3⟩ := h
  have e : encL (s :: l) ++ x = encS s ++ (encL l ++ x) := by simp [encL]
  have e2 : (encL (s :: l)).length = (encS s).length + (encL l).length := by simp [encL]
  rw [e]
  by_cases hc : j < (encS s).length
  ·simp only [List.length_cons, decL, nextS_cut h1 _ j hc]
  ·have ht : (encS s ++ (encL l ++ x)).take j = encS s ++ (encL l ++ x).take (j - (encS s).length) := by
    rw [List.take_append, List.take_of_length_le (by omega)]
   rw [ht]
   simp only [List.length_cons, decL, nextS_enc h1, h1, h2, Bool.not_false, Bool.and_self, if_true]
   exact decL_cut l (acc ++ [s]) x _ h3 (by omega)
theorem decL_some : ∀ (k : Nat) (r : List UInt8) (acc l : List Sym) (x : List UInt8), decL k r acc = .ok (l, x) → ∃ l', l = acc ++ l' ∧ l'.length = k ∧ okL acc l' = true ∧ r = encL l' ++ x
 | 0, r, acc, l, x, h => by
  simp only [decL, Except.ok.injEq, Prod.mk.injEq] at h
  obtain ⟨rfl, rfl⟩ := h
  exact ⟨[], by simp, rfl, rfl, by simp [encL]⟩
 | k + 1, r, acc, l, x, h => by
  simp only [decL] at h
  split at h
  ·simp at h
  ·rename_i s r' hn
   split at h
   ·rename_i hv
    simp only [Bool.and_eq_true, Bool.not_eq_true'] at hv
    obtain ⟨l', h1, h2, h3, h4⟩ := decL_some k r' (acc ++ [s]) l x h
    refine ⟨s :: l', by simp [h1], by simp [h2], by simp [okL, hv.1, hv.2, h3], ?_⟩
    rw [nextS_some hn hv.1, h4]; simp [encL]
   ·simp at h
theorem drop4 {a b : List UInt8} (h : a.length = 4) : (a ++ b).drop 4 = b := List.drop_left' h
theorem encO_parts (o : Obj) (hl : o.syms.length ≤ 65536) (b : List UInt8) (hb : b = encO o) : b.take 4 = magic ∧ num (b.drop 4) = o.syms.length ∧ b.drop 8 = encL o.syms ++ o.body ∧ b.length = 8 + (encL o.syms).length + o.body.length := by
 have e : b = magic ++ (W4 o.syms.length ++ (encL o.syms ++ o.body)) := by rw [hb]; simp [encO]
 refine ⟨by rw [e]; rfl, ?_, ?_, by rw [e]; simp [magic, W4]; omega⟩
 ·rw [e, drop4 (show magic.length = 4 from rfl), num_W4 (by omega)]
 ·have : b.drop 8 = (b.drop 4).drop 4 := by rw [List.drop_drop]
  rw [this, e, drop4 (show magic.length = 4 from rfl), drop4 (W4_len _)]
theorem decO_enc {o : Obj} (h : validO o.syms = true) : decO (encO o) = .ok (o.syms, o.body) := by
 simp only [validO, Bool.and_eq_true, decide_eq_true_eq] at h
 obtain ⟨p1, p2, p3, p4⟩ := encO_parts o h.2 _ rfl
 unfold decO
 rw [if_neg (by omega), if_neg (by simp [p1]), if_neg (by omega), p2, if_neg (by omega), p3, decL_enc _ _ _ h.1]
 simp
theorem enc_dec {b : List UInt8} {l : List Sym} {x : List UInt8} (h : decO b = .ok (l, x)) : validO l = true ∧ encO ⟨l, x⟩ = b := by
 unfold decO at h
 split at h
 ·simp at h
 split at h
 ·simp at h
 split at h
 ·simp at h
 split at h
 ·simp at h
 rename_i h4 hm h8 hn
 obtain ⟨l', e, h2, h3, h5⟩ := decL_some _ _ _ _ _ h
 simp at e
 subst e
 refine ⟨by simp [validO, h3]; omega, ?_⟩
 simp only [ne_eq, Decidable.not_not] at hm
 have e4 := W4_num (b := b.drop 4) (by simp; omega)
 have : encO ⟨l, x⟩ = magic ++ (W4 l.length ++ (encL l ++ x)) := by simp [encO]
 rw [this, ← h5, h2, e4, ← hm]
 have e8 : b.drop 8 = (b.drop 4).drop 4 := by rw [List.drop_drop]
 rw [e8, List.take_append_drop, List.take_append_drop]
theorem decO_cut {o : Obj} (h : validO o.syms = true) (k : Nat) (hk : k ≤ (encO o).length) :
  decO ((encO o).take k) = if k < (encO o).length - o.body.length then .error 2 else .ok (o.syms, o.body.take (k - ((encO o).length - o.body.length))) := by
 have h' := h
 simp only [validO, Bool.and_eq_true, decide_eq_true_eq] at h
 obtain ⟨p1, p2, p3, p4⟩ := encO_parts o h.2 _ rfl
 generalize encO o = b at *
 have hlen : (b.take k).length = k := by simp; omega
 unfold decO
 rw [hlen]
 by_cases h4 : k < 4
 ·rw [if_pos h4, if_pos (by omega)]
 ·rw [if_neg h4]
  have t4 : (b.take k).take 4 = magic := by rw [List.take_take, Nat.min_eq_left (by omega), p1]
  rw [if_neg (by simp [t4])]
  by_cases h8 : k < 8
  ·rw [if_pos h8, if_pos (by omega)]
  ·rw [if_neg h8]
   have n4 : num ((b.take k).drop 4) = o.syms.length := by
    rw [← p2]
    have e1 : ((b.take k).drop 4) = (b.drop 4).take (k - 4) := by rw [List.drop_take]
    rw [e1]
    have : ∀ (y : List UInt8) (m : Nat), 4 ≤ m → num (y.take m) = num y := by
     intro y m hm
     unfold num
     simp only [List.getD, List.getElem?_take_of_lt (show 0 < m by omega), List.getElem?_take_of_lt (show 1 < m by omega), List.getElem?_take_of_lt (show 2 < m by omega), List.getElem?_take_of_lt (show 3 < m by omega)]
    exact this _ _ (by omega)
   rw [n4, if_neg (by omega)]
   have d8 : (b.take k).drop 8 = (encL o.syms ++ o.body).take (k - 8) := by rw [List.drop_take, p3]
   rw [d8]
   by_cases hc : k < b.length - o.body.length
   ·rw [if_pos hc, decL_cut _ _ _ _ h.1 (by omega)]
   ·rw [if_neg hc]
    have ht : (encL o.syms ++ o.body).take (k - 8) = encL o.syms ++ o.body.take (k - (b.length - o.body.length)) := by
     rw [List.take_append, List.take_of_length_le (by omega)]
     congr 2; omega
    rw [ht, decL_enc _ _ _ h.1]
    simp

theorem okL_app : ∀ (a b acc : List Sym), okL acc (a ++ b) = (okL acc a && okL (acc ++ a) b)
 | [], b, acc => by simp [okL]
 | s :: a, b, acc => by
  have ih := okL_app a b (acc ++ [s])
  simp only [List.cons_append, okL, ih]
  simp [Bool.and_assoc]
theorem validO_take {l : List Sym} (h : validO l = true) (k : Nat) : validO (l.take k) = true := by
 simp only [validO, Bool.and_eq_true, decide_eq_true_eq] at h ⊢
 have := okL_app (l.take k) (l.drop k) []
 rw [List.take_append_drop, h.1] at this
 simp only [Bool.true_eq, Bool.and_eq_true] at this
 exact ⟨this.1, by simp; omega⟩
theorem not_twice {l : List Sym} {s : Sym} (h : s ∈ l) : validO (l ++ [s]) = false := by
 have : okL [] (l ++ [s]) = false := by
  rw [okL_app]
  have : has ([] ++ l) s.name = true := has_iff.2 ⟨s, by simpa using h, rfl⟩
  simp only [List.nil_append] at this
  simp [okL, this]
 simp [validO, this]
theorem okL_has : ∀ (l acc : List Sym), okL acc l = true → ∀ s ∈ l, has acc s.name = false
 | [], acc, _, s, hs => by simp at hs
 | x :: l, acc, h, s, hs => by
  simp only [okL, Bool.and_eq_true, Bool.not_eq_true'] at h
  rcases List.mem_cons.1 hs with rfl | hs
  ·exact h.1.2
  ·have := okL_has l (acc ++ [x]) h.2 s hs
   rw [Bool.eq_false_iff] at this ⊢
   intro hc
   obtain ⟨y, hy, e⟩ := has_iff.1 hc
   exact this (has_iff.2 ⟨y, by simp [hy], e⟩)
def find (l : List Sym) (n : Str) : Option Sym := l.find? fun s => decide (s.name = n)
theorem find_at {l : List Sym} (h : validO l = true) {k : Nat} {s : Sym} (hk : l[k]? = some s) : find l s.name = some s := by
 simp only [validO, Bool.and_eq_true, decide_eq_true_eq] at h
 have hlt : k < l.length := (List.getElem?_eq_some_iff.1 hk).1
 have hd : l = l.take k ++ s :: l.drop (k + 1) := by
  have := List.drop_eq_getElem_cons hlt
  rw [List.getElem?_eq_getElem hlt] at hk
  injection hk with hk
  rw [hk] at this
  rw [← this, List.take_append_drop]
 have h1 := okL_app (l.take k) (s :: l.drop (k + 1)) []
 rw [← hd, h.1] at h1
 simp only [Bool.true_eq, Bool.and_eq_true] at h1
 have h2 := okL_has _ _ h1.2 s (by simp)
 simp only [List.nil_append] at h2
 unfold find
 rw [hd, List.find?_append]
 have : (l.take k).find? (fun x => decide (x.name = s.name)) = none := by
  rw [List.find?_eq_none]
  intro x hx hc
  rw [Bool.eq_false_iff] at h2
  exact h2 (has_iff.2 ⟨x, hx, of_decide_eq_true hc⟩)
 rw [this]
 simp
end Go.AL.Ob

namespace Go.AL.Bd
open Go Go.AL

def bindOk (b : Int) : Prop := b = 0 ∨ b = 1 ∨ b = 2 ∨ b = 3
structure Wf (s : State) : Prop where
 b : bindOk s.bind
 z : s.bind = 0 → s.size = 0 ∧ s.align = 0 ∧ s.unit = -1

theorem wf_empty : Wf empty := ⟨.inl rfl, fun _ => ⟨rfl, rfl, rfl⟩⟩
theorem wf_one {x : Sym} (u : Int) (h : 1 ≤ x.bind ∧ x.bind ≤ 5) : Wf (one x u) := by
 unfold one
 split
 ·exact ⟨.inl rfl, fun _ => ⟨rfl, rfl, rfl⟩⟩
 ·split
  ·exact ⟨.inl rfl, fun _ => ⟨rfl, rfl, rfl⟩⟩
  ·exact ⟨by unfold bindOk; simp only []; omega, fun h0 => by simp only [] at h0; omega⟩
theorem strength_0 : strength 0 = 0 := rfl
theorem strength_1 : strength 1 = 3 := rfl
theorem strength_2 : strength 2 = 1 := rfl
theorem strength_3 : strength 3 = 2 := rfl
theorem wf_join {a b : State} (ha : Wf a) (hb : Wf b) : Wf (join a b) := by
 obtain ⟨a1, a2⟩ := ha
 obtain ⟨b1, b2⟩ := hb
 refine ⟨?_, ?_⟩
 ·simp only [join]; split <;> assumption
 ·rcases a1 with h | h | h | h <;> rcases b1 with h' | h' | h' | h' <;> simp_all [join, strength]
theorem wf_foldl : ∀ (l : List Use) (s : State), Wf s → (∀ x ∈ l, 1 ≤ x.sym.bind ∧ x.sym.bind ≤ 5) → Wf (l.foldl (fun s x => merge s x.sym x.unit) s)
 | [], s, hs, _ => hs
 | x :: l, s, hs, h => wf_foldl l _ (wf_join hs (wf_one _ (h x (by simp)))) (fun y hy => h y (by simp [hy]))
theorem wf_all {l : List Use} (h : ∀ x ∈ l, 1 ≤ x.sym.bind ∧ x.sym.bind ≤ 5) : Wf (all l) := wf_foldl l empty wf_empty h

theorem join_assoc {a b c : State} (ha : Wf a) (hb : Wf b) (hc : Wf c) : join (join a b) c = join a (join b c) := by
 obtain ⟨a1, _⟩ := ha
 obtain ⟨b1, _⟩ := hb
 obtain ⟨c1, _⟩ := hc
 rcases a1 with h | h | h | h <;> rcases b1 with h' | h' | h' | h' <;> rcases c1 with h'' | h'' | h'' | h'' <;>
  simp [join, strength, h, h', h'', Bool.or_assoc, Int.max_assoc]
theorem join_empty {a : State} (ha : Wf a) : join a empty = a := by
 obtain ⟨a1, _⟩ := ha
 rcases a1 with h | h | h | h <;> simp [join, strength, h, empty] <;> (cases a; simp_all)
theorem empty_join {a : State} (ha : Wf a) : join empty a = a := by
 obtain ⟨a1, a2⟩ := ha
 rcases a1 with h | h | h | h <;> simp [join, strength, h, empty] <;> (cases a; simp_all)

theorem all_append {a b : List Use} (ha : ∀ x ∈ a, 1 ≤ x.sym.bind ∧ x.sym.bind ≤ 5) (hb : ∀ x ∈ b, 1 ≤ x.sym.bind ∧ x.sym.bind ≤ 5) : all (a ++ b) = join (all a) (all b) := by
 have key : ∀ (b : List Use) (s t : State), Wf s → Wf t → (∀ x ∈ b, 1 ≤ x.sym.bind ∧ x.sym.bind ≤ 5) →
   b.foldl (fun s x => merge s x.sym x.unit) (join s t) = join s (b.foldl (fun s x => merge s x.sym x.unit) t) := by
  intro b
  induction b with
  | nil => intro s t _ _ _; rfl
  | cons x b ih =>
   intro s t hs ht h
   have hx := wf_one x.unit (h x (by simp))
   simp only [List.foldl_cons, merge]
   rw [join_assoc hs ht hx]
   exact ih s _ hs (wf_join ht hx) (fun y hy => h y (by simp [hy]))
 have := key b (all a) empty (wf_all ha) wf_empty hb
 rw [join_empty (wf_all ha)] at this
 rw [all, List.foldl_append]
 exact this

theorem first_snoc (l : List Use) (x : Use) (b : Int) : first (l ++ [x]) b = if 0 ≤ first l b then first l b else if x.sym.bind = b then (l.length : Int) else -1 := by
 induction l with
 | nil => by_cases h : x.sym.bind = b <;> simp [first, h]
 | cons y l ih =>
  simp only [List.cons_append, first, ih]
  by_cases h : y.sym.bind = b
  ·simp [h]
  ·simp only [h, if_false]
   rcases first_spec l b with ⟨h1, _⟩ | ⟨k, h1, _⟩
   ·rw [h1]
    by_cases hx : x.sym.bind = b
    ·simp [hx]; omega
    ·simp [hx]
   ·rw [h1]
    have h2 : ¬ ((k : Int) < 0) := by omega
    have h3 : (0 : Int) ≤ k := by omega
    have h4 : (0 : Int) ≤ k + 1 := by omega
    simp [h2, h3, h4]
theorem useAt_snoc {l : List Use} (x : Use) {b : Int} (h : 0 ≤ first l b) : useAt (l ++ [x]) (first l b) = useAt l (first l b) := by
 rcases first_spec l b with ⟨h1, _⟩ | ⟨k, h1, h2⟩
 ·omega
 ·rw [h1]; simp [useAt, h2, List.getElem?_append]
theorem useAt_len (l : List Use) (x : Use) : useAt (l ++ [x]) (l.length : Int) = x := by simp [useAt]
theorem maxOf_none {l : List Use} (f : Use → Int) (h : ¬ 0 ≤ first l 3) : maxOf f l = 0 := by
 rcases first_spec l 3 with ⟨_, h2⟩ | ⟨k, h1, _⟩
 ·have key : ∀ (l : List Use) (m : Int), (∀ x ∈ l, x.sym.bind ≠ 3) → l.foldl (fun m x => if x.sym.bind = 3 then max m (f x) else m) m = m := by
   intro l
   induction l with
   | nil => intro m _; rfl
   | cons x l ih => intro m hh; simp only [List.foldl_cons, hh x (by simp), if_false]; exact ih m (fun y hy => hh y (by simp [hy]))
  exact key l 0 h2
 ·omega
theorem refOf_snoc (l : List Use) (x : Use) (h : okUse x = true) : refOf (l ++ [x]) = merge (refOf l) x.sym x.unit := by
 have hlen : (0 : Int) ≤ (l.length : Int) := by omega
 have hx : 1 ≤ x.sym.bind ∧ x.sym.bind ≤ 5 ∧ 0 ≤ x.sym.size ∧ 0 ≤ x.sym.align := by simp [okUse] at h; omega
 obtain ⟨hb, hs, ha⟩ : (x.sym.bind = 1 ∨ x.sym.bind = 2 ∨ x.sym.bind = 3 ∨ x.sym.bind = 4 ∨ x.sym.bind = 5) ∧ 0 ≤ x.sym.size ∧ 0 ≤ x.sym.align := by omega
 have hm1 : ∀ f : Use → Int, maxOf f (l ++ [x]) = if x.sym.bind = 3 then max (maxOf f l) (f x) else maxOf f l := fun f => maxOf_snoc f l x
 have u1 := fun h1 => useAt_snoc (l := l) x (b := 1) h1
 have u2 := fun h1 => useAt_snoc (l := l) x (b := 2) h1
 have u3 := fun h1 => useAt_snoc (l := l) x (b := 3) h1
 have ul := useAt_len l x
 have m3 := fun f h1 => maxOf_none (l := l) f h1
 by_cases f1 : 0 ≤ first l 1 <;> by_cases f3 : 0 ≤ first l 3 <;> by_cases f2 : 0 ≤ first l 2 <;> by_cases f4 : 0 ≤ first l 4 <;> by_cases f5 : 0 ≤ first l 5 <;>
  rcases hb with e | e | e | e | e <;>
  simp [refOf, first_snoc, strongsOf_snoc, hm1, merge, join, one, empty, strength, e, f1, f2, f3, f4, f5, u1, u2, u3, ul, m3, hlen, Int.max_eq_right, hs, ha]
theorem ref_all {l : List Use} (h : ∀ x ∈ l, okUse x = true) : refOf l = all l := by
 have key : ∀ (r : List Use), (∀ x ∈ r.reverse, okUse x = true) → refOf r.reverse = all r.reverse := by
  intro r
  induction r with
  | nil => intro _; rfl
  | cons x r ih =>
   intro hh
   rw [List.reverse_cons] at hh ⊢
   rw [refOf_snoc _ _ (hh x (by simp)), ih (fun y hy => hh y (by simp at hy ⊢; exact .inl hy)), ← all_snoc]
 have := key l.reverse (by simpa using h)
 simpa using this

theorem one_cases {x : Sym} (u : Int) (h : 1 ≤ x.bind ∧ x.bind ≤ 5) :
  (x.bind = 4 ∧ one x u = { empty with sref := true }) ∨ (x.bind = 5 ∧ one x u = { empty with wref := true }) ∨
  (x.bind ≠ 4 ∧ (x.bind = 1 ∨ x.bind = 2 ∨ x.bind = 3) ∧ (one x u).bind = x.bind ∧ (one x u).sref = false) := by
 by_cases h4 : x.bind = 4
 ·exact .inl ⟨h4, by simp [one, h4]⟩
 ·by_cases h5 : x.bind = 5
  ·exact .inr (.inl ⟨h5, by simp [one, h5]⟩)
  ·exact .inr (.inr ⟨h4, by omega, by simp [one, h4, h5], by simp [one, h4, h5]⟩)
structure Grows (s t : State) (x : Sym) : Prop where
 dup : duplicate s = true → duplicate t = true
 dfd : s.defd = true → t.defd = true
 bnd : s.bind ≠ 0 → t.bind ≠ 0
 str : s.bind = 1 → t.bind = 1
 com : s.bind = 3 → t.bind ≠ 2
 wan : wanted t = true → wanted s = true ∨ x.bind = 4
theorem grows {s : State} {x : Sym} (u : Int) (hs : Wf s) (h : 1 ≤ x.bind ∧ x.bind ≤ 5) : Grows s (merge s x u) x := by
 have hb := (wf_one u h).b
 obtain ⟨sb, _⟩ := hs
 refine ⟨fun hd => ?_, fun hd => ?_, fun h0 => ?_, fun h1 => ?_, fun h3 => ?_, fun hw => ?_⟩
 ·simp [duplicate, merge, join] at hd ⊢; omega
 ·simp [merge, join, hd]
 ·simp only [merge, join]
  split
  ·rename_i hgt
   intro e
   rw [e, strength_0] at hgt
   rcases sb with e' | e' | e' | e' <;> rw [e'] at hgt <;> simp [strength] at hgt
  ·exact h0
 ·simp only [merge, join, h1, strength_1]
  split
  ·rename_i hgt
   rcases hb with e' | e' | e' | e' <;> rw [e'] at hgt <;> simp [strength] at hgt
  ·rfl
 ·simp only [merge, join, h3, strength_3]
  split
  ·rename_i hgt
   intro e
   rw [e, strength_2] at hgt
   omega
  ·decide
 ·rcases one_cases u h with ⟨h4, e⟩ | ⟨h5, e⟩ | ⟨_, _, _, e⟩
  ·exact .inr h4
  ·left
   rw [merge, e] at hw
   simpa [wanted, join, empty] using hw
  ·left
   simp [wanted, merge, join, e] at hw ⊢
   exact ⟨hw.1, hw.2.1⟩
structure Alike (s t : State) : Prop where
 wan : wanted s = wanted t
 und : undefined s = undefined t
 dup : duplicate s = duplicate t
 bnd : s.bind = t.bind
 dfd : s.defd = t.defd
 len : s.strongs.length = t.strongs.length
 com : s.bind = 3 → s.size = t.size ∧ s.align = t.align
theorem join_swap {a b : State} (ha : Wf a) (hb : Wf b) : Alike (join a b) (join b a) := by
 have hbind : (join a b).bind = (join b a).bind := by
  rcases ha.b with h | h | h | h <;> rcases hb.b with h' | h' | h' | h' <;> simp [join, strength, h, h']
 refine ⟨by simp [wanted, join, Bool.or_comm], ?_, by simp [duplicate, join, Nat.add_comm], hbind, by simp [join, Bool.or_comm], by simp [join, Nat.add_comm], fun h3 => ?_⟩
 ·have e : (join a b).sref = (join b a).sref := by simp [join, Bool.or_comm]
  simp only [undefined]; rw [e, hbind]
 ·rcases ha.b with h | h | h | h <;> rcases hb.b with h' | h' | h' | h' <;> simp [join, strength, h, h'] at h3 ⊢
  exact ⟨Int.max_comm _ _, Int.max_comm _ _⟩
theorem turn_alike {l : List Use} (k : Nat) (hr : right l = true) : Alike (all l) (all (l.drop k ++ l.take k)) := by
 have hb := right_bind hr
 have h1 : ∀ x ∈ l.take k, 1 ≤ x.sym.bind ∧ x.sym.bind ≤ 5 := fun x hx => hb x (List.mem_of_mem_take hx)
 have h2 : ∀ x ∈ l.drop k, 1 ≤ x.sym.bind ∧ x.sym.bind ≤ 5 := fun x hx => hb x (List.mem_of_mem_drop hx)
 have := join_swap (wf_all h1) (wf_all h2)
 rwa [← all_append h1 h2, ← all_append h2 h1, List.take_append_drop] at this
end Go.AL.Bd

namespace Go.AL.Wt
open Go Go.AL
def lt (a b : Str) : Bool := Op.bytesLess a b
theorem lt_eq (a b : Str) : lt a b = decide (a < b) := Go.Proofs.bytesLess_eq a b
theorem lt_irr (a : Str) : lt a a = false := by rw [lt_eq]; simp [List.lt_irrefl]
theorem lt_trans {a b c : Str} (h : lt a b = true) (h' : lt b c = true) : lt a c = true := by
 rw [lt_eq] at *
 simp only [decide_eq_true_eq] at *
 exact List.lt_trans h h'
theorem lt_asymm {a b : Str} (h : lt a b = true) : lt b a = false := by
 cases h' : lt b a with
 | false => rfl
 | true => have := lt_trans h h'; rw [lt_irr] at this; exact this.symm
theorem lt_conn {a b : Str} (h : lt a b = false) (h' : lt b a = false) : a = b := by
 rw [lt_eq] at *
 simp only [decide_eq_false_iff_not] at *
 exact List.le_antisymm (List.not_lt.1 h') (List.not_lt.1 h)
theorem nlt_trans {a b c : Str} (h : lt a b = false) (h' : lt b c = false) : lt a c = false := by
 cases hc : lt a c with
 | false => rfl
 | true =>
  cases hb : lt b a with
  | true => have := lt_trans hb hc; rw [this] at h'; exact h'.symm ▸ rfl
  | false =>
   have := lt_conn h hb
   subst this
   rw [hc] at h'; exact h'

abbrev at' (xs : List Str) (i : Nat) : Str := xs.getD i []
def swp (xs : List Str) (i k : Nat) : List Str := (xs.set i (at' xs k)).set k (at' xs i)
theorem swp_len (xs : List Str) (i k : Nat) : (swp xs i k).length = xs.length := by simp [swp]
theorem at_swp {xs : List Str} {i k : Nat} (hi : i < xs.length) (hk : k < xs.length) (q : Nat) : at' (swp xs i k) q = if q = k then at' xs i else if q = i then at' xs k else at' xs q := by
 simp only [at', swp, List.getD, List.getElem?_set, List.length_set]
 by_cases h1 : q = k
 ·subst h1; simp [hk]
 ·simp only [h1, if_false]
  rw [if_neg (fun e => h1 e.symm)]
  by_cases h2 : q = i
  ·subst h2; simp [hi]
  ·rw [if_neg (fun e => h2 e.symm)]; simp [h2]

def par (i : Nat) : Nat := (i - 1) / 2
theorem par_lt {i : Nat} (h : 0 < i) : par i < i := by unfold par; omega
def Hp (n : Nat) (xs : List Str) : Prop := ∀ i, 0 < i → i < n → lt (at' xs i) (at' xs (par i)) = false

def up (xs : List Str) (j : Nat) : List Str :=
 if h : 0 < j then (if lt (at' xs j) (at' xs (par j)) then up (swp xs (par j) j) (par j) else xs) else xs
termination_by j
decreasing_by exact par_lt h

structure UpI (n : Nat) (xs : List Str) (j : Nat) : Prop where
 len : n ≤ xs.length
 lt : j < n
 out : ∀ i, 0 < i → i < n → i ≠ j → Wt.lt (at' xs i) (at' xs (par i)) = false
 gr : ∀ c, 0 < c → c < n → par c = j → 0 < j → Wt.lt (at' xs c) (at' xs (par j)) = false

theorem UpI.step {n xs j} (I : UpI n xs j) (h0 : 0 < j) (h : Wt.lt (at' xs j) (at' xs (par j)) = true) : UpI n (swp xs (par j) j) (par j) := by
 have hp := par_lt h0
 have hl := I.len
 have hj := I.lt
 have ha := fun q => at_swp (xs := xs) (i := par j) (k := j) (by omega) (by omega) q
 refine ⟨by rw [swp_len]; exact hl, by omega, fun i i0 hi hne => ?_, fun c c0 hc hpc hp0 => ?_⟩
 ·rw [ha, ha]
  by_cases e1 : i = j
  ·subst e1
   rw [if_pos rfl, if_neg (by omega), if_pos rfl]
   exact lt_asymm h
  ·rw [if_neg e1, if_neg hne]
   by_cases e2 : par i = j
   ·rw [if_pos e2]; exact I.gr i i0 hi e2 h0
   ·rw [if_neg e2]
    by_cases e3 : par i = par j
    ·rw [if_pos e3]
     have h1 := I.out i i0 hi e1
     rw [e3] at h1
     exact nlt_trans h1 (lt_asymm h)
    ·rw [if_neg e3]; exact I.out i i0 hi e1
 ·rw [ha, ha]
  have hpp := par_lt hp0
  rw [if_neg (show par (par j) ≠ j by omega), if_neg (show par (par j) ≠ par j by omega)]
  have h1 := I.out (par j) hp0 (by omega) (by omega)
  by_cases e1 : c = j
  ·rw [if_pos e1]; exact h1
  ·rw [if_neg e1]
   have := par_lt c0
   rw [if_neg (show c ≠ par j by omega)]
   have h2 := I.out c c0 hc e1
   rw [hpc] at h2
   exact nlt_trans h2 h1

theorem UpI.done {n xs j} (I : UpI n xs j) (h : 0 < j → Wt.lt (at' xs j) (at' xs (par j)) = false) : Hp n xs := by
 intro i i0 hi
 by_cases e : i = j
 ·subst e; exact h i0
 ·exact I.out i i0 hi e

theorem up_len (xs : List Str) (j : Nat) : (up xs j).length = xs.length := by
 induction j using Nat.strongRecOn generalizing xs with
 | _ j ih =>
  rw [up]
  split
  ·rename_i h
   split
   ·rw [ih (par j) (par_lt h), swp_len]
   ·rfl
  ·rfl
theorem up_heap {n : Nat} : ∀ (j : Nat) (xs : List Str), UpI n xs j → Hp n (up xs j) := by
 intro j
 induction j using Nat.strongRecOn with
 | _ j ih =>
  intro xs I
  rw [up]
  split
  ·rename_i h0
   split
   ·rename_i h; exact ih (par j) (par_lt h0) _ (I.step h0 h)
   ·rename_i h; exact I.done (fun _ => by simpa using h)
  ·exact I.done (fun h => by omega)

def kid (n : Nat) (xs : List Str) (i : Nat) : Nat := if 2 * i + 2 < n && lt (at' xs (2 * i + 2)) (at' xs (2 * i + 1)) then 2 * i + 2 else 2 * i + 1
theorem kid_gt (n xs i) : i < kid n xs i := by unfold kid; split <;> omega
theorem kid_par (n xs i) : par (kid n xs i) = i := by unfold kid par; split <;> omega
theorem kid_lt {n xs i} (h : 2 * i + 1 < n) : kid n xs i < n := by
 unfold kid
 split
 ·rename_i h'; simp at h'; omega
 ·exact h
def down (n : Nat) (xs : List Str) (i : Nat) : List Str :=
 if h : 2 * i + 1 < n then (if lt (at' xs (kid n xs i)) (at' xs i) then down n (swp xs i (kid n xs i)) (kid n xs i) else xs) else xs
termination_by n - i
decreasing_by
 have := kid_gt n xs i
 omega

structure DnI (n : Nat) (xs : List Str) (i : Nat) : Prop where
 len : n ≤ xs.length
 out : ∀ k, 0 < k → k < n → par k ≠ i → Wt.lt (at' xs k) (at' xs (par k)) = false
 gr : ∀ c, 0 < c → c < n → par c = i → 0 < i → Wt.lt (at' xs c) (at' xs (par i)) = false

theorem kid_least {n : Nat} {xs : List Str} {i c : Nat} (h0 : 0 < c) (hc : c < n) (hp : par c = i) : lt (at' xs c) (at' xs (kid n xs i)) = false := by
 have hcc : c = 2 * i + 1 ∨ c = 2 * i + 2 := by unfold par at hp; omega
 unfold kid
 split
 ·rename_i h
  simp only [Bool.and_eq_true, decide_eq_true_eq] at h
  rcases hcc with rfl | rfl
  ·exact lt_asymm h.2
  ·exact lt_irr _
 ·rename_i h
  rcases hcc with rfl | rfl
  ·exact lt_irr _
  ·simp only [Bool.and_eq_true, decide_eq_true_eq, not_and, Bool.not_eq_true] at h
   exact h hc

theorem DnI.step {n xs i} (I : DnI n xs i) (hk : 2 * i + 1 < n) (h : Wt.lt (at' xs (kid n xs i)) (at' xs i) = true) : DnI n (swp xs i (kid n xs i)) (kid n xs i) := by
 have hg := kid_gt n xs i
 have hp := kid_par n xs i
 have hl := kid_lt (xs := xs) hk
 have hn := I.len
 generalize hj : kid n xs i = j at *
 have ha := fun q => at_swp (xs := xs) (i := i) (k := j) (by omega) (by omega) q
 have hle : ∀ c, 0 < c → c < n → par c = i → Wt.lt (at' xs c) (at' xs j) = false := fun c c0 hc hpc => by rw [← hj]; exact kid_least c0 hc hpc
 refine ⟨by rw [swp_len]; exact hn, fun k k0 hk' hne => ?_, fun c c0 hc hpc hj0 => ?_⟩
 ·rw [ha, ha]
  by_cases e1 : k = j
  ·subst e1
   rw [if_pos rfl, hp, if_neg (by omega), if_pos rfl]
   exact lt_asymm h
  ·rw [if_neg e1, if_neg hne]
   by_cases e2 : par k = i
   ·rw [if_pos e2]
    have := par_lt k0
    rw [if_neg (by omega)]
    exact hle k k0 hk' e2
   ·rw [if_neg e2]
    by_cases e3 : k = i
    ·rw [if_pos e3]
     subst e3
     exact I.gr j (by omega) hl hp k0
    ·rw [if_neg e3]; exact I.out k k0 hk' e2
 ·have hcj := par_lt c0
  rw [ha, ha, hp]
  rw [if_neg (by omega), if_neg (by omega), if_neg (by omega), if_pos rfl]
  have h2 := I.out c c0 hc (by omega)
  rw [hpc] at h2
  exact h2

theorem DnI.done {n xs i} (I : DnI n xs i) (h : ∀ c, 0 < c → c < n → par c = i → Wt.lt (at' xs c) (at' xs i) = false) : Hp n xs := by
 intro k k0 hk
 by_cases e : par k = i
 ·rw [e]; exact h k k0 hk e
 ·exact I.out k k0 hk e

theorem down_heap {n : Nat} : ∀ (m i : Nat) (xs : List Str), n - i = m → DnI n xs i → Hp n (down n xs i) := by
 intro m
 induction m using Nat.strongRecOn with
 | _ m ih =>
  intro i xs hm I
  rw [down]
  split
  ·rename_i hk
   split
   ·rename_i h
    have := kid_gt n xs i
    exact ih (n - kid n xs i) (by omega) _ _ rfl (I.step hk h)
   ·rename_i h
    refine I.done fun c c0 hc hp => ?_
    exact nlt_trans (kid_least c0 hc hp) (by simpa using h)
  ·rename_i hk
   exact I.done fun c c0 hc hp => by unfold par at hp; omega
theorem down_len {n : Nat} : ∀ (m i : Nat) (xs : List Str), n - i = m → (down n xs i).length = xs.length := by
 intro m
 induction m using Nat.strongRecOn with
 | _ m ih =>
  intro i xs hm
  rw [down]
  split
  ·rename_i hk
   split
   ·have := kid_gt n xs i
    rw [ih (n - kid n xs i) (by omega) _ _ rfl, swp_len]
   ·rfl
  ·rfl

theorem Hp.least {n : Nat} {xs : List Str} (H : Hp n xs) : ∀ k, k < n → lt (at' xs k) (at' xs 0) = false := by
 intro k
 induction k using Nat.strongRecOn with
 | _ k ih =>
  intro hk
  rcases Nat.eq_zero_or_pos k with h | h
  ·subst h; exact lt_irr _
  ·exact nlt_trans (H k h hk) (ih (par k) (par_lt h) (by have := par_lt h; omega))
end Go.AL.Wt

namespace Go.AL.Wt
open Go Go.AL
theorem swp_perm {xs : List Str} {i k : Nat} (hi : i < xs.length) (hk : k < xs.length) : List.Perm (swp xs i k) xs := by
 have := List.set_set_perm hi hk
 simpa [swp, at', List.getD, hi, hk] using this
theorem at_take {xs : List Str} {n k : Nat} (hk : k < n) : at' (xs.take n) k = at' xs k := by
 simp [at', List.getD, List.getElem?_take, hk]
theorem take_swp {xs : List Str} {n i k : Nat} (hi : i < n) (hk : k < n) : (swp xs i k).take n = swp (xs.take n) i k := by
 simp only [swp, List.take_set, at_take hi, at_take hk]
theorem take_swp_perm {xs : List Str} {n i k : Nat} (hi : i < n) (hk : k < n) (hn : n ≤ xs.length) : ((swp xs i k).take n).Perm (xs.take n) := by
 rw [take_swp hi hk]
 exact swp_perm (by simp; omega) (by simp; omega)
theorem up_perm {n : Nat} : ∀ (j : Nat) (xs : List Str), j < n → n ≤ xs.length → ((up xs j).take n).Perm (xs.take n) := by
 intro j
 induction j using Nat.strongRecOn with
 | _ j ih =>
  intro xs hj hn
  rw [up]
  split
  ·rename_i h0
   split
   ·have := par_lt h0
    exact (ih (par j) this _ (by omega) (by rw [swp_len]; exact hn)).trans (take_swp_perm (by omega) hj hn)
   ·exact .refl _
  ·exact .refl _
theorem down_perm {n : Nat} : ∀ (m i : Nat) (xs : List Str), n - i = m → n ≤ xs.length → ((down n xs i).take n).Perm (xs.take n) := by
 intro m
 induction m using Nat.strongRecOn with
 | _ m ih =>
  intro i xs hm hn
  rw [down]
  split
  ·rename_i hk
   split
   ·have h1 := kid_gt n xs i
    have h2 := kid_lt (xs := xs) hk
    exact (ih (n - kid n xs i) (by omega) _ _ rfl (by rw [swp_len]; exact hn)).trans (take_swp_perm (by omega) h2 hn)
   ·exact .refl _
  ·exact .refl _
theorem down_out {n q : Nat} (hq : n ≤ q) : ∀ (m i : Nat) (xs : List Str), n - i = m → n ≤ xs.length → at' (down n xs i) q = at' xs q := by
 intro m
 induction m using Nat.strongRecOn with
 | _ m ih =>
  intro i xs hm hn
  rw [down]
  split
  ·rename_i hk
   split
   ·have h1 := kid_gt n xs i
    have h2 := kid_lt (xs := xs) hk
    rw [ih (n - kid n xs i) (by omega) _ _ rfl (by rw [swp_len]; exact hn), at_swp (by omega) (by omega), if_neg (by omega), if_neg (by omega)]
   ·rfl
  ·rfl

structure Wl (n : Nat) (xs ws : List Str) : Prop where
 len : n ≤ xs.length
 hp : Hp n xs
 perm : (xs.take n).Perm ws
theorem Wl.size {n xs ws} (W : Wl n xs ws) : n = ws.length := by
 have := W.perm.length_eq
 have := W.len
 simp at *; omega
theorem Wl.nil : Wl 0 [] [] := ⟨Nat.le_refl _, fun i _ h => by omega, by simp⟩
def Srt (l : List Str) : Prop := l.Pairwise fun a b => lt a b = true
theorem Srt.nodup {l : List Str} (h : Srt l) : l.Nodup := h.imp fun {a b} h e => by subst e; rw [lt_irr] at h; exact absurd h (by simp)

theorem at_app {xs : List Str} {n i : Nat} {s : Str} (hn : n ≤ xs.length) (hi : i < n) : at' (xs.take n ++ [s]) i = at' xs i := by
 simp [at', List.getD, List.getElem?_append, show i < min n xs.length by omega, show i < xs.length by omega, hi]
theorem Wl.push {n xs ws ws'} (W : Wl n xs ws) (s : Str) (hp : ws'.Perm (s :: ws)) : Wl (n + 1) (up (xs.take n ++ [s]) n) ws' := by
 have hl := W.len
 have hlen : n + 1 ≤ (xs.take n ++ [s]).length := by simp; omega
 refine ⟨by rw [up_len]; exact hlen, up_heap n _ ⟨hlen, by omega, fun i i0 hi hne => ?_, fun c c0 hc hp _ => ?_⟩, ?_⟩
 ·have hpar := par_lt i0
  rw [at_app hl (by omega), at_app hl (by omega)]
  exact W.hp i i0 (by omega)
 ·have := par_lt c0
  omega
 ·refine (up_perm n _ (by omega) hlen).trans ?_
  have h1 : (xs.take n ++ [s]).take (n + 1) = xs.take n ++ [s] := List.take_of_length_le (by simp; omega)
  rw [h1]
  refine List.perm_append_comm.trans ?_
  simp only [List.singleton_append]
  exact (W.perm.cons s).trans hp.symm
def popH (n : Nat) (xs : List Str) : List Str := down n (swp xs 0 n) 0
theorem Wl.pop {n xs ws} (W : Wl (n + 1) xs ws) (hs : Srt ws) : ∃ w r, ws = w :: r ∧ at' (popH n xs) n = w ∧ Wl n (popH n xs) r ∧ Srt r ∧ n + 1 ≤ (popH n xs).length := by
 have hl := W.len
 have hsz := W.size
 cases ws with
 | nil => simp at hsz
 | cons w r =>
  have hw : at' xs 0 = w := by
   have h1 : at' xs 0 ∈ w :: r := W.perm.mem_iff.1 (by
    rw [← at_take (n := n + 1) (by omega : 0 < n + 1)]
    simp only [at', List.getD]
    rw [List.getElem?_eq_getElem (by simp; omega)]
    simp only [Option.getD_some]
    exact List.getElem_mem _)
   have h2 : w ∈ xs.take (n + 1) := W.perm.mem_iff.2 (by simp)
   obtain ⟨k, hk, e⟩ := List.getElem_of_mem h2
   simp at hk
   have h3 : at' xs k = w := by
    rw [← at_take (n := n + 1) (by omega : k < n + 1)]
    simp only [at', List.getD]
    rw [List.getElem?_eq_getElem (by simp; omega), Option.getD_some, e]
   have h4 := W.hp.least k (by omega)
   rw [h3] at h4
   rcases List.mem_cons.1 h1 with h | h
   ·exact h
   ·have := (List.pairwise_cons.1 hs).1 _ h
    rw [h4] at this; simp at this
  have h0 : n + 1 ≤ (swp xs 0 n).length := by rw [swp_len]; exact hl
  have hn : at' (swp xs 0 n) n = w := by rw [at_swp (by omega) (by omega), if_pos rfl, hw]
  refine ⟨w, r, rfl, ?_, ⟨?_, ?_, ?_⟩, (List.pairwise_cons.1 hs).2, ?_⟩
  ·rw [popH, down_out (Nat.le_refl n) _ _ _ rfl (by omega), hn]
  ·rw [popH, down_len _ _ _ rfl]; omega
  ·refine down_heap _ _ _ rfl ⟨by omega, fun k k0 hk hp => ?_, fun _ _ _ _ h => by omega⟩
   have := par_lt k0
   rw [at_swp (by omega) (by omega), at_swp (by omega) (by omega), if_neg (by omega), if_neg (by omega), if_neg (by omega), if_neg hp]
   exact W.hp k k0 (by omega)
  ·refine (down_perm _ _ _ rfl (by omega)).trans ?_
   have h1 := (take_swp_perm (n := n + 1) (i := 0) (k := n) (xs := xs) (by omega) (by omega) hl).trans W.perm
   have h2 : (swp xs 0 n).take (n + 1) = (swp xs 0 n).take n ++ [w] := by
    rw [List.take_add_one, List.getElem?_eq_getElem (by omega)]
    simp only [Option.toList_some]
    rw [← hn]
    simp [at', List.getD, List.getElem?_eq_getElem (show n < (swp xs 0 n).length by omega)]
   rw [h2] at h1
   exact List.Perm.cons_inv (List.perm_append_comm.trans h1)
  ·rw [popH, down_len _ _ _ rfl]; exact h0

def put : List Str → Str → List Str
 | [], s => [s]
 | x :: r, s => if lt x s then x :: put r s else if x = s then x :: r else s :: x :: r
theorem put_mem : ∀ (l : List Str) (s y : Str), y ∈ put l s ↔ y = s ∨ y ∈ l
 | [], s, y => by simp [put]
 | x :: r, s, y => by
  simp only [put]
  split
  ·simp only [List.mem_cons, put_mem r s y]
   constructor
   ·rintro (h | h | h) <;> simp [h]
   ·rintro (h | h | h) <;> simp [h]
  ·split
   ·rename_i h; subst h; simp
   ·simp
theorem put_srt : ∀ (l : List Str) (s : Str), Srt l → Srt (put l s)
 | [], s, _ => by simp [put, Srt]
 | x :: r, s, h => by
  obtain ⟨h1, h2⟩ := List.pairwise_cons.1 h
  simp only [put]
  split
  ·rename_i hx
   refine List.pairwise_cons.2 ⟨fun y hy => ?_, put_srt r s h2⟩
   rcases (put_mem r s y).1 hy with rfl | hy
   ·exact hx
   ·exact h1 y hy
  ·split
   ·exact h
   ·rename_i hx hne
    have hsx : lt s x = true := by
     cases hc : lt s x with
     | true => rfl
     | false => exact absurd (lt_conn (by simpa using hx) hc) hne
    refine List.pairwise_cons.2 ⟨fun y hy => ?_, h⟩
    rcases List.mem_cons.1 hy with rfl | hy
    ·exact hsx
    ·exact lt_trans hsx (h1 y hy)
theorem put_perm : ∀ (l : List Str) (s : Str), s ∉ l → (put l s).Perm (s :: l)
 | [], s, _ => .refl _
 | x :: r, s, h => by
  simp only [List.mem_cons, not_or] at h
  simp only [put]
  split
  ·exact ((put_perm r s h.2).cons x).trans (.swap _ _ _)
  ·rw [if_neg (fun e => h.1 e.symm)]
end Go.AL.Wt

namespace Go.AL.Wt
open Go Go.AL
theorem mget_mset (a b : ByteArray) (v : D) : ∀ es : Ents, mget (mset es (.string a) v) (.string b) = if b.data.toList = a.data.toList then some v else mget es (.string b)
 | [] => by
  simp only [mset, mget, keyB]
  by_cases h : b.data.toList = a.data.toList <;> simp [h]
 | e :: r => by
  simp only [mset]
  cases hk : keyB (.string a) e.1 with
  | true =>
   simp only [mget]
   have hkk : keyB (.string b) (.string a) = decide (b.data.toList = a.data.toList) := rfl
   rw [hkk]
   by_cases h : b.data.toList = a.data.toList
   ·simp [h]
   ·have : keyB (.string b) e.1 = false := by
     unfold keyB at hk ⊢
     split at hk
     ·rename_i x y e1 e2
      injection e1 with e1; subst e1
      rw [e2]
      have := of_decide_eq_true hk
      simp only [decide_eq_false_iff_not]
      rw [← this]; exact h
     ·simp at hk
    simp [h, this]
  | false =>
   simp only [mget]
   rw [mget_mset a b v r]
   by_cases h : b.data.toList = a.data.toList
   ·have : keyB (.string b) e.1 = false := by
     unfold keyB at hk ⊢
     split
     ·rename_i x y e1 e2
      injection e1 with e1; subst e1
      rw [e2] at hk
      simp only [decide_eq_false_iff_not] at hk ⊢
      rw [h]; exact hk
     ·rfl
    simp [h, this]
   ·simp [h]
theorem strKeys_mset (a : ByteArray) (v : D) : ∀ es : Ents, strKeys es → strKeys (mset es (.string a) v)
 | [], _ => fun e he => by simp [mset] at he; subst he; exact ⟨a, rfl⟩
 | x :: r, h => fun e he => by
  simp only [mset] at he
  split at he
  ·rcases List.mem_cons.1 he with rfl | he
   ·exact ⟨a, rfl⟩
   ·exact h e (by simp [he])
  ·rcases List.mem_cons.1 he with rfl | he
   ·exact h e (by simp)
   ·exact strKeys_mset a v r (fun y hy => h y (by simp [hy])) e he
structure Sn (es : Ents) (seen : List Str) : Prop where
 keys : strKeys es
 look : ∀ b : ByteArray, lookD es b (.bool false) false = vB (decide (b.data.toList ∈ seen))
theorem Sn.nil : Sn [] [] := ⟨fun e he => by simp at he, fun b => by simp [lookD, mget, zeroD, constD]⟩
theorem Sn.set {es seen} (h : Sn es seen) (s : Str) : Sn (mset es (.string (sB s)) (vB true)) (seen ++ [s]) := by
 refine ⟨strKeys_mset _ _ _ h.keys, fun b => ?_⟩
 have hl := h.look b
 simp only [lookD, mget_mset] at hl ⊢
 by_cases hb : b.data.toList = (sB s).data.toList
 ·have hb' : b.data.toList = s := hb
  rw [if_pos hb]; simp [hb']
 ·have hb' : ¬ b.data.toList = s := hb
  rw [if_neg hb, hl]
  simp [hb']
theorem Sn.look' {es seen} (h : Sn es seen) (s : Str) : lookD es (sB s) (.bool false) false = vB (decide (s ∈ seen)) := h.look _

structure Hs where
 g : Nat
 n : Nat
 xs : List Str
 es : Ents
def hasB (es : Ents) (s : Str) : Bool := match lookD es (sB s) (.bool false) false with | .v (.bool b) => b | _ => false
def Hs.add1 (h : Hs) (s : Str) : Hs := match hasB h.es s with | true => h | false => ⟨h.g + 1, h.n + 1, up (h.xs.take h.n ++ [s]) h.n, mset h.es (.string (sB s)) (vB true)⟩
def Hs.addL (h : Hs) (l : List Str) : Hs := l.foldl Hs.add1 h
abbrev Rs := List Str × List Str
def Rs.add1 (r : Rs) (s : Str) : Rs := if s ∈ r.2 then r else (put r.1 s, r.2 ++ [s])
def Rs.addL (r : Rs) (l : List Str) : Rs := l.foldl Rs.add1 r
structure Rl (h : Hs) (r : Rs) : Prop where
 wl : Wl h.n h.xs r.1
 srt : Srt r.1
 sn : Sn h.es r.2
 sub : ∀ s ∈ r.1, s ∈ r.2
theorem Rl.has {h r} (R : Rl h r) (s : Str) : hasB h.es s = decide (s ∈ r.2) := by
 simp only [hasB, R.sn.look']
theorem Rl.add1 {h : Hs} {r : Rs} (R : Rl h r) (s : Str) : Rl (h.add1 s) (r.add1 s) := by
 unfold Hs.add1 Rs.add1
 rw [R.has]
 by_cases hs : s ∈ r.2
 ·simp only [hs, decide_true, if_true]; exact R
 ·simp only [hs, decide_false, if_false]
  refine ⟨R.wl.push s (put_perm _ _ (fun h => hs (R.sub _ h))), put_srt _ _ R.srt, R.sn.set s, fun y hy => ?_⟩
  rcases (put_mem _ _ _).1 hy with rfl | hy
  ·simp
  ·simp [R.sub _ hy]
theorem Rl.addL : ∀ (l : List Str) {h : Hs} {r : Rs}, Rl h r → Rl (h.addL l) (r.addL l)
 | [], h, r, R => R
 | s :: l, h, r, R => Rl.addL l (R.add1 s)
theorem Hs.add1_n (h : Hs) (s : Str) : h.n ≤ (h.add1 s).n ∧ (h.add1 s).n ≤ h.n + 1 := by
 unfold Hs.add1; split <;> simp
theorem Hs.addL_n : ∀ (l : List Str) (h : Hs), h.n ≤ (h.addL l).n ∧ (h.addL l).n ≤ h.n + l.length
 | [], h => by simp [addL]
 | s :: l, h => by
  have h1 := add1_n h s
  have h2 := addL_n l (h.add1 s)
  simp only [addL, List.foldl_cons, List.length_cons] at *
  omega
theorem Hs.addL_take {h : Hs} {l : List Str} {k : Nat} {s : Str} (hk : l[k]? = some s) : h.addL (l.take (k + 1)) = (h.addL (l.take k)).add1 s := by
 simp [addL, List.take_add_one, hk]
theorem Rs.addL_take {h : Rs} {l : List Str} {k : Nat} {s : Str} (hk : l[k]? = some s) : h.addL (l.take (k + 1)) = (h.addL (l.take k)).add1 s := by
 simp [addL, List.take_add_one, hk]
theorem Rl.zero : Rl ⟨0, 0, [], []⟩ ([], []) := ⟨Wl.nil, .nil, Sn.nil, fun s h => by simp at h⟩
def Hs.pop (h : Hs) : Hs := ⟨h.g, h.n - 1, popH (h.n - 1) h.xs, h.es⟩
def Hs.top (h : Hs) : Str := at' (popH (h.n - 1) h.xs) (h.n - 1)
theorem Rl.pop {h : Hs} {w : Str} {ws seen : List Str} (R : Rl h (w :: ws, seen)) : h.top = w ∧ Rl h.pop (ws, seen) := by
 have hsz := R.wl.size
 have h1 : h.n = (h.n - 1) + 1 := by simp at hsz; omega
 have W := R.wl
 rw [h1] at W
 obtain ⟨w', r', e, h2, h3, h4, h5⟩ := W.pop R.srt
 injection e with e1 e2
 subst e1; subst e2
 exact ⟨h2, ⟨h3, h4, R.sn, fun s hs => R.sub s (by simp [hs])⟩⟩
end Go.AL.Wt

namespace Go.AL.Sy
open Go Go.AL Go.AL.Bd
abbrev Tb := List (Str × State)
def tget : Tb → Str → Option State
 | [], _ => none
 | p :: T, n => if n = p.1 then some p.2 else tget T n
def tput : Tb → Str → State → Tb
 | [], n, s => [(n, s)]
 | p :: T, n, s => if n = p.1 then (n, s) :: T else p :: tput T n s
theorem tget_tput (m n : Str) (s : State) : ∀ T : Tb, tget (tput T m s) n = if n = m then some s else tget T n
 | [] => by simp [tput, tget]
 | p :: T => by
  have ih := tget_tput m n s T
  simp only [tput]
  by_cases h : m = p.1
  ·rw [if_pos h]; subst h
   simp only [tget]
   by_cases h2 : n = p.1 <;> simp [h2]
  ·rw [if_neg h]
   simp only [tget, ih]
   by_cases h2 : n = p.1
   ·rw [if_pos h2, if_pos h2, if_neg (by rw [h2]; exact fun e => h e.symm)]
   ·simp [h2]
def ents (T : Tb) : Ents := T.map fun p => (.string (sB p.1), .agg p.2.enc)
theorem keyB_s (m n : Str) : keyB (.string (sB m)) (.string (sB n)) = decide (m = n) := by simp [keyB, sB]
theorem ents_keys (T : Tb) : strKeys (ents T) := fun e he => by
 obtain ⟨p, _, rfl⟩ := List.mem_map.1 he
 exact ⟨_, rfl⟩
theorem mget_ents (n : Str) : ∀ T : Tb, mget (ents T) (.string (sB n)) = (tget T n).map fun s => .agg s.enc
 | [] => rfl
 | p :: T => by
  have ih := mget_ents n T
  have e : ents (p :: T) = (.string (sB p.1), .agg p.2.enc) :: ents T := rfl
  rw [e]
  simp only [mget, keyB_s, tget]
  by_cases h : n = p.1
  ·simp [h]
  ·simp [h, ih]
theorem mset_ents (n : Str) (s : State) : ∀ T : Tb, mset (ents T) (.string (sB n)) (.agg s.enc) = ents (tput T n s)
 | [] => rfl
 | p :: T => by
  have ih := mset_ents n s T
  have e : ents (p :: T) = (.string (sB p.1), .agg p.2.enc) :: ents T := rfl
  rw [e]
  simp only [mset, keyB_s, tput]
  by_cases h : n = p.1
  ·simp [h, ents]
  ·rw [if_neg h]; simp only [h, decide_false, ih]; rfl
theorem look_some {T : Tb} {n : Str} {s : State} (h : tget T n = some s) (z : Value) : lookD (ents T) (sB n) z true = .tuple [.agg s.enc, vB true] := by
 simp [lookD, mget_ents, h]
theorem look_none {T : Tb} {n : Str} (h : tget T n = none) (z : Value) : lookD (ents T) (sB n) z true = .tuple [zeroD z, vB false] := by
 simp [lookD, mget_ents, h]
theorem look1 {T : Tb} {n : Str} {s : State} (h : tget T n = some s) (z : Value) : lookD (ents T) (sB n) z false = .agg s.enc := by
 simp [lookD, mget_ents, h]

def toB (s : Ob.Sym) : Sym := ⟨s.name, s.bind, s.size, s.align⟩
def add1 (T : Tb) (x : Use) : Tb := tput T x.sym.name (merge ((tget T x.sym.name).getD empty) x.sym x.unit)
def build (U : List Use) : Tb := U.foldl add1 []
theorem build_snoc (U : List Use) (x : Use) : build (U ++ [x]) = add1 (build U) x := by simp [build]
def of (U : List Use) (n : Str) : List Use := U.filter fun x => decide (x.sym.name = n)
theorem of_snoc (U : List Use) (x : Use) (n : Str) : of (U ++ [x]) n = of U n ++ (if x.sym.name = n then [x] else []) := by
 simp only [of, List.filter_append]
 congr 1
 by_cases h : x.sym.name = n <;> simp [h]
theorem all_snoc (l : List Use) (x : Use) : all (l ++ [x]) = merge (all l) x.sym x.unit := by simp [all]
theorem tget_build (n : Str) (U : List Use) : tget (build U) n = if of U n = [] then none else some (all (of U n)) := by
 rw [← List.reverse_reverse U]
 induction U.reverse with
 | nil => rfl
 | cons x V ih =>
  rw [List.reverse_cons, build_snoc, of_snoc]
  simp only [add1]
  rw [tget_tput]
  by_cases h : n = x.sym.name
  ·subst h
   rw [if_pos rfl, if_pos rfl, if_neg (by simp), all_snoc, ih]
   congr 2
   by_cases h2 : of V.reverse x.sym.name = []
   ·rw [if_pos h2, h2]; rfl
   ·rw [if_neg h2]; rfl
  ·have h' : ¬ x.sym.name = n := fun e => h e.symm
   rw [if_neg h]
   simp only [h', if_false, List.append_nil]
   exact ih
theorem tget_getD (n : Str) (U : List Use) : (tget (build U) n).getD empty = all (of U n) := by
 rw [tget_build]
 by_cases h : of U n = []
 ·rw [if_pos h, h]; rfl
 ·rw [if_neg h]; rfl
def keys (T : Tb) : List Str := T.map (·.1)
theorem keys_tput (n : Str) (s : State) : ∀ T : Tb, keys (tput T n s) = if n ∈ keys T then keys T else keys T ++ [n]
 | [] => by simp [tput, keys]
 | p :: T => by
  have ih := keys_tput n s T
  simp only [keys] at ih
  simp only [tput]
  by_cases h : n = p.1
  ·subst h; simp [keys]
  ·rw [if_neg h]
   simp only [keys, List.map_cons, ih, List.mem_cons, h, false_or]
   by_cases h2 : n ∈ T.map (·.1) <;> simp [h2]
theorem mem_keys (n : Str) : ∀ T : Tb, n ∈ keys T ↔ (tget T n).isSome = true
 | [] => by simp [keys, tget]
 | p :: T => by
  have ih := mem_keys n T
  simp only [keys] at ih
  simp only [keys, List.map_cons, List.mem_cons, tget, ih]
  by_cases h : n = p.1 <;> simp [h]
theorem keys_nodup (U : List Use) : (keys (build U)).Nodup := by
 rw [← List.reverse_reverse U]
 induction U.reverse with
 | nil => simp [build, keys]
 | cons x V ih =>
  rw [List.reverse_cons, build_snoc]
  simp only [add1]
  rw [keys_tput]
  by_cases h : x.sym.name ∈ keys (build V.reverse)
  ·rw [if_pos h]; exact ih
  ·rw [if_neg h, List.nodup_append]
   refine ⟨ih, by simp, fun a ha b hb e => h ?_⟩
   simp at hb
   rw [← hb, ← e]; exact ha
theorem keys_len (U : List Use) : (keys (build U)).length ≤ U.length := by
 rw [← List.reverse_reverse U]
 induction U.reverse with
 | nil => simp [build, keys]
 | cons x V ih =>
  rw [List.reverse_cons, build_snoc]
  simp only [add1]
  rw [keys_tput]
  rw [List.length_reverse] at ih
  split <;> simp <;> omega
def names (U : List Use) : List Str := U.foldl (fun l x => Wt.put l x.sym.name) []
theorem names_snoc (U : List Use) (x : Use) : names (U ++ [x]) = Wt.put (names U) x.sym.name := by simp [names]
theorem names_srt (U : List Use) : Wt.Srt (names U) := by
 rw [← List.reverse_reverse U]
 induction U.reverse with
 | nil => exact List.Pairwise.nil
 | cons x V ih => rw [List.reverse_cons, names_snoc]; exact Wt.put_srt _ _ ih
theorem mem_names (n : Str) (U : List Use) : n ∈ names U ↔ of U n ≠ [] := by
 rw [← List.reverse_reverse U]
 induction U.reverse with
 | nil => simp [names, of]
 | cons x V ih =>
  rw [List.reverse_cons, names_snoc, of_snoc, Wt.put_mem, ih]
  by_cases h : x.sym.name = n
  ·simp [h]
  ·rw [if_neg h, List.append_nil]
   constructor
   ·rintro (e | e)
    ·exact absurd e.symm h
    ·exact e
   ·exact .inr
theorem mem_keys_names (n : Str) (U : List Use) : n ∈ keys (build U) ↔ n ∈ names U := by
 rw [mem_keys, mem_names, tget_build]
 by_cases h : of U n = [] <;> simp [h]
theorem keys_perm (U : List Use) : (keys (build U)).Perm (names U) :=
 (List.perm_ext_iff_of_nodup (keys_nodup U) (names_srt U).nodup).2 fun n => mem_keys_names n U
theorem sort_names {U : List Use} {ss : List Str} (h : ss.Perm (keys (build U))) : ss.mergeSort (fun x y => decide (x ≤ y)) = names U := by
 refine List.Perm.eq_of_pairwise (le := fun a b : Str => a ≤ b) ?_ ?_ ?_ ((List.mergeSort_perm _ _).trans (h.trans (keys_perm U)))
 ·intro a b _ _ h1 h2; exact List.le_antisymm h1 h2
 ·have := List.pairwise_mergeSort (le := fun x y : Str => decide (x ≤ y)) (fun a b c h1 h2 => by simp only [decide_eq_true_eq] at *; exact List.le_trans h1 h2) (fun a b => by simp only [Bool.or_eq_true, decide_eq_true_eq]; exact List.le_total a b) ss
  exact this.imp fun h => of_decide_eq_true h
 ·exact (names_srt U).imp fun {a b} h => by
   have := (Wt.lt_eq a b).symm.trans h
   exact List.le_of_lt (of_decide_eq_true this)
end Go.AL.Sy
namespace Go.AL.Sy
open Go Go.AL Go.AL.Bd
def uses (n : Nat) (l : List Ob.Sym) : List Use := l.map fun s => ⟨toB s, (n : Int)⟩
theorem uses_take {n : Nat} {l : List Ob.Sym} {k : Nat} {s : Ob.Sym} (h : l[k]? = some s) : uses n (l.take (k + 1)) = uses n (l.take k) ++ [⟨toB s, (n : Int)⟩] := by
 rw [List.take_add_one, h]; simp [uses]
def okB (U : List Use) : Prop := ∀ u ∈ U, 1 ≤ u.sym.bind ∧ u.sym.bind ≤ 5
theorem okB.app {U V : List Use} (h : okB U) (h' : okB V) : okB (U ++ V) := fun u hu => (List.mem_append.1 hu).elim (h u) (h' u)
theorem okB.of {U : List Use} (h : okB U) (n : Str) : okB (of U n) := fun u hu => h u (List.mem_filter.1 hu).1
theorem of_le (U : List Use) (n : Str) : (of U n).length ≤ U.length := List.length_filter_le _ _
theorem all_bind {U : List Use} (h : okB U) : 0 ≤ (all U).bind ∧ (all U).bind < 6 := by
 have := wf_all h
 rcases this.1 with e | e | e | e <;> omega
theorem join_strongs (a b : State) : (join a b).strongs = a.strongs ++ b.strongs := rfl
theorem one_strongs (x : Sym) (u : Int) : (one x u).strongs.length ≤ 1 := by
 unfold one
 split
 ·simp [empty]
 ·split
  ·simp [empty]
  ·simp only []; split <;> simp
theorem all_strongs (U : List Use) : (all U).strongs.length ≤ U.length := by
 rw [← List.reverse_reverse U]
 induction U.reverse with
 | nil => simp [all, empty]
 | cons x V ih =>
  rw [List.reverse_cons, all_snoc]
  have := one_strongs x.sym x.unit
  rw [List.length_reverse] at ih
  simp only [merge, join_strongs, List.length_append, List.length_reverse, List.length_singleton]
  omega
end Go.AL.Sy

namespace Go.AL.Sy
open Go Go.AL Go.AL.Bd
def rank (b : Int) : Int := if b = 1 then 5 else if b = 3 then 4 else if b = 2 then 3 else if b = 4 then 2 else if b = 5 then 1 else 0
structure Gs where
 best : Int
 size : Int
 align : Int
 unit : Int
def gstep (g : Gs) (x : Use) : Gs :=
 if g.best < rank x.sym.bind then ⟨rank x.sym.bind, x.sym.size, x.sym.align, x.unit⟩
 else ⟨g.best, if rank x.sym.bind = 4 ∧ g.best = 4 then max g.size x.sym.size else g.size, if rank x.sym.bind = 4 ∧ g.best = 4 then max g.align x.sym.align else g.align, g.unit⟩
def gall (l : List Use) : Gs := l.foldl gstep ⟨0, 0, 0, -1⟩
theorem gall_snoc (l : List Use) (x : Use) : gall (l ++ [x]) = gstep (gall l) x := by simp [gall]
def bestOf (s : State) : Int := if s.bind = 1 then 5 else if s.bind = 3 then 4 else if s.bind = 2 then 3 else if s.sref = true then 2 else if s.wref = true then 1 else 0
structure Gr (s : State) (g : Gs) : Prop where
 best : g.best = bestOf s
 size : g.size = s.size
 align : g.align = s.align
 unit : 3 ≤ g.best → g.unit = s.unit
structure OkS (x : Sym) : Prop where
 b : 1 ≤ x.bind ∧ x.bind ≤ 5
 u : 4 ≤ x.bind → x.size = 0 ∧ x.align = 0
 a : x.bind = 1 ∨ x.bind = 2 → x.align = 0
theorem gr_step {s : State} {g : Gs} (x : Use) (W : Wf s) (h : Gr s g) (ok : OkS x.sym) : Gr (merge s x.sym x.unit) (gstep g x) := by
 obtain ⟨b, u, a⟩ := ok
 obtain ⟨w1, w2⟩ := W
 obtain ⟨h1, h2, h3, h4⟩ := h
 obtain ⟨⟨nm, xb, xs, xa⟩, xu⟩ := x
 obtain ⟨g1, g2, g3, g4⟩ := g
 obtain ⟨sb, ss, sa, su, sd, sr, sw, sl⟩ := s
 simp only at *
 have hx : xb = 1 ∨ xb = 2 ∨ xb = 3 ∨ xb = 4 ∨ xb = 5 := by omega
 subst h2; subst h3
 rcases w1 with w | w | w | w <;> rcases hx with e | e | e | e | e <;> subst e <;> subst w <;> cases sr <;> cases sw <;>
  simp only [bestOf] at h1 <;> simp at h1 <;> subst h1 <;> simp at * <;>
  (refine ⟨?_, ?_, ?_, ?_⟩ <;> simp [merge, join, one, empty, strength, gstep, rank, bestOf] <;> (try simp_all))
theorem gr_all : ∀ {l : List Use}, (∀ x ∈ l, OkS x.sym) → Gr (all l) (gall l) := by
 intro l
 rw [← List.reverse_reverse l]
 generalize l.reverse = m
 intro h
 induction m with
 | nil => exact ⟨rfl, rfl, rfl, fun h => by simp [gall] at h⟩
 | cons x m ih =>
  rw [List.reverse_cons] at h ⊢
  rw [all_snoc, gall_snoc]
  exact gr_step x (wf_all fun y hy => (h y (by simp at hy ⊢; exact .inl hy)).b) (ih fun y hy => h y (by simp at hy ⊢; exact .inl hy)) (h x (by simp))
theorem best_unit {l : List Use} (h : ∀ x ∈ l, OkS x.sym) : (if (gall l).best < 3 then -1 else (gall l).unit) = (all l).unit := by
 have g := gr_all h
 have w := wf_all fun y hy => (h y hy).b
 by_cases hb : (gall l).best < 3
 ·rw [if_pos hb]
  have h0 : (all l).bind = 0 := by
   rw [g.best] at hb
   rcases w.1 with e | e | e | e
   ·exact e
   all_goals (simp [bestOf, e] at hb)
  exact (w.2 h0).2.2.symm
 ·rw [if_neg hb]; exact g.unit (by omega)
theorem best_pos : ∀ {l : List Use}, (∀ x ∈ l, OkS x.sym) → l ≠ [] → 0 < (gall l).best := by
 intro l
 rw [← List.reverse_reverse l]
 generalize l.reverse = m
 intro h hne
 cases m with
 | nil => exact absurd rfl hne
 | cons x m =>
  rw [List.reverse_cons] at h ⊢
  rw [gall_snoc]
  have ok := (h x (by simp)).b
  have hr : 0 < rank x.sym.bind := by
   have hx : x.sym.bind = 1 ∨ x.sym.bind = 2 ∨ x.sym.bind = 3 ∨ x.sym.bind = 4 ∨ x.sym.bind = 5 := by omega
   rcases hx with e | e | e | e | e <;> rw [e] <;> decide
  unfold gstep
  split
  ·exact hr
  ·simp only []; omega
end Go.AL.Sy
namespace Go.AL
theorem rem64n {a b : Nat} (h : 0 < b) (hb : a ≤ 9223372036854775807) : intBin .rem .i64 (a : Int) (b : Int) = some ((a % b : Nat) : Int) := by
 have h1 : ((a : Int)).tmod (b : Int) = ((a % b : Nat) : Int) := (Int.ofNat_tmod a b).symm
 have h2 : a % b ≤ a := Nat.mod_le _ _
 simp only [intBin]
 rw [if_neg (by omega)]
 simp [h1]
end Go.AL

namespace Go.AL.Sy
open Go Go.AL Go.AL.Bd
abbrev encA (s : State) : List D := [vI s.bind, vI s.size, vI s.align, vI s.unit, vB s.defd, vB s.sref, vB s.wref, .list .al (s.strongs.map eI)]
def entsA (T : Tb) : Ents := T.map fun p => (.string (sB p.1), .agg (encA p.2))
theorem entsA_keys (T : Tb) : strKeys (entsA T) := fun e he => by
 obtain ⟨p, _, rfl⟩ := List.mem_map.1 he
 exact ⟨_, rfl⟩
theorem mget_entsA (n : Str) : ∀ T : Tb, mget (entsA T) (.string (sB n)) = (tget T n).map fun s => .agg (encA s)
 | [] => rfl
 | p :: T => by
  have ih := mget_entsA n T
  have e : entsA (p :: T) = (.string (sB p.1), .agg (encA p.2)) :: entsA T := rfl
  rw [e]
  simp only [mget, keyB_s, tget]
  by_cases h : n = p.1
  ·simp [h]
  ·simp [h, ih]
theorem lookA_some {T : Tb} {n : Str} {s : State} (h : tget T n = some s) (z : Value) : lookD (entsA T) (sB n) z true = .tuple [.agg (encA s), vB true] := by
 simp [lookD, mget_entsA, h]
theorem lookA_none {T : Tb} {n : Str} (h : tget T n = none) (z : Value) : lookD (entsA T) (sB n) z true = .tuple [zeroD z, vB false] := by
 simp [lookD, mget_entsA, h]
theorem lookA1 {T : Tb} {n : Str} {s : State} (h : tget T n = some s) (z : Value) : lookD (entsA T) (sB n) z false = .agg (encA s) := by
 simp [lookD, mget_entsA, h]
theorem ao_state (s : State) : Ao (.agg s.enc) (.agg (encA s)) :=
 Ao.aggL (.cons (.v _) (.cons (.v _) (.cons (.v _) (.cons (.v _) (.cons (.v _) (.cons (.v _) (.cons (.v _) (.cons (Ao.mapL _ _) .nil))))))))
theorem ao_ents (T : Tb) : AoO (.map (ents T)) (.map (entsA T)) := by
 refine .map _ _ (by simp [ents, entsA]) (fun i a b => ?_) (fun i a => ?_) (fun i a => ?_)
 ·simp only [ents, entsA, List.getElem_map]
  exact ⟨trivial, ao_state _⟩
 ·simp only [ents, List.getElem_map]; rfl
 ·simp only [entsA, List.getElem_map]; rfl
end Go.AL.Sy

namespace Go.AL.Tb
open Go Go.AL Go.AL.Bd
abbrev SE (l : List Ob.Sym) : List (List D) := l.map Ob.Sym.enc
abbrev fst1D (o : Option Str) : D := .tuple [sD (o.getD []), vB o.isSome]
def fewO (o : Ob.Obj) : Bool := decide (o.syms.length ≤ 60) && (o.syms.all (fun s => decide (s.name.length ≤ 300)) && decide (o.body.length ≤ 1000))
theorem fewO_iff {o : Ob.Obj} : fewO o = true ↔ o.syms.length ≤ 60 ∧ (∀ s ∈ o.syms, s.name.length ≤ 300) ∧ o.body.length ≤ 1000 := by simp [fewO]
theorem names_len (U : List Use) : (Sy.names U).length ≤ U.length := by
 have := (Sy.keys_perm U).length_eq
 have := Sy.keys_len U
 omega
abbrev keepW (U : List Use) (s : Str) : Bool := wanted (all (Sy.of U s))
def wantedL (U : List Use) : List Str := (Sy.names U).filter (keepW U)
structure Res where
 name : Str
 bind : Int
 size : Int
 align : Int
 unit : Int
deriving DecidableEq
abbrev Res.enc (x : Res) : List D := [sD x.name, vI x.bind, vI x.size, vI x.align, vI x.unit]
abbrev LR (l : List Res) : D := .list .any (l.map Res.enc)
abbrev LRn (l : List Res) : D := .list .nat (l.map Res.enc)
def resv (st : State) (n : Str) : Res := ⟨n, if st.bind = 0 then (if st.sref = true then 4 else 5) else st.bind, st.size, st.align, st.unit⟩
def resL (U : List Use) : List Res := (Sy.names U).map fun n => resv (all (Sy.of U n)) n
theorem resL_snoc {U : List Use} {f : Str → Res} {k : Nat} {s : Str} {r : Res} (l : List Str) (hs : l[k]? = some s) (hr : r = f s) : (l.take k).map f ++ [r] = (l.take (k + 1)).map f := by
 rw [List.take_add_one, hs, hr]; simp
abbrev Oe (o : Ob.Obj) : List D := [.list .any (SE o.syms), LB o.body]
abbrev LO (l : List Ob.Obj) : D := .list .any (l.map Oe)
def rightO (l : List Ob.Obj) : Bool := decide (l.length ≤ 12) && l.all fun o => decide (o.syms.length ≤ 20) && (fewO o && Ob.validO o.syms)
theorem rightO_iff {l : List Ob.Obj} : rightO l = true ↔ l.length ≤ 12 ∧ ∀ o ∈ l, o.syms.length ≤ 20 ∧ fewO o = true ∧ Ob.validO o.syms = true := by simp [rightO]
def usesL : Nat → List Ob.Obj → List Use
 | _, [] => []
 | n, o :: r => Sy.uses n o.syms ++ usesL (n + 1) r
abbrev Us (l : List Ob.Obj) : List Use := usesL 0 l
theorem usesL_snoc : ∀ (l : List Ob.Obj) (n : Nat) (o : Ob.Obj), usesL n (l ++ [o]) = usesL n l ++ Sy.uses (n + l.length) o.syms
 | [], n, o => by simp [usesL]
 | x :: r, n, o => by
  have ih := usesL_snoc r (n + 1) o
  simp only [List.cons_append, usesL, ih, List.append_assoc, List.length_cons]
  rw [show n + 1 + r.length = n + (r.length + 1) by omega]
theorem Us_take {l : List Ob.Obj} {i : Nat} {o : Ob.Obj} (h : l[i]? = some o) : Us (l.take (i + 1)) = Us (l.take i) ++ Sy.uses i o.syms := by
 have hi : i < l.length := (List.getElem?_eq_some_iff.1 h).1
 rw [List.take_add_one, h, Option.toList_some, Us, usesL_snoc, List.length_take, Nat.zero_add, Nat.min_eq_left (by omega)]
theorem usesL_mem : ∀ {l : List Ob.Obj} {n : Nat} {u : Use}, u ∈ usesL n l → ∃ o ∈ l, ∃ s ∈ o.syms, ∃ i : Nat, u = ⟨Sy.toB s, (i : Int)⟩
 | [], n, u, h => by simp [usesL] at h
 | o :: r, n, u, h => by
  simp only [usesL, List.mem_append] at h
  rcases h with h | h
  ·obtain ⟨s, hs, rfl⟩ := List.mem_map.1 h
   exact ⟨o, by simp, s, hs, n, rfl⟩
  ·obtain ⟨o', ho', rest⟩ := usesL_mem h
   exact ⟨o', by simp [ho'], rest⟩
theorem usesL_len : ∀ {l : List Ob.Obj} {n m : Nat}, (∀ o ∈ l, o.syms.length ≤ m) → (usesL n l).length ≤ l.length * m
 | [], n, m, h => by simp [usesL]
 | o :: r, n, m, h => by
  have ih := usesL_len (n := n + 1) (fun o ho => h o (by simp [ho]) : ∀ o ∈ r, o.syms.length ≤ m)
  have h0 := h o (by simp)
  have e : (Sy.uses n o.syms).length = o.syms.length := by simp [Sy.uses]
  simp only [usesL, List.length_append, List.length_cons, e, Nat.add_mul, Nat.one_mul]; omega
theorem usesL_append : ∀ (a b : List Ob.Obj) (n : Nat), usesL n (a ++ b) = usesL n a ++ usesL (n + a.length) b
 | [], b, n => by simp [usesL]
 | x :: r, b, n => by
  have ih := usesL_append r b (n + 1)
  simp only [List.cons_append, usesL, ih, List.append_assoc, List.length_cons]
  rw [show n + 1 + r.length = n + (r.length + 1) by omega]
theorem Us_split (l : List Ob.Obj) (k : Nat) : ∃ V, Us l = Us (l.take k) ++ V := by
 refine ⟨usesL (0 + (l.take k).length) (l.drop k), ?_⟩
 rw [← usesL_append, List.take_append_drop]
structure OkL (l : List Ob.Obj) : Prop where
 len : l.length ≤ 1000
 us : (Us l).length ≤ 50000
 nm : ∀ o ∈ l, ∀ s ∈ o.syms, s.name.length ≤ 300
 ok : ∀ o ∈ l, ∀ s ∈ o.syms, 1 ≤ s.bind ∧ s.bind ≤ 5 ∧ 0 ≤ s.size ∧ 0 ≤ s.align
theorem validO_mem {l : List Ob.Sym} (h : Ob.validO l = true) : ∀ s ∈ l, Ob.valid s = true := by
 have h1 : Ob.okL [] l = true := by simp only [Ob.validO, Bool.and_eq_true] at h; exact h.1
 intro s hs
 obtain ⟨i, hi, rfl⟩ := List.getElem_of_mem hs
 have h2 := Ob.okL_app (l.take i) (l.drop i) []
 rw [List.take_append_drop, h1, List.drop_eq_getElem_cons hi] at h2
 have h3 := (Bool.and_eq_true_iff.1 h2.symm).2
 simp only [Ob.okL, Bool.and_eq_true] at h3
 first | exact h3.1.1 | exact h3.1
theorem right_ok {l : List Ob.Obj} (h : rightO l = true) : OkL l := by
 obtain ⟨h1, h2⟩ := rightO_iff.1 h
 refine ⟨by omega, ?_, fun o ho s hs => (fewO_iff.1 (h2 o ho).2.1).2.1 s hs, fun o ho s hs => ?_⟩
 ·have := usesL_len (n := 0) fun o ho => (h2 o ho).1
  simp only [Us]; omega
 have hv := validO_mem (h2 o ho).2.2 s hs
 obtain ⟨_, _, _, h4, _, h5⟩ := Ob.valid_iff.1 hv
 have h6 := Ob.bind_le h5
 exact ⟨h6.1, h6.2.1, h4, h6.2.2.1⟩
theorem Us_take_le (l : List Ob.Obj) (k : Nat) : (Us (l.take k)).length ≤ (Us l).length := by
 obtain ⟨V, hV⟩ := Us_split l k
 rw [hV, List.length_append]; omega
theorem OkL.take {l : List Ob.Obj} (h : OkL l) (k : Nat) : OkL (l.take k) :=
 ⟨by have := h.len; simp; omega, Nat.le_trans (Us_take_le l k) h.us, fun o ho => h.nm o (List.mem_of_mem_take ho), fun o ho => h.ok o (List.mem_of_mem_take ho)⟩
theorem OkL.le {l : List Ob.Obj} (h : OkL l) : (Us l).length ≤ 50000 := h.us
theorem OkL.syms {l : List Ob.Obj} (h : OkL l) : ∀ o ∈ l, o.syms.length ≤ 50000 := fun o ho => by
 obtain ⟨i, hi, rfl⟩ := List.getElem_of_mem ho
 have h1 := Us_take_le l (i + 1)
 rw [Us_take (l := l) (i := i) (o := l[i]) (by simp [hi])] at h1
 have := h.us
 simp [Sy.uses] at h1; omega
theorem OkL.use {l : List Ob.Obj} (h : OkL l) : ∀ u ∈ Us l, okUse u = true := fun u hu => by
 obtain ⟨o, ho, s, hs, i, rfl⟩ := usesL_mem hu
 have := h.ok o ho s hs
 simp [okUse, Sy.toB, this.1, this.2.1, this.2.2.1, this.2.2.2]
theorem OkL.name {l : List Ob.Obj} (h : OkL l) : ∀ u ∈ Us l, u.sym.name.length ≤ 1000000 := fun u hu => by
 obtain ⟨o, ho, s, hs, i, rfl⟩ := usesL_mem hu
 have := h.nm o ho s hs
 simp only [Sy.toB]; omega
theorem okUse_okB {U : List Use} (h : ∀ u ∈ U, okUse u = true) : Sy.okB U := fun u hu => okUse_bind (h u hu)
theorem OkL.okB {l : List Ob.Obj} (h : OkL l) : Sy.okB (Us l) := okUse_okB h.use
theorem refOf_of {U : List Use} (h : ∀ u ∈ U, okUse u = true) (n : Str) : refOf (Sy.of U n) = all (Sy.of U n) := ref_all fun u hu => h u (List.mem_filter.1 hu).1
theorem of_app (U V : List Use) (n : Str) : Sy.of (U ++ V) n = Sy.of U n ++ Sy.of V n := by simp [Sy.of]
theorem uses_step {i k : Nat} {l : List Ob.Sym} {s : Ob.Sym} (U : List Use) (h : l[k]? = some s) (n : Str) :
  Sy.of (U ++ Sy.uses i (l.take (k + 1))) n = Sy.of (U ++ Sy.uses i (l.take k)) n ++ if s.name = n then [⟨Sy.toB s, (i : Int)⟩] else [] := by
 rw [Sy.uses_take h, ← List.append_assoc, Sy.of_snoc]; rfl
theorem of_take_le (l : List Ob.Obj) (i k : Nat) (o : Ob.Obj) (h : OkL l) (ho : l[i]? = some o) (n : Str) : (Sy.of (Us (l.take i) ++ Sy.uses i (o.syms.take k)) n).length ≤ 50000 := by
 have h1 := Us_take_le l (i + 1)
 rw [Us_take ho] at h1
 have h2 := h.us
 have h3 := Sy.of_le (Us (l.take i) ++ Sy.uses i (o.syms.take k)) n
 have h4 : (Sy.uses i (o.syms.take k)).length ≤ (Sy.uses i o.syms).length := by simp [Sy.uses]; omega
 rw [List.length_append] at h3 h1; omega
abbrev ofX (l : List Ob.Obj) (n : Str) (i : Nat) (t : List Ob.Sym) : List Use := Sy.of (Us (l.take i) ++ Sy.uses i t) n
theorem names_app (U V : List Use) : Sy.names (U ++ V) = V.foldl (fun l x => Wt.put l x.sym.name) (Sy.names U) := by simp [Sy.names]
theorem names_step {i k : Nat} {l : List Ob.Sym} {s : Ob.Sym} (U : List Use) (h : l[k]? = some s) : Sy.names (U ++ Sy.uses i (l.take (k + 1))) = Wt.put (Sy.names (U ++ Sy.uses i (l.take k))) s.name := by
 rw [Sy.uses_take h, ← List.append_assoc, Sy.names_snoc]; rfl
theorem namesX_le (l : List Ob.Obj) (i k : Nat) (o : Ob.Obj) (h : OkL l) (ho : l[i]? = some o) : (Sy.names (Us (l.take i) ++ Sy.uses i (o.syms.take k))).length ≤ 50000 := by
 have h1 := Us_take_le l (i + 1)
 rw [Us_take ho] at h1
 have h2 := h.us
 have h3 := names_len (Us (l.take i) ++ Sy.uses i (o.syms.take k))
 have h4 : (Sy.uses i (o.syms.take k)).length ≤ (Sy.uses i o.syms).length := by simp [Sy.uses]; omega
 rw [List.length_append] at h3 h1; omega
abbrev nmX (l : List Ob.Obj) (i : Nat) (t : List Ob.Sym) : List Str := Sy.names (Us (l.take i) ++ Sy.uses i t)
abbrev wanX (l : List Ob.Obj) (k : Nat) : List Str := ((Sy.names (Us l)).take k).filter (keepW (Us l))
theorem filter_step {l : List Str} {p : Str → Bool} {k : Nat} {s : Str} (h : l[k]? = some s) : (l.take (k + 1)).filter p = (l.take k).filter p ++ if p s = true then [s] else [] := by
 rw [List.take_add_one, h, Option.toList_some, List.filter_append]
 congr 1
 cases hp : p s <;> simp [hp]
abbrev resX (l : List Ob.Obj) (k : Nat) : List Res := ((Sy.names (Us l)).take k).map fun n => resv (all (Sy.of (Us l) n)) n
theorem eqR (a b : Res) : (decide (a.name = b.name) && (a.bind == b.bind && (a.size == b.size && (a.align == b.align && (a.unit == b.unit && true))))) = decide (a = b) := by
 obtain ⟨a1, a2, a3, a4, a5⟩ := a
 obtain ⟨b1, b2, b3, b4, b5⟩ := b
 rw [Bool.eq_iff_iff]; simp
def fst1 (p : Str → Bool) : List Str → Option Str
 | [] => none
 | s :: r => if p s = true then some s else fst1 p r
theorem fst1_at {p : Str → Bool} : ∀ {l : List Str} {k : Nat} {s : Str}, l[k]? = some s → p s = true → (∀ x ∈ l.take k, ¬ p x = true) → fst1 p l = some s
 | [], k, s, h, _, _ => by simp at h
 | x :: r, 0, s, h, hp, _ => by simp at h; subst h; simp [fst1, hp]
 | x :: r, k + 1, s, h, hp, hk => by
  have h0 := hk x (by simp)
  simp only [fst1, if_neg h0]
  exact fst1_at (by simpa using h) hp fun y hy => hk y (by simp [hy])
theorem fst1_none {p : Str → Bool} : ∀ {l : List Str}, (∀ x ∈ l, ¬ p x = true) → fst1 p l = none
 | [], _ => rfl
 | x :: r, h => by simp only [fst1, if_neg (h x (by simp))]; exact fst1_none fun y hy => h y (by simp [hy])
theorem fst1_is (p : Str → Bool) : ∀ l : List Str, (fst1 p l).isSome = l.any p
 | [] => rfl
 | x :: r => by
  by_cases h : p x = true
  ·simp [fst1, h]
  ·simp only [fst1, if_neg h, List.any_cons, fst1_is p r]; simp [h]
def wd (U : List Use) (s : Str) : Bool := wanted (all (Sy.of U s))
theorem step_not {p : Str → Bool} {l : List Str} {k : Nat} {s : Str} (hs : l[k]? = some s) (hp : ¬ p s = true) (h : ∀ x ∈ l.take k, ¬ p x = true) : ∀ x ∈ l.take (k + 1), ¬ p x = true := fun x hx => by
 rw [List.take_add_one, hs] at hx
 simp only [Option.toList_some, List.mem_append, List.mem_singleton] at hx
 rcases hx with hx | rfl
 ·exact h x hx
 ·exact hp
theorem wd_nil (s : Str) : wd [] s = false := rfl
theorem mem_wanted (U : List Use) (s : Str) : decide (s ∈ wantedL U) = wd U s := by
 rw [Bool.eq_iff_iff, decide_eq_true_eq]
 unfold wantedL
 rw [List.mem_filter]
 constructor
 ·exact fun h => h.2
 ·intro h
  refine ⟨(Sy.mem_names s U).2 fun e => ?_, h⟩
  rw [wd, e] at h; simp [all, wanted, empty] at h
theorem any_step {p : Str → Bool} {l : List Str} {k : Nat} {s : Str} (hs : l[k]? = some s) : (l.take (k + 1)).any p = ((l.take k).any p || p s) := by
 rw [List.take_add_one, hs]; simp
theorem filter_at {l : List Str} {p : Str → Bool} {k : Nat} {s : Str} (h : l[k]? = some s) (hp : p s = true) : (l.filter p)[((l.take k).filter p).length]? = some s := by
 have hk := (List.getElem?_eq_some_iff.1 h).1
 have e : l = l.take k ++ s :: l.drop (k + 1) := by
  have := List.take_append_drop k l
  rw [List.drop_eq_getElem_cons hk] at this
  rw [List.getElem?_eq_getElem hk] at h
  injection h with h
  rw [h] at this; exact this.symm
 have e2 : l.filter p = (l.take k).filter p ++ s :: (l.drop (k + 1)).filter p := by
  rw [show l.filter p = (l.take k ++ s :: l.drop (k + 1)).filter p by rw [← e]]
  simp [hp]
 rw [e2]; simp
theorem geqs {a b : Str} (h : Wt.lt a b = true) : ¬ (!Op.bytesLess a b) = true := by
 have : Op.bytesLess a b = true := h
 simp [this]
structure Pre (S T : State) : Prop where
 st : ∃ r, T.strongs = S.strongs ++ r
 bd : S.bind ≠ 0 → T.bind ≠ 0
theorem pre_of {l : List Ob.Obj} (ok : OkL l) (k : Nat) (n : Str) : Pre (all (Sy.of (Us (l.take k)) n)) (all (Sy.of (Us l) n)) := by
 obtain ⟨V, hV⟩ := Us_split l k
 have hb := ok.okB
 rw [hV] at hb
 have h1 : ∀ x ∈ Sy.of (Us (l.take k)) n, 1 ≤ x.sym.bind ∧ x.sym.bind ≤ 5 := fun x hx => hb x (List.mem_append.2 (.inl (List.mem_filter.1 hx).1))
 have h2 : ∀ x ∈ Sy.of V n, 1 ≤ x.sym.bind ∧ x.sym.bind ≤ 5 := fun x hx => hb x (List.mem_append.2 (.inr (List.mem_filter.1 hx).1))
 rw [hV, of_app, all_append h1 h2]
 have w1 := wf_all h1
 have w2 := wf_all h2
 refine ⟨⟨_, rfl⟩, fun h h0 => ?_⟩
 rcases w1.b with e | e | e | e <;> rcases w2.b with e' | e' | e' | e' <;> simp [join, strength, e, e'] at h h0
theorem names_sub {l : List Ob.Obj} (k : Nat) : (Sy.names (Us l)).filter (fun s => decide (s ∈ Sy.names (Us (l.take k)))) = Sy.names (Us (l.take k)) := by
 obtain ⟨V, hV⟩ := Us_split l k
 have sa := Sy.names_srt (Us (l.take k))
 have sb := (Sy.names_srt (Us l)).filter (fun s => decide (s ∈ Sy.names (Us (l.take k))))
 have lt : ∀ {a b : Str}, Wt.lt a b = true → a ≤ b := fun {a b} h => by
  have := (Wt.lt_eq a b).symm.trans h
  exact List.le_of_lt (of_decide_eq_true this)
 refine List.Perm.eq_of_pairwise (le := fun a b : Str => a ≤ b) (fun a b _ _ h1 h2 => List.le_antisymm h1 h2) (sb.imp lt) (sa.imp lt) ?_
 refine (List.perm_ext_iff_of_nodup ((Sy.names_srt (Us l)).nodup.filter _) sa.nodup).2 fun s => ?_
 rw [List.mem_filter, decide_eq_true_eq]
 refine ⟨fun h => h.2, fun h => ⟨?_, h⟩⟩
 rw [Sy.mem_names] at h ⊢
 rw [hV, of_app]
 intro e
 exact h (List.append_eq_nil_iff.1 e).1
theorem okS_of {l : List Ob.Obj} (h : rightO l = true) : ∀ o ∈ l, ∀ s ∈ o.syms, Sy.OkS (Sy.toB s) := fun o ho s hs => by
 have hv := validO_mem ((rightO_iff.1 h).2 o ho).2.2 s hs
 obtain ⟨_, _, _, h4, _, h5⟩ := Ob.valid_iff.1 hv
 have h6 := Ob.bind_le h5
 refine ⟨⟨h6.1, h6.2.1⟩, fun h => ?_, fun h => ?_⟩
 ·have : ¬ s.bind = 3 := by intro e; simp only [Sy.toB] at h; omega
  have h' : s.bind = 4 ∨ s.bind = 5 := by simp only [Sy.toB] at h; omega
  simp only [Ob.bindOk, this, h', if_true, if_false] at h5
  simpa [Sy.toB] using h5
 ·have a1 : ¬ s.bind = 3 := by intro e; simp only [Sy.toB] at h; omega
  have a2 : ¬ (s.bind = 4 ∨ s.bind = 5) := by simp only [Sy.toB] at h; omega
  simp only [Ob.bindOk, a1, a2, if_false, Bool.and_eq_true, decide_eq_true_eq] at h5
  exact h5.2
theorem okS_us {l : List Ob.Obj} (h : rightO l = true) : ∀ u ∈ Us l, Sy.OkS u.sym := fun u hu => by
 obtain ⟨o, ho, s, hs, i, rfl⟩ := usesL_mem hu
 exact okS_of h o ho s hs
end Go.AL.Tb

namespace Go.AL.Sc
open Go Go.AL Go.AL.Bd Go.AL.Tb
structure Mem where
 name : Str
 time : Int
 uid : Int
 gid : Int
 mode : Int
 data : List UInt8
deriving DecidableEq
abbrev Mem.enc (m : Mem) : List D := [sD m.name, vI m.time, vI m.uid, vI m.gid, vI m.mode, LB m.data]
abbrev LM (l : List Mem) : D := .list .any (l.map Mem.enc)
abbrev eD (d : List Str) : List D := [LS d]
abbrev LD (l : List (List Str)) : D := .list .any (l.map eD)
structure View where
 members : List Mem
 defs : List (List Str)
abbrev View.enc (v : View) : List D := [LM v.members, LD v.defs]
structure Unt where
 file : Str
 member : Str
 index : Int
deriving DecidableEq
abbrev Unt.enc (u : Unt) : List D := [sD u.file, sD u.member, vI u.index]
abbrev LUn (l : List Unt) : D := .list .any (l.map Unt.enc)
def dec (b : List UInt8) : Ob.Obj × Int := match Ob.decO b with | .ok (l, x) => (⟨l, x⟩, 0) | .error e => (⟨[], []⟩, e)
def isDef (s : Ob.Sym) : Bool := decide (s.bind = 1) || decide (s.bind = 2)
def defsOf (b : List UInt8) : List Str := ((dec b).1.syms.filter isDef).map (·.name)
structure Ls where
 us : List Unt
 os : List Ob.Obj
 ld : List (Str × Nat)
def memAt (v : View) (i : Nat) : Mem := v.members.getD i ⟨[], 0, 0, 0, 0, []⟩
def loadM (S : Ls) (f : Str) (v : View) (i : Nat) : Ls := ⟨S.us ++ [⟨f, (memAt v i).name, (i : Int)⟩], S.os ++ [(dec (memAt v i).data).1], S.ld ++ [(f, i)]⟩
def loadO (S : Ls) (f : Str) (o : Ob.Obj) : Ls := ⟨S.us ++ [⟨f, [], 0⟩], S.os ++ [o], S.ld⟩
def can (S : Ls) (f : Str) (v : View) (i : Nat) : Bool := !decide ((f, i) ∈ S.ld) && (decide (i < v.defs.length) && (v.defs.getD i []).any (wd (Us S.os)))
def passN (f : Str) (v : View) : Nat → Ls → Ls × Nat
 | 0, S => (S, 0)
 | k + 1, S => if can (passN f v k S).1 f v k = true then (loadM (passN f v k S).1 f v k, (passN f v k S).2 + 1) else passN f v k S
def pass (f : Str) (v : View) (S : Ls) : Ls × Nat := passN f v v.members.length S
def arch (f : Str) (v : View) : Nat → Ls → Ls × Nat
 | 0, S => (S, 0)
 | n + 1, S => if (pass f v S).2 = 0 then ((pass f v S).1, 1) else ((arch f v n (pass f v S).1).1, (arch f v n (pass f v S).1).2 + 1)
def canL (S : Ls) (f : Str) (v : View) : List Nat := (List.range v.members.length).filter (can S f v)
def loaded (us : List Unt) (f m : Str) (i : Nat) : Bool := us.any fun u => decide (u.file = f) && (decide (u.index = (i : Int)) && decide (u.member = m))
def canR (us : List Unt) (os : List Ob.Obj) (f : Str) (v : View) (i : Nat) : Bool := (v.defs.getD i []).any (wd (Us os)) && !loaded us f (memAt v i).name i
structure Inv (f : Str) (v : View) (S : Ls) : Prop where
 fwd : ∀ u ∈ S.us, u.file = f → ∃ i, u.index = (i : Nat) ∧ i < v.members.length ∧ u.member = (memAt v i).name ∧ (f, i) ∈ S.ld
 bwd : ∀ i, (f, i) ∈ S.ld → i < v.members.length ∧ ⟨f, (memAt v i).name, (i : Int)⟩ ∈ S.us
 nd : S.ld.Nodup
theorem loaded_eq {f : Str} {v : View} {S : Ls} (h : Inv f v S) (i : Nat) : loaded S.us f (memAt v i).name i = decide ((f, i) ∈ S.ld) := by
 rw [Bool.eq_iff_iff, decide_eq_true_eq]
 simp only [loaded, List.any_eq_true, Bool.and_eq_true, decide_eq_true_eq]
 constructor
 ·rintro ⟨u, hu, h1, h2, h3⟩
  obtain ⟨j, e1, _, _, e3⟩ := h.fwd u hu h1
  have : j = i := by rw [h2] at e1; omega
  rw [← this]; exact e3
 ·intro hm
  exact ⟨_, (h.bwd i hm).2, rfl, rfl, rfl⟩
theorem can_eq {f : Str} {v : View} {S : Ls} (h : Inv f v S) (hv : v.defs.length = v.members.length) {i : Nat} (hi : i < v.members.length) : can S f v i = canR S.us S.os f v i := by
 unfold can canR
 rw [loaded_eq h, decide_eq_true (by omega : i < v.defs.length), Bool.true_and, Bool.and_comm]
theorem Inv.loadM {f : Str} {v : View} {S : Ls} (h : Inv f v S) {i : Nat} (hi : i < v.members.length) (hn : ¬ (f, i) ∈ S.ld) : Inv f v (Sc.loadM S f v i) := by
 refine ⟨fun u hu hf => ?_, fun j hj => ?_, ?_⟩
 ·simp only [Sc.loadM, List.mem_append, List.mem_singleton] at hu ⊢
  rcases hu with hu | rfl
  ·obtain ⟨j, e1, e2, e3, e4⟩ := h.fwd u hu hf
   exact ⟨j, e1, e2, e3, .inl e4⟩
  ·exact ⟨i, rfl, hi, rfl, .inr rfl⟩
 ·simp only [Sc.loadM, List.mem_append, List.mem_singleton, Prod.mk.injEq, true_and] at hj ⊢
  rcases hj with hj | rfl
  ·exact ⟨(h.bwd j hj).1, .inl (h.bwd j hj).2⟩
  ·exact ⟨hi, .inr rfl⟩
 ·simp only [Sc.loadM]
  rw [List.nodup_append]
  exact ⟨h.nd, by simp, fun a ha b hb e => hn (by simp at hb; rw [← hb, ← e]; exact ha)⟩
theorem Inv.loadM' {f g : Str} {v v' : View} {S : Ls} (h : Inv f v S) (hg : g ≠ f) {i : Nat} (hn : ¬ (g, i) ∈ S.ld) : Inv f v (Sc.loadM S g v' i) := by
 refine ⟨fun u hu hf => ?_, fun j hj => ?_, ?_⟩
 ·simp only [Sc.loadM, List.mem_append, List.mem_singleton] at hu ⊢
  rcases hu with hu | rfl
  ·obtain ⟨j, e1, e2, e3, e4⟩ := h.fwd u hu hf
   exact ⟨j, e1, e2, e3, .inl e4⟩
  ·exact absurd hf hg
 ·simp only [Sc.loadM, List.mem_append, List.mem_singleton, Prod.mk.injEq] at hj ⊢
  rcases hj with hj | ⟨e, _⟩
  ·exact ⟨(h.bwd j hj).1, .inl (h.bwd j hj).2⟩
  ·exact absurd e.symm hg
 ·simp only [Sc.loadM]
  rw [List.nodup_append]
  exact ⟨h.nd, by simp, fun a ha b hb e => hn (by simp at hb; rw [← hb, ← e]; exact ha)⟩
theorem Inv.loadO {f g : Str} {v : View} {S : Ls} (h : Inv f v S) (hg : g ≠ f) (o : Ob.Obj) : Inv f v (Sc.loadO S g o) := by
 refine ⟨fun u hu hf => ?_, fun j hj => ?_, h.nd⟩
 ·simp only [Sc.loadO, List.mem_append, List.mem_singleton] at hu ⊢
  rcases hu with hu | rfl
  ·exact h.fwd u hu hf
  ·exact absurd hf hg
 ·simp only [Sc.loadO] at hj ⊢
  exact ⟨(h.bwd j hj).1, List.mem_append.2 (.inl (h.bwd j hj).2)⟩
theorem Inv.start (f : Str) (v : View) : Inv f v ⟨[], [], []⟩ := ⟨fun u hu => by simp at hu, fun i hi => by simp at hi, List.nodup_nil⟩
theorem can_not {S : Ls} {f : Str} {v : View} {i : Nat} (h : can S f v i = true) : ¬ (f, i) ∈ S.ld := by
 simp only [can, Bool.and_eq_true, Bool.not_eq_true', decide_eq_false_iff_not] at h
 exact h.1
theorem Inv.passN {f : Str} {v : View} {S : Ls} (h : Inv f v S) : ∀ k, k ≤ v.members.length → Inv f v (Sc.passN f v k S).1
 | 0, _ => h
 | k + 1, hk => by
  have ih := h.passN k (by omega)
  simp only [Sc.passN]
  split
  ·rename_i hc; exact ih.loadM (by omega) (can_not hc)
  ·exact ih
theorem Inv.pass {f : Str} {v : View} {S : Ls} (h : Inv f v S) : Inv f v (Sc.pass f v S).1 := h.passN _ (Nat.le_refl _)
theorem Inv.passN' {f g : Str} {v v' : View} {S : Ls} (h : Inv f v S) (hg : g ≠ f) : ∀ k, Inv f v (Sc.passN g v' k S).1
 | 0 => h
 | k + 1 => by
  have ih := h.passN' (v' := v') hg k
  simp only [Sc.passN]
  split
  ·rename_i hc; exact ih.loadM' hg (can_not hc)
  ·exact ih
theorem Inv.pass' {f g : Str} {v v' : View} {S : Ls} (h : Inv f v S) (hg : g ≠ f) : Inv f v (Sc.pass g v' S).1 := h.passN' hg _
theorem Inv.arch {f : Str} {v : View} : ∀ (n : Nat) {S : Ls}, Inv f v S → Inv f v (Sc.arch f v n S).1
 | 0, S, h => h
 | n + 1, S, h => by
  simp only [Sc.arch]
  split
  ·exact h.pass
  ·exact Inv.arch n h.pass
theorem Inv.arch' {f g : Str} {v v' : View} (hg : g ≠ f) : ∀ (n : Nat) {S : Ls}, Inv f v S → Inv f v (Sc.arch g v' n S).1
 | 0, S, h => h
 | n + 1, S, h => by
  simp only [Sc.arch]
  split
  ·exact h.pass' hg
  ·exact Inv.arch' hg n (h.pass' hg)
theorem passN_len (f : Str) (v : View) (S : Ls) : ∀ k, (passN f v k S).1.ld.length = S.ld.length + (passN f v k S).2 ∧ (passN f v k S).1.us.length = S.us.length + (passN f v k S).2 ∧ (passN f v k S).1.os.length = S.os.length + (passN f v k S).2 ∧ (passN f v k S).2 ≤ k
 | 0 => by simp [passN]
 | k + 1 => by
  have ih := passN_len f v S k
  simp only [passN]
  split
  ·simp only [loadM, List.length_append, List.length_singleton]; omega
  ·omega
theorem passN_zero (f : Str) (v : View) (S : Ls) : ∀ k, (passN f v k S).2 = 0 → (passN f v k S).1 = S ∧ ∀ i < k, can S f v i = false
 | 0, _ => ⟨rfl, fun i hi => by omega⟩
 | k + 1, h => by
  simp only [passN] at h ⊢
  split at h
  ·simp at h
  ·rename_i hc
   obtain ⟨h1, h2⟩ := passN_zero f v S k h
   rw [if_neg hc]
   refine ⟨h1, fun i hi => ?_⟩
   rcases Nat.lt_or_ge i k with h3 | h3
   ·exact h2 i h3
   ·have : i = k := by omega
    subst this
    rw [h1] at hc
    simpa using hc
theorem passN_none {f : Str} {v : View} {S : Ls} : ∀ k, (∀ i < k, can S f v i = false) → passN f v k S = (S, 0)
 | 0, _ => rfl
 | k + 1, h => by
  have ih := passN_none k fun i hi => h i (by omega)
  simp only [passN, ih]
  rw [h k (by omega)]
  simp
theorem ld_bound {f : Str} {v : View} {S : Ls} (h : Inv f v S) : (S.ld.filter fun p => decide (p.1 = f)).length ≤ v.members.length := by
 have h1 : ((S.ld.filter fun p => decide (p.1 = f)).map (·.2)).Nodup := by
  rw [List.nodup_iff_pairwise_ne, List.pairwise_map]
  have h2 : (S.ld.filter fun p => decide (p.1 = f)).Nodup := h.nd.filter _
  have h3 : ∀ p ∈ S.ld.filter (fun p => decide (p.1 = f)), p.1 = f := fun p hp => by simpa using (List.mem_filter.1 hp).2
  refine List.Pairwise.imp_of_mem (fun {a b} ha hb hne e => hne ?_) (List.nodup_iff_pairwise_ne.1 h2)
  exact Prod.ext ((h3 a ha).trans (h3 b hb).symm) e
 have h4 : ∀ i ∈ (S.ld.filter fun p => decide (p.1 = f)).map (·.2), i ∈ List.range v.members.length := fun i hi => by
  obtain ⟨p, hp, rfl⟩ := List.mem_map.1 hi
  have hp' := List.mem_filter.1 hp
  have hf : p.1 = f := by simpa using hp'.2
  exact List.mem_range.2 (h.bwd p.2 (by rw [← hf]; exact hp'.1)).1
 have := (List.nodup_range (n := v.members.length))
 have h5 := List.Nodup.length_le_of_subset h1 h4
 simpa using h5
structure OkO (o : Ob.Obj) : Prop where
 n : o.syms.length ≤ 100
 nm : ∀ s ∈ o.syms, s.name.length ≤ 300
 ok : ∀ s ∈ o.syms, 1 ≤ s.bind ∧ s.bind ≤ 5 ∧ 0 ≤ s.size ∧ 0 ≤ s.align
structure OkS (S : Ls) (w : Nat) : Prop where
 len : S.os.length ≤ w
 os : ∀ o ∈ S.os, OkO o
 us : S.us.length = S.os.length
 ld : ∀ p ∈ S.ld, p.1.length ≤ 1000 ∧ p.2 ≤ 1000
theorem OkS.okL {S : Ls} {w : Nat} (h : OkS S w) (hw : w ≤ 400) : OkL S.os := by
 refine ⟨by have := h.len; omega, ?_, fun o ho => (h.os o ho).nm, fun o ho => (h.os o ho).ok⟩
 have := usesL_len (n := 0) (m := 100) fun o ho => (h.os o ho).n
 have := h.len
 simp only [Us]; omega
theorem OkS.mono {S : Ls} {w w' : Nat} (h : OkS S w) (hw : w ≤ w') : OkS S w' := ⟨by have := h.len; omega, h.os, h.us, h.ld⟩
theorem encL_ge : ∀ (l : List Ob.Sym), l.length * 10 ≤ (Ob.encL l).length
 | [] => by simp [Ob.encL]
 | s :: l => by
  have ih := encL_ge l
  have e : Ob.encL (s :: l) = Ob.encS s ++ Ob.encL l := by simp [Ob.encL]
  rw [e, List.length_append, Ob.encS_len, List.length_cons]; omega
theorem dec_ok {b : List UInt8} (hb : b.length ≤ 1000) : OkO (dec b).1 := by
 unfold dec
 cases hd : Ob.decO b with
 | error e => exact ⟨by simp, fun s hs => by simp at hs, fun s hs => by simp at hs⟩
 | ok p =>
  obtain ⟨l, x⟩ := p
  obtain ⟨h1, h2⟩ := Ob.enc_dec hd
  have h3 := encL_ge l
  have h4 : (Ob.encO ⟨l, x⟩).length = b.length := by rw [h2]
  simp only [Ob.encO, List.length_append] at h4
  have h5 : Ob.magic.length = 4 := rfl
  have h6 : (Ap.W4 l.length).length = 4 := rfl
  refine ⟨by show l.length ≤ 100; omega, fun s hs => ?_, fun s hs => ?_⟩
  ·have := (Ob.valid_iff.1 (validO_mem h1 s hs)).2.1; omega
  ·obtain ⟨_, _, _, h7, _, h8⟩ := Ob.valid_iff.1 (validO_mem h1 s hs)
   have h9 := Ob.bind_le h8
   exact ⟨h9.1, h9.2.1, h7, h9.2.2.1⟩
structure OkV (v : View) : Prop where
 n : v.members.length ≤ 12
 d : v.defs.length = v.members.length
 b : ∀ m ∈ v.members, m.data.length ≤ 1000
theorem memAt_mem {v : View} {i : Nat} (h : i < v.members.length) : memAt v i ∈ v.members ∧ v.members[i]? = some (memAt v i) := by
 have e : memAt v i = v.members[i] := by simp [memAt, h]
 rw [e]
 exact ⟨List.getElem_mem h, by simp [h]⟩
theorem OkS.loadM {S : Ls} {w : Nat} (h : OkS S w) {f : Str} {v : View} {i : Nat} (hv : OkV v) (hi : i < v.members.length) (hf : f.length ≤ 1000) : OkS (Sc.loadM S f v i) (w + 1) := by
 refine ⟨?_, fun o ho => ?_, ?_, fun p hp => ?_⟩
 ·simp only [Sc.loadM, List.length_append, List.length_singleton]; have := h.len; omega
 ·simp only [Sc.loadM, List.mem_append, List.mem_singleton] at ho
  rcases ho with ho | rfl
  ·exact h.os o ho
  ·exact dec_ok (hv.b _ (memAt_mem hi).1)
 ·simp only [Sc.loadM, List.length_append, List.length_singleton]; rw [h.us]
 ·simp only [Sc.loadM, List.mem_append, List.mem_singleton] at hp
  rcases hp with hp | rfl
  ·exact h.ld p hp
  ·have := hv.n; exact ⟨hf, by show i ≤ 1000; omega⟩
theorem OkS.loadO {S : Ls} {w : Nat} (h : OkS S w) (f : Str) {o : Ob.Obj} (ho : OkO o) : OkS (Sc.loadO S f o) (w + 1) := by
 refine ⟨?_, fun x hx => ?_, ?_, h.ld⟩
 ·simp only [Sc.loadO, List.length_append, List.length_singleton]; have := h.len; omega
 ·simp only [Sc.loadO, List.mem_append, List.mem_singleton] at hx
  rcases hx with hx | rfl
  ·exact h.os x hx
  ·exact ho
 ·simp only [Sc.loadO, List.length_append, List.length_singleton]; rw [h.us]
theorem OkS.passN {S : Ls} {w : Nat} (h : OkS S w) {f : Str} {v : View} (hv : OkV v) (hf : f.length ≤ 1000) : ∀ k, k ≤ v.members.length → OkS (Sc.passN f v k S).1 (w + k)
 | 0, _ => h
 | k + 1, hk => by
  have ih := h.passN hv hf k (by omega)
  simp only [Sc.passN]
  split
  ·exact ih.loadM hv (by omega) hf
  ·exact ih.mono (by omega)
theorem right_okO {l : List Ob.Obj} (h : rightO l = true) : ∀ o ∈ l, OkO o := fun o ho =>
 ⟨by have := ((rightO_iff.1 h).2 o ho).1; omega, (right_ok h).nm o ho, (right_ok h).ok o ho⟩
end Go.AL.Sc

namespace Go.AL.Sc
open Go Go.AL Go.AL.Bd Go.AL.Tb
def lft (f : Str) (v : View) (S : Ls) : Nat := ((List.range v.members.length).filter fun i => decide (¬ (f, i) ∈ S.ld)).length
theorem lft_le (f : Str) (v : View) (S : Ls) : lft f v S ≤ v.members.length := by
 have := List.length_filter_le (fun i => decide (¬ (f, i) ∈ S.ld)) (List.range v.members.length)
 simpa [lft] using this
theorem lft_loadM {f : Str} {v : View} {S : Ls} {i : Nat} (hi : i < v.members.length) (hn : ¬ (f, i) ∈ S.ld) : lft f v (loadM S f v i) + 1 = lft f v S := by
 have hd : ((List.range v.members.length).filter fun i => decide (¬ (f, i) ∈ S.ld)).Nodup := (List.nodup_range).filter _
 have hm : i ∈ (List.range v.members.length).filter fun i => decide (¬ (f, i) ∈ S.ld) := by
  rw [List.mem_filter]; exact ⟨List.mem_range.2 hi, by simpa using hn⟩
 have e : ((List.range v.members.length).filter fun j => decide (¬ (f, j) ∈ (loadM S f v i).ld)) = ((List.range v.members.length).filter fun i => decide (¬ (f, i) ∈ S.ld)).erase i := by
  rw [hd.erase_eq_filter, List.filter_filter]
  refine List.filter_congr fun j _ => ?_
  simp only [loadM, List.mem_append, List.mem_singleton, Prod.mk.injEq, true_and, not_or, bne]
  by_cases h1 : j = i <;> by_cases h2 : (f, j) ∈ S.ld <;> simp [h1, h2]
 unfold lft
 rw [e, List.length_erase_of_mem hm]
 have := List.length_pos_of_mem hm
 omega
theorem passN_lft {f : Str} {v : View} {S : Ls} : ∀ k, k ≤ v.members.length → lft f v (passN f v k S).1 + (passN f v k S).2 = lft f v S
 | 0, _ => rfl
 | k + 1, hk => by
  have ih := passN_lft (f := f) (v := v) (S := S) k (by omega)
  simp only [passN]
  split
  ·rename_i hc
   have := lft_loadM (f := f) (v := v) (S := (passN f v k S).1) (i := k) (by omega) (can_not hc)
   simp only []; omega
  ·exact ih
theorem pass_lft (f : Str) (v : View) (S : Ls) : lft f v (pass f v S).1 + (pass f v S).2 = lft f v S := passN_lft _ (Nat.le_refl _)
theorem arch_done {f : Str} {v : View} : ∀ (F : Nat) {S : Ls}, lft f v S < F → (∀ i < v.members.length, can (arch f v F S).1 f v i = false) ∧ 1 ≤ (arch f v F S).2 ∧ (arch f v F S).2 + lft f v (arch f v F S).1 ≤ lft f v S + 1
 | 0, S, h => by omega
 | F + 1, S, h => by
  have hl := pass_lft f v S
  simp only [arch]
  split
  ·rename_i hz
   obtain ⟨h1, h2⟩ := passN_zero f v S _ hz
   refine ⟨fun i hi => ?_, Nat.le_refl _, ?_⟩
   ·show can (pass f v S).1 f v i = false
    rw [pass, h1]; exact h2 i hi
   ·show 1 + lft f v (pass f v S).1 ≤ _; omega
  ·rename_i hz
   obtain ⟨h1, h2, h3⟩ := arch_done (f := f) (v := v) F (S := (pass f v S).1) (by omega)
   exact ⟨h1, by simp only []; omega, by simp only []; omega⟩
theorem arch_fuel {f : Str} {v : View} : ∀ (F G : Nat) {S : Ls}, lft f v S < F → lft f v S < G → arch f v F S = arch f v G S
 | 0, _, S, h, _ => by omega
 | _, 0, S, _, h => by omega
 | F + 1, G + 1, S, h, h' => by
  have hl := pass_lft f v S
  simp only [arch]
  split
  ·rfl
  ·rename_i hz
   rw [arch_fuel (f := f) (v := v) F G (S := (pass f v S).1) (by omega) (by omega)]
theorem OkS.pass {S : Ls} {w : Nat} (h : OkS S w) {f : Str} {v : View} (hv : OkV v) (hf : f.length ≤ 1000) : OkS (Sc.pass f v S).1 (w + (Sc.pass f v S).2) := by
 have h1 := h.passN hv hf _ (Nat.le_refl _)
 have h2 := (passN_len f v S v.members.length).2.2.1
 refine ⟨?_, h1.os, h1.us, h1.ld⟩
 show (Sc.passN f v v.members.length S).1.os.length ≤ w + (Sc.passN f v v.members.length S).2
 have := h.len
 omega
theorem OkS.arch {f : Str} {v : View} (hv : OkV v) (hf : f.length ≤ 1000) : ∀ (F : Nat) {S : Ls} {w : Nat}, OkS S w → OkS (Sc.arch f v F S).1 (w + lft f v S)
 | 0, S, w, h => h.mono (by omega)
 | F + 1, S, w, h => by
  have hl := pass_lft f v S
  have h1 := h.pass hv hf
  simp only [Sc.arch]
  split
  ·exact h1.mono (by omega)
  ·exact (OkS.arch hv hf F h1).mono (by omega)
structure AI (f : Str) (v : View) (F : Nat) (S0 : Ls) (w k : Nat) (S : Ls) : Prop where
 g : ∃ G, lft f v S < G ∧ arch f v F S0 = ((arch f v G S).1, (arch f v G S).2 + k)
 d : ∃ d, k ≤ d ∧ d + lft f v S ≤ v.members.length ∧ OkS S (w + d)
theorem AI.start {f : Str} {v : View} {F : Nat} {S0 : Ls} {w : Nat} (h : lft f v S0 < F) (ok : OkS S0 w) : AI f v F S0 w 0 S0 :=
 ⟨⟨F, h, rfl⟩, 0, Nat.le_refl _, by have := lft_le f v S0; omega, ok⟩
theorem AI.last {f : Str} {v : View} {F : Nat} {S0 : Ls} {w k : Nat} {S : Ls} (h : AI f v F S0 w k S) (hz : (pass f v S).2 = 0) : arch f v F S0 = ((pass f v S).1, k + 1) := by
 obtain ⟨G, h1, h2⟩ := h.g
 cases G with
 | zero => omega
 | succ G =>
  rw [h2]
  simp only [arch, if_pos hz]
  rw [Nat.add_comm]
theorem AI.next {f : Str} {v : View} {F : Nat} {S0 : Ls} {w k : Nat} {S : Ls} (h : AI f v F S0 w k S) (hv : OkV v) (hf : f.length ≤ 1000) (hz : ¬ (pass f v S).2 = 0) : AI f v F S0 w (k + 1) (pass f v S).1 ∧ lft f v (pass f v S).1 < lft f v S := by
 have hl := pass_lft f v S
 obtain ⟨G, h1, h2⟩ := h.g
 obtain ⟨d, h3, h4, h5⟩ := h.d
 refine ⟨⟨?_, d + (pass f v S).2, by omega, by omega, ?_⟩, by omega⟩
 ·cases G with
  | zero => omega
  | succ G =>
   refine ⟨G, by omega, ?_⟩
   rw [h2]
   simp only [arch, if_neg hz]
   rw [Nat.add_assoc, Nat.add_comm 1 k]
 ·have := h5.pass hv hf
  rw [Nat.add_assoc] at this
  exact this
theorem AI.kle {f : Str} {v : View} {F : Nat} {S0 : Ls} {w k : Nat} {S : Ls} (h : AI f v F S0 w k S) : k ≤ v.members.length := by
 obtain ⟨d, h3, h4, h5⟩ := h.d; omega
theorem AI.ok {f : Str} {v : View} {F : Nat} {S0 : Ls} {w k : Nat} {S : Ls} (h : AI f v F S0 w k S) : OkS S (w + v.members.length) := by
 obtain ⟨d, h3, h4, h5⟩ := h.d; exact h5.mono (by omega)
end Go.AL.Sc

namespace Go.AL.Hd
open Go Go.AL
def dgt (d : Nat) : UInt8 := UInt8.ofNat (48 + d)
theorem dgt_nat {d : Nat} (h : d < 10) : (dgt d).toNat = 48 + d := by
 simp only [dgt, UInt8.toNat_ofNat']; omega
def dig (b n : Nat) : List UInt8 :=
 if h : b < 2 ∨ n < b then [dgt n] else dig b (n / b) ++ [dgt (n % b)]
termination_by n
decreasing_by exact Nat.div_lt_self (by omega) (by omega)
theorem dig_lt {b n : Nat} (h : n < b) : dig b n = [dgt n] := by rw [dig, dif_pos (.inr h)]
theorem dig_ge {b n : Nat} (hb : 2 ≤ b) (h : b ≤ n) : dig b n = dig b (n / b) ++ [dgt (n % b)] := by rw [dig, dif_neg (by omega)]
theorem dig_ne (b n : Nat) : dig b n ≠ [] := by
 rw [dig]; split <;> simp
theorem dig_pos (b n : Nat) : 0 < (dig b n).length := List.length_pos_iff.2 (dig_ne b n)
theorem dig_len {b : Nat} (hb : 2 ≤ b) : ∀ (k n : Nat), (dig b n).length ≤ k + 1 ↔ n < b ^ (k + 1)
 | 0, n => by
  simp only [Nat.zero_add, Nat.pow_one]
  by_cases h : n < b
  ·simp [dig_lt h, h]
  ·rw [dig_ge hb (by omega)]
   have := dig_pos b (n / b)
   simp only [List.length_append, List.length_singleton]; omega
 | k + 1, n => by
  by_cases h : n < b
  ·rw [dig_lt h]
   have : b ^ 1 ≤ b ^ (k + 1 + 1) := Nat.pow_le_pow_right (by omega) (by omega)
   rw [Nat.pow_one] at this
   simp only [List.length_singleton]; omega
  ·rw [dig_ge hb (by omega), List.length_append, List.length_singleton, Nat.add_le_add_iff_right, dig_len hb k, Nat.div_lt_iff_lt_mul (by omega), ← Nat.pow_succ]
def isd (b : Nat) (c : UInt8) : Bool := decide (48 ≤ c.toNat) && decide (c.toNat - 48 < b)
theorem isd_iff {b : Nat} {c : UInt8} : isd b c = true ↔ 48 ≤ c.toNat ∧ c.toNat - 48 < b := by simp [isd]
def val (b : Nat) (l : List UInt8) : Nat := l.foldl (fun n c => n * b + (c.toNat - 48)) 0
theorem val_snoc (b : Nat) (l : List UInt8) (c : UInt8) : val b (l ++ [c]) = val b l * b + (c.toNat - 48) := by simp [val]
theorem dig_isd {b : Nat} (hb : 2 ≤ b) (hb2 : b ≤ 10) (n : Nat) : ∀ c ∈ dig b n, isd b c = true := by
 induction n using Nat.strongRecOn with
 | ind n ih =>
  intro c hc
  by_cases h : n < b
  ·rw [dig_lt h] at hc
   simp at hc; subst hc
   rw [isd_iff, dgt_nat (by omega)]; omega
  ·rw [dig_ge hb (by omega), List.mem_append] at hc
   rcases hc with hc | hc
   ·exact ih _ (Nat.div_lt_self (by omega) (by omega)) c hc
   ·simp at hc; subst hc
    have := Nat.mod_lt n (show 0 < b by omega)
    rw [isd_iff, dgt_nat (by omega)]; omega
theorem val_dig {b : Nat} (hb : 2 ≤ b) (hb2 : b ≤ 10) (n : Nat) : val b (dig b n) = n := by
 induction n using Nat.strongRecOn with
 | ind n ih =>
  by_cases h : n < b
  ·rw [dig_lt h]; simp [val, dgt_nat (show n < 10 by omega)]
  ·have := Nat.mod_lt n (show 0 < b by omega)
   rw [dig_ge hb (by omega), val_snoc, ih _ (Nat.div_lt_self (by omega) (by omega)), dgt_nat (by omega)]
   have := Nat.div_add_mod n b
   rw [Nat.mul_comm] at this; omega
theorem dgt_of {b : Nat} (hb2 : b ≤ 10) {c : UInt8} (h : isd b c = true) : dgt (c.toNat - 48) = c := by
 rw [isd_iff] at h
 apply UInt8.toNat_inj.1
 rw [dgt_nat (by omega)]; omega
theorem val_pos {b : Nat} (hb : 2 ≤ b) : ∀ {c : UInt8} {l : List UInt8}, (∀ x ∈ c :: l, isd b x = true) → c ≠ 48 → 1 ≤ val b (c :: l) := by
 intro c l
 rw [← List.reverse_reverse l]
 generalize l.reverse = m
 induction m with
 | nil =>
  intro h hc
  have := isd_iff.1 (h c (by simp))
  have h48 : c.toNat ≠ 48 := fun e => hc (UInt8.toNat_inj.1 (by simpa using e))
  simp [val]; omega
 | cons x m ih =>
  intro h hc
  rw [List.reverse_cons] at h ⊢
  have h1 := ih (fun y hy => h y (by simp at hy ⊢; rcases hy with rfl | hy; exact .inl rfl; exact .inr (.inl hy))) hc
  rw [show c :: (m.reverse ++ [x]) = (c :: m.reverse) ++ [x] by simp, val_snoc]
  have : 1 * 1 ≤ val b (c :: m.reverse) * b := Nat.mul_le_mul h1 (by omega)
  omega
def lead (l : List UInt8) : Prop := l.length = 1 ∨ l.head? ≠ some 48
instance (l : List UInt8) : Decidable (lead l) := inferInstanceAs (Decidable (_ ∨ _))
theorem dig_val {b : Nat} (hb : 2 ≤ b) (hb2 : b ≤ 10) : ∀ (l : List UInt8), l ≠ [] → (∀ x ∈ l, isd b x = true) → lead l → dig b (val b l) = l := by
 intro l
 rw [← List.reverse_reverse l]
 generalize l.reverse = m
 induction m with
 | nil => intro h; exact absurd rfl h
 | cons x m ih =>
  intro _ h hl
  rw [List.reverse_cons] at h hl ⊢
  have hx := h x (by simp)
  have hx' := isd_iff.1 hx
  rw [val_snoc]
  cases hm : m.reverse with
  | nil =>
   simp only [val, List.foldl_nil, Nat.zero_mul, Nat.zero_add, List.nil_append]
   rw [dig_lt (by omega), dgt_of hb2 hx]
  | cons c r =>
   have hc : c ≠ 48 := by
    rcases hl with hl | hl
    ·rw [hm] at hl; simp at hl
    ·rw [hm] at hl; simpa using hl
   have h2 : ∀ y ∈ m.reverse, isd b y = true := fun y hy => h y (by simp at hy ⊢; exact .inl hy)
   have ih' := ih (by rw [hm]; simp) h2 (.inr (by rw [hm]; simpa using hc))
   have hp : 1 ≤ val b m.reverse := by
    rw [hm]; rw [hm] at h2
    exact val_pos hb h2 hc
   rw [← hm]
   generalize val b m.reverse = v at *
   have hvb : 1 * b ≤ v * b := Nat.mul_le_mul_right b hp
   rw [dig_ge hb (by omega)]
   have e1 : (v * b + (x.toNat - 48)) / b = v := by
    rw [Nat.mul_comm, Nat.mul_add_div (by omega), Nat.div_eq_of_lt hx'.2, Nat.add_zero]
   have e2 : (v * b + (x.toNat - 48)) % b = x.toNat - 48 := by
    rw [Nat.mul_comm, Nat.mul_add_mod, Nat.mod_eq_of_lt hx'.2]
   rw [e1, e2, ih', dgt_of hb2 hx]
theorem dig_head {b : Nat} (hb : 2 ≤ b) (hb2 : b ≤ 10) (n : Nat) (h : b ≤ n) : (dig b n).head? ≠ some 48 := by
 induction n using Nat.strongRecOn with
 | ind n ih =>
  rw [dig_ge hb h]
  by_cases h2 : n / b < b
  ·rw [dig_lt h2]
   have h3 : 1 ≤ n / b := by rw [Nat.le_div_iff_mul_le (by omega)]; omega
   simp only [List.singleton_append, List.head?_cons, ne_eq, Option.some.injEq]
   intro e
   have := congrArg UInt8.toNat e
   rw [dgt_nat (by omega)] at this
   simp at this; omega
  ·have := ih (n / b) (Nat.div_lt_self (by omega) (by omega)) (by omega)
   cases hd : dig b (n / b) with
   | nil => exact absurd hd (dig_ne _ _)
   | cons c r => rw [hd] at this; simpa using this
theorem dig_lead {b : Nat} (hb : 2 ≤ b) (hb2 : b ≤ 10) (n : Nat) : lead (dig b n) := by
 by_cases h : n < b
 ·left; rw [dig_lt h]; rfl
 ·right; exact dig_head hb hb2 n (by omega)
abbrev sp (n : Nat) : List UInt8 := List.replicate n 32
def fmt (b : Nat) (w : Nat) (n : Int) : Option (List UInt8) :=
 if n < 0 ∨ w < (dig b n.toNat).length then none else some (dig b n.toNat ++ sp (w - (dig b n.toNat).length))
theorem fmt_len {b w : Nat} {n : Int} {l : List UInt8} (h : fmt b w n = some l) : l.length = w := by
 unfold fmt at h
 split at h
 ·simp at h
 ·injection h with h; subst h; simp; omega
def pf (b : Nat) (l : List UInt8) : Option Nat :=
 if l.takeWhile (isd b) ≠ [] ∧ (l.dropWhile (isd b)).all (· == 32) = true ∧ lead (l.takeWhile (isd b)) then some (val b (l.takeWhile (isd b))) else none
theorem takeWhile_app {p : UInt8 → Bool} {a r : List UInt8} (ha : ∀ x ∈ a, p x = true) (hr : r = [] ∨ ∃ c s, r = c :: s ∧ p c = false) : (a ++ r).takeWhile p = a ∧ (a ++ r).dropWhile p = r := by
 induction a with
 | nil =>
  rcases hr with rfl | ⟨c, s, rfl, h⟩
  ·simp
  ·simp [List.takeWhile_cons, List.dropWhile_cons, h]
 | cons x a ih =>
  obtain ⟨h1, h2⟩ := ih fun y hy => ha y (by simp [hy])
  have hx := ha x (by simp)
  simp [List.takeWhile_cons, List.dropWhile_cons, hx, h1, h2]
theorem isd_sp {b : Nat} (hb : b ≤ 10) : isd b 32 = false := by
 cases h : isd b 32 with
 | false => rfl
 | true => rw [isd_iff] at h; simp at h
theorem sp_head {b : Nat} (hb : b ≤ 10) (n : Nat) : sp n = [] ∨ ∃ c s, sp n = c :: s ∧ isd b c = false := by
 cases n with
 | zero => exact .inl rfl
 | succ n => exact .inr ⟨32, sp n, rfl, isd_sp hb⟩
theorem all_sp {l : List UInt8} : l.all (· == 32) = true ↔ l = sp l.length := by
 rw [List.all_eq_true]
 constructor
 ·intro h
  exact List.eq_replicate_iff.2 ⟨rfl, fun x hx => by simpa using h x hx⟩
 ·intro h x hx
  rw [h] at hx
  simpa using (List.mem_replicate.1 hx).2
theorem pf_dig {b : Nat} (hb : 2 ≤ b) (hb2 : b ≤ 10) (n k : Nat) : pf b (dig b n ++ sp k) = some n := by
 obtain ⟨h1, h2⟩ := takeWhile_app (dig_isd hb hb2 n) (sp_head hb2 k)
 unfold pf
 rw [h1, h2, if_pos ⟨dig_ne _ _, all_sp.2 (by simp), dig_lead hb hb2 n⟩, val_dig hb hb2]
theorem pf_fmt {b w : Nat} {n : Int} {l : List UInt8} (hb : 2 ≤ b) (hb2 : b ≤ 10) (h : fmt b w n = some l) : pf b l = some n.toNat := by
 unfold fmt at h
 split at h
 ·simp at h
 ·injection h with h; subst h
  exact pf_dig hb hb2 _ _
theorem pf_some {b : Nat} {l : List UInt8} {n : Nat} (hb : 2 ≤ b) (hb2 : b ≤ 10) (h : pf b l = some n) : fmt b l.length n = some l := by
 unfold pf at h
 split at h
 case isFalse => simp at h
 rename_i hc
 obtain ⟨h1, h2, h3⟩ := hc
 injection h with h
 have hd : dig b n = l.takeWhile (isd b) := by
  rw [← h]
  exact dig_val hb hb2 _ h1 (fun x hx => by
   have : x ∈ l.takeWhile (isd b) := hx
   exact (List.all_eq_true.1 (List.all_takeWhile (p := isd b) (l := l))) x hx) h3
 have hl : l = l.takeWhile (isd b) ++ l.dropWhile (isd b) := (List.takeWhile_append_dropWhile).symm
 have hll : l.length = (l.takeWhile (isd b)).length + (l.dropWhile (isd b)).length := by rw [← List.length_append, ← hl]
 rw [all_sp] at h2
 unfold fmt
 rw [if_neg (by simp only [Int.toNat_natCast, hd]; omega)]
 simp only [Int.toNat_natCast, hd]
 congr 1
 rw [show l.length - (l.takeWhile (isd b)).length = (l.dropWhile (isd b)).length by omega, ← h2]
 exact hl.symm
def bad2 (c : UInt8) : Bool := decide (c = 10) || decide (c = 0)
def bad3 (c : UInt8) : Bool := decide (c = 47) || (decide (c = 10) || decide (c = 0))
def fitN (l : Str) : Bool := decide (1 ≤ l.length ∧ l.length ≤ 16 ∧ l.getLast? ≠ some 32) && !l.any bad2
def validN (l : Str) : Bool := decide (1 ≤ l.length ∧ l.length ≤ 255) && !l.any bad3
theorem step_any {p : UInt8 → Bool} {l : List UInt8} {k : Nat} {x : UInt8} (hx : l[k]? = some x) (hp : p x = false) (h : (l.take k).any p = false) : (l.take (k + 1)).any p = false := by
 rw [List.take_add_one, hx]; simp [List.any_append, h, hp]
theorem any_at {p : UInt8 → Bool} {l : List UInt8} {k : Nat} {x : UInt8} (hx : l[k]? = some x) (hp : p x = true) : l.any p = true := List.any_eq_true.2 ⟨x, List.mem_of_getElem? hx, hp⟩
theorem byte_eq {x c : UInt8} (h : ((x.toNat : Int) == (c.toNat : Int)) = true) : x = c := UInt8.toNat_inj.1 (by have := eq_of_beq h; omega)
theorem byte_ne {x c : UInt8} (h : ((x.toNat : Int) == (c.toNat : Int)) = false) : ¬ x = c := fun e => by subst e; simp at h
structure Hdr where
 name : Str
 date : Int
 uid : Int
 gid : Int
 mode : Int
 size : Int
deriving DecidableEq
abbrev Hdr.enc (h : Hdr) : List D := [sD h.name, vI h.date, vI h.uid, vI h.gid, vI h.mode, vI h.size]
def fmtR (b w : Nat) (n : Int) : List UInt8 × Int := match fmt b w n with | some l => (l, 0) | none => ([], 9)
def fieldR (n : Int) (b w : Nat) (bl : Bool) : List UInt8 × Bool := if bl = true then (sp w, decide (n = 0)) else ((fmtR b w n).1, decide ((fmtR b w n).2 = 0))
def encR (h : Hdr) : List UInt8 × Int :=
 if fitN h.name = true then
  if ((fieldR h.date 10 12 (decide (h.name = [47, 47]))).2 && ((fieldR h.uid 10 6 (decide (h.name = [47, 47]))).2 && ((fieldR h.gid 10 6 (decide (h.name = [47, 47]))).2 && ((fieldR h.mode 8 8 (decide (h.name = [47, 47]))).2 && (fieldR h.size 10 10 false).2)))) = true then
   (h.name ++ sp (16 - h.name.length) ++ (fieldR h.date 10 12 (decide (h.name = [47, 47]))).1 ++ (fieldR h.uid 10 6 (decide (h.name = [47, 47]))).1 ++ (fieldR h.gid 10 6 (decide (h.name = [47, 47]))).1 ++ (fieldR h.mode 8 8 (decide (h.name = [47, 47]))).1 ++ (fieldR h.size 10 10 false).1 ++ [96, 10], 0)
  else ([], 9)
 else ([], 6)
theorem fieldR_len (n : Int) (b w : Nat) (bl : Bool) : (fieldR n b w bl).1.length ≤ w := by
 unfold fieldR fmtR
 split
 ·simp
 ·cases h : fmt b w n with
  | none => simp
  | some l => simpa using Nat.le_of_eq (fmt_len h)
end Go.AL.Hd

namespace Go.AL
open Go
theorem VRs.get {E h σ ds us} (H : VRs E h σ ds us) (i : Nat) (a : i < ds.length) (b : i < us.length) : VR E h σ ds[i] us[i] := H.2 i a b
theorem Wk.listE {α : Type} {f g : α → List D} (t : Tg) (l : List α) (hl : ∀ a, (g a).length = (f a).length) (hw : ∀ a i (h1 : i < (f a).length) (h2 : i < (g a).length), Wk (f a)[i] (g a)[i]) (hf : ∀ a, ∀ d ∈ g a, d.idf = true) :
  Wk (.list t (l.map f)) (.list .any (l.map g)) := by
 refine ⟨fun E h σ x hx => ?_⟩
 cases hx with
 | list _ _ A c s u hc hb hs hn ha hv hf' ht =>
  have e : (l.map f).length = (l.map g).length := by simp
  rw [e] at hc hb ⊢
  refine .list .any (l.map g) A c s u hc hb (fun i hi => ?_) (fun h => ?_) (fun a ha' => ⟨fun hne => (ha a ha').1 ?_, fun i j hi hj => ⟨?_, ((ha a ha').2 i j (by rw [e]; exact hi) hj).2⟩⟩) (fun i j hi hj => ?_) (fun i j hi hj => ?_) (fun k e => by simp at e)
  ·have := hs i (by rw [e]; exact hi)
   simp only [List.getElem_map] at this ⊢
   rw [hl]; exact this
  ·have := hn h
   exact ⟨by simpa using this.1, this.2⟩
  ·intro e2; apply hne; simpa using e2
  ·exact Tg.ow_any ((ha a ha').2 i j (by rw [e]; exact hi) hj).1
  ·have hi' : i < l.length := by simpa using hi
   have := hv i j (by simpa using hi') (by simp only [List.getElem_map] at hj ⊢; rw [← hl]; exact hj)
   simp only [List.getElem_map] at this ⊢
   exact (hw _ j _ _).sem _ _ _ _ this
  ·have h1 : (l.map g)[i][j] ∈ (l.map g)[i] := List.getElem_mem hj
   obtain ⟨y, _, hy⟩ := List.mem_map.1 (List.getElem_mem hi : (l.map g)[i] ∈ l.map g)
   have h2 : ∀ c : List D, c = g y → ∀ d ∈ c, d.idf = true := fun c e d hd => hf y d (e ▸ hd)
   exact h2 _ hy.symm _ h1
theorem Wk.listE1 {α : Type} {f g : α → D} (t : Tg) (l : List α) (hw : ∀ a, Wk (f a) (g a)) (hf : ∀ a, (g a).idf = true) : Wk (.list t (l.map fun a => [f a])) (.list .any (l.map fun a => [g a])) :=
 Wk.listE t l (fun _ => rfl) (fun a i h1 h2 => by
  have : i = 0 := by simp at h1; exact h1
  subst this; exact hw a) (fun a d hd => by simp at hd; subst hd; exact hf a)
end Go.AL
namespace Go.AL.Sc
open Go Go.AL Go.AL.Bd Go.AL.Tb
structure OkM (m : Mem) : Prop where
 n : m.name.length ≤ 140737488351232
 d : m.data.length ≤ 140737488351232
 t : m.time ≤ 9223372036854775807
 u : m.uid ≤ 9223372036854775807
 g : m.gid ≤ 9223372036854775807
 o : m.mode ≤ 9223372036854775807
def fitM (m : Mem) : Int := if Hd.validN m.name = true then (if (Hd.encR ⟨[97], m.time, m.uid, m.gid, m.mode, m.data.length⟩).2 = 0 then 0 else 9) else 6
def fitsR : List Mem → Nat → Int × Int
 | [], _ => (-1, 0)
 | m :: r, k => if fitM m = 0 then fitsR r (k + 1) else ((k : Int), fitM m)
theorem fitsR_ok : ∀ {l : List Mem} {k : Nat}, (fitsR l k).2 = 0 → ∀ m ∈ l, fitM m = 0
 | [], _, _ => by simp
 | x :: r, k, h => by
  simp only [fitsR] at h
  split at h
  ·rename_i hx
   intro m hm
   rcases List.mem_cons.1 hm with rfl | hm
   ·exact hx
   ·exact fitsR_ok h m hm
  ·rename_i hx
   exact absurd h hx
theorem fitM_name {m : Mem} (h : fitM m = 0) : 1 ≤ m.name.length ∧ m.name.length ≤ 255 := by
 unfold fitM at h
 split at h
 ·rename_i hv
  simp only [Hd.validN, Bool.and_eq_true, decide_eq_true_eq] at hv
  exact hv.1
 ·simp at h
abbrev short (m : Mem) : Bool := decide (m.data.length ≤ 500)
def viewR (l : List Mem) : View × Bool :=
 if l.length ≤ 12 ∧ (fitsR l 0).2 = 0 ∧ l.all short = true then (⟨l, l.map fun m => defsOf m.data⟩, true) else (⟨[], []⟩, false)
theorem viewR_ok {l : List Mem} (h : (viewR l).2 = true) : (viewR l).1 = ⟨l, l.map fun m => defsOf m.data⟩ ∧ OkV ⟨l, l.map fun m => defsOf m.data⟩ ∧ ∀ m ∈ l, m.name.length ≤ 255 := by
 unfold viewR at h ⊢
 split
 ·rename_i hc
  obtain ⟨h1, h2, h3⟩ := hc
  refine ⟨rfl, ⟨h1, by simp, fun m hm => ?_⟩, fun m hm => (fitM_name (fitsR_ok h2 m hm)).2⟩
  have h4 : short m = true := List.all_eq_true.1 h3 m hm
  have h5 : m.data.length ≤ 500 := of_decide_eq_true h4
  exact Nat.le_trans h5 (by decide)
 ·rename_i hc
  rw [if_neg hc] at h
  exact absurd h (by simp)
theorem dec_err {b : List UInt8} {k : Nat} (h : k < (dec b).1.syms.length) : (dec b).2 = 0 := by
 unfold dec at h ⊢
 cases hd : Ob.decO b with
 | error e => rw [hd] at h; simp at h
 | ok p => rfl
theorem defs_step {l : List Ob.Sym} {k : Nat} {s : Ob.Sym} (h : l[k]? = some s) : ((l.take (k + 1)).filter isDef).map (·.name) = ((l.take k).filter isDef).map (·.name) ++ (if isDef s = true then [s.name] else []) := by
 rw [List.take_add_one, h, Option.toList_some, List.filter_append, List.map_append]
 congr 1
 cases hs : isDef s <;> simp [List.filter, hs]
theorem any_snoc {α : Type} {p : α → Bool} {l : List α} {k : Nat} {x : α} (hx : l[k]? = some x) (hp : p x = false) (h : (l.take k).any p = false) : (l.take (k + 1)).any p = false := by
 rw [List.take_add_one, hx]; simp [List.any_append, h, hp]
theorem any_here {α : Type} {p : α → Bool} {l : List α} {k : Nat} {x : α} (hx : l[k]? = some x) (hp : p x = true) : l.any p = true := List.any_eq_true.2 ⟨x, List.mem_of_getElem? hx, hp⟩
theorem eqU (a b : Unt) : (decide (a.file = b.file) && (decide (a.member = b.member) && (a.index == b.index && true))) = decide (a = b) := by
 obtain ⟨a1, a2, a3⟩ := a
 obtain ⟨b1, b2, b3⟩ := b
 rw [Bool.eq_iff_iff]; simp
abbrev LUt (us : List Unt) : D := .list .any (us.map Unt.enc)
abbrev LOn (l : List Ob.Obj) : D := .list .nat (l.map Oe)
abbrev rS (us : List Unt) (os : List Ob.Obj) : D := .agg [LUt us, LO os]
abbrev rSn (us : List Unt) (os : List Ob.Obj) : D := .agg [LUn us, LOn os]
end Go.AL.Sc

namespace Go.AL.Sc
open Go Go.AL Go.AL.Bd Go.AL.Tb
def ldO (f : Str) (l : List Ob.Obj) : Ls := ⟨l.map fun _ => ⟨f, [], 0⟩, l, []⟩
theorem ldO_nil (f : Str) : ldO f [] = ⟨[], [], []⟩ := rfl
theorem ldO_snoc {f : Str} {l : List Ob.Obj} {k : Nat} {o : Ob.Obj} (h : l[k]? = some o) : Sc.loadO (ldO f (l.take k)) f o = ldO f (l.take (k + 1)) := by
 rw [List.take_add_one, h]; simp [Sc.loadO, ldO]
theorem ldO_ok {f : Str} {l : List Ob.Obj} (h : rightO l = true) (k : Nat) : OkS (ldO f (l.take k)) 12 := by
 have h1 := (rightO_iff.1 h).1
 refine ⟨?_, fun o ho => right_okO h o (List.mem_of_mem_take ho), by simp [ldO], fun p hp => by simp [ldO] at hp⟩
 show (l.take k).length ≤ 12
 rw [List.length_take]; omega
theorem ldO_ok' {f : Str} {l : List Ob.Obj} (h : rightO l = true) : OkS (ldO f l) 12 := by
 have := ldO_ok (f := f) h l.length
 rwa [List.take_length] at this
theorem ldO_inv {f g : Str} (h : g ≠ f) (v : View) (l : List Ob.Obj) : Inv f v (ldO g l) := by
 refine ⟨fun u hu e => ?_, fun i hi => by simp [ldO] at hi, List.nodup_nil⟩
 simp only [ldO, List.mem_map] at hu
 obtain ⟨_, _, rfl⟩ := hu
 exact absurd e h
inductive Reach (f : Str) (v : View) (S : Ls) : Ls → Prop where
 | refl : Reach f v S S
 | step {T : Ls} {j : Nat} (h : Reach f v S T) (hj : j < v.members.length) (hc : can T f v j = true) : Reach f v S (loadM T f v j)
theorem Reach.passN {f : Str} {v : View} {S T : Ls} (h : Reach f v S T) : ∀ k, k ≤ v.members.length → Reach f v S (passN f v k T).1
 | 0, _ => h
 | k + 1, hk => by
  have ih := h.passN k (by omega)
  simp only [Sc.passN]
  split
  ·rename_i hc; exact .step ih (by omega) hc
  ·exact ih
theorem Reach.arch {f : Str} {v : View} {S : Ls} : ∀ (F : Nat) {T : Ls}, Reach f v S T → Reach f v S (arch f v F T).1
 | 0, T, h => h
 | F + 1, T, h => by
  have h1 : Reach f v S (pass f v T).1 := h.passN _ (Nat.le_refl _)
  simp only [Sc.arch]
  split
  ·exact h1
  ·exact Reach.arch F h1
theorem Reach.inv {f : Str} {v : View} {S T : Ls} (h : Reach f v S T) (hi : Inv f v S) : Inv f v T := by
 induction h with
 | refl => exact hi
 | step h hj hc ih => exact ih.loadM hj (can_not hc)
theorem Reach.at {f : Str} {v : View} {S T : Ls} (h : Reach f v S T) (hu : S.us.length = S.os.length) : T.us.length = T.os.length ∧ (∃ n, T.us.length = S.us.length + n) ∧ T.us.take S.us.length = S.us ∧ T.os.take S.us.length = S.os ∧
  ∀ i, S.us.length ≤ i → i < T.us.length → ∃ X j, Reach f v S X ∧ X.us = T.us.take i ∧ X.os = T.os.take i ∧ j < v.members.length ∧ can X f v j = true ∧
   T.us[i]? = some ⟨f, (memAt v j).name, (j : Int)⟩ ∧ T.os[i]? = some (dec (memAt v j).data).1 := by
 induction h with
 | refl => exact ⟨hu, ⟨0, rfl⟩, by simp, by rw [hu]; simp, fun i h1 h2 => by omega⟩
 | @step T j h hj hc ih =>
  obtain ⟨h1, ⟨n, hn⟩, h2, h3, h4⟩ := ih
  have e1 : (loadM T f v j).us = T.us ++ [⟨f, (memAt v j).name, (j : Int)⟩] := rfl
  have e2 : (loadM T f v j).os = T.os ++ [(dec (memAt v j).data).1] := rfl
  refine ⟨by rw [e1, e2]; simp [h1], ⟨n + 1, by rw [e1]; simp; omega⟩, by rw [e1, List.take_append_of_le_length (by omega)]; exact h2, by rw [e2, List.take_append_of_le_length (by omega)]; exact h3, fun i hi1 hi2 => ?_⟩
  rw [e1] at hi2
  simp only [List.length_append, List.length_singleton] at hi2
  by_cases hi : i < T.us.length
  ·obtain ⟨X, j', a1, a2, a3, a4, a5, a6, a7⟩ := h4 i hi1 hi
   refine ⟨X, j', a1, ?_, ?_, a4, a5, ?_, ?_⟩
   ·rw [e1, List.take_append_of_le_length (by omega)]; exact a2
   ·rw [e2, List.take_append_of_le_length (by omega)]; exact a3
   ·rw [e1, List.getElem?_append_left hi]; exact a6
   ·rw [e2, List.getElem?_append_left (by omega)]; exact a7
  ·have : i = T.us.length := by omega
   subst this
   refine ⟨T, j, h, ?_, ?_, hj, hc, ?_, ?_⟩
   ·rw [e1, List.take_append_of_le_length (by omega), List.take_length]
   ·rw [e2, List.take_append_of_le_length (by omega), h1, List.take_length]
   ·rw [e1, List.getElem?_append_right (by omega)]; simp
   ·rw [e2, h1, List.getElem?_append_right (by omega)]; simp
def Uni (f : Str) (v : View) (S : Ls) : Prop := S.us.filter (fun u => decide (u.file = f)) = (S.ld.filter fun p => decide (p.1 = f)).map fun p => ⟨f, (memAt v p.2).name, (p.2 : Int)⟩
theorem Uni.loadM {f : Str} {v : View} {S : Ls} (h : Uni f v S) (j : Nat) : Uni f v (loadM S f v j) := by
 unfold Uni at h ⊢
 simp only [Sc.loadM, List.filter_append, List.map_append, h]
 simp [List.filter]
theorem Uni.loadO {f g : Str} {v : View} {S : Ls} (h : Uni f v S) (hg : g ≠ f) (o : Ob.Obj) : Uni f v (Sc.loadO S g o) := by
 unfold Uni at h ⊢
 simp only [Sc.loadO, List.filter_append, h]
 simp [List.filter, hg]
theorem Uni.reach {f : Str} {v : View} {S T : Ls} (h : Reach f v S T) (hu : Uni f v S) : Uni f v T := by
 induction h with
 | refl => exact hu
 | step h hj hc ih => exact ih.loadM _
theorem Uni.start (f : Str) (v : View) : Uni f v ⟨[], [], []⟩ := rfl
theorem Uni.nodup {f : Str} {v : View} {S : Ls} (h : Uni f v S) (hi : Inv f v S) : (S.us.filter fun u => decide (u.file = f)).Nodup := by
 rw [h, List.nodup_iff_pairwise_ne, List.pairwise_map]
 have h2 : (S.ld.filter fun p => decide (p.1 = f)).Nodup := hi.nd.filter _
 have h3 : ∀ p ∈ S.ld.filter (fun p => decide (p.1 = f)), p.1 = f := fun p hp => by simpa using (List.mem_filter.1 hp).2
 refine List.Pairwise.imp_of_mem (fun {a b} ha hb hne e => hne ?_) (List.nodup_iff_pairwise_ne.1 h2)
 simp only [Unt.mk.injEq] at e
 exact Prod.ext ((h3 a ha).trans (h3 b hb).symm) (by omega)
theorem nodup_at {α : Type} {p : α → Bool} : ∀ {l : List α}, (l.filter p).Nodup → ∀ {i k : Nat} {x : α}, k < i → l[i]? = some x → l[k]? = some x → p x = true → False
 | [], _, i, k, x, _, h, _, _ => by simp at h
 | y :: l, hn, i + 1, 0, x, _, h1, h2, hp => by
  simp at h1 h2
  subst h2
  have hm : y ∈ l.filter p := List.mem_filter.2 ⟨List.mem_of_getElem? h1, hp⟩
  rw [List.filter_cons_of_pos hp] at hn
  exact (List.nodup_cons.1 hn).1 hm
 | y :: l, hn, i + 1, k + 1, x, hk, h1, h2, hp => by
  have hn' : (l.filter p).Nodup := by
   by_cases hy : p y = true
   ·rw [List.filter_cons_of_pos hy] at hn; exact (List.nodup_cons.1 hn).2
   ·rw [List.filter_cons_of_neg hy] at hn; exact hn
  exact nodup_at (i := i) (k := k) hn' (by omega) (by simpa using h1) (by simpa using h2) hp
theorem wd_weak {U : List Use} (h : ∀ u ∈ U, u.sym.bind ≠ 4) (s : Str) : wd U s = false := by
 have key : ∀ (V : List Use) (st : State), (∀ u ∈ V, u.sym.bind ≠ 4) → st.sref = false → (V.foldl (fun s x => merge s x.sym x.unit) st).sref = false := by
  intro V
  induction V with
  | nil => intro st _ h; exact h
  | cons x V ih =>
   intro st hV h
   refine ih _ (fun u hu => hV u (by simp [hu])) ?_
   have hx : (one x.sym x.unit).sref = false := by
    unfold one
    rw [if_neg (hV x (by simp))]
    split <;> simp [empty]
   show (st.sref || (one x.sym x.unit).sref) = false
   rw [h, hx]; rfl
 have := key (Sy.of U s) empty (fun u hu => h u (List.mem_filter.1 hu).1) rfl
 unfold wd wanted
 have e : (all (Sy.of U s)).sref = false := this
 rw [e]; rfl
def weakS (s : Ob.Sym) : Ob.Sym := if s.bind = 4 then { s with bind := 5 } else s
def weakO (o : Ob.Obj) : Ob.Obj := ⟨o.syms.map weakS, []⟩
theorem weakS_ne (s : Ob.Sym) : (weakS s).bind ≠ 4 := by
 unfold weakS; split
 ·simp
 ·rename_i h; exact h
theorem weakO_ok {o : Ob.Obj} (h : OkO o) : OkO (weakO o) := by
 refine ⟨by simpa [weakO] using h.n, fun s hs => ?_, fun s hs => ?_⟩
 ·obtain ⟨t, ht, rfl⟩ := List.mem_map.1 (show s ∈ o.syms.map weakS from hs)
  have := h.nm t ht
  unfold weakS; split <;> exact this
 ·obtain ⟨t, ht, rfl⟩ := List.mem_map.1 (show s ∈ o.syms.map weakS from hs)
  have := h.ok t ht
  unfold weakS; split
  ·exact ⟨by simp, by simp, this.2.2.1, this.2.2.2⟩
  ·exact this
theorem weak_wd (l : List Ob.Obj) (s : Str) : wd (Us (l.map weakO)) s = false := by
 refine wd_weak (fun u hu => ?_) s
 obtain ⟨o, ho, y, hy, i, rfl⟩ := usesL_mem hu
 obtain ⟨o', _, rfl⟩ := List.mem_map.1 ho
 obtain ⟨t, _, rfl⟩ := List.mem_map.1 (show y ∈ o'.syms.map weakS from hy)
 exact weakS_ne t
theorem weak_can {f g : Str} {v : View} (l : List Ob.Obj) (i : Nat) : can (ldO g (l.map weakO)) f v i = false := by
 simp only [can, ldO]
 have : (v.defs.getD i []).any (wd (Us (l.map weakO))) = false := by
  rw [List.any_eq_false]; intro s _; rw [weak_wd]; simp
 rw [this]; simp
theorem weak_arch {f g : Str} {v : View} (l : List Ob.Obj) (F : Nat) : arch f v (F + 1) (ldO g (l.map weakO)) = (ldO g (l.map weakO), 1) := by
 have : pass f v (ldO g (l.map weakO)) = (ldO g (l.map weakO), 0) := passN_none _ fun i _ => weak_can l i
 simp [arch, this]
theorem weak_canL {f g : Str} {v : View} (l : List Ob.Obj) : canL (ldO g (l.map weakO)) f v = [] := by
 rw [canL, List.filter_eq_nil_iff]
 intro i _; rw [weak_can]; simp
theorem canL_done {S : Ls} {f : Str} {v : View} (h : ∀ i < v.members.length, can S f v i = false) : canL S f v = [] := by
 rw [canL, List.filter_eq_nil_iff]
 intro i hi; rw [h i (List.mem_range.1 hi)]; simp
theorem pass_done {S : Ls} {f : Str} {v : View} (h : ∀ i < v.members.length, can S f v i = false) : pass f v S = (S, 0) := passN_none _ h
theorem arch_again {S : Ls} {f : Str} {v : View} (h : ∀ i < v.members.length, can S f v i = false) (F : Nat) : arch f v (F + 1) S = (S, 1) := by simp [arch, pass_done h]
theorem Reach.len {f : Str} {v : View} {S T : Ls} (h : Reach f v S T) (hi : Inv f v S) : T.us.length ≤ S.us.length + v.members.length := by
 have key : ∀ {T}, Reach f v S T → T.us.length + lft f v T ≤ S.us.length + lft f v S := by
  intro T h
  induction h with
  | refl => exact Nat.le_refl _
  | @step T j h hj hc ih =>
   have h6 := lft_loadM hj (can_not hc)
   have hlen : (loadM T f v j).us.length = T.us.length + 1 := by simp [Sc.loadM]
   omega
 have := key h
 have := lft_le f v S
 omega
def onceS (f g : Str) (v : View) (F : Nat) (l : List Ob.Obj) : Ls := l.foldl (fun S o => (arch f v F (Sc.loadO S g o)).1) ⟨[], [], []⟩
theorem onceS_snoc {f g : Str} {v : View} {F : Nat} {l : List Ob.Obj} {k : Nat} {o : Ob.Obj} (h : l[k]? = some o) : onceS f g v F (l.take (k + 1)) = (arch f v F (Sc.loadO (onceS f g v F (l.take k)) g o)).1 := by
 rw [List.take_add_one, h]; simp [onceS, List.foldl_append]
theorem onceS_inv {f g : Str} (hg : g ≠ f) {v : View} (hv : OkV v) (hf : f.length ≤ 1000) (F : Nat) (l : List Ob.Obj) (hl : ∀ o ∈ l, OkO o) : Inv f v (onceS f g v F l) ∧ Uni f v (onceS f g v F l) ∧
  (onceS f g v F l).us.length + lft f v (onceS f g v F l) = l.length + v.members.length ∧ OkS (onceS f g v F l) (l.length + v.members.length - lft f v (onceS f g v F l)) := by
 rw [← List.reverse_reverse l] at hl ⊢
 generalize l.reverse = m at hl ⊢
 induction m with
 | nil =>
  refine ⟨Inv.start f v, Uni.start f v, ?_, ⟨by simp [onceS], fun o ho => by simp [onceS] at ho, rfl, fun p hp => by simp [onceS] at hp⟩⟩
  have : ((List.range v.members.length).filter fun i => decide (¬ (f, i) ∈ ([] : List (Str × Nat)))) = List.range v.members.length := List.filter_eq_self.2 fun i _ => by simp
  show 0 + ((List.range v.members.length).filter fun i => decide (¬ (f, i) ∈ ([] : List (Str × Nat)))).length = 0 + v.members.length
  rw [this, List.length_range]
 | cons o m ih =>
  rw [List.reverse_cons] at hl ⊢
  obtain ⟨h1, h2, h3, h4⟩ := ih (fun x hx => hl x (by simp at hx ⊢; exact .inl hx))
  have e : onceS f g v F (m.reverse ++ [o]) = (arch f v F (Sc.loadO (onceS f g v F m.reverse) g o)).1 := by simp [onceS, List.foldl_append]
  rw [e]
  generalize onceS f g v F m.reverse = S at h1 h2 h3 h4
  have hS := lft_le f v S
  have i1 := h1.loadO hg o
  have u1 := h2.loadO hg o
  have l1 : lft f v (Sc.loadO S g o) = lft f v S := rfl
  have n1 : (Sc.loadO S g o).us.length = S.us.length + 1 := by simp [Sc.loadO]
  have o1 : OkS (Sc.loadO S g o) (m.reverse.length + v.members.length - lft f v S + 1) := h4.loadO g (hl o (by simp))
  have R := Reach.arch (f := f) (v := v) (S := Sc.loadO S g o) F .refl
  have key : ∀ {T}, Reach f v (Sc.loadO S g o) T → T.us.length + lft f v T = (Sc.loadO S g o).us.length + lft f v (Sc.loadO S g o) ∧ OkS T (T.us.length) := by
   intro T h
   induction h with
   | refl => exact ⟨rfl, by have := o1.us; have h5 := o1.mono (Nat.le_refl _); exact ⟨by omega, h5.os, h5.us, h5.ld⟩⟩
   | @step T j h hj hc ih =>
    have h6 := lft_loadM hj (can_not hc)
    obtain ⟨a, b⟩ := ih
    have hlen : (loadM T f v j).us.length = T.us.length + 1 := by simp [Sc.loadM]
    exact ⟨by omega, by rw [hlen]; exact b.loadM hv hj hf⟩
  obtain ⟨k1, k2⟩ := key R
  refine ⟨R.inv i1, Uni.reach R u1, ?_, k2.mono ?_⟩
  ·simp only [List.length_append, List.length_singleton] at *; omega
  ·simp only [List.length_append, List.length_singleton] at *; omega
end Go.AL.Sc

namespace Go.AL.Gp
open Go Go.AL Go.AL.Bd Go.AL.Tb Go.AL.Sc
structure Inp where
 name : Str
 arch : Bool
 obj : Ob.Obj
 view : View
abbrev Inp.enc (x : Inp) : List D := [sD x.name, vB x.arch, .list .any (SE x.obj.syms), LB x.obj.body, LM x.view.members, LD x.view.defs]
abbrev LIp (l : List Inp) : D := .list .any (l.map Inp.enc)
abbrev LIpn (l : List Inp) : D := .list .nat (l.map Inp.enc)
def ldG (l : List Inp) (S : Ls) : Ls := l.foldl (fun S x => Sc.loadO S x.name x.obj) S
def round (l : List Inp) (S : Ls) : Ls × Nat := l.foldl (fun p x => ((pass x.name x.view p.1).1, p.2 + (pass x.name x.view p.1).2)) (S, 0)
def rounds (l : List Inp) : Nat → Ls → Ls × Nat
 | 0, S => (S, 0)
 | n + 1, S => if (round l S).2 = 0 then ((round l S).1, 1) else ((rounds l n (round l S).1).1, (rounds l n (round l S).1).2 + 1)
abbrev objs (l : List Inp) : List Inp := l.filter fun x => !x.arch
abbrev archs (l : List Inp) : List Inp := l.filter fun x => x.arch
def grp (l : List Inp) (F : Nat) (S : Ls) : Ls × Nat := rounds (archs l) F (ldG (objs l) S)
def canG (l : List Inp) (S : Ls) : Bool := l.any fun x => x.arch && decide (0 < (canL S x.name x.view).length)
def lftG (l : List Inp) (S : Ls) : Nat := (l.map fun x => lft x.name x.view S).sum
theorem round_snoc (l : List Inp) (x : Inp) (S : Ls) : round (l ++ [x]) S = ((pass x.name x.view (round l S).1).1, (round l S).2 + (pass x.name x.view (round l S).1).2) := by simp [round, List.foldl_append]
theorem ldG_snoc (l : List Inp) (x : Inp) (S : Ls) : ldG (l ++ [x]) S = Sc.loadO (ldG l S) x.name x.obj := by simp [ldG, List.foldl_append]
theorem ldG_len (l : List Inp) (S : Ls) : (ldG l S).us.length = S.us.length + l.length ∧ (ldG l S).os.length = S.os.length + l.length ∧ (ldG l S).ld = S.ld := by
 induction l generalizing S with
 | nil => exact ⟨rfl, rfl, rfl⟩
 | cons x l ih =>
  have := ih (Sc.loadO S x.name x.obj)
  have e : ldG (x :: l) S = ldG l (Sc.loadO S x.name x.obj) := rfl
  rw [e]
  have h1 : (Sc.loadO S x.name x.obj).us.length = S.us.length + 1 := by simp [Sc.loadO]
  have h2 : (Sc.loadO S x.name x.obj).os.length = S.os.length + 1 := by simp [Sc.loadO]
  have h3 : (Sc.loadO S x.name x.obj).ld = S.ld := rfl
  rw [h3] at this
  simp only [List.length_cons]
  exact ⟨by omega, by omega, this.2.2⟩
theorem lft_mono {f : Str} {v : View} {S T : Ls} (h : ∀ p ∈ S.ld, p ∈ T.ld) : lft f v T ≤ lft f v S := by
 unfold lft
 refine List.Sublist.length_le ?_
 have : ((List.range v.members.length).filter fun i => decide (¬ (f, i) ∈ T.ld)) = (((List.range v.members.length).filter fun i => decide (¬ (f, i) ∈ S.ld))).filter fun i => decide (¬ (f, i) ∈ T.ld) := by
  rw [List.filter_filter]
  refine List.filter_congr fun i _ => ?_
  by_cases h1 : (f, i) ∈ T.ld
  ·simp [h1]
  ·have : ¬ (f, i) ∈ S.ld := fun h2 => h1 (h _ h2)
   simp [h1, this]
 rw [this]
 exact List.filter_sublist
theorem passN_ld {f : Str} {v : View} {S : Ls} : ∀ k, ∀ p ∈ S.ld, p ∈ (passN f v k S).1.ld
 | 0, p, hp => hp
 | k + 1, p, hp => by
  have ih := passN_ld (f := f) (v := v) (S := S) k p hp
  simp only [passN]
  split
  ·simp [Sc.loadM, ih]
  ·exact ih
theorem pass_ld {f : Str} {v : View} {S : Ls} : ∀ p ∈ S.ld, p ∈ (pass f v S).1.ld := passN_ld _
theorem lftG_pass {l : List Inp} {x : Inp} {S : Ls} (hx : x ∈ l) : lftG l (pass x.name x.view S).1 + (pass x.name x.view S).2 ≤ lftG l S := by
 induction l with
 | nil => simp at hx
 | cons y l ih =>
  simp only [lftG, List.map_cons, List.sum_cons]
  have hle : ∀ m : List Inp, (m.map fun z => lft z.name z.view (pass x.name x.view S).1).sum ≤ (m.map fun z => lft z.name z.view S).sum := by
   intro m
   induction m with
   | nil => exact Nat.le_refl _
   | cons z m ihm =>
    simp only [List.map_cons, List.sum_cons]
    have := lft_mono (f := z.name) (v := z.view) (pass_ld (f := x.name) (v := x.view) (S := S))
    omega
  rcases List.mem_cons.1 hx with rfl | hx
  ·have h1 := pass_lft x.name x.view S
   have h2 := hle l
   omega
  ·have h1 := ih hx
   simp only [lftG] at h1
   have := lft_mono (f := y.name) (v := y.view) (pass_ld (f := x.name) (v := x.view) (S := S))
   omega
theorem lftG_round (l : List Inp) (S : Ls) : ∀ m : List Inp, (∀ x ∈ m, x ∈ l) → lftG l (round m S).1 + (round m S).2 ≤ lftG l S := by
 intro m
 rw [← List.reverse_reverse m]
 generalize m.reverse = r
 induction r with
 | nil => intro _; exact Nat.le_refl _
 | cons x r ih =>
  intro h
  rw [List.reverse_cons] at h ⊢
  have h1 := ih fun y hy => h y (by simp at hy ⊢; exact .inl hy)
  rw [round_snoc]
  have h2 := lftG_pass (l := l) (x := x) (S := (round r.reverse S).1) (h x (by simp))
  simp only []
  omega
def memG (l : List Inp) : Nat := (l.map fun x => x.view.members.length).sum
theorem lftG_le (l : List Inp) (S : Ls) : lftG l S ≤ memG l := by
 induction l with
 | nil => exact Nat.le_refl _
 | cons x l ih =>
  simp only [lftG, memG, List.map_cons, List.sum_cons] at ih ⊢
  have := lft_le x.name x.view S
  omega
structure OkI (x : Inp) : Prop where
 v : OkV x.view
 o : OkO x.obj
 n : x.name.length ≤ 1000
theorem OkS.passI {S : Ls} {w : Nat} (h : OkS S w) {x : Inp} (hx : OkI x) : OkS (pass x.name x.view S).1 (w + (pass x.name x.view S).2) := h.pass hx.v hx.n
theorem OkS.round {l : List Inp} (hl : ∀ x ∈ l, OkI x) {S : Ls} {w : Nat} (h : OkS S w) : OkS (round l S).1 (w + (round l S).2) := by
 rw [← List.reverse_reverse l] at hl ⊢
 generalize l.reverse = r at hl ⊢
 induction r with
 | nil => exact h
 | cons x r ih =>
  rw [List.reverse_cons] at hl ⊢
  have h1 := ih fun y hy => hl y (by simp at hy ⊢; exact .inl hy)
  rw [round_snoc]
  have := OkS.passI h1 (hl x (by simp))
  simp only []
  exact this.mono (by omega)
theorem OkS.ldG {l : List Inp} (hl : ∀ x ∈ l, OkI x) {S : Ls} {w : Nat} (h : OkS S w) : OkS (ldG l S) (w + l.length) := by
 induction l generalizing S w with
 | nil => exact h
 | cons x l ih =>
  have := ih (fun y hy => hl y (by simp [hy])) (h.loadO x.name (hl x (by simp)).o)
  exact this.mono (by simp only [List.length_cons]; omega)
structure GI (l : List Inp) (F : Nat) (S0 : Ls) (w k : Nat) (S : Ls) : Prop where
 g : ∃ G, lftG l S < G ∧ rounds l F S0 = ((rounds l G S).1, (rounds l G S).2 + k)
 d : ∃ d, k ≤ d ∧ d + lftG l S ≤ memG l ∧ OkS S (w + d)
theorem GI.start {l : List Inp} {F : Nat} {S0 : Ls} {w : Nat} (h : lftG l S0 < F) (ok : OkS S0 w) : GI l F S0 w 0 S0 :=
 ⟨⟨F, h, rfl⟩, 0, Nat.le_refl _, by have := lftG_le l S0; omega, ok⟩
theorem GI.last {l : List Inp} {F : Nat} {S0 : Ls} {w k : Nat} {S : Ls} (h : GI l F S0 w k S) (hz : (round l S).2 = 0) : rounds l F S0 = ((round l S).1, k + 1) := by
 obtain ⟨G, h1, h2⟩ := h.g
 cases G with
 | zero => omega
 | succ G =>
  rw [h2]
  simp only [rounds, if_pos hz]
  rw [Nat.add_comm]
theorem GI.next {l : List Inp} {F : Nat} {S0 : Ls} {w k : Nat} {S : Ls} (h : GI l F S0 w k S) (hl : ∀ x ∈ l, OkI x) (hz : ¬ (round l S).2 = 0) : GI l F S0 w (k + 1) (round l S).1 ∧ lftG l (round l S).1 < lftG l S := by
 have hle := lftG_round l S l (fun _ h => h)
 obtain ⟨G, h1, h2⟩ := h.g
 obtain ⟨d, h3, h4, h5⟩ := h.d
 refine ⟨⟨?_, d + (round l S).2, by omega, by omega, ?_⟩, by omega⟩
 ·cases G with
  | zero => omega
  | succ G =>
   refine ⟨G, by omega, ?_⟩
   rw [h2]
   simp only [rounds, if_neg hz]
   rw [Nat.add_assoc, Nat.add_comm 1 k]
 ·have := OkS.round hl h5
  rw [Nat.add_assoc] at this
  exact this
theorem GI.kle {l : List Inp} {F : Nat} {S0 : Ls} {w k : Nat} {S : Ls} (h : GI l F S0 w k S) : k ≤ memG l := by
 obtain ⟨d, h3, h4, h5⟩ := h.d; omega
theorem GI.ok {l : List Inp} {F : Nat} {S0 : Ls} {w k : Nat} {S : Ls} (h : GI l F S0 w k S) : OkS S (w + memG l) := by
 obtain ⟨d, h3, h4, h5⟩ := h.d; exact h5.mono (by omega)
inductive RG (l : List Inp) (B : Ls) : Ls → Prop where
 | refl : RG l B B
 | step {T : Ls} {x : Inp} {j : Nat} (h : RG l B T) (hx : x ∈ l) (hj : j < x.view.members.length) (hc : can T x.name x.view j = true) : RG l B (loadM T x.name x.view j)
theorem RG.passN {l : List Inp} {B T : Ls} (h : RG l B T) {x : Inp} (hx : x ∈ l) : ∀ k, k ≤ x.view.members.length → RG l B (passN x.name x.view k T).1
 | 0, _ => h
 | k + 1, hk => by
  have ih := h.passN hx k (by omega)
  simp only [Sc.passN]
  split
  ·rename_i hc; exact .step ih hx (by omega) hc
  ·exact ih
theorem RG.pass {l : List Inp} {B T : Ls} (h : RG l B T) {x : Inp} (hx : x ∈ l) : RG l B (Sc.pass x.name x.view T).1 := h.passN hx _ (Nat.le_refl _)
theorem RG.arch {l : List Inp} {B : Ls} {x : Inp} (hx : x ∈ l) : ∀ (F : Nat) {T : Ls}, RG l B T → RG l B (Sc.arch x.name x.view F T).1
 | 0, T, h => h
 | F + 1, T, h => by
  simp only [Sc.arch]
  split
  ·exact h.pass hx
  ·exact RG.arch hx F (h.pass hx)
theorem RG.round {l : List Inp} {B T : Ls} (h : RG l B T) : ∀ m : List Inp, (∀ x ∈ m, x ∈ l) → RG l B (Gp.round m T).1 := by
 intro m
 rw [← List.reverse_reverse m]
 generalize m.reverse = r
 induction r with
 | nil => intro _; exact h
 | cons x r ih =>
  intro hm
  rw [List.reverse_cons] at hm ⊢
  have h1 := ih fun y hy => hm y (by simp at hy ⊢; exact .inl hy)
  rw [round_snoc]
  exact h1.pass (hm x (by simp))
theorem RG.rounds {l : List Inp} {B : Ls} : ∀ (F : Nat) {T : Ls}, RG l B T → RG l B (Gp.rounds l F T).1
 | 0, T, h => h
 | F + 1, T, h => by
  simp only [Gp.rounds]
  split
  ·exact h.round l fun _ h => h
  ·exact RG.rounds F (h.round l fun _ h => h)
abbrev Dis (l : List Inp) : Prop := (l.map (·.name)).Nodup
theorem Dis.eq {l : List Inp} (h : Dis l) {x y : Inp} (hx : x ∈ l) (hy : y ∈ l) (e : x.name = y.name) : x = y := by
 induction l with
 | nil => simp at hx
 | cons z l ih =>
  simp only [Dis, List.map_cons, List.nodup_cons] at h
  rcases List.mem_cons.1 hx with rfl | hx' <;> rcases List.mem_cons.1 hy with rfl | hy'
  ·rfl
  ·exact absurd (List.mem_map.2 ⟨y, hy', e.symm⟩) h.1
  ·exact absurd (List.mem_map.2 ⟨x, hx', e⟩) h.1
  ·exact ih h.2 hx' hy'
theorem RG.inv {l : List Inp} {B S : Ls} (h : RG l B S) (hd : Dis l) {y : Inp} (hy : y ∈ l) (hi : Inv y.name y.view B) : Inv y.name y.view S := by
 induction h with
 | refl => exact hi
 | @step T x j h hx hj hc ih =>
  by_cases e : x.name = y.name
  ·obtain rfl := hd.eq hx hy e
   exact ih.loadM hj (can_not hc)
  ·exact ih.loadM' e (can_not hc)
theorem ldG_inv {f : Str} {v : View} {l : List Inp} (hl : ∀ x ∈ l, x.name ≠ f) : ∀ {S : Ls}, Inv f v S → Inv f v (ldG l S) := by
 induction l with
 | nil => intro S h; exact h
 | cons x l ih => intro S h; exact ih (fun y hy => hl y (by simp [hy])) (h.loadO (hl x (by simp)) x.obj)
theorem round_zero {S : Ls} : ∀ m : List Inp, (round m S).2 = 0 → (round m S).1 = S ∧ ∀ x ∈ m, ∀ i < x.view.members.length, can S x.name x.view i = false := by
 intro m
 rw [← List.reverse_reverse m]
 generalize m.reverse = r
 induction r with
 | nil => intro _; exact ⟨rfl, fun x hx => by simp at hx⟩
 | cons x r ih =>
  intro h
  rw [List.reverse_cons, round_snoc] at h ⊢
  simp only [] at h
  obtain ⟨h1, h2⟩ := ih (by omega)
  rw [h1] at h ⊢
  have h5 : (pass x.name x.view S).2 = 0 := by omega
  obtain ⟨h3, h4⟩ := passN_zero x.name x.view S _ h5
  refine ⟨h3, fun y hy => ?_⟩
  simp only [List.mem_append, List.mem_singleton] at hy
  rcases hy with hy | rfl
  ·exact h2 y hy
  ·exact h4
theorem rounds_done {l : List Inp} : ∀ (F : Nat) {S : Ls}, lftG l S < F → (∀ x ∈ l, ∀ i < x.view.members.length, can (rounds l F S).1 x.name x.view i = false) ∧ 1 ≤ (rounds l F S).2 ∧ (rounds l F S).2 + lftG l (rounds l F S).1 ≤ lftG l S + 1
 | 0, S, h => by omega
 | F + 1, S, h => by
  have hl := lftG_round l S l (fun _ h => h)
  simp only [rounds]
  split
  ·rename_i hz
   obtain ⟨h1, h2⟩ := round_zero l hz
   rw [h1] at hl ⊢
   exact ⟨h2, Nat.le_refl _, by simp only []; omega⟩
  ·rename_i hz
   obtain ⟨h1, h2, h3⟩ := rounds_done (l := l) F (S := (round l S).1) (by omega)
   exact ⟨h1, by simp only []; omega, by simp only []; omega⟩
theorem round_done {S : Ls} : ∀ m : List Inp, (∀ x ∈ m, ∀ i < x.view.members.length, can S x.name x.view i = false) → round m S = (S, 0) := by
 intro m
 rw [← List.reverse_reverse m]
 generalize m.reverse = r
 induction r with
 | nil => intro _; rfl
 | cons x r ih =>
  intro h
  rw [List.reverse_cons] at h ⊢
  rw [round_snoc, ih fun y hy => h y (by simp at hy ⊢; exact .inl hy), pass_done (h x (by simp))]
  rfl
theorem canG_done {l : List Inp} {S : Ls} (h : ∀ x ∈ archs l, ∀ i < x.view.members.length, can S x.name x.view i = false) : canG l S = false := by
 unfold canG
 rw [List.any_eq_false]
 intro x hx
 cases ha : x.arch with
 | false => simp
 | true =>
  have := canL_done (h x (List.mem_filter.2 ⟨hx, by simpa using ha⟩))
  rw [this]; simp
theorem rounds_one (x : Inp) : ∀ (F : Nat) (S : Ls), rounds [x] F S = Sc.arch x.name x.view F S
 | 0, S => rfl
 | F + 1, S => by
  have e : round [x] S = pass x.name x.view S := by simp [round]
  simp only [rounds, Sc.arch, e, rounds_one x F]
end Go.AL.Gp

namespace Go.AL.Gp
open Go Go.AL Go.AL.Bd Go.AL.Tb Go.AL.Sc
theorem fold_sref (l : List Use) : ∀ st : State, (l.foldl (fun s x => merge s x.sym x.unit) st).sref = (st.sref || l.any fun u => decide (u.sym.bind = 4)) := by
 induction l with
 | nil => intro st; simp
 | cons x l ih =>
  intro st
  rw [List.foldl_cons, ih, List.any_cons]
  have : (merge st x.sym x.unit).sref = (st.sref || decide (x.sym.bind = 4)) := by
   show (st.sref || (one x.sym x.unit).sref) = _
   congr 1
   unfold one
   split
   ·rename_i h; simp [h]
   ·rename_i h
    split <;> simp [empty, h]
  rw [this, Bool.or_assoc]
theorem fold_defd (l : List Use) (h : ∀ u ∈ l, 1 ≤ u.sym.bind ∧ u.sym.bind ≤ 5) : ∀ st : State, (l.foldl (fun s x => merge s x.sym x.unit) st).defd = (st.defd || l.any fun u => decide (u.sym.bind = 1) || decide (u.sym.bind = 2)) := by
 induction l with
 | nil => intro st; simp
 | cons x l ih =>
  intro st
  rw [List.foldl_cons, ih (fun u hu => h u (by simp [hu])), List.any_cons]
  have hx := h x (by simp)
  have : (merge st x.sym x.unit).defd = (st.defd || (decide (x.sym.bind = 1) || decide (x.sym.bind = 2))) := by
   show (st.defd || (one x.sym x.unit).defd) = _
   congr 1
   unfold one
   split
   ·rename_i h; simp [h, empty]
   ·rename_i h
    split
    ·rename_i h5; simp [empty, h5]
    ·rename_i h5
     by_cases h3 : x.sym.bind = 3
     ·simp [h3]
     ·have : x.sym.bind = 1 ∨ x.sym.bind = 2 := by omega
      rcases this with e | e <;> simp [e]
  rw [this, Bool.or_assoc]
theorem mem_uses {l : List Ob.Obj} {o : Ob.Obj} {s : Ob.Sym} (ho : o ∈ l) (hs : s ∈ o.syms) : ∀ n, ∃ i : Nat, (⟨Sy.toB s, (i : Int)⟩ : Use) ∈ usesL n l := by
 induction l with
 | nil => simp at ho
 | cons x l ih =>
  intro n
  rcases List.mem_cons.1 ho with rfl | ho
  ·exact ⟨n, by simp only [usesL, List.mem_append]; exact .inl (List.mem_map.2 ⟨s, hs, rfl⟩)⟩
  ·obtain ⟨i, hi⟩ := ih ho (n + 1)
   exact ⟨i, by simp only [usesL, List.mem_append]; exact .inr hi⟩
abbrev Bk (os : List Ob.Obj) : Prop := ∀ o ∈ os, ∀ s ∈ o.syms, 1 ≤ s.bind ∧ s.bind ≤ 5
theorem wd_iff {os : List Ob.Obj} (h : Bk os) (d : Str) : wd (Us os) d = true ↔ (∃ o ∈ os, ∃ s ∈ o.syms, s.name = d ∧ s.bind = 4) ∧ ¬ ∃ o ∈ os, ∃ s ∈ o.syms, s.name = d ∧ isDef s = true := by
 have hb : ∀ u ∈ Sy.of (Us os) d, 1 ≤ u.sym.bind ∧ u.sym.bind ≤ 5 := fun u hu => by
  obtain ⟨o, ho, s, hs, i, rfl⟩ := usesL_mem (List.mem_filter.1 hu).1
  exact h o ho s hs
 unfold wd wanted
 have e1 : (all (Sy.of (Us os) d)).sref = _ := fold_sref (Sy.of (Us os) d) empty
 have e2 : (all (Sy.of (Us os) d)).defd = _ := fold_defd (Sy.of (Us os) d) hb empty
 rw [e1, e2]
 simp only [empty, Bool.false_or, Bool.and_eq_true, Bool.not_eq_true']
 have k1 : ∀ (p : Use → Bool) (q : Ob.Sym → Bool), (∀ s (i : Int), p ⟨Sy.toB s, i⟩ = q s) → ((Sy.of (Us os) d).any p = true ↔ ∃ o ∈ os, ∃ s ∈ o.syms, s.name = d ∧ q s = true) := fun p q hpq => by
  rw [List.any_eq_true]
  constructor
  ·rintro ⟨u, hu, hp⟩
   obtain ⟨hu1, hu2⟩ := List.mem_filter.1 hu
   obtain ⟨o, ho, s, hs, i, rfl⟩ := usesL_mem hu1
   exact ⟨o, ho, s, hs, of_decide_eq_true hu2, by rw [← hpq s i]; exact hp⟩
  ·rintro ⟨o, ho, s, hs, rfl, hq⟩
   obtain ⟨i, hi⟩ := mem_uses ho hs 0
   exact ⟨_, List.mem_filter.2 ⟨hi, by simp [Sy.toB]⟩, by rw [hpq]; exact hq⟩
 have k2 := k1 (fun u => decide (u.sym.bind = 4)) (fun s => decide (s.bind = 4)) (fun _ _ => rfl)
 have k3 := k1 (fun u => decide (u.sym.bind = 1) || decide (u.sym.bind = 2)) isDef (fun _ _ => rfl)
 rw [k2]
 simp only [decide_eq_true_eq]
 rw [Bool.eq_false_iff, ne_eq, k3]
structure RF (l : List Inp) (B S : Ls) : Prop where
 o1 : ∀ o ∈ S.os, o ∈ B.os ∨ ∃ x ∈ l, ∃ j, j < x.view.members.length ∧ (x.name, j) ∈ S.ld ∧ o = (dec (memAt x.view j).data).1
 o2 : ∀ o ∈ B.os, o ∈ S.os
 u2 : ∀ u ∈ B.us, u ∈ S.us
 l3 : ∀ p ∈ S.ld, ∃ x ∈ l, x.name = p.1 ∧ p.2 < x.view.members.length ∧ ⟨x.name, (memAt x.view p.2).name, (p.2 : Int)⟩ ∈ S.us ∧ (dec (memAt x.view p.2).data).1 ∈ S.os
 u4 : ∀ u ∈ S.us, u ∈ B.us ∨ ∃ x ∈ l, ∃ j, (x.name, j) ∈ S.ld ∧ u = ⟨x.name, (memAt x.view j).name, (j : Int)⟩
 nd : S.ld.Nodup
 ln : S.us.length = B.us.length + S.ld.length
theorem RG.facts {l : List Inp} {B S : Ls} (h : RG l B S) (hB : B.ld = []) : RF l B S := by
 induction h with
 | refl => exact ⟨fun o ho => .inl ho, fun o ho => ho, fun u hu => hu, fun p hp => by rw [hB] at hp; simp at hp, fun u hu => .inl hu, by rw [hB]; exact List.nodup_nil, by rw [hB]; rfl⟩
 | @step T x j h hx hj hc ih =>
  have hn := can_not hc
  refine ⟨fun o ho => ?_, fun o ho => ?_, fun u hu => ?_, fun p hp => ?_, fun u hu => ?_, ?_, ?_⟩
  ·simp only [Sc.loadM, List.mem_append, List.mem_singleton] at ho ⊢
   rcases ho with ho | rfl
   ·rcases ih.o1 o ho with a | ⟨y, hy, i, hi, hp, e⟩
    ·exact .inl a
    ·exact .inr ⟨y, hy, i, hi, .inl hp, e⟩
   ·exact .inr ⟨x, hx, j, hj, .inr rfl, rfl⟩
  ·simp only [Sc.loadM, List.mem_append]; exact .inl (ih.o2 o ho)
  ·simp only [Sc.loadM, List.mem_append]; exact .inl (ih.u2 u hu)
  ·simp only [Sc.loadM, List.mem_append, List.mem_singleton] at hp ⊢
   rcases hp with hp | rfl
   ·obtain ⟨y, hy, e, hi, a, b⟩ := ih.l3 p hp
    exact ⟨y, hy, e, hi, .inl a, .inl b⟩
   ·exact ⟨x, hx, rfl, hj, .inr rfl, .inr rfl⟩
  ·simp only [Sc.loadM, List.mem_append, List.mem_singleton] at hu ⊢
   rcases hu with hu | rfl
   ·rcases ih.u4 u hu with a | ⟨y, hy, i, hp, e⟩
    ·exact .inl a
    ·exact .inr ⟨y, hy, i, .inl hp, e⟩
   ·exact .inr ⟨x, hx, j, .inr rfl, rfl⟩
  ·simp only [Sc.loadM]
   rw [List.nodup_append]
   exact ⟨ih.nd, by simp, fun a ha b hb e => hn (by simp at hb; rw [← hb, ← e]; exact ha)⟩
  ·simp only [Sc.loadM, List.length_append, List.length_singleton, ih.ln]; omega
def Uniq (l : List Inp) : Prop := ∀ x ∈ l, ∀ y ∈ l, ∀ i j, i < x.view.members.length → j < y.view.members.length → ∀ d, d ∈ defsOf (memAt x.view i).data → d ∈ defsOf (memAt y.view j).data → x = y ∧ i = j
def Wf (x : Inp) : Prop := x.view.defs = x.view.members.map fun m => defsOf m.data
theorem more_ld {l : List Inp} {B X S : Ls} (hB : B.ld = []) (hwf : ∀ x ∈ l, Wf x) (hu : Uniq l) (hd : Dis l) (hbX : ∀ {T}, RG l B T → Bk T.os) (hS : RG l B S) (hcl : ∀ x ∈ l, ∀ i < x.view.members.length, can S x.name x.view i = false) (hX : RG l B X) : ∀ p ∈ X.ld, p ∈ S.ld := by
 have FS := hS.facts hB
 induction hX with
 | refl => intro p hp; rw [hB] at hp; simp at hp
 | @step T x j h hx hj hc ih =>
  intro p hp
  simp only [Sc.loadM, List.mem_append, List.mem_singleton] at hp
  rcases hp with hp | rfl
  ·exact ih p hp
  ·have FT := h.facts hB
   refine Classical.byContradiction fun hno => ?_
   have hdj : (x.view.defs.getD j []) = defsOf (memAt x.view j).data := by
    rw [hwf x hx]
    have := (memAt_mem hj).2
    simp [List.getD, this]
   have hlen : j < x.view.defs.length := by rw [hwf x hx]; simpa using hj
   unfold can at hc
   simp only [Bool.and_eq_true, List.any_eq_true] at hc
   obtain ⟨_, _, d, hdm, hwd⟩ := hc
   rw [hdj] at hdm
   have hcS := hcl x hx j hj
   unfold can at hcS
   rw [decide_eq_false hno, decide_eq_true hlen, hdj] at hcS
   simp only [Bool.not_false, Bool.true_and, List.any_eq_false] at hcS
   have hnS := hcS d hdm
   rw [wd_iff (hbX h)] at hwd
   rw [wd_iff (hbX hS)] at hnS
   obtain ⟨⟨o, ho, s, hs, hsn, hs4⟩, hnd⟩ := hwd
   have hoS : o ∈ S.os := by
    rcases FT.o1 o ho with a | ⟨y, hy, i, hi, hp, e⟩
    ·exact FS.o2 o a
    ·obtain ⟨z, hz, ez, _, _, b⟩ := FS.l3 _ (ih _ hp)
     obtain rfl := hd.eq hz hy ez
     rw [e]; exact b
   have hdef : ∃ o ∈ S.os, ∃ s ∈ o.syms, s.name = d ∧ isDef s = true := Classical.byContradiction fun hq => hnS ⟨⟨o, hoS, s, hs, hsn, hs4⟩, hq⟩
   obtain ⟨o', ho', s', hs', hn', hdf⟩ := hdef
   rcases FS.o1 o' ho' with a | ⟨y, hy, i, hi, hp, e⟩
   ·exact hnd ⟨o', FT.o2 o' a, s', hs', hn', hdf⟩
   ·have hmem : d ∈ defsOf (memAt y.view i).data := by
     unfold defsOf
     rw [← e]
     exact List.mem_map.2 ⟨s', List.mem_filter.2 ⟨hs', hdf⟩, hn'⟩
    obtain ⟨rfl, rfl⟩ := hu x hx y hy j i hj hi d hdm hmem
    exact hno hp
theorem more {l : List Inp} {B X S : Ls} (hB : B.ld = []) (hwf : ∀ x ∈ l, Wf x) (hu : Uniq l) (hd : Dis l) (hbX : ∀ {T}, RG l B T → Bk T.os) (hS : RG l B S) (hcl : ∀ x ∈ l, ∀ i < x.view.members.length, can S x.name x.view i = false) (hX : RG l B X) :
  (∀ u ∈ X.us, u ∈ S.us) ∧ X.us.length ≤ S.us.length := by
 have hsub := more_ld hB hwf hu hd hbX hS hcl hX
 have FS := hS.facts hB
 have FX := hX.facts hB
 refine ⟨fun u hu => ?_, ?_⟩
 ·rcases FX.u4 u hu with a | ⟨x, hx, j, hp, rfl⟩
  ·exact FS.u2 u a
  ·obtain ⟨z, hz, ez, _, b, _⟩ := FS.l3 _ (hsub _ hp)
   obtain rfl := hd.eq hz hx ez
   exact b
 ·rw [FX.ln, FS.ln]
  have := FX.nd.length_le_of_subset hsub
  omega
theorem RG.bk {l : List Inp} {B T : Ls} (h : RG l B T) (hl : ∀ x ∈ l, OkI x) (hB : Bk B.os) : Bk T.os := by
 induction h with
 | refl => exact hB
 | @step T x j h hx hj hc ih =>
  intro o ho s hs
  simp only [Sc.loadM, List.mem_append, List.mem_singleton] at ho
  rcases ho with ho | rfl
  ·exact ih o ho s hs
  ·have h1 := (dec_ok ((hl x hx).v.b _ (memAt_mem hj).1)).ok s hs
   exact ⟨h1.1, h1.2.1⟩
theorem flat_uniq {α : Type} : ∀ {L : List (List α)}, L.flatten.Nodup → ∀ {i j : Nat} {a b : List α} {d : α}, L[i]? = some a → L[j]? = some b → d ∈ a → d ∈ b → i = j
 | [], _, i, j, a, b, d, h, _, _, _ => by simp at h
 | x :: L, hn, i, j, a, b, d, h1, h2, h3, h4 => by
  rw [List.flatten_cons, List.nodup_append] at hn
  obtain ⟨n1, n2, n3⟩ := hn
  cases i with
  | zero =>
   cases j with
   | zero => rfl
   | succ j =>
    simp at h1 h2
    subst h1
    exact absurd rfl (n3 d h3 d (List.mem_flatten.2 ⟨b, List.mem_of_getElem? h2, h4⟩))
  | succ i =>
   cases j with
   | zero =>
    simp at h1 h2
    subst h2
    exact absurd rfl (n3 d h4 d (List.mem_flatten.2 ⟨a, List.mem_of_getElem? h1, h3⟩))
   | succ j =>
    have := flat_uniq (L := L) n2 (i := i) (j := j) (by simpa using h1) (by simpa using h2) h3 h4
    omega
abbrev flatD (l : List Inp) : List Str := (l.map fun x => x.view.defs.flatten).flatten
theorem uniq_of {l : List Inp} (h : (flatD l).Nodup) (hwf : ∀ x ∈ l, Wf x) : Uniq l := by
 intro x hx y hy i j hi hj d h1 h2
 have hd : ∀ z ∈ l, ∀ k, k < z.view.members.length → z.view.defs[k]? = some (defsOf (memAt z.view k).data) := fun z hz k hk => by
  rw [hwf z hz]
  have := (memAt_mem hk).2
  simp [this]
 obtain ⟨a, ha⟩ := List.getElem?_of_mem hx
 obtain ⟨b, hb⟩ := List.getElem?_of_mem hy
 have hab : a = b := flat_uniq h (i := a) (j := b) (a := x.view.defs.flatten) (b := y.view.defs.flatten) (d := d) (by simp [ha]) (by simp [hb])
  (List.mem_flatten.2 ⟨_, List.mem_of_getElem? (hd x hx i hi), h1⟩) (List.mem_flatten.2 ⟨_, List.mem_of_getElem? (hd y hy j hj), h2⟩)
 subst hab
 rw [ha] at hb
 injection hb with hb
 subst hb
 refine ⟨rfl, ?_⟩
 have hn : x.view.defs.flatten.Nodup := by
  have h3 : x.view.defs.flatten ∈ l.map fun x => x.view.defs.flatten := List.mem_map.2 ⟨x, hx, rfl⟩
  clear hd h1 h2 hx hy ha
  replace h : (l.map fun x => x.view.defs.flatten).flatten.Nodup := h
  generalize (l.map fun x => x.view.defs.flatten) = L at h h3
  induction L with
  | nil => simp at h3
  | cons c L ih =>
   rw [List.flatten_cons, List.nodup_append] at h
   rcases List.mem_cons.1 h3 with e | e
   ·rw [e]; exact h.1
   ·exact ih h.2.1 e
 exact flat_uniq hn (hd x hx i hi) (hd x hx j hj) h1 h2
end Go.AL.Gp

namespace Go.AL.Gp
open Go Go.AL Go.AL.Bd Go.AL.Tb Go.AL.Sc
structure Fil where
 arch : Bool
 members : List Mem
 obj : Ob.Obj
abbrev Fil.enc (x : Fil) : List D := [vB x.arch, LM x.members, .list .any (SE x.obj.syms), LB x.obj.body]
abbrev LF (l : List Fil) : D := .list .any (l.map Fil.enc)
def nameOf (k : Nat) : Str := [102, UInt8.ofNat (48 + k)]
def mkIn (k : Nat) (x : Fil) : Inp := ⟨nameOf k, x.arch, if x.arch = true then ⟨[], []⟩ else x.obj, if x.arch = true then (viewR x.members).1 else ⟨[], []⟩⟩
def insL : Nat → List Fil → List Inp
 | _, [] => []
 | n, x :: r => mkIn n x :: insL (n + 1) r
theorem insL_snoc : ∀ (l : List Fil) (n : Nat) (x : Fil), insL n (l ++ [x]) = insL n l ++ [mkIn (n + l.length) x]
 | [], n, x => rfl
 | y :: l, n, x => by
  have ih := insL_snoc l (n + 1) x
  simp only [List.cons_append, insL, List.length_cons, ih]
  rw [show n + 1 + l.length = n + (l.length + 1) by omega]
theorem insL_take {l : List Fil} {k : Nat} {x : Fil} (h : l[k]? = some x) : insL 0 (l.take (k + 1)) = insL 0 (l.take k) ++ [mkIn k x] := by
 have hk := (List.getElem?_eq_some_iff.1 h).1
 rw [List.take_add_one, h, Option.toList_some, insL_snoc, List.length_take, Nat.min_eq_left (by omega), Nat.zero_add]
theorem insL_len : ∀ (l : List Fil) (n : Nat), (insL n l).length = l.length
 | [], _ => rfl
 | x :: l, n => by simp [insL, insL_len l]
theorem insL_names : ∀ (l : List Fil) (n : Nat), (insL n l).map (·.name) = (List.range' n l.length).map nameOf
 | [], _ => rfl
 | x :: l, n => by
  simp only [insL, List.map_cons, List.length_cons, List.range'_succ, insL_names l (n + 1)]
  rfl
def filOk (x : Fil) : Bool := if x.arch = true then (viewR x.members).2 && decide (x.members.length ≤ 6) else rightO [x.obj]
def inputsR (l : List Fil) : List Inp × Bool := if l.length ≤ 6 ∧ l.all filOk = true then (insL 0 l, true) else ([], false)
theorem insL_mem : ∀ {l : List Fil} {n : Nat} {y : Inp}, y ∈ insL n l → ∃ x ∈ l, ∃ k, y = mkIn k x ∧ k < n + l.length
 | [], n, y, h => by simp [insL] at h
 | x :: l, n, y, h => by
  simp only [insL, List.mem_cons] at h
  rcases h with rfl | h
  ·exact ⟨x, by simp, n, rfl, by simp⟩
  ·obtain ⟨z, hz, k, e, hk⟩ := insL_mem h
   exact ⟨z, by simp [hz], k, e, by simp only [List.length_cons]; omega⟩
theorem okO_nil : OkO ⟨[], []⟩ := ⟨by simp, fun s hs => by simp at hs, fun s hs => by simp at hs⟩
theorem okV_nil : OkV ⟨[], []⟩ := ⟨by simp, rfl, fun m hm => by simp at hm⟩
structure Good (l : List Inp) : Prop where
 len : l.length ≤ 6
 ok : ∀ x ∈ l, OkI x
 dis : Dis l
 wf : ∀ x ∈ l, Wf x
 mem : ∀ x ∈ l, x.view.members.length ≤ 6
 o : ∀ x ∈ l, x.name ≠ [111]
 nm : ∀ x ∈ l, ∀ m ∈ x.view.members, m.name.length ≤ 255
theorem names_nodup : ∀ n, n ≤ 6 → ((List.range' 0 n).map nameOf).Nodup
 | 0, _ => by decide
 | 1, _ => by decide
 | 2, _ => by decide
 | 3, _ => by decide
 | 4, _ => by decide
 | 5, _ => by decide
 | 6, _ => by decide
 | n + 7, h => by omega
theorem inputs_good {l : List Fil} (h : (inputsR l).2 = true) : (inputsR l).1 = insL 0 l ∧ Good (insL 0 l) := by
 unfold inputsR at h ⊢
 split
 ·rename_i hc
  obtain ⟨h1, h2⟩ := hc
  have key : ∀ y ∈ insL 0 l, OkI y ∧ Wf y ∧ y.view.members.length ≤ 6 ∧ y.name ≠ [111] ∧ ∀ m ∈ y.view.members, m.name.length ≤ 255 := fun y hy => by
   obtain ⟨x, hx, k, rfl, hk⟩ := insL_mem hy
   have hf := List.all_eq_true.1 h2 x hx
   unfold filOk at hf
   cases ha : x.arch with
   | true =>
    rw [ha] at hf
    simp only [if_true, Bool.and_eq_true, decide_eq_true_eq] at hf
    obtain ⟨e, okv, hnm⟩ := viewR_ok hf.1
    have hv : (mkIn k x).view = ⟨x.members, x.members.map fun m => defsOf m.data⟩ := by simp [mkIn, ha, e]
    have ho : (mkIn k x).obj = ⟨[], []⟩ := by simp [mkIn, ha]
    refine ⟨⟨by rw [hv]; exact okv, by rw [ho]; exact okO_nil, by simp [mkIn, nameOf]⟩, by rw [Wf, hv], by rw [hv]; exact hf.2, by simp [mkIn, nameOf], by rw [hv]; exact hnm⟩
   | false =>
    rw [ha] at hf
    simp only [Bool.false_eq_true, if_false] at hf
    have hv : (mkIn k x).view = ⟨[], []⟩ := by simp [mkIn, ha]
    have ho : (mkIn k x).obj = x.obj := by simp [mkIn, ha]
    refine ⟨⟨by rw [hv]; exact okV_nil, by rw [ho]; exact right_okO hf x.obj (by simp), by simp [mkIn, nameOf]⟩, by rw [Wf, hv]; rfl, by rw [hv]; simp, by simp [mkIn, nameOf], by rw [hv]; simp⟩
  refine ⟨rfl, by rw [insL_len]; exact h1, fun y hy => (key y hy).1, ?_, fun y hy => (key y hy).2.1, fun y hy => (key y hy).2.2.1, fun y hy => (key y hy).2.2.2.1, fun y hy => (key y hy).2.2.2.2⟩
  unfold Dis
  rw [insL_names]
  exact names_nodup _ h1
 ·rename_i hc
  rw [if_neg hc] at h
  exact absurd h (by simp)
theorem memG_le {l : List Inp} (h : ∀ x ∈ l, x.view.members.length ≤ 6) : memG l ≤ 6 * l.length := by
 induction l with
 | nil => simp [memG]
 | cons x l ih =>
  have h1 := ih fun y hy => h y (by simp [hy])
  have h2 := h x (by simp)
  simp only [memG, List.map_cons, List.sum_cons, List.length_cons] at h1 ⊢
  omega
theorem memG_sub {l : List Inp} (p : Inp → Bool) : memG (l.filter p) ≤ memG l := by
 induction l with
 | nil => simp [memG]
 | cons x l ih =>
  rw [List.filter_cons]
  split
  ·simp only [memG, List.map_cons, List.sum_cons] at ih ⊢; omega
  ·simp only [memG, List.map_cons, List.sum_cons] at ih ⊢; omega
theorem memG_snoc (l : List Inp) (x : Inp) : memG (l ++ [x]) = memG l + x.view.members.length := by simp [memG]
theorem Dis.filter {l : List Inp} (h : Dis l) (p : Inp → Bool) : Dis (l.filter p) := by
 unfold Dis at h ⊢
 exact List.Nodup.sublist (List.Sublist.map _ List.filter_sublist) h
theorem round_len (l : List Inp) (S : Ls) : (round l S).1.us.length = S.us.length + (round l S).2 := by
 rw [← List.reverse_reverse l]
 generalize l.reverse = r
 induction r with
 | nil => rfl
 | cons x r ih =>
  rw [List.reverse_cons, round_snoc]
  have := (passN_len x.name x.view (round r.reverse S).1 x.view.members.length).2.1
  show (passN _ _ _ _).1.us.length = _ + (_ + (passN _ _ _ _).2)
  rw [this, ih]; omega
theorem Good.inv {l : List Inp} (h : Good l) {S : Ls} (hS : ∀ x ∈ l, Inv x.name x.view S) : ∀ x ∈ archs l, Inv x.name x.view (ldG (objs l) S) := fun x hx => by
 obtain ⟨h1, h2⟩ := List.mem_filter.1 hx
 refine ldG_inv (fun y hy e => ?_) (hS x h1)
 obtain ⟨h3, h4⟩ := List.mem_filter.1 hy
 have := h.dis.eq h3 h1 e
 subst this
 rw [h2] at h4
 simp at h4
def item (x : Inp) (F : Nat) (S : Ls) : Ls × Nat := if x.arch = true then arch x.name x.view F S else (Sc.loadO S x.name x.obj, 0)
def itemsL (F : Nat) (l : List Inp) (S : Ls) : Ls := l.foldl (fun S x => (item x F S).1) S
theorem itemsL_take {l : List Inp} {k : Nat} {x : Inp} (h : l[k]? = some x) (F : Nat) (S : Ls) : itemsL F (l.take (k + 1)) S = (item x F (itemsL F (l.take k) S)).1 := by
 rw [List.take_add_one, h]; simp [itemsL, List.foldl_append]
theorem item_ok {x : Inp} (hx : OkI x) (F : Nat) {S : Ls} {w : Nat} (h : OkS S w) : OkS (item x F S).1 (w + x.view.members.length + 1) := by
 unfold item
 split
 ·exact (OkS.arch hx.v hx.n F h).mono (by have := lft_le x.name x.view S; omega)
 ·exact (h.loadO x.name hx.o).mono (by omega)
theorem itemsL_ok {l : List Inp} (hl : ∀ x ∈ l, OkI x) (F : Nat) {S : Ls} {w : Nat} (h : OkS S w) : OkS (itemsL F l S) (w + memG l + l.length) := by
 induction l generalizing S w with
 | nil => exact h
 | cons x l ih =>
  have := ih (fun y hy => hl y (by simp [hy])) (item_ok (hl x (by simp)) F h)
  exact this.mono (by simp only [memG, List.map_cons, List.sum_cons, List.length_cons]; omega)
theorem item_inv {x y : Inp} (hd : x.name ≠ y.name) (F : Nat) {S : Ls} (h : Inv y.name y.view S) : Inv y.name y.view (item x F S).1 := by
 unfold item
 split
 ·exact Inv.arch' hd F h
 ·exact h.loadO hd x.obj
theorem itemsL_inv {l : List Inp} {y : Inp} (hy : ∀ x ∈ l, x.name ≠ y.name) (F : Nat) {S : Ls} (h : Inv y.name y.view S) : Inv y.name y.view (itemsL F l S) := by
 induction l generalizing S with
 | nil => exact h
 | cons x l ih => exact ih (fun z hz => hy z (by simp [hz])) (item_inv (hy x (by simp)) F h)
theorem Dis.take_ne {l : List Inp} (h : Dis l) {k : Nat} {y : Inp} (hk : l[k]? = some y) : ∀ x ∈ l.take k, x.name ≠ y.name := fun x hx e => by
 obtain ⟨i, hi, rfl⟩ := List.getElem_of_mem hx
 have hik : i < k := by rw [List.length_take] at hi; omega
 have hkl := (List.getElem?_eq_some_iff.1 hk).1
 have h1 : (l.map (·.name))[i]? = some y.name := by
  rw [List.getElem?_map, List.getElem?_eq_getElem (by omega)]
  simp only [List.getElem_take] at e
  simp [e]
 have h2 : (l.map (·.name))[k]? = some y.name := by rw [List.getElem?_map, hk]; rfl
 exact nodup_at (p := fun _ => true) (by rw [List.filter_eq_self.2 (fun _ _ => rfl)]; exact h) hik h2 h1 rfl
end Go.AL.Gp
