/- The states of symbols, in plain Lean. No condition. -/
import Derived.Test.YtdlcaoobaejlpaaDoorAoC
import Derived.Lib.Bytealg
import Derived.Sort.Walk0
set_option linter.unusedVariables false
namespace Go.AL.Bd
open Go Go.AL
structure Sym where
  name : Str
  bind : Int
  size : Int
  align : Int
structure Use where
  sym : Sym
  unit : Int
structure State where
  bind : Int
  size : Int
  align : Int
  unit : Int
  defd : Bool
  sref : Bool
  wref : Bool
  strongs : List Int
deriving DecidableEq
abbrev Sym.enc (x : Sym) : List D := [sD x.name, vI x.bind, vI x.size, vI x.align]
abbrev Use.enc (x : Use) : List D := [sD x.sym.name, vI x.sym.bind, vI x.sym.size, vI x.sym.align, vI x.unit]
abbrev State.enc (s : State) : List D := [vI s.bind, vI s.size, vI s.align, vI s.unit, vB s.defd, vB s.sref, vB s.wref, LI s.strongs]
abbrev State.encN (s : State) : List D := [vI s.bind, vI s.size, vI s.align, vI s.unit, vB s.defd, vB s.sref, vB s.wref, LIn s.strongs]
abbrev LU (l : List Use) : D := .list .any (l.map Use.enc)

def empty : State := ⟨0, 0, 0, -1, false, false, false, []⟩
def strength (b : Int) : Int := if b = 1 then 3 else if b = 3 then 2 else if b = 2 then 1 else 0
def one (x : Sym) (u : Int) : State :=
  if x.bind = 4 then { empty with sref := true }
  else if x.bind = 5 then { empty with wref := true }
  else ⟨x.bind, x.size, if x.bind = 3 then x.align else 0, u, !decide (x.bind = 3), false, false, if x.bind = 1 then [u] else []⟩
def join (a b : State) : State :=
  ⟨if strength b.bind > strength a.bind then b.bind else a.bind,
   if strength b.bind > strength a.bind then b.size else if a.bind = 3 ∧ b.bind = 3 then max a.size b.size else a.size,
   if strength b.bind > strength a.bind then b.align else if a.bind = 3 ∧ b.bind = 3 then max a.align b.align else a.align,
   if strength b.bind > strength a.bind then b.unit else a.unit,
   a.defd || b.defd, a.sref || b.sref, a.wref || b.wref, a.strongs ++ b.strongs⟩
def merge (s : State) (x : Sym) (u : Int) : State := join s (one x u)
def all (l : List Use) : State := l.foldl (fun s x => merge s x.sym x.unit) empty
def wanted (s : State) : Bool := s.sref && !s.defd
def undefined (s : State) : Bool := s.sref && decide (s.bind = 0)
def duplicate (s : State) : Bool := decide (1 < s.strongs.length)

def okUse (x : Use) : Bool := decide (1 ≤ x.sym.bind) && decide (x.sym.bind ≤ 5) && decide (0 ≤ x.sym.size) && decide (0 ≤ x.sym.align) && decide (0 ≤ x.unit)
def right (l : List Use) : Bool := decide (l.length ≤ 50) && l.all okUse

def first : List Use → Int → Int
  | [], _ => -1
  | x :: l, b => if x.sym.bind = b then 0 else (let r := first l b; if r < 0 then -1 else r + 1)
theorem first_neg : ∀ {l : List Use} {b : Int}, (∀ (j : Nat) x, l[j]? = some x → x.sym.bind ≠ b) → first l b = -1
  | [], b, h => rfl
  | x :: l, b, h => by
    have h0 := h 0 x rfl
    have ih := first_neg (l := l) (b := b) (fun j y hy => h (j + 1) y (by simpa using hy))
    simp [first, h0, ih]
theorem first_eq : ∀ {l : List Use} {b : Int} {k : Nat} {x : Use}, l[k]? = some x → x.sym.bind = b → (∀ j y, j < k → l[j]? = some y → y.sym.bind ≠ b) → first l b = k
  | [], b, k, x, h, _, _ => by simp at h
  | y :: l, b, 0, x, h, hb, _ => by simp at h; subst h; simp [first, hb]
  | y :: l, b, k + 1, x, h, hb, hk => by
    have h0 := hk 0 y (by omega) rfl
    have ih := first_eq (l := l) (b := b) (k := k) (x := x) (by simpa using h) hb (fun j z hj hz => hk (j + 1) z (by omega) (by simpa using hz))
    have h2 : ¬ ((k : Int) < 0) := by omega
    simp [first, h0, ih, h2]

/-- the state, as the document defines it -/
def maxOf (f : Use → Int) (l : List Use) : Int := l.foldl (fun m x => if x.sym.bind = 3 then max m (f x) else m) 0
def strongsOf (l : List Use) : List Int := (l.filter fun x => decide (x.sym.bind = 1)).map (·.unit)
def useAt (l : List Use) (i : Int) : Use := l.getD i.toNat ⟨⟨[], 0, 0, 0⟩, 0⟩
def refOf (l : List Use) : State :=
  if 0 ≤ first l 1 then ⟨1, (useAt l (first l 1)).sym.size, 0, (useAt l (first l 1)).unit, true, decide (0 ≤ first l 4), decide (0 ≤ first l 5), strongsOf l⟩
  else if 0 ≤ first l 3 then ⟨3, maxOf (·.sym.size) l, maxOf (·.sym.align) l, (useAt l (first l 3)).unit, decide (0 ≤ first l 2), decide (0 ≤ first l 4), decide (0 ≤ first l 5), strongsOf l⟩
  else if 0 ≤ first l 2 then ⟨2, (useAt l (first l 2)).sym.size, maxOf (·.sym.align) l, (useAt l (first l 2)).unit, true, decide (0 ≤ first l 4), decide (0 ≤ first l 5), strongsOf l⟩
  else ⟨0, maxOf (·.sym.size) l, maxOf (·.sym.align) l, -1, false, decide (0 ≤ first l 4), decide (0 ≤ first l 5), strongsOf l⟩

theorem first_spec (l : List Use) (b : Int) : (first l b = -1 ∧ ∀ x ∈ l, x.sym.bind ≠ b) ∨ (∃ k : Nat, first l b = k ∧ k < l.length) := by
  induction l with
  | nil => exact .inl ⟨rfl, by simp⟩
  | cons x l ih =>
    by_cases h : x.sym.bind = b
    · exact .inr ⟨0, by simp [first, h], by simp⟩
    · rcases ih with ⟨h1, h2⟩ | ⟨k, h1, h2⟩
      · refine .inl ⟨by simp [first, h, h1], fun y hy => ?_⟩
        rcases List.mem_cons.1 hy with rfl | hy
        · exact h
        · exact h2 y hy
      · exact .inr ⟨k + 1, by have : ¬ ((k : Int) < 0) := by omega
                              simp [first, h, h1, this], by simp; omega⟩

theorem useAt_get {l : List Use} {b : Int} (h : 0 ≤ first l b) : l[(first l b).toNat]? = some (useAt l (first l b)) := by
  rcases first_spec l b with ⟨h1, _⟩ | ⟨k, h1, h2⟩
  · omega
  · rw [h1]; simp [useAt, h2]
theorem maxOf_snoc (f : Use → Int) (l : List Use) (x : Use) : maxOf f (l ++ [x]) = if x.sym.bind = 3 then max (maxOf f l) (f x) else maxOf f l := by simp [maxOf]
theorem strongsOf_snoc (l : List Use) (x : Use) : strongsOf (l ++ [x]) = strongsOf l ++ if x.sym.bind = 1 then [x.unit] else [] := by
  simp only [strongsOf, List.filter_append, List.map_append]
  by_cases h : x.sym.bind = 1 <;> simp [h]
theorem strongsOf_le (l : List Use) : (strongsOf l).length ≤ l.length := by
  simp only [strongsOf, List.length_map]; exact List.length_filter_le _ _
theorem take_snoc {α : Type} {l : List α} {k : Nat} {x : α} (h : l[k]? = some x) : l.take (k + 1) = l.take k ++ [x] := by
  rw [List.take_add_one, h]; rfl
theorem strongs_same {l : List Use} {k : Nat} {x : Use} (hx : l[k]? = some x) (h : x.sym.bind ≠ 1) : strongsOf (l.take (k + 1)) = strongsOf (l.take k) := by
  rw [take_snoc hx, strongsOf_snoc]; simp [h]
theorem max_same {l : List Use} {k : Nat} {x : Use} (f : Use → Int) (hx : l[k]? = some x) (h : x.sym.bind ≠ 3) : maxOf f (l.take (k + 1)) = maxOf f (l.take k) := by
  rw [take_snoc hx, maxOf_snoc]; simp [h]
theorem max_more {l : List Use} {k : Nat} {x : Use} (f : Use → Int) (hx : l[k]? = some x) (h : x.sym.bind = 3) : maxOf f (l.take (k + 1)) = max (maxOf f (l.take k)) (f x) := by
  rw [take_snoc hx, maxOf_snoc]; simp [h]
/-- what the loop has gathered -/
abbrev mid (l : List Use) (k : Nat) : List D :=
  [vI 0, vI (if first l 1 < 0 then maxOf (·.sym.size) (l.take k) else 0), vI (if first l 1 < 0 then maxOf (·.sym.align) (l.take k) else 0), vI (-1),
   vB (decide (0 ≤ first l 1) || decide (0 ≤ first l 2)), vB (decide (0 ≤ first l 4)), vB (decide (0 ≤ first l 5)), .list (.tok 900000) ((strongsOf (l.take k)).map eI)]
theorem one_bind {x : Sym} (u : Int) (h : 1 ≤ x.bind ∧ x.bind ≤ 5) : 0 ≤ (one x u).bind ∧ (one x u).bind < 6 := by
  unfold one; split
  · simp [empty]
  · split
    · simp [empty]
    · simp only []; omega
theorem one_strongs (x : Sym) (u : Int) : (one x u).strongs.length ≤ 1 := by
  unfold one; split
  · simp [empty]
  · split
    · simp [empty]
    · simp only []; split <;> simp
theorem join_bind {a b : State} (ha : 0 ≤ a.bind ∧ a.bind < 6) (hb : 0 ≤ b.bind ∧ b.bind < 6) : 0 ≤ (join a b).bind ∧ (join a b).bind < 6 := by
  simp only [join]; split <;> assumption
theorem merge_bind {s : State} {x : Sym} (u : Int) (hs : 0 ≤ s.bind ∧ s.bind < 6) (h : 1 ≤ x.bind ∧ x.bind ≤ 5) : 0 ≤ (merge s x u).bind ∧ (merge s x u).bind < 6 := join_bind hs (one_bind u h)
theorem merge_strongs (s : State) (x : Sym) (u : Int) : (merge s x u).strongs.length ≤ s.strongs.length + 1 := by
  have := one_strongs x u
  simp only [merge, join, List.length_append]; omega
theorem okUse_bind {x : Use} (h : okUse x = true) : 1 ≤ x.sym.bind ∧ x.sym.bind ≤ 5 := by
  simp [okUse] at h; omega
theorem all_snoc (l : List Use) (x : Use) : all (l ++ [x]) = merge (all l) x.sym x.unit := by simp [all]
theorem foldl_bind : ∀ (l : List Use) (s : State), (0 ≤ s.bind ∧ s.bind < 6) → (∀ x ∈ l, 1 ≤ x.sym.bind ∧ x.sym.bind ≤ 5) →
    (0 ≤ (l.foldl (fun s x => merge s x.sym x.unit) s).bind ∧ (l.foldl (fun s x => merge s x.sym x.unit) s).bind < 6) ∧ (l.foldl (fun s x => merge s x.sym x.unit) s).strongs.length ≤ s.strongs.length + l.length
  | [], s, hs, _ => by simpa using hs
  | x :: l, s, hs, h => by
    have ih := foldl_bind l (merge s x.sym x.unit) (merge_bind _ hs (h x (by simp))) (fun y hy => h y (by simp [hy]))
    have := merge_strongs s x.sym x.unit
    simp only [List.foldl_cons, List.length_cons]
    exact ⟨ih.1, by omega⟩
theorem all_bind {l : List Use} (h : ∀ x ∈ l, 1 ≤ x.sym.bind ∧ x.sym.bind ≤ 5) : (0 ≤ (all l).bind ∧ (all l).bind < 6) ∧ (all l).strongs.length ≤ l.length := by
  have := foldl_bind l empty (by simp [empty]) h
  simpa [all, empty] using this
theorem right_iff {l : List Use} : right l = true ↔ l.length ≤ 50 ∧ ∀ x ∈ l, okUse x = true := by simp [right]
theorem right_bind {l : List Use} (h : right l = true) : ∀ x ∈ l, 1 ≤ x.sym.bind ∧ x.sym.bind ≤ 5 := fun x hx => okUse_bind ((right_iff.1 h).2 x hx)
end Go.AL.Bd

/- The laws of layer 13, in plain Lean. No condition. -/
set_option linter.unusedVariables false
set_option linter.unusedSimpArgs false
namespace Go.AL.Bd
open Go Go.AL

def bindOk (b : Int) : Prop := b = 0 ∨ b = 1 ∨ b = 2 ∨ b = 3
structure Wf (s : State) : Prop where
  b : bindOk s.bind
  z : s.bind = 0 → s.size = 0 ∧ s.align = 0 ∧ s.unit = -1

theorem wf_empty : Wf empty := ⟨.inl rfl, fun _ => ⟨rfl, rfl, rfl⟩⟩
theorem wf_one {x : Sym} (u : Int) (h : 1 ≤ x.bind ∧ x.bind ≤ 5) : Wf (one x u) := by
  unfold one
  split
  · exact ⟨.inl rfl, fun _ => ⟨rfl, rfl, rfl⟩⟩
  · split
    · exact ⟨.inl rfl, fun _ => ⟨rfl, rfl, rfl⟩⟩
    · exact ⟨by unfold bindOk; simp only []; omega, fun h0 => by simp only [] at h0; omega⟩
theorem strength_0 : strength 0 = 0 := rfl
theorem strength_1 : strength 1 = 3 := rfl
theorem strength_2 : strength 2 = 1 := rfl
theorem strength_3 : strength 3 = 2 := rfl
theorem wf_join {a b : State} (ha : Wf a) (hb : Wf b) : Wf (join a b) := by
  obtain ⟨a1, a2⟩ := ha
  obtain ⟨b1, b2⟩ := hb
  refine ⟨?_, ?_⟩
  · simp only [join]; split <;> assumption
  · rcases a1 with h | h | h | h <;> rcases b1 with h' | h' | h' | h' <;> simp_all [join, strength]
theorem wf_foldl : ∀ (l : List Use) (s : State), Wf s → (∀ x ∈ l, 1 ≤ x.sym.bind ∧ x.sym.bind ≤ 5) → Wf (l.foldl (fun s x => merge s x.sym x.unit) s)
  | [], s, hs, _ => hs
  | x :: l, s, hs, h => wf_foldl l _ (wf_join hs (wf_one _ (h x (by simp)))) (fun y hy => h y (by simp [hy]))
theorem wf_all {l : List Use} (h : ∀ x ∈ l, 1 ≤ x.sym.bind ∧ x.sym.bind ≤ 5) : Wf (all l) := wf_foldl l empty wf_empty h

theorem join_assoc {a b c : State} (ha : Wf a) (hb : Wf b) (hc : Wf c) : join (join a b) c = join a (join b c) := by
  obtain ⟨a1, _⟩ := ha
  obtain ⟨b1, _⟩ := hb
  obtain ⟨c1, _⟩ := hc
  rcases a1 with h | h | h | h <;> rcases b1 with h' | h' | h' | h' <;> rcases c1 with h'' | h'' | h'' | h'' <;>
    simp [join, strength, h, h', h'', Bool.or_assoc, Int.max_assoc]
theorem join_empty {a : State} (ha : Wf a) : join a empty = a := by
  obtain ⟨a1, _⟩ := ha
  rcases a1 with h | h | h | h <;> simp [join, strength, h, empty] <;> (cases a; simp_all)
theorem empty_join {a : State} (ha : Wf a) : join empty a = a := by
  obtain ⟨a1, a2⟩ := ha
  rcases a1 with h | h | h | h <;> simp [join, strength, h, empty] <;> (cases a; simp_all)

theorem all_append {a b : List Use} (ha : ∀ x ∈ a, 1 ≤ x.sym.bind ∧ x.sym.bind ≤ 5) (hb : ∀ x ∈ b, 1 ≤ x.sym.bind ∧ x.sym.bind ≤ 5) : all (a ++ b) = join (all a) (all b) := by
  have key : ∀ (b : List Use) (s t : State), Wf s → Wf t → (∀ x ∈ b, 1 ≤ x.sym.bind ∧ x.sym.bind ≤ 5) →
      b.foldl (fun s x => merge s x.sym x.unit) (join s t) = join s (b.foldl (fun s x => merge s x.sym x.unit) t) := by
    intro b
    induction b with
    | nil => intro s t _ _ _; rfl
    | cons x b ih =>
      intro s t hs ht h
      have hx := wf_one x.unit (h x (by simp))
      simp only [List.foldl_cons, merge]
      rw [join_assoc hs ht hx]
      exact ih s _ hs (wf_join ht hx) (fun y hy => h y (by simp [hy]))
  have := key b (all a) empty (wf_all ha) wf_empty hb
  rw [join_empty (wf_all ha)] at this
  rw [all, List.foldl_append]
  exact this

/-! ### the reference -/
theorem first_snoc (l : List Use) (x : Use) (b : Int) : first (l ++ [x]) b = if 0 ≤ first l b then first l b else if x.sym.bind = b then (l.length : Int) else -1 := by
  induction l with
  | nil => by_cases h : x.sym.bind = b <;> simp [first, h]
  | cons y l ih =>
    simp only [List.cons_append, first, ih]
    by_cases h : y.sym.bind = b
    · simp [h]
    · simp only [h, if_false]
      rcases first_spec l b with ⟨h1, _⟩ | ⟨k, h1, _⟩
      · rw [h1]
        by_cases hx : x.sym.bind = b
        · simp [hx]; omega
        · simp [hx]
      · rw [h1]
        have h2 : ¬ ((k : Int) < 0) := by omega
        have h3 : (0 : Int) ≤ k := by omega
        have h4 : (0 : Int) ≤ k + 1 := by omega
        simp [h2, h3, h4]
theorem useAt_snoc {l : List Use} (x : Use) {b : Int} (h : 0 ≤ first l b) : useAt (l ++ [x]) (first l b) = useAt l (first l b) := by
  rcases first_spec l b with ⟨h1, _⟩ | ⟨k, h1, h2⟩
  · omega
  · rw [h1]; simp [useAt, h2, List.getElem?_append]
theorem useAt_len (l : List Use) (x : Use) : useAt (l ++ [x]) (l.length : Int) = x := by simp [useAt]
theorem maxOf_none {l : List Use} (f : Use → Int) (h : ¬ 0 ≤ first l 3) : maxOf f l = 0 := by
  rcases first_spec l 3 with ⟨_, h2⟩ | ⟨k, h1, _⟩
  · have key : ∀ (l : List Use) (m : Int), (∀ x ∈ l, x.sym.bind ≠ 3) → l.foldl (fun m x => if x.sym.bind = 3 then max m (f x) else m) m = m := by
      intro l
      induction l with
      | nil => intro m _; rfl
      | cons x l ih => intro m hh; simp only [List.foldl_cons, hh x (by simp), if_false]; exact ih m (fun y hy => hh y (by simp [hy]))
    exact key l 0 h2
  · omega
theorem refOf_snoc (l : List Use) (x : Use) (h : okUse x = true) : refOf (l ++ [x]) = merge (refOf l) x.sym x.unit := by
  have hlen : (0 : Int) ≤ (l.length : Int) := by omega
  have hx : 1 ≤ x.sym.bind ∧ x.sym.bind ≤ 5 ∧ 0 ≤ x.sym.size ∧ 0 ≤ x.sym.align := by simp [okUse] at h; omega
  obtain ⟨hb, hs, ha⟩ : (x.sym.bind = 1 ∨ x.sym.bind = 2 ∨ x.sym.bind = 3 ∨ x.sym.bind = 4 ∨ x.sym.bind = 5) ∧ 0 ≤ x.sym.size ∧ 0 ≤ x.sym.align := by omega
  have hm1 : ∀ f : Use → Int, maxOf f (l ++ [x]) = if x.sym.bind = 3 then max (maxOf f l) (f x) else maxOf f l := fun f => maxOf_snoc f l x
  have u1 := fun h1 => useAt_snoc (l := l) x (b := 1) h1
  have u2 := fun h1 => useAt_snoc (l := l) x (b := 2) h1
  have u3 := fun h1 => useAt_snoc (l := l) x (b := 3) h1
  have ul := useAt_len l x
  have m3 := fun f h1 => maxOf_none (l := l) f h1
  by_cases f1 : 0 ≤ first l 1 <;> by_cases f3 : 0 ≤ first l 3 <;> by_cases f2 : 0 ≤ first l 2 <;> by_cases f4 : 0 ≤ first l 4 <;> by_cases f5 : 0 ≤ first l 5 <;>
    rcases hb with e | e | e | e | e <;>
    simp [refOf, first_snoc, strongsOf_snoc, hm1, merge, join, one, empty, strength, e, f1, f2, f3, f4, f5, u1, u2, u3, ul, m3, hlen, Int.max_eq_right, hs, ha]
theorem ref_all {l : List Use} (h : ∀ x ∈ l, okUse x = true) : refOf l = all l := by
  have key : ∀ (r : List Use), (∀ x ∈ r.reverse, okUse x = true) → refOf r.reverse = all r.reverse := by
    intro r
    induction r with
    | nil => intro _; rfl
    | cons x r ih =>
      intro hh
      rw [List.reverse_cons] at hh ⊢
      rw [refOf_snoc _ _ (hh x (by simp)), ih (fun y hy => hh y (by simp at hy ⊢; exact .inl hy)), ← all_snoc]
  have := key l.reverse (by simpa using h)
  simpa using this

/-! ### growing -/
theorem one_cases {x : Sym} (u : Int) (h : 1 ≤ x.bind ∧ x.bind ≤ 5) :
    (x.bind = 4 ∧ one x u = { empty with sref := true }) ∨ (x.bind = 5 ∧ one x u = { empty with wref := true }) ∨
    (x.bind ≠ 4 ∧ (x.bind = 1 ∨ x.bind = 2 ∨ x.bind = 3) ∧ (one x u).bind = x.bind ∧ (one x u).sref = false) := by
  by_cases h4 : x.bind = 4
  · exact .inl ⟨h4, by simp [one, h4]⟩
  · by_cases h5 : x.bind = 5
    · exact .inr (.inl ⟨h5, by simp [one, h5]⟩)
    · exact .inr (.inr ⟨h4, by omega, by simp [one, h4, h5], by simp [one, h4, h5]⟩)
structure Grows (s t : State) (x : Sym) : Prop where
  dup : duplicate s = true → duplicate t = true
  dfd : s.defd = true → t.defd = true
  bnd : s.bind ≠ 0 → t.bind ≠ 0
  str : s.bind = 1 → t.bind = 1
  com : s.bind = 3 → t.bind ≠ 2
  wan : wanted t = true → wanted s = true ∨ x.bind = 4
theorem grows {s : State} {x : Sym} (u : Int) (hs : Wf s) (h : 1 ≤ x.bind ∧ x.bind ≤ 5) : Grows s (merge s x u) x := by
  have hb := (wf_one u h).b
  obtain ⟨sb, _⟩ := hs
  refine ⟨fun hd => ?_, fun hd => ?_, fun h0 => ?_, fun h1 => ?_, fun h3 => ?_, fun hw => ?_⟩
  · simp [duplicate, merge, join] at hd ⊢; omega
  · simp [merge, join, hd]
  · simp only [merge, join]
    split
    · rename_i hgt
      intro e
      rw [e, strength_0] at hgt
      rcases sb with e' | e' | e' | e' <;> rw [e'] at hgt <;> simp [strength] at hgt
    · exact h0
  · simp only [merge, join, h1, strength_1]
    split
    · rename_i hgt
      rcases hb with e' | e' | e' | e' <;> rw [e'] at hgt <;> simp [strength] at hgt
    · rfl
  · simp only [merge, join, h3, strength_3]
    split
    · rename_i hgt
      intro e
      rw [e, strength_2] at hgt
      omega
    · decide
  · rcases one_cases u h with ⟨h4, e⟩ | ⟨h5, e⟩ | ⟨_, _, _, e⟩
    · exact .inr h4
    · left
      rw [merge, e] at hw
      simpa [wanted, join, empty] using hw
    · left
      simp [wanted, merge, join, e] at hw ⊢
      exact ⟨hw.1, hw.2.1⟩
/-! ### another order -/
structure Alike (s t : State) : Prop where
  wan : wanted s = wanted t
  und : undefined s = undefined t
  dup : duplicate s = duplicate t
  bnd : s.bind = t.bind
  dfd : s.defd = t.defd
  len : s.strongs.length = t.strongs.length
  com : s.bind = 3 → s.size = t.size ∧ s.align = t.align
theorem join_swap {a b : State} (ha : Wf a) (hb : Wf b) : Alike (join a b) (join b a) := by
  have hbind : (join a b).bind = (join b a).bind := by
    rcases ha.b with h | h | h | h <;> rcases hb.b with h' | h' | h' | h' <;> simp [join, strength, h, h']
  refine ⟨by simp [wanted, join, Bool.or_comm], ?_, by simp [duplicate, join, Nat.add_comm], hbind, by simp [join, Bool.or_comm], by simp [join, Nat.add_comm], fun h3 => ?_⟩
  · have e : (join a b).sref = (join b a).sref := by simp [join, Bool.or_comm]
    simp only [undefined]; rw [e, hbind]
  · rcases ha.b with h | h | h | h <;> rcases hb.b with h' | h' | h' | h' <;> simp [join, strength, h, h'] at h3 ⊢
    exact ⟨Int.max_comm _ _, Int.max_comm _ _⟩
theorem turn_alike {l : List Use} (k : Nat) (hr : right l = true) : Alike (all l) (all (l.drop k ++ l.take k)) := by
  have hb := right_bind hr
  have h1 : ∀ x ∈ l.take k, 1 ≤ x.sym.bind ∧ x.sym.bind ≤ 5 := fun x hx => hb x (List.mem_of_mem_take hx)
  have h2 : ∀ x ∈ l.drop k, 1 ≤ x.sym.bind ∧ x.sym.bind ≤ 5 := fun x hx => hb x (List.mem_of_mem_drop hx)
  have := join_swap (wf_all h1) (wf_all h2)
  rwa [← all_append h1 h2, ← all_append h2 h1, List.take_append_drop] at this
end Go.AL.Bd

/- Archive maps, in plain Lean. No condition. -/
set_option linter.unusedVariables false
set_option linter.unusedSimpArgs false
namespace Go.AL.Ap
open Go Go.AL
abbrev Ent := Str × Int
abbrev Ent.enc (e : Ent) : List D := [sD e.1, vI e.2]
def fits (e : Ent) : Bool := decide (e.1 ≠ []) && (decide ((0 : UInt8) ∉ e.1) && (decide (0 ≤ e.2) && decide (e.2 ≤ 4294967295)))
theorem fits_iff {e : Ent} : fits e = true ↔ e.1 ≠ [] ∧ (0 : UInt8) ∉ e.1 ∧ 0 ≤ e.2 ∧ e.2 ≤ 4294967295 := by simp [fits]
def W4 (n : Nat) : List UInt8 := [UInt8.ofNat (n / 16777216), UInt8.ofNat (n / 65536), UInt8.ofNat (n / 256), UInt8.ofNat n]
def num (b : List UInt8) : Nat := (((b.getD 0 0).toNat * 256 + (b.getD 1 0).toNat) * 256 + (b.getD 2 0).toNat) * 256 + (b.getD 3 0).toNat
theorem num_W4 {n : Nat} (h : n < 4294967296) (r : List UInt8) : num (W4 n ++ r) = n := by
  simp [num, W4]
  omega
theorem num_lt (b : List UInt8) : num b < 4294967296 := by
  unfold num
  have h0 := (b.getD 0 0).toNat_lt
  have h1 := (b.getD 1 0).toNat_lt
  have h2 := (b.getD 2 0).toNat_lt
  have h3 := (b.getD 3 0).toNat_lt
  omega
theorem W4_num : ∀ {b : List UInt8}, 4 ≤ b.length → W4 (num b) = b.take 4
  | a :: b :: c :: d :: r, _ => by
    have h0 := a.toNat_lt
    have h1 := b.toNat_lt
    have h2 := c.toNat_lt
    have h3 := d.toNat_lt
    simp only [W4, num, List.getD_cons_zero, List.getD_cons_succ, List.take_succ_cons, List.take_zero, List.cons.injEq, and_true]
    refine ⟨?_, ?_, ?_, ?_⟩ <;> (apply UInt8.toNat_inj.1; simp only [UInt8.toNat_ofNat']; omega)
theorem W4_len (n : Nat) : (W4 n).length = 4 := rfl
def offs (l : List Ent) : List UInt8 := l.flatMap fun e => W4 e.2.toNat
def nams (l : List Ent) : List UInt8 := l.flatMap fun e => e.1 ++ [0]
def encB (l : List Ent) : List UInt8 := W4 l.length ++ offs l ++ nams l
theorem offs_len : ∀ l : List Ent, (offs l).length = 4 * l.length
  | [] => rfl
  | e :: l => by
    have ih := offs_len l
    simp only [offs, List.flatMap_cons, List.length_append, W4_len, List.length_cons] at ih ⊢
    omega

/-! ### names -/
def isz (x : UInt8) : Bool := x != 0
/-- the next name and what follows it -/
def next (r : List UInt8) : Option (Str × List UInt8) :=
  if r.takeWhile isz = [] ∨ r.dropWhile isz = [] then none else some (r.takeWhile isz, (r.dropWhile isz).tail)
theorem isz_of {s : Str} (h : (0 : UInt8) ∉ s) : ∀ x ∈ s, isz x = true := fun x hx => by
  simp only [isz, bne_iff_ne]; intro e; subst e; exact h hx
theorem tw_app {s : Str} (h : ∀ x ∈ s, isz x = true) (r : List UInt8) : (s ++ r).takeWhile isz = s ++ r.takeWhile isz := by
  rw [List.takeWhile_append_of_pos h]
theorem dw_app {s : Str} (h : ∀ x ∈ s, isz x = true) (r : List UInt8) : (s ++ r).dropWhile isz = r.dropWhile isz := by
  rw [List.dropWhile_append_of_pos h]
theorem next_name {s : Str} (h1 : s ≠ []) (h2 : (0 : UInt8) ∉ s) (r : List UInt8) : next (s ++ 0 :: r) = some (s, r) := by
  unfold next
  rw [tw_app (isz_of h2), dw_app (isz_of h2)]
  simp [isz, h1]
theorem next_end {s : Str} (h2 : (0 : UInt8) ∉ s) : next s = none := by
  unfold next
  have := dw_app (isz_of h2) []
  simp only [List.append_nil, List.dropWhile_nil] at this
  rw [this]; simp
theorem next_some {r r' : List UInt8} {s : Str} (h : next r = some (s, r')) : r = s ++ 0 :: r' ∧ s ≠ [] ∧ (0 : UInt8) ∉ s := by
  unfold next at h
  split at h
  · simp at h
  · rename_i hn
    simp only [not_or] at hn
    simp only [Option.some.injEq, Prod.mk.injEq] at h
    obtain ⟨e1, e2⟩ := h
    subst e1
    refine ⟨?_, hn.1, fun h => ?_⟩
    · have e := (List.takeWhile_append_dropWhile (p := isz) (l := r)).symm
      cases hd : r.dropWhile isz with
      | nil => exact absurd hd hn.2
      | cons x t =>
        rw [hd] at e e2
        have hx : x = 0 := by
          have := List.head?_dropWhile_not isz r
          rw [hd] at this
          simpa [isz] using this
        subst hx
        simp only [List.tail_cons] at e2
        subst e2
        exact e
    · have := List.all_takeWhile (p := isz) (l := r)
      have := List.all_eq_true.1 this 0 h
      simp [isz] at this
theorem ib_spec : ∀ r : List UInt8, Lib.indexByte r 0 = if r.dropWhile isz = [] then -1 else ((r.takeWhile isz).length : Int)
  | [] => rfl
  | x :: r => by
    have ih := ib_spec r
    simp only [Lib.indexByte]
    by_cases hx : x = 0
    · subst hx; simp [isz]
    · have h1 : isz x = true := by simp [isz, hx]
      have h2 : (x == 0) = false := by simp [hx]
      rw [h2, ih]
      simp only [List.dropWhile_cons, List.takeWhile_cons, h1, if_true, Bool.false_eq_true, if_false]
      split
      · rfl
      · rename_i hne
        have : (((r.takeWhile isz).length : Int) == -1) = false := by simp
        rw [this]; simp
theorem take_tw (r : List UInt8) : r.take (r.takeWhile isz).length = r.takeWhile isz := (List.prefix_iff_eq_take.1 (List.takeWhile_prefix isz)).symm
theorem drop_tw (r : List UInt8) : r.drop ((r.takeWhile isz).length + 1) = (r.dropWhile isz).tail := by
  have e := List.takeWhile_append_dropWhile (p := isz) (l := r)
  have h : ∀ a b : List UInt8, (a ++ b).drop (a.length + 1) = b.tail := fun a b => by
    rw [← List.drop_drop, List.drop_left, List.drop_one]
  have := h (r.takeWhile isz) (r.dropWhile isz)
  rwa [e] at this

/-! ### decoding -/
def decL (t : List UInt8) : Nat → Nat → List UInt8 → Option (List Ent)
  | _, 0, r => if r = [] then some [] else none
  | i, k + 1, r => match next r with
    | none => none
    | some (s, r') => (decL t (i + 1) k r').map fun q => (s, (num (t.drop (4 * i)) : Int)) :: q
def dec (b : List UInt8) : Option (List Ent) :=
  if b.length < 4 then none else if (b.length - 4) / 4 < num b then none else decL (b.drop 4) 0 (num b) ((b.drop 4).drop (4 * num b))

theorem decL_names (t : List UInt8) : ∀ (l : List Ent) (i : Nat) (x : List UInt8), l.all fits = true → (∀ j e, l[j]? = some e → (num (t.drop (4 * (i + j))) : Int) = e.2) →
    decL t i l.length (nams l ++ x) = if x = [] then some l else none
  | [], i, x, _, _ => by
    simp only [List.length_nil, decL, nams, List.flatMap_nil, List.nil_append]
  | e :: l, i, x, hf, ho => by
    simp only [List.all_cons, Bool.and_eq_true] at hf
    obtain ⟨h1, h2, h3, h4⟩ := fits_iff.1 hf.1
    have ih := decL_names t l (i + 1) x hf.2 (fun j e' he => by
      have := ho (j + 1) e' (by simpa using he)
      rw [← this]; congr 3; omega)
    have e0 := ho 0 e (by simp)
    simp only [Nat.add_zero] at e0
    have : nams (e :: l) ++ x = e.1 ++ 0 :: (nams l ++ x) := by simp [nams]
    rw [this]
    simp only [List.length_cons, decL, next_name h1 h2, ih, e0]
    split <;> simp
theorem decL_cut (t : List UInt8) : ∀ (l : List Ent) (i : Nat), l ≠ [] → l.all fits = true → decL t i l.length (nams l).dropLast = none
  | [], i, h, _ => absurd rfl h
  | e :: l, i, _, hf => by
    simp only [List.all_cons, Bool.and_eq_true] at hf
    obtain ⟨h1, h2, h3, h4⟩ := fits_iff.1 hf.1
    cases l with
    | nil =>
      have : (nams [e]).dropLast = e.1 := by simp [nams]
      rw [this]
      simp only [List.length_cons, decL, next_end h2]
    | cons e' l =>
      have ih := decL_cut t (e' :: l) (i + 1) (by simp) hf.2
      have : (nams (e :: e' :: l)).dropLast = e.1 ++ 0 :: (nams (e' :: l)).dropLast := by
        have hne : nams (e' :: l) ≠ [] := by simp [nams]
        have e1 : nams (e :: e' :: l) = (e.1 ++ [0]) ++ nams (e' :: l) := by simp [nams]
        rw [e1, List.dropLast_append_of_ne_nil hne]
        simp
      rw [this]
      simp only [List.length_cons, decL, next_name h1 h2] at ih ⊢
      simp [ih]
theorem decL_some (t : List UInt8) : ∀ (k i : Nat) (r : List UInt8) (q : List Ent), decL t i k r = some q →
    r = nams q ∧ q.length = k ∧ q.all fits = true ∧ ∀ j e, q[j]? = some e → e.2 = (num (t.drop (4 * (i + j))) : Int)
  | 0, i, r, q, h => by
    simp only [decL] at h
    split at h
    · rename_i hr
      simp at h; subst h; subst hr
      exact ⟨rfl, rfl, rfl, fun j e he => by simp at he⟩
    · simp at h
  | k + 1, i, r, q, h => by
    simp only [decL] at h
    split at h
    · simp at h
    · rename_i s r' hn
      simp only [Option.map_eq_some_iff] at h
      obtain ⟨q', hq', rfl⟩ := h
      obtain ⟨h1, h2, h3, h4⟩ := decL_some t k (i + 1) r' q' hq'
      obtain ⟨n1, n2, n3⟩ := next_some hn
      refine ⟨?_, by simp [h2], ?_, fun j e he => ?_⟩
      · rw [n1, h1]; simp [nams]
      · simp only [List.all_cons, h3, Bool.and_true]
        refine fits_iff.2 ⟨n2, n3, by simp, ?_⟩
        have := num_lt (t.drop (4 * i))
        simp; omega
      · cases j with
        | zero => simp at he; subst he; simp
        | succ j =>
          rw [h4 j e (by simpa using he)]
          congr 3; omega

theorem drop_offs : ∀ (l : List Ent) (j : Nat) (e : Ent) (r : List UInt8), l[j]? = some e → (offs l ++ r).drop (4 * j) = W4 e.2.toNat ++ (offs (l.drop (j + 1)) ++ r)
  | [], j, e, r, h => by simp at h
  | x :: l, 0, e, r, h => by simp at h; subst h; simp [offs]
  | x :: l, j + 1, e, r, h => by
    have ih := drop_offs l j e r (by simpa using h)
    have : offs (x :: l) ++ r = W4 x.2.toNat ++ (offs l ++ r) := by simp [offs]
    rw [this]
    have e1 : 4 * (j + 1) = 4 + 4 * j := by omega
    rw [e1, ← List.drop_drop, List.drop_left' (W4_len _), ih]
    simp
theorem encB_parts {l : List Ent} (hl : l.length < 4294967296) (x : List UInt8) : num (encB l ++ x) = l.length ∧ (encB l ++ x).drop 4 = offs l ++ (nams l ++ x) ∧ ((encB l ++ x).drop 4).drop (4 * l.length) = nams l ++ x := by
  have e : encB l ++ x = W4 l.length ++ (offs l ++ (nams l ++ x)) := by simp [encB]
  rw [e]
  refine ⟨num_W4 hl _, List.drop_left' (W4_len _), ?_⟩
  rw [List.drop_left' (W4_len _), List.drop_left' (offs_len l)]
theorem encB_len (l : List Ent) : (encB l).length = 4 + 4 * l.length + (nams l).length := by
  simp [encB, W4_len, offs_len]; omega
theorem dec_encB {l : List Ent} (hl : l.length < 4294967296) (hf : l.all fits = true) (x : List UInt8) : dec (encB l ++ x) = if x = [] then some l else none := by
  obtain ⟨h1, h2, h3⟩ := encB_parts hl x
  unfold dec
  have hlen := encB_len l
  rw [h1, h3, h2, if_neg (by simp; omega), if_neg (by simp; omega)]
  refine decL_names _ l 0 x hf fun j e he => ?_
  rw [Nat.zero_add, drop_offs l j e _ he]
  have hfe := fits_iff.1 (List.all_eq_true.1 hf e (List.mem_of_getElem? he))
  rw [num_W4 (by omega)]
  omega
theorem dec_cut {l : List Ent} (hl : l.length < 4294967296) (hf : l.all fits = true) : dec (encB l).dropLast = none := by
  unfold dec
  have hlen := encB_len l
  cases l with
  | nil => simp [encB, W4, offs, nams]
  | cons e l =>
    have hne : nams (e :: l) ≠ [] := by simp [nams]
    have hpos : 0 < (nams (e :: l)).length := List.length_pos_iff.2 hne
    have e0 : (encB (e :: l)).dropLast = W4 (e :: l).length ++ (offs (e :: l) ++ (nams (e :: l)).dropLast) := by
      have : encB (e :: l) = (W4 (e :: l).length ++ offs (e :: l)) ++ nams (e :: l) := rfl
      rw [this, List.dropLast_append_of_ne_nil hne]
      simp
    rw [if_neg (by simp; omega)]
    split
    · rfl
    · rw [e0, num_W4 hl, List.drop_left' (W4_len _), List.drop_left' (offs_len _)]
      exact decL_cut _ _ 0 (by simp) hf
theorem take_offs (t : List UInt8) : ∀ (q : List Ent) (i : Nat), 4 * (i + q.length) ≤ t.length → (∀ j e, q[j]? = some e → e.2 = (num (t.drop (4 * (i + j))) : Int)) → offs q = (t.drop (4 * i)).take (4 * q.length)
  | [], i, _, _ => by simp [offs]
  | e :: q, i, hl, ho => by
    have ih := take_offs t q (i + 1) (by simp at hl; omega) (fun j e' he => by
      rw [ho (j + 1) e' (by simpa using he)]; congr 3; omega)
    have e0 := ho 0 e (by simp)
    simp only [Nat.add_zero] at e0
    have : offs (e :: q) = W4 e.2.toNat ++ offs q := by simp [offs]
    rw [this, ih, e0, Int.toNat_natCast, W4_num (by simp at hl ⊢; omega)]
    have e1 : 4 * (e :: q).length = 4 + 4 * q.length := by simp; omega
    have e2 : 4 * (i + 1) = 4 * i + 4 := by omega
    rw [e1, e2, ← List.drop_drop, List.take_add]
theorem enc_dec {b : List UInt8} {q : List Ent} (h : dec b = some q) : encB q = b ∧ q.all fits = true ∧ 4 * q.length + 4 ≤ b.length := by
  unfold dec at h
  split at h
  · simp at h
  · rename_i h4
    split at h
    · simp at h
    · rename_i hn
      obtain ⟨h1, h2, h3, h5⟩ := decL_some _ _ _ _ _ h
      have hlen : 4 * (0 + q.length) ≤ (b.drop 4).length := by simp; omega
      refine ⟨?_, h3, by simp at hlen; omega⟩
      have ho := take_offs (b.drop 4) q 0 hlen h5
      simp only [Nat.mul_zero, List.drop_zero] at ho
      unfold encB
      rw [← h1, ho, h2, W4_num (by omega)]
      rw [List.append_assoc, List.take_append_drop, List.take_append_drop]
end Go.AL.Ap

/- Objects and their symbols, in plain Lean. No condition. -/
set_option linter.unusedVariables false
set_option linter.unusedSimpArgs false
namespace Go.AL.Ob
open Go Go.AL Go.AL.Ap
structure Sym where
  name : Str
  bind : Int
  size : Int
  align : Int
deriving DecidableEq
abbrev Sym.enc (s : Sym) : List D := [sD s.name, vI s.bind, vI s.size, vI s.align]
structure Obj where
  syms : List Sym
  body : List UInt8
deriving DecidableEq
def pows : List Int := [1, 2, 4, 8, 16, 32, 64, 128, 256, 512, 1024, 2048, 4096, 8192, 16384, 32768, 65536]
def power (n : Int) : Bool := decide (n ∈ pows)
theorem band {k n : Nat} (h1 : 2 ^ k < n) (h2 : n < 2 ^ (k + 1)) : n &&& (n - 1) ≠ 0 := by
  have t1 : n.testBit k = true := Nat.testBit_of_two_pow_le_and_two_pow_add_one_gt (by omega) (by omega)
  have t2 : (n - 1).testBit k = true := Nat.testBit_of_two_pow_le_and_two_pow_add_one_gt (by omega) (by omega)
  intro e
  have := congrArg (fun x => Nat.testBit x k) e
  simp [t1, t2] at this
theorem power_nat (n : Nat) : power (n : Int) = decide (n = 1 ∨ n = 2 ∨ n = 4 ∨ n = 8 ∨ n = 16 ∨ n = 32 ∨ n = 64 ∨ n = 128 ∨ n = 256 ∨ n = 512 ∨ n = 1024 ∨ n = 2048 ∨ n = 4096 ∨ n = 8192 ∨ n = 16384 ∨ n = 32768 ∨ n = 65536) := by
  unfold power
  congr 1
  simp only [pows, List.mem_cons, List.not_mem_nil, or_false, eq_iff_iff]
  omega
theorem pow_and {n : Nat} (h1 : 1 ≤ n) (h2 : n ≤ 65536) : power (n : Int) = decide ((n &&& (n - 1)) = 0) := by
  rw [power_nat]
  by_cases hp : n = 1 ∨ n = 2 ∨ n = 4 ∨ n = 8 ∨ n = 16 ∨ n = 32 ∨ n = 64 ∨ n = 128 ∨ n = 256 ∨ n = 512 ∨ n = 1024 ∨ n = 2048 ∨ n = 4096 ∨ n = 8192 ∨ n = 16384 ∨ n = 32768 ∨ n = 65536
  · rw [decide_eq_true hp]
    rcases hp with rfl | rfl | rfl | rfl | rfl | rfl | rfl | rfl | rfl | rfl | rfl | rfl | rfl | rfl | rfl | rfl | rfl <;> rfl
  · rw [decide_eq_false hp]
    symm
    rw [decide_eq_false_iff_not]
    simp only [not_or] at hp
    have key : ∃ k, k ≤ 15 ∧ 2 ^ k < n ∧ n < 2 ^ (k + 1) := by
      by_cases c1 : n < 4
      · exact ⟨1, by omega, by omega, by omega⟩
      by_cases c2 : n < 8
      · exact ⟨2, by omega, by omega, by omega⟩
      by_cases c3 : n < 16
      · exact ⟨3, by omega, by omega, by omega⟩
      by_cases c4 : n < 32
      · exact ⟨4, by omega, by omega, by omega⟩
      by_cases c5 : n < 64
      · exact ⟨5, by omega, by omega, by omega⟩
      by_cases c6 : n < 128
      · exact ⟨6, by omega, by omega, by omega⟩
      by_cases c7 : n < 256
      · exact ⟨7, by omega, by omega, by omega⟩
      by_cases c8 : n < 512
      · exact ⟨8, by omega, by omega, by omega⟩
      by_cases c9 : n < 1024
      · exact ⟨9, by omega, by omega, by omega⟩
      by_cases c10 : n < 2048
      · exact ⟨10, by omega, by omega, by omega⟩
      by_cases c11 : n < 4096
      · exact ⟨11, by omega, by omega, by omega⟩
      by_cases c12 : n < 8192
      · exact ⟨12, by omega, by omega, by omega⟩
      by_cases c13 : n < 16384
      · exact ⟨13, by omega, by omega, by omega⟩
      by_cases c14 : n < 32768
      · exact ⟨14, by omega, by omega, by omega⟩
      · exact ⟨15, by omega, by omega, by omega⟩
    obtain ⟨k, _, hk1, hk2⟩ := key
    exact band hk1 hk2
def bindOk (s : Sym) : Bool :=
  if s.bind = 3 then power s.align else if s.bind = 4 ∨ s.bind = 5 then decide (s.size = 0) && decide (s.align = 0) else (decide (s.bind = 1) || decide (s.bind = 2)) && decide (s.align = 0)
def valid (s : Sym) : Bool := decide (1 ≤ s.name.length) && (decide (s.name.length ≤ 255) && (decide ((0 : UInt8) ∉ s.name) && (decide (0 ≤ s.size) && (decide (s.size ≤ 4294967295) && bindOk s))))
theorem valid_iff {s : Sym} : valid s = true ↔ 1 ≤ s.name.length ∧ s.name.length ≤ 255 ∧ (0 : UInt8) ∉ s.name ∧ 0 ≤ s.size ∧ s.size ≤ 4294967295 ∧ bindOk s = true := by simp [valid]
theorem pow_le {n : Int} (h : power n = true) : 0 ≤ n ∧ n ≤ 65536 := by
  have := of_decide_eq_true h
  simp only [pows, List.mem_cons, List.not_mem_nil, or_false] at this
  omega
theorem bind_le {s : Sym} (h : bindOk s = true) : 1 ≤ s.bind ∧ s.bind ≤ 5 ∧ 0 ≤ s.align ∧ s.align ≤ 65536 := by
  unfold bindOk at h
  split at h
  · have := pow_le h; omega
  · split at h
    · simp at h; omega
    · simp at h; omega
def has (l : List Sym) (n : Str) : Bool := l.any fun s => decide (s.name = n)
theorem has_iff {l : List Sym} {n : Str} : has l n = true ↔ ∃ s ∈ l, s.name = n := by simp [has]
/-- valid symbols with names of their own, behind others -/
def okL : List Sym → List Sym → Bool
  | _, [] => true
  | acc, s :: r => valid s && !has acc s.name && okL (acc ++ [s]) r
def validO (l : List Sym) : Bool := okL [] l && decide (l.length ≤ 65536)

def encS (s : Sym) : List UInt8 := [UInt8.ofNat s.bind.toNat] ++ W4 s.size.toNat ++ W4 s.align.toNat ++ [UInt8.ofNat s.name.length] ++ s.name
def encL (l : List Sym) : List UInt8 := l.flatMap encS
def magic : List UInt8 := [79, 66, 74, 49]
def encO (o : Obj) : List UInt8 := magic ++ W4 o.syms.length ++ encL o.syms ++ o.body
theorem encS_len (s : Sym) : (encS s).length = 10 + s.name.length := by simp [encS, W4]; omega

/-- the next symbol and what follows it -/
def nextS (r : List UInt8) : Option (Sym × List UInt8) :=
  if r.length < 10 + (r.getD 9 0).toNat then none
  else some (⟨(r.drop 10).take (r.getD 9 0).toNat, ((r.getD 0 0).toNat : Int), (num (r.drop 1) : Int), (num (r.drop 5) : Int)⟩, r.drop (10 + (r.getD 9 0).toNat))
def decL : Nat → List UInt8 → List Sym → Except Int (List Sym × List UInt8)
  | 0, r, acc => .ok (acc, r)
  | k + 1, r, acc => match nextS r with
    | none => .error 2
    | some (s, r') => if valid s && !has acc s.name then decL k r' (acc ++ [s]) else .error 12
def decO (b : List UInt8) : Except Int (List Sym × List UInt8) :=
  if b.length < 4 then .error 2 else if b.take 4 ≠ magic then .error 1 else if b.length < 8 then .error 2
  else if 65536 < num (b.drop 4) then .error 12 else decL (num (b.drop 4)) (b.drop 8) []

theorem nextS_enc {s : Sym} (h : valid s = true) (x : List UInt8) : nextS (encS s ++ x) = some (s, x) := by
  obtain ⟨h1, h2, h3, h4, h5, h6⟩ := valid_iff.1 h
  obtain ⟨b1, b2, b3, b4⟩ := bind_le h6
  have e9 : (encS s ++ x).getD 9 0 = UInt8.ofNat s.name.length := by simp [encS, W4]
  have e0 : (encS s ++ x).getD 0 0 = UInt8.ofNat s.bind.toNat := by simp [encS, W4]
  have t9 : (UInt8.ofNat s.name.length).toNat = s.name.length := by simp; omega
  have d1 : (encS s ++ x).drop 1 = W4 s.size.toNat ++ (W4 s.align.toNat ++ ([UInt8.ofNat s.name.length] ++ s.name ++ x)) := by simp [encS]
  have d5 : (encS s ++ x).drop 5 = W4 s.align.toNat ++ ([UInt8.ofNat s.name.length] ++ s.name ++ x) := by simp [encS, W4]
  have d10 : (encS s ++ x).drop 10 = s.name ++ x := by simp [encS, W4]
  unfold nextS
  rw [e9, t9, if_neg (by simp [encS_len]), e0, d1, num_W4 (by omega), d5, num_W4 (by omega), d10]
  have dl : (encS s ++ x).drop (10 + s.name.length) = x := by
    rw [← List.drop_drop, d10, List.drop_left]
  rw [dl, List.take_left]
  have eb : (((UInt8.ofNat s.bind.toNat).toNat : Nat) : Int) = s.bind := by simp; omega
  rw [eb]
  have es : ((s.size.toNat : Nat) : Int) = s.size := by omega
  have ea : ((s.align.toNat : Nat) : Int) = s.align := by omega
  rw [es, ea]
theorem nextS_cut {s : Sym} (h : valid s = true) (x : List UInt8) (j : Nat) (hj : j < (encS s).length) : nextS ((encS s ++ x).take j) = none := by
  obtain ⟨h1, h2, h3, h4, h5, h6⟩ := valid_iff.1 h
  have hl := encS_len s
  unfold nextS
  rw [if_pos]
  have hle : ((encS s ++ x).take j).length ≤ j := by simp; omega
  by_cases h10 : j < 10
  · omega
  · have e9 : ((encS s ++ x).take j).getD 9 0 = UInt8.ofNat s.name.length := by
      have : ((encS s ++ x).take j).getD 9 0 = (encS s ++ x).getD 9 0 := by
        simp only [List.getD]
        rw [List.getElem?_take_of_lt (by omega)]
      rw [this]; simp [encS, W4]
    have t9 : (UInt8.ofNat s.name.length).toNat = s.name.length := by simp; omega
    rw [e9, t9]; omega
theorem nextS_some {r r' : List UInt8} {s : Sym} (h : nextS r = some (s, r')) (hv : valid s = true) : r = encS s ++ r' := by
  unfold nextS at h
  split at h
  · simp at h
  · rename_i hl
    simp only [Option.some.injEq, Prod.mk.injEq] at h
    obtain ⟨rfl, rfl⟩ := h
    match r, hl with
    | a :: b1 :: b2 :: b3 :: b4 :: c1 :: c2 :: c3 :: c4 :: l :: t, hl =>
      simp only [List.getD_cons_zero, List.getD_cons_succ, List.drop_succ_cons, List.drop_zero, List.length_cons] at hl ⊢
      have hlen : (t.take l.toNat).length = l.toNat := by simp; omega
      have e1 := W4_num (b := b1 :: b2 :: b3 :: b4 :: c1 :: c2 :: c3 :: c4 :: l :: t) (by simp)
      have e2 := W4_num (b := c1 :: c2 :: c3 :: c4 :: l :: t) (by simp)
      simp only [encS, Int.toNat_natCast, e1, e2, hlen]
      have ha : UInt8.ofNat a.toNat = a := by simp
      have hll : UInt8.ofNat l.toNat = l := by simp
      rw [ha, hll]
      have e3 : (a :: b1 :: b2 :: b3 :: b4 :: c1 :: c2 :: c3 :: c4 :: l :: t).drop (10 + l.toNat) = t.drop l.toNat := by
        rw [← List.drop_drop]; rfl
      rw [e3]
      simp
    | [], hl => simp at hl
    | [_], hl => simp at hl
    | [_, _], hl => simp at hl
    | [_, _, _], hl => simp at hl
    | [_, _, _, _], hl => simp at hl
    | [_, _, _, _, _], hl => simp at hl
    | [_, _, _, _, _, _], hl => simp at hl
    | [_, _, _, _, _, _, _], hl => simp at hl
    | [_, _, _, _, _, _, _, _], hl => simp at hl
    | [_, _, _, _, _, _, _, _, _], hl => simp at hl

theorem decL_enc : ∀ (l acc : List Sym) (x : List UInt8), okL acc l = true → decL l.length (encL l ++ x) acc = .ok (acc ++ l, x)
  | [], acc, x, _ => by simp [decL, encL]
  | s :: l, acc, x, h => by
    simp only [okL, Bool.and_eq_true, Bool.not_eq_true'] at h
    obtain ⟨⟨h1, h2⟩, h3⟩ := h
    have ih := decL_enc l (acc ++ [s]) x h3
    have : encL (s :: l) ++ x = encS s ++ (encL l ++ x) := by simp [encL]
    rw [this]
    simp only [List.length_cons, decL, nextS_enc h1, h1, h2, Bool.not_false, Bool.and_self, if_true, ih]
    simp
theorem decL_cut : ∀ (l acc : List Sym) (x : List UInt8) (j : Nat), okL acc l = true → j < (encL l).length → decL l.length ((encL l ++ x).take j) acc = .error 2
  | [], acc, x, j, _, hj => by simp [encL] at hj
  | s :: l, acc, x, j, h, hj => by
    simp only [okL, Bool.and_eq_true, Bool.not_eq_true'] at h
    obtain ⟨⟨h1, h2⟩, h3⟩ := h
    have e : encL (s :: l) ++ x = encS s ++ (encL l ++ x) := by simp [encL]
    have e2 : (encL (s :: l)).length = (encS s).length + (encL l).length := by simp [encL]
    rw [e]
    by_cases hc : j < (encS s).length
    · simp only [List.length_cons, decL, nextS_cut h1 _ j hc]
    · have ht : (encS s ++ (encL l ++ x)).take j = encS s ++ (encL l ++ x).take (j - (encS s).length) := by
        rw [List.take_append, List.take_of_length_le (by omega)]
      rw [ht]
      simp only [List.length_cons, decL, nextS_enc h1, h1, h2, Bool.not_false, Bool.and_self, if_true]
      exact decL_cut l (acc ++ [s]) x _ h3 (by omega)
theorem decL_some : ∀ (k : Nat) (r : List UInt8) (acc l : List Sym) (x : List UInt8), decL k r acc = .ok (l, x) → ∃ l', l = acc ++ l' ∧ l'.length = k ∧ okL acc l' = true ∧ r = encL l' ++ x
  | 0, r, acc, l, x, h => by
    simp only [decL, Except.ok.injEq, Prod.mk.injEq] at h
    obtain ⟨rfl, rfl⟩ := h
    exact ⟨[], by simp, rfl, rfl, by simp [encL]⟩
  | k + 1, r, acc, l, x, h => by
    simp only [decL] at h
    split at h
    · simp at h
    · rename_i s r' hn
      split at h
      · rename_i hv
        simp only [Bool.and_eq_true, Bool.not_eq_true'] at hv
        obtain ⟨l', h1, h2, h3, h4⟩ := decL_some k r' (acc ++ [s]) l x h
        refine ⟨s :: l', by simp [h1], by simp [h2], by simp [okL, hv.1, hv.2, h3], ?_⟩
        rw [nextS_some hn hv.1, h4]; simp [encL]
      · simp at h
theorem drop4 {a b : List UInt8} (h : a.length = 4) : (a ++ b).drop 4 = b := List.drop_left' h
theorem encO_parts (o : Obj) (hl : o.syms.length ≤ 65536) (b : List UInt8) (hb : b = encO o) : b.take 4 = magic ∧ num (b.drop 4) = o.syms.length ∧ b.drop 8 = encL o.syms ++ o.body ∧ b.length = 8 + (encL o.syms).length + o.body.length := by
  have e : b = magic ++ (W4 o.syms.length ++ (encL o.syms ++ o.body)) := by rw [hb]; simp [encO]
  refine ⟨by rw [e]; rfl, ?_, ?_, by rw [e]; simp [magic, W4]; omega⟩
  · rw [e, drop4 (show magic.length = 4 from rfl), num_W4 (by omega)]
  · have : b.drop 8 = (b.drop 4).drop 4 := by rw [List.drop_drop]
    rw [this, e, drop4 (show magic.length = 4 from rfl), drop4 (W4_len _)]
theorem decO_enc {o : Obj} (h : validO o.syms = true) : decO (encO o) = .ok (o.syms, o.body) := by
  simp only [validO, Bool.and_eq_true, decide_eq_true_eq] at h
  obtain ⟨p1, p2, p3, p4⟩ := encO_parts o h.2 _ rfl
  unfold decO
  rw [if_neg (by omega), if_neg (by simp [p1]), if_neg (by omega), p2, if_neg (by omega), p3, decL_enc _ _ _ h.1]
  simp
theorem enc_dec {b : List UInt8} {l : List Sym} {x : List UInt8} (h : decO b = .ok (l, x)) : validO l = true ∧ encO ⟨l, x⟩ = b := by
  unfold decO at h
  split at h
  · simp at h
  split at h
  · simp at h
  split at h
  · simp at h
  split at h
  · simp at h
  rename_i h4 hm h8 hn
  obtain ⟨l', e, h2, h3, h5⟩ := decL_some _ _ _ _ _ h
  simp at e
  subst e
  refine ⟨by simp [validO, h3]; omega, ?_⟩
  simp only [ne_eq, Decidable.not_not] at hm
  have e4 := W4_num (b := b.drop 4) (by simp; omega)
  have : encO ⟨l, x⟩ = magic ++ (W4 l.length ++ (encL l ++ x)) := by simp [encO]
  rw [this, ← h5, h2, e4, ← hm]
  have e8 : b.drop 8 = (b.drop 4).drop 4 := by rw [List.drop_drop]
  rw [e8, List.take_append_drop, List.take_append_drop]
theorem decO_cut {o : Obj} (h : validO o.syms = true) (k : Nat) (hk : k ≤ (encO o).length) :
    decO ((encO o).take k) = if k < (encO o).length - o.body.length then .error 2 else .ok (o.syms, o.body.take (k - ((encO o).length - o.body.length))) := by
  have h' := h
  simp only [validO, Bool.and_eq_true, decide_eq_true_eq] at h
  obtain ⟨p1, p2, p3, p4⟩ := encO_parts o h.2 _ rfl
  generalize encO o = b at *
  have hlen : (b.take k).length = k := by simp; omega
  unfold decO
  rw [hlen]
  by_cases h4 : k < 4
  · rw [if_pos h4, if_pos (by omega)]
  · rw [if_neg h4]
    have t4 : (b.take k).take 4 = magic := by rw [List.take_take, Nat.min_eq_left (by omega), p1]
    rw [if_neg (by simp [t4])]
    by_cases h8 : k < 8
    · rw [if_pos h8, if_pos (by omega)]
    · rw [if_neg h8]
      have n4 : num ((b.take k).drop 4) = o.syms.length := by
        rw [← p2]
        have e1 : ((b.take k).drop 4) = (b.drop 4).take (k - 4) := by rw [List.drop_take]
        rw [e1]
        have : ∀ (y : List UInt8) (m : Nat), 4 ≤ m → num (y.take m) = num y := by
          intro y m hm
          unfold num
          simp only [List.getD, List.getElem?_take_of_lt (show 0 < m by omega), List.getElem?_take_of_lt (show 1 < m by omega), List.getElem?_take_of_lt (show 2 < m by omega), List.getElem?_take_of_lt (show 3 < m by omega)]
        exact this _ _ (by omega)
      rw [n4, if_neg (by omega)]
      have d8 : (b.take k).drop 8 = (encL o.syms ++ o.body).take (k - 8) := by rw [List.drop_take, p3]
      rw [d8]
      by_cases hc : k < b.length - o.body.length
      · rw [if_pos hc, decL_cut _ _ _ _ h.1 (by omega)]
      · rw [if_neg hc]
        have ht : (encL o.syms ++ o.body).take (k - 8) = encL o.syms ++ o.body.take (k - (b.length - o.body.length)) := by
          rw [List.take_append, List.take_of_length_le (by omega)]
          congr 2; omega
        rw [ht, decL_enc _ _ _ h.1]
        simp

/-! ### parts of valid objects -/
theorem okL_app : ∀ (a b acc : List Sym), okL acc (a ++ b) = (okL acc a && okL (acc ++ a) b)
  | [], b, acc => by simp [okL]
  | s :: a, b, acc => by
    have ih := okL_app a b (acc ++ [s])
    simp only [List.cons_append, okL, ih]
    simp [Bool.and_assoc]
theorem validO_take {l : List Sym} (h : validO l = true) (k : Nat) : validO (l.take k) = true := by
  simp only [validO, Bool.and_eq_true, decide_eq_true_eq] at h ⊢
  have := okL_app (l.take k) (l.drop k) []
  rw [List.take_append_drop, h.1] at this
  simp only [Bool.true_eq, Bool.and_eq_true] at this
  exact ⟨this.1, by simp; omega⟩
theorem not_twice {l : List Sym} {s : Sym} (h : s ∈ l) : validO (l ++ [s]) = false := by
  have : okL [] (l ++ [s]) = false := by
    rw [okL_app]
    have : has ([] ++ l) s.name = true := has_iff.2 ⟨s, by simpa using h, rfl⟩
    simp only [List.nil_append] at this
    simp [okL, this]
  simp [validO, this]
theorem okL_has : ∀ (l acc : List Sym), okL acc l = true → ∀ s ∈ l, has acc s.name = false
  | [], acc, _, s, hs => by simp at hs
  | x :: l, acc, h, s, hs => by
    simp only [okL, Bool.and_eq_true, Bool.not_eq_true'] at h
    rcases List.mem_cons.1 hs with rfl | hs
    · exact h.1.2
    · have := okL_has l (acc ++ [x]) h.2 s hs
      rw [Bool.eq_false_iff] at this ⊢
      intro hc
      obtain ⟨y, hy, e⟩ := has_iff.1 hc
      exact this (has_iff.2 ⟨y, by simp [hy], e⟩)
/-- the first of this name -/
def find (l : List Sym) (n : Str) : Option Sym := l.find? fun s => decide (s.name = n)
theorem find_at {l : List Sym} (h : validO l = true) {k : Nat} {s : Sym} (hk : l[k]? = some s) : find l s.name = some s := by
  simp only [validO, Bool.and_eq_true, decide_eq_true_eq] at h
  have hlt : k < l.length := (List.getElem?_eq_some_iff.1 hk).1
  have hd : l = l.take k ++ s :: l.drop (k + 1) := by
    have := List.drop_eq_getElem_cons hlt
    rw [List.getElem?_eq_getElem hlt] at hk
    injection hk with hk
    rw [hk] at this
    rw [← this, List.take_append_drop]
  have h1 := okL_app (l.take k) (s :: l.drop (k + 1)) []
  rw [← hd, h.1] at h1
  simp only [Bool.true_eq, Bool.and_eq_true] at h1
  have h2 := okL_has _ _ h1.2 s (by simp)
  simp only [List.nil_append] at h2
  unfold find
  rw [hd, List.find?_append]
  have : (l.take k).find? (fun x => decide (x.name = s.name)) = none := by
    rw [List.find?_eq_none]
    intro x hx hc
    rw [Bool.eq_false_iff] at h2
    exact h2 (has_iff.2 ⟨x, hx, of_decide_eq_true hc⟩)
  rw [this]
  simp
end Go.AL.Ob

/- The heap of names, in plain Lean. No condition. -/
set_option linter.unusedVariables false
set_option linter.unusedSimpArgs false
namespace Go.AL.Wt
open Go Go.AL
def lt (a b : Str) : Bool := Op.bytesLess a b
theorem lt_eq (a b : Str) : lt a b = decide (a < b) := Go.Proofs.bytesLess_eq a b
theorem lt_irr (a : Str) : lt a a = false := by rw [lt_eq]; simp [List.lt_irrefl]
theorem lt_trans {a b c : Str} (h : lt a b = true) (h' : lt b c = true) : lt a c = true := by
  rw [lt_eq] at *
  simp only [decide_eq_true_eq] at *
  exact List.lt_trans h h'
theorem lt_asymm {a b : Str} (h : lt a b = true) : lt b a = false := by
  cases h' : lt b a with
  | false => rfl
  | true => have := lt_trans h h'; rw [lt_irr] at this; exact this.symm
theorem lt_conn {a b : Str} (h : lt a b = false) (h' : lt b a = false) : a = b := by
  rw [lt_eq] at *
  simp only [decide_eq_false_iff_not] at *
  exact List.le_antisymm (List.not_lt.1 h') (List.not_lt.1 h)
/-- not less, carried over -/
theorem nlt_trans {a b c : Str} (h : lt a b = false) (h' : lt b c = false) : lt a c = false := by
  cases hc : lt a c with
  | false => rfl
  | true =>
    cases hb : lt b a with
    | true => have := lt_trans hb hc; rw [this] at h'; exact h'.symm ▸ rfl
    | false =>
      have := lt_conn h hb
      subst this
      rw [hc] at h'; exact h'

abbrev at' (xs : List Str) (i : Nat) : Str := xs.getD i []
def swp (xs : List Str) (i k : Nat) : List Str := (xs.set i (at' xs k)).set k (at' xs i)
theorem swp_len (xs : List Str) (i k : Nat) : (swp xs i k).length = xs.length := by simp [swp]
theorem at_swp {xs : List Str} {i k : Nat} (hi : i < xs.length) (hk : k < xs.length) (q : Nat) : at' (swp xs i k) q = if q = k then at' xs i else if q = i then at' xs k else at' xs q := by
  simp only [at', swp, List.getD, List.getElem?_set, List.length_set]
  by_cases h1 : q = k
  · subst h1; simp [hk]
  · simp only [h1, if_false]
    rw [if_neg (fun e => h1 e.symm)]
    by_cases h2 : q = i
    · subst h2; simp [hi]
    · rw [if_neg (fun e => h2 e.symm)]; simp [h2]

/-! ### the heap -/
def par (i : Nat) : Nat := (i - 1) / 2
theorem par_lt {i : Nat} (h : 0 < i) : par i < i := by unfold par; omega
def Hp (n : Nat) (xs : List Str) : Prop := ∀ i, 0 < i → i < n → lt (at' xs i) (at' xs (par i)) = false

def up (xs : List Str) (j : Nat) : List Str :=
  if h : 0 < j then (if lt (at' xs j) (at' xs (par j)) then up (swp xs (par j) j) (par j) else xs) else xs
termination_by j
decreasing_by exact par_lt h

structure UpI (n : Nat) (xs : List Str) (j : Nat) : Prop where
  len : n ≤ xs.length
  lt : j < n
  out : ∀ i, 0 < i → i < n → i ≠ j → Wt.lt (at' xs i) (at' xs (par i)) = false
  gr : ∀ c, 0 < c → c < n → par c = j → 0 < j → Wt.lt (at' xs c) (at' xs (par j)) = false

theorem UpI.step {n xs j} (I : UpI n xs j) (h0 : 0 < j) (h : Wt.lt (at' xs j) (at' xs (par j)) = true) : UpI n (swp xs (par j) j) (par j) := by
  have hp := par_lt h0
  have hl := I.len
  have hj := I.lt
  have ha := fun q => at_swp (xs := xs) (i := par j) (k := j) (by omega) (by omega) q
  refine ⟨by rw [swp_len]; exact hl, by omega, fun i i0 hi hne => ?_, fun c c0 hc hpc hp0 => ?_⟩
  · rw [ha, ha]
    by_cases e1 : i = j
    · subst e1
      rw [if_pos rfl, if_neg (by omega), if_pos rfl]
      exact lt_asymm h
    · rw [if_neg e1, if_neg hne]
      by_cases e2 : par i = j
      · rw [if_pos e2]; exact I.gr i i0 hi e2 h0
      · rw [if_neg e2]
        by_cases e3 : par i = par j
        · rw [if_pos e3]
          have h1 := I.out i i0 hi e1
          rw [e3] at h1
          exact nlt_trans h1 (lt_asymm h)
        · rw [if_neg e3]; exact I.out i i0 hi e1
  · rw [ha, ha]
    have hpp := par_lt hp0
    rw [if_neg (show par (par j) ≠ j by omega), if_neg (show par (par j) ≠ par j by omega)]
    have h1 := I.out (par j) hp0 (by omega) (by omega)
    by_cases e1 : c = j
    · rw [if_pos e1]; exact h1
    · rw [if_neg e1]
      have := par_lt c0
      rw [if_neg (show c ≠ par j by omega)]
      have h2 := I.out c c0 hc e1
      rw [hpc] at h2
      exact nlt_trans h2 h1

theorem UpI.done {n xs j} (I : UpI n xs j) (h : 0 < j → Wt.lt (at' xs j) (at' xs (par j)) = false) : Hp n xs := by
  intro i i0 hi
  by_cases e : i = j
  · subst e; exact h i0
  · exact I.out i i0 hi e

theorem up_len (xs : List Str) (j : Nat) : (up xs j).length = xs.length := by
  induction j using Nat.strongRecOn generalizing xs with
  | _ j ih =>
    rw [up]
    split
    · rename_i h
      split
      · rw [ih (par j) (par_lt h), swp_len]
      · rfl
    · rfl
theorem up_heap {n : Nat} : ∀ (j : Nat) (xs : List Str), UpI n xs j → Hp n (up xs j) := by
  intro j
  induction j using Nat.strongRecOn with
  | _ j ih =>
    intro xs I
    rw [up]
    split
    · rename_i h0
      split
      · rename_i h; exact ih (par j) (par_lt h0) _ (I.step h0 h)
      · rename_i h; exact I.done (fun _ => by simpa using h)
    · exact I.done (fun h => by omega)

/-- the lesser child -/
def kid (n : Nat) (xs : List Str) (i : Nat) : Nat := if 2 * i + 2 < n && lt (at' xs (2 * i + 2)) (at' xs (2 * i + 1)) then 2 * i + 2 else 2 * i + 1
theorem kid_gt (n xs i) : i < kid n xs i := by unfold kid; split <;> omega
theorem kid_par (n xs i) : par (kid n xs i) = i := by unfold kid par; split <;> omega
theorem kid_lt {n xs i} (h : 2 * i + 1 < n) : kid n xs i < n := by
  unfold kid
  split
  · rename_i h'; simp at h'; omega
  · exact h
def down (n : Nat) (xs : List Str) (i : Nat) : List Str :=
  if h : 2 * i + 1 < n then (if lt (at' xs (kid n xs i)) (at' xs i) then down n (swp xs i (kid n xs i)) (kid n xs i) else xs) else xs
termination_by n - i
decreasing_by
  have := kid_gt n xs i
  omega

structure DnI (n : Nat) (xs : List Str) (i : Nat) : Prop where
  len : n ≤ xs.length
  out : ∀ k, 0 < k → k < n → par k ≠ i → Wt.lt (at' xs k) (at' xs (par k)) = false
  gr : ∀ c, 0 < c → c < n → par c = i → 0 < i → Wt.lt (at' xs c) (at' xs (par i)) = false

theorem kid_least {n : Nat} {xs : List Str} {i c : Nat} (h0 : 0 < c) (hc : c < n) (hp : par c = i) : lt (at' xs c) (at' xs (kid n xs i)) = false := by
  have hcc : c = 2 * i + 1 ∨ c = 2 * i + 2 := by unfold par at hp; omega
  unfold kid
  split
  · rename_i h
    simp only [Bool.and_eq_true, decide_eq_true_eq] at h
    rcases hcc with rfl | rfl
    · exact lt_asymm h.2
    · exact lt_irr _
  · rename_i h
    rcases hcc with rfl | rfl
    · exact lt_irr _
    · simp only [Bool.and_eq_true, decide_eq_true_eq, not_and, Bool.not_eq_true] at h
      exact h hc

theorem DnI.step {n xs i} (I : DnI n xs i) (hk : 2 * i + 1 < n) (h : Wt.lt (at' xs (kid n xs i)) (at' xs i) = true) : DnI n (swp xs i (kid n xs i)) (kid n xs i) := by
  have hg := kid_gt n xs i
  have hp := kid_par n xs i
  have hl := kid_lt (xs := xs) hk
  have hn := I.len
  generalize hj : kid n xs i = j at *
  have ha := fun q => at_swp (xs := xs) (i := i) (k := j) (by omega) (by omega) q
  have hle : ∀ c, 0 < c → c < n → par c = i → Wt.lt (at' xs c) (at' xs j) = false := fun c c0 hc hpc => by rw [← hj]; exact kid_least c0 hc hpc
  refine ⟨by rw [swp_len]; exact hn, fun k k0 hk' hne => ?_, fun c c0 hc hpc hj0 => ?_⟩
  · rw [ha, ha]
    by_cases e1 : k = j
    · subst e1
      rw [if_pos rfl, hp, if_neg (by omega), if_pos rfl]
      exact lt_asymm h
    · rw [if_neg e1, if_neg hne]
      by_cases e2 : par k = i
      · rw [if_pos e2]
        have := par_lt k0
        rw [if_neg (by omega)]
        exact hle k k0 hk' e2
      · rw [if_neg e2]
        by_cases e3 : k = i
        · rw [if_pos e3]
          subst e3
          exact I.gr j (by omega) hl hp k0
        · rw [if_neg e3]; exact I.out k k0 hk' e2
  · have hcj := par_lt c0
    rw [ha, ha, hp]
    rw [if_neg (by omega), if_neg (by omega), if_neg (by omega), if_pos rfl]
    have h2 := I.out c c0 hc (by omega)
    rw [hpc] at h2
    exact h2

theorem DnI.done {n xs i} (I : DnI n xs i) (h : ∀ c, 0 < c → c < n → par c = i → Wt.lt (at' xs c) (at' xs i) = false) : Hp n xs := by
  intro k k0 hk
  by_cases e : par k = i
  · rw [e]; exact h k k0 hk e
  · exact I.out k k0 hk e

theorem down_heap {n : Nat} : ∀ (m i : Nat) (xs : List Str), n - i = m → DnI n xs i → Hp n (down n xs i) := by
  intro m
  induction m using Nat.strongRecOn with
  | _ m ih =>
    intro i xs hm I
    rw [down]
    split
    · rename_i hk
      split
      · rename_i h
        have := kid_gt n xs i
        exact ih (n - kid n xs i) (by omega) _ _ rfl (I.step hk h)
      · rename_i h
        refine I.done fun c c0 hc hp => ?_
        exact nlt_trans (kid_least c0 hc hp) (by simpa using h)
    · rename_i hk
      exact I.done fun c c0 hc hp => by unfold par at hp; omega
theorem down_len {n : Nat} : ∀ (m i : Nat) (xs : List Str), n - i = m → (down n xs i).length = xs.length := by
  intro m
  induction m using Nat.strongRecOn with
  | _ m ih =>
    intro i xs hm
    rw [down]
    split
    · rename_i hk
      split
      · have := kid_gt n xs i
        rw [ih (n - kid n xs i) (by omega) _ _ rfl, swp_len]
      · rfl
    · rfl

/-- the least stands first -/
theorem Hp.least {n : Nat} {xs : List Str} (H : Hp n xs) : ∀ k, k < n → lt (at' xs k) (at' xs 0) = false := by
  intro k
  induction k using Nat.strongRecOn with
  | _ k ih =>
    intro hk
    rcases Nat.eq_zero_or_pos k with h | h
    · subst h; exact lt_irr _
    · exact nlt_trans (H k h hk) (ih (par k) (par_lt h) (by have := par_lt h; omega))
end Go.AL.Wt

/- The heap of names: pushing and taking, in plain Lean. No condition. -/
set_option linter.unusedVariables false
set_option linter.unusedSimpArgs false
namespace Go.AL.Wt
open Go Go.AL
theorem swp_perm {xs : List Str} {i k : Nat} (hi : i < xs.length) (hk : k < xs.length) : List.Perm (swp xs i k) xs := by
  have := List.set_set_perm hi hk
  simpa [swp, at', List.getD, hi, hk] using this
theorem at_take {xs : List Str} {n k : Nat} (hk : k < n) : at' (xs.take n) k = at' xs k := by
  simp [at', List.getD, List.getElem?_take, hk]
theorem take_swp {xs : List Str} {n i k : Nat} (hi : i < n) (hk : k < n) : (swp xs i k).take n = swp (xs.take n) i k := by
  simp only [swp, List.take_set, at_take hi, at_take hk]
theorem take_swp_perm {xs : List Str} {n i k : Nat} (hi : i < n) (hk : k < n) (hn : n ≤ xs.length) : ((swp xs i k).take n).Perm (xs.take n) := by
  rw [take_swp hi hk]
  exact swp_perm (by simp; omega) (by simp; omega)
theorem up_perm {n : Nat} : ∀ (j : Nat) (xs : List Str), j < n → n ≤ xs.length → ((up xs j).take n).Perm (xs.take n) := by
  intro j
  induction j using Nat.strongRecOn with
  | _ j ih =>
    intro xs hj hn
    rw [up]
    split
    · rename_i h0
      split
      · have := par_lt h0
        exact (ih (par j) this _ (by omega) (by rw [swp_len]; exact hn)).trans (take_swp_perm (by omega) hj hn)
      · exact .refl _
    · exact .refl _
theorem down_perm {n : Nat} : ∀ (m i : Nat) (xs : List Str), n - i = m → n ≤ xs.length → ((down n xs i).take n).Perm (xs.take n) := by
  intro m
  induction m using Nat.strongRecOn with
  | _ m ih =>
    intro i xs hm hn
    rw [down]
    split
    · rename_i hk
      split
      · have h1 := kid_gt n xs i
        have h2 := kid_lt (xs := xs) hk
        exact (ih (n - kid n xs i) (by omega) _ _ rfl (by rw [swp_len]; exact hn)).trans (take_swp_perm (by omega) h2 hn)
      · exact .refl _
    · exact .refl _
theorem down_out {n q : Nat} (hq : n ≤ q) : ∀ (m i : Nat) (xs : List Str), n - i = m → n ≤ xs.length → at' (down n xs i) q = at' xs q := by
  intro m
  induction m using Nat.strongRecOn with
  | _ m ih =>
    intro i xs hm hn
    rw [down]
    split
    · rename_i hk
      split
      · have h1 := kid_gt n xs i
        have h2 := kid_lt (xs := xs) hk
        rw [ih (n - kid n xs i) (by omega) _ _ rfl (by rw [swp_len]; exact hn), at_swp (by omega) (by omega), if_neg (by omega), if_neg (by omega)]
      · rfl
    · rfl

/-- the heap holds these names -/
structure Wl (n : Nat) (xs ws : List Str) : Prop where
  len : n ≤ xs.length
  hp : Hp n xs
  perm : (xs.take n).Perm ws
theorem Wl.size {n xs ws} (W : Wl n xs ws) : n = ws.length := by
  have := W.perm.length_eq
  have := W.len
  simp at *; omega
theorem Wl.nil : Wl 0 [] [] := ⟨Nat.le_refl _, fun i _ h => by omega, by simp⟩
def Srt (l : List Str) : Prop := l.Pairwise fun a b => lt a b = true
theorem Srt.nodup {l : List Str} (h : Srt l) : l.Nodup := h.imp fun {a b} h e => by subst e; rw [lt_irr] at h; exact absurd h (by simp)

theorem at_app {xs : List Str} {n i : Nat} {s : Str} (hn : n ≤ xs.length) (hi : i < n) : at' (xs.take n ++ [s]) i = at' xs i := by
  simp [at', List.getD, List.getElem?_append, show i < min n xs.length by omega, show i < xs.length by omega, hi]
theorem Wl.push {n xs ws ws'} (W : Wl n xs ws) (s : Str) (hp : ws'.Perm (s :: ws)) : Wl (n + 1) (up (xs.take n ++ [s]) n) ws' := by
  have hl := W.len
  have hlen : n + 1 ≤ (xs.take n ++ [s]).length := by simp; omega
  refine ⟨by rw [up_len]; exact hlen, up_heap n _ ⟨hlen, by omega, fun i i0 hi hne => ?_, fun c c0 hc hp _ => ?_⟩, ?_⟩
  · have hpar := par_lt i0
    rw [at_app hl (by omega), at_app hl (by omega)]
    exact W.hp i i0 (by omega)
  · have := par_lt c0
    omega
  · refine (up_perm n _ (by omega) hlen).trans ?_
    have h1 : (xs.take n ++ [s]).take (n + 1) = xs.take n ++ [s] := List.take_of_length_le (by simp; omega)
    rw [h1]
    refine List.perm_append_comm.trans ?_
    simp only [List.singleton_append]
    exact (W.perm.cons s).trans hp.symm
def popH (n : Nat) (xs : List Str) : List Str := down n (swp xs 0 n) 0
theorem Wl.pop {n xs ws} (W : Wl (n + 1) xs ws) (hs : Srt ws) : ∃ w r, ws = w :: r ∧ at' (popH n xs) n = w ∧ Wl n (popH n xs) r ∧ Srt r ∧ n + 1 ≤ (popH n xs).length := by
  have hl := W.len
  have hsz := W.size
  cases ws with
  | nil => simp at hsz
  | cons w r =>
    have hw : at' xs 0 = w := by
      have h1 : at' xs 0 ∈ w :: r := W.perm.mem_iff.1 (by
        rw [← at_take (n := n + 1) (by omega : 0 < n + 1)]
        simp only [at', List.getD]
        rw [List.getElem?_eq_getElem (by simp; omega)]
        simp only [Option.getD_some]
        exact List.getElem_mem _)
      have h2 : w ∈ xs.take (n + 1) := W.perm.mem_iff.2 (by simp)
      obtain ⟨k, hk, e⟩ := List.getElem_of_mem h2
      simp at hk
      have h3 : at' xs k = w := by
        rw [← at_take (n := n + 1) (by omega : k < n + 1)]
        simp only [at', List.getD]
        rw [List.getElem?_eq_getElem (by simp; omega), Option.getD_some, e]
      have h4 := W.hp.least k (by omega)
      rw [h3] at h4
      rcases List.mem_cons.1 h1 with h | h
      · exact h
      · have := (List.pairwise_cons.1 hs).1 _ h
        rw [h4] at this; simp at this
    have h0 : n + 1 ≤ (swp xs 0 n).length := by rw [swp_len]; exact hl
    have hn : at' (swp xs 0 n) n = w := by rw [at_swp (by omega) (by omega), if_pos rfl, hw]
    refine ⟨w, r, rfl, ?_, ⟨?_, ?_, ?_⟩, (List.pairwise_cons.1 hs).2, ?_⟩
    · rw [popH, down_out (Nat.le_refl n) _ _ _ rfl (by omega), hn]
    · rw [popH, down_len _ _ _ rfl]; omega
    · refine down_heap _ _ _ rfl ⟨by omega, fun k k0 hk hp => ?_, fun _ _ _ _ h => by omega⟩
      have := par_lt k0
      rw [at_swp (by omega) (by omega), at_swp (by omega) (by omega), if_neg (by omega), if_neg (by omega), if_neg (by omega), if_neg hp]
      exact W.hp k k0 (by omega)
    · refine (down_perm _ _ _ rfl (by omega)).trans ?_
      have h1 := (take_swp_perm (n := n + 1) (i := 0) (k := n) (xs := xs) (by omega) (by omega) hl).trans W.perm
      have h2 : (swp xs 0 n).take (n + 1) = (swp xs 0 n).take n ++ [w] := by
        rw [List.take_add_one, List.getElem?_eq_getElem (by omega)]
        simp only [Option.toList_some]
        rw [← hn]
        simp [at', List.getD, List.getElem?_eq_getElem (show n < (swp xs 0 n).length by omega)]
      rw [h2] at h1
      exact List.Perm.cons_inv (List.perm_append_comm.trans h1)
    · rw [popH, down_len _ _ _ rfl]; exact h0

/-! ### the reference's -/
def put : List Str → Str → List Str
  | [], s => [s]
  | x :: r, s => if lt x s then x :: put r s else if x = s then x :: r else s :: x :: r
theorem put_mem : ∀ (l : List Str) (s y : Str), y ∈ put l s ↔ y = s ∨ y ∈ l
  | [], s, y => by simp [put]
  | x :: r, s, y => by
    simp only [put]
    split
    · simp only [List.mem_cons, put_mem r s y]
      constructor
      · rintro (h | h | h) <;> simp [h]
      · rintro (h | h | h) <;> simp [h]
    · split
      · rename_i h; subst h; simp
      · simp
theorem put_srt : ∀ (l : List Str) (s : Str), Srt l → Srt (put l s)
  | [], s, _ => by simp [put, Srt]
  | x :: r, s, h => by
    obtain ⟨h1, h2⟩ := List.pairwise_cons.1 h
    simp only [put]
    split
    · rename_i hx
      refine List.pairwise_cons.2 ⟨fun y hy => ?_, put_srt r s h2⟩
      rcases (put_mem r s y).1 hy with rfl | hy
      · exact hx
      · exact h1 y hy
    · split
      · exact h
      · rename_i hx hne
        have hsx : lt s x = true := by
          cases hc : lt s x with
          | true => rfl
          | false => exact absurd (lt_conn (by simpa using hx) hc) hne
        refine List.pairwise_cons.2 ⟨fun y hy => ?_, h⟩
        rcases List.mem_cons.1 hy with rfl | hy
        · exact hsx
        · exact lt_trans hsx (h1 y hy)
theorem put_perm : ∀ (l : List Str) (s : Str), s ∉ l → (put l s).Perm (s :: l)
  | [], s, _ => .refl _
  | x :: r, s, h => by
    simp only [List.mem_cons, not_or] at h
    simp only [put]
    split
    · exact ((put_perm r s h.2).cons x).trans (.swap _ _ _)
    · rw [if_neg (fun e => h.1 e.symm)]
end Go.AL.Wt

/- The worklist, in plain Lean. No condition. -/
set_option linter.unusedVariables false
set_option linter.unusedSimpArgs false
namespace Go.AL.Wt
open Go Go.AL
theorem mget_mset (a b : ByteArray) (v : D) : ∀ es : Ents, mget (mset es (.string a) v) (.string b) = if b.data.toList = a.data.toList then some v else mget es (.string b)
  | [] => by
    simp only [mset, mget, keyB]
    by_cases h : b.data.toList = a.data.toList <;> simp [h]
  | e :: r => by
    simp only [mset]
    cases hk : keyB (.string a) e.1 with
    | true =>
      simp only [mget]
      have hkk : keyB (.string b) (.string a) = decide (b.data.toList = a.data.toList) := rfl
      rw [hkk]
      by_cases h : b.data.toList = a.data.toList
      · simp [h]
      · have : keyB (.string b) e.1 = false := by
          unfold keyB at hk ⊢
          split at hk
          · rename_i x y e1 e2
            injection e1 with e1; subst e1
            rw [e2]
            have := of_decide_eq_true hk
            simp only [decide_eq_false_iff_not]
            rw [← this]; exact h
          · simp at hk
        simp [h, this]
    | false =>
      simp only [mget]
      rw [mget_mset a b v r]
      by_cases h : b.data.toList = a.data.toList
      · have : keyB (.string b) e.1 = false := by
          unfold keyB at hk ⊢
          split
          · rename_i x y e1 e2
            injection e1 with e1; subst e1
            rw [e2] at hk
            simp only [decide_eq_false_iff_not] at hk ⊢
            rw [h]; exact hk
          · rfl
        simp [h, this]
      · simp [h]
theorem strKeys_mset (a : ByteArray) (v : D) : ∀ es : Ents, strKeys es → strKeys (mset es (.string a) v)
  | [], _ => fun e he => by simp [mset] at he; subst he; exact ⟨a, rfl⟩
  | x :: r, h => fun e he => by
    simp only [mset] at he
    split at he
    · rcases List.mem_cons.1 he with rfl | he
      · exact ⟨a, rfl⟩
      · exact h e (by simp [he])
    · rcases List.mem_cons.1 he with rfl | he
      · exact h e (by simp)
      · exact strKeys_mset a v r (fun y hy => h y (by simp [hy])) e he
/-- the map holds these names -/
structure Sn (es : Ents) (seen : List Str) : Prop where
  keys : strKeys es
  look : ∀ b : ByteArray, lookD es b (.bool false) false = vB (decide (b.data.toList ∈ seen))
theorem Sn.nil : Sn [] [] := ⟨fun e he => by simp at he, fun b => by simp [lookD, mget, zeroD, constD]⟩
theorem Sn.set {es seen} (h : Sn es seen) (s : Str) : Sn (mset es (.string (sB s)) (vB true)) (seen ++ [s]) := by
  refine ⟨strKeys_mset _ _ _ h.keys, fun b => ?_⟩
  have hl := h.look b
  simp only [lookD, mget_mset] at hl ⊢
  by_cases hb : b.data.toList = (sB s).data.toList
  · have hb' : b.data.toList = s := hb
    rw [if_pos hb]; simp [hb']
  · have hb' : ¬ b.data.toList = s := hb
    rw [if_neg hb, hl]
    simp [hb']
theorem Sn.look' {es seen} (h : Sn es seen) (s : Str) : lookD es (sB s) (.bool false) false = vB (decide (s ∈ seen)) := h.look _

/-- the list of the program -/
structure Hs where
  g : Nat
  n : Nat
  xs : List Str
  es : Ents
def hasB (es : Ents) (s : Str) : Bool := match lookD es (sB s) (.bool false) false with | .v (.bool b) => b | _ => false
def Hs.add1 (h : Hs) (s : Str) : Hs := match hasB h.es s with | true => h | false => ⟨h.g + 1, h.n + 1, up (h.xs.take h.n ++ [s]) h.n, mset h.es (.string (sB s)) (vB true)⟩
def Hs.addL (h : Hs) (l : List Str) : Hs := l.foldl Hs.add1 h
/-- the list of the reference -/
abbrev Rs := List Str × List Str
def Rs.add1 (r : Rs) (s : Str) : Rs := if s ∈ r.2 then r else (put r.1 s, r.2 ++ [s])
def Rs.addL (r : Rs) (l : List Str) : Rs := l.foldl Rs.add1 r
structure Rl (h : Hs) (r : Rs) : Prop where
  wl : Wl h.n h.xs r.1
  srt : Srt r.1
  sn : Sn h.es r.2
  sub : ∀ s ∈ r.1, s ∈ r.2
theorem Rl.has {h r} (R : Rl h r) (s : Str) : hasB h.es s = decide (s ∈ r.2) := by
  simp only [hasB, R.sn.look']
theorem Rl.add1 {h : Hs} {r : Rs} (R : Rl h r) (s : Str) : Rl (h.add1 s) (r.add1 s) := by
  unfold Hs.add1 Rs.add1
  rw [R.has]
  by_cases hs : s ∈ r.2
  · simp only [hs, decide_true, if_true]; exact R
  · simp only [hs, decide_false, if_false]
    refine ⟨R.wl.push s (put_perm _ _ (fun h => hs (R.sub _ h))), put_srt _ _ R.srt, R.sn.set s, fun y hy => ?_⟩
    rcases (put_mem _ _ _).1 hy with rfl | hy
    · simp
    · simp [R.sub _ hy]
theorem Rl.addL : ∀ (l : List Str) {h : Hs} {r : Rs}, Rl h r → Rl (h.addL l) (r.addL l)
  | [], h, r, R => R
  | s :: l, h, r, R => Rl.addL l (R.add1 s)
theorem Hs.add1_n (h : Hs) (s : Str) : h.n ≤ (h.add1 s).n ∧ (h.add1 s).n ≤ h.n + 1 := by
  unfold Hs.add1; split <;> simp
theorem Hs.addL_n : ∀ (l : List Str) (h : Hs), h.n ≤ (h.addL l).n ∧ (h.addL l).n ≤ h.n + l.length
  | [], h => by simp [addL]
  | s :: l, h => by
    have h1 := add1_n h s
    have h2 := addL_n l (h.add1 s)
    simp only [addL, List.foldl_cons, List.length_cons] at *
    omega
theorem Hs.addL_take {h : Hs} {l : List Str} {k : Nat} {s : Str} (hk : l[k]? = some s) : h.addL (l.take (k + 1)) = (h.addL (l.take k)).add1 s := by
  simp [addL, List.take_add_one, hk]
theorem Rs.addL_take {h : Rs} {l : List Str} {k : Nat} {s : Str} (hk : l[k]? = some s) : h.addL (l.take (k + 1)) = (h.addL (l.take k)).add1 s := by
  simp [addL, List.take_add_one, hk]
theorem Rl.zero : Rl ⟨0, 0, [], []⟩ ([], []) := ⟨Wl.nil, .nil, Sn.nil, fun s h => by simp at h⟩
def Hs.pop (h : Hs) : Hs := ⟨h.g, h.n - 1, popH (h.n - 1) h.xs, h.es⟩
def Hs.top (h : Hs) : Str := at' (popH (h.n - 1) h.xs) (h.n - 1)
theorem Rl.pop {h : Hs} {w : Str} {ws seen : List Str} (R : Rl h (w :: ws, seen)) : h.top = w ∧ Rl h.pop (ws, seen) := by
  have hsz := R.wl.size
  have h1 : h.n = (h.n - 1) + 1 := by simp at hsz; omega
  have W := R.wl
  rw [h1] at W
  obtain ⟨w', r', e, h2, h3, h4, h5⟩ := W.pop R.srt
  injection e with e1 e2
  subst e1; subst e2
  exact ⟨h2, ⟨h3, h4, R.sn, fun s hs => R.sub s (by simp [hs])⟩⟩
end Go.AL.Wt

/- Tables of symbols, in plain Lean. No condition. -/
set_option linter.unusedVariables false
set_option linter.unusedSimpArgs false
namespace Go.AL.Sy
open Go Go.AL Go.AL.Bd
abbrev Tb := List (Str × State)
def tget : Tb → Str → Option State
  | [], _ => none
  | p :: T, n => if n = p.1 then some p.2 else tget T n
def tput : Tb → Str → State → Tb
  | [], n, s => [(n, s)]
  | p :: T, n, s => if n = p.1 then (n, s) :: T else p :: tput T n s
theorem tget_tput (m n : Str) (s : State) : ∀ T : Tb, tget (tput T m s) n = if n = m then some s else tget T n
  | [] => by simp [tput, tget]
  | p :: T => by
    have ih := tget_tput m n s T
    simp only [tput]
    by_cases h : m = p.1
    · rw [if_pos h]; subst h
      simp only [tget]
      by_cases h2 : n = p.1 <;> simp [h2]
    · rw [if_neg h]
      simp only [tget, ih]
      by_cases h2 : n = p.1
      · rw [if_pos h2, if_pos h2, if_neg (by rw [h2]; exact fun e => h e.symm)]
      · simp [h2]
def ents (T : Tb) : Ents := T.map fun p => (.string (sB p.1), .agg p.2.enc)
theorem keyB_s (m n : Str) : keyB (.string (sB m)) (.string (sB n)) = decide (m = n) := by simp [keyB, sB]
theorem ents_keys (T : Tb) : strKeys (ents T) := fun e he => by
  obtain ⟨p, _, rfl⟩ := List.mem_map.1 he
  exact ⟨_, rfl⟩
theorem mget_ents (n : Str) : ∀ T : Tb, mget (ents T) (.string (sB n)) = (tget T n).map fun s => .agg s.enc
  | [] => rfl
  | p :: T => by
    have ih := mget_ents n T
    have e : ents (p :: T) = (.string (sB p.1), .agg p.2.enc) :: ents T := rfl
    rw [e]
    simp only [mget, keyB_s, tget]
    by_cases h : n = p.1
    · simp [h]
    · simp [h, ih]
theorem mset_ents (n : Str) (s : State) : ∀ T : Tb, mset (ents T) (.string (sB n)) (.agg s.enc) = ents (tput T n s)
  | [] => rfl
  | p :: T => by
    have ih := mset_ents n s T
    have e : ents (p :: T) = (.string (sB p.1), .agg p.2.enc) :: ents T := rfl
    rw [e]
    simp only [mset, keyB_s, tput]
    by_cases h : n = p.1
    · simp [h, ents]
    · rw [if_neg h]; simp only [h, decide_false, ih]; rfl
theorem look_some {T : Tb} {n : Str} {s : State} (h : tget T n = some s) (z : Value) : lookD (ents T) (sB n) z true = .tuple [.agg s.enc, vB true] := by
  simp [lookD, mget_ents, h]
theorem look_none {T : Tb} {n : Str} (h : tget T n = none) (z : Value) : lookD (ents T) (sB n) z true = .tuple [zeroD z, vB false] := by
  simp [lookD, mget_ents, h]
theorem look1 {T : Tb} {n : Str} {s : State} (h : tget T n = some s) (z : Value) : lookD (ents T) (sB n) z false = .agg s.enc := by
  simp [lookD, mget_ents, h]

/-! ### what is loaded -/
def toB (s : Ob.Sym) : Sym := ⟨s.name, s.bind, s.size, s.align⟩
def add1 (T : Tb) (x : Use) : Tb := tput T x.sym.name (merge ((tget T x.sym.name).getD empty) x.sym x.unit)
def build (U : List Use) : Tb := U.foldl add1 []
theorem build_snoc (U : List Use) (x : Use) : build (U ++ [x]) = add1 (build U) x := by simp [build]
def of (U : List Use) (n : Str) : List Use := U.filter fun x => decide (x.sym.name = n)
theorem of_snoc (U : List Use) (x : Use) (n : Str) : of (U ++ [x]) n = of U n ++ (if x.sym.name = n then [x] else []) := by
  simp only [of, List.filter_append]
  congr 1
  by_cases h : x.sym.name = n <;> simp [h]
theorem all_snoc (l : List Use) (x : Use) : all (l ++ [x]) = merge (all l) x.sym x.unit := by simp [all]
theorem tget_build (n : Str) (U : List Use) : tget (build U) n = if of U n = [] then none else some (all (of U n)) := by
  rw [← List.reverse_reverse U]
  induction U.reverse with
  | nil => rfl
  | cons x V ih =>
    rw [List.reverse_cons, build_snoc, of_snoc]
    simp only [add1]
    rw [tget_tput]
    by_cases h : n = x.sym.name
    · subst h
      rw [if_pos rfl, if_pos rfl, if_neg (by simp), all_snoc, ih]
      congr 2
      by_cases h2 : of V.reverse x.sym.name = []
      · rw [if_pos h2, h2]; rfl
      · rw [if_neg h2]; rfl
    · have h' : ¬ x.sym.name = n := fun e => h e.symm
      rw [if_neg h]
      simp only [h', if_false, List.append_nil]
      exact ih
theorem tget_getD (n : Str) (U : List Use) : (tget (build U) n).getD empty = all (of U n) := by
  rw [tget_build]
  by_cases h : of U n = []
  · rw [if_pos h, h]; rfl
  · rw [if_neg h]; rfl
/-- the names, as they came first -/
def keys (T : Tb) : List Str := T.map (·.1)
theorem keys_tput (n : Str) (s : State) : ∀ T : Tb, keys (tput T n s) = if n ∈ keys T then keys T else keys T ++ [n]
  | [] => by simp [tput, keys]
  | p :: T => by
    have ih := keys_tput n s T
    simp only [keys] at ih
    simp only [tput]
    by_cases h : n = p.1
    · subst h; simp [keys]
    · rw [if_neg h]
      simp only [keys, List.map_cons, ih, List.mem_cons, h, false_or]
      by_cases h2 : n ∈ T.map (·.1) <;> simp [h2]
theorem mem_keys (n : Str) : ∀ T : Tb, n ∈ keys T ↔ (tget T n).isSome = true
  | [] => by simp [keys, tget]
  | p :: T => by
    have ih := mem_keys n T
    simp only [keys] at ih
    simp only [keys, List.map_cons, List.mem_cons, tget, ih]
    by_cases h : n = p.1 <;> simp [h]
theorem keys_nodup (U : List Use) : (keys (build U)).Nodup := by
  rw [← List.reverse_reverse U]
  induction U.reverse with
  | nil => simp [build, keys]
  | cons x V ih =>
    rw [List.reverse_cons, build_snoc]
    simp only [add1]
    rw [keys_tput]
    by_cases h : x.sym.name ∈ keys (build V.reverse)
    · rw [if_pos h]; exact ih
    · rw [if_neg h, List.nodup_append]
      refine ⟨ih, by simp, fun a ha b hb e => h ?_⟩
      simp at hb
      rw [← hb, ← e]; exact ha
theorem keys_len (U : List Use) : (keys (build U)).length ≤ U.length := by
  rw [← List.reverse_reverse U]
  induction U.reverse with
  | nil => simp [build, keys]
  | cons x V ih =>
    rw [List.reverse_cons, build_snoc]
    simp only [add1]
    rw [keys_tput]
    rw [List.length_reverse] at ih
    split <;> simp <;> omega
/-- the names in ascending order -/
def names (U : List Use) : List Str := U.foldl (fun l x => Wt.put l x.sym.name) []
theorem names_snoc (U : List Use) (x : Use) : names (U ++ [x]) = Wt.put (names U) x.sym.name := by simp [names]
theorem names_srt (U : List Use) : Wt.Srt (names U) := by
  rw [← List.reverse_reverse U]
  induction U.reverse with
  | nil => exact List.Pairwise.nil
  | cons x V ih => rw [List.reverse_cons, names_snoc]; exact Wt.put_srt _ _ ih
theorem mem_names (n : Str) (U : List Use) : n ∈ names U ↔ of U n ≠ [] := by
  rw [← List.reverse_reverse U]
  induction U.reverse with
  | nil => simp [names, of]
  | cons x V ih =>
    rw [List.reverse_cons, names_snoc, of_snoc, Wt.put_mem, ih]
    by_cases h : x.sym.name = n
    · simp [h]
    · rw [if_neg h, List.append_nil]
      constructor
      · rintro (e | e)
        · exact absurd e.symm h
        · exact e
      · exact .inr
theorem mem_keys_names (n : Str) (U : List Use) : n ∈ keys (build U) ↔ n ∈ names U := by
  rw [mem_keys, mem_names, tget_build]
  by_cases h : of U n = [] <;> simp [h]
theorem keys_perm (U : List Use) : (keys (build U)).Perm (names U) :=
  (List.perm_ext_iff_of_nodup (keys_nodup U) (names_srt U).nodup).2 fun n => mem_keys_names n U
theorem sort_names {U : List Use} {ss : List Str} (h : ss.Perm (keys (build U))) : ss.mergeSort (fun x y => decide (x ≤ y)) = names U := by
  refine List.Perm.eq_of_pairwise (le := fun a b : Str => a ≤ b) ?_ ?_ ?_ ((List.mergeSort_perm _ _).trans (h.trans (keys_perm U)))
  · intro a b _ _ h1 h2; exact List.le_antisymm h1 h2
  · have := List.pairwise_mergeSort (le := fun x y : Str => decide (x ≤ y)) (fun a b c h1 h2 => by simp only [decide_eq_true_eq] at *; exact List.le_trans h1 h2) (fun a b => by simp only [Bool.or_eq_true, decide_eq_true_eq]; exact List.le_total a b) ss
    exact this.imp fun h => of_decide_eq_true h
  · exact (names_srt U).imp fun {a b} h => by
      have := (Wt.lt_eq a b).symm.trans h
      exact List.le_of_lt (of_decide_eq_true this)
end Go.AL.Sy
namespace Go.AL.Sy
open Go Go.AL Go.AL.Bd
def uses (n : Nat) (l : List Ob.Sym) : List Use := l.map fun s => ⟨toB s, (n : Int)⟩
theorem uses_take {n : Nat} {l : List Ob.Sym} {k : Nat} {s : Ob.Sym} (h : l[k]? = some s) : uses n (l.take (k + 1)) = uses n (l.take k) ++ [⟨toB s, (n : Int)⟩] := by
  rw [List.take_add_one, h]; simp [uses]
def okB (U : List Use) : Prop := ∀ u ∈ U, 1 ≤ u.sym.bind ∧ u.sym.bind ≤ 5
theorem okB.app {U V : List Use} (h : okB U) (h' : okB V) : okB (U ++ V) := fun u hu => (List.mem_append.1 hu).elim (h u) (h' u)
theorem okB.of {U : List Use} (h : okB U) (n : Str) : okB (of U n) := fun u hu => h u (List.mem_filter.1 hu).1
theorem of_le (U : List Use) (n : Str) : (of U n).length ≤ U.length := List.length_filter_le _ _
theorem all_bind {U : List Use} (h : okB U) : 0 ≤ (all U).bind ∧ (all U).bind < 6 := by
  have := wf_all h
  rcases this.1 with e | e | e | e <;> omega
theorem join_strongs (a b : State) : (join a b).strongs = a.strongs ++ b.strongs := rfl
theorem one_strongs (x : Sym) (u : Int) : (one x u).strongs.length ≤ 1 := by
  unfold one
  split
  · simp [empty]
  · split
    · simp [empty]
    · simp only []; split <;> simp
theorem all_strongs (U : List Use) : (all U).strongs.length ≤ U.length := by
  rw [← List.reverse_reverse U]
  induction U.reverse with
  | nil => simp [all, empty]
  | cons x V ih =>
    rw [List.reverse_cons, all_snoc]
    have := one_strongs x.sym x.unit
    rw [List.length_reverse] at ih
    simp only [merge, join_strongs, List.length_append, List.length_reverse, List.length_singleton]
    omega
end Go.AL.Sy

/- Resolutions by rank, in plain Lean. No condition. -/
set_option linter.unusedVariables false
set_option linter.unusedSimpArgs false
namespace Go.AL.Sy
open Go Go.AL Go.AL.Bd
def rank (b : Int) : Int := if b = 1 then 5 else if b = 3 then 4 else if b = 2 then 3 else if b = 4 then 2 else if b = 5 then 1 else 0
structure Gs where
  best : Int
  size : Int
  align : Int
  unit : Int
def gstep (g : Gs) (x : Use) : Gs :=
  if g.best < rank x.sym.bind then ⟨rank x.sym.bind, x.sym.size, x.sym.align, x.unit⟩
  else ⟨g.best, if rank x.sym.bind = 4 ∧ g.best = 4 then max g.size x.sym.size else g.size, if rank x.sym.bind = 4 ∧ g.best = 4 then max g.align x.sym.align else g.align, g.unit⟩
def gall (l : List Use) : Gs := l.foldl gstep ⟨0, 0, 0, -1⟩
theorem gall_snoc (l : List Use) (x : Use) : gall (l ++ [x]) = gstep (gall l) x := by simp [gall]
def bestOf (s : State) : Int := if s.bind = 1 then 5 else if s.bind = 3 then 4 else if s.bind = 2 then 3 else if s.sref = true then 2 else if s.wref = true then 1 else 0
structure Gr (s : State) (g : Gs) : Prop where
  best : g.best = bestOf s
  size : g.size = s.size
  align : g.align = s.align
  unit : 3 ≤ g.best → g.unit = s.unit
/-- what a valid symbol has -/
structure OkS (x : Sym) : Prop where
  b : 1 ≤ x.bind ∧ x.bind ≤ 5
  u : 4 ≤ x.bind → x.size = 0 ∧ x.align = 0
  a : x.bind = 1 ∨ x.bind = 2 → x.align = 0
theorem gr_step {s : State} {g : Gs} (x : Use) (W : Wf s) (h : Gr s g) (ok : OkS x.sym) : Gr (merge s x.sym x.unit) (gstep g x) := by
  obtain ⟨b, u, a⟩ := ok
  obtain ⟨w1, w2⟩ := W
  obtain ⟨h1, h2, h3, h4⟩ := h
  obtain ⟨⟨nm, xb, xs, xa⟩, xu⟩ := x
  obtain ⟨g1, g2, g3, g4⟩ := g
  obtain ⟨sb, ss, sa, su, sd, sr, sw, sl⟩ := s
  simp only at *
  have hx : xb = 1 ∨ xb = 2 ∨ xb = 3 ∨ xb = 4 ∨ xb = 5 := by omega
  subst h2; subst h3
  rcases w1 with w | w | w | w <;> rcases hx with e | e | e | e | e <;> subst e <;> subst w <;> cases sr <;> cases sw <;>
    simp only [bestOf] at h1 <;> simp at h1 <;> subst h1 <;> simp at * <;>
    (refine ⟨?_, ?_, ?_, ?_⟩ <;> simp [merge, join, one, empty, strength, gstep, rank, bestOf] <;> (try simp_all))
theorem gr_all : ∀ {l : List Use}, (∀ x ∈ l, OkS x.sym) → Gr (all l) (gall l) := by
  intro l
  rw [← List.reverse_reverse l]
  generalize l.reverse = m
  intro h
  induction m with
  | nil => exact ⟨rfl, rfl, rfl, fun h => by simp [gall] at h⟩
  | cons x m ih =>
    rw [List.reverse_cons] at h ⊢
    rw [all_snoc, gall_snoc]
    exact gr_step x (wf_all fun y hy => (h y (by simp at hy ⊢; exact .inl hy)).b) (ih fun y hy => h y (by simp at hy ⊢; exact .inl hy)) (h x (by simp))
/-- the unit when nothing is bound -/
theorem best_unit {l : List Use} (h : ∀ x ∈ l, OkS x.sym) : (if (gall l).best < 3 then -1 else (gall l).unit) = (all l).unit := by
  have g := gr_all h
  have w := wf_all fun y hy => (h y hy).b
  by_cases hb : (gall l).best < 3
  · rw [if_pos hb]
    have h0 : (all l).bind = 0 := by
      rw [g.best] at hb
      rcases w.1 with e | e | e | e
      · exact e
      all_goals (simp [bestOf, e] at hb)
    exact (w.2 h0).2.2.symm
  · rw [if_neg hb]; exact g.unit (by omega)
/-- some symbol: some rank -/
theorem best_pos : ∀ {l : List Use}, (∀ x ∈ l, OkS x.sym) → l ≠ [] → 0 < (gall l).best := by
  intro l
  rw [← List.reverse_reverse l]
  generalize l.reverse = m
  intro h hne
  cases m with
  | nil => exact absurd rfl hne
  | cons x m =>
    rw [List.reverse_cons] at h ⊢
    rw [gall_snoc]
    have ok := (h x (by simp)).b
    have hr : 0 < rank x.sym.bind := by
      have hx : x.sym.bind = 1 ∨ x.sym.bind = 2 ∨ x.sym.bind = 3 ∨ x.sym.bind = 4 ∨ x.sym.bind = 5 := by omega
      rcases hx with e | e | e | e | e <;> rw [e] <;> decide
    unfold gstep
    split
    · exact hr
    · simp only []; omega
end Go.AL.Sy
namespace Go.AL
theorem rem64n {a b : Nat} (h : 0 < b) (hb : a ≤ 9223372036854775807) : intBin .rem .i64 (a : Int) (b : Int) = some ((a % b : Nat) : Int) := by
  have h1 : ((a : Int)).tmod (b : Int) = ((a % b : Nat) : Int) := (Int.ofNat_tmod a b).symm
  have h2 : a % b ≤ a := Nat.mod_le _ _
  simp only [intBin]
  rw [if_neg (by omega)]
  simp [h1]
end Go.AL

/- A table's entries as the callee sees them. No condition. -/
set_option linter.unusedVariables false
set_option linter.unusedSimpArgs false
namespace Go.AL.Sy
open Go Go.AL Go.AL.Bd
abbrev encA (s : State) : List D := [vI s.bind, vI s.size, vI s.align, vI s.unit, vB s.defd, vB s.sref, vB s.wref, .list .al (s.strongs.map eI)]
def entsA (T : Tb) : Ents := T.map fun p => (.string (sB p.1), .agg (encA p.2))
theorem entsA_keys (T : Tb) : strKeys (entsA T) := fun e he => by
  obtain ⟨p, _, rfl⟩ := List.mem_map.1 he
  exact ⟨_, rfl⟩
theorem mget_entsA (n : Str) : ∀ T : Tb, mget (entsA T) (.string (sB n)) = (tget T n).map fun s => .agg (encA s)
  | [] => rfl
  | p :: T => by
    have ih := mget_entsA n T
    have e : entsA (p :: T) = (.string (sB p.1), .agg (encA p.2)) :: entsA T := rfl
    rw [e]
    simp only [mget, keyB_s, tget]
    by_cases h : n = p.1
    · simp [h]
    · simp [h, ih]
theorem lookA_some {T : Tb} {n : Str} {s : State} (h : tget T n = some s) (z : Value) : lookD (entsA T) (sB n) z true = .tuple [.agg (encA s), vB true] := by
  simp [lookD, mget_entsA, h]
theorem lookA_none {T : Tb} {n : Str} (h : tget T n = none) (z : Value) : lookD (entsA T) (sB n) z true = .tuple [zeroD z, vB false] := by
  simp [lookD, mget_entsA, h]
theorem lookA1 {T : Tb} {n : Str} {s : State} (h : tget T n = some s) (z : Value) : lookD (entsA T) (sB n) z false = .agg (encA s) := by
  simp [lookD, mget_entsA, h]
theorem ao_state (s : State) : Ao (.agg s.enc) (.agg (encA s)) :=
  Ao.aggL (.cons (.v _) (.cons (.v _) (.cons (.v _) (.cons (.v _) (.cons (.v _) (.cons (.v _) (.cons (.v _) (.cons (Ao.mapL _ _) .nil))))))))
theorem ao_ents (T : Tb) : AoO (.map (ents T)) (.map (entsA T)) := by
  refine .map _ _ (by simp [ents, entsA]) (fun i a b => ?_) (fun i a => ?_) (fun i a => ?_)
  · simp only [ents, entsA, List.getElem_map]
    exact ⟨trivial, ao_state _⟩
  · simp only [ents, List.getElem_map]; rfl
  · simp only [entsA, List.getElem_map]; rfl
end Go.AL.Sy
