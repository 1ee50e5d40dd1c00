/- The states of symbols, in plain Lean. No condition. -/
import Derived.Test.YtideppacnkilbaaDoorAmB
set_option linter.unusedVariables false
namespace Go.AL.Bd
open Go Go.AL
structure Sym where
  name : Str
  bind : Int
  size : Int
  align : Int
structure Use where
  sym : Sym
  unit : Int
structure State where
  bind : Int
  size : Int
  align : Int
  unit : Int
  defd : Bool
  sref : Bool
  wref : Bool
  strongs : List Int
deriving DecidableEq
abbrev Sym.enc (x : Sym) : List D := [sD x.name, vI x.bind, vI x.size, vI x.align]
abbrev Use.enc (x : Use) : List D := [sD x.sym.name, vI x.sym.bind, vI x.sym.size, vI x.sym.align, vI x.unit]
abbrev State.enc (s : State) : List D := [vI s.bind, vI s.size, vI s.align, vI s.unit, vB s.defd, vB s.sref, vB s.wref, LI s.strongs]
abbrev State.encN (s : State) : List D := [vI s.bind, vI s.size, vI s.align, vI s.unit, vB s.defd, vB s.sref, vB s.wref, LIn s.strongs]
abbrev LU (l : List Use) : D := .list .any (l.map Use.enc)

def empty : State := ⟨0, 0, 0, -1, false, false, false, []⟩
def strength (b : Int) : Int := if b = 1 then 3 else if b = 3 then 2 else if b = 2 then 1 else 0
def one (x : Sym) (u : Int) : State :=
  if x.bind = 4 then { empty with sref := true }
  else if x.bind = 5 then { empty with wref := true }
  else ⟨x.bind, x.size, if x.bind = 3 then x.align else 0, u, !decide (x.bind = 3), false, false, if x.bind = 1 then [u] else []⟩
def join (a b : State) : State :=
  ⟨if strength b.bind > strength a.bind then b.bind else a.bind,
   if strength b.bind > strength a.bind then b.size else if a.bind = 3 ∧ b.bind = 3 then max a.size b.size else a.size,
   if strength b.bind > strength a.bind then b.align else if a.bind = 3 ∧ b.bind = 3 then max a.align b.align else a.align,
   if strength b.bind > strength a.bind then b.unit else a.unit,
   a.defd || b.defd, a.sref || b.sref, a.wref || b.wref, a.strongs ++ b.strongs⟩
def merge (s : State) (x : Sym) (u : Int) : State := join s (one x u)
def all (l : List Use) : State := l.foldl (fun s x => merge s x.sym x.unit) empty
def wanted (s : State) : Bool := s.sref && !s.defd
def undefined (s : State) : Bool := s.sref && decide (s.bind = 0)
def duplicate (s : State) : Bool := decide (1 < s.strongs.length)

def okUse (x : Use) : Bool := decide (1 ≤ x.sym.bind) && decide (x.sym.bind ≤ 5) && decide (0 ≤ x.sym.size) && decide (0 ≤ x.sym.align) && decide (0 ≤ x.unit)
def right (l : List Use) : Bool := decide (l.length ≤ 50) && l.all okUse

def first : List Use → Int → Int
  | [], _ => -1
  | x :: l, b => if x.sym.bind = b then 0 else (let r := first l b; if r < 0 then -1 else r + 1)
theorem first_neg : ∀ {l : List Use} {b : Int}, (∀ (j : Nat) x, l[j]? = some x → x.sym.bind ≠ b) → first l b = -1
  | [], b, h => rfl
  | x :: l, b, h => by
    have h0 := h 0 x rfl
    have ih := first_neg (l := l) (b := b) (fun j y hy => h (j + 1) y (by simpa using hy))
    simp [first, h0, ih]
theorem first_eq : ∀ {l : List Use} {b : Int} {k : Nat} {x : Use}, l[k]? = some x → x.sym.bind = b → (∀ j y, j < k → l[j]? = some y → y.sym.bind ≠ b) → first l b = k
  | [], b, k, x, h, _, _ => by simp at h
  | y :: l, b, 0, x, h, hb, _ => by simp at h; subst h; simp [first, hb]
  | y :: l, b, k + 1, x, h, hb, hk => by
    have h0 := hk 0 y (by omega) rfl
    have ih := first_eq (l := l) (b := b) (k := k) (x := x) (by simpa using h) hb (fun j z hj hz => hk (j + 1) z (by omega) (by simpa using hz))
    have h2 : ¬ ((k : Int) < 0) := by omega
    simp [first, h0, ih, h2]

/-- the state, as the document defines it -/
def maxOf (f : Use → Int) (l : List Use) : Int := l.foldl (fun m x => if x.sym.bind = 3 then max m (f x) else m) 0
def strongsOf (l : List Use) : List Int := (l.filter fun x => decide (x.sym.bind = 1)).map (·.unit)
def useAt (l : List Use) (i : Int) : Use := l.getD i.toNat ⟨⟨[], 0, 0, 0⟩, 0⟩
def refOf (l : List Use) : State :=
  if 0 ≤ first l 1 then ⟨1, (useAt l (first l 1)).sym.size, 0, (useAt l (first l 1)).unit, true, decide (0 ≤ first l 4), decide (0 ≤ first l 5), strongsOf l⟩
  else if 0 ≤ first l 3 then ⟨3, maxOf (·.sym.size) l, maxOf (·.sym.align) l, (useAt l (first l 3)).unit, decide (0 ≤ first l 2), decide (0 ≤ first l 4), decide (0 ≤ first l 5), strongsOf l⟩
  else if 0 ≤ first l 2 then ⟨2, (useAt l (first l 2)).sym.size, maxOf (·.sym.align) l, (useAt l (first l 2)).unit, true, decide (0 ≤ first l 4), decide (0 ≤ first l 5), strongsOf l⟩
  else ⟨0, maxOf (·.sym.size) l, maxOf (·.sym.align) l, -1, false, decide (0 ≤ first l 4), decide (0 ≤ first l 5), strongsOf l⟩

theorem first_spec (l : List Use) (b : Int) : (first l b = -1 ∧ ∀ x ∈ l, x.sym.bind ≠ b) ∨ (∃ k : Nat, first l b = k ∧ k < l.length) := by
  induction l with
  | nil => exact .inl ⟨rfl, by simp⟩
  | cons x l ih =>
    by_cases h : x.sym.bind = b
    · exact .inr ⟨0, by simp [first, h], by simp⟩
    · rcases ih with ⟨h1, h2⟩ | ⟨k, h1, h2⟩
      · refine .inl ⟨by simp [first, h, h1], fun y hy => ?_⟩
        rcases List.mem_cons.1 hy with rfl | hy
        · exact h
        · exact h2 y hy
      · exact .inr ⟨k + 1, by have : ¬ ((k : Int) < 0) := by omega
                              simp [first, h, h1, this], by simp; omega⟩

theorem useAt_get {l : List Use} {b : Int} (h : 0 ≤ first l b) : l[(first l b).toNat]? = some (useAt l (first l b)) := by
  rcases first_spec l b with ⟨h1, _⟩ | ⟨k, h1, h2⟩
  · omega
  · rw [h1]; simp [useAt, h2]
theorem maxOf_snoc (f : Use → Int) (l : List Use) (x : Use) : maxOf f (l ++ [x]) = if x.sym.bind = 3 then max (maxOf f l) (f x) else maxOf f l := by simp [maxOf]
theorem strongsOf_snoc (l : List Use) (x : Use) : strongsOf (l ++ [x]) = strongsOf l ++ if x.sym.bind = 1 then [x.unit] else [] := by
  simp only [strongsOf, List.filter_append, List.map_append]
  by_cases h : x.sym.bind = 1 <;> simp [h]
theorem strongsOf_le (l : List Use) : (strongsOf l).length ≤ l.length := by
  simp only [strongsOf, List.length_map]; exact List.length_filter_le _ _
theorem take_snoc {α : Type} {l : List α} {k : Nat} {x : α} (h : l[k]? = some x) : l.take (k + 1) = l.take k ++ [x] := by
  rw [List.take_add_one, h]; rfl
theorem strongs_same {l : List Use} {k : Nat} {x : Use} (hx : l[k]? = some x) (h : x.sym.bind ≠ 1) : strongsOf (l.take (k + 1)) = strongsOf (l.take k) := by
  rw [take_snoc hx, strongsOf_snoc]; simp [h]
theorem max_same {l : List Use} {k : Nat} {x : Use} (f : Use → Int) (hx : l[k]? = some x) (h : x.sym.bind ≠ 3) : maxOf f (l.take (k + 1)) = maxOf f (l.take k) := by
  rw [take_snoc hx, maxOf_snoc]; simp [h]
theorem max_more {l : List Use} {k : Nat} {x : Use} (f : Use → Int) (hx : l[k]? = some x) (h : x.sym.bind = 3) : maxOf f (l.take (k + 1)) = max (maxOf f (l.take k)) (f x) := by
  rw [take_snoc hx, maxOf_snoc]; simp [h]
/-- what the loop has gathered -/
abbrev mid (l : List Use) (k : Nat) : List D :=
  [vI 0, vI (if first l 1 < 0 then maxOf (·.sym.size) (l.take k) else 0), vI (if first l 1 < 0 then maxOf (·.sym.align) (l.take k) else 0), vI (-1),
   vB (decide (0 ≤ first l 1) || decide (0 ≤ first l 2)), vB (decide (0 ≤ first l 4)), vB (decide (0 ≤ first l 5)), .list (.tok 900000) ((strongsOf (l.take k)).map eI)]
theorem one_bind {x : Sym} (u : Int) (h : 1 ≤ x.bind ∧ x.bind ≤ 5) : 0 ≤ (one x u).bind ∧ (one x u).bind < 6 := by
  unfold one; split
  · simp [empty]
  · split
    · simp [empty]
    · simp only []; omega
theorem one_strongs (x : Sym) (u : Int) : (one x u).strongs.length ≤ 1 := by
  unfold one; split
  · simp [empty]
  · split
    · simp [empty]
    · simp only []; split <;> simp
theorem join_bind {a b : State} (ha : 0 ≤ a.bind ∧ a.bind < 6) (hb : 0 ≤ b.bind ∧ b.bind < 6) : 0 ≤ (join a b).bind ∧ (join a b).bind < 6 := by
  simp only [join]; split <;> assumption
theorem merge_bind {s : State} {x : Sym} (u : Int) (hs : 0 ≤ s.bind ∧ s.bind < 6) (h : 1 ≤ x.bind ∧ x.bind ≤ 5) : 0 ≤ (merge s x u).bind ∧ (merge s x u).bind < 6 := join_bind hs (one_bind u h)
theorem merge_strongs (s : State) (x : Sym) (u : Int) : (merge s x u).strongs.length ≤ s.strongs.length + 1 := by
  have := one_strongs x u
  simp only [merge, join, List.length_append]; omega
theorem okUse_bind {x : Use} (h : okUse x = true) : 1 ≤ x.sym.bind ∧ x.sym.bind ≤ 5 := by
  simp [okUse] at h; omega
theorem all_snoc (l : List Use) (x : Use) : all (l ++ [x]) = merge (all l) x.sym x.unit := by simp [all]
theorem foldl_bind : ∀ (l : List Use) (s : State), (0 ≤ s.bind ∧ s.bind < 6) → (∀ x ∈ l, 1 ≤ x.sym.bind ∧ x.sym.bind ≤ 5) →
    (0 ≤ (l.foldl (fun s x => merge s x.sym x.unit) s).bind ∧ (l.foldl (fun s x => merge s x.sym x.unit) s).bind < 6) ∧ (l.foldl (fun s x => merge s x.sym x.unit) s).strongs.length ≤ s.strongs.length + l.length
  | [], s, hs, _ => by simpa using hs
  | x :: l, s, hs, h => by
    have ih := foldl_bind l (merge s x.sym x.unit) (merge_bind _ hs (h x (by simp))) (fun y hy => h y (by simp [hy]))
    have := merge_strongs s x.sym x.unit
    simp only [List.foldl_cons, List.length_cons]
    exact ⟨ih.1, by omega⟩
theorem all_bind {l : List Use} (h : ∀ x ∈ l, 1 ≤ x.sym.bind ∧ x.sym.bind ≤ 5) : (0 ≤ (all l).bind ∧ (all l).bind < 6) ∧ (all l).strongs.length ≤ l.length := by
  have := foldl_bind l empty (by simp [empty]) h
  simpa [all, empty] using this
theorem right_iff {l : List Use} : right l = true ↔ l.length ≤ 50 ∧ ∀ x ∈ l, okUse x = true := by simp [right]
theorem right_bind {l : List Use} (h : right l = true) : ∀ x ∈ l, 1 ≤ x.sym.bind ∧ x.sym.bind ≤ 5 := fun x hx => okUse_bind ((right_iff.1 h).2 x hx)
end Go.AL.Bd

/- The laws of layer 13, in plain Lean. No condition. -/
set_option linter.unusedVariables false
set_option linter.unusedSimpArgs false
namespace Go.AL.Bd
open Go Go.AL

def bindOk (b : Int) : Prop := b = 0 ∨ b = 1 ∨ b = 2 ∨ b = 3
structure Wf (s : State) : Prop where
  b : bindOk s.bind
  z : s.bind = 0 → s.size = 0 ∧ s.align = 0 ∧ s.unit = -1

theorem wf_empty : Wf empty := ⟨.inl rfl, fun _ => ⟨rfl, rfl, rfl⟩⟩
theorem wf_one {x : Sym} (u : Int) (h : 1 ≤ x.bind ∧ x.bind ≤ 5) : Wf (one x u) := by
  unfold one
  split
  · exact ⟨.inl rfl, fun _ => ⟨rfl, rfl, rfl⟩⟩
  · split
    · exact ⟨.inl rfl, fun _ => ⟨rfl, rfl, rfl⟩⟩
    · exact ⟨by unfold bindOk; simp only []; omega, fun h0 => by simp only [] at h0; omega⟩
theorem strength_0 : strength 0 = 0 := rfl
theorem strength_1 : strength 1 = 3 := rfl
theorem strength_2 : strength 2 = 1 := rfl
theorem strength_3 : strength 3 = 2 := rfl
theorem wf_join {a b : State} (ha : Wf a) (hb : Wf b) : Wf (join a b) := by
  obtain ⟨a1, a2⟩ := ha
  obtain ⟨b1, b2⟩ := hb
  refine ⟨?_, ?_⟩
  · simp only [join]; split <;> assumption
  · rcases a1 with h | h | h | h <;> rcases b1 with h' | h' | h' | h' <;> simp_all [join, strength]
theorem wf_foldl : ∀ (l : List Use) (s : State), Wf s → (∀ x ∈ l, 1 ≤ x.sym.bind ∧ x.sym.bind ≤ 5) → Wf (l.foldl (fun s x => merge s x.sym x.unit) s)
  | [], s, hs, _ => hs
  | x :: l, s, hs, h => wf_foldl l _ (wf_join hs (wf_one _ (h x (by simp)))) (fun y hy => h y (by simp [hy]))
theorem wf_all {l : List Use} (h : ∀ x ∈ l, 1 ≤ x.sym.bind ∧ x.sym.bind ≤ 5) : Wf (all l) := wf_foldl l empty wf_empty h

theorem join_assoc {a b c : State} (ha : Wf a) (hb : Wf b) (hc : Wf c) : join (join a b) c = join a (join b c) := by
  obtain ⟨a1, _⟩ := ha
  obtain ⟨b1, _⟩ := hb
  obtain ⟨c1, _⟩ := hc
  rcases a1 with h | h | h | h <;> rcases b1 with h' | h' | h' | h' <;> rcases c1 with h'' | h'' | h'' | h'' <;>
    simp [join, strength, h, h', h'', Bool.or_assoc, Int.max_assoc]
theorem join_empty {a : State} (ha : Wf a) : join a empty = a := by
  obtain ⟨a1, _⟩ := ha
  rcases a1 with h | h | h | h <;> simp [join, strength, h, empty] <;> (cases a; simp_all)
theorem empty_join {a : State} (ha : Wf a) : join empty a = a := by
  obtain ⟨a1, a2⟩ := ha
  rcases a1 with h | h | h | h <;> simp [join, strength, h, empty] <;> (cases a; simp_all)

theorem all_append {a b : List Use} (ha : ∀ x ∈ a, 1 ≤ x.sym.bind ∧ x.sym.bind ≤ 5) (hb : ∀ x ∈ b, 1 ≤ x.sym.bind ∧ x.sym.bind ≤ 5) : all (a ++ b) = join (all a) (all b) := by
  have key : ∀ (b : List Use) (s t : State), Wf s → Wf t → (∀ x ∈ b, 1 ≤ x.sym.bind ∧ x.sym.bind ≤ 5) →
      b.foldl (fun s x => merge s x.sym x.unit) (join s t) = join s (b.foldl (fun s x => merge s x.sym x.unit) t) := by
    intro b
    induction b with
    | nil => intro s t _ _ _; rfl
    | cons x b ih =>
      intro s t hs ht h
      have hx := wf_one x.unit (h x (by simp))
      simp only [List.foldl_cons, merge]
      rw [join_assoc hs ht hx]
      exact ih s _ hs (wf_join ht hx) (fun y hy => h y (by simp [hy]))
  have := key b (all a) empty (wf_all ha) wf_empty hb
  rw [join_empty (wf_all ha)] at this
  rw [all, List.foldl_append]
  exact this

/-! ### the reference -/
theorem first_snoc (l : List Use) (x : Use) (b : Int) : first (l ++ [x]) b = if 0 ≤ first l b then first l b else if x.sym.bind = b then (l.length : Int) else -1 := by
  induction l with
  | nil => by_cases h : x.sym.bind = b <;> simp [first, h]
  | cons y l ih =>
    simp only [List.cons_append, first, ih]
    by_cases h : y.sym.bind = b
    · simp [h]
    · simp only [h, if_false]
      rcases first_spec l b with ⟨h1, _⟩ | ⟨k, h1, _⟩
      · rw [h1]
        by_cases hx : x.sym.bind = b
        · simp [hx]; omega
        · simp [hx]
      · rw [h1]
        have h2 : ¬ ((k : Int) < 0) := by omega
        have h3 : (0 : Int) ≤ k := by omega
        have h4 : (0 : Int) ≤ k + 1 := by omega
        simp [h2, h3, h4]
theorem useAt_snoc {l : List Use} (x : Use) {b : Int} (h : 0 ≤ first l b) : useAt (l ++ [x]) (first l b) = useAt l (first l b) := by
  rcases first_spec l b with ⟨h1, _⟩ | ⟨k, h1, h2⟩
  · omega
  · rw [h1]; simp [useAt, h2, List.getElem?_append]
theorem useAt_len (l : List Use) (x : Use) : useAt (l ++ [x]) (l.length : Int) = x := by simp [useAt]
theorem maxOf_none {l : List Use} (f : Use → Int) (h : ¬ 0 ≤ first l 3) : maxOf f l = 0 := by
  rcases first_spec l 3 with ⟨_, h2⟩ | ⟨k, h1, _⟩
  · have key : ∀ (l : List Use) (m : Int), (∀ x ∈ l, x.sym.bind ≠ 3) → l.foldl (fun m x => if x.sym.bind = 3 then max m (f x) else m) m = m := by
      intro l
      induction l with
      | nil => intro m _; rfl
      | cons x l ih => intro m hh; simp only [List.foldl_cons, hh x (by simp), if_false]; exact ih m (fun y hy => hh y (by simp [hy]))
    exact key l 0 h2
  · omega
theorem refOf_snoc (l : List Use) (x : Use) (h : okUse x = true) : refOf (l ++ [x]) = merge (refOf l) x.sym x.unit := by
  have hlen : (0 : Int) ≤ (l.length : Int) := by omega
  have hx : 1 ≤ x.sym.bind ∧ x.sym.bind ≤ 5 ∧ 0 ≤ x.sym.size ∧ 0 ≤ x.sym.align := by simp [okUse] at h; omega
  obtain ⟨hb, hs, ha⟩ : (x.sym.bind = 1 ∨ x.sym.bind = 2 ∨ x.sym.bind = 3 ∨ x.sym.bind = 4 ∨ x.sym.bind = 5) ∧ 0 ≤ x.sym.size ∧ 0 ≤ x.sym.align := by omega
  have hm1 : ∀ f : Use → Int, maxOf f (l ++ [x]) = if x.sym.bind = 3 then max (maxOf f l) (f x) else maxOf f l := fun f => maxOf_snoc f l x
  have u1 := fun h1 => useAt_snoc (l := l) x (b := 1) h1
  have u2 := fun h1 => useAt_snoc (l := l) x (b := 2) h1
  have u3 := fun h1 => useAt_snoc (l := l) x (b := 3) h1
  have ul := useAt_len l x
  have m3 := fun f h1 => maxOf_none (l := l) f h1
  by_cases f1 : 0 ≤ first l 1 <;> by_cases f3 : 0 ≤ first l 3 <;> by_cases f2 : 0 ≤ first l 2 <;> by_cases f4 : 0 ≤ first l 4 <;> by_cases f5 : 0 ≤ first l 5 <;>
    rcases hb with e | e | e | e | e <;>
    simp [refOf, first_snoc, strongsOf_snoc, hm1, merge, join, one, empty, strength, e, f1, f2, f3, f4, f5, u1, u2, u3, ul, m3, hlen, Int.max_eq_right, hs, ha]
theorem ref_all {l : List Use} (h : ∀ x ∈ l, okUse x = true) : refOf l = all l := by
  have key : ∀ (r : List Use), (∀ x ∈ r.reverse, okUse x = true) → refOf r.reverse = all r.reverse := by
    intro r
    induction r with
    | nil => intro _; rfl
    | cons x r ih =>
      intro hh
      rw [List.reverse_cons] at hh ⊢
      rw [refOf_snoc _ _ (hh x (by simp)), ih (fun y hy => hh y (by simp at hy ⊢; exact .inl hy)), ← all_snoc]
  have := key l.reverse (by simpa using h)
  simpa using this

/-! ### growing -/
theorem one_cases {x : Sym} (u : Int) (h : 1 ≤ x.bind ∧ x.bind ≤ 5) :
    (x.bind = 4 ∧ one x u = { empty with sref := true }) ∨ (x.bind = 5 ∧ one x u = { empty with wref := true }) ∨
    (x.bind ≠ 4 ∧ (x.bind = 1 ∨ x.bind = 2 ∨ x.bind = 3) ∧ (one x u).bind = x.bind ∧ (one x u).sref = false) := by
  by_cases h4 : x.bind = 4
  · exact .inl ⟨h4, by simp [one, h4]⟩
  · by_cases h5 : x.bind = 5
    · exact .inr (.inl ⟨h5, by simp [one, h5]⟩)
    · exact .inr (.inr ⟨h4, by omega, by simp [one, h4, h5], by simp [one, h4, h5]⟩)
structure Grows (s t : State) (x : Sym) : Prop where
  dup : duplicate s = true → duplicate t = true
  dfd : s.defd = true → t.defd = true
  bnd : s.bind ≠ 0 → t.bind ≠ 0
  str : s.bind = 1 → t.bind = 1
  com : s.bind = 3 → t.bind ≠ 2
  wan : wanted t = true → wanted s = true ∨ x.bind = 4
theorem grows {s : State} {x : Sym} (u : Int) (hs : Wf s) (h : 1 ≤ x.bind ∧ x.bind ≤ 5) : Grows s (merge s x u) x := by
  have hb := (wf_one u h).b
  obtain ⟨sb, _⟩ := hs
  refine ⟨fun hd => ?_, fun hd => ?_, fun h0 => ?_, fun h1 => ?_, fun h3 => ?_, fun hw => ?_⟩
  · simp [duplicate, merge, join] at hd ⊢; omega
  · simp [merge, join, hd]
  · simp only [merge, join]
    split
    · rename_i hgt
      intro e
      rw [e, strength_0] at hgt
      rcases sb with e' | e' | e' | e' <;> rw [e'] at hgt <;> simp [strength] at hgt
    · exact h0
  · simp only [merge, join, h1, strength_1]
    split
    · rename_i hgt
      rcases hb with e' | e' | e' | e' <;> rw [e'] at hgt <;> simp [strength] at hgt
    · rfl
  · simp only [merge, join, h3, strength_3]
    split
    · rename_i hgt
      intro e
      rw [e, strength_2] at hgt
      omega
    · decide
  · rcases one_cases u h with ⟨h4, e⟩ | ⟨h5, e⟩ | ⟨_, _, _, e⟩
    · exact .inr h4
    · left
      rw [merge, e] at hw
      simpa [wanted, join, empty] using hw
    · left
      simp [wanted, merge, join, e] at hw ⊢
      exact ⟨hw.1, hw.2.1⟩
/-! ### another order -/
structure Alike (s t : State) : Prop where
  wan : wanted s = wanted t
  und : undefined s = undefined t
  dup : duplicate s = duplicate t
  bnd : s.bind = t.bind
  dfd : s.defd = t.defd
  len : s.strongs.length = t.strongs.length
  com : s.bind = 3 → s.size = t.size ∧ s.align = t.align
theorem join_swap {a b : State} (ha : Wf a) (hb : Wf b) : Alike (join a b) (join b a) := by
  have hbind : (join a b).bind = (join b a).bind := by
    rcases ha.b with h | h | h | h <;> rcases hb.b with h' | h' | h' | h' <;> simp [join, strength, h, h']
  refine ⟨by simp [wanted, join, Bool.or_comm], ?_, by simp [duplicate, join, Nat.add_comm], hbind, by simp [join, Bool.or_comm], by simp [join, Nat.add_comm], fun h3 => ?_⟩
  · have e : (join a b).sref = (join b a).sref := by simp [join, Bool.or_comm]
    simp only [undefined]; rw [e, hbind]
  · rcases ha.b with h | h | h | h <;> rcases hb.b with h' | h' | h' | h' <;> simp [join, strength, h, h'] at h3 ⊢
    exact ⟨Int.max_comm _ _, Int.max_comm _ _⟩
theorem turn_alike {l : List Use} (k : Nat) (hr : right l = true) : Alike (all l) (all (l.drop k ++ l.take k)) := by
  have hb := right_bind hr
  have h1 : ∀ x ∈ l.take k, 1 ≤ x.sym.bind ∧ x.sym.bind ≤ 5 := fun x hx => hb x (List.mem_of_mem_take hx)
  have h2 : ∀ x ∈ l.drop k, 1 ≤ x.sym.bind ∧ x.sym.bind ≤ 5 := fun x hx => hb x (List.mem_of_mem_drop hx)
  have := join_swap (wf_all h1) (wf_all h2)
  rwa [← all_append h1 h2, ← all_append h2 h1, List.take_append_drop] at this
end Go.AL.Bd
