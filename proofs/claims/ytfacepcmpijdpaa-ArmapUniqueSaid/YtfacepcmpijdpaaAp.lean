/- Archive maps, in plain Lean. No condition. -/
import Derived.Test.YtfacepcmpijdpaaAmC
import Derived.Lib.Bytealg
set_option linter.unusedVariables false
set_option linter.unusedSimpArgs false
namespace Go.AL.Ap
open Go Go.AL
abbrev Ent := Str × Int
abbrev Ent.enc (e : Ent) : List D := [sD e.1, vI e.2]
def fits (e : Ent) : Bool := decide (e.1 ≠ []) && (decide ((0 : UInt8) ∉ e.1) && (decide (0 ≤ e.2) && decide (e.2 ≤ 4294967295)))
theorem fits_iff {e : Ent} : fits e = true ↔ e.1 ≠ [] ∧ (0 : UInt8) ∉ e.1 ∧ 0 ≤ e.2 ∧ e.2 ≤ 4294967295 := by simp [fits]
def W4 (n : Nat) : List UInt8 := [UInt8.ofNat (n / 16777216), UInt8.ofNat (n / 65536), UInt8.ofNat (n / 256), UInt8.ofNat n]
def num (b : List UInt8) : Nat := (((b.getD 0 0).toNat * 256 + (b.getD 1 0).toNat) * 256 + (b.getD 2 0).toNat) * 256 + (b.getD 3 0).toNat
theorem num_W4 {n : Nat} (h : n < 4294967296) (r : List UInt8) : num (W4 n ++ r) = n := by
  simp [num, W4]
  omega
theorem num_lt (b : List UInt8) : num b < 4294967296 := by
  unfold num
  have h0 := (b.getD 0 0).toNat_lt
  have h1 := (b.getD 1 0).toNat_lt
  have h2 := (b.getD 2 0).toNat_lt
  have h3 := (b.getD 3 0).toNat_lt
  omega
theorem W4_num : ∀ {b : List UInt8}, 4 ≤ b.length → W4 (num b) = b.take 4
  | a :: b :: c :: d :: r, _ => by
    have h0 := a.toNat_lt
    have h1 := b.toNat_lt
    have h2 := c.toNat_lt
    have h3 := d.toNat_lt
    simp only [W4, num, List.getD_cons_zero, List.getD_cons_succ, List.take_succ_cons, List.take_zero, List.cons.injEq, and_true]
    refine ⟨?_, ?_, ?_, ?_⟩ <;> (apply UInt8.toNat_inj.1; simp only [UInt8.toNat_ofNat']; omega)
theorem W4_len (n : Nat) : (W4 n).length = 4 := rfl
def offs (l : List Ent) : List UInt8 := l.flatMap fun e => W4 e.2.toNat
def nams (l : List Ent) : List UInt8 := l.flatMap fun e => e.1 ++ [0]
def encB (l : List Ent) : List UInt8 := W4 l.length ++ offs l ++ nams l
theorem offs_len : ∀ l : List Ent, (offs l).length = 4 * l.length
  | [] => rfl
  | e :: l => by
    have ih := offs_len l
    simp only [offs, List.flatMap_cons, List.length_append, W4_len, List.length_cons] at ih ⊢
    omega

/-! ### names -/
def isz (x : UInt8) : Bool := x != 0
/-- the next name and what follows it -/
def next (r : List UInt8) : Option (Str × List UInt8) :=
  if r.takeWhile isz = [] ∨ r.dropWhile isz = [] then none else some (r.takeWhile isz, (r.dropWhile isz).tail)
theorem isz_of {s : Str} (h : (0 : UInt8) ∉ s) : ∀ x ∈ s, isz x = true := fun x hx => by
  simp only [isz, bne_iff_ne]; intro e; subst e; exact h hx
theorem tw_app {s : Str} (h : ∀ x ∈ s, isz x = true) (r : List UInt8) : (s ++ r).takeWhile isz = s ++ r.takeWhile isz := by
  rw [List.takeWhile_append_of_pos h]
theorem dw_app {s : Str} (h : ∀ x ∈ s, isz x = true) (r : List UInt8) : (s ++ r).dropWhile isz = r.dropWhile isz := by
  rw [List.dropWhile_append_of_pos h]
theorem next_name {s : Str} (h1 : s ≠ []) (h2 : (0 : UInt8) ∉ s) (r : List UInt8) : next (s ++ 0 :: r) = some (s, r) := by
  unfold next
  rw [tw_app (isz_of h2), dw_app (isz_of h2)]
  simp [isz, h1]
theorem next_end {s : Str} (h2 : (0 : UInt8) ∉ s) : next s = none := by
  unfold next
  have := dw_app (isz_of h2) []
  simp only [List.append_nil, List.dropWhile_nil] at this
  rw [this]; simp
theorem next_some {r r' : List UInt8} {s : Str} (h : next r = some (s, r')) : r = s ++ 0 :: r' ∧ s ≠ [] ∧ (0 : UInt8) ∉ s := by
  unfold next at h
  split at h
  · simp at h
  · rename_i hn
    simp only [not_or] at hn
    simp only [Option.some.injEq, Prod.mk.injEq] at h
    obtain ⟨e1, e2⟩ := h
    subst e1
    refine ⟨?_, hn.1, fun h => ?_⟩
    · have e := (List.takeWhile_append_dropWhile (p := isz) (l := r)).symm
      cases hd : r.dropWhile isz with
      | nil => exact absurd hd hn.2
      | cons x t =>
        rw [hd] at e e2
        have hx : x = 0 := by
          have := List.head?_dropWhile_not isz r
          rw [hd] at this
          simpa [isz] using this
        subst hx
        simp only [List.tail_cons] at e2
        subst e2
        exact e
    · have := List.all_takeWhile (p := isz) (l := r)
      have := List.all_eq_true.1 this 0 h
      simp [isz] at this
theorem ib_spec : ∀ r : List UInt8, Lib.indexByte r 0 = if r.dropWhile isz = [] then -1 else ((r.takeWhile isz).length : Int)
  | [] => rfl
  | x :: r => by
    have ih := ib_spec r
    simp only [Lib.indexByte]
    by_cases hx : x = 0
    · subst hx; simp [isz]
    · have h1 : isz x = true := by simp [isz, hx]
      have h2 : (x == 0) = false := by simp [hx]
      rw [h2, ih]
      simp only [List.dropWhile_cons, List.takeWhile_cons, h1, if_true, Bool.false_eq_true, if_false]
      split
      · rfl
      · rename_i hne
        have : (((r.takeWhile isz).length : Int) == -1) = false := by simp
        rw [this]; simp
theorem take_tw (r : List UInt8) : r.take (r.takeWhile isz).length = r.takeWhile isz := (List.prefix_iff_eq_take.1 (List.takeWhile_prefix isz)).symm
theorem drop_tw (r : List UInt8) : r.drop ((r.takeWhile isz).length + 1) = (r.dropWhile isz).tail := by
  have e := List.takeWhile_append_dropWhile (p := isz) (l := r)
  have h : ∀ a b : List UInt8, (a ++ b).drop (a.length + 1) = b.tail := fun a b => by
    rw [← List.drop_drop, List.drop_left, List.drop_one]
  have := h (r.takeWhile isz) (r.dropWhile isz)
  rwa [e] at this

/-! ### decoding -/
def decL (t : List UInt8) : Nat → Nat → List UInt8 → Option (List Ent)
  | _, 0, r => if r = [] then some [] else none
  | i, k + 1, r => match next r with
    | none => none
    | some (s, r') => (decL t (i + 1) k r').map fun q => (s, (num (t.drop (4 * i)) : Int)) :: q
def dec (b : List UInt8) : Option (List Ent) :=
  if b.length < 4 then none else if (b.length - 4) / 4 < num b then none else decL (b.drop 4) 0 (num b) ((b.drop 4).drop (4 * num b))

theorem decL_names (t : List UInt8) : ∀ (l : List Ent) (i : Nat) (x : List UInt8), l.all fits = true → (∀ j e, l[j]? = some e → (num (t.drop (4 * (i + j))) : Int) = e.2) →
    decL t i l.length (nams l ++ x) = if x = [] then some l else none
  | [], i, x, _, _ => by
    simp only [List.length_nil, decL, nams, List.flatMap_nil, List.nil_append]
  | e :: l, i, x, hf, ho => by
    simp only [List.all_cons, Bool.and_eq_true] at hf
    obtain ⟨h1, h2, h3, h4⟩ := fits_iff.1 hf.1
    have ih := decL_names t l (i + 1) x hf.2 (fun j e' he => by
      have := ho (j + 1) e' (by simpa using he)
      rw [← this]; congr 3; omega)
    have e0 := ho 0 e (by simp)
    simp only [Nat.add_zero] at e0
    have : nams (e :: l) ++ x = e.1 ++ 0 :: (nams l ++ x) := by simp [nams]
    rw [this]
    simp only [List.length_cons, decL, next_name h1 h2, ih, e0]
    split <;> simp
theorem decL_cut (t : List UInt8) : ∀ (l : List Ent) (i : Nat), l ≠ [] → l.all fits = true → decL t i l.length (nams l).dropLast = none
  | [], i, h, _ => absurd rfl h
  | e :: l, i, _, hf => by
    simp only [List.all_cons, Bool.and_eq_true] at hf
    obtain ⟨h1, h2, h3, h4⟩ := fits_iff.1 hf.1
    cases l with
    | nil =>
      have : (nams [e]).dropLast = e.1 := by simp [nams]
      rw [this]
      simp only [List.length_cons, decL, next_end h2]
    | cons e' l =>
      have ih := decL_cut t (e' :: l) (i + 1) (by simp) hf.2
      have : (nams (e :: e' :: l)).dropLast = e.1 ++ 0 :: (nams (e' :: l)).dropLast := by
        have hne : nams (e' :: l) ≠ [] := by simp [nams]
        have e1 : nams (e :: e' :: l) = (e.1 ++ [0]) ++ nams (e' :: l) := by simp [nams]
        rw [e1, List.dropLast_append_of_ne_nil hne]
        simp
      rw [this]
      simp only [List.length_cons, decL, next_name h1 h2] at ih ⊢
      simp [ih]
theorem decL_some (t : List UInt8) : ∀ (k i : Nat) (r : List UInt8) (q : List Ent), decL t i k r = some q →
    r = nams q ∧ q.length = k ∧ q.all fits = true ∧ ∀ j e, q[j]? = some e → e.2 = (num (t.drop (4 * (i + j))) : Int)
  | 0, i, r, q, h => by
    simp only [decL] at h
    split at h
    · rename_i hr
      simp at h; subst h; subst hr
      exact ⟨rfl, rfl, rfl, fun j e he => by simp at he⟩
    · simp at h
  | k + 1, i, r, q, h => by
    simp only [decL] at h
    split at h
    · simp at h
    · rename_i s r' hn
      simp only [Option.map_eq_some_iff] at h
      obtain ⟨q', hq', rfl⟩ := h
      obtain ⟨h1, h2, h3, h4⟩ := decL_some t k (i + 1) r' q' hq'
      obtain ⟨n1, n2, n3⟩ := next_some hn
      refine ⟨?_, by simp [h2], ?_, fun j e he => ?_⟩
      · rw [n1, h1]; simp [nams]
      · simp only [List.all_cons, h3, Bool.and_true]
        refine fits_iff.2 ⟨n2, n3, by simp, ?_⟩
        have := num_lt (t.drop (4 * i))
        simp; omega
      · cases j with
        | zero => simp at he; subst he; simp
        | succ j =>
          rw [h4 j e (by simpa using he)]
          congr 3; omega

theorem drop_offs : ∀ (l : List Ent) (j : Nat) (e : Ent) (r : List UInt8), l[j]? = some e → (offs l ++ r).drop (4 * j) = W4 e.2.toNat ++ (offs (l.drop (j + 1)) ++ r)
  | [], j, e, r, h => by simp at h
  | x :: l, 0, e, r, h => by simp at h; subst h; simp [offs]
  | x :: l, j + 1, e, r, h => by
    have ih := drop_offs l j e r (by simpa using h)
    have : offs (x :: l) ++ r = W4 x.2.toNat ++ (offs l ++ r) := by simp [offs]
    rw [this]
    have e1 : 4 * (j + 1) = 4 + 4 * j := by omega
    rw [e1, ← List.drop_drop, List.drop_left' (W4_len _), ih]
    simp
theorem encB_parts {l : List Ent} (hl : l.length < 4294967296) (x : List UInt8) : num (encB l ++ x) = l.length ∧ (encB l ++ x).drop 4 = offs l ++ (nams l ++ x) ∧ ((encB l ++ x).drop 4).drop (4 * l.length) = nams l ++ x := by
  have e : encB l ++ x = W4 l.length ++ (offs l ++ (nams l ++ x)) := by simp [encB]
  rw [e]
  refine ⟨num_W4 hl _, List.drop_left' (W4_len _), ?_⟩
  rw [List.drop_left' (W4_len _), List.drop_left' (offs_len l)]
theorem encB_len (l : List Ent) : (encB l).length = 4 + 4 * l.length + (nams l).length := by
  simp [encB, W4_len, offs_len]; omega
theorem dec_encB {l : List Ent} (hl : l.length < 4294967296) (hf : l.all fits = true) (x : List UInt8) : dec (encB l ++ x) = if x = [] then some l else none := by
  obtain ⟨h1, h2, h3⟩ := encB_parts hl x
  unfold dec
  have hlen := encB_len l
  rw [h1, h3, h2, if_neg (by simp; omega), if_neg (by simp; omega)]
  refine decL_names _ l 0 x hf fun j e he => ?_
  rw [Nat.zero_add, drop_offs l j e _ he]
  have hfe := fits_iff.1 (List.all_eq_true.1 hf e (List.mem_of_getElem? he))
  rw [num_W4 (by omega)]
  omega
theorem dec_cut {l : List Ent} (hl : l.length < 4294967296) (hf : l.all fits = true) : dec (encB l).dropLast = none := by
  unfold dec
  have hlen := encB_len l
  cases l with
  | nil => simp [encB, W4, offs, nams]
  | cons e l =>
    have hne : nams (e :: l) ≠ [] := by simp [nams]
    have hpos : 0 < (nams (e :: l)).length := List.length_pos_iff.2 hne
    have e0 : (encB (e :: l)).dropLast = W4 (e :: l).length ++ (offs (e :: l) ++ (nams (e :: l)).dropLast) := by
      have : encB (e :: l) = (W4 (e :: l).length ++ offs (e :: l)) ++ nams (e :: l) := rfl
      rw [this, List.dropLast_append_of_ne_nil hne]
      simp
    rw [if_neg (by simp; omega)]
    split
    · rfl
    · rw [e0, num_W4 hl, List.drop_left' (W4_len _), List.drop_left' (offs_len _)]
      exact decL_cut _ _ 0 (by simp) hf
theorem take_offs (t : List UInt8) : ∀ (q : List Ent) (i : Nat), 4 * (i + q.length) ≤ t.length → (∀ j e, q[j]? = some e → e.2 = (num (t.drop (4 * (i + j))) : Int)) → offs q = (t.drop (4 * i)).take (4 * q.length)
  | [], i, _, _ => by simp [offs]
  | e :: q, i, hl, ho => by
    have ih := take_offs t q (i + 1) (by simp at hl; omega) (fun j e' he => by
      rw [ho (j + 1) e' (by simpa using he)]; congr 3; omega)
    have e0 := ho 0 e (by simp)
    simp only [Nat.add_zero] at e0
    have : offs (e :: q) = W4 e.2.toNat ++ offs q := by simp [offs]
    rw [this, ih, e0, Int.toNat_natCast, W4_num (by simp at hl ⊢; omega)]
    have e1 : 4 * (e :: q).length = 4 + 4 * q.length := by simp; omega
    have e2 : 4 * (i + 1) = 4 * i + 4 := by omega
    rw [e1, e2, ← List.drop_drop, List.take_add]
theorem enc_dec {b : List UInt8} {q : List Ent} (h : dec b = some q) : encB q = b ∧ q.all fits = true ∧ 4 * q.length + 4 ≤ b.length := by
  unfold dec at h
  split at h
  · simp at h
  · rename_i h4
    split at h
    · simp at h
    · rename_i hn
      obtain ⟨h1, h2, h3, h5⟩ := decL_some _ _ _ _ _ h
      have hlen : 4 * (0 + q.length) ≤ (b.drop 4).length := by simp; omega
      refine ⟨?_, h3, by simp at hlen; omega⟩
      have ho := take_offs (b.drop 4) q 0 hlen h5
      simp only [Nat.mul_zero, List.drop_zero] at ho
      unfold encB
      rw [← h1, ho, h2, W4_num (by omega)]
      rw [List.append_assoc, List.take_append_drop, List.take_append_drop]
end Go.AL.Ap
