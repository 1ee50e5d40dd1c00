/- Archive maps, in plain Lean. No condition. -/
import Derived.Test.YtfacepcmpijdpaaAnC
import Derived.Lib.Bytealg
import Derived.Sort.Walk0
set_option linter.unusedVariables false
set_option linter.unusedSimpArgs false
namespace Go.AL.Ap
open Go Go.AL
abbrev Ent := Str × Int
abbrev Ent.enc (e : Ent) : List D := [sD e.1, vI e.2]
def fits (e : Ent) : Bool := decide (e.1 ≠ []) && (decide ((0 : UInt8) ∉ e.1) && (decide (0 ≤ e.2) && decide (e.2 ≤ 4294967295)))
theorem fits_iff {e : Ent} : fits e = true ↔ e.1 ≠ [] ∧ (0 : UInt8) ∉ e.1 ∧ 0 ≤ e.2 ∧ e.2 ≤ 4294967295 := by simp [fits]
def W4 (n : Nat) : List UInt8 := [UInt8.ofNat (n / 16777216), UInt8.ofNat (n / 65536), UInt8.ofNat (n / 256), UInt8.ofNat n]
def num (b : List UInt8) : Nat := (((b.getD 0 0).toNat * 256 + (b.getD 1 0).toNat) * 256 + (b.getD 2 0).toNat) * 256 + (b.getD 3 0).toNat
theorem num_W4 {n : Nat} (h : n < 4294967296) (r : List UInt8) : num (W4 n ++ r) = n := by
  simp [num, W4]
  omega
theorem num_lt (b : List UInt8) : num b < 4294967296 := by
  unfold num
  have h0 := (b.getD 0 0).toNat_lt
  have h1 := (b.getD 1 0).toNat_lt
  have h2 := (b.getD 2 0).toNat_lt
  have h3 := (b.getD 3 0).toNat_lt
  omega
theorem W4_num : ∀ {b : List UInt8}, 4 ≤ b.length → W4 (num b) = b.take 4
  | a :: b :: c :: d :: r, _ => by
    have h0 := a.toNat_lt
    have h1 := b.toNat_lt
    have h2 := c.toNat_lt
    have h3 := d.toNat_lt
    simp only [W4, num, List.getD_cons_zero, List.getD_cons_succ, List.take_succ_cons, List.take_zero, List.cons.injEq, and_true]
    refine ⟨?_, ?_, ?_, ?_⟩ <;> (apply UInt8.toNat_inj.1; simp only [UInt8.toNat_ofNat']; omega)
theorem W4_len (n : Nat) : (W4 n).length = 4 := rfl
def offs (l : List Ent) : List UInt8 := l.flatMap fun e => W4 e.2.toNat
def nams (l : List Ent) : List UInt8 := l.flatMap fun e => e.1 ++ [0]
def encB (l : List Ent) : List UInt8 := W4 l.length ++ offs l ++ nams l
theorem offs_len : ∀ l : List Ent, (offs l).length = 4 * l.length
  | [] => rfl
  | e :: l => by
    have ih := offs_len l
    simp only [offs, List.flatMap_cons, List.length_append, W4_len, List.length_cons] at ih ⊢
    omega

/-! ### names -/
def isz (x : UInt8) : Bool := x != 0
/-- the next name and what follows it -/
def next (r : List UInt8) : Option (Str × List UInt8) :=
  if r.takeWhile isz = [] ∨ r.dropWhile isz = [] then none else some (r.takeWhile isz, (r.dropWhile isz).tail)
theorem isz_of {s : Str} (h : (0 : UInt8) ∉ s) : ∀ x ∈ s, isz x = true := fun x hx => by
  simp only [isz, bne_iff_ne]; intro e; subst e; exact h hx
theorem tw_app {s : Str} (h : ∀ x ∈ s, isz x = true) (r : List UInt8) : (s ++ r).takeWhile isz = s ++ r.takeWhile isz := by
  rw [List.takeWhile_append_of_pos h]
theorem dw_app {s : Str} (h : ∀ x ∈ s, isz x = true) (r : List UInt8) : (s ++ r).dropWhile isz = r.dropWhile isz := by
  rw [List.dropWhile_append_of_pos h]
theorem next_name {s : Str} (h1 : s ≠ []) (h2 : (0 : UInt8) ∉ s) (r : List UInt8) : next (s ++ 0 :: r) = some (s, r) := by
  unfold next
  rw [tw_app (isz_of h2), dw_app (isz_of h2)]
  simp [isz, h1]
theorem next_end {s : Str} (h2 : (0 : UInt8) ∉ s) : next s = none := by
  unfold next
  have := dw_app (isz_of h2) []
  simp only [List.append_nil, List.dropWhile_nil] at this
  rw [this]; simp
theorem next_some {r r' : List UInt8} {s : Str} (h : next r = some (s, r')) : r = s ++ 0 :: r' ∧ s ≠ [] ∧ (0 : UInt8) ∉ s := by
  unfold next at h
  split at h
  · simp at h
  · rename_i hn
    simp only [not_or] at hn
    simp only [Option.some.injEq, Prod.mk.injEq] at h
    obtain ⟨e1, e2⟩ := h
    subst e1
    refine ⟨?_, hn.1, fun h => ?_⟩
    · have e := (List.takeWhile_append_dropWhile (p := isz) (l := r)).symm
      cases hd : r.dropWhile isz with
      | nil => exact absurd hd hn.2
      | cons x t =>
        rw [hd] at e e2
        have hx : x = 0 := by
          have := List.head?_dropWhile_not isz r
          rw [hd] at this
          simpa [isz] using this
        subst hx
        simp only [List.tail_cons] at e2
        subst e2
        exact e
    · have := List.all_takeWhile (p := isz) (l := r)
      have := List.all_eq_true.1 this 0 h
      simp [isz] at this
theorem ib_spec : ∀ r : List UInt8, Lib.indexByte r 0 = if r.dropWhile isz = [] then -1 else ((r.takeWhile isz).length : Int)
  | [] => rfl
  | x :: r => by
    have ih := ib_spec r
    simp only [Lib.indexByte]
    by_cases hx : x = 0
    · subst hx; simp [isz]
    · have h1 : isz x = true := by simp [isz, hx]
      have h2 : (x == 0) = false := by simp [hx]
      rw [h2, ih]
      simp only [List.dropWhile_cons, List.takeWhile_cons, h1, if_true, Bool.false_eq_true, if_false]
      split
      · rfl
      · rename_i hne
        have : (((r.takeWhile isz).length : Int) == -1) = false := by simp
        rw [this]; simp
theorem take_tw (r : List UInt8) : r.take (r.takeWhile isz).length = r.takeWhile isz := (List.prefix_iff_eq_take.1 (List.takeWhile_prefix isz)).symm
theorem drop_tw (r : List UInt8) : r.drop ((r.takeWhile isz).length + 1) = (r.dropWhile isz).tail := by
  have e := List.takeWhile_append_dropWhile (p := isz) (l := r)
  have h : ∀ a b : List UInt8, (a ++ b).drop (a.length + 1) = b.tail := fun a b => by
    rw [← List.drop_drop, List.drop_left, List.drop_one]
  have := h (r.takeWhile isz) (r.dropWhile isz)
  rwa [e] at this

/-! ### decoding -/
def decL (t : List UInt8) : Nat → Nat → List UInt8 → Option (List Ent)
  | _, 0, r => if r = [] then some [] else none
  | i, k + 1, r => match next r with
    | none => none
    | some (s, r') => (decL t (i + 1) k r').map fun q => (s, (num (t.drop (4 * i)) : Int)) :: q
def dec (b : List UInt8) : Option (List Ent) :=
  if b.length < 4 then none else if (b.length - 4) / 4 < num b then none else decL (b.drop 4) 0 (num b) ((b.drop 4).drop (4 * num b))

theorem decL_names (t : List UInt8) : ∀ (l : List Ent) (i : Nat) (x : List UInt8), l.all fits = true → (∀ j e, l[j]? = some e → (num (t.drop (4 * (i + j))) : Int) = e.2) →
    decL t i l.length (nams l ++ x) = if x = [] then some l else none
  | [], i, x, _, _ => by
    simp only [List.length_nil, decL, nams, List.flatMap_nil, List.nil_append]
  | e :: l, i, x, hf, ho => by
    simp only [List.all_cons, Bool.and_eq_true] at hf
    obtain ⟨h1, h2, h3, h4⟩ := fits_iff.1 hf.1
    have ih := decL_names t l (i + 1) x hf.2 (fun j e' he => by
      have := ho (j + 1) e' (by simpa using he)
      rw [← this]; congr 3; omega)
    have e0 := ho 0 e (by simp)
    simp only [Nat.add_zero] at e0
    have : nams (e :: l) ++ x = e.1 ++ 0 :: (nams l ++ x) := by simp [nams]
    rw [this]
    simp only [List.length_cons, decL, next_name h1 h2, ih, e0]
    split <;> simp
theorem decL_cut (t : List UInt8) : ∀ (l : List Ent) (i : Nat), l ≠ [] → l.all fits = true → decL t i l.length (nams l).dropLast = none
  | [], i, h, _ => absurd rfl h
  | e :: l, i, _, hf => by
    simp only [List.all_cons, Bool.and_eq_true] at hf
    obtain ⟨h1, h2, h3, h4⟩ := fits_iff.1 hf.1
    cases l with
    | nil =>
      have : (nams [e]).dropLast = e.1 := by simp [nams]
      rw [this]
      simp only [List.length_cons, decL, next_end h2]
    | cons e' l =>
      have ih := decL_cut t (e' :: l) (i + 1) (by simp) hf.2
      have : (nams (e :: e' :: l)).dropLast = e.1 ++ 0 :: (nams (e' :: l)).dropLast := by
        have hne : nams (e' :: l) ≠ [] := by simp [nams]
        have e1 : nams (e :: e' :: l) = (e.1 ++ [0]) ++ nams (e' :: l) := by simp [nams]
        rw [e1, List.dropLast_append_of_ne_nil hne]
        simp
      rw [this]
      simp only [List.length_cons, decL, next_name h1 h2] at ih ⊢
      simp [ih]
theorem decL_some (t : List UInt8) : ∀ (k i : Nat) (r : List UInt8) (q : List Ent), decL t i k r = some q →
    r = nams q ∧ q.length = k ∧ q.all fits = true ∧ ∀ j e, q[j]? = some e → e.2 = (num (t.drop (4 * (i + j))) : Int)
  | 0, i, r, q, h => by
    simp only [decL] at h
    split at h
    · rename_i hr
      simp at h; subst h; subst hr
      exact ⟨rfl, rfl, rfl, fun j e he => by simp at he⟩
    · simp at h
  | k + 1, i, r, q, h => by
    simp only [decL] at h
    split at h
    · simp at h
    · rename_i s r' hn
      simp only [Option.map_eq_some_iff] at h
      obtain ⟨q', hq', rfl⟩ := h
      obtain ⟨h1, h2, h3, h4⟩ := decL_some t k (i + 1) r' q' hq'
      obtain ⟨n1, n2, n3⟩ := next_some hn
      refine ⟨?_, by simp [h2], ?_, fun j e he => ?_⟩
      · rw [n1, h1]; simp [nams]
      · simp only [List.all_cons, h3, Bool.and_true]
        refine fits_iff.2 ⟨n2, n3, by simp, ?_⟩
        have := num_lt (t.drop (4 * i))
        simp; omega
      · cases j with
        | zero => simp at he; subst he; simp
        | succ j =>
          rw [h4 j e (by simpa using he)]
          congr 3; omega

theorem drop_offs : ∀ (l : List Ent) (j : Nat) (e : Ent) (r : List UInt8), l[j]? = some e → (offs l ++ r).drop (4 * j) = W4 e.2.toNat ++ (offs (l.drop (j + 1)) ++ r)
  | [], j, e, r, h => by simp at h
  | x :: l, 0, e, r, h => by simp at h; subst h; simp [offs]
  | x :: l, j + 1, e, r, h => by
    have ih := drop_offs l j e r (by simpa using h)
    have : offs (x :: l) ++ r = W4 x.2.toNat ++ (offs l ++ r) := by simp [offs]
    rw [this]
    have e1 : 4 * (j + 1) = 4 + 4 * j := by omega
    rw [e1, ← List.drop_drop, List.drop_left' (W4_len _), ih]
    simp
theorem encB_parts {l : List Ent} (hl : l.length < 4294967296) (x : List UInt8) : num (encB l ++ x) = l.length ∧ (encB l ++ x).drop 4 = offs l ++ (nams l ++ x) ∧ ((encB l ++ x).drop 4).drop (4 * l.length) = nams l ++ x := by
  have e : encB l ++ x = W4 l.length ++ (offs l ++ (nams l ++ x)) := by simp [encB]
  rw [e]
  refine ⟨num_W4 hl _, List.drop_left' (W4_len _), ?_⟩
  rw [List.drop_left' (W4_len _), List.drop_left' (offs_len l)]
theorem encB_len (l : List Ent) : (encB l).length = 4 + 4 * l.length + (nams l).length := by
  simp [encB, W4_len, offs_len]; omega
theorem dec_encB {l : List Ent} (hl : l.length < 4294967296) (hf : l.all fits = true) (x : List UInt8) : dec (encB l ++ x) = if x = [] then some l else none := by
  obtain ⟨h1, h2, h3⟩ := encB_parts hl x
  unfold dec
  have hlen := encB_len l
  rw [h1, h3, h2, if_neg (by simp; omega), if_neg (by simp; omega)]
  refine decL_names _ l 0 x hf fun j e he => ?_
  rw [Nat.zero_add, drop_offs l j e _ he]
  have hfe := fits_iff.1 (List.all_eq_true.1 hf e (List.mem_of_getElem? he))
  rw [num_W4 (by omega)]
  omega
theorem dec_cut {l : List Ent} (hl : l.length < 4294967296) (hf : l.all fits = true) : dec (encB l).dropLast = none := by
  unfold dec
  have hlen := encB_len l
  cases l with
  | nil => simp [encB, W4, offs, nams]
  | cons e l =>
    have hne : nams (e :: l) ≠ [] := by simp [nams]
    have hpos : 0 < (nams (e :: l)).length := List.length_pos_iff.2 hne
    have e0 : (encB (e :: l)).dropLast = W4 (e :: l).length ++ (offs (e :: l) ++ (nams (e :: l)).dropLast) := by
      have : encB (e :: l) = (W4 (e :: l).length ++ offs (e :: l)) ++ nams (e :: l) := rfl
      rw [this, List.dropLast_append_of_ne_nil hne]
      simp
    rw [if_neg (by simp; omega)]
    split
    · rfl
    · rw [e0, num_W4 hl, List.drop_left' (W4_len _), List.drop_left' (offs_len _)]
      exact decL_cut _ _ 0 (by simp) hf
theorem take_offs (t : List UInt8) : ∀ (q : List Ent) (i : Nat), 4 * (i + q.length) ≤ t.length → (∀ j e, q[j]? = some e → e.2 = (num (t.drop (4 * (i + j))) : Int)) → offs q = (t.drop (4 * i)).take (4 * q.length)
  | [], i, _, _ => by simp [offs]
  | e :: q, i, hl, ho => by
    have ih := take_offs t q (i + 1) (by simp at hl; omega) (fun j e' he => by
      rw [ho (j + 1) e' (by simpa using he)]; congr 3; omega)
    have e0 := ho 0 e (by simp)
    simp only [Nat.add_zero] at e0
    have : offs (e :: q) = W4 e.2.toNat ++ offs q := by simp [offs]
    rw [this, ih, e0, Int.toNat_natCast, W4_num (by simp at hl ⊢; omega)]
    have e1 : 4 * (e :: q).length = 4 + 4 * q.length := by simp; omega
    have e2 : 4 * (i + 1) = 4 * i + 4 := by omega
    rw [e1, e2, ← List.drop_drop, List.take_add]
theorem enc_dec {b : List UInt8} {q : List Ent} (h : dec b = some q) : encB q = b ∧ q.all fits = true ∧ 4 * q.length + 4 ≤ b.length := by
  unfold dec at h
  split at h
  · simp at h
  · rename_i h4
    split at h
    · simp at h
    · rename_i hn
      obtain ⟨h1, h2, h3, h5⟩ := decL_some _ _ _ _ _ h
      have hlen : 4 * (0 + q.length) ≤ (b.drop 4).length := by simp; omega
      refine ⟨?_, h3, by simp at hlen; omega⟩
      have ho := take_offs (b.drop 4) q 0 hlen h5
      simp only [Nat.mul_zero, List.drop_zero] at ho
      unfold encB
      rw [← h1, ho, h2, W4_num (by omega)]
      rw [List.append_assoc, List.take_append_drop, List.take_append_drop]
end Go.AL.Ap

/- Objects and their symbols, in plain Lean. No condition. -/
set_option linter.unusedVariables false
set_option linter.unusedSimpArgs false
namespace Go.AL.Ob
open Go Go.AL Go.AL.Ap
structure Sym where
  name : Str
  bind : Int
  size : Int
  align : Int
deriving DecidableEq
abbrev Sym.enc (s : Sym) : List D := [sD s.name, vI s.bind, vI s.size, vI s.align]
structure Obj where
  syms : List Sym
  body : List UInt8
deriving DecidableEq
def pows : List Int := [1, 2, 4, 8, 16, 32, 64, 128, 256, 512, 1024, 2048, 4096, 8192, 16384, 32768, 65536]
def power (n : Int) : Bool := decide (n ∈ pows)
theorem band {k n : Nat} (h1 : 2 ^ k < n) (h2 : n < 2 ^ (k + 1)) : n &&& (n - 1) ≠ 0 := by
  have t1 : n.testBit k = true := Nat.testBit_of_two_pow_le_and_two_pow_add_one_gt (by omega) (by omega)
  have t2 : (n - 1).testBit k = true := Nat.testBit_of_two_pow_le_and_two_pow_add_one_gt (by omega) (by omega)
  intro e
  have := congrArg (fun x => Nat.testBit x k) e
  simp [t1, t2] at this
theorem power_nat (n : Nat) : power (n : Int) = decide (n = 1 ∨ n = 2 ∨ n = 4 ∨ n = 8 ∨ n = 16 ∨ n = 32 ∨ n = 64 ∨ n = 128 ∨ n = 256 ∨ n = 512 ∨ n = 1024 ∨ n = 2048 ∨ n = 4096 ∨ n = 8192 ∨ n = 16384 ∨ n = 32768 ∨ n = 65536) := by
  unfold power
  congr 1
  simp only [pows, List.mem_cons, List.not_mem_nil, or_false, eq_iff_iff]
  omega
theorem pow_and {n : Nat} (h1 : 1 ≤ n) (h2 : n ≤ 65536) : power (n : Int) = decide ((n &&& (n - 1)) = 0) := by
  rw [power_nat]
  by_cases hp : n = 1 ∨ n = 2 ∨ n = 4 ∨ n = 8 ∨ n = 16 ∨ n = 32 ∨ n = 64 ∨ n = 128 ∨ n = 256 ∨ n = 512 ∨ n = 1024 ∨ n = 2048 ∨ n = 4096 ∨ n = 8192 ∨ n = 16384 ∨ n = 32768 ∨ n = 65536
  · rw [decide_eq_true hp]
    rcases hp with rfl | rfl | rfl | rfl | rfl | rfl | rfl | rfl | rfl | rfl | rfl | rfl | rfl | rfl | rfl | rfl | rfl <;> rfl
  · rw [decide_eq_false hp]
    symm
    rw [decide_eq_false_iff_not]
    simp only [not_or] at hp
    have key : ∃ k, k ≤ 15 ∧ 2 ^ k < n ∧ n < 2 ^ (k + 1) := by
      by_cases c1 : n < 4
      · exact ⟨1, by omega, by omega, by omega⟩
      by_cases c2 : n < 8
      · exact ⟨2, by omega, by omega, by omega⟩
      by_cases c3 : n < 16
      · exact ⟨3, by omega, by omega, by omega⟩
      by_cases c4 : n < 32
      · exact ⟨4, by omega, by omega, by omega⟩
      by_cases c5 : n < 64
      · exact ⟨5, by omega, by omega, by omega⟩
      by_cases c6 : n < 128
      · exact ⟨6, by omega, by omega, by omega⟩
      by_cases c7 : n < 256
      · exact ⟨7, by omega, by omega, by omega⟩
      by_cases c8 : n < 512
      · exact ⟨8, by omega, by omega, by omega⟩
      by_cases c9 : n < 1024
      · exact ⟨9, by omega, by omega, by omega⟩
      by_cases c10 : n < 2048
      · exact ⟨10, by omega, by omega, by omega⟩
      by_cases c11 : n < 4096
      · exact ⟨11, by omega, by omega, by omega⟩
      by_cases c12 : n < 8192
      · exact ⟨12, by omega, by omega, by omega⟩
      by_cases c13 : n < 16384
      · exact ⟨13, by omega, by omega, by omega⟩
      by_cases c14 : n < 32768
      · exact ⟨14, by omega, by omega, by omega⟩
      · exact ⟨15, by omega, by omega, by omega⟩
    obtain ⟨k, _, hk1, hk2⟩ := key
    exact band hk1 hk2
def bindOk (s : Sym) : Bool :=
  if s.bind = 3 then power s.align else if s.bind = 4 ∨ s.bind = 5 then decide (s.size = 0) && decide (s.align = 0) else (decide (s.bind = 1) || decide (s.bind = 2)) && decide (s.align = 0)
def valid (s : Sym) : Bool := decide (1 ≤ s.name.length) && (decide (s.name.length ≤ 255) && (decide ((0 : UInt8) ∉ s.name) && (decide (0 ≤ s.size) && (decide (s.size ≤ 4294967295) && bindOk s))))
theorem valid_iff {s : Sym} : valid s = true ↔ 1 ≤ s.name.length ∧ s.name.length ≤ 255 ∧ (0 : UInt8) ∉ s.name ∧ 0 ≤ s.size ∧ s.size ≤ 4294967295 ∧ bindOk s = true := by simp [valid]
theorem pow_le {n : Int} (h : power n = true) : 0 ≤ n ∧ n ≤ 65536 := by
  have := of_decide_eq_true h
  simp only [pows, List.mem_cons, List.not_mem_nil, or_false] at this
  omega
theorem bind_le {s : Sym} (h : bindOk s = true) : 1 ≤ s.bind ∧ s.bind ≤ 5 ∧ 0 ≤ s.align ∧ s.align ≤ 65536 := by
  unfold bindOk at h
  split at h
  · have := pow_le h; omega
  · split at h
    · simp at h; omega
    · simp at h; omega
def has (l : List Sym) (n : Str) : Bool := l.any fun s => decide (s.name = n)
theorem has_iff {l : List Sym} {n : Str} : has l n = true ↔ ∃ s ∈ l, s.name = n := by simp [has]
/-- valid symbols with names of their own, behind others -/
def okL : List Sym → List Sym → Bool
  | _, [] => true
  | acc, s :: r => valid s && !has acc s.name && okL (acc ++ [s]) r
def validO (l : List Sym) : Bool := okL [] l && decide (l.length ≤ 65536)

def encS (s : Sym) : List UInt8 := [UInt8.ofNat s.bind.toNat] ++ W4 s.size.toNat ++ W4 s.align.toNat ++ [UInt8.ofNat s.name.length] ++ s.name
def encL (l : List Sym) : List UInt8 := l.flatMap encS
def magic : List UInt8 := [79, 66, 74, 49]
def encO (o : Obj) : List UInt8 := magic ++ W4 o.syms.length ++ encL o.syms ++ o.body
theorem encS_len (s : Sym) : (encS s).length = 10 + s.name.length := by simp [encS, W4]; omega

/-- the next symbol and what follows it -/
def nextS (r : List UInt8) : Option (Sym × List UInt8) :=
  if r.length < 10 + (r.getD 9 0).toNat then none
  else some (⟨(r.drop 10).take (r.getD 9 0).toNat, ((r.getD 0 0).toNat : Int), (num (r.drop 1) : Int), (num (r.drop 5) : Int)⟩, r.drop (10 + (r.getD 9 0).toNat))
def decL : Nat → List UInt8 → List Sym → Except Int (List Sym × List UInt8)
  | 0, r, acc => .ok (acc, r)
  | k + 1, r, acc => match nextS r with
    | none => .error 2
    | some (s, r') => if valid s && !has acc s.name then decL k r' (acc ++ [s]) else .error 12
def decO (b : List UInt8) : Except Int (List Sym × List UInt8) :=
  if b.length < 4 then .error 2 else if b.take 4 ≠ magic then .error 1 else if b.length < 8 then .error 2
  else if 65536 < num (b.drop 4) then .error 12 else decL (num (b.drop 4)) (b.drop 8) []

theorem nextS_enc {s : Sym} (h : valid s = true) (x : List UInt8) : nextS (encS s ++ x) = some (s, x) := by
  obtain ⟨h1, h2, h3, h4, h5, h6⟩ := valid_iff.1 h
  obtain ⟨b1, b2, b3, b4⟩ := bind_le h6
  have e9 : (encS s ++ x).getD 9 0 = UInt8.ofNat s.name.length := by simp [encS, W4]
  have e0 : (encS s ++ x).getD 0 0 = UInt8.ofNat s.bind.toNat := by simp [encS, W4]
  have t9 : (UInt8.ofNat s.name.length).toNat = s.name.length := by simp; omega
  have d1 : (encS s ++ x).drop 1 = W4 s.size.toNat ++ (W4 s.align.toNat ++ ([UInt8.ofNat s.name.length] ++ s.name ++ x)) := by simp [encS]
  have d5 : (encS s ++ x).drop 5 = W4 s.align.toNat ++ ([UInt8.ofNat s.name.length] ++ s.name ++ x) := by simp [encS, W4]
  have d10 : (encS s ++ x).drop 10 = s.name ++ x := by simp [encS, W4]
  unfold nextS
  rw [e9, t9, if_neg (by simp [encS_len]), e0, d1, num_W4 (by omega), d5, num_W4 (by omega), d10]
  have dl : (encS s ++ x).drop (10 + s.name.length) = x := by
    rw [← List.drop_drop, d10, List.drop_left]
  rw [dl, List.take_left]
  have eb : (((UInt8.ofNat s.bind.toNat).toNat : Nat) : Int) = s.bind := by simp; omega
  rw [eb]
  have es : ((s.size.toNat : Nat) : Int) = s.size := by omega
  have ea : ((s.align.toNat : Nat) : Int) = s.align := by omega
  rw [es, ea]
theorem nextS_cut {s : Sym} (h : valid s = true) (x : List UInt8) (j : Nat) (hj : j < (encS s).length) : nextS ((encS s ++ x).take j) = none := by
  obtain ⟨h1, h2, h3, h4, h5, h6⟩ := valid_iff.1 h
  have hl := encS_len s
  unfold nextS
  rw [if_pos]
  have hle : ((encS s ++ x).take j).length ≤ j := by simp; omega
  by_cases h10 : j < 10
  · omega
  · have e9 : ((encS s ++ x).take j).getD 9 0 = UInt8.ofNat s.name.length := by
      have : ((encS s ++ x).take j).getD 9 0 = (encS s ++ x).getD 9 0 := by
        simp only [List.getD]
        rw [List.getElem?_take_of_lt (by omega)]
      rw [this]; simp [encS, W4]
    have t9 : (UInt8.ofNat s.name.length).toNat = s.name.length := by simp; omega
    rw [e9, t9]; omega
theorem nextS_some {r r' : List UInt8} {s : Sym} (h : nextS r = some (s, r')) (hv : valid s = true) : r = encS s ++ r' := by
  unfold nextS at h
  split at h
  · simp at h
  · rename_i hl
    simp only [Option.some.injEq, Prod.mk.injEq] at h
    obtain ⟨rfl, rfl⟩ := h
    match r, hl with
    | a :: b1 :: b2 :: b3 :: b4 :: c1 :: c2 :: c3 :: c4 :: l :: t, hl =>
      simp only [List.getD_cons_zero, List.getD_cons_succ, List.drop_succ_cons, List.drop_zero, List.length_cons] at hl ⊢
      have hlen : (t.take l.toNat).length = l.toNat := by simp; omega
      have e1 := W4_num (b := b1 :: b2 :: b3 :: b4 :: c1 :: c2 :: c3 :: c4 :: l :: t) (by simp)
      have e2 := W4_num (b := c1 :: c2 :: c3 :: c4 :: l :: t) (by simp)
      simp only [encS, Int.toNat_natCast, e1, e2, hlen]
      have ha : UInt8.ofNat a.toNat = a := by simp
      have hll : UInt8.ofNat l.toNat = l := by simp
      rw [ha, hll]
      have e3 : (a :: b1 :: b2 :: b3 :: b4 :: c1 :: c2 :: c3 :: c4 :: l :: t).drop (10 + l.toNat) = t.drop l.toNat := by
        rw [← List.drop_drop]; rfl
      rw [e3]
      simp
    | [], hl => simp at hl
    | [_], hl => simp at hl
    | [_, _], hl => simp at hl
    | [_, _, _], hl => simp at hl
    | [_, _, _, _], hl => simp at hl
    | [_, _, _, _, _], hl => simp at hl
    | [_, _, _, _, _, _], hl => simp at hl
    | [_, _, _, _, _, _, _], hl => simp at hl
    | [_, _, _, _, _, _, _, _], hl => simp at hl
    | [_, _, _, _, _, _, _, _, _], hl => simp at hl

theorem decL_enc : ∀ (l acc : List Sym) (x : List UInt8), okL acc l = true → decL l.length (encL l ++ x) acc = .ok (acc ++ l, x)
  | [], acc, x, _ => by simp [decL, encL]
  | s :: l, acc, x, h => by
    simp only [okL, Bool.and_eq_true, Bool.not_eq_true'] at h
    obtain ⟨⟨h1, h2⟩, h3⟩ := h
    have ih := decL_enc l (acc ++ [s]) x h3
    have : encL (s :: l) ++ x = encS s ++ (encL l ++ x) := by simp [encL]
    rw [this]
    simp only [List.length_cons, decL, nextS_enc h1, h1, h2, Bool.not_false, Bool.and_self, if_true, ih]
    simp
theorem decL_cut : ∀ (l acc : List Sym) (x : List UInt8) (j : Nat), okL acc l = true → j < (encL l).length → decL l.length ((encL l ++ x).take j) acc = .error 2
  | [], acc, x, j, _, hj => by simp [encL] at hj
  | s :: l, acc, x, j, h, hj => by
    simp only [okL, Bool.and_eq_true, Bool.not_eq_true'] at h
    obtain ⟨⟨h1, h2⟩, h3⟩ := h
    have e : encL (s :: l) ++ x = encS s ++ (encL l ++ x) := by simp [encL]
    have e2 : (encL (s :: l)).length = (encS s).length + (encL l).length := by simp [encL]
    rw [e]
    by_cases hc : j < (encS s).length
    · simp only [List.length_cons, decL, nextS_cut h1 _ j hc]
    · have ht : (encS s ++ (encL l ++ x)).take j = encS s ++ (encL l ++ x).take (j - (encS s).length) := by
        rw [List.take_append, List.take_of_length_le (by omega)]
      rw [ht]
      simp only [List.length_cons, decL, nextS_enc h1, h1, h2, Bool.not_false, Bool.and_self, if_true]
      exact decL_cut l (acc ++ [s]) x _ h3 (by omega)
theorem decL_some : ∀ (k : Nat) (r : List UInt8) (acc l : List Sym) (x : List UInt8), decL k r acc = .ok (l, x) → ∃ l', l = acc ++ l' ∧ l'.length = k ∧ okL acc l' = true ∧ r = encL l' ++ x
  | 0, r, acc, l, x, h => by
    simp only [decL, Except.ok.injEq, Prod.mk.injEq] at h
    obtain ⟨rfl, rfl⟩ := h
    exact ⟨[], by simp, rfl, rfl, by simp [encL]⟩
  | k + 1, r, acc, l, x, h => by
    simp only [decL] at h
    split at h
    · simp at h
    · rename_i s r' hn
      split at h
      · rename_i hv
        simp only [Bool.and_eq_true, Bool.not_eq_true'] at hv
        obtain ⟨l', h1, h2, h3, h4⟩ := decL_some k r' (acc ++ [s]) l x h
        refine ⟨s :: l', by simp [h1], by simp [h2], by simp [okL, hv.1, hv.2, h3], ?_⟩
        rw [nextS_some hn hv.1, h4]; simp [encL]
      · simp at h
theorem drop4 {a b : List UInt8} (h : a.length = 4) : (a ++ b).drop 4 = b := List.drop_left' h
theorem encO_parts (o : Obj) (hl : o.syms.length ≤ 65536) (b : List UInt8) (hb : b = encO o) : b.take 4 = magic ∧ num (b.drop 4) = o.syms.length ∧ b.drop 8 = encL o.syms ++ o.body ∧ b.length = 8 + (encL o.syms).length + o.body.length := by
  have e : b = magic ++ (W4 o.syms.length ++ (encL o.syms ++ o.body)) := by rw [hb]; simp [encO]
  refine ⟨by rw [e]; rfl, ?_, ?_, by rw [e]; simp [magic, W4]; omega⟩
  · rw [e, drop4 (show magic.length = 4 from rfl), num_W4 (by omega)]
  · have : b.drop 8 = (b.drop 4).drop 4 := by rw [List.drop_drop]
    rw [this, e, drop4 (show magic.length = 4 from rfl), drop4 (W4_len _)]
theorem decO_enc {o : Obj} (h : validO o.syms = true) : decO (encO o) = .ok (o.syms, o.body) := by
  simp only [validO, Bool.and_eq_true, decide_eq_true_eq] at h
  obtain ⟨p1, p2, p3, p4⟩ := encO_parts o h.2 _ rfl
  unfold decO
  rw [if_neg (by omega), if_neg (by simp [p1]), if_neg (by omega), p2, if_neg (by omega), p3, decL_enc _ _ _ h.1]
  simp
theorem enc_dec {b : List UInt8} {l : List Sym} {x : List UInt8} (h : decO b = .ok (l, x)) : validO l = true ∧ encO ⟨l, x⟩ = b := by
  unfold decO at h
  split at h
  · simp at h
  split at h
  · simp at h
  split at h
  · simp at h
  split at h
  · simp at h
  rename_i h4 hm h8 hn
  obtain ⟨l', e, h2, h3, h5⟩ := decL_some _ _ _ _ _ h
  simp at e
  subst e
  refine ⟨by simp [validO, h3]; omega, ?_⟩
  simp only [ne_eq, Decidable.not_not] at hm
  have e4 := W4_num (b := b.drop 4) (by simp; omega)
  have : encO ⟨l, x⟩ = magic ++ (W4 l.length ++ (encL l ++ x)) := by simp [encO]
  rw [this, ← h5, h2, e4, ← hm]
  have e8 : b.drop 8 = (b.drop 4).drop 4 := by rw [List.drop_drop]
  rw [e8, List.take_append_drop, List.take_append_drop]
theorem decO_cut {o : Obj} (h : validO o.syms = true) (k : Nat) (hk : k ≤ (encO o).length) :
    decO ((encO o).take k) = if k < (encO o).length - o.body.length then .error 2 else .ok (o.syms, o.body.take (k - ((encO o).length - o.body.length))) := by
  have h' := h
  simp only [validO, Bool.and_eq_true, decide_eq_true_eq] at h
  obtain ⟨p1, p2, p3, p4⟩ := encO_parts o h.2 _ rfl
  generalize encO o = b at *
  have hlen : (b.take k).length = k := by simp; omega
  unfold decO
  rw [hlen]
  by_cases h4 : k < 4
  · rw [if_pos h4, if_pos (by omega)]
  · rw [if_neg h4]
    have t4 : (b.take k).take 4 = magic := by rw [List.take_take, Nat.min_eq_left (by omega), p1]
    rw [if_neg (by simp [t4])]
    by_cases h8 : k < 8
    · rw [if_pos h8, if_pos (by omega)]
    · rw [if_neg h8]
      have n4 : num ((b.take k).drop 4) = o.syms.length := by
        rw [← p2]
        have e1 : ((b.take k).drop 4) = (b.drop 4).take (k - 4) := by rw [List.drop_take]
        rw [e1]
        have : ∀ (y : List UInt8) (m : Nat), 4 ≤ m → num (y.take m) = num y := by
          intro y m hm
          unfold num
          simp only [List.getD, List.getElem?_take_of_lt (show 0 < m by omega), List.getElem?_take_of_lt (show 1 < m by omega), List.getElem?_take_of_lt (show 2 < m by omega), List.getElem?_take_of_lt (show 3 < m by omega)]
        exact this _ _ (by omega)
      rw [n4, if_neg (by omega)]
      have d8 : (b.take k).drop 8 = (encL o.syms ++ o.body).take (k - 8) := by rw [List.drop_take, p3]
      rw [d8]
      by_cases hc : k < b.length - o.body.length
      · rw [if_pos hc, decL_cut _ _ _ _ h.1 (by omega)]
      · rw [if_neg hc]
        have ht : (encL o.syms ++ o.body).take (k - 8) = encL o.syms ++ o.body.take (k - (b.length - o.body.length)) := by
          rw [List.take_append, List.take_of_length_le (by omega)]
          congr 2; omega
        rw [ht, decL_enc _ _ _ h.1]
        simp

/-! ### parts of valid objects -/
theorem okL_app : ∀ (a b acc : List Sym), okL acc (a ++ b) = (okL acc a && okL (acc ++ a) b)
  | [], b, acc => by simp [okL]
  | s :: a, b, acc => by
    have ih := okL_app a b (acc ++ [s])
    simp only [List.cons_append, okL, ih]
    simp [Bool.and_assoc]
theorem validO_take {l : List Sym} (h : validO l = true) (k : Nat) : validO (l.take k) = true := by
  simp only [validO, Bool.and_eq_true, decide_eq_true_eq] at h ⊢
  have := okL_app (l.take k) (l.drop k) []
  rw [List.take_append_drop, h.1] at this
  simp only [Bool.true_eq, Bool.and_eq_true] at this
  exact ⟨this.1, by simp; omega⟩
theorem not_twice {l : List Sym} {s : Sym} (h : s ∈ l) : validO (l ++ [s]) = false := by
  have : okL [] (l ++ [s]) = false := by
    rw [okL_app]
    have : has ([] ++ l) s.name = true := has_iff.2 ⟨s, by simpa using h, rfl⟩
    simp only [List.nil_append] at this
    simp [okL, this]
  simp [validO, this]
theorem okL_has : ∀ (l acc : List Sym), okL acc l = true → ∀ s ∈ l, has acc s.name = false
  | [], acc, _, s, hs => by simp at hs
  | x :: l, acc, h, s, hs => by
    simp only [okL, Bool.and_eq_true, Bool.not_eq_true'] at h
    rcases List.mem_cons.1 hs with rfl | hs
    · exact h.1.2
    · have := okL_has l (acc ++ [x]) h.2 s hs
      rw [Bool.eq_false_iff] at this ⊢
      intro hc
      obtain ⟨y, hy, e⟩ := has_iff.1 hc
      exact this (has_iff.2 ⟨y, by simp [hy], e⟩)
/-- the first of this name -/
def find (l : List Sym) (n : Str) : Option Sym := l.find? fun s => decide (s.name = n)
theorem find_at {l : List Sym} (h : validO l = true) {k : Nat} {s : Sym} (hk : l[k]? = some s) : find l s.name = some s := by
  simp only [validO, Bool.and_eq_true, decide_eq_true_eq] at h
  have hlt : k < l.length := (List.getElem?_eq_some_iff.1 hk).1
  have hd : l = l.take k ++ s :: l.drop (k + 1) := by
    have := List.drop_eq_getElem_cons hlt
    rw [List.getElem?_eq_getElem hlt] at hk
    injection hk with hk
    rw [hk] at this
    rw [← this, List.take_append_drop]
  have h1 := okL_app (l.take k) (s :: l.drop (k + 1)) []
  rw [← hd, h.1] at h1
  simp only [Bool.true_eq, Bool.and_eq_true] at h1
  have h2 := okL_has _ _ h1.2 s (by simp)
  simp only [List.nil_append] at h2
  unfold find
  rw [hd, List.find?_append]
  have : (l.take k).find? (fun x => decide (x.name = s.name)) = none := by
    rw [List.find?_eq_none]
    intro x hx hc
    rw [Bool.eq_false_iff] at h2
    exact h2 (has_iff.2 ⟨x, hx, of_decide_eq_true hc⟩)
  rw [this]
  simp
end Go.AL.Ob

/- The heap of names, in plain Lean. No condition. -/
set_option linter.unusedVariables false
set_option linter.unusedSimpArgs false
namespace Go.AL.Wt
open Go Go.AL
def lt (a b : Str) : Bool := Op.bytesLess a b
theorem lt_eq (a b : Str) : lt a b = decide (a < b) := Go.Proofs.bytesLess_eq a b
theorem lt_irr (a : Str) : lt a a = false := by rw [lt_eq]; simp [List.lt_irrefl]
theorem lt_trans {a b c : Str} (h : lt a b = true) (h' : lt b c = true) : lt a c = true := by
  rw [lt_eq] at *
  simp only [decide_eq_true_eq] at *
  exact List.lt_trans h h'
theorem lt_asymm {a b : Str} (h : lt a b = true) : lt b a = false := by
  cases h' : lt b a with
  | false => rfl
  | true => have := lt_trans h h'; rw [lt_irr] at this; exact this.symm
theorem lt_conn {a b : Str} (h : lt a b = false) (h' : lt b a = false) : a = b := by
  rw [lt_eq] at *
  simp only [decide_eq_false_iff_not] at *
  exact List.le_antisymm (List.not_lt.1 h') (List.not_lt.1 h)
/-- not less, carried over -/
theorem nlt_trans {a b c : Str} (h : lt a b = false) (h' : lt b c = false) : lt a c = false := by
  cases hc : lt a c with
  | false => rfl
  | true =>
    cases hb : lt b a with
    | true => have := lt_trans hb hc; rw [this] at h'; exact h'.symm ▸ rfl
    | false =>
      have := lt_conn h hb
      subst this
      rw [hc] at h'; exact h'

abbrev at' (xs : List Str) (i : Nat) : Str := xs.getD i []
def swp (xs : List Str) (i k : Nat) : List Str := (xs.set i (at' xs k)).set k (at' xs i)
theorem swp_len (xs : List Str) (i k : Nat) : (swp xs i k).length = xs.length := by simp [swp]
theorem at_swp {xs : List Str} {i k : Nat} (hi : i < xs.length) (hk : k < xs.length) (q : Nat) : at' (swp xs i k) q = if q = k then at' xs i else if q = i then at' xs k else at' xs q := by
  simp only [at', swp, List.getD, List.getElem?_set, List.length_set]
  by_cases h1 : q = k
  · subst h1; simp [hk]
  · simp only [h1, if_false]
    rw [if_neg (fun e => h1 e.symm)]
    by_cases h2 : q = i
    · subst h2; simp [hi]
    · rw [if_neg (fun e => h2 e.symm)]; simp [h2]

/-! ### the heap -/
def par (i : Nat) : Nat := (i - 1) / 2
theorem par_lt {i : Nat} (h : 0 < i) : par i < i := by unfold par; omega
def Hp (n : Nat) (xs : List Str) : Prop := ∀ i, 0 < i → i < n → lt (at' xs i) (at' xs (par i)) = false

def up (xs : List Str) (j : Nat) : List Str :=
  if h : 0 < j then (if lt (at' xs j) (at' xs (par j)) then up (swp xs (par j) j) (par j) else xs) else xs
termination_by j
decreasing_by exact par_lt h

structure UpI (n : Nat) (xs : List Str) (j : Nat) : Prop where
  len : n ≤ xs.length
  lt : j < n
  out : ∀ i, 0 < i → i < n → i ≠ j → Wt.lt (at' xs i) (at' xs (par i)) = false
  gr : ∀ c, 0 < c → c < n → par c = j → 0 < j → Wt.lt (at' xs c) (at' xs (par j)) = false

theorem UpI.step {n xs j} (I : UpI n xs j) (h0 : 0 < j) (h : Wt.lt (at' xs j) (at' xs (par j)) = true) : UpI n (swp xs (par j) j) (par j) := by
  have hp := par_lt h0
  have hl := I.len
  have hj := I.lt
  have ha := fun q => at_swp (xs := xs) (i := par j) (k := j) (by omega) (by omega) q
  refine ⟨by rw [swp_len]; exact hl, by omega, fun i i0 hi hne => ?_, fun c c0 hc hpc hp0 => ?_⟩
  · rw [ha, ha]
    by_cases e1 : i = j
    · subst e1
      rw [if_pos rfl, if_neg (by omega), if_pos rfl]
      exact lt_asymm h
    · rw [if_neg e1, if_neg hne]
      by_cases e2 : par i = j
      · rw [if_pos e2]; exact I.gr i i0 hi e2 h0
      · rw [if_neg e2]
        by_cases e3 : par i = par j
        · rw [if_pos e3]
          have h1 := I.out i i0 hi e1
          rw [e3] at h1
          exact nlt_trans h1 (lt_asymm h)
        · rw [if_neg e3]; exact I.out i i0 hi e1
  · rw [ha, ha]
    have hpp := par_lt hp0
    rw [if_neg (show par (par j) ≠ j by omega), if_neg (show par (par j) ≠ par j by omega)]
    have h1 := I.out (par j) hp0 (by omega) (by omega)
    by_cases e1 : c = j
    · rw [if_pos e1]; exact h1
    · rw [if_neg e1]
      have := par_lt c0
      rw [if_neg (show c ≠ par j by omega)]
      have h2 := I.out c c0 hc e1
      rw [hpc] at h2
      exact nlt_trans h2 h1

theorem UpI.done {n xs j} (I : UpI n xs j) (h : 0 < j → Wt.lt (at' xs j) (at' xs (par j)) = false) : Hp n xs := by
  intro i i0 hi
  by_cases e : i = j
  · subst e; exact h i0
  · exact I.out i i0 hi e

theorem up_len (xs : List Str) (j : Nat) : (up xs j).length = xs.length := by
  induction j using Nat.strongRecOn generalizing xs with
  | _ j ih =>
    rw [up]
    split
    · rename_i h
      split
      · rw [ih (par j) (par_lt h), swp_len]
      · rfl
    · rfl
theorem up_heap {n : Nat} : ∀ (j : Nat) (xs : List Str), UpI n xs j → Hp n (up xs j) := by
  intro j
  induction j using Nat.strongRecOn with
  | _ j ih =>
    intro xs I
    rw [up]
    split
    · rename_i h0
      split
      · rename_i h; exact ih (par j) (par_lt h0) _ (I.step h0 h)
      · rename_i h; exact I.done (fun _ => by simpa using h)
    · exact I.done (fun h => by omega)

/-- the lesser child -/
def kid (n : Nat) (xs : List Str) (i : Nat) : Nat := if 2 * i + 2 < n && lt (at' xs (2 * i + 2)) (at' xs (2 * i + 1)) then 2 * i + 2 else 2 * i + 1
theorem kid_gt (n xs i) : i < kid n xs i := by unfold kid; split <;> omega
theorem kid_par (n xs i) : par (kid n xs i) = i := by unfold kid par; split <;> omega
theorem kid_lt {n xs i} (h : 2 * i + 1 < n) : kid n xs i < n := by
  unfold kid
  split
  · rename_i h'; simp at h'; omega
  · exact h
def down (n : Nat) (xs : List Str) (i : Nat) : List Str :=
  if h : 2 * i + 1 < n then (if lt (at' xs (kid n xs i)) (at' xs i) then down n (swp xs i (kid n xs i)) (kid n xs i) else xs) else xs
termination_by n - i
decreasing_by
  have := kid_gt n xs i
  omega

structure DnI (n : Nat) (xs : List Str) (i : Nat) : Prop where
  len : n ≤ xs.length
  out : ∀ k, 0 < k → k < n → par k ≠ i → Wt.lt (at' xs k) (at' xs (par k)) = false
  gr : ∀ c, 0 < c → c < n → par c = i → 0 < i → Wt.lt (at' xs c) (at' xs (par i)) = false

theorem kid_least {n : Nat} {xs : List Str} {i c : Nat} (h0 : 0 < c) (hc : c < n) (hp : par c = i) : lt (at' xs c) (at' xs (kid n xs i)) = false := by
  have hcc : c = 2 * i + 1 ∨ c = 2 * i + 2 := by unfold par at hp; omega
  unfold kid
  split
  · rename_i h
    simp only [Bool.and_eq_true, decide_eq_true_eq] at h
    rcases hcc with rfl | rfl
    · exact lt_asymm h.2
    · exact lt_irr _
  · rename_i h
    rcases hcc with rfl | rfl
    · exact lt_irr _
    · simp only [Bool.and_eq_true, decide_eq_true_eq, not_and, Bool.not_eq_true] at h
      exact h hc

theorem DnI.step {n xs i} (I : DnI n xs i) (hk : 2 * i + 1 < n) (h : Wt.lt (at' xs (kid n xs i)) (at' xs i) = true) : DnI n (swp xs i (kid n xs i)) (kid n xs i) := by
  have hg := kid_gt n xs i
  have hp := kid_par n xs i
  have hl := kid_lt (xs := xs) hk
  have hn := I.len
  generalize hj : kid n xs i = j at *
  have ha := fun q => at_swp (xs := xs) (i := i) (k := j) (by omega) (by omega) q
  have hle : ∀ c, 0 < c → c < n → par c = i → Wt.lt (at' xs c) (at' xs j) = false := fun c c0 hc hpc => by rw [← hj]; exact kid_least c0 hc hpc
  refine ⟨by rw [swp_len]; exact hn, fun k k0 hk' hne => ?_, fun c c0 hc hpc hj0 => ?_⟩
  · rw [ha, ha]
    by_cases e1 : k = j
    · subst e1
      rw [if_pos rfl, hp, if_neg (by omega), if_pos rfl]
      exact lt_asymm h
    · rw [if_neg e1, if_neg hne]
      by_cases e2 : par k = i
      · rw [if_pos e2]
        have := par_lt k0
        rw [if_neg (by omega)]
        exact hle k k0 hk' e2
      · rw [if_neg e2]
        by_cases e3 : k = i
        · rw [if_pos e3]
          subst e3
          exact I.gr j (by omega) hl hp k0
        · rw [if_neg e3]; exact I.out k k0 hk' e2
  · have hcj := par_lt c0
    rw [ha, ha, hp]
    rw [if_neg (by omega), if_neg (by omega), if_neg (by omega), if_pos rfl]
    have h2 := I.out c c0 hc (by omega)
    rw [hpc] at h2
    exact h2

theorem DnI.done {n xs i} (I : DnI n xs i) (h : ∀ c, 0 < c → c < n → par c = i → Wt.lt (at' xs c) (at' xs i) = false) : Hp n xs := by
  intro k k0 hk
  by_cases e : par k = i
  · rw [e]; exact h k k0 hk e
  · exact I.out k k0 hk e

theorem down_heap {n : Nat} : ∀ (m i : Nat) (xs : List Str), n - i = m → DnI n xs i → Hp n (down n xs i) := by
  intro m
  induction m using Nat.strongRecOn with
  | _ m ih =>
    intro i xs hm I
    rw [down]
    split
    · rename_i hk
      split
      · rename_i h
        have := kid_gt n xs i
        exact ih (n - kid n xs i) (by omega) _ _ rfl (I.step hk h)
      · rename_i h
        refine I.done fun c c0 hc hp => ?_
        exact nlt_trans (kid_least c0 hc hp) (by simpa using h)
    · rename_i hk
      exact I.done fun c c0 hc hp => by unfold par at hp; omega
theorem down_len {n : Nat} : ∀ (m i : Nat) (xs : List Str), n - i = m → (down n xs i).length = xs.length := by
  intro m
  induction m using Nat.strongRecOn with
  | _ m ih =>
    intro i xs hm
    rw [down]
    split
    · rename_i hk
      split
      · have := kid_gt n xs i
        rw [ih (n - kid n xs i) (by omega) _ _ rfl, swp_len]
      · rfl
    · rfl

/-- the least stands first -/
theorem Hp.least {n : Nat} {xs : List Str} (H : Hp n xs) : ∀ k, k < n → lt (at' xs k) (at' xs 0) = false := by
  intro k
  induction k using Nat.strongRecOn with
  | _ k ih =>
    intro hk
    rcases Nat.eq_zero_or_pos k with h | h
    · subst h; exact lt_irr _
    · exact nlt_trans (H k h hk) (ih (par k) (par_lt h) (by have := par_lt h; omega))
end Go.AL.Wt

/- The heap of names: pushing and taking, in plain Lean. No condition. -/
set_option linter.unusedVariables false
set_option linter.unusedSimpArgs false
namespace Go.AL.Wt
open Go Go.AL
theorem swp_perm {xs : List Str} {i k : Nat} (hi : i < xs.length) (hk : k < xs.length) : List.Perm (swp xs i k) xs := by
  have := List.set_set_perm hi hk
  simpa [swp, at', List.getD, hi, hk] using this
theorem at_take {xs : List Str} {n k : Nat} (hk : k < n) : at' (xs.take n) k = at' xs k := by
  simp [at', List.getD, List.getElem?_take, hk]
theorem take_swp {xs : List Str} {n i k : Nat} (hi : i < n) (hk : k < n) : (swp xs i k).take n = swp (xs.take n) i k := by
  simp only [swp, List.take_set, at_take hi, at_take hk]
theorem take_swp_perm {xs : List Str} {n i k : Nat} (hi : i < n) (hk : k < n) (hn : n ≤ xs.length) : ((swp xs i k).take n).Perm (xs.take n) := by
  rw [take_swp hi hk]
  exact swp_perm (by simp; omega) (by simp; omega)
theorem up_perm {n : Nat} : ∀ (j : Nat) (xs : List Str), j < n → n ≤ xs.length → ((up xs j).take n).Perm (xs.take n) := by
  intro j
  induction j using Nat.strongRecOn with
  | _ j ih =>
    intro xs hj hn
    rw [up]
    split
    · rename_i h0
      split
      · have := par_lt h0
        exact (ih (par j) this _ (by omega) (by rw [swp_len]; exact hn)).trans (take_swp_perm (by omega) hj hn)
      · exact .refl _
    · exact .refl _
theorem down_perm {n : Nat} : ∀ (m i : Nat) (xs : List Str), n - i = m → n ≤ xs.length → ((down n xs i).take n).Perm (xs.take n) := by
  intro m
  induction m using Nat.strongRecOn with
  | _ m ih =>
    intro i xs hm hn
    rw [down]
    split
    · rename_i hk
      split
      · have h1 := kid_gt n xs i
        have h2 := kid_lt (xs := xs) hk
        exact (ih (n - kid n xs i) (by omega) _ _ rfl (by rw [swp_len]; exact hn)).trans (take_swp_perm (by omega) h2 hn)
      · exact .refl _
    · exact .refl _
theorem down_out {n q : Nat} (hq : n ≤ q) : ∀ (m i : Nat) (xs : List Str), n - i = m → n ≤ xs.length → at' (down n xs i) q = at' xs q := by
  intro m
  induction m using Nat.strongRecOn with
  | _ m ih =>
    intro i xs hm hn
    rw [down]
    split
    · rename_i hk
      split
      · have h1 := kid_gt n xs i
        have h2 := kid_lt (xs := xs) hk
        rw [ih (n - kid n xs i) (by omega) _ _ rfl (by rw [swp_len]; exact hn), at_swp (by omega) (by omega), if_neg (by omega), if_neg (by omega)]
      · rfl
    · rfl

/-- the heap holds these names -/
structure Wl (n : Nat) (xs ws : List Str) : Prop where
  len : n ≤ xs.length
  hp : Hp n xs
  perm : (xs.take n).Perm ws
theorem Wl.size {n xs ws} (W : Wl n xs ws) : n = ws.length := by
  have := W.perm.length_eq
  have := W.len
  simp at *; omega
theorem Wl.nil : Wl 0 [] [] := ⟨Nat.le_refl _, fun i _ h => by omega, by simp⟩
def Srt (l : List Str) : Prop := l.Pairwise fun a b => lt a b = true
theorem Srt.nodup {l : List Str} (h : Srt l) : l.Nodup := h.imp fun {a b} h e => by subst e; rw [lt_irr] at h; exact absurd h (by simp)

theorem at_app {xs : List Str} {n i : Nat} {s : Str} (hn : n ≤ xs.length) (hi : i < n) : at' (xs.take n ++ [s]) i = at' xs i := by
  simp [at', List.getD, List.getElem?_append, show i < min n xs.length by omega, show i < xs.length by omega, hi]
theorem Wl.push {n xs ws ws'} (W : Wl n xs ws) (s : Str) (hp : ws'.Perm (s :: ws)) : Wl (n + 1) (up (xs.take n ++ [s]) n) ws' := by
  have hl := W.len
  have hlen : n + 1 ≤ (xs.take n ++ [s]).length := by simp; omega
  refine ⟨by rw [up_len]; exact hlen, up_heap n _ ⟨hlen, by omega, fun i i0 hi hne => ?_, fun c c0 hc hp _ => ?_⟩, ?_⟩
  · have hpar := par_lt i0
    rw [at_app hl (by omega), at_app hl (by omega)]
    exact W.hp i i0 (by omega)
  · have := par_lt c0
    omega
  · refine (up_perm n _ (by omega) hlen).trans ?_
    have h1 : (xs.take n ++ [s]).take (n + 1) = xs.take n ++ [s] := List.take_of_length_le (by simp; omega)
    rw [h1]
    refine List.perm_append_comm.trans ?_
    simp only [List.singleton_append]
    exact (W.perm.cons s).trans hp.symm
def popH (n : Nat) (xs : List Str) : List Str := down n (swp xs 0 n) 0
theorem Wl.pop {n xs ws} (W : Wl (n + 1) xs ws) (hs : Srt ws) : ∃ w r, ws = w :: r ∧ at' (popH n xs) n = w ∧ Wl n (popH n xs) r ∧ Srt r ∧ n + 1 ≤ (popH n xs).length := by
  have hl := W.len
  have hsz := W.size
  cases ws with
  | nil => simp at hsz
  | cons w r =>
    have hw : at' xs 0 = w := by
      have h1 : at' xs 0 ∈ w :: r := W.perm.mem_iff.1 (by
        rw [← at_take (n := n + 1) (by omega : 0 < n + 1)]
        simp only [at', List.getD]
        rw [List.getElem?_eq_getElem (by simp; omega)]
        simp only [Option.getD_some]
        exact List.getElem_mem _)
      have h2 : w ∈ xs.take (n + 1) := W.perm.mem_iff.2 (by simp)
      obtain ⟨k, hk, e⟩ := List.getElem_of_mem h2
      simp at hk
      have h3 : at' xs k = w := by
        rw [← at_take (n := n + 1) (by omega : k < n + 1)]
        simp only [at', List.getD]
        rw [List.getElem?_eq_getElem (by simp; omega), Option.getD_some, e]
      have h4 := W.hp.least k (by omega)
      rw [h3] at h4
      rcases List.mem_cons.1 h1 with h | h
      · exact h
      · have := (List.pairwise_cons.1 hs).1 _ h
        rw [h4] at this; simp at this
    have h0 : n + 1 ≤ (swp xs 0 n).length := by rw [swp_len]; exact hl
    have hn : at' (swp xs 0 n) n = w := by rw [at_swp (by omega) (by omega), if_pos rfl, hw]
    refine ⟨w, r, rfl, ?_, ⟨?_, ?_, ?_⟩, (List.pairwise_cons.1 hs).2, ?_⟩
    · rw [popH, down_out (Nat.le_refl n) _ _ _ rfl (by omega), hn]
    · rw [popH, down_len _ _ _ rfl]; omega
    · refine down_heap _ _ _ rfl ⟨by omega, fun k k0 hk hp => ?_, fun _ _ _ _ h => by omega⟩
      have := par_lt k0
      rw [at_swp (by omega) (by omega), at_swp (by omega) (by omega), if_neg (by omega), if_neg (by omega), if_neg (by omega), if_neg hp]
      exact W.hp k k0 (by omega)
    · refine (down_perm _ _ _ rfl (by omega)).trans ?_
      have h1 := (take_swp_perm (n := n + 1) (i := 0) (k := n) (xs := xs) (by omega) (by omega) hl).trans W.perm
      have h2 : (swp xs 0 n).take (n + 1) = (swp xs 0 n).take n ++ [w] := by
        rw [List.take_add_one, List.getElem?_eq_getElem (by omega)]
        simp only [Option.toList_some]
        rw [← hn]
        simp [at', List.getD, List.getElem?_eq_getElem (show n < (swp xs 0 n).length by omega)]
      rw [h2] at h1
      exact List.Perm.cons_inv (List.perm_append_comm.trans h1)
    · rw [popH, down_len _ _ _ rfl]; exact h0

/-! ### the reference's -/
def put : List Str → Str → List Str
  | [], s => [s]
  | x :: r, s => if lt x s then x :: put r s else if x = s then x :: r else s :: x :: r
theorem put_mem : ∀ (l : List Str) (s y : Str), y ∈ put l s ↔ y = s ∨ y ∈ l
  | [], s, y => by simp [put]
  | x :: r, s, y => by
    simp only [put]
    split
    · simp only [List.mem_cons, put_mem r s y]
      constructor
      · rintro (h | h | h) <;> simp [h]
      · rintro (h | h | h) <;> simp [h]
    · split
      · rename_i h; subst h; simp
      · simp
theorem put_srt : ∀ (l : List Str) (s : Str), Srt l → Srt (put l s)
  | [], s, _ => by simp [put, Srt]
  | x :: r, s, h => by
    obtain ⟨h1, h2⟩ := List.pairwise_cons.1 h
    simp only [put]
    split
    · rename_i hx
      refine List.pairwise_cons.2 ⟨fun y hy => ?_, put_srt r s h2⟩
      rcases (put_mem r s y).1 hy with rfl | hy
      · exact hx
      · exact h1 y hy
    · split
      · exact h
      · rename_i hx hne
        have hsx : lt s x = true := by
          cases hc : lt s x with
          | true => rfl
          | false => exact absurd (lt_conn (by simpa using hx) hc) hne
        refine List.pairwise_cons.2 ⟨fun y hy => ?_, h⟩
        rcases List.mem_cons.1 hy with rfl | hy
        · exact hsx
        · exact lt_trans hsx (h1 y hy)
theorem put_perm : ∀ (l : List Str) (s : Str), s ∉ l → (put l s).Perm (s :: l)
  | [], s, _ => .refl _
  | x :: r, s, h => by
    simp only [List.mem_cons, not_or] at h
    simp only [put]
    split
    · exact ((put_perm r s h.2).cons x).trans (.swap _ _ _)
    · rw [if_neg (fun e => h.1 e.symm)]
end Go.AL.Wt

/- The worklist, in plain Lean. No condition. -/
set_option linter.unusedVariables false
set_option linter.unusedSimpArgs false
namespace Go.AL.Wt
open Go Go.AL
theorem mget_mset (a b : ByteArray) (v : D) : ∀ es : Ents, mget (mset es (.string a) v) (.string b) = if b.data.toList = a.data.toList then some v else mget es (.string b)
  | [] => by
    simp only [mset, mget, keyB]
    by_cases h : b.data.toList = a.data.toList <;> simp [h]
  | e :: r => by
    simp only [mset]
    cases hk : keyB (.string a) e.1 with
    | true =>
      simp only [mget]
      have hkk : keyB (.string b) (.string a) = decide (b.data.toList = a.data.toList) := rfl
      rw [hkk]
      by_cases h : b.data.toList = a.data.toList
      · simp [h]
      · have : keyB (.string b) e.1 = false := by
          unfold keyB at hk ⊢
          split at hk
          · rename_i x y e1 e2
            injection e1 with e1; subst e1
            rw [e2]
            have := of_decide_eq_true hk
            simp only [decide_eq_false_iff_not]
            rw [← this]; exact h
          · simp at hk
        simp [h, this]
    | false =>
      simp only [mget]
      rw [mget_mset a b v r]
      by_cases h : b.data.toList = a.data.toList
      · have : keyB (.string b) e.1 = false := by
          unfold keyB at hk ⊢
          split
          · rename_i x y e1 e2
            injection e1 with e1; subst e1
            rw [e2] at hk
            simp only [decide_eq_false_iff_not] at hk ⊢
            rw [h]; exact hk
          · rfl
        simp [h, this]
      · simp [h]
theorem strKeys_mset (a : ByteArray) (v : D) : ∀ es : Ents, strKeys es → strKeys (mset es (.string a) v)
  | [], _ => fun e he => by simp [mset] at he; subst he; exact ⟨a, rfl⟩
  | x :: r, h => fun e he => by
    simp only [mset] at he
    split at he
    · rcases List.mem_cons.1 he with rfl | he
      · exact ⟨a, rfl⟩
      · exact h e (by simp [he])
    · rcases List.mem_cons.1 he with rfl | he
      · exact h e (by simp)
      · exact strKeys_mset a v r (fun y hy => h y (by simp [hy])) e he
/-- the map holds these names -/
structure Sn (es : Ents) (seen : List Str) : Prop where
  keys : strKeys es
  look : ∀ b : ByteArray, lookD es b (.bool false) false = vB (decide (b.data.toList ∈ seen))
theorem Sn.nil : Sn [] [] := ⟨fun e he => by simp at he, fun b => by simp [lookD, mget, zeroD, constD]⟩
theorem Sn.set {es seen} (h : Sn es seen) (s : Str) : Sn (mset es (.string (sB s)) (vB true)) (seen ++ [s]) := by
  refine ⟨strKeys_mset _ _ _ h.keys, fun b => ?_⟩
  have hl := h.look b
  simp only [lookD, mget_mset] at hl ⊢
  by_cases hb : b.data.toList = (sB s).data.toList
  · have hb' : b.data.toList = s := hb
    rw [if_pos hb]; simp [hb']
  · have hb' : ¬ b.data.toList = s := hb
    rw [if_neg hb, hl]
    simp [hb']
theorem Sn.look' {es seen} (h : Sn es seen) (s : Str) : lookD es (sB s) (.bool false) false = vB (decide (s ∈ seen)) := h.look _

/-- the list of the program -/
structure Hs where
  g : Nat
  n : Nat
  xs : List Str
  es : Ents
def hasB (es : Ents) (s : Str) : Bool := match lookD es (sB s) (.bool false) false with | .v (.bool b) => b | _ => false
def Hs.add1 (h : Hs) (s : Str) : Hs := match hasB h.es s with | true => h | false => ⟨h.g + 1, h.n + 1, up (h.xs.take h.n ++ [s]) h.n, mset h.es (.string (sB s)) (vB true)⟩
def Hs.addL (h : Hs) (l : List Str) : Hs := l.foldl Hs.add1 h
/-- the list of the reference -/
abbrev Rs := List Str × List Str
def Rs.add1 (r : Rs) (s : Str) : Rs := if s ∈ r.2 then r else (put r.1 s, r.2 ++ [s])
def Rs.addL (r : Rs) (l : List Str) : Rs := l.foldl Rs.add1 r
structure Rl (h : Hs) (r : Rs) : Prop where
  wl : Wl h.n h.xs r.1
  srt : Srt r.1
  sn : Sn h.es r.2
  sub : ∀ s ∈ r.1, s ∈ r.2
theorem Rl.has {h r} (R : Rl h r) (s : Str) : hasB h.es s = decide (s ∈ r.2) := by
  simp only [hasB, R.sn.look']
theorem Rl.add1 {h : Hs} {r : Rs} (R : Rl h r) (s : Str) : Rl (h.add1 s) (r.add1 s) := by
  unfold Hs.add1 Rs.add1
  rw [R.has]
  by_cases hs : s ∈ r.2
  · simp only [hs, decide_true, if_true]; exact R
  · simp only [hs, decide_false, if_false]
    refine ⟨R.wl.push s (put_perm _ _ (fun h => hs (R.sub _ h))), put_srt _ _ R.srt, R.sn.set s, fun y hy => ?_⟩
    rcases (put_mem _ _ _).1 hy with rfl | hy
    · simp
    · simp [R.sub _ hy]
theorem Rl.addL : ∀ (l : List Str) {h : Hs} {r : Rs}, Rl h r → Rl (h.addL l) (r.addL l)
  | [], h, r, R => R
  | s :: l, h, r, R => Rl.addL l (R.add1 s)
theorem Hs.add1_n (h : Hs) (s : Str) : h.n ≤ (h.add1 s).n ∧ (h.add1 s).n ≤ h.n + 1 := by
  unfold Hs.add1; split <;> simp
theorem Hs.addL_n : ∀ (l : List Str) (h : Hs), h.n ≤ (h.addL l).n ∧ (h.addL l).n ≤ h.n + l.length
  | [], h => by simp [addL]
  | s :: l, h => by
    have h1 := add1_n h s
    have h2 := addL_n l (h.add1 s)
    simp only [addL, List.foldl_cons, List.length_cons] at *
    omega
theorem Hs.addL_take {h : Hs} {l : List Str} {k : Nat} {s : Str} (hk : l[k]? = some s) : h.addL (l.take (k + 1)) = (h.addL (l.take k)).add1 s := by
  simp [addL, List.take_add_one, hk]
theorem Rs.addL_take {h : Rs} {l : List Str} {k : Nat} {s : Str} (hk : l[k]? = some s) : h.addL (l.take (k + 1)) = (h.addL (l.take k)).add1 s := by
  simp [addL, List.take_add_one, hk]
theorem Rl.zero : Rl ⟨0, 0, [], []⟩ ([], []) := ⟨Wl.nil, .nil, Sn.nil, fun s h => by simp at h⟩
def Hs.pop (h : Hs) : Hs := ⟨h.g, h.n - 1, popH (h.n - 1) h.xs, h.es⟩
def Hs.top (h : Hs) : Str := at' (popH (h.n - 1) h.xs) (h.n - 1)
theorem Rl.pop {h : Hs} {w : Str} {ws seen : List Str} (R : Rl h (w :: ws, seen)) : h.top = w ∧ Rl h.pop (ws, seen) := by
  have hsz := R.wl.size
  have h1 : h.n = (h.n - 1) + 1 := by simp at hsz; omega
  have W := R.wl
  rw [h1] at W
  obtain ⟨w', r', e, h2, h3, h4, h5⟩ := W.pop R.srt
  injection e with e1 e2
  subst e1; subst e2
  exact ⟨h2, ⟨h3, h4, R.sn, fun s hs => R.sub s (by simp [hs])⟩⟩
end Go.AL.Wt
