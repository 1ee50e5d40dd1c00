/- Numbers in fields, in plain Lean. No condition. -/
import Derived.Test.YtjbcifgclobjdaaDoorHAc
import Derived.Lib.Bytealg
import Derived.Lib.IndexAny
set_option linter.unusedVariables false
set_option linter.unusedSimpArgs false
namespace Go.AL.Hd
open Go Go.AL
def dgt (d : Nat) : UInt8 := UInt8.ofNat (48 + d)
theorem dgt_nat {d : Nat} (h : d < 10) : (dgt d).toNat = 48 + d := by
 simp only [dgt, UInt8.toNat_ofNat']; omega
def dig (b n : Nat) : List UInt8 :=
 if h : b < 2 ∨ n < b then [dgt n] else dig b (n / b) ++ [dgt (n % b)]
termination_by n
decreasing_by exact Nat.div_lt_self (by omega) (by omega)
theorem dig_lt {b n : Nat} (h : n < b) : dig b n = [dgt n] := by rw [dig, dif_pos (.inr h)]
theorem dig_ge {b n : Nat} (hb : 2 ≤ b) (h : b ≤ n) : dig b n = dig b (n / b) ++ [dgt (n % b)] := by rw [dig, dif_neg (by omega)]
theorem dig_ne (b n : Nat) : dig b n ≠ [] := by
 rw [dig]; split <;> simp
theorem dig_pos (b n : Nat) : 0 < (dig b n).length := List.length_pos_iff.2 (dig_ne b n)
theorem dig_len {b : Nat} (hb : 2 ≤ b) : ∀ (k n : Nat), (dig b n).length ≤ k + 1 ↔ n < b ^ (k + 1)
 | 0, n => by
  simp only [Nat.zero_add, Nat.pow_one]
  by_cases h : n < b
  ·simp [dig_lt h, h]
  ·rw [dig_ge hb (by omega)]
   have := dig_pos b (n / b)
   simp only [List.length_append, List.length_singleton]; omega
 | k + 1, n => by
  by_cases h : n < b
  ·rw [dig_lt h]
   have : b ^ 1 ≤ b ^ (k + 1 + 1) := Nat.pow_le_pow_right (by omega) (by omega)
   rw [Nat.pow_one] at this
   simp only [List.length_singleton]; omega
  ·rw [dig_ge hb (by omega), List.length_append, List.length_singleton, Nat.add_le_add_iff_right, dig_len hb k, Nat.div_lt_iff_lt_mul (by omega), ← Nat.pow_succ]
def isd (b : Nat) (c : UInt8) : Bool := decide (48 ≤ c.toNat) && decide (c.toNat - 48 < b)
theorem isd_iff {b : Nat} {c : UInt8} : isd b c = true ↔ 48 ≤ c.toNat ∧ c.toNat - 48 < b := by simp [isd]
def val (b : Nat) (l : List UInt8) : Nat := l.foldl (fun n c => n * b + (c.toNat - 48)) 0
theorem val_snoc (b : Nat) (l : List UInt8) (c : UInt8) : val b (l ++ [c]) = val b l * b + (c.toNat - 48) := by simp [val]
theorem dig_isd {b : Nat} (hb : 2 ≤ b) (hb2 : b ≤ 10) (n : Nat) : ∀ c ∈ dig b n, isd b c = true := by
 induction n using Nat.strongRecOn with
 | ind n ih =>
  intro c hc
  by_cases h : n < b
  ·rw [dig_lt h] at hc
   simp at hc; subst hc
   rw [isd_iff, dgt_nat (by omega)]; omega
  ·rw [dig_ge hb (by omega), List.mem_append] at hc
   rcases hc with hc | hc
   ·exact ih _ (Nat.div_lt_self (by omega) (by omega)) c hc
   ·simp at hc; subst hc
    have := Nat.mod_lt n (show 0 < b by omega)
    rw [isd_iff, dgt_nat (by omega)]; omega
theorem val_dig {b : Nat} (hb : 2 ≤ b) (hb2 : b ≤ 10) (n : Nat) : val b (dig b n) = n := by
 induction n using Nat.strongRecOn with
 | ind n ih =>
  by_cases h : n < b
  ·rw [dig_lt h]; simp [val, dgt_nat (show n < 10 by omega)]
  ·have := Nat.mod_lt n (show 0 < b by omega)
   rw [dig_ge hb (by omega), val_snoc, ih _ (Nat.div_lt_self (by omega) (by omega)), dgt_nat (by omega)]
   have := Nat.div_add_mod n b
   rw [Nat.mul_comm] at this; omega
theorem dgt_of {b : Nat} (hb2 : b ≤ 10) {c : UInt8} (h : isd b c = true) : dgt (c.toNat - 48) = c := by
 rw [isd_iff] at h
 apply UInt8.toNat_inj.1
 rw [dgt_nat (by omega)]; omega
theorem val_pos {b : Nat} (hb : 2 ≤ b) : ∀ {c : UInt8} {l : List UInt8}, (∀ x ∈ c :: l, isd b x = true) → c ≠ 48 → 1 ≤ val b (c :: l) := by
 intro c l
 rw [← List.reverse_reverse l]
 generalize l.reverse = m
 induction m with
 | nil =>
  intro h hc
  have := isd_iff.1 (h c (by simp))
  have h48 : c.toNat ≠ 48 := fun e => hc (UInt8.toNat_inj.1 (by simpa using e))
  simp [val]; omega
 | cons x m ih =>
  intro h hc
  rw [List.reverse_cons] at h ⊢
  have h1 := ih (fun y hy => h y (by simp at hy ⊢; rcases hy with rfl | hy; exact .inl rfl; exact .inr (.inl hy))) hc
  rw [show c :: (m.reverse ++ [x]) = (c :: m.reverse) ++ [x] by simp, val_snoc]
  have : 1 * 1 ≤ val b (c :: m.reverse) * b := Nat.mul_le_mul h1 (by omega)
  omega
def lead (l : List UInt8) : Prop := l.length = 1 ∨ l.head? ≠ some 48
instance (l : List UInt8) : Decidable (lead l) := inferInstanceAs (Decidable (_ ∨ _))
theorem dig_val {b : Nat} (hb : 2 ≤ b) (hb2 : b ≤ 10) : ∀ (l : List UInt8), l ≠ [] → (∀ x ∈ l, isd b x = true) → lead l → dig b (val b l) = l := by
 intro l
 rw [← List.reverse_reverse l]
 generalize l.reverse = m
 induction m with
 | nil => intro h; exact absurd rfl h
 | cons x m ih =>
  intro _ h hl
  rw [List.reverse_cons] at h hl ⊢
  have hx := h x (by simp)
  have hx' := isd_iff.1 hx
  rw [val_snoc]
  cases hm : m.reverse with
  | nil =>
   simp only [val, List.foldl_nil, Nat.zero_mul, Nat.zero_add, List.nil_append]
   rw [dig_lt (by omega), dgt_of hb2 hx]
  | cons c r =>
   have hc : c ≠ 48 := by
    rcases hl with hl | hl
    ·rw [hm] at hl; simp at hl
    ·rw [hm] at hl; simpa using hl
   have h2 : ∀ y ∈ m.reverse, isd b y = true := fun y hy => h y (by simp at hy ⊢; exact .inl hy)
   have ih' := ih (by rw [hm]; simp) h2 (.inr (by rw [hm]; simpa using hc))
   have hp : 1 ≤ val b m.reverse := by
    rw [hm]; rw [hm] at h2
    exact val_pos hb h2 hc
   rw [← hm]
   generalize val b m.reverse = v at *
   have hvb : 1 * b ≤ v * b := Nat.mul_le_mul_right b hp
   rw [dig_ge hb (by omega)]
   have e1 : (v * b + (x.toNat - 48)) / b = v := by
    rw [Nat.mul_comm, Nat.mul_add_div (by omega), Nat.div_eq_of_lt hx'.2, Nat.add_zero]
   have e2 : (v * b + (x.toNat - 48)) % b = x.toNat - 48 := by
    rw [Nat.mul_comm, Nat.mul_add_mod, Nat.mod_eq_of_lt hx'.2]
   rw [e1, e2, ih', dgt_of hb2 hx]
theorem dig_head {b : Nat} (hb : 2 ≤ b) (hb2 : b ≤ 10) (n : Nat) (h : b ≤ n) : (dig b n).head? ≠ some 48 := by
 induction n using Nat.strongRecOn with
 | ind n ih =>
  rw [dig_ge hb h]
  by_cases h2 : n / b < b
  ·rw [dig_lt h2]
   have h3 : 1 ≤ n / b := by rw [Nat.le_div_iff_mul_le (by omega)]; omega
   simp only [List.singleton_append, List.head?_cons, ne_eq, Option.some.injEq]
   intro e
   have := congrArg UInt8.toNat e
   rw [dgt_nat (by omega)] at this
   simp at this; omega
  ·have := ih (n / b) (Nat.div_lt_self (by omega) (by omega)) (by omega)
   cases hd : dig b (n / b) with
   | nil => exact absurd hd (dig_ne _ _)
   | cons c r => rw [hd] at this; simpa using this
theorem dig_lead {b : Nat} (hb : 2 ≤ b) (hb2 : b ≤ 10) (n : Nat) : lead (dig b n) := by
 by_cases h : n < b
 ·left; rw [dig_lt h]; rfl
 ·right; exact dig_head hb hb2 n (by omega)
abbrev sp (n : Nat) : List UInt8 := List.replicate n 32
def fmt (b : Nat) (w : Nat) (n : Int) : Option (List UInt8) :=
 if n < 0 ∨ w < (dig b n.toNat).length then none else some (dig b n.toNat ++ sp (w - (dig b n.toNat).length))
theorem fmt_len {b w : Nat} {n : Int} {l : List UInt8} (h : fmt b w n = some l) : l.length = w := by
 unfold fmt at h
 split at h
 ·simp at h
 ·injection h with h; subst h; simp; omega
def pf (b : Nat) (l : List UInt8) : Option Nat :=
 if l.takeWhile (isd b) ≠ [] ∧ (l.dropWhile (isd b)).all (· == 32) = true ∧ lead (l.takeWhile (isd b)) then some (val b (l.takeWhile (isd b))) else none
theorem takeWhile_app {p : UInt8 → Bool} {a r : List UInt8} (ha : ∀ x ∈ a, p x = true) (hr : r = [] ∨ ∃ c s, r = c :: s ∧ p c = false) : (a ++ r).takeWhile p = a ∧ (a ++ r).dropWhile p = r := by
 induction a with
 | nil =>
  rcases hr with rfl | ⟨c, s, rfl, h⟩
  ·simp
  ·simp [List.takeWhile_cons, List.dropWhile_cons, h]
 | cons x a ih =>
  obtain ⟨h1, h2⟩ := ih fun y hy => ha y (by simp [hy])
  have hx := ha x (by simp)
  simp [List.takeWhile_cons, List.dropWhile_cons, hx, h1, h2]
theorem isd_sp {b : Nat} (hb : b ≤ 10) : isd b 32 = false := by
 cases h : isd b 32 with
 | false => rfl
 | true => rw [isd_iff] at h; simp at h
theorem sp_head {b : Nat} (hb : b ≤ 10) (n : Nat) : sp n = [] ∨ ∃ c s, sp n = c :: s ∧ isd b c = false := by
 cases n with
 | zero => exact .inl rfl
 | succ n => exact .inr ⟨32, sp n, rfl, isd_sp hb⟩
theorem all_sp {l : List UInt8} : l.all (· == 32) = true ↔ l = sp l.length := by
 rw [List.all_eq_true]
 constructor
 ·intro h
  exact List.eq_replicate_iff.2 ⟨rfl, fun x hx => by simpa using h x hx⟩
 ·intro h x hx
  rw [h] at hx
  simpa using (List.mem_replicate.1 hx).2
theorem pf_dig {b : Nat} (hb : 2 ≤ b) (hb2 : b ≤ 10) (n k : Nat) : pf b (dig b n ++ sp k) = some n := by
 obtain ⟨h1, h2⟩ := takeWhile_app (dig_isd hb hb2 n) (sp_head hb2 k)
 unfold pf
 rw [h1, h2, if_pos ⟨dig_ne _ _, all_sp.2 (by simp), dig_lead hb hb2 n⟩, val_dig hb hb2]
theorem pf_fmt {b w : Nat} {n : Int} {l : List UInt8} (hb : 2 ≤ b) (hb2 : b ≤ 10) (h : fmt b w n = some l) : pf b l = some n.toNat := by
 unfold fmt at h
 split at h
 ·simp at h
 ·injection h with h; subst h
  exact pf_dig hb hb2 _ _
theorem pf_some {b : Nat} {l : List UInt8} {n : Nat} (hb : 2 ≤ b) (hb2 : b ≤ 10) (h : pf b l = some n) : fmt b l.length n = some l := by
 unfold pf at h
 split at h
 case isFalse => simp at h
 rename_i hc
 obtain ⟨h1, h2, h3⟩ := hc
 injection h with h
 have hd : dig b n = l.takeWhile (isd b) := by
  rw [← h]
  exact dig_val hb hb2 _ h1 (fun x hx => by
   have : x ∈ l.takeWhile (isd b) := hx
   exact (List.all_eq_true.1 (List.all_takeWhile (p := isd b) (l := l))) x hx) h3
 have hl : l = l.takeWhile (isd b) ++ l.dropWhile (isd b) := (List.takeWhile_append_dropWhile).symm
 have hll : l.length = (l.takeWhile (isd b)).length + (l.dropWhile (isd b)).length := by rw [← List.length_append, ← hl]
 rw [all_sp] at h2
 unfold fmt
 rw [if_neg (by simp only [Int.toNat_natCast, hd]; omega)]
 simp only [Int.toNat_natCast, hd]
 congr 1
 rw [show l.length - (l.takeWhile (isd b)).length = (l.dropWhile (isd b)).length by omega, ← h2]
 exact hl.symm
def bad2 (c : UInt8) : Bool := decide (c = 10) || decide (c = 0)
def bad3 (c : UInt8) : Bool := decide (c = 47) || (decide (c = 10) || decide (c = 0))
def fitN (l : Str) : Bool := decide (1 ≤ l.length ∧ l.length ≤ 16 ∧ l.getLast? ≠ some 32) && !l.any bad2
def validN (l : Str) : Bool := decide (1 ≤ l.length ∧ l.length ≤ 255) && !l.any bad3
theorem step_any {p : UInt8 → Bool} {l : List UInt8} {k : Nat} {x : UInt8} (hx : l[k]? = some x) (hp : p x = false) (h : (l.take k).any p = false) : (l.take (k + 1)).any p = false := by
 rw [List.take_add_one, hx]; simp [List.any_append, h, hp]
theorem any_at {p : UInt8 → Bool} {l : List UInt8} {k : Nat} {x : UInt8} (hx : l[k]? = some x) (hp : p x = true) : l.any p = true := List.any_eq_true.2 ⟨x, List.mem_of_getElem? hx, hp⟩
theorem byte_eq {x c : UInt8} (h : ((x.toNat : Int) == (c.toNat : Int)) = true) : x = c := UInt8.toNat_inj.1 (by have := eq_of_beq h; omega)
theorem byte_ne {x c : UInt8} (h : ((x.toNat : Int) == (c.toNat : Int)) = false) : ¬ x = c := fun e => by subst e; simp at h
structure Hdr where
 name : Str
 date : Int
 uid : Int
 gid : Int
 mode : Int
 size : Int
deriving DecidableEq
abbrev Hdr.enc (h : Hdr) : List D := [sD h.name, vI h.date, vI h.uid, vI h.gid, vI h.mode, vI h.size]
def fmtR (b w : Nat) (n : Int) : List UInt8 × Int := match fmt b w n with | some l => (l, 0) | none => ([], 9)
def fieldR (n : Int) (b w : Nat) (bl : Bool) : List UInt8 × Bool := if bl = true then (sp w, decide (n = 0)) else ((fmtR b w n).1, decide ((fmtR b w n).2 = 0))
def encR (h : Hdr) : List UInt8 × Int :=
 if fitN h.name = true then
  if ((fieldR h.date 10 12 (decide (h.name = [47, 47]))).2 && ((fieldR h.uid 10 6 (decide (h.name = [47, 47]))).2 && ((fieldR h.gid 10 6 (decide (h.name = [47, 47]))).2 && ((fieldR h.mode 8 8 (decide (h.name = [47, 47]))).2 && (fieldR h.size 10 10 false).2)))) = true then
   (h.name ++ sp (16 - h.name.length) ++ (fieldR h.date 10 12 (decide (h.name = [47, 47]))).1 ++ (fieldR h.uid 10 6 (decide (h.name = [47, 47]))).1 ++ (fieldR h.gid 10 6 (decide (h.name = [47, 47]))).1 ++ (fieldR h.mode 8 8 (decide (h.name = [47, 47]))).1 ++ (fieldR h.size 10 10 false).1 ++ [96, 10], 0)
  else ([], 9)
 else ([], 6)
theorem fieldR_len (n : Int) (b w : Nat) (bl : Bool) : (fieldR n b w bl).1.length ≤ w := by
 unfold fieldR fmtR
 split
 ·simp
 ·cases h : fmt b w n with
  | none => simp
  | some l => simpa using Nat.le_of_eq (fmt_len h)
end Go.AL.Hd

namespace Go.AL.Ap
open Go Go.AL
abbrev Ent := Str × Int
abbrev Ent.enc (e : Ent) : List D := [sD e.1, vI e.2]
def fits (e : Ent) : Bool := decide (e.1 ≠ []) && (decide ((0 : UInt8) ∉ e.1) && (decide (0 ≤ e.2) && decide (e.2 ≤ 4294967295)))
theorem fits_iff {e : Ent} : fits e = true ↔ e.1 ≠ [] ∧ (0 : UInt8) ∉ e.1 ∧ 0 ≤ e.2 ∧ e.2 ≤ 4294967295 := by simp [fits]
def W4 (n : Nat) : List UInt8 := [UInt8.ofNat (n / 16777216), UInt8.ofNat (n / 65536), UInt8.ofNat (n / 256), UInt8.ofNat n]
def num (b : List UInt8) : Nat := (((b.getD 0 0).toNat * 256 + (b.getD 1 0).toNat) * 256 + (b.getD 2 0).toNat) * 256 + (b.getD 3 0).toNat
theorem num_W4 {n : Nat} (h : n < 4294967296) (r : List UInt8) : num (W4 n ++ r) = n := by
 simp [num, W4]
 omega
theorem num_lt (b : List UInt8) : num b < 4294967296 := by
 unfold num
 have h0 := (b.getD 0 0).toNat_lt
 have h1 := (b.getD 1 0).toNat_lt
 have h2 := (b.getD 2 0).toNat_lt
 have h3 := (b.getD 3 0).toNat_lt
 omega
theorem W4_num : ∀ {b : List UInt8}, 4 ≤ b.length → W4 (num b) = b.take 4
 | a :: b :: c :: d :: r, _ => by
  have h0 := a.toNat_lt
  have h1 := b.toNat_lt
  have h2 := c.toNat_lt
  have h3 := d.toNat_lt
  simp only [W4, num, List.getD_cons_zero, List.getD_cons_succ, List.take_succ_cons, List.take_zero, List.cons.injEq, and_true]
  refine ⟨?_, ?_, ?_, ?_⟩ <;> (apply UInt8.toNat_inj.1; simp only [UInt8.toNat_ofNat']; omega)
theorem W4_len (n : Nat) : (W4 n).length = 4 := rfl
def offs (l : List Ent) : List UInt8 := l.flatMap fun e => W4 e.2.toNat
def nams (l : List Ent) : List UInt8 := l.flatMap fun e => e.1 ++ [0]
def encB (l : List Ent) : List UInt8 := W4 l.length ++ offs l ++ nams l
theorem offs_len : ∀ l : List Ent, (offs l).length = 4 * l.length
 | [] => rfl
 | e :: l => by
  have ih := offs_len l
  simp only [offs, List.flatMap_cons, List.length_append, W4_len, List.length_cons] at ih ⊢
  omega

def isz (x : UInt8) : Bool := x != 0
def next (r : List UInt8) : Option (Str × List UInt8) :=
 if r.takeWhile isz = [] ∨ r.dropWhile isz = [] then none else some (r.takeWhile isz, (r.dropWhile isz).tail)
theorem isz_of {s : Str} (h : (0 : UInt8) ∉ s) : ∀ x ∈ s, isz x = true := fun x hx => by
 simp only [isz, bne_iff_ne]; intro e; subst e; exact h hx
theorem tw_app {s : Str} (h : ∀ x ∈ s, isz x = true) (r : List UInt8) : (s ++ r).takeWhile isz = s ++ r.takeWhile isz := by
 rw [List.takeWhile_append_of_pos h]
theorem dw_app {s : Str} (h : ∀ x ∈ s, isz x = true) (r : List UInt8) : (s ++ r).dropWhile isz = r.dropWhile isz := by
 rw [List.dropWhile_append_of_pos h]
theorem next_name {s : Str} (h1 : s ≠ []) (h2 : (0 : UInt8) ∉ s) (r : List UInt8) : next (s ++ 0 :: r) = some (s, r) := by
 unfold next
 rw [tw_app (isz_of h2), dw_app (isz_of h2)]
 simp [isz, h1]
theorem next_end {s : Str} (h2 : (0 : UInt8) ∉ s) : next s = none := by
 unfold next
 have := dw_app (isz_of h2) []
 simp only [List.append_nil, List.dropWhile_nil] at this
 rw [this]; simp
theorem next_some {r r' : List UInt8} {s : Str} (h : next r = some (s, r')) : r = s ++ 0 :: r' ∧ s ≠ [] ∧ (0 : UInt8) ∉ s := by
 unfold next at h
 split at h
 ·simp at h
 ·rename_i hn
  simp only [not_or] at hn
  simp only [Option.some.injEq, Prod.mk.injEq] at h
  obtain ⟨e1, e2⟩ := h
  subst e1
  refine ⟨?_, hn.1, fun h => ?_⟩
  ·have e := (List.takeWhile_append_dropWhile (p := isz) (l := r)).symm
   cases hd : r.dropWhile isz with
   | nil => exact absurd hd hn.2
   | cons x t =>
    rw [hd] at e e2
    have hx : x = 0 := by
     have := List.head?_dropWhile_not isz r
     rw [hd] at this
     simpa [isz] using this
    subst hx
    simp only [List.tail_cons] at e2
    subst e2
    exact e
  ·have := List.all_takeWhile (p := isz) (l := r)
   have := List.all_eq_true.1 this 0 h
   simp [isz] at this
theorem ib_spec : ∀ r : List UInt8, Lib.indexByte r 0 = if r.dropWhile isz = [] then -1 else ((r.takeWhile isz).length : Int)
 | [] => rfl
 | x :: r => by
  have ih := ib_spec r
  simp only [Lib.indexByte]
  by_cases hx : x = 0
  ·subst hx; simp [isz]
  ·have h1 : isz x = true := by simp [isz, hx]
   have h2 : (x == 0) = false := by simp [hx]
   rw [h2, ih]
   simp only [List.dropWhile_cons, List.takeWhile_cons, h1, if_true, Bool.false_eq_true, if_false]
   split
   ·rfl
   ·rename_i hne
    have : (((r.takeWhile isz).length : Int) == -1) = false := by simp
    rw [this]; simp
theorem take_tw (r : List UInt8) : r.take (r.takeWhile isz).length = r.takeWhile isz := (List.prefix_iff_eq_take.1 (List.takeWhile_prefix isz)).symm
theorem drop_tw (r : List UInt8) : r.drop ((r.takeWhile isz).length + 1) = (r.dropWhile isz).tail := by
 have e := List.takeWhile_append_dropWhile (p := isz) (l := r)
 have h : ∀ a b : List UInt8, (a ++ b).drop (a.length + 1) = b.tail := fun a b => by
  rw [← List.drop_drop, List.drop_left, List.drop_one]
 have := h (r.takeWhile isz) (r.dropWhile isz)
 rwa [e] at this

def decL (t : List UInt8) : Nat → Nat → List UInt8 → Option (List Ent)
 | _, 0, r => if r = [] then some [] else none
 | i, k + 1, r => match next r with
  | none => none
  | some (s, r') => (decL t (i + 1) k r').map fun q => (s, (num (t.drop (4 * i)) : Int)) :: q
def dec (b : List UInt8) : Option (List Ent) :=
 if b.length < 4 then none else if (b.length - 4) / 4 < num b then none else decL (b.drop 4) 0 (num b) ((b.drop 4).drop (4 * num b))

theorem decL_names (t : List UInt8) : ∀ (l : List Ent) (i : Nat) (x : List UInt8), l.all fits = true → (∀ j e, l[j]? = some e → (num (t.drop (4 * (i + j))) : Int) = e.2) →
  decL t i l.length (nams l ++ x) = if x = [] then some l else none
 | [], i, x, _, _ => by
  simp only [List.length_nil, decL, nams, List.flatMap_nil, List.nil_append]
 | e :: l, i, x, hf, ho => by
  simp only [List.all_cons, Bool.and_eq_true] at hf
  obtain ⟨h1, h2, h3, h4⟩ := fits_iff.1 hf.1
  have ih := decL_names t l (i + 1) x hf.2 (fun j e' he => by
   have := ho (j + 1) e' (by simpa using he)
   rw [← this]; congr 3; omega)
  have e0 := ho 0 e (by simp)
  simp only [Nat.add_zero] at e0
  have : nams (e :: l) ++ x = e.1 ++ 0 :: (nams l ++ x) := by simp [nams]
  rw [this]
  simp only [List.length_cons, decL, next_name h1 h2, ih, e0]
  split <;> simp
theorem decL_cut (t : List UInt8) : ∀ (l : List Ent) (i : Nat), l ≠ [] → l.all fits = true → decL t i l.length (nams l).dropLast = none
 | [], i, h, _ => absurd rfl h
 | e :: l, i, _, hf => by
  simp only [List.all_cons, Bool.and_eq_true] at hf
  obtain ⟨h1, h2, h3, h4⟩ := fits_iff.1 hf.1
  cases l with
  | nil =>
   have : (nams [e]).dropLast = e.1 := by simp [nams]
   rw [this]
   simp only [List.length_cons, decL, next_end h2]
  | cons e' l =>
   have ih := decL_cut t (e' :: l) (i + 1) (by simp) hf.2
   have : (nams (e :: e' :: l)).dropLast = e.1 ++ 0 :: (nams (e' :: l)).dropLast := by
    have hne : nams (e' :: l) ≠ [] := by simp [nams]
    have e1 : nams (e :: e' :: l) = (e.1 ++ [0]) ++ nams (e' :: l) := by simp [nams]
    rw [e1, List.dropLast_append_of_ne_nil hne]
    simp
   rw [this]
   simp only [List.length_cons, decL, next_name h1 h2] at ih ⊢
   simp [ih]
theorem decL_some (t : List UInt8) : ∀ (k i : Nat) (r : List UInt8) (q : List Ent), decL t i k r = some q →
  r = nams q ∧ q.length = k ∧ q.all fits = true ∧ ∀ j e, q[j]? = some e → e.2 = (num (t.drop (4 * (i + j))) : Int)
 | 0, i, r, q, h => by
  simp only [decL] at h
  split at h
  ·rename_i hr
   simp at h; subst h; subst hr
   exact ⟨rfl, rfl, rfl, fun j e he => by simp at he⟩
  ·simp at h
 | k + 1, i, r, q, h => by
  simp only [decL] at h
  split at h
  ·simp at h
  ·rename_i s r' hn
   simp only [Option.map_eq_some_iff] at h
   obtain ⟨q', hq', rfl⟩ := h
   obtain ⟨h1, h2, h3, h4⟩ := decL_some t k (i + 1) r' q' hq'
   obtain ⟨n1, n2, n3⟩ := next_some hn
   refine ⟨?_, by simp [h2], ?_, fun j e he => ?_⟩
   ·rw [n1, h1]; simp [nams]
   ·simp only [List.all_cons, h3, Bool.and_true]
    refine fits_iff.2 ⟨n2, n3, by simp, ?_⟩
    have := num_lt (t.drop (4 * i))
    simp; omega
   ·cases j with
    | zero => simp at he; subst he; simp
    | succ j =>
     rw [h4 j e (by simpa using he)]
     congr 3; omega

theorem drop_offs : ∀ (l : List Ent) (j : Nat) (e : Ent) (r : List UInt8), l[j]? = some e → (offs l ++ r).drop (4 * j) = W4 e.2.toNat ++ (offs (l.drop (j + 1)) ++ r)
 | [], j, e, r, h => by simp at h
 | x :: l, 0, e, r, h => by simp at h; subst h; simp [offs]
 | x :: l, j + 1, e, r, h => by
  have ih := drop_offs l j e r (by simpa using h)
  have : offs (x :: l) ++ r = W4 x.2.toNat ++ (offs l ++ r) := by simp [offs]
  rw [this]
  have e1 : 4 * (j + 1) = 4 + 4 * j := by omega
  rw [e1, ← List.drop_drop, List.drop_left' (W4_len _), ih]
  simp
theorem encB_parts {l : List Ent} (hl : l.length < 4294967296) (x : List UInt8) : num (encB l ++ x) = l.length ∧ (encB l ++ x).drop 4 = offs l ++ (nams l ++ x) ∧ ((encB l ++ x).drop 4).drop (4 * l.length) = nams l ++ x := by
 have e : encB l ++ x = W4 l.length ++ (offs l ++ (nams l ++ x)) := by simp [encB]
 rw [e]
 refine ⟨num_W4 hl _, List.drop_left' (W4_len _), ?_⟩
 rw [List.drop_left' (W4_len _), List.drop_left' (offs_len l)]
theorem encB_len (l : List Ent) : (encB l).length = 4 + 4 * l.length + (nams l).length := by
 simp [encB, W4_len, offs_len]; omega
theorem dec_encB {l : List Ent} (hl : l.length < 4294967296) (hf : l.all fits = true) (x : List UInt8) : dec (encB l ++ x) = if x = [] then some l else none := by
 obtain ⟨h1, h2, h3⟩ := encB_parts hl x
 unfold dec
 have hlen := encB_len l
 rw [h1, h3, h2, if_neg (by simp; omega), if_neg (by simp; omega)]
 refine decL_names _ l 0 x hf fun j e he => ?_
 rw [Nat.zero_add, drop_offs l j e _ he]
 have hfe := fits_iff.1 (List.all_eq_true.1 hf e (List.mem_of_getElem? he))
 rw [num_W4 (by omega)]
 omega
theorem dec_cut {l : List Ent} (hl : l.length < 4294967296) (hf : l.all fits = true) : dec (encB l).dropLast = none := by
 unfold dec
 have hlen := encB_len l
 cases l with
 | nil => simp [encB, W4, offs, nams]
 | cons e l =>
  have hne : nams (e :: l) ≠ [] := by simp [nams]
  have hpos : 0 < (nams (e :: l)).length := List.length_pos_iff.2 hne
  have e0 : (encB (e :: l)).dropLast = W4 (e :: l).length ++ (offs (e :: l) ++ (nams (e :: l)).dropLast) := by
   have : encB (e :: l) = (W4 (e :: l).length ++ offs (e :: l)) ++ nams (e :: l) := rfl
   rw [this, List.dropLast_append_of_ne_nil hne]
   simp
  rw [if_neg (by simp; omega)]
  split
  ·rfl
  ·rw [e0, num_W4 hl, List.drop_left' (W4_len _), List.drop_left' (offs_len _)]
   exact decL_cut _ _ 0 (by simp) hf
theorem take_offs (t : List UInt8) : ∀ (q : List Ent) (i : Nat), 4 * (i + q.length) ≤ t.length → (∀ j e, q[j]? = some e → e.2 = (num (t.drop (4 * (i + j))) : Int)) → offs q = (t.drop (4 * i)).take (4 * q.length)
 | [], i, _, _ => by simp [offs]
 | e :: q, i, hl, ho => by
  have ih := take_offs t q (i + 1) (by simp at hl; omega) (fun j e' he => by
   rw [ho (j + 1) e' (by simpa using he)]; congr 3; omega)
  have e0 := ho 0 e (by simp)
  simp only [Nat.add_zero] at e0
  have : offs (e :: q) = W4 e.2.toNat ++ offs q := by simp [offs]
  rw [this, ih, e0, Int.toNat_natCast, W4_num (by simp at hl ⊢; omega)]
  have e1 : 4 * (e :: q).length = 4 + 4 * q.length := by simp; omega
  have e2 : 4 * (i + 1) = 4 * i + 4 := by omega
  rw [e1, e2, ← List.drop_drop, List.take_add]
theorem enc_dec {b : List UInt8} {q : List Ent} (h : dec b = some q) : encB q = b ∧ q.all fits = true ∧ 4 * q.length + 4 ≤ b.length := by
 unfold dec at h
 split at h
 ·simp at h
 ·rename_i h4
  split at h
  ·simp at h
  ·rename_i hn
   obtain ⟨h1, h2, h3, h5⟩ := decL_some _ _ _ _ _ h
   have hlen : 4 * (0 + q.length) ≤ (b.drop 4).length := by simp; omega
   refine ⟨?_, h3, by simp at hlen; omega⟩
   have ho := take_offs (b.drop 4) q 0 hlen h5
   simp only [Nat.mul_zero, List.drop_zero] at ho
   unfold encB
   rw [← h1, ho, h2, W4_num (by omega)]
   rw [List.append_assoc, List.take_append_drop, List.take_append_drop]
end Go.AL.Ap

namespace Go.AL.Hd
open Go Go.AL
theorem val_lt {b : Nat} (hb : 2 ≤ b) : ∀ (l : List UInt8), (∀ x ∈ l, isd b x = true) → val b l < b ^ l.length := by
 intro l
 rw [← List.reverse_reverse l]
 generalize l.reverse = m
 induction m with
 | nil => intro _; simp [val]
 | cons x m ih =>
  intro h
  rw [List.reverse_cons] at h ⊢
  have hx := isd_iff.1 (h x (by simp))
  have h1 := ih (fun y hy => h y (by simp at hy ⊢; exact .inl hy))
  rw [val_snoc, List.length_append, List.length_singleton, Nat.pow_succ]
  have : (val b m.reverse + 1) * b ≤ b ^ m.reverse.length * b := Nat.mul_le_mul_right b h1
  rw [Nat.add_mul] at this; omega
theorem pow_le {b k : Nat} (hb2 : b ≤ 10) (hk : k ≤ 18) : b ^ k ≤ 1000000000000000000 := by
 have h1 : b ^ k ≤ 10 ^ k := Nat.pow_le_pow_left hb2 k
 have h2 : 10 ^ k ≤ 10 ^ 18 := Nat.pow_le_pow_right (by omega) hk
 have h3 : (10 : Nat) ^ 18 = 1000000000000000000 := by decide
 omega
theorem val_take_succ {b : Nat} {l : List UInt8} {k : Nat} {x : UInt8} (hx : l[k]? = some x) : val b (l.take (k + 1)) = val b (l.take k) * b + (x.toNat - 48) := by
 rw [List.take_add_one, hx]; exact val_snoc _ _ _
def opR : Option Nat → Nat × Int
 | some n => (n, 0)
 | none => (0, 3)
def parseR (b : Nat) (l : List UInt8) : Nat × Int :=
 if l.length < 1 ∨ 18 < l.length then (0, 13) else opR (pf b l)
theorem tw_take {b : Nat} {l : List UInt8} {k : Nat} (hk : k ≤ l.length) (h : (l.take k).all (isd b) = true) (hn : ∀ c, l[k]? = some c → isd b c = false) : l.takeWhile (isd b) = l.take k ∧ l.dropWhile (isd b) = l.drop k := by
 have := takeWhile_app (p := isd b) (a := l.take k) (r := l.drop k) (List.all_eq_true.1 h) (by
  cases hd : l.drop k with
  | nil => exact .inl rfl
  | cons c s =>
   refine .inr ⟨c, s, rfl, hn c ?_⟩
   have : (l.drop k)[0]? = some c := by rw [hd]; rfl
   rwa [List.getElem?_drop, Nat.add_zero] at this)
 rwa [List.take_append_drop] at this
theorem pf_at {b : Nat} {l : List UInt8} {k : Nat} (hk : k ≤ l.length) (h : (l.take k).all (isd b) = true) (hn : ∀ c, l[k]? = some c → isd b c = false) :
  pf b l = if 0 < k ∧ (l.drop k).all (· == 32) = true ∧ (k = 1 ∨ l.head? ≠ some 48) then some (val b (l.take k)) else none := by
 obtain ⟨h1, h2⟩ := tw_take hk h hn
 unfold pf
 rw [h1, h2]
 have e1 : l.take k ≠ [] ↔ 0 < k := by
  rw [ne_eq, ← List.length_eq_zero_iff, List.length_take]; omega
 by_cases h0 : 0 < k
 ·have e2 : lead (l.take k) ↔ (k = 1 ∨ l.head? ≠ some 48) := by
   unfold lead
   rw [List.length_take, Nat.min_eq_left hk]
   have : (l.take k).head? = l.head? := by
    cases l with
    | nil => simp
    | cons c l => cases k with | zero => omega | succ k => simp
   rw [this]
  simp only [e1, e2]
 ·rw [if_neg (fun h => h0 (e1.1 h.1)), if_neg (fun h => h0 h.1)]
theorem pf_none {b : Nat} {l : List UInt8} {k : Nat} {c : UInt8} (hc : l[k]? = some c) (h : (l.take k).all (isd b) = true) (hn : isd b c = false) (hs : c ≠ 32) : pf b l = none := by
 have hk := (List.getElem?_eq_some_iff.1 hc).1
 rw [pf_at (Nat.le_of_lt hk) h (fun d hd => by rw [hc] at hd; injection hd with hd; subst hd; exact hn)]
 have : (l.drop k).all (· == 32) = false := by
  rw [List.all_eq_false]
  refine ⟨c, ?_, by simp [hs]⟩
  have : (l.drop k)[0]? = some c := by rw [List.getElem?_drop, Nat.add_zero]; exact hc
  exact List.mem_of_getElem? this
 simp [this]
theorem pf_iff_fmt {b : Nat} {l : List UInt8} {n : Nat} (hb : 2 ≤ b) (hb2 : b ≤ 10) : pf b l = some n ↔ fmt b l.length n = some l :=
 ⟨pf_some hb hb2, fun h => by have := pf_fmt hb hb2 h; simpa using this⟩
theorem sub8 {x : UInt8} (h : 48 ≤ x.toNat) : intBin .sub .u8 (x.toNat : Int) 48 = some ((x.toNat - 48 : Nat) : Int) := by
 have e : (x.toNat : Int) - 48 = ((x.toNat - 48 : Nat) : Int) := by omega
 have hx := x.toNat_lt
 simp only [intBin, e]
 rw [wrapU8, UInt8.toNat_ofNat', Nat.mod_eq_of_lt (by omega)]
def numR (b : Nat) (l : List UInt8) (bl : Bool) : Nat × Bool :=
 if bl = true then (0, decide (l = sp l.length)) else ((parseR b l).1, decide ((parseR b l).2 = 0))
def trimR (l : Str) : Str := (l.reverse.dropWhile (· == 32)).reverse
theorem trimR_snoc (l : Str) (c : UInt8) : trimR (l ++ [c]) = if c = 32 then trimR l else l ++ [c] := by
 unfold trimR
 rw [List.reverse_append]
 simp only [List.reverse_cons, List.reverse_nil, List.nil_append, List.singleton_append, List.dropWhile_cons]
 by_cases h : c = 32
 ·simp [h]
 ·simp [h]
theorem trimR_sp (l : Str) : ∀ k, trimR (l ++ sp k) = trimR l
 | 0 => by simp
 | k + 1 => by rw [sp, List.replicate_succ', ← List.append_assoc, trimR_snoc, if_pos rfl]; exact trimR_sp l k
theorem trimR_self {l : Str} (h : l.getLast? ≠ some 32) : trimR l = l := by
 rcases List.eq_nil_or_concat l with rfl | ⟨m, c, rfl⟩
 ·rfl
 ·rw [List.concat_eq_append] at h ⊢
  rw [trimR_snoc, if_neg (by simpa using h)]
theorem trimR_last (l : Str) : (trimR l).getLast? ≠ some 32 := by
 intro h
 unfold trimR at h
 rw [List.getLast?_reverse] at h
 have := List.head?_dropWhile_not (p := fun c : UInt8 => c == 32) l.reverse
 rw [h] at this
 simp at this
theorem trimR_at {l : Str} {n : Nat} (hn : n ≤ l.length) (h : (l.drop n).all (· == 32) = true) (h0 : n = 0 ∨ l[n - 1]? ≠ some 32) : trimR l = l.take n := by
 have e : l = l.take n ++ sp (l.drop n).length := by rw [← all_sp.1 h, List.take_append_drop]
 have e2 : trimR l = trimR (l.take n) := by
  conv => lhs; rw [e]
  exact trimR_sp _ _
 rw [e2]
 apply trimR_self
 rcases h0 with rfl | h0
 ·simp
 ·rcases Nat.eq_zero_or_pos n with rfl | hp
  ·simp
  ·rw [List.getLast?_eq_getElem?, List.length_take, Nat.min_eq_left hn, List.getElem?_take, if_pos (by omega)]; exact h0
abbrev prt (l : Str) (a b : Nat) : Str := (l.take b).drop a
theorem prt_len {l : Str} {a b : Nat} (hab : a ≤ b) (hb : b ≤ l.length) : (prt l a b).length = b - a := by simp [prt]; omega
abbrev hdr0 : Hdr := ⟨[], 0, 0, 0, 0, 0⟩
def decR (l : Str) : Hdr × Int :=
 if l.length < 60 then (hdr0, 2)
 else if l[58]? = some 96 ∧ l[59]? = some 10 then
  if fitN (trimR (l.take 16)) = true then
   (if (numR 10 (prt l 16 28) (decide (trimR (l.take 16) = [47, 47]))).2 && ((numR 10 (prt l 28 34) (decide (trimR (l.take 16) = [47, 47]))).2 && ((numR 10 (prt l 34 40) (decide (trimR (l.take 16) = [47, 47]))).2 &&
     ((numR 8 (prt l 40 48) (decide (trimR (l.take 16) = [47, 47]))).2 && (numR 10 (prt l 48 58) false).2))) then
    (⟨trimR (l.take 16), (numR 10 (prt l 16 28) (decide (trimR (l.take 16) = [47, 47]))).1, (numR 10 (prt l 28 34) (decide (trimR (l.take 16) = [47, 47]))).1, (numR 10 (prt l 34 40) (decide (trimR (l.take 16) = [47, 47]))).1,
     (numR 8 (prt l 40 48) (decide (trimR (l.take 16) = [47, 47]))).1, (numR 10 (prt l 48 58) false).1⟩, 0)
   else (hdr0, 3))
  else (hdr0, 6)
 else (hdr0, 4)
end Go.AL.Hd

namespace Go.AL.U8
open Go Go.AL
theorem get_sB (l : List UInt8) (i : Nat) : (⟨l.toArray⟩ : ByteArray).get! i = l.getD i 0 := by
  simp [ByteArray.get!, List.getD, getElem!_def]
  cases l[i]? <;> rfl
theorem size_sB (l : List UInt8) : (⟨l.toArray⟩ : ByteArray).size = l.length := by simp [ByteArray.size]
theorem dec_ascii {l : List UInt8} {i : Nat} {x : UInt8} (hx : l[i]? = some x) (h : x.toNat < 128) : Utf8.decode ⟨l.toArray⟩ i = (x.toNat, 1) := by
  have e : (⟨l.toArray⟩ : ByteArray).get! (i + 0) = x := by rw [get_sB]; simp [List.getD, hx]
  simp only [Utf8.decode, e]
  rw [if_pos h]
def cont (l : List UInt8) (i k : Nat) : Prop := i + k < l.length ∧ 128 ≤ (l.getD (i + k) 0).toNat
theorem cont_of {l : List UInt8} {i k : Nat} (h : decide (i + k < (⟨l.toArray⟩ : ByteArray).size) = true ∧ (((⟨l.toArray⟩ : ByteArray).get! (i + k)).toNat / 64 == 2) = true) : cont l i k := by
  rw [size_sB, get_sB] at h
  simp only [decide_eq_true_eq, beq_iff_eq] at h
  exact ⟨h.1, by omega⟩
theorem valid_err : Utf8.valid (65533 : Nat) = true := by decide
theorem dec_more {l : List UInt8} {i : Nat} {x : UInt8} (hx : l[i]? = some x) (h : 128 ≤ x.toNat) :
    128 ≤ (Utf8.decode ⟨l.toArray⟩ i).1 ∧ Utf8.valid ((Utf8.decode ⟨l.toArray⟩ i).1 : Nat) = true ∧ 1 ≤ (Utf8.decode ⟨l.toArray⟩ i).2 ∧ ∀ k, k < (Utf8.decode ⟨l.toArray⟩ i).2 → cont l i k := by
  have hil := (List.getElem?_eq_some_iff.1 hx).1
  have e : (⟨l.toArray⟩ : ByteArray).get! (i + 0) = x := by rw [get_sB]; simp [List.getD, hx]
  have c0 : cont l i 0 := ⟨hil, by have : l.getD (i + 0) 0 = x := by simp [List.getD, hx]
                                   rw [this]; exact h⟩
  have key : ∀ p : Nat × Nat, Utf8.decode ⟨l.toArray⟩ i = p → 128 ≤ p.1 ∧ Utf8.valid (p.1 : Nat) = true ∧ 1 ≤ p.2 ∧ ∀ k, k < p.2 → cont l i k := by
    intro p hp
    have err : p = (65533, 1) → 128 ≤ p.1 ∧ Utf8.valid (p.1 : Nat) = true ∧ 1 ≤ p.2 ∧ ∀ k, k < p.2 → cont l i k := by
      rintro rfl
      exact ⟨by decide, by decide, by decide, fun k hk => by obtain rfl : k = 0 := by simp at hk; omega
                                                             exact c0⟩
    simp only [Utf8.decode, e, Utf8.runeError] at hp
    rw [if_neg (by omega)] at hp
    split at hp
    · rename_i h1
      simp only [Bool.and_eq_true] at h1
      split at hp
      · rename_i h2
        subst hp
        have hb : 2 ≤ (x.toNat % 32) := by
          have := Nat.mod_lt ((⟨l.toArray⟩ : ByteArray).get! (i + 1)).toNat (show 0 < 64 by omega)
          simp only [ge_iff_le] at h2
          omega
        refine ⟨h2, ?_, Nat.le_of_ble_eq_true rfl, fun k hk => ?_⟩
        · have := Nat.mod_lt ((⟨l.toArray⟩ : ByteArray).get! (i + 1)).toNat (show 0 < 64 by omega)
          have h5 := Nat.mod_lt x.toNat (show 0 < 32 by omega)
          simp only [Utf8.valid, Bool.or_eq_true, Bool.and_eq_true, decide_eq_true_eq]
          left; omega
        · match k, hk with
          | 0, _ => exact c0
          | 1, _ => exact cont_of h1.2
          | k + 2, hk => exact absurd (show k + 2 < 2 from hk) (by omega)
      · exact err hp.symm
    · split at hp
      · rename_i h1
        simp only [Bool.and_eq_true] at h1
        split at hp
        · rename_i h2
          simp only [Bool.and_eq_true, decide_eq_true_eq, ge_iff_le] at h2
          subst hp
          refine ⟨by show 128 ≤ _; have := h2.1; omega, h2.2, Nat.le_of_ble_eq_true rfl, fun k hk => ?_⟩
          match k, hk with
          | 0, _ => exact c0
          | 1, _ => exact cont_of h1.1.2
          | 2, _ => exact cont_of h1.2
          | k + 3, hk => exact absurd (show k + 3 < 3 from hk) (by omega)
        · exact err hp.symm
      · split at hp
        · rename_i h1
          simp only [Bool.and_eq_true] at h1
          split at hp
          · rename_i h2
            simp only [Bool.and_eq_true, decide_eq_true_eq, ge_iff_le] at h2
            subst hp
            refine ⟨by show 128 ≤ _; have := h2.1; omega, h2.2, Nat.le_of_ble_eq_true rfl, fun k hk => ?_⟩
            match k, hk with
            | 0, _ => exact c0
            | 1, _ => exact cont_of h1.1.1.2
            | 2, _ => exact cont_of h1.1.2
            | 3, _ => exact cont_of h1.2
            | k + 4, hk => exact absurd (show k + 4 < 4 from hk) (by omega)
          · exact err hp.symm
        · exact err hp.symm
  exact key _ rfl
theorem ofN {n : Nat} (h : 128 ≤ n) (h2 : n < 256) : 128 ≤ (UInt8.ofNat n).toNat := by rw [UInt8.toNat_ofNat', Nat.mod_eq_of_lt h2]; exact h
theorem enc_more {r : Nat} (h : 128 ≤ r) (hv : Utf8.valid (r : Int) = true) : ∃ m : List UInt8, Utf8.encode (r : Int) = ⟨m.toArray⟩ ∧ 2 ≤ m.length ∧ m.length ≤ 4 ∧ ∀ x ∈ m, 128 ≤ x.toNat := by
  have hr : r ≤ 1114111 := by
    simp only [Utf8.valid, Bool.or_eq_true, Bool.and_eq_true, decide_eq_true_eq] at hv
    omega
  have hc : ∀ y : Nat, 128 ≤ (UInt8.ofNat (128 + y % 64)).toNat := fun y => ofN (by omega) (by have := Nat.mod_lt y (show 0 < 64 by omega); omega)
  simp only [Utf8.encode, hv, if_true, Int.toNat_natCast]
  rw [if_neg (by omega)]
  split
  · exact ⟨_, rfl, Nat.le_of_ble_eq_true rfl, Nat.le_of_ble_eq_true rfl, fun x hx => by
      simp only [List.mem_cons, List.not_mem_nil, or_false] at hx
      rcases hx with rfl | rfl
      · exact ofN (by omega) (by omega)
      · exact hc _⟩
  · split
    · exact ⟨_, rfl, Nat.le_of_ble_eq_true rfl, Nat.le_of_ble_eq_true rfl, fun x hx => by
        simp only [List.mem_cons, List.not_mem_nil, or_false] at hx
        rcases hx with rfl | rfl | rfl
        · exact ofN (by omega) (by omega)
        · exact hc _
        · exact hc _⟩
    · exact ⟨_, rfl, Nat.le_of_ble_eq_true rfl, Nat.le_of_ble_eq_true rfl, fun x hx => by
        simp only [List.mem_cons, List.not_mem_nil, or_false] at hx
        rcases hx with rfl | rfl | rfl | rfl
        · exact ofN (by omega) (by omega)
        · exact hc _
        · exact hc _
        · exact hc _⟩
theorem ibyte_none {l : List UInt8} {c : UInt8} (h : ∀ x ∈ l, x ≠ c) : Lib.indexByte l c = -1 := by
  induction l with
  | nil => rfl
  | cons b l ih =>
    have h1 : (b == c) = false := beq_eq_false_iff_ne.2 (h b (by simp))
    simp [Lib.indexByte, h1, ih fun x hx => h x (by simp [hx])]
theorem ibyte_some {l : List UInt8} {c : UInt8} (h : c ∈ l) : 0 ≤ Lib.indexByte l c := by
  induction l with
  | nil => simp at h
  | cons b l ih =>
    by_cases h1 : (b == c) = true
    · simp [Lib.indexByte, h1]
    · have h2 : c ∈ l := by
        rcases List.mem_cons.1 h with rfl | h
        · simp at h1
        · exact h
      have := ih h2
      simp only [Lib.indexByte, h1, Bool.false_eq_true, if_false]
      split
      · rename_i h3; have := eq_of_beq h3; omega
      · omega
end Go.AL.U8

namespace Go.AL.Hd
open Go Go.AL
theorem parseR_fmt {b w : Nat} {n : Int} {f : Str} (hb : 2 ≤ b) (hb2 : b ≤ 10) (hw : 1 ≤ w) (hw2 : w ≤ 18) (h : fmt b w n = some f) : parseR b f = (n.toNat, 0) ∧ 0 ≤ n := by
 have hl := fmt_len h
 refine ⟨?_, ?_⟩
 ·unfold parseR
  rw [if_neg (by omega), pf_fmt hb hb2 h]; rfl
 ·unfold fmt at h
  split at h
  ·simp at h
  ·omega
theorem numR_fieldR {b w : Nat} {n : Int} {bl : Bool} (hb : 2 ≤ b) (hb2 : b ≤ 10) (hw : 1 ≤ w) (hw2 : w ≤ 18) (h : (fieldR n b w bl).2 = true) :
  (fieldR n b w bl).1.length = w ∧ numR b (fieldR n b w bl).1 bl = (n.toNat, true) ∧ 0 ≤ n := by
 cases bl with
 | true =>
  simp only [fieldR, if_true, decide_eq_true_eq] at h
  subst h
  simp [fieldR, numR]
 | false =>
  simp only [fieldR, Bool.false_eq_true, if_false] at h ⊢
  cases hf : fmt b w n with
  | none => simp [fmtR, hf] at h
  | some f =>
   obtain ⟨h1, h2⟩ := parseR_fmt hb hb2 hw hw2 hf
   simp only [fmtR, hf, numR, Bool.false_eq_true, if_false, h1]
   exact ⟨fmt_len hf, rfl, h2⟩
theorem fieldR_numR {b : Nat} {l : Str} {bl : Bool} (hb : 2 ≤ b) (hb2 : b ≤ 10) (hw : 1 ≤ l.length) (hw2 : l.length ≤ 18) (h : (numR b l bl).2 = true) : fieldR (numR b l bl).1 b l.length bl = (l, true) := by
 cases bl with
 | true =>
  simp only [numR, if_true, decide_eq_true_eq] at h
  simp only [numR, fieldR, if_true]
  rw [← h]; rfl
 | false =>
  simp only [numR, Bool.false_eq_true, if_false, decide_eq_true_eq] at h
  simp only [numR, fieldR, Bool.false_eq_true, if_false]
  have e : parseR b l = opR (pf b l) := by unfold parseR; rw [if_neg (by omega)]
  rw [e] at h ⊢
  cases hp : pf b l with
  | none => rw [hp] at h; simp [opR] at h
  | some n =>
   have := pf_some hb hb2 hp
   simp only [opR, fmtR, this]; rfl
theorem prt_mid {A f R : Str} {a e : Nat} (ha : A.length = a) (he : a + f.length = e) : prt (A ++ (f ++ R)) a e = f := by
 subst ha; subst he
 rw [prt, ← List.append_assoc, List.take_left' (by simp), List.drop_left' rfl]
theorem fit_last {nm : Str} (h : fitN nm = true) : nm.getLast? ≠ some 32 ∧ 1 ≤ nm.length ∧ nm.length ≤ 16 := by
 simp only [fitN, Bool.and_eq_true, decide_eq_true_eq] at h
 exact ⟨h.1.2.2, h.1.1, h.1.2.1⟩
theorem enc_dec (h : Hdr) (rest : Str) (he : (encR h).2 = 0) : (encR h).1.length = 60 ∧ decR ((encR h).1 ++ rest) = (h, 0) := by
 obtain ⟨nm, dt, ui, gi, mo, si⟩ := h
 unfold encR at he ⊢
 split at he
 case isFalse => simp at he
 rename_i hf
 rw [if_pos hf]
 split at he
 case isFalse => simp at he
 rename_i hq
 rw [if_pos hq]
 simp only [Bool.and_eq_true] at hq
 obtain ⟨q1, q2, q3, q4, q5⟩ := hq
 simp only at q1 q2 q3 q4 q5 hf ⊢
 obtain ⟨l1, n1, z1⟩ := numR_fieldR (by omega) (by omega) (by omega) (by omega) q1
 obtain ⟨l2, n2, z2⟩ := numR_fieldR (by omega) (by omega) (by omega) (by omega) q2
 obtain ⟨l3, n3, z3⟩ := numR_fieldR (by omega) (by omega) (by omega) (by omega) q3
 obtain ⟨l4, n4, z4⟩ := numR_fieldR (by omega) (by omega) (by omega) (by omega) q4
 obtain ⟨l5, n5, z5⟩ := numR_fieldR (by omega) (by omega) (by omega) (by omega) q5
 revert l1 n1 l2 n2 l3 n3 l4 n4 l5 n5
 generalize (fieldR dt 10 12 (decide (nm = [47, 47]))).1 = f1
 generalize (fieldR ui 10 6 (decide (nm = [47, 47]))).1 = f2
 generalize (fieldR gi 10 6 (decide (nm = [47, 47]))).1 = f3
 generalize (fieldR mo 8 8 (decide (nm = [47, 47]))).1 = f4
 generalize (fieldR si 10 10 false).1 = f5
 intro l1 n1 l2 n2 l3 n3 l4 n4 l5 n5
 obtain ⟨g1, g2, g3⟩ := fit_last hf
 have hA : (nm ++ sp (16 - nm.length)).length = 16 := by simp; omega
 refine ⟨by simp [l1, l2, l3, l4, l5]; omega, ?_⟩
 obtain ⟨L, hL⟩ : ∃ L, L = nm ++ sp (16 - nm.length) ++ f1 ++ f2 ++ f3 ++ f4 ++ f5 ++ [96, 10] ++ rest := ⟨_, rfl⟩
 have hlen : 60 ≤ L.length := by rw [hL]; simp [l1, l2, l3, l4, l5]; omega
 have t16 : L.take 16 = nm ++ sp (16 - nm.length) := by
  rw [hL]; simp only [List.append_assoc]; rw [← List.append_assoc nm]
  exact List.take_left' hA
 have tn : trimR (L.take 16) = nm := by rw [t16, trimR_sp]; exact trimR_self g1
 have p1 : prt L 16 28 = f1 := by
  rw [hL, show nm ++ sp (16 - nm.length) ++ f1 ++ f2 ++ f3 ++ f4 ++ f5 ++ [96, 10] ++ rest = (nm ++ sp (16 - nm.length)) ++ (f1 ++ (f2 ++ f3 ++ f4 ++ f5 ++ [96, 10] ++ rest)) by simp]
  exact prt_mid hA (by omega)
 have p2 : prt L 28 34 = f2 := by
  rw [hL, show nm ++ sp (16 - nm.length) ++ f1 ++ f2 ++ f3 ++ f4 ++ f5 ++ [96, 10] ++ rest = (nm ++ sp (16 - nm.length) ++ f1) ++ (f2 ++ (f3 ++ f4 ++ f5 ++ [96, 10] ++ rest)) by simp]
  exact prt_mid (by rw [List.length_append, hA, l1]) (by omega)
 have p3 : prt L 34 40 = f3 := by
  rw [hL, show nm ++ sp (16 - nm.length) ++ f1 ++ f2 ++ f3 ++ f4 ++ f5 ++ [96, 10] ++ rest = (nm ++ sp (16 - nm.length) ++ f1 ++ f2) ++ (f3 ++ (f4 ++ f5 ++ [96, 10] ++ rest)) by simp]
  exact prt_mid (by rw [List.length_append, List.length_append, hA, l1, l2]) (by omega)
 have p4 : prt L 40 48 = f4 := by
  rw [hL, show nm ++ sp (16 - nm.length) ++ f1 ++ f2 ++ f3 ++ f4 ++ f5 ++ [96, 10] ++ rest = (nm ++ sp (16 - nm.length) ++ f1 ++ f2 ++ f3) ++ (f4 ++ (f5 ++ [96, 10] ++ rest)) by simp]
  exact prt_mid (by rw [List.length_append, List.length_append, List.length_append, hA, l1, l2, l3]) (by omega)
 have p5 : prt L 48 58 = f5 := by
  rw [hL, show nm ++ sp (16 - nm.length) ++ f1 ++ f2 ++ f3 ++ f4 ++ f5 ++ [96, 10] ++ rest = (nm ++ sp (16 - nm.length) ++ f1 ++ f2 ++ f3 ++ f4) ++ (f5 ++ ([96, 10] ++ rest)) by simp]
  exact prt_mid (by rw [List.length_append, List.length_append, List.length_append, List.length_append, hA, l1, l2, l3, l4]) (by omega)
 have h58 : (nm ++ sp (16 - nm.length) ++ f1 ++ f2 ++ f3 ++ f4 ++ f5).length = 58 := by simp [l1, l2, l3, l4, l5]; omega
 have e58 : L[58]? = some 96 := by
  rw [hL, List.append_assoc, List.getElem?_append_right (by omega), h58]; rfl
 have e59 : L[59]? = some 10 := by
  rw [hL, List.append_assoc, List.getElem?_append_right (by omega), h58]; rfl
 rw [← hL]
 unfold decR
 rw [if_neg (by omega), if_pos ⟨e58, e59⟩, tn, if_pos hf, p1, p2, p3, p4, p5, n1, n2, n3, n4, n5]
 simp only [Bool.and_self, if_true]
 rw [Int.toNat_of_nonneg z1, Int.toNat_of_nonneg z2, Int.toNat_of_nonneg z3, Int.toNat_of_nonneg z4, Int.toNat_of_nonneg z5]
theorem decR_err {l : Str} (h : (decR l).2 ≠ 0) : (decR l).1 = hdr0 := by
 unfold decR at h ⊢
 split
 ·rfl
 ·rename_i h1
  rw [if_neg h1] at h
  split
  ·rename_i h2
   rw [if_pos h2] at h
   split
   ·rename_i h3
    rw [if_pos h3] at h
    split
    ·rename_i h4
     rw [if_pos h4] at h
     exact absurd rfl h
    ·rfl
   ·rfl
  ·rfl
theorem trim_pad {l : Str} (hl : l.length = 16) : trimR l ++ sp (16 - (trimR l).length) = l := by
 have e : ∀ l : Str, trimR l ++ sp (l.length - (trimR l).length) = l := by
  intro l
  rw [← List.reverse_reverse l]
  generalize l.reverse = m
  induction m with
  | nil => rfl
  | cons c m ih =>
   rw [List.reverse_cons, trimR_snoc]
   split
   ·rename_i hc
    subst hc
    have hle : (trimR m.reverse).length ≤ m.reverse.length := by
     have := congrArg List.length ih; simp only [List.length_append] at this; omega
    rw [List.length_append, List.length_singleton, show m.reverse.length + 1 - (trimR m.reverse).length = (m.reverse.length - (trimR m.reverse).length) + 1 by omega, sp, List.replicate_succ', ← List.append_assoc]
    rw [sp] at ih
    rw [ih]
   ·simp
 have := e l
 rwa [hl] at this
theorem dec_enc {l : Str} (h : (decR l).2 = 0) : 60 ≤ l.length ∧ encR (decR l).1 = (l.take 60, 0) := by
 unfold decR at h ⊢
 split at h
 case isTrue => simp at h
 rename_i h1
 rw [if_neg h1]
 split at h
 case isFalse => simp at h
 rename_i h2
 rw [if_pos h2]
 split at h
 case isFalse => simp at h
 rename_i h3
 rw [if_pos h3]
 split at h
 case isFalse => simp at h
 rename_i h4
 rw [if_pos h4]
 simp only [Bool.and_eq_true] at h4
 obtain ⟨q1, q2, q3, q4, q5⟩ := h4
 refine ⟨by omega, ?_⟩
 have L1 : (prt l 16 28).length = 12 := prt_len (by omega) (by omega)
 have L2 : (prt l 28 34).length = 6 := prt_len (by omega) (by omega)
 have L3 : (prt l 34 40).length = 6 := prt_len (by omega) (by omega)
 have L4 : (prt l 40 48).length = 8 := prt_len (by omega) (by omega)
 have L5 : (prt l 48 58).length = 10 := prt_len (by omega) (by omega)
 have f1 := fieldR_numR (by omega) (by omega) (by omega) (by omega) q1
 have f2 := fieldR_numR (by omega) (by omega) (by omega) (by omega) q2
 have f3 := fieldR_numR (by omega) (by omega) (by omega) (by omega) q3
 have f4 := fieldR_numR (by omega) (by omega) (by omega) (by omega) q4
 have f5 := fieldR_numR (by omega) (by omega) (by omega) (by omega) q5
 rw [L1] at f1; rw [L2] at f2; rw [L3] at f3; rw [L4] at f4; rw [L5] at f5
 unfold encR
 simp only
 rw [if_pos h3, f1, f2, f3, f4, f5]
 simp only [Bool.and_self, if_true]
 rw [trim_pad (by rw [List.length_take]; omega)]
 have hj : ∀ (a b : Nat), a ≤ b → b ≤ l.length → l.take a ++ prt l a b = l.take b := fun a b hab hb => by
  have := List.take_append_drop a (l.take b)
  rwa [List.take_take, Nat.min_eq_left hab] at this
 rw [hj 16 28 (by omega) (by omega), hj 28 34 (by omega) (by omega), hj 34 40 (by omega) (by omega), hj 40 48 (by omega) (by omega), hj 48 58 (by omega) (by omega)]
 have e : l.take 60 = l.take 58 ++ [96, 10] := by
  rw [show 60 = 58 + 1 + 1 from rfl, List.take_add_one, List.take_add_one, h2.1, h2.2]; simp
 rw [e]
theorem encR_err (h : Hdr) (he : (encR h).2 ≠ 0) : (encR h).1 = [] ∧ ((encR h).2 = 6 ∨ (encR h).2 = 9) := by
 unfold encR at he ⊢
 split
 ·rename_i h1
  rw [if_pos h1] at he
  split
  ·rename_i h2
   rw [if_pos h2] at he
   exact absurd rfl he
  ·exact ⟨rfl, .inr rfl⟩
 ·exact ⟨rfl, .inl rfl⟩
theorem fmt_iff {b w : Nat} (hb : 2 ≤ b) (hw : 1 ≤ w) (n : Int) : (fmtR b w n).2 = 0 ↔ 0 ≤ n ∧ n < (b ^ w : Nat) := by
 obtain ⟨k, rfl⟩ : ∃ k, w = k + 1 := ⟨w - 1, by omega⟩
 have hd := dig_len hb k n.toNat
 unfold fmtR fmt
 by_cases h : n < 0 ∨ k + 1 < (dig b n.toNat).length
 ·rw [if_pos h]
  simp only
  constructor
  ·intro h; simp at h
  ·rintro ⟨h1, h2⟩
   have : n.toNat < b ^ (k + 1) := by omega
   have := hd.2 this
   omega
 ·rw [if_neg h]
  simp only
  constructor
  ·intro _
   have : n.toNat < b ^ (k + 1) := hd.1 (by omega)
   omega
  ·intro _; trivial
theorem bounds (a b c d e : Int) : (encR ⟨[120, 47], a, b, c, d, e⟩).2 = 0 ↔
  (0 ≤ a ∧ a < 1000000000000) ∧ (0 ≤ b ∧ b < 1000000) ∧ (0 ≤ c ∧ c < 1000000) ∧ (0 ≤ d ∧ d < 16777216) ∧ (0 ≤ e ∧ e < 10000000000) := by
 have hf : fitN [120, 47] = true := by decide
 have hne : decide (([120, 47] : Str) = [47, 47]) = false := by decide
 unfold encR
 simp only
 rw [if_pos hf, hne]
 have F : ∀ (n : Int) (b w : Nat), (fieldR n b w false).2 = true ↔ (fmtR b w n).2 = 0 := fun n b w => by simp [fieldR]
 have f1 := (F a 10 12).trans (fmt_iff (b := 10) (w := 12) (by omega) (by omega) a)
 have f2 := (F b 10 6).trans (fmt_iff (b := 10) (w := 6) (by omega) (by omega) b)
 have f3 := (F c 10 6).trans (fmt_iff (b := 10) (w := 6) (by omega) (by omega) c)
 have f4 := (F d 8 8).trans (fmt_iff (b := 8) (w := 8) (by omega) (by omega) d)
 have f5 := (F e 10 10).trans (fmt_iff (b := 10) (w := 10) (by omega) (by omega) e)
 have e1 : (10 : Nat) ^ 12 = 1000000000000 := by decide
 have e2 : (10 : Nat) ^ 6 = 1000000 := by decide
 have e4 : (8 : Nat) ^ 8 = 16777216 := by decide
 have e5 : (10 : Nat) ^ 10 = 10000000000 := by decide
 rw [e1] at f1; rw [e2] at f2 f3; rw [e4] at f4; rw [e5] at f5
 constructor
 ·intro h
  split at h
  ·rename_i hq
   simp only [Bool.and_eq_true] at hq
   exact ⟨f1.1 hq.1, f2.1 hq.2.1, f3.1 hq.2.2.1, f4.1 hq.2.2.2.1, f5.1 hq.2.2.2.2⟩
  ·simp at h
 ·rintro ⟨h1, h2, h3, h4, h5⟩
  rw [if_pos (by simp only [Bool.and_eq_true]; exact ⟨f1.2 h1, f2.2 h2, f3.2 h3, f4.2 h4, f5.2 h5⟩)]
theorem fieldR_bd {b w : Nat} {n : Int} {bl : Bool} (hb : 2 ≤ b) (hb2 : b ≤ 10) (hw : 1 ≤ w) (hw2 : w ≤ 12) (h : (fieldR n b w bl).2 = true) : n ≤ 1000000000000 := by
 cases bl with
 | true =>
  simp only [fieldR, if_true, decide_eq_true_eq] at h
  omega
 | false =>
  have h1 : (fmtR b w n).2 = 0 := by simpa [fieldR] using h
  have h2 := ((fmt_iff hb hw n).1 h1).2
  have h3 : b ^ w ≤ 10 ^ w := Nat.pow_le_pow_left hb2 w
  have h4 : 10 ^ w ≤ 10 ^ 12 := Nat.pow_le_pow_right (by omega) hw2
  have h5 : (10 : Nat) ^ 12 = 1000000000000 := by decide
  omega
theorem encR_bd {h : Hdr} (he : (encR h).2 = 0) : h.name.length ≤ 16 ∧ h.date ≤ 1000000000000 ∧ h.uid ≤ 1000000000000 ∧ h.gid ≤ 1000000000000 ∧ h.mode ≤ 1000000000000 ∧ h.size ≤ 1000000000000 := by
 unfold encR at he
 split at he
 case isFalse => simp at he
 rename_i hf
 split at he
 case isFalse => simp at he
 rename_i hq
 simp only [Bool.and_eq_true] at hq
 obtain ⟨q1, q2, q3, q4, q5⟩ := hq
 exact ⟨(fit_last hf).2.2, fieldR_bd (by omega) (by omega) (by omega) (by omega) q1, fieldR_bd (by omega) (by omega) (by omega) (by omega) q2, fieldR_bd (by omega) (by omega) (by omega) (by omega) q3,
  fieldR_bd (by omega) (by omega) (by omega) (by omega) q4, fieldR_bd (by omega) (by omega) (by omega) (by omega) q5⟩
theorem encR_only (h : Hdr) : (encR h).2 = 0 ∨ (encR h).2 = 6 ∨ (encR h).2 = 9 := by
 by_cases e : (encR h).2 = 0
 ·exact .inl e
 ·exact .inr (encR_err h e).2
end Go.AL.Hd
