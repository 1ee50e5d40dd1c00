/- Numbers in fields, in plain Lean. No condition. -/
import Derived.Test.YtenbpnlmpjndgaaGreatDoorCAc
import Derived.Lib.Bytealg
import Derived.Lib.IndexAny
import Derived.Lib.IndexMore
import Derived.Sort.Walk0
set_option linter.unusedVariables false
set_option linter.unusedSimpArgs false
namespace Go.AL.Hd
open Go Go.AL
def dgt (d : Nat) : UInt8 := UInt8.ofNat (48 + d)
theorem dgt_nat {d : Nat} (h : d < 10) : (dgt d).toNat = 48 + d := by
 simp only [dgt, UInt8.toNat_ofNat']; omega
def dig (b n : Nat) : List UInt8 :=
 if h : b < 2 ∨ n < b then [dgt n] else dig b (n / b) ++ [dgt (n % b)]
termination_by n
decreasing_by exact Nat.div_lt_self (by omega) (by omega)
theorem dig_lt {b n : Nat} (h : n < b) : dig b n = [dgt n] := by rw [dig, dif_pos (.inr h)]
theorem dig_ge {b n : Nat} (hb : 2 ≤ b) (h : b ≤ n) : dig b n = dig b (n / b) ++ [dgt (n % b)] := by rw [dig, dif_neg (by omega)]
theorem dig_ne (b n : Nat) : dig b n ≠ [] := by
 rw [dig]; split <;> simp
theorem dig_pos (b n : Nat) : 0 < (dig b n).length := List.length_pos_iff.2 (dig_ne b n)
theorem dig_len {b : Nat} (hb : 2 ≤ b) : ∀ (k n : Nat), (dig b n).length ≤ k + 1 ↔ n < b ^ (k + 1)
 | 0, n => by
  simp only [Nat.zero_add, Nat.pow_one]
  by_cases h : n < b
  ·simp [dig_lt h, h]
  ·rw [dig_ge hb (by omega)]
   have := dig_pos b (n / b)
   simp only [List.length_append, List.length_singleton]; omega
 | k + 1, n => by
  by_cases h : n < b
  ·rw [dig_lt h]
   have : b ^ 1 ≤ b ^ (k + 1 + 1) := Nat.pow_le_pow_right (by omega) (by omega)
   rw [Nat.pow_one] at this
   simp only [List.length_singleton]; omega
  ·rw [dig_ge hb (by omega), List.length_append, List.length_singleton, Nat.add_le_add_iff_right, dig_len hb k, Nat.div_lt_iff_lt_mul (by omega), ← Nat.pow_succ]
def isd (b : Nat) (c : UInt8) : Bool := decide (48 ≤ c.toNat) && decide (c.toNat - 48 < b)
theorem isd_iff {b : Nat} {c : UInt8} : isd b c = true ↔ 48 ≤ c.toNat ∧ c.toNat - 48 < b := by simp [isd]
def val (b : Nat) (l : List UInt8) : Nat := l.foldl (fun n c => n * b + (c.toNat - 48)) 0
theorem val_snoc (b : Nat) (l : List UInt8) (c : UInt8) : val b (l ++ [c]) = val b l * b + (c.toNat - 48) := by simp [val]
theorem dig_isd {b : Nat} (hb : 2 ≤ b) (hb2 : b ≤ 10) (n : Nat) : ∀ c ∈ dig b n, isd b c = true := by
 induction n using Nat.strongRecOn with
 | ind n ih =>
  intro c hc
  by_cases h : n < b
  ·rw [dig_lt h] at hc
   simp at hc; subst hc
   rw [isd_iff, dgt_nat (by omega)]; omega
  ·rw [dig_ge hb (by omega), List.mem_append] at hc
   rcases hc with hc | hc
   ·exact ih _ (Nat.div_lt_self (by omega) (by omega)) c hc
   ·simp at hc; subst hc
    have := Nat.mod_lt n (show 0 < b by omega)
    rw [isd_iff, dgt_nat (by omega)]; omega
theorem val_dig {b : Nat} (hb : 2 ≤ b) (hb2 : b ≤ 10) (n : Nat) : val b (dig b n) = n := by
 induction n using Nat.strongRecOn with
 | ind n ih =>
  by_cases h : n < b
  ·rw [dig_lt h]; simp [val, dgt_nat (show n < 10 by omega)]
  ·have := Nat.mod_lt n (show 0 < b by omega)
   rw [dig_ge hb (by omega), val_snoc, ih _ (Nat.div_lt_self (by omega) (by omega)), dgt_nat (by omega)]
   have := Nat.div_add_mod n b
   rw [Nat.mul_comm] at this; omega
theorem dgt_of {b : Nat} (hb2 : b ≤ 10) {c : UInt8} (h : isd b c = true) : dgt (c.toNat - 48) = c := by
 rw [isd_iff] at h
 apply UInt8.toNat_inj.1
 rw [dgt_nat (by omega)]; omega
theorem val_pos {b : Nat} (hb : 2 ≤ b) : ∀ {c : UInt8} {l : List UInt8}, (∀ x ∈ c :: l, isd b x = true) → c ≠ 48 → 1 ≤ val b (c :: l) := by
 intro c l
 rw [← List.reverse_reverse l]
 generalize l.reverse = m
 induction m with
 | nil =>
  intro h hc
  have := isd_iff.1 (h c (by simp))
  have h48 : c.toNat ≠ 48 := fun e => hc (UInt8.toNat_inj.1 (by simpa using e))
  simp [val]; omega
 | cons x m ih =>
  intro h hc
  rw [List.reverse_cons] at h ⊢
  have h1 := ih (fun y hy => h y (by simp at hy ⊢; rcases hy with rfl | hy; exact .inl rfl; exact .inr (.inl hy))) hc
  rw [show c :: (m.reverse ++ [x]) = (c :: m.reverse) ++ [x] by simp, val_snoc]
  have : 1 * 1 ≤ val b (c :: m.reverse) * b := Nat.mul_le_mul h1 (by omega)
  omega
def lead (l : List UInt8) : Prop := l.length = 1 ∨ l.head? ≠ some 48
instance (l : List UInt8) : Decidable (lead l) := inferInstanceAs (Decidable (_ ∨ _))
theorem dig_val {b : Nat} (hb : 2 ≤ b) (hb2 : b ≤ 10) : ∀ (l : List UInt8), l ≠ [] → (∀ x ∈ l, isd b x = true) → lead l → dig b (val b l) = l := by
 intro l
 rw [← List.reverse_reverse l]
 generalize l.reverse = m
 induction m with
 | nil => intro h; exact absurd rfl h
 | cons x m ih =>
  intro _ h hl
  rw [List.reverse_cons] at h hl ⊢
  have hx := h x (by simp)
  have hx' := isd_iff.1 hx
  rw [val_snoc]
  cases hm : m.reverse with
  | nil =>
   simp only [val, List.foldl_nil, Nat.zero_mul, Nat.zero_add, List.nil_append]
   rw [dig_lt (by omega), dgt_of hb2 hx]
  | cons c r =>
   have hc : c ≠ 48 := by
    rcases hl with hl | hl
    ·rw [hm] at hl; simp at hl
    ·rw [hm] at hl; simpa using hl
   have h2 : ∀ y ∈ m.reverse, isd b y = true := fun y hy => h y (by simp at hy ⊢; exact .inl hy)
   have ih' := ih (by rw [hm]; simp) h2 (.inr (by rw [hm]; simpa using hc))
   have hp : 1 ≤ val b m.reverse := by
    rw [hm]; rw [hm] at h2
    exact val_pos hb h2 hc
   rw [← hm]
   generalize val b m.reverse = v at *
   have hvb : 1 * b ≤ v * b := Nat.mul_le_mul_right b hp
   rw [dig_ge hb (by omega)]
   have e1 : (v * b + (x.toNat - 48)) / b = v := by
    rw [Nat.mul_comm, Nat.mul_add_div (by omega), Nat.div_eq_of_lt hx'.2, Nat.add_zero]
   have e2 : (v * b + (x.toNat - 48)) % b = x.toNat - 48 := by
    rw [Nat.mul_comm, Nat.mul_add_mod, Nat.mod_eq_of_lt hx'.2]
   rw [e1, e2, ih', dgt_of hb2 hx]
theorem dig_head {b : Nat} (hb : 2 ≤ b) (hb2 : b ≤ 10) (n : Nat) (h : b ≤ n) : (dig b n).head? ≠ some 48 := by
 induction n using Nat.strongRecOn with
 | ind n ih =>
  rw [dig_ge hb h]
  by_cases h2 : n / b < b
  ·rw [dig_lt h2]
   have h3 : 1 ≤ n / b := by rw [Nat.le_div_iff_mul_le (by omega)]; omega
   simp only [List.singleton_append, List.head?_cons, ne_eq, Option.some.injEq]
   intro e
   have := congrArg UInt8.toNat e
   rw [dgt_nat (by omega)] at this
   simp at this; omega
  ·have := ih (n / b) (Nat.div_lt_self (by omega) (by omega)) (by omega)
   cases hd : dig b (n / b) with
   | nil => exact absurd hd (dig_ne _ _)
   | cons c r => rw [hd] at this; simpa using this
theorem dig_lead {b : Nat} (hb : 2 ≤ b) (hb2 : b ≤ 10) (n : Nat) : lead (dig b n) := by
 by_cases h : n < b
 ·left; rw [dig_lt h]; rfl
 ·right; exact dig_head hb hb2 n (by omega)
abbrev sp (n : Nat) : List UInt8 := List.replicate n 32
def fmt (b : Nat) (w : Nat) (n : Int) : Option (List UInt8) :=
 if n < 0 ∨ w < (dig b n.toNat).length then none else some (dig b n.toNat ++ sp (w - (dig b n.toNat).length))
theorem fmt_len {b w : Nat} {n : Int} {l : List UInt8} (h : fmt b w n = some l) : l.length = w := by
 unfold fmt at h
 split at h
 ·simp at h
 ·injection h with h; subst h; simp; omega
def pf (b : Nat) (l : List UInt8) : Option Nat :=
 if l.takeWhile (isd b) ≠ [] ∧ (l.dropWhile (isd b)).all (· == 32) = true ∧ lead (l.takeWhile (isd b)) then some (val b (l.takeWhile (isd b))) else none
theorem takeWhile_app {p : UInt8 → Bool} {a r : List UInt8} (ha : ∀ x ∈ a, p x = true) (hr : r = [] ∨ ∃ c s, r = c :: s ∧ p c = false) : (a ++ r).takeWhile p = a ∧ (a ++ r).dropWhile p = r := by
 induction a with
 | nil =>
  rcases hr with rfl | ⟨c, s, rfl, h⟩
  ·simp
  ·simp [List.takeWhile_cons, List.dropWhile_cons, h]
 | cons x a ih =>
  obtain ⟨h1, h2⟩ := ih fun y hy => ha y (by simp [hy])
  have hx := ha x (by simp)
  simp [List.takeWhile_cons, List.dropWhile_cons, hx, h1, h2]
theorem isd_sp {b : Nat} (hb : b ≤ 10) : isd b 32 = false := by
 cases h : isd b 32 with
 | false => rfl
 | true => rw [isd_iff] at h; simp at h
theorem sp_head {b : Nat} (hb : b ≤ 10) (n : Nat) : sp n = [] ∨ ∃ c s, sp n = c :: s ∧ isd b c = false := by
 cases n with
 | zero => exact .inl rfl
 | succ n => exact .inr ⟨32, sp n, rfl, isd_sp hb⟩
theorem all_sp {l : List UInt8} : l.all (· == 32) = true ↔ l = sp l.length := by
 rw [List.all_eq_true]
 constructor
 ·intro h
  exact List.eq_replicate_iff.2 ⟨rfl, fun x hx => by simpa using h x hx⟩
 ·intro h x hx
  rw [h] at hx
  simpa using (List.mem_replicate.1 hx).2
theorem pf_dig {b : Nat} (hb : 2 ≤ b) (hb2 : b ≤ 10) (n k : Nat) : pf b (dig b n ++ sp k) = some n := by
 obtain ⟨h1, h2⟩ := takeWhile_app (dig_isd hb hb2 n) (sp_head hb2 k)
 unfold pf
 rw [h1, h2, if_pos ⟨dig_ne _ _, all_sp.2 (by simp), dig_lead hb hb2 n⟩, val_dig hb hb2]
theorem pf_fmt {b w : Nat} {n : Int} {l : List UInt8} (hb : 2 ≤ b) (hb2 : b ≤ 10) (h : fmt b w n = some l) : pf b l = some n.toNat := by
 unfold fmt at h
 split at h
 ·simp at h
 ·injection h with h; subst h
  exact pf_dig hb hb2 _ _
theorem pf_some {b : Nat} {l : List UInt8} {n : Nat} (hb : 2 ≤ b) (hb2 : b ≤ 10) (h : pf b l = some n) : fmt b l.length n = some l := by
 unfold pf at h
 split at h
 case isFalse => simp at h
 rename_i hc
 obtain ⟨h1, h2, h3⟩ := hc
 injection h with h
 have hd : dig b n = l.takeWhile (isd b) := by
  rw [← h]
  exact dig_val hb hb2 _ h1 (fun x hx => by
   have : x ∈ l.takeWhile (isd b) := hx
   exact (List.all_eq_true.1 (List.all_takeWhile (p := isd b) (l := l))) x hx) h3
 have hl : l = l.takeWhile (isd b) ++ l.dropWhile (isd b) := (List.takeWhile_append_dropWhile).symm
 have hll : l.length = (l.takeWhile (isd b)).length + (l.dropWhile (isd b)).length := by rw [← List.length_append, ← hl]
 rw [all_sp] at h2
 unfold fmt
 rw [if_neg (by simp only [Int.toNat_natCast, hd]; omega)]
 simp only [Int.toNat_natCast, hd]
 congr 1
 rw [show l.length - (l.takeWhile (isd b)).length = (l.dropWhile (isd b)).length by omega, ← h2]
 exact hl.symm
def bad2 (c : UInt8) : Bool := decide (c = 10) || decide (c = 0)
def bad3 (c : UInt8) : Bool := decide (c = 47) || (decide (c = 10) || decide (c = 0))
def fitN (l : Str) : Bool := decide (1 ≤ l.length ∧ l.length ≤ 16 ∧ l.getLast? ≠ some 32) && !l.any bad2
def validN (l : Str) : Bool := decide (1 ≤ l.length ∧ l.length ≤ 255) && !l.any bad3
theorem step_any {p : UInt8 → Bool} {l : List UInt8} {k : Nat} {x : UInt8} (hx : l[k]? = some x) (hp : p x = false) (h : (l.take k).any p = false) : (l.take (k + 1)).any p = false := by
 rw [List.take_add_one, hx]; simp [List.any_append, h, hp]
theorem any_at {p : UInt8 → Bool} {l : List UInt8} {k : Nat} {x : UInt8} (hx : l[k]? = some x) (hp : p x = true) : l.any p = true := List.any_eq_true.2 ⟨x, List.mem_of_getElem? hx, hp⟩
theorem byte_eq {x c : UInt8} (h : ((x.toNat : Int) == (c.toNat : Int)) = true) : x = c := UInt8.toNat_inj.1 (by have := eq_of_beq h; omega)
theorem byte_ne {x c : UInt8} (h : ((x.toNat : Int) == (c.toNat : Int)) = false) : ¬ x = c := fun e => by subst e; simp at h
structure Hdr where
 name : Str
 date : Int
 uid : Int
 gid : Int
 mode : Int
 size : Int
deriving DecidableEq
abbrev Hdr.enc (h : Hdr) : List D := [sD h.name, vI h.date, vI h.uid, vI h.gid, vI h.mode, vI h.size]
def fmtR (b w : Nat) (n : Int) : List UInt8 × Int := match fmt b w n with | some l => (l, 0) | none => ([], 9)
def fieldR (n : Int) (b w : Nat) (bl : Bool) : List UInt8 × Bool := if bl = true then (sp w, decide (n = 0)) else ((fmtR b w n).1, decide ((fmtR b w n).2 = 0))
def encR (h : Hdr) : List UInt8 × Int :=
 if fitN h.name = true then
  if ((fieldR h.date 10 12 (decide (h.name = [47, 47]))).2 && ((fieldR h.uid 10 6 (decide (h.name = [47, 47]))).2 && ((fieldR h.gid 10 6 (decide (h.name = [47, 47]))).2 && ((fieldR h.mode 8 8 (decide (h.name = [47, 47]))).2 && (fieldR h.size 10 10 false).2)))) = true then
   (h.name ++ sp (16 - h.name.length) ++ (fieldR h.date 10 12 (decide (h.name = [47, 47]))).1 ++ (fieldR h.uid 10 6 (decide (h.name = [47, 47]))).1 ++ (fieldR h.gid 10 6 (decide (h.name = [47, 47]))).1 ++ (fieldR h.mode 8 8 (decide (h.name = [47, 47]))).1 ++ (fieldR h.size 10 10 false).1 ++ [96, 10], 0)
  else ([], 9)
 else ([], 6)
theorem fieldR_len (n : Int) (b w : Nat) (bl : Bool) : (fieldR n b w bl).1.length ≤ w := by
 unfold fieldR fmtR
 split
 ·simp
 ·cases h : fmt b w n with
  | none => simp
  | some l => simpa using Nat.le_of_eq (fmt_len h)
end Go.AL.Hd

namespace Go.AL.Ap
open Go Go.AL
abbrev Ent := Str × Int
abbrev Ent.enc (e : Ent) : List D := [sD e.1, vI e.2]
def fits (e : Ent) : Bool := decide (e.1 ≠ []) && (decide ((0 : UInt8) ∉ e.1) && (decide (0 ≤ e.2) && decide (e.2 ≤ 4294967295)))
theorem fits_iff {e : Ent} : fits e = true ↔ e.1 ≠ [] ∧ (0 : UInt8) ∉ e.1 ∧ 0 ≤ e.2 ∧ e.2 ≤ 4294967295 := by simp [fits]
def W4 (n : Nat) : List UInt8 := [UInt8.ofNat (n / 16777216), UInt8.ofNat (n / 65536), UInt8.ofNat (n / 256), UInt8.ofNat n]
def num (b : List UInt8) : Nat := (((b.getD 0 0).toNat * 256 + (b.getD 1 0).toNat) * 256 + (b.getD 2 0).toNat) * 256 + (b.getD 3 0).toNat
theorem num_W4 {n : Nat} (h : n < 4294967296) (r : List UInt8) : num (W4 n ++ r) = n := by
 simp [num, W4]
 omega
theorem num_lt (b : List UInt8) : num b < 4294967296 := by
 unfold num
 have h0 := (b.getD 0 0).toNat_lt
 have h1 := (b.getD 1 0).toNat_lt
 have h2 := (b.getD 2 0).toNat_lt
 have h3 := (b.getD 3 0).toNat_lt
 omega
theorem W4_num : ∀ {b : List UInt8}, 4 ≤ b.length → W4 (num b) = b.take 4
 | a :: b :: c :: d :: r, _ => by
  have h0 := a.toNat_lt
  have h1 := b.toNat_lt
  have h2 := c.toNat_lt
  have h3 := d.toNat_lt
  simp only [W4, num, List.getD_cons_zero, List.getD_cons_succ, List.take_succ_cons, List.take_zero, List.cons.injEq, and_true]
  refine ⟨?_, ?_, ?_, ?_⟩ <;> (apply UInt8.toNat_inj.1; simp only [UInt8.toNat_ofNat']; omega)
theorem W4_len (n : Nat) : (W4 n).length = 4 := rfl
def offs (l : List Ent) : List UInt8 := l.flatMap fun e => W4 e.2.toNat
def nams (l : List Ent) : List UInt8 := l.flatMap fun e => e.1 ++ [0]
def encB (l : List Ent) : List UInt8 := W4 l.length ++ offs l ++ nams l
theorem offs_len : ∀ l : List Ent, (offs l).length = 4 * l.length
 | [] => rfl
 | e :: l => by
  have ih := offs_len l
  simp only [offs, List.flatMap_cons, List.length_append, W4_len, List.length_cons] at ih ⊢
  omega

def isz (x : UInt8) : Bool := x != 0
def next (r : List UInt8) : Option (Str × List UInt8) :=
 if r.takeWhile isz = [] ∨ r.dropWhile isz = [] then none else some (r.takeWhile isz, (r.dropWhile isz).tail)
theorem isz_of {s : Str} (h : (0 : UInt8) ∉ s) : ∀ x ∈ s, isz x = true := fun x hx => by
 simp only [isz, bne_iff_ne]; intro e; subst e; exact h hx
theorem tw_app {s : Str} (h : ∀ x ∈ s, isz x = true) (r : List UInt8) : (s ++ r).takeWhile isz = s ++ r.takeWhile isz := by
 rw [List.takeWhile_append_of_pos h]
theorem dw_app {s : Str} (h : ∀ x ∈ s, isz x = true) (r : List UInt8) : (s ++ r).dropWhile isz = r.dropWhile isz := by
 rw [List.dropWhile_append_of_pos h]
theorem next_name {s : Str} (h1 : s ≠ []) (h2 : (0 : UInt8) ∉ s) (r : List UInt8) : next (s ++ 0 :: r) = some (s, r) := by
 unfold next
 rw [tw_app (isz_of h2), dw_app (isz_of h2)]
 simp [isz, h1]
theorem next_some {r r' : List UInt8} {s : Str} (h : next r = some (s, r')) : r = s ++ 0 :: r' ∧ s ≠ [] ∧ (0 : UInt8) ∉ s := by
 unfold next at h
 split at h
 ·simp at h
 ·rename_i hn
  simp only [not_or] at hn
  simp only [Option.some.injEq, Prod.mk.injEq] at h
  obtain ⟨e1, e2⟩ := h
  subst e1
  refine ⟨?_, hn.1, fun h => ?_⟩
  ·have e := (List.takeWhile_append_dropWhile (p := isz) (l := r)).symm
   cases hd : r.dropWhile isz with
   | nil => exact absurd hd hn.2
   | cons x t =>
    rw [hd] at e e2
    have hx : x = 0 := by
     have := List.head?_dropWhile_not isz r
     rw [hd] at this
     simpa [isz] using this
    subst hx
    simp only [List.tail_cons] at e2
    subst e2
    exact e
  ·have := List.all_takeWhile (p := isz) (l := r)
   have := List.all_eq_true.1 this 0 h
   simp [isz] at this
theorem ib_spec : ∀ r : List UInt8, Lib.indexByte r 0 = if r.dropWhile isz = [] then -1 else ((r.takeWhile isz).length : Int)
 | [] => rfl
 | x :: r => by
  have ih := ib_spec r
  simp only [Lib.indexByte]
  by_cases hx : x = 0
  ·subst hx; simp [isz]
  ·have h1 : isz x = true := by simp [isz, hx]
   have h2 : (x == 0) = false := by simp [hx]
   rw [h2, ih]
   simp only [List.dropWhile_cons, List.takeWhile_cons, h1, if_true, Bool.false_eq_true, if_false]
   split
   ·rfl
   ·rename_i hne
    have : (((r.takeWhile isz).length : Int) == -1) = false := by simp
    rw [this]; simp
theorem take_tw (r : List UInt8) : r.take (r.takeWhile isz).length = r.takeWhile isz := (List.prefix_iff_eq_take.1 (List.takeWhile_prefix isz)).symm
theorem drop_tw (r : List UInt8) : r.drop ((r.takeWhile isz).length + 1) = (r.dropWhile isz).tail := by
 have e := List.takeWhile_append_dropWhile (p := isz) (l := r)
 have h : ∀ a b : List UInt8, (a ++ b).drop (a.length + 1) = b.tail := fun a b => by
  rw [← List.drop_drop, List.drop_left, List.drop_one]
 have := h (r.takeWhile isz) (r.dropWhile isz)
 rwa [e] at this

def decL (t : List UInt8) : Nat → Nat → List UInt8 → Option (List Ent)
 | _, 0, r => if r = [] then some [] else none
 | i, k + 1, r => match next r with
  | none => none
  | some (s, r') => (decL t (i + 1) k r').map fun q => (s, (num (t.drop (4 * i)) : Int)) :: q
def dec (b : List UInt8) : Option (List Ent) :=
 if b.length < 4 then none else if (b.length - 4) / 4 < num b then none else decL (b.drop 4) 0 (num b) ((b.drop 4).drop (4 * num b))

theorem decL_names (t : List UInt8) : ∀ (l : List Ent) (i : Nat) (x : List UInt8), l.all fits = true → (∀ j e, l[j]? = some e → (num (t.drop (4 * (i + j))) : Int) = e.2) →
  decL t i l.length (nams l ++ x) = if x = [] then some l else none
 | [], i, x, _, _ => by
  simp only [List.length_nil, decL, nams, List.flatMap_nil, List.nil_append]
 | e :: l, i, x, hf, ho => by
  simp only [List.all_cons, Bool.and_eq_true] at hf
  obtain ⟨h1, h2, h3, h4⟩ := fits_iff.1 hf.1
  have ih := decL_names t l (i + 1) x hf.2 (fun j e' he => by
   have := ho (j + 1) e' (by simpa using he)
   rw [← this]; congr 3; omega)
  have e0 := ho 0 e (by simp)
  simp only [Nat.add_zero] at e0
  have : nams (e :: l) ++ x = e.1 ++ 0 :: (nams l ++ x) := by simp [nams]
  rw [this]
  simp only [List.length_cons, decL, next_name h1 h2, ih, e0]
  split <;> simp
theorem decL_some (t : List UInt8) : ∀ (k i : Nat) (r : List UInt8) (q : List Ent), decL t i k r = some q →
  r = nams q ∧ q.length = k ∧ q.all fits = true ∧ ∀ j e, q[j]? = some e → e.2 = (num (t.drop (4 * (i + j))) : Int)
 | 0, i, r, q, h => by
  simp only [decL] at h
  split at h
  ·rename_i hr
   simp at h; subst h; subst hr
   exact ⟨rfl, rfl, rfl, fun j e he => by simp at he⟩
  ·simp at h
 | k + 1, i, r, q, h => by
  simp only [decL] at h
  split at h
  ·simp at h
  ·rename_i s r' hn
   simp only [Option.map_eq_some_iff] at h
   obtain ⟨q', hq', rfl⟩ := h
   obtain ⟨h1, h2, h3, h4⟩ := decL_some t k (i + 1) r' q' hq'
   obtain ⟨n1, n2, n3⟩ := next_some hn
   refine ⟨?_, by simp [h2], ?_, fun j e he => ?_⟩
   ·rw [n1, h1]; simp [nams]
   ·simp only [List.all_cons, h3, Bool.and_true]
    refine fits_iff.2 ⟨n2, n3, by simp, ?_⟩
    have := num_lt (t.drop (4 * i))
    simp; omega
   ·cases j with
    | zero => simp at he; subst he; simp
    | succ j =>
     rw [h4 j e (by simpa using he)]
     congr 3; omega

theorem drop_offs : ∀ (l : List Ent) (j : Nat) (e : Ent) (r : List UInt8), l[j]? = some e → (offs l ++ r).drop (4 * j) = W4 e.2.toNat ++ (offs (l.drop (j + 1)) ++ r)
 | [], j, e, r, h => by simp at h
 | x :: l, 0, e, r, h => by simp at h; subst h; simp [offs]
 | x :: l, j + 1, e, r, h => by
  have ih := drop_offs l j e r (by simpa using h)
  have : offs (x :: l) ++ r = W4 x.2.toNat ++ (offs l ++ r) := by simp [offs]
  rw [this]
  have e1 : 4 * (j + 1) = 4 + 4 * j := by omega
  rw [e1, ← List.drop_drop, List.drop_left' (W4_len _), ih]
  simp
theorem encB_parts {l : List Ent} (hl : l.length < 4294967296) (x : List UInt8) : num (encB l ++ x) = l.length ∧ (encB l ++ x).drop 4 = offs l ++ (nams l ++ x) ∧ ((encB l ++ x).drop 4).drop (4 * l.length) = nams l ++ x := by
 have e : encB l ++ x = W4 l.length ++ (offs l ++ (nams l ++ x)) := by simp [encB]
 rw [e]
 refine ⟨num_W4 hl _, List.drop_left' (W4_len _), ?_⟩
 rw [List.drop_left' (W4_len _), List.drop_left' (offs_len l)]
theorem encB_len (l : List Ent) : (encB l).length = 4 + 4 * l.length + (nams l).length := by
 simp [encB, W4_len, offs_len]; omega
theorem dec_encB {l : List Ent} (hl : l.length < 4294967296) (hf : l.all fits = true) (x : List UInt8) : dec (encB l ++ x) = if x = [] then some l else none := by
 obtain ⟨h1, h2, h3⟩ := encB_parts hl x
 unfold dec
 have hlen := encB_len l
 rw [h1, h3, h2, if_neg (by simp; omega), if_neg (by simp; omega)]
 refine decL_names _ l 0 x hf fun j e he => ?_
 rw [Nat.zero_add, drop_offs l j e _ he]
 have hfe := fits_iff.1 (List.all_eq_true.1 hf e (List.mem_of_getElem? he))
 rw [num_W4 (by omega)]
 omega
theorem take_offs (t : List UInt8) : ∀ (q : List Ent) (i : Nat), 4 * (i + q.length) ≤ t.length → (∀ j e, q[j]? = some e → e.2 = (num (t.drop (4 * (i + j))) : Int)) → offs q = (t.drop (4 * i)).take (4 * q.length)
 | [], i, _, _ => by simp [offs]
 | e :: q, i, hl, ho => by
  have ih := take_offs t q (i + 1) (by simp at hl; omega) (fun j e' he => by
   rw [ho (j + 1) e' (by simpa using he)]; congr 3; omega)
  have e0 := ho 0 e (by simp)
  simp only [Nat.add_zero] at e0
  have : offs (e :: q) = W4 e.2.toNat ++ offs q := by simp [offs]
  rw [this, ih, e0, Int.toNat_natCast, W4_num (by simp at hl ⊢; omega)]
  have e1 : 4 * (e :: q).length = 4 + 4 * q.length := by simp; omega
  have e2 : 4 * (i + 1) = 4 * i + 4 := by omega
  rw [e1, e2, ← List.drop_drop, List.take_add]
theorem enc_dec {b : List UInt8} {q : List Ent} (h : dec b = some q) : encB q = b ∧ q.all fits = true ∧ 4 * q.length + 4 ≤ b.length := by
 unfold dec at h
 split at h
 ·simp at h
 ·rename_i h4
  split at h
  ·simp at h
  ·rename_i hn
   obtain ⟨h1, h2, h3, h5⟩ := decL_some _ _ _ _ _ h
   have hlen : 4 * (0 + q.length) ≤ (b.drop 4).length := by simp; omega
   refine ⟨?_, h3, by simp at hlen; omega⟩
   have ho := take_offs (b.drop 4) q 0 hlen h5
   simp only [Nat.mul_zero, List.drop_zero] at ho
   unfold encB
   rw [← h1, ho, h2, W4_num (by omega)]
   rw [List.append_assoc, List.take_append_drop, List.take_append_drop]
end Go.AL.Ap

namespace Go.AL.Hd
open Go Go.AL
theorem val_lt {b : Nat} (hb : 2 ≤ b) : ∀ (l : List UInt8), (∀ x ∈ l, isd b x = true) → val b l < b ^ l.length := by
 intro l
 rw [← List.reverse_reverse l]
 generalize l.reverse = m
 induction m with
 | nil => intro _; simp [val]
 | cons x m ih =>
  intro h
  rw [List.reverse_cons] at h ⊢
  have hx := isd_iff.1 (h x (by simp))
  have h1 := ih (fun y hy => h y (by simp at hy ⊢; exact .inl hy))
  rw [val_snoc, List.length_append, List.length_singleton, Nat.pow_succ]
  have : (val b m.reverse + 1) * b ≤ b ^ m.reverse.length * b := Nat.mul_le_mul_right b h1
  rw [Nat.add_mul] at this; omega
theorem pow_le {b k : Nat} (hb2 : b ≤ 10) (hk : k ≤ 18) : b ^ k ≤ 1000000000000000000 := by
 have h1 : b ^ k ≤ 10 ^ k := Nat.pow_le_pow_left hb2 k
 have h2 : 10 ^ k ≤ 10 ^ 18 := Nat.pow_le_pow_right (by omega) hk
 have h3 : (10 : Nat) ^ 18 = 1000000000000000000 := by decide
 omega
theorem val_take_succ {b : Nat} {l : List UInt8} {k : Nat} {x : UInt8} (hx : l[k]? = some x) : val b (l.take (k + 1)) = val b (l.take k) * b + (x.toNat - 48) := by
 rw [List.take_add_one, hx]; exact val_snoc _ _ _
def opR : Option Nat → Nat × Int
 | some n => (n, 0)
 | none => (0, 3)
def parseR (b : Nat) (l : List UInt8) : Nat × Int :=
 if l.length < 1 ∨ 18 < l.length then (0, 13) else opR (pf b l)
theorem tw_take {b : Nat} {l : List UInt8} {k : Nat} (hk : k ≤ l.length) (h : (l.take k).all (isd b) = true) (hn : ∀ c, l[k]? = some c → isd b c = false) : l.takeWhile (isd b) = l.take k ∧ l.dropWhile (isd b) = l.drop k := by
 have := takeWhile_app (p := isd b) (a := l.take k) (r := l.drop k) (List.all_eq_true.1 h) (by
  cases hd : l.drop k with
  | nil => exact .inl rfl
  | cons c s =>
   refine .inr ⟨c, s, rfl, hn c ?_⟩
   have : (l.drop k)[0]? = some c := by rw [hd]; rfl
   rwa [List.getElem?_drop, Nat.add_zero] at this)
 rwa [List.take_append_drop] at this
theorem pf_at {b : Nat} {l : List UInt8} {k : Nat} (hk : k ≤ l.length) (h : (l.take k).all (isd b) = true) (hn : ∀ c, l[k]? = some c → isd b c = false) :
  pf b l = if 0 < k ∧ (l.drop k).all (· == 32) = true ∧ (k = 1 ∨ l.head? ≠ some 48) then some (val b (l.take k)) else none := by
 obtain ⟨h1, h2⟩ := tw_take hk h hn
 unfold pf
 rw [h1, h2]
 have e1 : l.take k ≠ [] ↔ 0 < k := by
  rw [ne_eq, ← List.length_eq_zero_iff, List.length_take]; omega
 by_cases h0 : 0 < k
 ·have e2 : lead (l.take k) ↔ (k = 1 ∨ l.head? ≠ some 48) := by
   unfold lead
   rw [List.length_take, Nat.min_eq_left hk]
   have : (l.take k).head? = l.head? := by
    cases l with
    | nil => simp
    | cons c l => cases k with | zero => omega | succ k => simp
   rw [this]
  simp only [e1, e2]
 ·rw [if_neg (fun h => h0 (e1.1 h.1)), if_neg (fun h => h0 h.1)]
theorem pf_none {b : Nat} {l : List UInt8} {k : Nat} {c : UInt8} (hc : l[k]? = some c) (h : (l.take k).all (isd b) = true) (hn : isd b c = false) (hs : c ≠ 32) : pf b l = none := by
 have hk := (List.getElem?_eq_some_iff.1 hc).1
 rw [pf_at (Nat.le_of_lt hk) h (fun d hd => by rw [hc] at hd; injection hd with hd; subst hd; exact hn)]
 have : (l.drop k).all (· == 32) = false := by
  rw [List.all_eq_false]
  refine ⟨c, ?_, by simp [hs]⟩
  have : (l.drop k)[0]? = some c := by rw [List.getElem?_drop, Nat.add_zero]; exact hc
  exact List.mem_of_getElem? this
 simp [this]
theorem pf_iff_fmt {b : Nat} {l : List UInt8} {n : Nat} (hb : 2 ≤ b) (hb2 : b ≤ 10) : pf b l = some n ↔ fmt b l.length n = some l :=
 ⟨pf_some hb hb2, fun h => by have := pf_fmt hb hb2 h; simpa using this⟩
theorem sub8 {x : UInt8} (h : 48 ≤ x.toNat) : intBin .sub .u8 (x.toNat : Int) 48 = some ((x.toNat - 48 : Nat) : Int) := by
 have e : (x.toNat : Int) - 48 = ((x.toNat - 48 : Nat) : Int) := by omega
 have hx := x.toNat_lt
 simp only [intBin, e]
 rw [wrapU8, UInt8.toNat_ofNat', Nat.mod_eq_of_lt (by omega)]
def numR (b : Nat) (l : List UInt8) (bl : Bool) : Nat × Bool :=
 if bl = true then (0, decide (l = sp l.length)) else ((parseR b l).1, decide ((parseR b l).2 = 0))
def trimR (l : Str) : Str := (l.reverse.dropWhile (· == 32)).reverse
theorem trimR_snoc (l : Str) (c : UInt8) : trimR (l ++ [c]) = if c = 32 then trimR l else l ++ [c] := by
 unfold trimR
 rw [List.reverse_append]
 simp only [List.reverse_cons, List.reverse_nil, List.nil_append, List.singleton_append, List.dropWhile_cons]
 by_cases h : c = 32
 ·simp [h]
 ·simp [h]
theorem trimR_sp (l : Str) : ∀ k, trimR (l ++ sp k) = trimR l
 | 0 => by simp
 | k + 1 => by rw [sp, List.replicate_succ', ← List.append_assoc, trimR_snoc, if_pos rfl]; exact trimR_sp l k
theorem trimR_self {l : Str} (h : l.getLast? ≠ some 32) : trimR l = l := by
 rcases List.eq_nil_or_concat l with rfl | ⟨m, c, rfl⟩
 ·rfl
 ·rw [List.concat_eq_append] at h ⊢
  rw [trimR_snoc, if_neg (by simpa using h)]
theorem trimR_at {l : Str} {n : Nat} (hn : n ≤ l.length) (h : (l.drop n).all (· == 32) = true) (h0 : n = 0 ∨ l[n - 1]? ≠ some 32) : trimR l = l.take n := by
 have e : l = l.take n ++ sp (l.drop n).length := by rw [← all_sp.1 h, List.take_append_drop]
 have e2 : trimR l = trimR (l.take n) := by
  conv => lhs; rw [e]
  exact trimR_sp _ _
 rw [e2]
 apply trimR_self
 rcases h0 with rfl | h0
 ·simp
 ·rcases Nat.eq_zero_or_pos n with rfl | hp
  ·simp
  ·rw [List.getLast?_eq_getElem?, List.length_take, Nat.min_eq_left hn, List.getElem?_take, if_pos (by omega)]; exact h0
abbrev prt (l : Str) (a b : Nat) : Str := (l.take b).drop a
theorem prt_len {l : Str} {a b : Nat} (hab : a ≤ b) (hb : b ≤ l.length) : (prt l a b).length = b - a := by simp [prt]; omega
abbrev hdr0 : Hdr := ⟨[], 0, 0, 0, 0, 0⟩
def decR (l : Str) : Hdr × Int :=
 if l.length < 60 then (hdr0, 2)
 else if l[58]? = some 96 ∧ l[59]? = some 10 then
  if fitN (trimR (l.take 16)) = true then
   (if (numR 10 (prt l 16 28) (decide (trimR (l.take 16) = [47, 47]))).2 && ((numR 10 (prt l 28 34) (decide (trimR (l.take 16) = [47, 47]))).2 && ((numR 10 (prt l 34 40) (decide (trimR (l.take 16) = [47, 47]))).2 &&
     ((numR 8 (prt l 40 48) (decide (trimR (l.take 16) = [47, 47]))).2 && (numR 10 (prt l 48 58) false).2))) then
    (⟨trimR (l.take 16), (numR 10 (prt l 16 28) (decide (trimR (l.take 16) = [47, 47]))).1, (numR 10 (prt l 28 34) (decide (trimR (l.take 16) = [47, 47]))).1, (numR 10 (prt l 34 40) (decide (trimR (l.take 16) = [47, 47]))).1,
     (numR 8 (prt l 40 48) (decide (trimR (l.take 16) = [47, 47]))).1, (numR 10 (prt l 48 58) false).1⟩, 0)
   else (hdr0, 3))
  else (hdr0, 6)
 else (hdr0, 4)
end Go.AL.Hd

namespace Go.AL.U8
open Go Go.AL
theorem get_sB (l : List UInt8) (i : Nat) : (⟨l.toArray⟩ : ByteArray).get! i = l.getD i 0 := by
  simp [ByteArray.get!, List.getD, getElem!_def]
  cases l[i]? <;> rfl
theorem size_sB (l : List UInt8) : (⟨l.toArray⟩ : ByteArray).size = l.length := by simp [ByteArray.size]
theorem dec_ascii {l : List UInt8} {i : Nat} {x : UInt8} (hx : l[i]? = some x) (h : x.toNat < 128) : Utf8.decode ⟨l.toArray⟩ i = (x.toNat, 1) := by
  have e : (⟨l.toArray⟩ : ByteArray).get! (i + 0) = x := by rw [get_sB]; simp [List.getD, hx]
  simp only [Utf8.decode, e]
  rw [if_pos h]
def cont (l : List UInt8) (i k : Nat) : Prop := i + k < l.length ∧ 128 ≤ (l.getD (i + k) 0).toNat
theorem cont_of {l : List UInt8} {i k : Nat} (h : decide (i + k < (⟨l.toArray⟩ : ByteArray).size) = true ∧ (((⟨l.toArray⟩ : ByteArray).get! (i + k)).toNat / 64 == 2) = true) : cont l i k := by
  rw [size_sB, get_sB] at h
  simp only [decide_eq_true_eq, beq_iff_eq] at h
  exact ⟨h.1, by omega⟩
theorem dec_more {l : List UInt8} {i : Nat} {x : UInt8} (hx : l[i]? = some x) (h : 128 ≤ x.toNat) :
    128 ≤ (Utf8.decode ⟨l.toArray⟩ i).1 ∧ Utf8.valid ((Utf8.decode ⟨l.toArray⟩ i).1 : Nat) = true ∧ 1 ≤ (Utf8.decode ⟨l.toArray⟩ i).2 ∧ ∀ k, k < (Utf8.decode ⟨l.toArray⟩ i).2 → cont l i k := by
  have hil := (List.getElem?_eq_some_iff.1 hx).1
  have e : (⟨l.toArray⟩ : ByteArray).get! (i + 0) = x := by rw [get_sB]; simp [List.getD, hx]
  have c0 : cont l i 0 := ⟨hil, by have : l.getD (i + 0) 0 = x := by simp [List.getD, hx]
                                   rw [this]; exact h⟩
  have key : ∀ p : Nat × Nat, Utf8.decode ⟨l.toArray⟩ i = p → 128 ≤ p.1 ∧ Utf8.valid (p.1 : Nat) = true ∧ 1 ≤ p.2 ∧ ∀ k, k < p.2 → cont l i k := by
    intro p hp
    have err : p = (65533, 1) → 128 ≤ p.1 ∧ Utf8.valid (p.1 : Nat) = true ∧ 1 ≤ p.2 ∧ ∀ k, k < p.2 → cont l i k := by
      rintro rfl
      exact ⟨by decide, by decide, by decide, fun k hk => by obtain rfl : k = 0 := by simp at hk; omega
                                                             exact c0⟩
    simp only [Utf8.decode, e, Utf8.runeError] at hp
    rw [if_neg (by omega)] at hp
    split at hp
    · rename_i h1
      simp only [Bool.and_eq_true] at h1
      split at hp
      · rename_i h2
        subst hp
        have hb : 2 ≤ (x.toNat % 32) := by
          have := Nat.mod_lt ((⟨l.toArray⟩ : ByteArray).get! (i + 1)).toNat (show 0 < 64 by omega)
          simp only [ge_iff_le] at h2
          omega
        refine ⟨h2, ?_, Nat.le_of_ble_eq_true rfl, fun k hk => ?_⟩
        · have := Nat.mod_lt ((⟨l.toArray⟩ : ByteArray).get! (i + 1)).toNat (show 0 < 64 by omega)
          have h5 := Nat.mod_lt x.toNat (show 0 < 32 by omega)
          simp only [Utf8.valid, Bool.or_eq_true, Bool.and_eq_true, decide_eq_true_eq]
          left; omega
        · match k, hk with
          | 0, _ => exact c0
          | 1, _ => exact cont_of h1.2
          | k + 2, hk => exact absurd (show k + 2 < 2 from hk) (by omega)
      · exact err hp.symm
    · split at hp
      · rename_i h1
        simp only [Bool.and_eq_true] at h1
        split at hp
        · rename_i h2
          simp only [Bool.and_eq_true, decide_eq_true_eq, ge_iff_le] at h2
          subst hp
          refine ⟨by show 128 ≤ _; have := h2.1; omega, h2.2, Nat.le_of_ble_eq_true rfl, fun k hk => ?_⟩
          match k, hk with
          | 0, _ => exact c0
          | 1, _ => exact cont_of h1.1.2
          | 2, _ => exact cont_of h1.2
          | k + 3, hk => exact absurd (show k + 3 < 3 from hk) (by omega)
        · exact err hp.symm
      · split at hp
        · rename_i h1
          simp only [Bool.and_eq_true] at h1
          split at hp
          · rename_i h2
            simp only [Bool.and_eq_true, decide_eq_true_eq, ge_iff_le] at h2
            subst hp
            refine ⟨by show 128 ≤ _; have := h2.1; omega, h2.2, Nat.le_of_ble_eq_true rfl, fun k hk => ?_⟩
            match k, hk with
            | 0, _ => exact c0
            | 1, _ => exact cont_of h1.1.1.2
            | 2, _ => exact cont_of h1.1.2
            | 3, _ => exact cont_of h1.2
            | k + 4, hk => exact absurd (show k + 4 < 4 from hk) (by omega)
          · exact err hp.symm
        · exact err hp.symm
  exact key _ rfl
theorem ofN {n : Nat} (h : 128 ≤ n) (h2 : n < 256) : 128 ≤ (UInt8.ofNat n).toNat := by rw [UInt8.toNat_ofNat', Nat.mod_eq_of_lt h2]; exact h
theorem enc_more {r : Nat} (h : 128 ≤ r) (hv : Utf8.valid (r : Int) = true) : ∃ m : List UInt8, Utf8.encode (r : Int) = ⟨m.toArray⟩ ∧ 2 ≤ m.length ∧ m.length ≤ 4 ∧ ∀ x ∈ m, 128 ≤ x.toNat := by
  have hr : r ≤ 1114111 := by
    simp only [Utf8.valid, Bool.or_eq_true, Bool.and_eq_true, decide_eq_true_eq] at hv
    omega
  have hc : ∀ y : Nat, 128 ≤ (UInt8.ofNat (128 + y % 64)).toNat := fun y => ofN (by omega) (by have := Nat.mod_lt y (show 0 < 64 by omega); omega)
  simp only [Utf8.encode, hv, if_true, Int.toNat_natCast]
  rw [if_neg (by omega)]
  split
  · exact ⟨_, rfl, Nat.le_of_ble_eq_true rfl, Nat.le_of_ble_eq_true rfl, fun x hx => by
      simp only [List.mem_cons, List.not_mem_nil, or_false] at hx
      rcases hx with rfl | rfl
      · exact ofN (by omega) (by omega)
      · exact hc _⟩
  · split
    · exact ⟨_, rfl, Nat.le_of_ble_eq_true rfl, Nat.le_of_ble_eq_true rfl, fun x hx => by
        simp only [List.mem_cons, List.not_mem_nil, or_false] at hx
        rcases hx with rfl | rfl | rfl
        · exact ofN (by omega) (by omega)
        · exact hc _
        · exact hc _⟩
    · exact ⟨_, rfl, Nat.le_of_ble_eq_true rfl, Nat.le_of_ble_eq_true rfl, fun x hx => by
        simp only [List.mem_cons, List.not_mem_nil, or_false] at hx
        rcases hx with rfl | rfl | rfl | rfl
        · exact ofN (by omega) (by omega)
        · exact hc _
        · exact hc _
        · exact hc _⟩
theorem ibyte_none {l : List UInt8} {c : UInt8} (h : ∀ x ∈ l, x ≠ c) : Lib.indexByte l c = -1 := by
  induction l with
  | nil => rfl
  | cons b l ih =>
    have h1 : (b == c) = false := beq_eq_false_iff_ne.2 (h b (by simp))
    simp [Lib.indexByte, h1, ih fun x hx => h x (by simp [hx])]
theorem ibyte_some {l : List UInt8} {c : UInt8} (h : c ∈ l) : 0 ≤ Lib.indexByte l c := by
  induction l with
  | nil => simp at h
  | cons b l ih =>
    by_cases h1 : (b == c) = true
    · simp [Lib.indexByte, h1]
    · have h2 : c ∈ l := by
        rcases List.mem_cons.1 h with rfl | h
        · simp at h1
        · exact h
      have := ih h2
      simp only [Lib.indexByte, h1, Bool.false_eq_true, if_false]
      split
      · rename_i h3; have := eq_of_beq h3; omega
      · omega
end Go.AL.U8

namespace Go.AL.Ln
open Go Go.AL Go.AL.Hd

def cut2 : Str → Option (Str × Str)
 | [] => none
 | x :: r => if x = 47 ∧ r.head? = some 10 then some ([], r.tail) else (cut2 r).map fun p => (x :: p.1, p.2)

theorem cut2_some : ∀ {l a b : Str}, cut2 l = some (a, b) → l = a ++ 47 :: 10 :: b
 | [], a, b, h => by simp [cut2] at h
 | x :: r, a, b, h => by
  unfold cut2 at h
  split at h
  ·rename_i hx
   simp at h
   obtain ⟨rfl, rfl⟩ := h
   obtain ⟨rfl, h2⟩ := hx
   cases r with
   | nil => simp at h2
   | cons y r => simp at h2; subst h2; rfl
  ·cases hc : cut2 r with
   | none => rw [hc] at h; simp at h
   | some p =>
    obtain ⟨a', b'⟩ := p
    rw [hc] at h
    simp at h
    obtain ⟨rfl, rfl⟩ := h
    have := cut2_some hc
    rw [this]; rfl
theorem cut2_len {l a b : Str} (h : cut2 l = some (a, b)) : b.length < l.length := by
 have := congrArg List.length (cut2_some h)
 simp at this; omega
theorem cut2_of : ∀ {a : Str} (b : Str), (∀ x ∈ a, x ≠ 47) → cut2 (a ++ 47 :: 10 :: b) = some (a, b)
 | [], b, _ => by simp [cut2]
 | x :: a, b, h => by
  have hx : x ≠ 47 := h x (by simp)
  simp only [List.cons_append, cut2]
  rw [if_neg (fun e => hx e.1), cut2_of b (fun y hy => h y (by simp [hy]))]
  rfl
theorem index_cut2 : ∀ l : Str, Lib.index l [47, 10] = match cut2 l with | none => -1 | some (a, _) => (a.length : Int)
 | [] => rfl
 | x :: r => by
  have ih := index_cut2 r
  unfold Lib.index cut2
  have hp : ([47, 10] : Str).isPrefixOf (x :: r) = decide (x = 47 ∧ r.head? = some 10) := by
   cases r with
   | nil => simp [List.isPrefixOf]
   | cons y r =>
    simp only [List.isPrefixOf, List.head?_cons, Option.some.injEq, Bool.and_true]
    rw [Bool.eq_iff_iff]
    simp
    constructor <;> intro ⟨a, b⟩ <;> exact ⟨a.symm, b.symm⟩
  rw [hp]
  by_cases hx : x = 47 ∧ r.head? = some 10
  ·simp [hx]
  ·rw [if_neg (by simpa using hx), if_neg hx, ih]
   cases hc : cut2 r with
   | none => rfl
   | some p =>
    have : ((p.1.length : Int) == -1) = false := by simp
    simp [this]

def cutI (l : Str) : Int := match cut2 l with | none => -1 | some (a, _) => (a.length : Int)
theorem index_cutI (l : Str) : Lib.index l [47, 10] = cutI l := by
 rw [index_cut2]; unfold cutI; split <;> rfl
def tabP (ns : List Str) : Str := ns.flatMap fun n => n ++ [47, 10]
theorem tabP_nil : tabP [] = [] := rfl
theorem tabP_cons (n : Str) (ns : List Str) : tabP (n :: ns) = n ++ 47 :: 10 :: tabP ns := by simp [tabP]
theorem tabP_app (a b : List Str) : tabP (a ++ b) = tabP a ++ tabP b := by simp [tabP]
theorem valid_not {n : Str} (h : validN n = true) : (∀ x ∈ n, x ≠ 47 ∧ x ≠ 10 ∧ x ≠ 0) ∧ 1 ≤ n.length ∧ n.length ≤ 255 := by
 unfold validN at h
 simp only [Bool.and_eq_true, decide_eq_true_eq, Bool.not_eq_true', List.any_eq_false] at h
 refine ⟨fun x hx => ?_, h.1⟩
 have := h.2 x hx
 simpa [bad3] using this
theorem valid_47 {n : Str} (h : validN n = true) : ∀ x ∈ n, x ≠ 47 := fun x hx => ((valid_not h).1 x hx).1
theorem not_valid {n : Str} {x : UInt8} (hx : x ∈ n) (hb : x = 47 ∨ x = 10 ∨ x = 0) : validN n = false := by
 cases h : validN n with
 | false => rfl
 | true =>
  have := (valid_not h).1 x hx
  rcases hb with e | e | e <;> simp [e] at this

def entO (t : Str) : Option (List Str) :=
 match h : cut2 t with
 | none => if t = [] then some [] else none
 | some (a, b) => if validN a = true then (entO b).map (a :: ·) else none
termination_by t.length
decreasing_by exact cut2_len h
theorem entO_none {t : Str} (h : cut2 t = none) : entO t = if t = [] then some [] else none := by
 unfold entO
 split
 ·rfl
 ·rename_i h2; rw [h] at h2; cases h2
theorem entO_some {t a b : Str} (h : cut2 t = some (a, b)) : entO t = if validN a = true then (entO b).map (a :: ·) else none := by
 rw [entO]
 split
 ·rename_i h2; rw [h] at h2; cases h2
 ·rename_i h2
  rw [h] at h2
  cases h2
  rfl
theorem ent_of : ∀ (ns : List Str), (∀ n ∈ ns, validN n = true) → entO (tabP ns) = some ns
 | [], _ => by rw [entO_none rfl]; rfl
 | n :: ns, h => by
  have h1 := h n (by simp)
  rw [tabP_cons, entO_some (cut2_of _ (valid_47 h1)), if_pos h1, ent_of ns fun m hm => h m (by simp [hm])]
  rfl
theorem ent_to : ∀ (k : Nat) {t : Str} {ns : List Str}, t.length ≤ k → entO t = some ns → t = tabP ns ∧ ∀ n ∈ ns, validN n = true
 | k, t, ns, hk, h => by
  cases hc : cut2 t with
  | none =>
   rw [entO_none hc] at h
   split at h
   ·rename_i e; simp at h; subst h; exact ⟨e, fun n hn => by simp at hn⟩
   ·simp at h
  | some p =>
   obtain ⟨a, b⟩ := p
   rw [entO_some hc] at h
   split at h
   ·rename_i hv
    cases he : entO b with
    | none => rw [he] at h; simp at h
    | some ms =>
     rw [he] at h
     simp at h; subst h
     have hl := cut2_len hc
     match k, hk with
     | k + 1, hk =>
      obtain ⟨h1, h2⟩ := ent_to k (by omega) he
      refine ⟨by rw [cut2_some hc, tabP_cons, ← h1], fun n hn => ?_⟩
      rcases List.mem_cons.1 hn with e | e
      ·rw [e]; exact hv
      ·exact h2 n e
     | 0, hk => omega
   ·simp at h
theorem ent_iff {t : Str} {ns : List Str} : entO t = some ns ↔ t = tabP ns ∧ ∀ n ∈ ns, validN n = true :=
 ⟨ent_to _ (Nat.le_refl _), fun ⟨h1, h2⟩ => by rw [h1]; exact ent_of ns h2⟩
def entR (t : Str) : List Str × Int := match entO t with | some ns => (ns, 0) | none => ([], 7)

def linesP (at' : Nat) (t : Str) : List (Nat × Str) :=
 match h : cut2 t with
 | none => if t = [] then [] else [(at', t ++ [47])]
 | some (a, b) => (at', a) :: linesP (at' + a.length + 2) b
termination_by t.length
decreasing_by exact cut2_len h
theorem linesP_none {k : Nat} {t : Str} (h : cut2 t = none) : linesP k t = if t = [] then [] else [(k, t ++ [47])] := by
 rw [linesP]
 split
 ·rfl
 ·rename_i h2; rw [h] at h2; cases h2
theorem linesP_some {k : Nat} {t a b : Str} (h : cut2 t = some (a, b)) : linesP k t = (k, a) :: linesP (k + a.length + 2) b := by
 rw [linesP]
 split
 ·rename_i h2; rw [h] at h2; cases h2
 ·rename_i h2
  rw [h] at h2
  cases h2
  rfl
theorem ent_lines : ∀ (k : Nat) {t : Str} (i : Nat), t.length ≤ k → entO t = if (linesP i t).all (fun p => validN p.2) = true then some ((linesP i t).map (·.2)) else none
 | k, t, i, hk => by
  cases hc : cut2 t with
  | none =>
   rw [entO_none hc, linesP_none hc]
   split
   ·rfl
   ·have : validN (t ++ [47]) = false := not_valid (x := 47) (by simp) (.inl rfl)
    simp [this]
  | some p =>
   obtain ⟨a, b⟩ := p
   rw [entO_some hc, linesP_some hc]
   have hl := cut2_len hc
   match k, hk with
   | 0, hk => omega
   | k + 1, hk =>
    rw [ent_lines k (i + a.length + 2) (by omega)]
    cases hv : validN a with
    | false => simp [hv]
    | true =>
     simp only [if_true, List.all_cons, hv, Bool.true_and, List.map_cons]
     split <;> rfl
theorem lines_len : ∀ (n k : Nat) {t : Str}, t.length ≤ n → (linesP k t).length ≤ t.length ∧ ∀ x ∈ linesP k t, x.2.length ≤ t.length + 1 ∧ x.1 ≤ k + t.length
 | n, k, t, hn => by
  cases hc : cut2 t with
  | none =>
   rw [linesP_none hc]
   split
   ·simp
   ·rename_i h
    have : 0 < t.length := List.length_pos_iff.2 h
    refine ⟨by simp; omega, fun x hx => ?_⟩
    simp at hx
    subst hx
    exact ⟨by simp, by simp⟩
  | some p =>
   obtain ⟨a, b⟩ := p
   rw [linesP_some hc]
   have h1 := congrArg List.length (cut2_some hc)
   simp at h1
   match n, hn with
   | 0, hn => omega
   | n + 1, hn =>
    obtain ⟨h2, h3⟩ := lines_len n (k + a.length + 2) (t := b) (by omega)
    refine ⟨by simp; omega, fun x hx => ?_⟩
    rcases List.mem_cons.1 hx with e | e
    ·subst e; exact ⟨by simp; omega, by simp⟩
    ·obtain ⟨h4, h5⟩ := h3 x e
     exact ⟨by omega, by omega⟩
def offs (k : Nat) : List Str → List (Nat × Str)
 | [] => []
 | n :: ns => (k, n) :: offs (k + n.length + 2) ns
theorem lines_of : ∀ (ns : List Str) (k : Nat), (∀ n ∈ ns, validN n = true) → linesP k (tabP ns) = offs k ns
 | [], k, _ => by rw [tabP_nil, linesP_none rfl]; rfl
 | n :: ns, k, h => by
  have h1 := h n (by simp)
  rw [tabP_cons, linesP_some (cut2_of _ (valid_47 h1)), lines_of ns _ fun m hm => h m (by simp [hm])]
  rfl
def shortN (n : Str) : Bool := validN n && (decide (n.length ≤ 15) && decide (n.getLast? ≠ some 32))
def fldP (k : Nat) : List Str → List Str
 | [] => []
 | n :: ns => if shortN n = true then (n ++ [47]) :: fldP k ns else (47 :: dig 10 k) :: fldP (k + n.length + 2) ns
def longs (ns : List Str) : List Str := ns.filter fun n => !shortN n
theorem longs_snoc (l : List Str) (n : Str) : longs (l ++ [n]) = if shortN n = true then longs l else longs l ++ [n] := by
 unfold longs
 rw [List.filter_append]
 cases h : shortN n <;> simp [h]
theorem fldP_snoc : ∀ (l : List Str) (k : Nat) (n : Str), fldP k (l ++ [n]) = fldP k l ++ [if shortN n = true then n ++ [47] else 47 :: dig 10 (k + (tabP (longs l)).length)]
 | [], k, n => by
  cases h : shortN n <;> simp [fldP, h, longs, tabP]
 | m :: l, k, n => by
  simp only [List.cons_append, fldP]
  cases h : shortN m with
  | true =>
   rw [if_pos rfl, if_pos rfl, fldP_snoc l]
   simp [longs, h]
  | false =>
   rw [if_neg (by simp), if_neg (by simp), fldP_snoc l]
   have : longs (m :: l) = m :: longs l := by simp [longs, h]
   rw [this, tabP_cons]
   simp only [List.length_append, List.length_cons, List.cons_append]
   rw [show k + m.length + 2 + (tabP (longs l)).length = k + (m.length + ((tabP (longs l)).length + 1 + 1)) by omega]
theorem tabP_len {l : List Str} {c : Nat} (h : ∀ n ∈ l, n.length ≤ c) : (tabP l).length ≤ l.length * (c + 2) := by
 induction l with
 | nil => simp [tabP]
 | cons n l ih =>
  rw [tabP_cons]
  have := h n (by simp)
  have := ih fun m hm => h m (by simp [hm])
  simp only [List.length_append, List.length_cons]
  rw [Nat.add_mul]
  omega
theorem longs_len (l : List Str) : (longs l).length ≤ l.length := List.length_filter_le _ _
theorem longs_mem {l : List Str} {n : Str} (h : n ∈ longs l) : n ∈ l := (List.mem_filter.1 h).1
theorem fldP_len : ∀ (l : List Str) (k : Nat), (fldP k l).length = l.length
 | [], k => rfl
 | n :: l, k => by
  simp only [fldP]
  split <;> simp [fldP_len l]
def buildR (ns : List Str) : Str × List Str × Int :=
 if ns.all validN = true then (tabP (longs ns), fldP 0 ns, 0) else ([], [], 6)
def resP (fl t : Str) : Str × Int :=
 if fl.getLast? = some 47 ∧ shortN fl.dropLast = true then (fl.dropLast, 0)
 else match fl with
  | 47 :: ds => if ds.length ≤ 15 ∧ ds.contains 32 = false ∧ (parseR 10 ds).2 = 0 then
    (match (linesP 0 t).find? (fun p => decide (p.1 = (parseR 10 ds).1)) with | some p => (p.2, 0) | none => ([], 6)) else ([], 6)
  | _ => ([], 6)
theorem parse10_to {ds : Str} (hs : ds.contains 32 = false) (h : (parseR 10 ds).2 = 0) : ds = dig 10 (parseR 10 ds).1 := by
 unfold parseR at h ⊢
 split at h
 ·simp at h
 ·rename_i hl
  rw [if_neg hl]
  cases hp : pf 10 ds with
  | none => rw [hp] at h; simp [opR] at h
  | some n =>
   have hf := pf_some (by omega) (by omega) hp
   show ds = dig 10 n
   unfold fmt at hf
   split at hf
   ·simp at hf
   ·injection hf with hf
    simp only [Int.toNat_natCast] at hf
    cases hk : ds.length - (dig 10 n).length with
    | zero => rw [hk] at hf; simpa using hf.symm
    | succ k =>
     rw [hk] at hf
     have : (32 : UInt8) ∈ ds := by rw [← hf]; simp [sp, List.replicate_succ]
     rw [List.contains_iff_mem.2 this] at hs
     simp at hs
theorem parse10_of {n : Nat} (hl : (dig 10 n).length ≤ 18) : parseR 10 (dig 10 n) = (n, 0) := by
 unfold parseR
 have := dig_pos 10 n
 rw [if_neg (by omega)]
 have h := pf_dig (b := 10) (by omega) (by omega) n 0
 rw [show dig 10 n ++ sp 0 = dig 10 n by simp [sp]] at h
 rw [h]; rfl
theorem dig_no32 (n : Nat) : (dig 10 n).contains 32 = false := by
 cases h : (dig 10 n).contains 32 with
 | false => rfl
 | true =>
  have := dig_isd (b := 10) (by omega) (by omega) n 32 (by simpa using h)
  rw [isd_sp (by omega)] at this; simp at this
theorem dig_inj {m n : Nat} (h : dig 10 m = dig 10 n) : m = n := by
 have := congrArg (val 10) h
 rwa [val_dig (by omega) (by omega), val_dig (by omega) (by omega)] at this
end Go.AL.Ln

namespace Go.AL.Ln
open Go Go.AL Go.AL.Hd
theorem app_47 : ∀ {a b r s : Str}, (∀ x ∈ a, x ≠ 47) → (∀ x ∈ b, x ≠ 47) → a ++ 47 :: r = b ++ 47 :: s → a = b ∧ r = s
 | [], [], r, s, _, _, h => by simpa using h
 | [], y :: b, r, s, _, hb, h => by
  simp at h
  exact absurd h.1.symm (hb y (by simp))
 | x :: a, [], r, s, ha, _, h => by
  simp at h
  exact absurd h.1 (ha x (by simp))
 | x :: a, y :: b, r, s, ha, hb, h => by
  simp only [List.cons_append, List.cons.injEq] at h
  obtain ⟨e1, e2⟩ := app_47 (fun z hz => ha z (by simp [hz])) (fun z hz => hb z (by simp [hz])) h.2
  exact ⟨by rw [h.1, e1], e2⟩
theorem tab_pre : ∀ {out ns : List Str} {rest : Str}, (∀ n ∈ out, validN n = true) → (∀ n ∈ ns, validN n = true) → tabP ns = tabP out ++ rest → ∃ ns', ns = out ++ ns' ∧ rest = tabP ns'
 | [], ns, rest, _, _, h => ⟨ns, rfl, by simpa [tabP_nil] using h.symm⟩
 | m :: out, [], rest, ho, _, h => by
  rw [tabP_nil, tabP_cons] at h
  simp at h
 | m :: out, n :: ns, rest, ho, hn, h => by
  rw [tabP_cons, tabP_cons, List.append_assoc] at h
  obtain ⟨e1, e2⟩ := app_47 (valid_47 (hn n (by simp))) (valid_47 (ho m (by simp))) h
  simp at e2
  obtain ⟨ns', e3, e4⟩ := tab_pre (fun x hx => ho x (by simp [hx])) (fun x hx => hn x (by simp [hx])) e2
  exact ⟨ns', by rw [e1, e3]; rfl, e4⟩
theorem first_nl {n r : Str} (h : ∀ x ∈ n, x ≠ 10) {j : Nat} (hj : (n ++ 47 :: 10 :: r)[j]? = some 10) (hb : ∀ q, q < j → (n ++ 47 :: 10 :: r)[q]? ≠ some 10) : j = n.length + 1 := by
 have e1 : (n ++ 47 :: 10 :: r)[n.length + 1]? = some 10 := by
  rw [List.getElem?_append_right (by omega)]
  simp
 rcases Nat.lt_trichotomy j (n.length + 1) with hlt | he | hgt
 ·exfalso
  rcases Nat.lt_or_ge j n.length with h1 | h1
  ·rw [List.getElem?_append_left h1] at hj
   exact h 10 (List.mem_of_getElem? hj) rfl
  ·have : j = n.length := by omega
   subst this
   rw [List.getElem?_append_right (by omega)] at hj
   simp at hj
 ·exact he
 ·exact absurd e1 (hb _ hgt)
structure RdT (t : Str) (out : List Str) (fr i : Nat) : Prop where
 le : fr ≤ i
 li : i ≤ t.length
 pre : t.take fr = tabP out
 val : ∀ n ∈ out, validN n = true
 no : ∀ q, fr ≤ q → q < i → t[q]? ≠ some 10
theorem RdT.drop {t out fr i} (h : RdT t out fr i) : t = tabP out ++ t.drop fr := by rw [← h.pre, List.take_append_drop]
theorem RdT.fail {t : Str} {out : List Str} {fr i : Nat} (h : RdT t out fr i) (h10 : t[i]? = some 10) {ns : List Str} (he : entO t = some ns) :
  fr < i ∧ t[i - 1]? = some 47 ∧ validN (prt t fr (i - 1)) = true := by
 obtain ⟨h1, h2⟩ := ent_iff.1 he
 have hd := h.drop
 obtain ⟨ns', e1, e2⟩ := tab_pre (rest := t.drop fr) h.val h2 (by rw [← h1]; exact hd)
 cases ns' with
 | nil =>
  rw [tabP_nil] at e2
  have : t.length ≤ fr := by have := congrArg List.length e2; simp at this; omega
  have := (List.getElem?_eq_some_iff.1 h10).1
  have := h.le
  omega
 | cons n r =>
  rw [tabP_cons] at e2
  have hv : validN n = true := h2 n (by rw [e1]; simp)
  have hg : ∀ q, (t.drop fr)[q]? = t[fr + q]? := fun q => List.getElem?_drop
  have hle := h.le
  have hj := first_nl (n := n) (r := tabP r) (fun x hx => ((valid_not hv).1 x hx).2.1) (j := i - fr) (by rw [← e2, hg, show fr + (i - fr) = i by omega]; exact h10)
   (fun q hq => by rw [← e2, hg]; exact h.no _ (by omega) (by omega))
  refine ⟨by omega, ?_, ?_⟩
  ·have : (t.drop fr)[n.length]? = some 47 := by rw [e2]; simp
   rw [hg] at this
   rw [show i - 1 = fr + n.length by omega]; exact this
  ·have : prt t fr (i - 1) = n := by
    unfold prt
    rw [List.drop_take, e2, show i - 1 - fr = n.length by omega]
    simp
   rw [this]; exact hv
theorem RdT.step {t : Str} {out : List Str} {fr i : Nat} (h : RdT t out fr i) (h10 : t[i]? = some 10) (h1 : fr < i) (h47 : t[i - 1]? = some 47) (hv : validN (prt t fr (i - 1)) = true) :
  RdT t (out ++ [prt t fr (i - 1)]) (i + 1) (i + 1) := by
 have hlt := (List.getElem?_eq_some_iff.1 h10).1
 refine ⟨Nat.le_refl _, hlt, ?_, fun n hn => ?_, fun q h1 h2 => by omega⟩
 ·rw [tabP_app, tabP_cons, tabP_nil]
  rw [show t.take (i + 1) = t.take fr ++ prt t fr (i - 1) ++ [47, 10] by
   have e1 : t.take (i + 1) = t.take i ++ [10] := by rw [List.take_add_one, h10]; rfl
   have e2 : t.take i = t.take (i - 1) ++ [47] := by
    have : t.take (i - 1 + 1) = t.take (i - 1) ++ [47] := by rw [List.take_add_one, h47]; rfl
    rwa [show i - 1 + 1 = i by omega] at this
   have e3 : t.take (i - 1) = t.take fr ++ prt t fr (i - 1) := by
    unfold prt
    have := List.take_append_drop fr (t.take (i - 1))
    rw [List.take_take, show min fr (i - 1) = fr by omega] at this
    exact this.symm
   rw [e1, e2, e3]; simp, h.pre]
  simp
 ·rcases List.mem_append.1 hn with h | h'
  ·exact ‹RdT t out fr i›.val n h
  ·simp at h'; rw [h']; exact hv
theorem RdT.skip {t : Str} {out : List Str} {fr i : Nat} (h : RdT t out fr i) (hlt : i < t.length) (h10 : t[i]? ≠ some 10) : RdT t out fr (i + 1) :=
 ⟨by have := h.le; omega, hlt, h.pre, h.val, fun q h1 h2 => by
  rcases Nat.lt_or_ge q i with h3 | h3
  ·exact h.no q h1 h3
  ·have : q = i := by omega
   subst this; exact h10⟩
theorem RdT.done {t : Str} {out : List Str} {fr : Nat} (h : RdT t out fr t.length) : (fr = t.length → entO t = some out) ∧ (fr ≠ t.length → entO t = none) := by
 refine ⟨fun e => ?_, fun e => ?_⟩
 ·have := h.pre
  rw [e, List.take_length] at this
  exact ent_iff.2 ⟨this, h.val⟩
 ·cases he : entO t with
  | none => rfl
  | some ns =>
   obtain ⟨h1, h2⟩ := ent_iff.1 he
   obtain ⟨ns', e1, e2⟩ := tab_pre (rest := t.drop fr) h.val h2 (by rw [← h1]; exact h.drop)
   cases ns' with
   | nil =>
    rw [tabP_nil] at e2
    have := congrArg List.length e2
    simp at this
    have := h.le
    omega
   | cons n r =>
    rw [tabP_cons] at e2
    have hl := congrArg List.length e2
    simp at hl
    have h3 : (t.drop fr)[n.length + 1]? = some 10 := by rw [e2, List.getElem?_append_right (by omega)]; simp
    rw [List.getElem?_drop] at h3
    exact absurd h3 (h.no _ (by omega) (by omega))

def resR (fl t : Str) : Str × Int :=
 if fl = [] then ([], 6) else
 if fl.getLast? = some 47 ∧ shortN fl.dropLast = true then (fl.dropLast, 0)
 else match (offs 0 (entR t).1).find? (fun p => decide (fl = 47 :: dig 10 p.1) && decide ((dig 10 p.1).length ≤ 15)) with | some p => (p.2, 0) | none => ([], 6)
theorem res_eq (fl : Str) {t : Str} (he : (entR t).2 = 0) : resP fl t = resR fl t := by
 have hl : linesP 0 t = offs 0 (entR t).1 := by
  unfold entR at he ⊢
  cases h : entO t with
  | none => rw [h] at he; simp at he
  | some ns =>
   obtain ⟨h1, h2⟩ := ent_iff.1 h
   simp only []
   rw [h1, lines_of ns 0 h2]
 unfold resP resR
 cases fl with
 | nil => rfl
 | cons c ds =>
  rw [if_neg (by simp : ¬ (c :: ds : Str) = [])]
  split
  ·rfl
  ·by_cases hc : c = 47
   ·subst hc
    simp only [hl]
    by_cases hd : ds.length ≤ 15 ∧ ds.contains 32 = false ∧ (parseR 10 ds).2 = 0
    ·rw [if_pos hd]
     have hdd := parse10_to hd.2.1 hd.2.2
     have : (fun p : Nat × Str => decide (p.1 = (parseR 10 ds).1)) = fun p => decide ((47 :: ds : Str) = 47 :: dig 10 p.1) && decide ((dig 10 p.1).length ≤ 15) := by
      funext p
      rw [Bool.eq_iff_iff]
      simp only [decide_eq_true_eq, Bool.and_eq_true, List.cons.injEq, true_and]
      constructor
      ·intro e; rw [e, ← hdd]; exact ⟨rfl, hd.1⟩
      ·intro e
       exact (dig_inj (by rw [← hdd]; exact e.1)).symm
     rw [this]
     try rfl
    ·rw [if_neg hd]
     have : (offs 0 (entR t).1).find? (fun p => decide ((47 :: ds : Str) = 47 :: dig 10 p.1) && decide ((dig 10 p.1).length ≤ 15)) = none := by
      rw [List.find?_eq_none]
      intro p _
      simp only [Bool.and_eq_true, decide_eq_true_eq, List.cons.injEq, true_and]
      rintro ⟨e, h15⟩
      exact hd ⟨by rw [e]; exact h15, by rw [e]; exact dig_no32 _, by rw [e, parse10_of (by omega)]⟩
     rw [this]
   ·have h1 : ∀ (x : Str × Int) (f : Str → Str × Int), (match (c :: ds : Str) with | 47 :: ds => f ds | _ => x) = x := by
     intro x f
     split
     ·rename_i h; simp at h; exact absurd h.1 hc
     ·rfl
    have h2 : (offs 0 (entR t).1).find? (fun p => decide ((c :: ds : Str) = 47 :: dig 10 p.1) && decide ((dig 10 p.1).length ≤ 15)) = none := by
     rw [List.find?_eq_none]
     intro p _
     simp [hc]
    rw [h2]
    split
    ·rename_i h; simp at h; exact absurd h.1 hc
    ·rfl
theorem offs_get : ∀ (ns : List Str) (k i : Nat) {n : Str}, ns[i]? = some n → (offs k ns)[i]? = some (k + (tabP (ns.take i)).length, n)
 | [], k, i, n, h => by simp at h
 | m :: ns, k, 0, n, h => by simp at h; subst h; simp [offs, tabP]
 | m :: ns, k, i + 1, n, h => by
  simp only [offs, List.getElem?_cons_succ, List.take_succ_cons]
  rw [offs_get ns _ i (by simpa using h), tabP_cons]
  simp only [List.length_append, List.length_cons, Option.some.injEq, Prod.mk.injEq, and_true]
  omega
theorem offs_len : ∀ (ns : List Str) (k : Nat), (offs k ns).length = ns.length
 | [], k => rfl
 | n :: ns, k => by simp [offs, offs_len ns]
end Go.AL.Ln

namespace Go.AL.Ln
open Go Go.AL Go.AL.Hd
theorem longs_cons (m : Str) (l : List Str) : longs (m :: l) = if shortN m = true then longs l else m :: longs l := by
 unfold longs
 cases h : shortN m <;> simp [h]
theorem fld_get : ∀ (ns : List Str) (k i : Nat) {n : Str}, ns[i]? = some n → (fldP k ns)[i]? = some (if shortN n = true then n ++ [47] else 47 :: dig 10 (k + (tabP (longs (ns.take i))).length))
 | [], k, i, n, h => by simp at h
 | m :: ns, k, 0, n, h => by
  simp at h; subst h
  simp only [fldP]
  cases h : shortN m <;> simp [longs, tabP]
 | m :: ns, k, i + 1, n, h => by
  have h' : ns[i]? = some n := by simpa using h
  simp only [fldP, List.take_succ_cons, longs_cons]
  cases hm : shortN m with
  | true =>
   simp only [if_true, List.getElem?_cons_succ]
   exact fld_get ns k i h'
  | false =>
   simp only [Bool.false_eq_true, if_false, List.getElem?_cons_succ]
   rw [fld_get ns _ i h', tabP_cons]
   simp only [List.length_append, List.length_cons]
   rw [show k + m.length + 2 + (tabP (longs (ns.take i))).length = k + (m.length + ((tabP (longs (ns.take i))).length + 1 + 1)) by omega]
theorem short_not {n : Str} (h : shortN n = true) : validN n = true ∧ n.length ≤ 15 := by
 simp only [shortN, Bool.and_eq_true, decide_eq_true_eq] at h
 exact ⟨h.1, h.2.1⟩
theorem res_short {n : Str} (t : Str) (h : shortN n = true) : resP (n ++ [47]) t = (n, 0) := by
 unfold resP
 rw [if_pos ⟨by simp, by simpa using h⟩]
 simp
theorem dig_last47 (k : Nat) : ¬ ((47 :: dig 10 k : Str).getLast? = some 47) := by
 intro h
 have hne := dig_ne 10 k
 have hm := dig_isd (b := 10) (by omega) (by omega) k
 rw [List.getLast?_cons] at h
 cases hl : (dig 10 k).getLast? with
 | none => rw [List.getLast?_eq_none_iff] at hl; exact hne hl
 | some c =>
  rw [hl] at h
  simp at h
  subst h
  have := hm _ (List.mem_of_getLast? hl)
  rw [isd_iff] at this
  simp at this
theorem res_dig {t : Str} {k : Nat} (hk : (dig 10 k).length ≤ 15) : resP (47 :: dig 10 k) t = match (linesP 0 t).find? (fun p => decide (p.1 = k)) with | some p => (p.2, 0) | none => ([], 6) := by
 unfold resP
 rw [if_neg (fun h => dig_last47 k h.1)]
 simp only [parse10_of (n := k) (by omega)]
 rw [if_pos ⟨hk, dig_no32 k, trivial⟩]
 try rfl
theorem offs_lt {ns : List Str} {i j : Nat} (h : i < j) (hj : j ≤ ns.length) : (tabP (ns.take i)).length < (tabP (ns.take j)).length := by
 obtain ⟨d, rfl⟩ : ∃ d, j = i + 1 + d := ⟨j - i - 1, by omega⟩
 obtain ⟨n, hn⟩ : ∃ n, ns[i]? = some n := ⟨_, List.getElem?_eq_getElem (by omega)⟩
 have e : ns.take (i + 1 + d) = ns.take i ++ n :: (ns.drop (i + 1)).take d := by
  rw [List.take_add, List.take_add_one, hn]
  simp
 rw [e, tabP_app, tabP_cons]
 simp only [List.length_append, List.length_cons]
 omega
theorem offs_mem {ns : List Str} {p : Nat × Str} (h : p ∈ offs 0 ns) : ∃ i, ns[i]? = some p.2 ∧ p.1 = (tabP (ns.take i)).length := by
 obtain ⟨i, hi, rfl⟩ := List.getElem_of_mem h
 have hl := offs_len ns 0
 have hn : ns[i]? = some (ns[i]'(by omega)) := List.getElem?_eq_getElem (by omega)
 have := offs_get ns 0 i hn
 rw [List.getElem?_eq_getElem hi] at this
 injection this with this
 exact ⟨i, by rw [this]; exact hn, by rw [this]; simp⟩
theorem find_off {ns : List Str} {i : Nat} {n : Str} (hn : ns[i]? = some n) : (offs 0 ns).find? (fun p => decide (p.1 = (tabP (ns.take i)).length)) = some ((tabP (ns.take i)).length, n) := by
 have hi := (List.getElem?_eq_some_iff.1 hn).1
 cases hf : (offs 0 ns).find? (fun p => decide (p.1 = (tabP (ns.take i)).length)) with
 | none =>
  rw [List.find?_eq_none] at hf
  have := offs_get ns 0 i hn
  rw [Nat.zero_add] at this
  have := hf _ (List.mem_of_getElem? this)
  simp at this
 | some p =>
  have h1 := List.find?_some hf
  have h2 := List.mem_of_find?_eq_some hf
  obtain ⟨j, hj, hp⟩ := offs_mem h2
  have h1' : p.1 = (tabP (ns.take i)).length := by simpa using h1
  have hjl := (List.getElem?_eq_some_iff.1 hj).1
  have : i = j := by
   rcases Nat.lt_trichotomy i j with h | h | h
   ·have := offs_lt h (by omega : j ≤ ns.length); omega
   ·exact h
   ·have := offs_lt h (by omega : i ≤ ns.length); omega
  subst this
  rw [hn] at hj
  injection hj with hj
  rw [← h1', hj]
theorem dig_small {k : Nat} (h : k < 1000000000000000) : (dig 10 k).length ≤ 15 := (dig_len (b := 10) (by omega) 14 k).2 (by simpa using h)
theorem res_off {ns : List Str} {i : Nat} {n : Str} (hv : ∀ m ∈ ns, validN m = true) (hn : ns[i]? = some n) (hs : (tabP (ns.take i)).length < 1000000000000000) : resP (47 :: dig 10 (tabP (ns.take i)).length) (tabP ns) = (n, 0) := by
 rw [res_dig (dig_small hs), lines_of ns 0 hv, find_off hn]
theorem take_longs {ns : List Str} {i : Nat} {n : Str} (hn : ns[i]? = some n) (h : shortN n = false) : (longs ns)[(longs (ns.take i)).length]? = some n ∧ (longs ns).take (longs (ns.take i)).length = longs (ns.take i) := by
 have e : ns = ns.take i ++ n :: ns.drop (i + 1) := by
  have h1 : ns.take (i + 1) = ns.take i ++ [n] := by rw [List.take_add_one, hn]; rfl
  have h2 := (List.take_append_drop (i + 1) ns).symm
  rw [h1] at h2
  simpa using h2
 have e2 : longs ns = longs (ns.take i) ++ n :: longs (ns.drop (i + 1)) := by
  conv => lhs; rw [e]
  unfold longs
  rw [List.filter_append, List.filter_cons]
  simp [h]
 rw [e2]
 constructor
 ·simp
 ·simp
theorem longs_valid {ns : List Str} (h : ns.all validN = true) : ∀ m ∈ longs ns, validN m = true := fun m hm => List.all_eq_true.1 h m (longs_mem hm)
theorem round_trip {ns : List Str} {i : Nat} {n f : Str} (hv : ns.all validN = true) (hn : ns[i]? = some n) (hf : (fldP 0 ns)[i]? = some f) (hs : (tabP (longs (ns.take i))).length < 1000000000000000) :
  resP f (tabP (longs ns)) = (n, 0) ∧ f.length ≤ 16 := by
 have h1 := fld_get ns 0 i hn
 rw [hf] at h1
 injection h1 with h1
 rw [Nat.zero_add] at h1
 cases hsn : shortN n with
 | true =>
  rw [hsn, if_pos rfl] at h1
  rw [h1]
  refine ⟨res_short _ hsn, ?_⟩
  have := (short_not hsn).2
  simp; omega
 | false =>
  rw [hsn, if_neg (by simp)] at h1
  obtain ⟨h2, h3⟩ := take_longs hn hsn
  rw [h1]
  have := res_off (longs_valid hv) h2 (by rw [h3]; exact hs)
  rw [h3] at this
  refine ⟨this, ?_⟩
  have := dig_small hs
  simp; omega
theorem ent_longs {ns : List Str} (hv : ns.all validN = true) : entR (tabP (longs ns)) = (longs ns, 0) := by
 unfold entR; rw [ent_of _ (longs_valid hv)]
theorem build_ok {ns : List Str} (h : ns.all validN = true) : buildR ns = (tabP (longs ns), fldP 0 ns, 0) := by
 unfold buildR; rw [if_pos h]
end Go.AL.Ln

namespace Go.AL.Hd
open Go Go.AL
theorem parseR_fmt {b w : Nat} {n : Int} {f : Str} (hb : 2 ≤ b) (hb2 : b ≤ 10) (hw : 1 ≤ w) (hw2 : w ≤ 18) (h : fmt b w n = some f) : parseR b f = (n.toNat, 0) ∧ 0 ≤ n := by
 have hl := fmt_len h
 refine ⟨?_, ?_⟩
 ·unfold parseR
  rw [if_neg (by omega), pf_fmt hb hb2 h]; rfl
 ·unfold fmt at h
  split at h
  ·simp at h
  ·omega
theorem numR_fieldR {b w : Nat} {n : Int} {bl : Bool} (hb : 2 ≤ b) (hb2 : b ≤ 10) (hw : 1 ≤ w) (hw2 : w ≤ 18) (h : (fieldR n b w bl).2 = true) :
  (fieldR n b w bl).1.length = w ∧ numR b (fieldR n b w bl).1 bl = (n.toNat, true) ∧ 0 ≤ n := by
 cases bl with
 | true =>
  simp only [fieldR, if_true, decide_eq_true_eq] at h
  subst h
  simp [fieldR, numR]
 | false =>
  simp only [fieldR, Bool.false_eq_true, if_false] at h ⊢
  cases hf : fmt b w n with
  | none => simp [fmtR, hf] at h
  | some f =>
   obtain ⟨h1, h2⟩ := parseR_fmt hb hb2 hw hw2 hf
   simp only [fmtR, hf, numR, Bool.false_eq_true, if_false, h1]
   exact ⟨fmt_len hf, rfl, h2⟩
theorem fieldR_numR {b : Nat} {l : Str} {bl : Bool} (hb : 2 ≤ b) (hb2 : b ≤ 10) (hw : 1 ≤ l.length) (hw2 : l.length ≤ 18) (h : (numR b l bl).2 = true) : fieldR (numR b l bl).1 b l.length bl = (l, true) := by
 cases bl with
 | true =>
  simp only [numR, if_true, decide_eq_true_eq] at h
  simp only [numR, fieldR, if_true]
  rw [← h]; rfl
 | false =>
  simp only [numR, Bool.false_eq_true, if_false, decide_eq_true_eq] at h
  simp only [numR, fieldR, Bool.false_eq_true, if_false]
  have e : parseR b l = opR (pf b l) := by unfold parseR; rw [if_neg (by omega)]
  rw [e] at h ⊢
  cases hp : pf b l with
  | none => rw [hp] at h; simp [opR] at h
  | some n =>
   have := pf_some hb hb2 hp
   simp only [opR, fmtR, this]; rfl
theorem prt_mid {A f R : Str} {a e : Nat} (ha : A.length = a) (he : a + f.length = e) : prt (A ++ (f ++ R)) a e = f := by
 subst ha; subst he
 rw [prt, ← List.append_assoc, List.take_left' (by simp), List.drop_left' rfl]
theorem fit_last {nm : Str} (h : fitN nm = true) : nm.getLast? ≠ some 32 ∧ 1 ≤ nm.length ∧ nm.length ≤ 16 := by
 simp only [fitN, Bool.and_eq_true, decide_eq_true_eq] at h
 exact ⟨h.1.2.2, h.1.1, h.1.2.1⟩
theorem enc_dec (h : Hdr) (rest : Str) (he : (encR h).2 = 0) : (encR h).1.length = 60 ∧ decR ((encR h).1 ++ rest) = (h, 0) := by
 obtain ⟨nm, dt, ui, gi, mo, si⟩ := h
 unfold encR at he ⊢
 split at he
 case isFalse => simp at he
 rename_i hf
 rw [if_pos hf]
 split at he
 case isFalse => simp at he
 rename_i hq
 rw [if_pos hq]
 simp only [Bool.and_eq_true] at hq
 obtain ⟨q1, q2, q3, q4, q5⟩ := hq
 simp only at q1 q2 q3 q4 q5 hf ⊢
 obtain ⟨l1, n1, z1⟩ := numR_fieldR (by omega) (by omega) (by omega) (by omega) q1
 obtain ⟨l2, n2, z2⟩ := numR_fieldR (by omega) (by omega) (by omega) (by omega) q2
 obtain ⟨l3, n3, z3⟩ := numR_fieldR (by omega) (by omega) (by omega) (by omega) q3
 obtain ⟨l4, n4, z4⟩ := numR_fieldR (by omega) (by omega) (by omega) (by omega) q4
 obtain ⟨l5, n5, z5⟩ := numR_fieldR (by omega) (by omega) (by omega) (by omega) q5
 revert l1 n1 l2 n2 l3 n3 l4 n4 l5 n5
 generalize (fieldR dt 10 12 (decide (nm = [47, 47]))).1 = f1
 generalize (fieldR ui 10 6 (decide (nm = [47, 47]))).1 = f2
 generalize (fieldR gi 10 6 (decide (nm = [47, 47]))).1 = f3
 generalize (fieldR mo 8 8 (decide (nm = [47, 47]))).1 = f4
 generalize (fieldR si 10 10 false).1 = f5
 intro l1 n1 l2 n2 l3 n3 l4 n4 l5 n5
 obtain ⟨g1, g2, g3⟩ := fit_last hf
 have hA : (nm ++ sp (16 - nm.length)).length = 16 := by simp; omega
 refine ⟨by simp [l1, l2, l3, l4, l5]; omega, ?_⟩
 obtain ⟨L, hL⟩ : ∃ L, L = nm ++ sp (16 - nm.length) ++ f1 ++ f2 ++ f3 ++ f4 ++ f5 ++ [96, 10] ++ rest := ⟨_, rfl⟩
 have hlen : 60 ≤ L.length := by rw [hL]; simp [l1, l2, l3, l4, l5]; omega
 have t16 : L.take 16 = nm ++ sp (16 - nm.length) := by
  rw [hL]; simp only [List.append_assoc]; rw [← List.append_assoc nm]
  exact List.take_left' hA
 have tn : trimR (L.take 16) = nm := by rw [t16, trimR_sp]; exact trimR_self g1
 have p1 : prt L 16 28 = f1 := by
  rw [hL, show nm ++ sp (16 - nm.length) ++ f1 ++ f2 ++ f3 ++ f4 ++ f5 ++ [96, 10] ++ rest = (nm ++ sp (16 - nm.length)) ++ (f1 ++ (f2 ++ f3 ++ f4 ++ f5 ++ [96, 10] ++ rest)) by simp]
  exact prt_mid hA (by omega)
 have p2 : prt L 28 34 = f2 := by
  rw [hL, show nm ++ sp (16 - nm.length) ++ f1 ++ f2 ++ f3 ++ f4 ++ f5 ++ [96, 10] ++ rest = (nm ++ sp (16 - nm.length) ++ f1) ++ (f2 ++ (f3 ++ f4 ++ f5 ++ [96, 10] ++ rest)) by simp]
  exact prt_mid (by rw [List.length_append, hA, l1]) (by omega)
 have p3 : prt L 34 40 = f3 := by
  rw [hL, show nm ++ sp (16 - nm.length) ++ f1 ++ f2 ++ f3 ++ f4 ++ f5 ++ [96, 10] ++ rest = (nm ++ sp (16 - nm.length) ++ f1 ++ f2) ++ (f3 ++ (f4 ++ f5 ++ [96, 10] ++ rest)) by simp]
  exact prt_mid (by rw [List.length_append, List.length_append, hA, l1, l2]) (by omega)
 have p4 : prt L 40 48 = f4 := by
  rw [hL, show nm ++ sp (16 - nm.length) ++ f1 ++ f2 ++ f3 ++ f4 ++ f5 ++ [96, 10] ++ rest = (nm ++ sp (16 - nm.length) ++ f1 ++ f2 ++ f3) ++ (f4 ++ (f5 ++ [96, 10] ++ rest)) by simp]
  exact prt_mid (by rw [List.length_append, List.length_append, List.length_append, hA, l1, l2, l3]) (by omega)
 have p5 : prt L 48 58 = f5 := by
  rw [hL, show nm ++ sp (16 - nm.length) ++ f1 ++ f2 ++ f3 ++ f4 ++ f5 ++ [96, 10] ++ rest = (nm ++ sp (16 - nm.length) ++ f1 ++ f2 ++ f3 ++ f4) ++ (f5 ++ ([96, 10] ++ rest)) by simp]
  exact prt_mid (by rw [List.length_append, List.length_append, List.length_append, List.length_append, hA, l1, l2, l3, l4]) (by omega)
 have h58 : (nm ++ sp (16 - nm.length) ++ f1 ++ f2 ++ f3 ++ f4 ++ f5).length = 58 := by simp [l1, l2, l3, l4, l5]; omega
 have e58 : L[58]? = some 96 := by
  rw [hL, List.append_assoc, List.getElem?_append_right (by omega), h58]; rfl
 have e59 : L[59]? = some 10 := by
  rw [hL, List.append_assoc, List.getElem?_append_right (by omega), h58]; rfl
 rw [← hL]
 unfold decR
 rw [if_neg (by omega), if_pos ⟨e58, e59⟩, tn, if_pos hf, p1, p2, p3, p4, p5, n1, n2, n3, n4, n5]
 simp only [Bool.and_self, if_true]
 rw [Int.toNat_of_nonneg z1, Int.toNat_of_nonneg z2, Int.toNat_of_nonneg z3, Int.toNat_of_nonneg z4, Int.toNat_of_nonneg z5]
theorem trim_pad {l : Str} (hl : l.length = 16) : trimR l ++ sp (16 - (trimR l).length) = l := by
 have e : ∀ l : Str, trimR l ++ sp (l.length - (trimR l).length) = l := by
  intro l
  rw [← List.reverse_reverse l]
  generalize l.reverse = m
  induction m with
  | nil => rfl
  | cons c m ih =>
   rw [List.reverse_cons, trimR_snoc]
   split
   ·rename_i hc
    subst hc
    have hle : (trimR m.reverse).length ≤ m.reverse.length := by
     have := congrArg List.length ih; simp only [List.length_append] at this; omega
    rw [List.length_append, List.length_singleton, show m.reverse.length + 1 - (trimR m.reverse).length = (m.reverse.length - (trimR m.reverse).length) + 1 by omega, sp, List.replicate_succ', ← List.append_assoc]
    rw [sp] at ih
    rw [ih]
   ·simp
 have := e l
 rwa [hl] at this
theorem dec_enc {l : Str} (h : (decR l).2 = 0) : 60 ≤ l.length ∧ encR (decR l).1 = (l.take 60, 0) := by
 unfold decR at h ⊢
 split at h
 case isTrue => simp at h
 rename_i h1
 rw [if_neg h1]
 split at h
 case isFalse => simp at h
 rename_i h2
 rw [if_pos h2]
 split at h
 case isFalse => simp at h
 rename_i h3
 rw [if_pos h3]
 split at h
 case isFalse => simp at h
 rename_i h4
 rw [if_pos h4]
 simp only [Bool.and_eq_true] at h4
 obtain ⟨q1, q2, q3, q4, q5⟩ := h4
 refine ⟨by omega, ?_⟩
 have L1 : (prt l 16 28).length = 12 := prt_len (by omega) (by omega)
 have L2 : (prt l 28 34).length = 6 := prt_len (by omega) (by omega)
 have L3 : (prt l 34 40).length = 6 := prt_len (by omega) (by omega)
 have L4 : (prt l 40 48).length = 8 := prt_len (by omega) (by omega)
 have L5 : (prt l 48 58).length = 10 := prt_len (by omega) (by omega)
 have f1 := fieldR_numR (by omega) (by omega) (by omega) (by omega) q1
 have f2 := fieldR_numR (by omega) (by omega) (by omega) (by omega) q2
 have f3 := fieldR_numR (by omega) (by omega) (by omega) (by omega) q3
 have f4 := fieldR_numR (by omega) (by omega) (by omega) (by omega) q4
 have f5 := fieldR_numR (by omega) (by omega) (by omega) (by omega) q5
 rw [L1] at f1; rw [L2] at f2; rw [L3] at f3; rw [L4] at f4; rw [L5] at f5
 unfold encR
 simp only
 rw [if_pos h3, f1, f2, f3, f4, f5]
 simp only [Bool.and_self, if_true]
 rw [trim_pad (by rw [List.length_take]; omega)]
 have hj : ∀ (a b : Nat), a ≤ b → b ≤ l.length → l.take a ++ prt l a b = l.take b := fun a b hab hb => by
  have := List.take_append_drop a (l.take b)
  rwa [List.take_take, Nat.min_eq_left hab] at this
 rw [hj 16 28 (by omega) (by omega), hj 28 34 (by omega) (by omega), hj 34 40 (by omega) (by omega), hj 40 48 (by omega) (by omega), hj 48 58 (by omega) (by omega)]
 have e : l.take 60 = l.take 58 ++ [96, 10] := by
  rw [show 60 = 58 + 1 + 1 from rfl, List.take_add_one, List.take_add_one, h2.1, h2.2]; simp
 rw [e]
theorem encR_err (h : Hdr) (he : (encR h).2 ≠ 0) : (encR h).1 = [] ∧ ((encR h).2 = 6 ∨ (encR h).2 = 9) := by
 unfold encR at he ⊢
 split
 ·rename_i h1
  rw [if_pos h1] at he
  split
  ·rename_i h2
   rw [if_pos h2] at he
   exact absurd rfl he
  ·exact ⟨rfl, .inr rfl⟩
 ·exact ⟨rfl, .inl rfl⟩
theorem fmt_iff {b w : Nat} (hb : 2 ≤ b) (hw : 1 ≤ w) (n : Int) : (fmtR b w n).2 = 0 ↔ 0 ≤ n ∧ n < (b ^ w : Nat) := by
 obtain ⟨k, rfl⟩ : ∃ k, w = k + 1 := ⟨w - 1, by omega⟩
 have hd := dig_len hb k n.toNat
 unfold fmtR fmt
 by_cases h : n < 0 ∨ k + 1 < (dig b n.toNat).length
 ·rw [if_pos h]
  simp only
  constructor
  ·intro h; simp at h
  ·rintro ⟨h1, h2⟩
   have : n.toNat < b ^ (k + 1) := by omega
   have := hd.2 this
   omega
 ·rw [if_neg h]
  simp only
  constructor
  ·intro _
   have : n.toNat < b ^ (k + 1) := hd.1 (by omega)
   omega
  ·intro _; trivial
theorem bounds (a b c d e : Int) : (encR ⟨[120, 47], a, b, c, d, e⟩).2 = 0 ↔
  (0 ≤ a ∧ a < 1000000000000) ∧ (0 ≤ b ∧ b < 1000000) ∧ (0 ≤ c ∧ c < 1000000) ∧ (0 ≤ d ∧ d < 16777216) ∧ (0 ≤ e ∧ e < 10000000000) := by
 have hf : fitN [120, 47] = true := by decide
 have hne : decide (([120, 47] : Str) = [47, 47]) = false := by decide
 unfold encR
 simp only
 rw [if_pos hf, hne]
 have F : ∀ (n : Int) (b w : Nat), (fieldR n b w false).2 = true ↔ (fmtR b w n).2 = 0 := fun n b w => by simp [fieldR]
 have f1 := (F a 10 12).trans (fmt_iff (b := 10) (w := 12) (by omega) (by omega) a)
 have f2 := (F b 10 6).trans (fmt_iff (b := 10) (w := 6) (by omega) (by omega) b)
 have f3 := (F c 10 6).trans (fmt_iff (b := 10) (w := 6) (by omega) (by omega) c)
 have f4 := (F d 8 8).trans (fmt_iff (b := 8) (w := 8) (by omega) (by omega) d)
 have f5 := (F e 10 10).trans (fmt_iff (b := 10) (w := 10) (by omega) (by omega) e)
 have e1 : (10 : Nat) ^ 12 = 1000000000000 := by decide
 have e2 : (10 : Nat) ^ 6 = 1000000 := by decide
 have e4 : (8 : Nat) ^ 8 = 16777216 := by decide
 have e5 : (10 : Nat) ^ 10 = 10000000000 := by decide
 rw [e1] at f1; rw [e2] at f2 f3; rw [e4] at f4; rw [e5] at f5
 constructor
 ·intro h
  split at h
  ·rename_i hq
   simp only [Bool.and_eq_true] at hq
   exact ⟨f1.1 hq.1, f2.1 hq.2.1, f3.1 hq.2.2.1, f4.1 hq.2.2.2.1, f5.1 hq.2.2.2.2⟩
  ·simp at h
 ·rintro ⟨h1, h2, h3, h4, h5⟩
  rw [if_pos (by simp only [Bool.and_eq_true]; exact ⟨f1.2 h1, f2.2 h2, f3.2 h3, f4.2 h4, f5.2 h5⟩)]
theorem fieldR_bd {b w : Nat} {n : Int} {bl : Bool} (hb : 2 ≤ b) (hb2 : b ≤ 10) (hw : 1 ≤ w) (hw2 : w ≤ 12) (h : (fieldR n b w bl).2 = true) : n ≤ 1000000000000 := by
 cases bl with
 | true =>
  simp only [fieldR, if_true, decide_eq_true_eq] at h
  omega
 | false =>
  have h1 : (fmtR b w n).2 = 0 := by simpa [fieldR] using h
  have h2 := ((fmt_iff hb hw n).1 h1).2
  have h3 : b ^ w ≤ 10 ^ w := Nat.pow_le_pow_left hb2 w
  have h4 : 10 ^ w ≤ 10 ^ 12 := Nat.pow_le_pow_right (by omega) hw2
  have h5 : (10 : Nat) ^ 12 = 1000000000000 := by decide
  omega
theorem encR_bd {h : Hdr} (he : (encR h).2 = 0) : h.name.length ≤ 16 ∧ h.date ≤ 1000000000000 ∧ h.uid ≤ 1000000000000 ∧ h.gid ≤ 1000000000000 ∧ h.mode ≤ 1000000000000 ∧ h.size ≤ 1000000000000 := by
 unfold encR at he
 split at he
 case isFalse => simp at he
 rename_i hf
 split at he
 case isFalse => simp at he
 rename_i hq
 simp only [Bool.and_eq_true] at hq
 obtain ⟨q1, q2, q3, q4, q5⟩ := hq
 exact ⟨(fit_last hf).2.2, fieldR_bd (by omega) (by omega) (by omega) (by omega) q1, fieldR_bd (by omega) (by omega) (by omega) (by omega) q2, fieldR_bd (by omega) (by omega) (by omega) (by omega) q3,
  fieldR_bd (by omega) (by omega) (by omega) (by omega) q4, fieldR_bd (by omega) (by omega) (by omega) (by omega) q5⟩
end Go.AL.Hd

namespace Go.AL.Bd
open Go Go.AL
structure Sym where
 name : Str
 bind : Int
 size : Int
 align : Int
structure Use where
 sym : Sym
 unit : Int
abbrev Sym.enc (x : Sym) : List D := [sD x.name, vI x.bind, vI x.size, vI x.align]
def okUse (x : Use) : Bool := decide (1 ≤ x.sym.bind) && decide (x.sym.bind ≤ 5) && decide (0 ≤ x.sym.size) && decide (0 ≤ x.sym.align) && decide (0 ≤ x.unit)
def right (l : List Use) : Bool := decide (l.length ≤ 50) && l.all okUse

def first : List Use → Int → Int
 | [], _ => -1
 | x :: l, b => if x.sym.bind = b then 0 else (let r := first l b; if r < 0 then -1 else r + 1)
end Go.AL.Bd



namespace Go.AL.Ob
open Go Go.AL Go.AL.Ap
structure Sym where
 name : Str
 bind : Int
 size : Int
 align : Int
deriving DecidableEq
abbrev Sym.enc (s : Sym) : List D := [sD s.name, vI s.bind, vI s.size, vI s.align]
structure Obj where
 syms : List Sym
 body : List UInt8
deriving DecidableEq
def pows : List Int := [1, 2, 4, 8, 16, 32, 64, 128, 256, 512, 1024, 2048, 4096, 8192, 16384, 32768, 65536]
def power (n : Int) : Bool := decide (n ∈ pows)
theorem band {k n : Nat} (h1 : 2 ^ k < n) (h2 : n < 2 ^ (k + 1)) : n &&& (n - 1) ≠ 0 := by
 have t1 : n.testBit k = true := Nat.testBit_of_two_pow_le_and_two_pow_add_one_gt (by omega) (by omega)
 have t2 : (n - 1).testBit k = true := Nat.testBit_of_two_pow_le_and_two_pow_add_one_gt (by omega) (by omega)
 intro e
 have := congrArg (fun x => Nat.testBit x k) e
 simp [t1, t2] at this
theorem power_nat (n : Nat) : power (n : Int) = decide (n = 1 ∨ n = 2 ∨ n = 4 ∨ n = 8 ∨ n = 16 ∨ n = 32 ∨ n = 64 ∨ n = 128 ∨ n = 256 ∨ n = 512 ∨ n = 1024 ∨ n = 2048 ∨ n = 4096 ∨ n = 8192 ∨ n = 16384 ∨ n = 32768 ∨ n = 65536) := by
 unfold power
 congr 1
 simp only [pows, List.mem_cons, List.not_mem_nil, or_false, eq_iff_iff]
 omega
theorem pow_and {n : Nat} (h1 : 1 ≤ n) (h2 : n ≤ 65536) : power (n : Int) = decide ((n &&& (n - 1)) = 0) := by
 rw [power_nat]
 by_cases hp : n = 1 ∨ n = 2 ∨ n = 4 ∨ n = 8 ∨ n = 16 ∨ n = 32 ∨ n = 64 ∨ n = 128 ∨ n = 256 ∨ n = 512 ∨ n = 1024 ∨ n = 2048 ∨ n = 4096 ∨ n = 8192 ∨ n = 16384 ∨ n = 32768 ∨ n = 65536
 ·rw [decide_eq_true hp]
  rcases hp with rfl | rfl | rfl | rfl | rfl | rfl | rfl | rfl | rfl | rfl | rfl | rfl | rfl | rfl | rfl | rfl | rfl <;> rfl
 ·rw [decide_eq_false hp]
  symm
  rw [decide_eq_false_iff_not]
  simp only [not_or] at hp
  have key : ∃ k, k ≤ 15 ∧ 2 ^ k < n ∧ n < 2 ^ (k + 1) := by
   by_cases c1 : n < 4
   ·exact ⟨1, by omega, by omega, by omega⟩
   by_cases c2 : n < 8
   ·exact ⟨2, by omega, by omega, by omega⟩
   by_cases c3 : n < 16
   ·exact ⟨3, by omega, by omega, by omega⟩
   by_cases c4 : n < 32
   ·exact ⟨4, by omega, by omega, by omega⟩
   by_cases c5 : n < 64
   ·exact ⟨5, by omega, by omega, by omega⟩
   by_cases c6 : n < 128
   ·exact ⟨6, by omega, by omega, by omega⟩
   by_cases c7 : n < 256
   ·exact ⟨7, by omega, by omega, by omega⟩
   by_cases c8 : n < 512
   ·exact ⟨8, by omega, by omega, by omega⟩
   by_cases c9 : n < 1024
   ·exact ⟨9, by omega, by omega, by omega⟩
   by_cases c10 : n < 2048
   ·exact ⟨10, by omega, by omega, by omega⟩
   by_cases c11 : n < 4096
   ·exact ⟨11, by omega, by omega, by omega⟩
   by_cases c12 : n < 8192
   ·exact ⟨12, by omega, by omega, by omega⟩
   by_cases c13 : n < 16384
   ·exact ⟨13, by omega, by omega, by omega⟩
   by_cases c14 : n < 32768
   ·exact ⟨14, by omega, by omega, by omega⟩
   ·exact ⟨15, by omega, by omega, by omega⟩
  obtain ⟨k, _, hk1, hk2⟩ := key
  exact band hk1 hk2
def bindOk (s : Sym) : Bool :=
 if s.bind = 3 then power s.align else if s.bind = 4 ∨ s.bind = 5 then decide (s.size = 0) && decide (s.align = 0) else (decide (s.bind = 1) || decide (s.bind = 2)) && decide (s.align = 0)
def valid (s : Sym) : Bool := decide (1 ≤ s.name.length) && (decide (s.name.length ≤ 255) && (decide ((0 : UInt8) ∉ s.name) && (decide (0 ≤ s.size) && (decide (s.size ≤ 4294967295) && bindOk s))))
theorem valid_iff {s : Sym} : valid s = true ↔ 1 ≤ s.name.length ∧ s.name.length ≤ 255 ∧ (0 : UInt8) ∉ s.name ∧ 0 ≤ s.size ∧ s.size ≤ 4294967295 ∧ bindOk s = true := by simp [valid]
theorem pow_le {n : Int} (h : power n = true) : 0 ≤ n ∧ n ≤ 65536 := by
 have := of_decide_eq_true h
 simp only [pows, List.mem_cons, List.not_mem_nil, or_false] at this
 omega
theorem bind_le {s : Sym} (h : bindOk s = true) : 1 ≤ s.bind ∧ s.bind ≤ 5 ∧ 0 ≤ s.align ∧ s.align ≤ 65536 := by
 unfold bindOk at h
 split at h
 ·have := pow_le h; omega
 ·split at h
  ·simp at h; omega
  ·simp at h; omega
def has (l : List Sym) (n : Str) : Bool := l.any fun s => decide (s.name = n)
theorem has_iff {l : List Sym} {n : Str} : has l n = true ↔ ∃ s ∈ l, s.name = n := by simp [has]
def okL : List Sym → List Sym → Bool
 | _, [] => true
 | acc, s :: r => valid s && !has acc s.name && okL (acc ++ [s]) r
def validO (l : List Sym) : Bool := okL [] l && decide (l.length ≤ 65536)

def encS (s : Sym) : List UInt8 := [UInt8.ofNat s.bind.toNat] ++ W4 s.size.toNat ++ W4 s.align.toNat ++ [UInt8.ofNat s.name.length] ++ s.name
def encL (l : List Sym) : List UInt8 := l.flatMap encS
def magic : List UInt8 := [79, 66, 74, 49]
def encO (o : Obj) : List UInt8 := magic ++ W4 o.syms.length ++ encL o.syms ++ o.body
theorem encS_len (s : Sym) : (encS s).length = 10 + s.name.length := by simp [encS, W4]; omega

def nextS (r : List UInt8) : Option (Sym × List UInt8) :=
 if r.length < 10 + (r.getD 9 0).toNat then none
 else some (⟨(r.drop 10).take (r.getD 9 0).toNat, ((r.getD 0 0).toNat : Int), (num (r.drop 1) : Int), (num (r.drop 5) : Int)⟩, r.drop (10 + (r.getD 9 0).toNat))
def decL : Nat → List UInt8 → List Sym → Except Int (List Sym × List UInt8)
 | 0, r, acc => .ok (acc, r)
 | k + 1, r, acc => match nextS r with
  | none => .error 2
  | some (s, r') => if valid s && !has acc s.name then decL k r' (acc ++ [s]) else .error 12
def decO (b : List UInt8) : Except Int (List Sym × List UInt8) :=
 if b.length < 4 then .error 2 else if b.take 4 ≠ magic then .error 1 else if b.length < 8 then .error 2
 else if 65536 < num (b.drop 4) then .error 12 else decL (num (b.drop 4)) (b.drop 8) []

theorem nextS_some {r r' : List UInt8} {s : Sym} (h : nextS r = some (s, r')) (hv : valid s = true) : r = encS s ++ r' := by
 unfold nextS at h
 split at h
 ·simp at h
 ·rename_i hl
  simp only [Option.some.injEq, Prod.mk.injEq] at h
  obtain ⟨rfl, rfl⟩ := h
  match r, hl with
  | a :: b1 :: b2 :: b3 :: b4 :: c1 :: c2 :: c3 :: c4 :: l :: t, hl =>
   simp only [List.getD_cons_zero, List.getD_cons_succ, List.drop_succ_cons, List.drop_zero, List.length_cons] at hl ⊢
   have hlen : (t.take l.toNat).length = l.toNat := by simp; omega
   have e1 := W4_num (b := b1 :: b2 :: b3 :: b4 :: c1 :: c2 :: c3 :: c4 :: l :: t) (by simp)
   have e2 := W4_num (b := c1 :: c2 :: c3 :: c4 :: l :: t) (by simp)
   simp only [encS, Int.toNat_natCast, e1, e2, hlen]
   have ha : UInt8.ofNat a.toNat = a := by simp
   have hll : UInt8.ofNat l.toNat = l := by simp
   rw [ha, hll]
   have e3 : (a :: b1 :: b2 :: b3 :: b4 :: c1 :: c2 :: c3 :: c4 :: l :: t).drop (10 + l.toNat) = t.drop l.toNat := by
    rw [← List.drop_drop]; rfl
   rw [e3]
   simp
  | [], hl => simp at hl
  | [_], hl => simp at hl
  | [_, _], hl => simp at hl
  | [_, _, _], hl => simp at hl
  | [_, _, _, _], hl => simp at hl
  | [_, _, _, _, _], hl => simp at hl
  | [_, _, _, _, _, _], hl => simp at hl
  | [_, _, _, _, _, _, _], hl => simp at hl
  | [_, _, _, _, _, _, _, _], hl => simp at hl
  | [_, _, _, _, _, _, _, _, _], hl => simp at hl

theorem decL_some : ∀ (k : Nat) (r : List UInt8) (acc l : List Sym) (x : List UInt8), decL k r acc = .ok (l, x) → ∃ l', l = acc ++ l' ∧ l'.length = k ∧ okL acc l' = true ∧ r = encL l' ++ x
 | 0, r, acc, l, x, h => by
  simp only [decL, Except.ok.injEq, Prod.mk.injEq] at h
  obtain ⟨rfl, rfl⟩ := h
  exact ⟨[], by simp, rfl, rfl, by simp [encL]⟩
 | k + 1, r, acc, l, x, h => by
  simp only [decL] at h
  split at h
  ·simp at h
  ·rename_i s r' hn
   split at h
   ·rename_i hv
    simp only [Bool.and_eq_true, Bool.not_eq_true'] at hv
    obtain ⟨l', h1, h2, h3, h4⟩ := decL_some k r' (acc ++ [s]) l x h
    refine ⟨s :: l', by simp [h1], by simp [h2], by simp [okL, hv.1, hv.2, h3], ?_⟩
    rw [nextS_some hn hv.1, h4]; simp [encL]
   ·simp at h
theorem enc_dec {b : List UInt8} {l : List Sym} {x : List UInt8} (h : decO b = .ok (l, x)) : validO l = true ∧ encO ⟨l, x⟩ = b := by
 unfold decO at h
 split at h
 ·simp at h
 split at h
 ·simp at h
 split at h
 ·simp at h
 split at h
 ·simp at h
 rename_i h4 hm h8 hn
 obtain ⟨l', e, h2, h3, h5⟩ := decL_some _ _ _ _ _ h
 simp at e
 subst e
 refine ⟨by simp [validO, h3]; omega, ?_⟩
 simp only [ne_eq, Decidable.not_not] at hm
 have e4 := W4_num (b := b.drop 4) (by simp; omega)
 have : encO ⟨l, x⟩ = magic ++ (W4 l.length ++ (encL l ++ x)) := by simp [encO]
 rw [this, ← h5, h2, e4, ← hm]
 have e8 : b.drop 8 = (b.drop 4).drop 4 := by rw [List.drop_drop]
 rw [e8, List.take_append_drop, List.take_append_drop]
theorem okL_app : ∀ (a b acc : List Sym), okL acc (a ++ b) = (okL acc a && okL (acc ++ a) b)
 | [], b, acc => by simp [okL]
 | s :: a, b, acc => by
  have ih := okL_app a b (acc ++ [s])
  simp only [List.cons_append, okL, ih]
  simp [Bool.and_assoc]
end Go.AL.Ob





namespace Go.AL.Wt
open Go Go.AL
theorem mget_mset (a b : ByteArray) (v : D) : ∀ es : Ents, mget (mset es (.string a) v) (.string b) = if b.data.toList = a.data.toList then some v else mget es (.string b)
 | [] => by
  simp only [mset, mget, keyB]
  by_cases h : b.data.toList = a.data.toList <;> simp [h]
 | e :: r => by
  simp only [mset]
  cases hk : keyB (.string a) e.1 with
  | true =>
   simp only [mget]
   have hkk : keyB (.string b) (.string a) = decide (b.data.toList = a.data.toList) := rfl
   rw [hkk]
   by_cases h : b.data.toList = a.data.toList
   ·simp [h]
   ·have : keyB (.string b) e.1 = false := by
     unfold keyB at hk ⊢
     split at hk
     ·rename_i x y e1 e2
      injection e1 with e1; subst e1
      rw [e2]
      have := of_decide_eq_true hk
      simp only [decide_eq_false_iff_not]
      rw [← this]; exact h
     ·simp at hk
    simp [h, this]
  | false =>
   simp only [mget]
   rw [mget_mset a b v r]
   by_cases h : b.data.toList = a.data.toList
   ·have : keyB (.string b) e.1 = false := by
     unfold keyB at hk ⊢
     split
     ·rename_i x y e1 e2
      injection e1 with e1; subst e1
      rw [e2] at hk
      simp only [decide_eq_false_iff_not] at hk ⊢
      rw [h]; exact hk
     ·rfl
    simp [h, this]
   ·simp [h]
theorem strKeys_mset (a : ByteArray) (v : D) : ∀ es : Ents, strKeys es → strKeys (mset es (.string a) v)
 | [], _ => fun e he => by simp [mset] at he; subst he; exact ⟨a, rfl⟩
 | x :: r, h => fun e he => by
  simp only [mset] at he
  split at he
  ·rcases List.mem_cons.1 he with rfl | he
   ·exact ⟨a, rfl⟩
   ·exact h e (by simp [he])
  ·rcases List.mem_cons.1 he with rfl | he
   ·exact h e (by simp)
   ·exact strKeys_mset a v r (fun y hy => h y (by simp [hy])) e he
structure Sn (es : Ents) (seen : List Str) : Prop where
 keys : strKeys es
 look : ∀ b : ByteArray, lookD es b (.bool false) false = vB (decide (b.data.toList ∈ seen))
theorem Sn.nil : Sn [] [] := ⟨fun e he => by simp at he, fun b => by simp [lookD, mget, zeroD, constD]⟩
theorem Sn.set {es seen} (h : Sn es seen) (s : Str) : Sn (mset es (.string (sB s)) (vB true)) (seen ++ [s]) := by
 refine ⟨strKeys_mset _ _ _ h.keys, fun b => ?_⟩
 have hl := h.look b
 simp only [lookD, mget_mset] at hl ⊢
 by_cases hb : b.data.toList = (sB s).data.toList
 ·have hb' : b.data.toList = s := hb
  rw [if_pos hb]; simp [hb']
 ·have hb' : ¬ b.data.toList = s := hb
  rw [if_neg hb, hl]
  simp [hb']
theorem Sn.look' {es seen} (h : Sn es seen) (s : Str) : lookD es (sB s) (.bool false) false = vB (decide (s ∈ seen)) := h.look _

end Go.AL.Wt







namespace Go.AL.Tb
open Go Go.AL Go.AL.Bd
abbrev SE (l : List Ob.Sym) : List (List D) := l.map Ob.Sym.enc
end Go.AL.Tb

namespace Go.AL.Sc
open Go Go.AL Go.AL.Bd Go.AL.Tb
structure Mem where
 name : Str
 time : Int
 uid : Int
 gid : Int
 mode : Int
 data : List UInt8
deriving DecidableEq
abbrev Mem.enc (m : Mem) : List D := [sD m.name, vI m.time, vI m.uid, vI m.gid, vI m.mode, LB m.data]
abbrev LM (l : List Mem) : D := .list .any (l.map Mem.enc)
abbrev eD (d : List Str) : List D := [LS d]
abbrev LD (l : List (List Str)) : D := .list .any (l.map eD)
structure View where
 members : List Mem
 defs : List (List Str)
abbrev View.enc (v : View) : List D := [LM v.members, LD v.defs]
def dec (b : List UInt8) : Ob.Obj × Int := match Ob.decO b with | .ok (l, x) => (⟨l, x⟩, 0) | .error e => (⟨[], []⟩, e)
def isDef (s : Ob.Sym) : Bool := decide (s.bind = 1) || decide (s.bind = 2)
def defsOf (b : List UInt8) : List Str := ((dec b).1.syms.filter isDef).map (·.name)
end Go.AL.Sc

namespace Go.AL.Ar
open Go Go.AL Go.AL.Hd Go.AL.Ln Go.AL.Sc
structure Part where
 h : Hdr
 data : Str
 why : Int
abbrev Part.enc (p : Part) : List D := p.h.enc ++ [.list .nat (p.data.map byteD), vI p.why]
abbrev szN (b : Str) : Nat := (decR b).1.size.toNat
theorem dec_size {b : Str} (h : (decR b).2 = 0) : (decR b).1.size = (szN b : Int) ∧ szN b ≤ 1000000000000 := by
 have h1 := (dec_enc h).2
 have h2 := encR_bd (h := (decR b).1) (by rw [h1])
 have h3 : 0 ≤ (decR b).1.size := by
  unfold decR at h ⊢
  split
  ·simp
  ·split
   ·split
    ·split
     ·exact Int.natCast_nonneg _
     ·simp
    ·simp
   ·simp
 exact ⟨by unfold szN; omega, by unfold szN; have := h2.2.2.2.2.2; omega⟩
def nextP (b : Str) : Part × Nat :=
 if (decR b).2 ≠ 0 then (⟨hdr0, [], (decR b).2⟩, 0)
 else if b.length < 60 + szN b + szN b % 2 then (⟨hdr0, [], 2⟩, 0)
 else if szN b % 2 ≠ 0 ∧ b[60 + szN b]? ≠ some 10 then (⟨hdr0, [], 5⟩, 0)
 else (⟨(decR b).1, prt b 60 (60 + szN b), 0⟩, 60 + szN b + szN b % 2)
theorem next_ok {b : Str} (h : (nextP b).1.why = 0) : 60 ≤ (nextP b).2 ∧ (nextP b).2 ≤ b.length ∧ (decR b).2 = 0 ∧ (nextP b).1 = ⟨(decR b).1, prt b 60 (60 + szN b), 0⟩ ∧ (nextP b).2 = 60 + szN b + szN b % 2 ∧ (szN b % 2 ≠ 0 → b[60 + szN b]? = some 10) := by
 unfold nextP at h ⊢
 split at h
 ·rename_i h1
  exact absurd h h1
 ·rename_i h1
  split at h
  ·simp at h
  ·rename_i h2
   split at h
   ·simp at h
   ·rename_i h3
    rw [if_neg h1, if_neg h2, if_neg h3]
    refine ⟨?_, ?_, by simpa using h1, rfl, rfl, fun h4 => ?_⟩
    ·show 60 ≤ 60 + szN b + szN b % 2; omega
    ·show 60 + szN b + szN b % 2 ≤ b.length; omega
    ·by_cases h5 : b[60 + szN b]? = some 10
     ·exact h5
     ·exact absurd ⟨h4, h5⟩ h3
def partsP (k : Nat) (b : Str) : List (Nat × Part) :=
 if h : b = [] then [] else
 if h2 : (nextP b).1.why = 0 then (k, (nextP b).1) :: partsP (k + (nextP b).2) (b.drop (nextP b).2)
 else [(k, (nextP b).1)]
termination_by b.length
decreasing_by
 have h1 := next_ok h2
 have : 0 < b.length := List.length_pos_iff.2 h
 simp; omega
theorem partsP_nil (k : Nat) : partsP k [] = [] := by rw [partsP]; simp
theorem partsP_ok {k : Nat} {b : Str} (h : b ≠ []) (h2 : (nextP b).1.why = 0) : partsP k b = (k, (nextP b).1) :: partsP (k + (nextP b).2) (b.drop (nextP b).2) := by
 rw [partsP, dif_neg h, dif_pos h2]
theorem partsP_bad {k : Nat} {b : Str} (h : b ≠ []) (h2 : (nextP b).1.why ≠ 0) : partsP k b = [(k, (nextP b).1)] := by
 rw [partsP, dif_neg h, dif_neg h2]
structure PS where
 hm : Bool
 map : Str
 ms : List Mem
 os : List Nat
 names : Str
 ht : Bool
abbrev PS0 : PS := ⟨false, [], [], [], [], false⟩
abbrev PS.first (s : PS) : Bool := decide (s.ms.length = 0) && !s.ht
def addP (s : PS) (k : Nat) (p : Part) : PS × Int :=
 if p.h.name = [47] then (if (!s.first || s.hm) = true then (s, 8) else (⟨true, p.data, s.ms, s.os, s.names, s.ht⟩, 0))
 else if p.h.name = [47, 47] then (if (entR p.data).2 ≠ 0 ∨ s.first = false then (s, 7) else (⟨s.hm, s.map, s.ms, s.os, p.data, true⟩, 0))
 else if (resP p.h.name s.names).2 ≠ 0 then (s, (resP p.h.name s.names).2)
 else (⟨s.hm, s.map, s.ms ++ [⟨(resP p.h.name s.names).1, p.h.date, p.h.uid, p.h.gid, p.h.mode, p.data⟩], s.os ++ [k], s.names, s.ht⟩, 0)
def stepP (s : PS) (x : Nat × Part) : PS × Int := if x.2.why ≠ 0 then (s, x.2.why) else addP s x.1 x.2
abbrev foldA (acc : PS × Int) (p : List (Nat × Part)) : PS × Int := p.foldl (fun acc x => stepP acc.1 x) acc
abbrev foldP (p : List (Nat × Part)) : PS × Int := foldA (PS0, 0) p
def runP (s : PS) : List (Nat × Part) → PS × Option (Nat × Int)
 | [] => (s, none)
 | x :: r => if (stepP s x).2 ≠ 0 then ((stepP s x).1, some (x.1, (stepP s x).2)) else runP (stepP s x).1 r
structure Arc where
 hm : Bool
 map : Str
 ms : List Mem
 os : List Nat
deriving DecidableEq
abbrev Arc0 : Arc := ⟨false, [], [], []⟩
abbrev PS.arc (s : PS) : Arc := ⟨s.hm, s.map, s.ms, s.os⟩
abbrev magic : Str := [33, 60, 97, 114, 99, 104, 62, 10]
def arcP (b : Str) : Arc × Nat × Int :=
 if b.length < 8 then (Arc0, 0, 2) else if b.take 8 ≠ magic then (Arc0, 0, 1) else
 match runP PS0 (partsP 8 (b.drop 8)) with
 | (s, none) => (s.arc, 0, 0)
 | (_, some (k, e)) => (Arc0, k, e)
end Go.AL.Ar

namespace Go.AL.Ar
open Go Go.AL Go.AL.Hd Go.AL.Ln Go.AL.Sc
theorem foldP_snoc (p : List (Nat × Part)) (x : Nat × Part) : foldP (p ++ [x]) = stepP (foldP p).1 x := by simp [foldP, foldA, List.foldl_append]
abbrev okA (p : List (Nat × Part)) : Bool := decide ((foldP p).2 = 0)
theorem visitA : ∀ (r pre : List (Nat × Part)), okA pre = true →
  (okA (visitR okA pre r) = true → visitR okA pre r = pre ++ r ∧ runP (foldP pre).1 r = ((foldP (pre ++ r)).1, none)) ∧
  (okA (visitR okA pre r) = false → ∃ q x, visitR okA pre r = q ++ [x] ∧ okA q = true ∧ runP (foldP pre).1 r = ((foldP (q ++ [x])).1, some (x.1, (foldP (q ++ [x])).2)))
 | [], pre, h => by simp [visitR, h, runP]
 | x :: r, pre, h => by
  simp only [visitR]
  cases ho : okA (pre ++ [x]) with
  | true =>
   obtain ⟨h1, h2⟩ := visitA r (pre ++ [x]) ho
   have e : runP (foldP pre).1 (x :: r) = runP (foldP (pre ++ [x])).1 r := by
    have ho' := of_decide_eq_true ho
    rw [foldP_snoc] at ho' ⊢
    rw [runP, if_neg (fun h => h ho')]
   rw [e]
   refine ⟨fun h3 => ?_, fun h3 => h2 h3⟩
   have := h1 h3
   simpa using this
  | false =>
   simp only []
   refine ⟨fun h2 => by rw [ho] at h2; simp at h2, fun _ => ⟨pre, x, rfl, h, ?_⟩⟩
   have ho' := of_decide_eq_false ho
   rw [foldP_snoc] at ho' ⊢
   rw [runP, if_pos ho']
theorem part_bd {b : Str} : (nextP b).1.data.length ≤ b.length ∧ (nextP b).1.h.name.length ≤ 16 := by
 by_cases h : (nextP b).1.why = 0
 ·obtain ⟨h1, h2, h3, h4, h5, h6⟩ := next_ok h
  rw [h4]
  have h7 := (dec_enc h3).2
  have h8 := encR_bd (h := (decR b).1) (by rw [h7])
  refine ⟨?_, ?_⟩
  ·show (prt b 60 (60 + szN b)).length ≤ _
   simp [prt]; omega
  ·exact h8.1
 ·unfold nextP at h ⊢
  split
  ·simp
  ·rename_i h1
   rw [if_neg h1] at h
   split
   ·simp
   ·rename_i h2
    rw [if_neg h2] at h
    split
    ·simp
    ·rename_i h3
     rw [if_neg h3] at h
     simp at h
theorem parts_bd : ∀ (n : Nat) (b : Str) (k : Nat), b.length ≤ n → (partsP k b).length * 60 ≤ b.length + 60 ∧ ∀ x ∈ partsP k b, x.2.data.length ≤ b.length ∧ x.2.h.name.length ≤ 16 ∧ k ≤ x.1 ∧ x.1 ≤ k + b.length
 | n, b, k, hn => by
  by_cases h0 : b = []
  ·subst h0; rw [partsP_nil]; simp
  ·have hp : 0 < b.length := List.length_pos_iff.2 h0
   obtain ⟨p1, p2⟩ := part_bd (b := b)
   by_cases h : (nextP b).1.why = 0
   ·rw [partsP_ok h0 h]
    obtain ⟨h1, h2, _⟩ := next_ok h
    match n, hn with
    | 0, hn => omega
    | n + 1, hn =>
     have ih := parts_bd n (b.drop (nextP b).2) (k + (nextP b).2) (by simp; omega)
     simp only [List.length_drop] at ih
     refine ⟨by rw [List.length_cons]; omega, fun x hx => ?_⟩
     rcases List.mem_cons.1 hx with rfl | hx
     ·exact ⟨p1, p2, Nat.le_refl _, Nat.le_add_right _ _⟩
     ·have := ih.2 x hx
      omega
   ·rw [partsP_bad h0 h]
    refine ⟨by rw [List.length_singleton]; omega, fun x hx => ?_⟩
    obtain rfl := List.mem_singleton.1 hx
    exact ⟨p1, p2, Nat.le_refl _, Nat.le_add_right _ _⟩
structure Lim (c n : Nat) (s : PS) : Prop where
 m : s.ms.length ≤ n
 o : s.os.length = s.ms.length
 t : s.names.length ≤ c
theorem Lim.step {c n : Nat} {s : PS} {x : Nat × Part} (h : Lim c n s) (hx : x.2.data.length ≤ c) : Lim c (n + 1) (stepP s x).1 := by
 obtain ⟨h1, h2, h3⟩ := h
 have h0 : Lim c (n + 1) s := ⟨by omega, h2, h3⟩
 unfold stepP
 split
 ·exact h0
 ·unfold addP
  split
  ·split
   ·exact h0
   ·exact ⟨by show s.ms.length ≤ _; omega, h2, h3⟩
  ·split
   ·split
    ·exact h0
    ·exact ⟨by show s.ms.length ≤ _; omega, h2, hx⟩
   ·split
    ·exact h0
    ·exact ⟨by simp; omega, by simp; omega, h3⟩
theorem Lim.foldN {c : Nat} : ∀ (n : Nat) (p : List (Nat × Part)), p.length = n → (∀ x ∈ p, x.2.data.length ≤ c) → Lim c p.length (foldP p).1
 | 0, p, hn => by
  obtain rfl := List.eq_nil_of_length_eq_zero hn
  intro _; exact ⟨Nat.le_refl _, rfl, Nat.zero_le _⟩
 | n + 1, p, hn => by
  intro h
  rcases List.eq_nil_or_concat p with rfl | ⟨q, x, rfl⟩
  ·simp at hn
  ·simp only [List.concat_eq_append] at hn h ⊢
   rw [foldP_snoc, List.length_append]
   exact (Lim.foldN n q (by simpa using hn) fun y hy => h y (List.mem_append_left _ hy)).step (h x (by simp))
theorem Lim.fold {c : Nat} (p : List (Nat × Part)) (h : ∀ x ∈ p, x.2.data.length ≤ c) : Lim c p.length (foldP p).1 := Lim.foldN _ p rfl h
end Go.AL.Ar

namespace Go.AL.Ar
open Go Go.AL Go.AL.Hd Go.AL.Ln Go.AL.Sc
theorem run_bad {s : PS} {k : Nat} {t : Str} (h : t ≠ []) (h2 : (nextP t).1.why ≠ 0) : runP s (partsP k t) = (s, some (k, (nextP t).1.why)) := by
 rw [partsP_bad h h2, runP]
 have e : stepP s (k, (nextP t).1) = (s, (nextP t).1.why) := by unfold stepP; rw [if_pos h2]
 rw [e, if_pos h2]
theorem run_add {s : PS} {k : Nat} {t : Str} (h : t ≠ []) (h2 : (nextP t).1.why = 0) : runP s (partsP k t) =
  if (addP s k (nextP t).1).2 ≠ 0 then ((addP s k (nextP t).1).1, some (k, (addP s k (nextP t).1).2)) else runP (addP s k (nextP t).1).1 (partsP (k + (nextP t).2) (t.drop (nextP t).2)) := by
 rw [partsP_ok h h2, runP]
 have e : stepP s (k, (nextP t).1) = addP s k (nextP t).1 := by unfold stepP; rw [if_neg (fun h => h h2)]
 rw [e]
abbrev usedP (s : PS) : Bool := !s.first || s.hm
theorem add_used {s : PS} {k : Nat} {p : Part} (h : (addP s k p).2 = 0) : usedP (addP s k p).1 = true := by
 unfold addP at h ⊢
 split
 ·rename_i h1
  rw [if_pos h1] at h
  split
  ·rename_i h2; rw [if_pos h2] at h; simp at h
  ·simp [usedP]
 ·rename_i h1
  rw [if_neg h1] at h
  split
  ·rename_i h2
   rw [if_pos h2] at h
   split
   ·rename_i h3; rw [if_pos h3] at h; simp at h
   ·simp [usedP, PS.first]
  ·rename_i h2
   rw [if_neg h2] at h
   split
   ·rename_i h3; rw [if_pos h3] at h; exact absurd h h3
   ·simp [usedP, PS.first]
theorem add_names {s : PS} {k : Nat} {p : Part} (h : (entR s.names).2 = 0) : (entR (addP s k p).1.names).2 = 0 := by
 unfold addP
 split
 ·split <;> exact h
 ·split
  ·split
   ·exact h
   ·rename_i h3
    by_cases h4 : (entR p.data).2 = 0
    ·exact h4
    ·exact absurd (.inl h4) h3
  ·split <;> exact h
theorem ent_nil : (entR []).2 = 0 := by
 unfold entR
 rw [entO_none (by decide)]
 rfl
structure At (b : Str) (x : PS × Nat) : Prop where
 run : runP PS0 (partsP 8 (b.drop 8)) = runP x.1 (partsP x.2 (b.drop x.2))
 lo : 8 ≤ x.2
 hi : x.2 ≤ b.length
 use : usedP x.1 = decide (x.2 ≠ 8)
 ent : (entR x.1.names).2 = 0
 nml : x.1.names.length ≤ b.length
 ms : x.1.ms.length ≤ x.2
 os : x.1.os.length = x.1.ms.length
theorem At.start {b : Str} (h : 8 ≤ b.length) : At b (PS0, 8) := ⟨rfl, Nat.le_refl _, h, rfl, ent_nil, Nat.zero_le _, Nat.zero_le _, rfl⟩
theorem At.ne {b : Str} {s : PS} {k : Nat} (h : At b (s, k)) (hk : k < b.length) : b.drop k ≠ [] := fun e => by have := congrArg List.length e; simp at this; omega
theorem At.step {b : Str} {s : PS} {k : Nat} (h : At b (s, k)) (hk : k < b.length) (hw : (nextP (b.drop k)).1.why = 0) (ha : (addP s k (nextP (b.drop k)).1).2 = 0) :
  At b ((addP s k (nextP (b.drop k)).1).1, k + (nextP (b.drop k)).2) := by
 obtain ⟨n1, n2, n3, n4, n5, n6⟩ := next_ok hw
 have hd : (b.drop k).length = b.length - k := by simp
 have hlo : 8 ≤ k := h.lo
 have hs : stepP s (k, (nextP (b.drop k)).1) = addP s k (nextP (b.drop k)).1 := by unfold stepP; rw [if_neg (fun h => h hw)]
 have hL := Lim.step (c := b.length) (n := k) (s := s) (x := (k, (nextP (b.drop k)).1)) ⟨h.ms, h.os, h.nml⟩ (by have := (part_bd (b := b.drop k)).1; simp only []; omega)
 rw [hs] at hL
 refine ⟨?_, ?_, ?_, ?_, ?_, ?_, ?_, ?_⟩
 ·have := h.run
  simp only at this
  rw [run_add (h.ne hk) hw, if_neg (fun h => h ha), List.drop_drop] at this
  exact this
 ·show 8 ≤ k + _; omega
 ·show k + _ ≤ b.length; omega
 ·rw [add_used ha]; symm; exact decide_eq_true (show k + (nextP (b.drop k)).2 ≠ 8 by omega)
 ·exact add_names h.ent
 ·exact hL.t
 ·have := hL.m; show _ ≤ k + _; simp only [] at this ⊢; omega
 ·exact hL.o
theorem arc_run {b : Str} (h1 : ¬ b.length < 8) (h2 : b.take 8 = magic) : arcP b = match runP PS0 (partsP 8 (b.drop 8)) with | (s, none) => (s.arc, 0, 0) | (_, some (k, e)) => (Arc0, k, e) := by
 unfold arcP; rw [if_neg h1, if_neg (fun h => h h2)]; try rfl
theorem At.bad {b : Str} {s : PS} {k : Nat} (h : At b (s, k)) (hk : k < b.length) (h1 : ¬ b.length < 8) (h2 : b.take 8 = magic) (hw : (nextP (b.drop k)).1.why ≠ 0) : arcP b = (Arc0, k, (nextP (b.drop k)).1.why) := by
 rw [arc_run h1 h2, h.run, run_bad (h.ne hk) hw]
theorem At.addbad {b : Str} {s : PS} {k : Nat} (h : At b (s, k)) (hk : k < b.length) (h1 : ¬ b.length < 8) (h2 : b.take 8 = magic) (hw : (nextP (b.drop k)).1.why = 0) {e : Int} (he : (addP s k (nextP (b.drop k)).1).2 = e) (he0 : e ≠ 0) : arcP b = (Arc0, k, e) := by
 subst he
 rw [arc_run h1 h2, h.run, run_add (h.ne hk) hw, if_pos he0]
theorem At.fin {b : Str} {s : PS} {k : Nat} (h : At b (s, k)) (hk : ¬ k < b.length) (h1 : ¬ b.length < 8) (h2 : b.take 8 = magic) : arcP b = (s.arc, 0, 0) := by
 rw [arc_run h1 h2, h.run]
 simp only []
 rw [List.drop_of_length_le (by omega), partsP_nil]
 rfl
end Go.AL.Ar

namespace Go.AL.Ar
open Go Go.AL Go.AL.Hd Go.AL.Ln Go.AL.Sc
theorem enc_any {nm : Str} {a b c d e : Int} (hf : fitN nm = true) (h1 : 0 ≤ a ∧ a < 1000000000000) (h2 : 0 ≤ b ∧ b < 1000000) (h3 : 0 ≤ c ∧ c < 1000000) (h4 : 0 ≤ d ∧ d < 16777216) (h5 : 0 ≤ e ∧ e < 10000000000) (hn : nm ≠ [47, 47] ∨ (a = 0 ∧ b = 0 ∧ c = 0 ∧ d = 0)) : (encR ⟨nm, a, b, c, d, e⟩).2 = 0 := by
 have F : ∀ (n : Int) (b w : Nat), (fieldR n b w false).2 = true ↔ (fmtR b w n).2 = 0 := fun n b w => by simp [fieldR]
 have f1 := (F a 10 12).trans (fmt_iff (b := 10) (w := 12) (by omega) (by omega) a)
 have f2 := (F b 10 6).trans (fmt_iff (b := 10) (w := 6) (by omega) (by omega) b)
 have f3 := (F c 10 6).trans (fmt_iff (b := 10) (w := 6) (by omega) (by omega) c)
 have f4 := (F d 8 8).trans (fmt_iff (b := 8) (w := 8) (by omega) (by omega) d)
 have f5 := (F e 10 10).trans (fmt_iff (b := 10) (w := 10) (by omega) (by omega) e)
 have e1 : (10 : Nat) ^ 12 = 1000000000000 := by decide
 have e2 : (10 : Nat) ^ 6 = 1000000 := by decide
 have e4 : (8 : Nat) ^ 8 = 16777216 := by decide
 have e5 : (10 : Nat) ^ 10 = 10000000000 := by decide
 rw [e1] at f1; rw [e2] at f2 f3; rw [e4] at f4; rw [e5] at f5
 unfold encR
 simp only
 rw [if_pos hf]
 by_cases hq : nm = [47, 47]
 ·rcases hn with hn | ⟨rfl, rfl, rfl, rfl⟩
  ·exact absurd hq hn
  ·rw [decide_eq_true hq, if_pos]
   simp only [Bool.and_eq_true]
   exact ⟨rfl, rfl, rfl, rfl, f5.2 h5⟩
 ·rw [decide_eq_false hq, if_pos]
  simp only [Bool.and_eq_true]
  exact ⟨f1.2 h1, f2.2 h2, f3.2 h3, f4.2 h4, f5.2 h5⟩
abbrev padP (d : Str) : Str := if d.length % 2 = 1 then [10] else []
theorem padP_len (d : Str) : (padP d).length = d.length % 2 := by
 unfold padP; split <;> simp <;> omega
theorem next_enc {h : Hdr} {d : Str} (rest : Str) (he : (encR h).2 = 0) (hs : h.size = d.length) : nextP ((encR h).1 ++ d ++ padP d ++ rest) = (⟨h, d, 0⟩, 60 + d.length + d.length % 2) := by
 obtain ⟨hl, hd⟩ := enc_dec h (d ++ padP d ++ rest) he
 have hp := padP_len d
 have ea : (encR h).1 ++ d ++ padP d ++ rest = (encR h).1 ++ (d ++ padP d ++ rest) := by simp
 rw [ea]
 generalize hA : (encR h).1 = A at hl hd
 have hz : szN (A ++ (d ++ padP d ++ rest)) = d.length := by unfold szN; rw [hd, hs]; simp
 unfold nextP
 rw [hd, hz, if_neg (by simp), if_neg (by simp only [List.length_append]; omega), if_neg]
 ·congr 2
  rw [List.append_assoc]; exact prt_mid hl rfl
 ·rintro ⟨h1, h2⟩
  apply h2
  rw [List.getElem?_append_right (by omega), show 60 + d.length - A.length = d.length by omega, List.append_assoc, List.getElem?_append_right (by omega), Nat.sub_self]
  have : padP d = [10] := by unfold padP; rw [if_pos (by omega)]
  rw [this]; rfl
theorem runP_err : ∀ {l : List (Nat × Part)} {s s' : PS} {k : Nat} {e : Int}, runP s l = (s', some (k, e)) → (∃ x ∈ l, x.1 = k) ∧ e ≠ 0
 | [], s, s', k, e, h => by simp [runP] at h
 | x :: r, s, s', k, e, h => by
  rw [runP] at h
  split at h
  ·rename_i hx
   simp only [Prod.mk.injEq, Option.some.injEq] at h
   exact ⟨⟨x, List.mem_cons_self, h.2.1⟩, by rw [← h.2.2]; exact hx⟩
  ·obtain ⟨⟨y, h1, h2⟩, h3⟩ := runP_err h
   exact ⟨⟨y, List.mem_cons_of_mem _ h1, h2⟩, h3⟩
theorem arc_ok {b : Str} (h : (arcP b).2.2 = 0) : 8 ≤ b.length ∧ b.take 8 = magic ∧ ∃ s, runP PS0 (partsP 8 (b.drop 8)) = (s, none) ∧ arcP b = (s.arc, 0, 0) := by
 by_cases h1 : b.length < 8
 ·unfold arcP at h; rw [if_pos h1] at h; simp at h
 ·by_cases h2 : b.take 8 = magic
  ·have e := arc_run h1 h2
   rw [e] at h ⊢
   refine ⟨by omega, h2, ?_⟩
   cases hr : runP PS0 (partsP 8 (b.drop 8)) with
   | mk s o =>
    cases o with
    | none => exact ⟨s, rfl, rfl⟩
    | some x =>
     obtain ⟨k, e'⟩ := x
     rw [hr] at h
     exact absurd h (runP_err hr).2
  ·unfold arcP at h; rw [if_neg h1, if_pos h2] at h; simp at h
theorem arc_err {b : Str} (h : (arcP b).2.2 ≠ 0) : (arcP b).1 = Arc0 ∧ (arcP b).2.1 ≤ b.length := by
 by_cases h1 : b.length < 8
 ·unfold arcP; rw [if_pos h1]; exact ⟨rfl, Nat.zero_le _⟩
 ·by_cases h2 : b.take 8 = magic
  ·have e := arc_run h1 h2
   rw [e] at h ⊢
   cases hr : runP PS0 (partsP 8 (b.drop 8)) with
   | mk s o =>
    cases o with
    | none => rw [hr] at h; exact absurd rfl h
    | some x =>
     obtain ⟨k, e'⟩ := x
     obtain ⟨⟨x, hx, rfl⟩, _⟩ := runP_err hr
     have := (parts_bd _ (b.drop 8) 8 (Nat.le_refl _)).2 x hx
     simp only [List.length_drop] at this
     exact ⟨rfl, by show x.1 ≤ _; omega⟩
  ·unfold arcP; rw [if_neg h1, if_pos h2]; exact ⟨rfl, Nat.zero_le _⟩
theorem add_map {s : PS} {k : Nat} {p : Part} (hn : p.h.name = [47]) : addP s k p = if (!s.first || s.hm) = true then (s, 8) else (⟨true, p.data, s.ms, s.os, s.names, s.ht⟩, 0) := by unfold addP; rw [if_pos hn]
theorem add_tab {s : PS} {k : Nat} {p : Part} (hn : p.h.name = [47, 47]) : addP s k p = if (entR p.data).2 ≠ 0 ∨ s.first = false then (s, 7) else (⟨s.hm, s.map, s.ms, s.os, p.data, true⟩, 0) := by unfold addP; rw [if_neg (by rw [hn]; decide), if_pos hn]
end Go.AL.Ar

namespace Go.AL.Ar
open Go Go.AL Go.AL.Hd Go.AL.Ln Go.AL.Sc
theorem res_valid {fl t : Str} (he : (entR t).2 = 0) (h : (resP fl t).2 = 0) : validN (resP fl t).1 = true := by
 unfold resP at h ⊢
 split
 ·rename_i h1
  exact (short_not h1.2).1
 ·rename_i h1
  rw [if_neg h1] at h
  split
  ·rename_i ds
   simp only at h ⊢
   split
   ·rename_i h2
    rw [if_pos h2] at h
    cases hf : (linesP 0 t).find? (fun p => decide (p.1 = (parseR 10 ds).1)) with
    | none => rw [hf] at h; simp at h
    | some p =>
     simp only []
     have hm := List.mem_of_find?_eq_some hf
     have he' : ((linesP 0 t).all fun p => validN p.2) = true := by
      unfold entR at he
      rw [ent_lines _ 0 (Nat.le_refl _)] at he
      cases ha : ((linesP 0 t).all fun p => validN p.2) with
      | true => rfl
      | false => rw [ha] at he; simp at he
     exact List.all_eq_true.1 he' p hm
   ·rename_i h2
    rw [if_neg h2] at h; simp at h
  ·rename_i hx
   split at h
   ·rename_i ds; exact absurd rfl (hx ds)
   ·simp at h
theorem res_len (fl t : Str) : (resP fl t).1.length ≤ fl.length + t.length + 1 := by
 unfold resP
 split
 ·simp; omega
 ·split
  ·split
   ·split
    ·rename_i p hf
     have := ((lines_len t.length 0 (Nat.le_refl _)).2 p (List.mem_of_find?_eq_some hf)).1
     simp only []
     omega
    ·simp
   ·simp
  ·simp
structure MAt (b : Str) (o e : Nat) (m : Mem) : Prop where
 lo : 8 ≤ o
 en : e = o + 60 + m.data.length + m.data.length % 2
 hi : e ≤ b.length
 ok : (decR (b.drop o)).2 = 0
 t : (decR (b.drop o)).1.date = m.time
 u : (decR (b.drop o)).1.uid = m.uid
 g : (decR (b.drop o)).1.gid = m.gid
 mo : (decR (b.drop o)).1.mode = m.mode
 sz : (decR (b.drop o)).1.size = m.data.length
 d : prt b (o + 60) (o + 60 + m.data.length) = m.data
 v : validN m.name = true
 nl : m.name.length ≤ b.length + 17
 nn : (decR (b.drop o)).1.name ≠ [47, 47]
abbrev Chain (b : Str) (s : PS) (k : Nat) : Prop := ∀ i, i < s.ms.length → ∃ m o e, s.ms[i]? = some m ∧ s.os[i]? = some o ∧ (s.os ++ [k])[i + 1]? = some e ∧ MAt b o e m
theorem Chain.step {b : Str} {s : PS} {k : Nat} (A : At b (s, k)) (C : Chain b s k) (hk : k < b.length) (hw : (nextP (b.drop k)).1.why = 0) (ha : (addP s k (nextP (b.drop k)).1).2 = 0) :
  Chain b (addP s k (nextP (b.drop k)).1).1 (k + (nextP (b.drop k)).2) := by
 obtain ⟨n1, n2, n3, n4, n5, n6⟩ := next_ok hw
 obtain ⟨z1, z2⟩ := dec_size n3
 have hd : (b.drop k).length = b.length - k := by simp
 have hol : s.os.length = s.ms.length := A.os
 have hlo : 8 ≤ k := A.lo
 have hen : (entR s.names).2 = 0 := A.ent
 have none : s.first = true → ∀ {x : PS}, x.ms = s.ms → Chain b x (k + (nextP (b.drop k)).2) := by
  intro h x hx i hi
  rw [hx] at hi
  simp only [PS.first, Bool.and_eq_true, decide_eq_true_eq] at h
  omega
 unfold addP at ha ⊢
 split
 ·rename_i h1
  rw [if_pos h1] at ha
  split
  ·rename_i h2; rw [if_pos h2] at ha; simp at ha
  ·rename_i h2
   refine none ?_ rfl
   cases hf : s.first with
   | true => rfl
   | false => rw [hf] at h2; simp at h2
 ·rename_i h1
  rw [if_neg h1] at ha
  split
  ·rename_i h2
   rw [if_pos h2] at ha
   split
   ·rename_i h3; rw [if_pos h3] at ha; simp at ha
   ·rename_i h3
    refine none ?_ rfl
    cases hf : s.first with
    | true => rfl
    | false => exact absurd (.inr hf) h3
  ·rename_i h2
   rw [if_neg h2] at ha
   split
   ·rename_i h3; rw [if_pos h3] at ha; exact absurd ha h3
   ·rename_i h3
    have h3' : (resP (nextP (b.drop k)).1.h.name s.names).2 = 0 := by
     by_cases h : (resP (nextP (b.drop k)).1.h.name s.names).2 = 0
     ·exact h
     ·exact absurd h h3
    have hv := res_valid hen h3'
    intro i hi
    simp only [List.length_append, List.length_singleton] at hi
    by_cases hi' : i < s.ms.length
    ·obtain ⟨m, o, e, c1, c2, c3, c4⟩ := C i hi'
     refine ⟨m, o, e, ?_, ?_, ?_, c4⟩
     ·simp only []; rw [List.getElem?_append_left hi']; exact c1
     ·simp only []; rw [List.getElem?_append_left (by omega)]; exact c2
     ·simp only []; rw [List.getElem?_append_left (by simp; omega)]; exact c3
    ·have ei : i = s.ms.length := by omega
     subst ei
     have hdat : (nextP (b.drop k)).1.data = prt b (k + 60) (k + 60 + szN (b.drop k)) := by
      rw [n4]; simp only [prt]; rw [List.take_drop, List.drop_drop, Nat.add_assoc]
     have hdl : (nextP (b.drop k)).1.data.length = szN (b.drop k) := by rw [hdat]; simp [prt]; omega
     refine ⟨_, k, k + (nextP (b.drop k)).2, (by simp; rfl), by rw [← hol]; simp, by rw [← hol]; simp, ?_⟩
     refine ⟨hlo, ?_, ?_, n3, by rw [n4], by rw [n4], by rw [n4], by rw [n4], ?_, ?_, hv, ?_, ?_⟩
     ·show k + _ = k + 60 + (nextP (b.drop k)).1.data.length + (nextP (b.drop k)).1.data.length % 2
      rw [hdl, n5]; omega
     ·omega
     ·show _ = (((nextP (b.drop k)).1.data.length : Nat) : Int)
      rw [hdl]; exact z1
     ·show prt b (k + 60) (k + 60 + (nextP (b.drop k)).1.data.length) = (nextP (b.drop k)).1.data
      rw [hdl, hdat]
     ·have q1 := res_len (nextP (b.drop k)).1.h.name s.names
      have q2 := (part_bd (b := b.drop k)).2
      have q3 : s.names.length ≤ b.length := A.nml
      show (resP (nextP (b.drop k)).1.h.name s.names).1.length ≤ _
      omega
     ·rw [n4] at h2; exact h2
theorem chain_run {b : Str} {s' : PS} : ∀ (n : Nat) (s : PS) (k : Nat), b.length - k ≤ n → At b (s, k) → Chain b s k → runP s (partsP k (b.drop k)) = (s', none) → Chain b s' b.length ∧ s'.os.length = s'.ms.length := by
 intro n
 induction n with
 | zero =>
  intro s k hn A C h
  have hk : k ≤ b.length := A.hi
  have ek : k = b.length := by omega
  rw [List.drop_of_length_le (by omega), partsP_nil] at h
  injection h with h _
  subst h
  exact ⟨ek ▸ C, A.os⟩
 | succ n ih =>
  intro s k hn A C h
  by_cases hk : k < b.length
  ·by_cases hw : (nextP (b.drop k)).1.why = 0
   ·rw [run_add (A.ne hk) hw] at h
    by_cases ha : (addP s k (nextP (b.drop k)).1).2 = 0
    ·rw [if_neg (fun h => h ha), List.drop_drop] at h
     have := (next_ok hw).1
     exact ih _ _ (by omega) (A.step hk hw ha) (C.step A hk hw ha) h
    ·rw [if_pos ha] at h; simp at h
   ·rw [run_bad (A.ne hk) hw] at h; simp at h
  ·have hk' : k ≤ b.length := A.hi
   have ek : k = b.length := by omega
   rw [List.drop_of_length_le (by omega), partsP_nil] at h
   injection h with h _
   subst h
   exact ⟨ek ▸ C, A.os⟩
theorem chain_ok {b : Str} {s : PS} (h1 : 8 ≤ b.length) (h : runP PS0 (partsP 8 (b.drop 8)) = (s, none)) : Chain b s b.length ∧ s.os.length = s.ms.length :=
 chain_run _ PS0 8 (Nat.le_refl _) (At.start h1) (fun i hi => by simp at hi) h
theorem run_ms : ∀ {l : List (Nat × Part)} {s s' : PS}, runP s l = (s', none) → s'.ms.length ≤ s.ms.length + l.length
 | [], s, s', h => by injection h with h _; subst h; exact Nat.le_refl _
 | x :: r, s, s', h => by
  rw [runP] at h
  split at h
  ·simp at h
  ·have h1 := run_ms h
   have h2 : (stepP s x).1.ms.length ≤ s.ms.length + 1 := by
    unfold stepP addP
    repeat' split
    all_goals simp
   rw [List.length_cons]; omega
theorem ms_bd {b : Str} {s : PS} (h : runP PS0 (partsP 8 (b.drop 8)) = (s, none)) : s.ms.length ≤ b.length + 60 := by
 have h1 := run_ms h
 have h2 := (parts_bd _ (b.drop 8) 8 (Nat.le_refl _)).1
 simp only [List.length_drop, List.length_nil] at h1 h2
 omega
theorem run_map {c : Nat} : ∀ {l : List (Nat × Part)} {s s' : PS}, runP s l = (s', none) → (∀ x ∈ l, x.2.data.length ≤ c) → s.map.length ≤ c → s'.map.length ≤ c
 | [], s, s', h, _, hs => by injection h with h _; subst h; exact hs
 | x :: r, s, s', h, hx, hs => by
  rw [runP] at h
  split at h
  ·simp at h
  ·refine run_map h (fun y hy => hx y (List.mem_cons_of_mem _ hy)) ?_
   have hd := hx x List.mem_cons_self
   unfold stepP addP
   repeat' split
   all_goals first | exact hs | exact hd
theorem arc_bd (b : Str) : (arcP b).1.ms.length ≤ b.length + 60 ∧ (∀ m ∈ (arcP b).1.ms, m.data.length ≤ b.length) ∧ (arcP b).1.map.length ≤ b.length := by
 by_cases h : (arcP b).2.2 = 0
 ·obtain ⟨a1, a2, s, a3, a4⟩ := arc_ok h
  obtain ⟨C, _⟩ := chain_ok a1 a3
  rw [a4]
  refine ⟨ms_bd a3, fun m hm => ?_, run_map a3 (fun x hx => ?_) (Nat.zero_le _)⟩
  ·obtain ⟨i, hi⟩ := List.mem_iff_getElem?.1 hm
   replace hi : s.ms[i]? = some m := hi
   have hil : i < s.ms.length := by
    rcases Nat.lt_or_ge i s.ms.length with h | h
    ·exact h
    ·rw [List.getElem?_eq_none h] at hi; simp at hi
   obtain ⟨m', o, e, c1, _, _, M⟩ := C i hil
   rw [hi] at c1; injection c1 with c1; subst c1
   have := M.en; have := M.hi
   omega
  ·have := ((parts_bd _ (b.drop 8) 8 (Nat.le_refl _)).2 x hx).1
   simp only [List.length_drop] at this
   omega
 ·rw [(arc_err h).1]; simp
end Go.AL.Ar

namespace Go.AL.Ar
open Go Go.AL Go.AL.Hd Go.AL.Ln Go.AL.Sc
theorem encR_name {nm nm' : Str} {a b c d e : Int} (h : (encR ⟨nm, a, b, c, d, e⟩).2 = 0) (hn : nm ≠ [47, 47]) (hn' : nm' ≠ [47, 47]) (hf : fitN nm' = true) : (encR ⟨nm', a, b, c, d, e⟩).2 = 0 := by
 unfold encR at h ⊢
 simp only at h ⊢
 rw [if_pos hf, decide_eq_false hn']
 split at h
 ·rw [decide_eq_false hn] at h
  split at h
  ·rename_i h2
   rw [if_pos h2]
  ·simp at h
 ·simp at h
def partB (h : Hdr) (d : Str) : Str := (encR ⟨h.name, h.date, h.uid, h.gid, h.mode, d.length⟩).1 ++ d ++ padP d
abbrev mHdr (f : Str) (m : Mem) : Hdr := ⟨f, m.time, m.uid, m.gid, m.mode, m.data.length⟩
def memB (fm : List (Str × Mem)) : Str := fm.flatMap fun x => partB (mHdr x.1 x.2) x.2.data
def offP (k : Nat) : List (Str × Mem) → List Nat
 | [] => []
 | x :: r => k :: offP (k + (60 + x.2.data.length + x.2.data.length % 2)) r
theorem partB_len {h : Hdr} {d : Str} (he : (encR ⟨h.name, h.date, h.uid, h.gid, h.mode, d.length⟩).2 = 0) : (partB h d).length = 60 + d.length + d.length % 2 := by
 have := (enc_dec _ [] he).1
 have hp := padP_len d
 unfold partB
 rw [List.length_append, List.length_append, this, hp]
theorem next_part {h : Hdr} {d : Str} (rest : Str) (he : (encR ⟨h.name, h.date, h.uid, h.gid, h.mode, d.length⟩).2 = 0) : nextP (partB h d ++ rest) = (⟨⟨h.name, h.date, h.uid, h.gid, h.mode, d.length⟩, d, 0⟩, 60 + d.length + d.length % 2) :=
 next_enc rest he rfl
theorem run_part {s s' : PS} {k : Nat} {h : Hdr} {d : Str} (rest : Str) (he : (encR ⟨h.name, h.date, h.uid, h.gid, h.mode, d.length⟩).2 = 0) (ha : addP s k ⟨⟨h.name, h.date, h.uid, h.gid, h.mode, d.length⟩, d, 0⟩ = (s', 0)) :
  runP s (partsP k (partB h d ++ rest)) = runP s' (partsP (k + (60 + d.length + d.length % 2)) rest) := by
 have hl := partB_len he
 rw [run_add (by intro e; have := congrArg List.length e; simp only [List.length_append, List.length_nil] at this; omega) (by rw [next_part rest he]), next_part rest he]
 simp only [ha]
 rw [if_neg (by simp), ← hl, List.drop_left]
theorem run_mems {rest : Str} : ∀ (fm : List (Str × Mem)) (s : PS) (k : Nat), (∀ x ∈ fm, (encR (mHdr x.1 x.2)).2 = 0 ∧ resP x.1 s.names = (x.2.name, 0) ∧ x.1 ≠ [47] ∧ x.1 ≠ [47, 47]) →
  runP s (partsP k (memB fm ++ rest)) = runP ⟨s.hm, s.map, s.ms ++ fm.map (·.2), s.os ++ offP k fm, s.names, s.ht⟩ (partsP (k + (memB fm).length) rest)
 | [], s, k, _ => by simp [memB, offP]
 | x :: r, s, k, h => by
  obtain ⟨h1, h2, h3, h4⟩ := h x List.mem_cons_self
  have e : memB (x :: r) ++ rest = partB (mHdr x.1 x.2) x.2.data ++ (memB r ++ rest) := by simp [memB]
  have ha : addP s k ⟨mHdr x.1 x.2, x.2.data, 0⟩ = (⟨s.hm, s.map, s.ms ++ [x.2], s.os ++ [k], s.names, s.ht⟩, 0) := by
   unfold addP
   rw [if_neg h3, if_neg h4]
   simp only [h2]
   rw [if_neg (by simp)]
  rw [e, run_part (h := mHdr x.1 x.2) _ h1 ha, run_mems r ⟨s.hm, s.map, s.ms ++ [x.2], s.os ++ [k], s.names, s.ht⟩ (k + (60 + x.2.data.length + x.2.data.length % 2)) (fun y hy => h y (List.mem_cons_of_mem _ hy))]
  have hl : (memB (x :: r)).length = 60 + x.2.data.length + x.2.data.length % 2 + (memB r).length := by
   show (partB (mHdr x.1 x.2) x.2.data ++ memB r).length = _
   rw [List.length_append, partB_len (h := mHdr x.1 x.2) h1]
  rw [hl]
  simp only [List.append_assoc, List.singleton_append, List.map_cons, offP]
  rw [Nat.add_assoc k]
theorem fit_short {n : Str} (h : shortN n = true) : fitN (n ++ [47]) = true ∧ n ++ [47] ≠ [47] ∧ n ++ [47] ≠ [47, 47] := by
 obtain ⟨h1, h2⟩ := short_not h
 unfold validN at h1
 simp only [Bool.and_eq_true, decide_eq_true_eq, Bool.not_eq_true'] at h1
 obtain ⟨⟨h3, _⟩, h4⟩ := h1
 have h5 : ∀ x ∈ n, bad3 x = false := fun x hx => by
  cases hb : bad3 x with
  | false => rfl
  | true => rw [List.any_eq_true.2 ⟨x, hx, hb⟩] at h4; simp at h4
 refine ⟨?_, ?_, ?_⟩
 ·unfold fitN
  simp only [Bool.and_eq_true, decide_eq_true_eq, Bool.not_eq_true']
  refine ⟨⟨by simp, by simp; omega, by simp⟩, ?_⟩
  rw [List.any_append]
  have : n.any bad2 = false := by
   rw [List.any_eq_false]
   intro x hx
   have := h5 x hx
   unfold bad3 at this
   unfold bad2
   simp at this ⊢
   exact ⟨this.2.1, this.2.2⟩
  rw [this]; decide
 ·intro e
  have := congrArg List.length e
  simp at this
  rw [this] at h3; simp at h3
 ·intro e
  have e1 : n = [47] := by
   have : n ++ [47] = [47] ++ [47] := e
   exact List.append_cancel_right this
  have := h5 47 (by rw [e1]; simp)
  revert this; decide
theorem fit_long {k : Nat} (h : k < 1000000000000000) : fitN (47 :: dig 10 k) = true ∧ 47 :: dig 10 k ≠ [47] ∧ 47 :: dig 10 k ≠ [47, 47] := by
 have h1 := dig_small h
 have h2 := dig_isd (b := 10) (by omega) (by omega) k
 have h3 := dig_ne 10 k
 refine ⟨?_, ?_, ?_⟩
 ·unfold fitN
  simp only [Bool.and_eq_true, decide_eq_true_eq, Bool.not_eq_true']
  refine ⟨⟨by simp, by simp; omega, ?_⟩, ?_⟩
  ·intro e
   have hm := List.mem_of_getLast? e
   rcases List.mem_cons.1 hm with hm | hm
   ·revert hm; decide
   ·have := h2 _ hm
    revert this; decide
  ·rw [List.any_eq_false]
   intro x hx
   rcases List.mem_cons.1 hx with rfl | hx
   ·decide
   ·have := isd_iff.1 (h2 x hx)
    unfold bad2
    simp only [Bool.or_eq_true, decide_eq_true_eq]
    rintro (rfl | rfl)
    ·revert this; decide
    ·revert this; decide
 ·intro e
  injection e with _ e
  exact h3 e
 ·intro e
  injection e with _ e
  have := h2 47 (by rw [e]; simp)
  revert this; decide
theorem fld_fit {ns : List Str} {i : Nat} {n f : Str} (hn : ns[i]? = some n) (hf : (fldP 0 ns)[i]? = some f) (hs : (tabP (longs (ns.take i))).length < 1000000000000000) : fitN f = true ∧ f ≠ [47] ∧ f ≠ [47, 47] := by
 have h1 := fld_get ns 0 i hn
 rw [hf] at h1
 injection h1 with h1
 rw [Nat.zero_add] at h1
 cases hsn : shortN n with
 | true => rw [hsn, if_pos rfl] at h1; rw [h1]; exact fit_short hsn
 | false => rw [hsn, if_neg (by simp)] at h1; rw [h1]; exact fit_long hs
abbrev namesM (l : List Mem) : List Str := l.map (·.name)
abbrev fitM (m : Mem) : Prop := validN m.name = true ∧ (encR ⟨[97], m.time, m.uid, m.gid, m.mode, m.data.length⟩).2 = 0
abbrev tabM (l : List Mem) : Str := tabP (longs (namesM l))
abbrev fmM (l : List Mem) : List (Str × Mem) := (fldP 0 (namesM l)).zip l
abbrev mapB (hm : Bool) (m : Str) : Str := if hm = true then partB ⟨[47], 0, 0, 0, 0, 0⟩ m else []
abbrev tabB (l : List Mem) : Str := if tabM l = [] then [] else partB ⟨[47, 47], 0, 0, 0, 0, 0⟩ (tabM l)
def wrP (hm : Bool) (m : Str) (l : List Mem) : Str := magic ++ mapB hm m ++ tabB l ++ memB (fmM l)
abbrev baseP (hm : Bool) (m : Str) (l : List Mem) : Nat := (magic ++ mapB hm m ++ tabB l).length
def offsW (hm : Bool) (m : Str) (l : List Mem) : List Nat := offP (baseP hm m l) (fmM l)
theorem fm_snd (l : List Mem) : (fmM l).map (·.2) = l := by
 have h : (fldP 0 (namesM l)).length = l.length := by rw [fldP_len]; simp
 exact List.map_snd_zip (by omega)
theorem parse_write {hm : Bool} {m : Str} {l : List Mem} (hf : ∀ x ∈ l, fitM x) (ht : (tabM l).length < 1000000000) (hml : m.length < 1000000000) :
  arcP (wrP hm m l) = (⟨hm, if hm = true then m else [], l, offsW hm m l⟩, 0, 0) := by
 have hmag : magic.length = 8 := rfl
 have hv : (namesM l).all validN = true := by
  rw [List.all_eq_true]
  intro n hn
  obtain ⟨x, hx, rfl⟩ := List.mem_map.1 hn
  exact (hf x hx).1
 have hlen : (fldP 0 (namesM l)).length = l.length := by rw [fldP_len]; simp
 have hmem : ∀ x ∈ fmM l, (encR (mHdr x.1 x.2)).2 = 0 ∧ resP x.1 (tabM l) = (x.2.name, 0) ∧ x.1 ≠ [47] ∧ x.1 ≠ [47, 47] := by
  intro x hx
  obtain ⟨i, hi⟩ := List.mem_iff_getElem?.1 hx
  rw [List.getElem?_zip_eq_some] at hi
  obtain ⟨h1, h2⟩ := hi
  have h3 : (namesM l)[i]? = some x.2.name := by rw [List.getElem?_map, h2]; rfl
  have hs : (tabP (longs ((namesM l).take i))).length < 1000000000000000 := by
   have : (tabP (longs ((namesM l).take i))).length ≤ (tabM l).length := by
    have e : longs (namesM l) = longs ((namesM l).take i) ++ longs ((namesM l).drop i) := by
     unfold longs; rw [← List.filter_append, List.take_append_drop]
    show _ ≤ (tabP (longs (namesM l))).length
    rw [e, tabP_app]; simp
   omega
  obtain ⟨g1, g2, g3⟩ := fld_fit h3 h1 hs
  obtain ⟨k1, _⟩ := round_trip hv h3 h1 hs
  obtain ⟨f1, f2⟩ := hf x.2 (List.mem_of_getElem? h2)
  exact ⟨encR_name f2 (by decide) g3 g1, k1, g2, g3⟩
 have hd : (wrP hm m l).drop 8 = mapB hm m ++ (tabB l ++ memB (fmM l)) := by
  unfold wrP
  rw [List.append_assoc, List.append_assoc, ← hmag, List.drop_left]
 have htk : (wrP hm m l).take 8 = magic := by
  unfold wrP
  rw [List.append_assoc, List.append_assoc, ← hmag, List.take_left]
 have hge : ¬ (wrP hm m l).length < 8 := by unfold wrP; simp only [List.length_append, hmag]; omega
 rw [arc_run hge htk, hd]
 have s1 : runP PS0 (partsP 8 (mapB hm m ++ (tabB l ++ memB (fmM l)))) = runP ⟨hm, if hm = true then m else [], [], [], [], false⟩ (partsP (8 + (mapB hm m).length) (tabB l ++ memB (fmM l))) := by
  cases hm with
  | false => simp [mapB]
  | true =>
   have he : (encR ⟨[47], 0, 0, 0, 0, (m.length : Int)⟩).2 = 0 := enc_any (by decide) (by omega) (by omega) (by omega) (by omega) (by omega) (.inl (by decide))
   have hl := partB_len (h := ⟨[47], 0, 0, 0, 0, 0⟩) (d := m) he
   rw [mapB, if_pos rfl, run_part (h := ⟨[47], 0, 0, 0, 0, 0⟩) (d := m) (s' := ⟨true, m, [], [], [], false⟩) _ he (by rw [add_map rfl, if_neg (by simp [PS.first])]), hl]
   rfl
 have s2 : ∀ (k : Nat) (mp : Str), ∃ htb, runP ⟨hm, mp, [], [], [], false⟩ (partsP k (tabB l ++ memB (fmM l))) = runP ⟨hm, mp, [], [], tabM l, htb⟩ (partsP (k + (tabB l).length) (memB (fmM l))) := by
  intro k mp
  by_cases h0 : tabM l = []
  ·refine ⟨false, ?_⟩
   rw [tabB, if_pos h0, h0]; rfl
  ·refine ⟨true, ?_⟩
   have he : (encR ⟨[47, 47], 0, 0, 0, 0, ((tabM l).length : Int)⟩).2 = 0 := enc_any (by decide) (by omega) (by omega) (by omega) (by omega) (by omega) (.inr ⟨rfl, rfl, rfl, rfl⟩)
   have hl := partB_len (h := ⟨[47, 47], 0, 0, 0, 0, 0⟩) (d := tabM l) he
   have hen : (entR (tabM l)).2 = 0 := by rw [ent_longs hv]
   rw [tabB, if_neg h0, run_part (h := ⟨[47, 47], 0, 0, 0, 0, 0⟩) (d := tabM l) (s' := ⟨hm, mp, [], [], tabM l, true⟩) _ he (by rw [add_tab rfl, if_neg (by rintro (h | h); exact h hen; simp [PS.first] at h)]), hl]
 obtain ⟨htb, s2⟩ := s2 (8 + (mapB hm m).length) (if hm = true then m else [])
 have s3 := run_mems (rest := []) (fmM l) ⟨hm, if hm = true then m else [], [], [], tabM l, htb⟩ (8 + (mapB hm m).length + (tabB l).length) hmem
 rw [List.append_nil] at s3
 rw [s1, s2, s3, partsP_nil, runP]
 simp only [List.nil_append, fm_snd]
 have hb : 8 + (mapB hm m).length + (tabB l).length = baseP hm m l := by
  simp only [baseP, List.length_append, hmag]
 rw [hb]
 rfl
end Go.AL.Ar

namespace Go.AL.Cn
open Go Go.AL Go.AL.Hd Go.AL.Ln Go.AL.Sc Go.AL.Ar
abbrev Ent := Ap.Ent
def decE (b : List UInt8) : List Ent × Int := match Ap.dec b with | some q => (q, 0) | none => ([], 8)
def idxP : List Mem → List Nat → List Ent
 | m :: ms, o :: os => (defsOf m.data).map (fun s => (s, (o : Int))) ++ idxP ms os
 | _, _ => []
def chkP (a : Arc) : Int :=
 if a.hm = true then (if (decE a.map).2 ≠ 0 then (decE a.map).2 else if (decE a.map).1 = idxP a.ms a.os then 0 else 16)
 else if idxP a.ms a.os = [] then 0 else 16
abbrev viewP (l : List Mem) : View := ⟨l, l.map fun m => defsOf m.data⟩
abbrev View0 : View := ⟨[], []⟩
def openP (b : Str) : View × Nat × Int :=
 if (arcP b).2.2 ≠ 0 then (View0, (arcP b).2.1, (arcP b).2.2)
 else if chkP (arcP b).1 ≠ 0 then (View0, 8, chkP (arcP b).1)
 else (viewP (arcP b).1.ms, 0, 0)
theorem openP_ok {b : Str} {a : Arc} (h : arcP b = (a, 0, 0)) : openP b = if chkP a ≠ 0 then (View0, 8, chkP a) else (viewP a.ms, 0, 0) := by
 unfold openP; rw [h]; simp
theorem idx_names : ∀ (l : List Mem) (os : List Nat), l.length ≤ os.length → (idxP l os).map (·.1) = l.flatMap fun m => defsOf m.data
 | [], os, _ => by cases os <;> rfl
 | m :: l, [], h => by simp at h
 | m :: l, o :: os, h => by
  have := idx_names l os (by simpa using h)
  simp only [idxP, List.map_append, List.map_map, List.flatMap_cons, this]
  congr 1
  exact List.map_id _
theorem offP_len : ∀ (fm : List (Str × Mem)) (k : Nat), (offP k fm).length = fm.length
 | [], k => rfl
 | x :: r, k => by simp only [offP, List.length_cons, offP_len r]
theorem offsW_len (hm : Bool) (m : Str) (l : List Mem) : (offsW hm m l).length = l.length := by
 unfold offsW
 rw [offP_len, ← List.length_map (f := (·.2)), fm_snd]
theorem partB_len_any (h : Hdr) {d d' : Str} (e : d.length = d'.length) : (partB h d).length = (partB h d').length := by
 have h1 := padP_len d
 have h2 := padP_len d'
 unfold partB
 rw [List.length_append, List.length_append, List.length_append, List.length_append, h1, h2, e]
theorem offsW_map (hm : Bool) {m m' : Str} (l : List Mem) (e : m.length = m'.length) : offsW hm m l = offsW hm m' l := by
 unfold offsW
 have : baseP hm m l = baseP hm m' l := by
  cases hm with
  | false => rfl
  | true => simp only [baseP, List.length_append, mapB, if_true]; rw [partB_len_any _ e]
 rw [this]
theorem encB_len (l l' : List Ent) (e : l.map (·.1) = l'.map (·.1)) : (Ap.encB l).length = (Ap.encB l').length := by
 have hn : Ap.nams l = Ap.nams l' := by
  have : ∀ l : List Ent, Ap.nams l = (l.map (·.1)).flatMap fun s => s ++ [0] := fun l => by unfold Ap.nams; rw [List.flatMap_map]
  rw [this, this, e]
 have ho : ∀ l : List Ent, (Ap.offs l).length = 4 * l.length := fun l => by
  induction l with
  | nil => rfl
  | cons a l ih => show (Ap.W4 _ ++ Ap.offs l).length = _; rw [List.length_append, ih]; simp [Ap.W4]; omega
 have hl : l.length = l'.length := by have := congrArg List.length e; simpa using this
 unfold Ap.encB
 simp only [List.length_append, ho, hn, hl]
 try simp [Ap.W4]
theorem dec_self {l : List Ent} (hl : l.length < 4294967296) (hf : l.all Ap.fits = true) : Ap.dec (Ap.encB l) = some l := by
 have := Ap.dec_encB hl hf []
 rw [List.append_nil, if_pos rfl] at this
 exact this
theorem chk_map {a : Arc} (hm : a.hm = true) (hl : (idxP a.ms a.os).length < 4294967296) (hf : (idxP a.ms a.os).all Ap.fits = true) :
  (chkP a = 0 ↔ a.map = Ap.encB (idxP a.ms a.os)) ∧ (chkP a = 0 ∨ chkP a = 8 ∨ chkP a = 16) := by
 unfold chkP decE
 rw [if_pos hm]
 cases hd : Ap.dec a.map with
 | none =>
  simp only []
  rw [if_pos (by decide)]
  refine ⟨⟨fun h => by simp at h, fun h => ?_⟩, .inr (.inl rfl)⟩
  rw [h, dec_self hl hf] at hd
  simp at hd
 | some q =>
  simp only []
  rw [if_neg (by simp)]
  obtain ⟨e1, _, _⟩ := Ap.enc_dec hd
  by_cases hq : q = idxP a.ms a.os
  ·rw [if_pos hq]
   exact ⟨⟨fun _ => by rw [← hq, e1], fun _ => rfl⟩, .inl rfl⟩
  ·rw [if_neg hq]
   refine ⟨⟨fun h => by simp at h, fun h => ?_⟩, .inr (.inr rfl)⟩
   rw [h, dec_self hl hf] at hd
   injection hd with hd
   exact absurd hd.symm hq
theorem chk_none {a : Arc} (hm : a.hm = false) : chkP a = if idxP a.ms a.os = [] then 0 else 16 := by
 unfold chkP; rw [hm]; simp
theorem chk_complete {l : List Mem} {os : List Nat} {hm : Bool} (h : hm = decide (idxP l os ≠ [])) (hl : (idxP l os).length < 4294967296) (hf : (idxP l os).all Ap.fits = true) :
  chkP ⟨hm, if hm = true then Ap.encB (idxP l os) else [], l, os⟩ = 0 := by
 cases hm with
 | true => exact (chk_map (a := ⟨true, _, l, os⟩) rfl hl hf).1.2 rfl
 | false =>
  rw [chk_none rfl]
  have : idxP l os = [] := by
   have := of_decide_eq_false h.symm
   exact Classical.not_not.1 this
  rw [if_pos this]
theorem idx_len : ∀ (l : List Mem) (os : List Nat), l.length ≤ os.length → (idxP l os).length = (l.flatMap fun m => defsOf m.data).length := fun l os h => by
 rw [← idx_names l os h, List.length_map]
theorem fit_parsed {b : Str} {s : PS} (h1 : 8 ≤ b.length) (h : runP PS0 (partsP 8 (b.drop 8)) = (s, none)) : ∀ m ∈ s.ms, fitM m := by
 intro m hm
 obtain ⟨C, _⟩ := chain_ok h1 h
 obtain ⟨i, hi⟩ := List.mem_iff_getElem?.1 hm
 have hil : i < s.ms.length := by
  rcases Nat.lt_or_ge i s.ms.length with h | h
  ·exact h
  ·rw [List.getElem?_eq_none h] at hi; simp at hi
 obtain ⟨m', o, e, c1, _, _, M⟩ := C i hil
 rw [hi] at c1; injection c1 with c1; subst c1
 refine ⟨M.v, ?_⟩
 have h2 := (dec_enc M.ok).2
 have h3 : (encR (decR (b.drop o)).1).2 = 0 := by rw [h2]
 have h4 : (decR (b.drop o)).1 = ⟨(decR (b.drop o)).1.name, m.time, m.uid, m.gid, m.mode, m.data.length⟩ := by
  have e1 := M.t; have e2 := M.u; have e3 := M.g; have e4 := M.mo; have e5 := M.sz
  rw [← e1, ← e2, ← e3, ← e4, ← e5]
 rw [h4] at h3
 exact encR_name h3 M.nn (by decide) (by decide)
theorem okL_valid : ∀ {l acc : List Ob.Sym}, Ob.okL acc l = true → ∀ s ∈ l, Ob.valid s = true
 | [], _, _, s, hs => by simp at hs
 | x :: l, acc, h, s, hs => by
  simp only [Ob.okL, Bool.and_eq_true] at h
  rcases List.mem_cons.1 hs with rfl | hs
  ·exact h.1.1
  ·exact okL_valid h.2 s hs
theorem defs_fit {b : List UInt8} : ∀ s ∈ defsOf b, s ≠ [] ∧ (0 : UInt8) ∉ s := by
 intro s hs
 unfold defsOf dec at hs
 cases hd : Ob.decO b with
 | error e => rw [hd] at hs; simp at hs
 | ok x =>
  obtain ⟨l, y⟩ := x
  rw [hd] at hs
  obtain ⟨z, hz, rfl⟩ := List.mem_map.1 hs
  have hz' := (List.mem_filter.1 hz).1
  have hv := (Ob.enc_dec hd).1
  have hvz : Ob.valid z = true := okL_valid (by unfold Ob.validO at hv; simp only [Bool.and_eq_true] at hv; exact hv.1) z hz'
  obtain ⟨v1, _, v3, _⟩ := Ob.valid_iff.1 hvz
  exact ⟨fun e => by rw [e] at v1; simp at v1, v3⟩
theorem idx_fit : ∀ (l : List Mem) (os : List Nat), (∀ o ∈ os, o ≤ 4294967295) → (idxP l os).all Ap.fits = true
 | [], os, _ => by cases os <;> rfl
 | m :: l, [], _ => rfl
 | m :: l, o :: os, h => by
  simp only [idxP, List.all_append, Bool.and_eq_true]
  refine ⟨?_, idx_fit l os fun x hx => h x (List.mem_cons_of_mem _ hx)⟩
  rw [List.all_eq_true]
  intro e he
  obtain ⟨s, hs, rfl⟩ := List.mem_map.1 he
  obtain ⟨d1, d2⟩ := defs_fit s hs
  have ho := h o List.mem_cons_self
  unfold Ap.fits
  simp only [Bool.and_eq_true, decide_eq_true_eq]
  exact ⟨d1, d2, by omega, by omega⟩
end Go.AL.Cn

namespace Go.AL.Cn
open Go Go.AL Go.AL.Hd Go.AL.Ln Go.AL.Sc Go.AL.Ar
def idx0 (l : List Mem) : List Ent := l.flatMap fun m => (defsOf m.data).map fun s => (s, 0)
abbrev hmN (l : List Mem) : Bool := decide (idx0 l ≠ [])
abbrev offsC (l : List Mem) : List Nat := offsW (hmN l) (Ap.encB (idx0 l)) l
abbrev idxC (l : List Mem) : List Ent := idxP l (offsC l)
abbrev compB (l : List Mem) : Str := wrP (hmN l) (Ap.encB (idxC l)) l
abbrev defsAll (l : List Mem) : List Str := l.flatMap fun m => defsOf m.data
theorem idx0_names : ∀ l : List Mem, (idx0 l).map (·.1) = defsAll l
 | [] => rfl
 | m :: l => by
  have := idx0_names l
  simp only [idx0, defsAll, List.flatMap_cons, List.map_append, List.map_map] at this ⊢
  rw [this]
  congr 1
  exact List.map_id _
theorem idxC_names (l : List Mem) : (idxC l).map (·.1) = (idx0 l).map (·.1) := by
 rw [idx0_names, idx_names l _ (by rw [offsW_len]; exact Nat.le_refl _)]
theorem hmN_eq (l : List Mem) : hmN l = decide (idxC l ≠ []) := by
 have h := idxC_names l
 unfold hmN
 rw [decide_eq_decide]
 constructor
 ·intro h1 h2; rw [h2] at h; simp at h; exact h1 (by first | exact h | exact h.symm)
 ·intro h1 h2; rw [h2] at h; simp at h; exact h1 h
theorem offsC_eq (l : List Mem) : offsW (hmN l) (Ap.encB (idxC l)) l = offsC l := offsW_map _ _ (encB_len _ _ (idxC_names l))
structure Small (l : List Mem) : Prop where
 f : ∀ x ∈ l, fitM x
 t : (tabM l).length < 1000000000
 m : (Ap.encB (idx0 l)).length < 1000000000
 n : (defsAll l).length < 1000000000
theorem Small.len {l : List Mem} (h : Small l) (os : List Nat) (ho : l.length ≤ os.length) : (idxP l os).length < 4294967296 := by
 rw [idx_len l os ho]; have : (l.flatMap fun m => defsOf m.data).length < 1000000000 := h.n; omega
theorem open_comp {l : List Mem} (h : Small l) (ho : ∀ o ∈ offsC l, o ≤ 4294967295) : openP (compB l) = (viewP l, 0, 0) := by
 have hm : (Ap.encB (idxC l)).length < 1000000000 := by rw [encB_len _ _ (idxC_names l)]; exact h.m
 have e := parse_write (hm := hmN l) (m := Ap.encB (idxC l)) h.f h.t hm
 rw [offsC_eq] at e
 rw [openP_ok e, if_neg]
 have := chk_complete (l := l) (os := offsC l) (hm := hmN l) (hmN_eq l) (h.len _ (by rw [offsW_len]; exact Nat.le_refl _)) (idx_fit _ _ ho)
 intro h2; exact h2 this
theorem open_other {l : List Mem} {m : Str} (h : Small l) (hm : m.length < 1000000000) (ho : ∀ o ∈ offsW true m l, o ≤ 4294967295) :
  ((openP (wrP true m l)).2.2 = 0 ↔ m = Ap.encB (idxP l (offsW true m l))) ∧ ((openP (wrP true m l)).2.2 = 0 ∨ (openP (wrP true m l)).2.2 = 8 ∨ (openP (wrP true m l)).2.2 = 16) := by
 have e := parse_write (hm := true) (m := m) h.f h.t hm
 rw [if_pos rfl] at e
 obtain ⟨c1, c2⟩ := chk_map (a := ⟨true, m, l, offsW true m l⟩) rfl (h.len _ (by rw [offsW_len]; exact Nat.le_refl _)) (idx_fit _ _ ho)
 rw [openP_ok e]
 by_cases hc : chkP ⟨true, m, l, offsW true m l⟩ = 0
 ·rw [if_neg (fun h => h hc)]
  exact ⟨⟨fun _ => c1.1 hc, fun _ => rfl⟩, .inl rfl⟩
 ·rw [if_pos hc]
  exact ⟨c1, c2⟩
theorem open_bare {l : List Mem} (h : Small l) (hn : idx0 l ≠ []) : openP (wrP false [] l) = (View0, 8, 16) := by
 have e := parse_write (hm := false) (m := []) h.f h.t (by simp)
 rw [if_neg (by simp)] at e
 rw [openP_ok e, chk_none rfl]
 have : idxP l (offsW false [] l) ≠ [] := by
  intro h2
  have h3 := idx_names l (offsW false [] l) (by rw [offsW_len]; exact Nat.le_refl _)
  rw [h2] at h3
  have h4 := idx0_names l
  rw [show defsAll l = [] from h3.symm] at h4
  simp at h4
  exact hn h4
 rw [if_neg this, if_pos (by decide)]
theorem open_ok {b : Str} (h : (openP b).2.2 = 0) : ∃ s, 8 ≤ b.length ∧ runP PS0 (partsP 8 (b.drop 8)) = (s, none) ∧ openP b = (viewP s.ms, 0, 0) ∧ ∀ m ∈ s.ms, fitM m := by
 unfold openP at h
 split at h
 ·rename_i h1; exact absurd h h1
 ·rename_i h1
  split at h
  ·rename_i h2; exact absurd h h2
  ·rename_i h2
   obtain ⟨a1, a2, s, a3, a4⟩ := arc_ok (Classical.not_not.1 h1)
   refine ⟨s, a1, a3, ?_, fit_parsed a1 a3⟩
   unfold openP
   rw [if_neg h1, if_neg h2, a4]
end Go.AL.Cn

namespace Go.AL.Cn
open Go Go.AL Go.AL.Hd Go.AL.Ln Go.AL.Sc Go.AL.Ar
structure FewM (l : List Mem) : Prop where
 n : l.length ≤ 20
 d : ∀ m ∈ l, m.name.length ≤ 300 ∧ m.data.length ≤ 1000
theorem syms_len : ∀ l : List Ob.Sym, ((l.filter isDef).map (·.name)).length ≤ (Ob.encL l).length ∧ (((l.filter isDef).map (·.name)).flatMap fun s => s ++ [0]).length ≤ (Ob.encL l).length
 | [] => ⟨Nat.zero_le _, Nat.zero_le _⟩
 | s :: l => by
  obtain ⟨h1, h2⟩ := syms_len l
  have e : (Ob.encL (s :: l)).length = 10 + s.name.length + (Ob.encL l).length := by
   show (Ob.encS s ++ Ob.encL l).length = _
   rw [List.length_append]
   simp [Ob.encS, Ap.W4]
   omega
  rw [e]
  cases hd : isDef s with
  | true =>
   rw [List.filter_cons_of_pos hd]
   simp only [List.map_cons, List.length_cons, List.flatMap_cons, List.length_append, List.length_nil]
   omega
  | false =>
   rw [List.filter_cons_of_neg (by rw [hd]; simp)]
   omega
theorem defs_len (b : List UInt8) : (defsOf b).length ≤ b.length ∧ ((defsOf b).flatMap fun s => s ++ [0]).length ≤ b.length := by
 unfold defsOf dec
 cases hd : Ob.decO b with
 | error e => simp
 | ok x =>
  obtain ⟨l, y⟩ := x
  have he := congrArg List.length (Ob.enc_dec hd).2
  unfold Ob.encO at he
  simp only [List.length_append] at he
  obtain ⟨h1, h2⟩ := syms_len l
  simp only []
  omega
theorem few_defs : ∀ l : List Mem, (∀ m ∈ l, m.data.length ≤ 1000) → (defsAll l).length ≤ l.length * 1000 ∧ ((defsAll l).flatMap fun s => s ++ [0]).length ≤ l.length * 1000
 | [], _ => ⟨Nat.zero_le _, Nat.zero_le _⟩
 | m :: l, h => by
  obtain ⟨h1, h2⟩ := few_defs l fun x hx => h x (List.mem_cons_of_mem _ hx)
  obtain ⟨h3, h4⟩ := defs_len m.data
  have h5 := h m List.mem_cons_self
  simp only [defsAll, List.flatMap_cons, List.flatMap_append, List.length_append, List.length_cons] at h1 h2 ⊢
  omega
theorem encB_size (l : List Ent) : (Ap.encB l).length = 4 + 4 * l.length + ((l.map (·.1)).flatMap fun s => s ++ [0]).length := by
 have hn : Ap.nams l = (l.map (·.1)).flatMap fun s => s ++ [0] := by unfold Ap.nams; rw [List.flatMap_map]
 have ho : ∀ l : List Ent, (Ap.offs l).length = 4 * l.length := fun l => by
  induction l with
  | nil => rfl
  | cons a l ih => show (Ap.W4 _ ++ Ap.offs l).length = _; rw [List.length_append, ih]; simp [Ap.W4]; omega
 unfold Ap.encB
 rw [List.length_append, List.length_append, ho, hn]
 simp [Ap.W4]
theorem tab_few {l : List Mem} (h : FewM l) : (tabM l).length ≤ 20 * 302 := by
 have h1 := tabP_len (l := longs (namesM l)) (c := 300) fun n hn => by
  obtain ⟨m, hm, rfl⟩ := List.mem_map.1 (longs_mem hn)
  exact (h.d m hm).1
 have h2 := longs_len (namesM l)
 have h3 : (namesM l).length = l.length := by simp
 have h4 := h.n
 have h5 : (longs (namesM l)).length ≤ 20 := by omega
 exact Nat.le_trans h1 (Nat.mul_le_mul_right (300 + 2) h5)
theorem idx0_size {l : List Mem} (h : FewM l) : (Ap.encB (idx0 l)).length ≤ 100004 := by
 have h1 := few_defs l fun m hm => (h.d m hm).2
 have h2 := idx0_names l
 have h3 : (idx0 l).length = (defsAll l).length := by rw [← h2, List.length_map]
 have h4 := h.n
 rw [encB_size, h2, h3]
 omega
theorem Small.of {l : List Mem} (h : FewM l) (hf : ∀ x ∈ l, fitM x) : Small l := by
 have h1 := tab_few h
 have h2 := idx0_size h
 have h3 := (few_defs l fun m hm => (h.d m hm).2).1
 have h4 := h.n
 exact ⟨hf, by omega, by omega, by omega⟩
theorem offP_le : ∀ (fm : List (Str × Mem)) (k : Nat), (∀ x ∈ fm, x.2.data.length ≤ 1000) → ∀ o ∈ offP k fm, o ≤ k + fm.length * 1061
 | [], k, _, o, ho => by simp [offP] at ho
 | x :: r, k, h, o, ho => by
  have hx := h x List.mem_cons_self
  simp only [List.length_cons]
  rcases List.mem_cons.1 ho with rfl | ho
  ·omega
  ·have := offP_le r _ (fun y hy => h y (List.mem_cons_of_mem _ hy)) o ho
   omega
theorem encR_le (h : Hdr) : (encR h).1.length ≤ 60 := by
 by_cases he : (encR h).2 = 0
 ·exact Nat.le_of_eq (enc_dec h [] he).1
 ·rw [(encR_err h he).1]; simp
theorem partB_le (h : Hdr) (d : Str) : (partB h d).length ≤ 61 + d.length := by
 have h1 := encR_le ⟨h.name, h.date, h.uid, h.gid, h.mode, d.length⟩
 have h2 := padP_len d
 unfold partB
 rw [List.length_append, List.length_append, h2]
 omega
theorem base_le {l : List Mem} (h : FewM l) (hm : Bool) (m : Str) : baseP hm m l ≤ 10000 + m.length := by
 have h1 := tab_few h
 have h2 := partB_le ⟨[47], 0, 0, 0, 0, 0⟩ m
 have h3 := partB_le ⟨[47, 47], 0, 0, 0, 0, 0⟩ (tabM l)
 have h4 : (mapB hm m).length ≤ 61 + m.length := by
  unfold mapB; split
  ·exact h2
  ·simp
 have h5 : (tabB l).length ≤ 61 + (tabM l).length := by
  unfold tabB; split
  ·simp
  ·exact h3
 unfold baseP
 rw [List.length_append, List.length_append]
 have : magic.length = 8 := rfl
 omega
theorem offsW_le {l : List Mem} (h : FewM l) (hm : Bool) {m : Str} (hl : m.length ≤ 1000000) : ∀ o ∈ offsW hm m l, o ≤ 4294967295 := by
 intro o ho
 have h1 := offP_le (fmM l) (baseP hm m l) (fun x hx => by
  have : x.2 ∈ (fmM l).map (·.2) := List.mem_map_of_mem hx
  rw [fm_snd] at this
  exact (h.d x.2 this).2) o ho
 have h2 := base_le h hm m
 have h3 : (fmM l).length = l.length := by rw [← List.length_map (f := (·.2)), fm_snd]
 have h4 := h.n
 omega
theorem offsC_le {l : List Mem} (h : FewM l) : ∀ o ∈ offsC l, o ≤ 4294967295 := offsW_le h _ (by have := idx0_size h; omega)
end Go.AL.Cn



namespace Go.AL
open Go
theorem Wk.listE {α : Type} {f g : α → List D} (t : Tg) (l : List α) (hl : ∀ a, (g a).length = (f a).length) (hw : ∀ a i (h1 : i < (f a).length) (h2 : i < (g a).length), Wk (f a)[i] (g a)[i]) (hf : ∀ a, ∀ d ∈ g a, d.idf = true) :
  Wk (.list t (l.map f)) (.list .any (l.map g)) := by
 refine ⟨fun E h σ x hx => ?_⟩
 cases hx with
 | list _ _ A c s u hc hb hs hn ha hv hf' ht =>
  have e : (l.map f).length = (l.map g).length := by simp
  rw [e] at hc hb ⊢
  refine .list .any (l.map g) A c s u hc hb (fun i hi => ?_) (fun h => ?_) (fun a ha' => ⟨fun hne => (ha a ha').1 ?_, fun i j hi hj => ⟨?_, ((ha a ha').2 i j (by rw [e]; exact hi) hj).2⟩⟩) (fun i j hi hj => ?_) (fun i j hi hj => ?_) (fun k e => by simp at e)
  ·have := hs i (by rw [e]; exact hi)
   simp only [List.getElem_map] at this ⊢
   rw [hl]; exact this
  ·have := hn h
   exact ⟨by simpa using this.1, this.2⟩
  ·intro e2; apply hne; simpa using e2
  ·exact Tg.ow_any ((ha a ha').2 i j (by rw [e]; exact hi) hj).1
  ·have hi' : i < l.length := by simpa using hi
   have := hv i j (by simpa using hi') (by simp only [List.getElem_map] at hj ⊢; rw [← hl]; exact hj)
   simp only [List.getElem_map] at this ⊢
   exact (hw _ j _ _).sem _ _ _ _ this
  ·have h1 : (l.map g)[i][j] ∈ (l.map g)[i] := List.getElem_mem hj
   obtain ⟨y, _, hy⟩ := List.mem_map.1 (List.getElem_mem hi : (l.map g)[i] ∈ l.map g)
   have h2 : ∀ c : List D, c = g y → ∀ d ∈ c, d.idf = true := fun c e d hd => hf y d (e ▸ hd)
   exact h2 _ hy.symm _ h1
theorem Wk.listE1 {α : Type} {f g : α → D} (t : Tg) (l : List α) (hw : ∀ a, Wk (f a) (g a)) (hf : ∀ a, (g a).idf = true) : Wk (.list t (l.map fun a => [f a])) (.list .any (l.map fun a => [g a])) :=
 Wk.listE t l (fun _ => rfl) (fun a i h1 h2 => by
  have : i = 0 := by simp at h1; exact h1
  subst this; exact hw a) (fun a d hd => by simp at hd; subst hd; exact hf a)
end Go.AL
namespace Go.AL.Sc
open Go Go.AL Go.AL.Bd Go.AL.Tb
structure OkM (m : Mem) : Prop where
 n : m.name.length ≤ 140737488351232
 d : m.data.length ≤ 140737488351232
 t : m.time ≤ 9223372036854775807
 u : m.uid ≤ 9223372036854775807
 g : m.gid ≤ 9223372036854775807
 o : m.mode ≤ 9223372036854775807
def fitM (m : Mem) : Int := if Hd.validN m.name = true then (if (Hd.encR ⟨[97], m.time, m.uid, m.gid, m.mode, m.data.length⟩).2 = 0 then 0 else 9) else 6
def fitsR : List Mem → Nat → Int × Int
 | [], _ => (-1, 0)
 | m :: r, k => if fitM m = 0 then fitsR r (k + 1) else ((k : Int), fitM m)
end Go.AL.Sc

namespace Go.AL.Cn
open Go Go.AL Go.AL.Hd Go.AL.Ln Go.AL.Ar
theorem fit_iff (m : Sc.Mem) : Sc.fitM m = 0 ↔ fitM m := by
 unfold Sc.fitM
 by_cases h1 : validN m.name = true
 ·rw [if_pos h1]
  by_cases h2 : (encR ⟨[97], m.time, m.uid, m.gid, m.mode, m.data.length⟩).2 = 0
  ·rw [if_pos h2]; exact ⟨fun _ => ⟨h1, h2⟩, fun _ => rfl⟩
  ·rw [if_neg h2]; exact ⟨fun h => by simp at h, fun h => absurd h.2 h2⟩
 ·rw [if_neg h1]; exact ⟨fun h => by simp at h, fun h => absurd h.1 h1⟩
theorem fits_iff : ∀ (l : List Sc.Mem) (k : Nat), (Sc.fitsR l k).2 = 0 ↔ ∀ x ∈ l, fitM x
 | [], k => by simp [Sc.fitsR]
 | m :: l, k => by
  simp only [Sc.fitsR]
  by_cases h : Sc.fitM m = 0
  ·rw [if_pos h, fits_iff l (k + 1)]
   constructor
   ·intro h1 x hx
    rcases List.mem_cons.1 hx with rfl | hx
    ·exact (fit_iff _).1 h
    ·exact h1 x hx
   ·intro h1 x hx; exact h1 x (List.mem_cons_of_mem _ hx)
  ·rw [if_neg h]
   constructor
   ·intro h1; exact absurd h1 h
   ·intro h1; exact absurd ((fit_iff m).2 (h1 m List.mem_cons_self)) h
def compR (l : List Sc.Mem) : Str × List Ent × List Nat × Int :=
 if (Sc.fitsR l 0).2 ≠ 0 then ([], [], [], (Sc.fitsR l 0).2) else (compB l, idxC l, offsC l, 0)
theorem comp_ok {l : List Sc.Mem} (h : (compR l).2.2.2 = 0) : (∀ x ∈ l, fitM x) ∧ compR l = (compB l, idxC l, offsC l, 0) := by
 unfold compR at h ⊢
 split at h
 ·rename_i h1; exact absurd h h1
 ·rename_i h1
  exact ⟨(fits_iff l 0).1 (Classical.not_not.1 h1), by rw [if_neg h1]⟩
theorem comp_fit {l : List Sc.Mem} (h : ∀ x ∈ l, fitM x) : compR l = (compB l, idxC l, offsC l, 0) := by
 unfold compR; rw [if_neg (fun h2 => h2 ((fits_iff l 0).2 h))]
end Go.AL.Cn

namespace Go.AL.Cn
open Go Go.AL Go.AL.Hd Go.AL.Ln Go.AL.Sc Go.AL.Ar
abbrev atO (o : Nat) (s : Str) : Ent := (s, (o : Int))
theorem idx_snoc : ∀ (l : List Mem) (os : List Nat) (k : Nat) {m : Mem} {o : Nat}, l[k]? = some m → os[k]? = some o → idxP (l.take (k + 1)) os = idxP (l.take k) os ++ (defsOf m.data).map (atO o)
 | [], os, k, m, o, h, _ => by simp at h
 | m' :: l, [], k, m, o, _, h => by simp at h
 | m' :: l, o' :: os, 0, m, o, h, h2 => by
  simp at h h2; subst h h2
  cases l <;> cases os <;> simp [idxP]
 | m' :: l, o' :: os, k + 1, m, o, h, h2 => by
  simp only [List.take_succ_cons, idxP]
  rw [idx_snoc l os k (by simpa using h) (by simpa using h2), List.append_assoc]
theorem idx_take_le (l : List Mem) (os : List Nat) (k : Nat) : (idxP (l.take k) os).length ≤ (idxP l os).length := by
 induction l generalizing os k with
 | nil => simp
 | cons m l ih =>
  cases k with
  | zero => cases os <;> simp [idxP]
  | succ k =>
   cases os with
   | nil => simp [idxP]
   | cons o os =>
    simp only [List.take_succ_cons, idxP, List.length_append]
    have := ih os k
    omega
theorem idx_le : ∀ (l : List Mem) (os : List Nat) {c : Nat}, (∀ m ∈ l, m.data.length ≤ c) → (idxP l os).length ≤ l.length * c
 | [], os, c, _ => by cases os <;> simp [idxP]
 | m :: l, [], c, _ => by simp [idxP]
 | m :: l, o :: os, c, h => by
  have h1 := idx_le l os fun x hx => h x (List.mem_cons_of_mem _ hx)
  have h2 := (defs_len m.data).1
  have h3 := h m List.mem_cons_self
  simp only [idxP, List.length_append, List.length_map, List.length_cons, Nat.add_mul, Nat.one_mul]
  omega
end Go.AL.Cn

namespace Go.AL.Cn
open Go Go.AL Go.AL.Hd Go.AL.Ln Go.AL.Ar
open Go.AL.Sc (Mem)
theorem fm_ok {l : List Mem} (hf : ∀ x ∈ l, fitM x) (ht : (tabM l).length < 1000000000) : ∀ x ∈ fmM l, (encR (mHdr x.1 x.2)).2 = 0 := by
 intro x hx
 obtain ⟨i, hi⟩ := List.mem_iff_getElem?.1 hx
 rw [List.getElem?_zip_eq_some] at hi
 obtain ⟨h1, h2⟩ := hi
 have h3 : (namesM l)[i]? = some x.2.name := by rw [List.getElem?_map, h2]; rfl
 have hs : (tabP (longs ((namesM l).take i))).length < 1000000000000000 := by
  have : (tabP (longs ((namesM l).take i))).length ≤ (tabM l).length := by
   have e : longs (namesM l) = longs ((namesM l).take i) ++ longs ((namesM l).drop i) := by
    unfold longs; rw [← List.filter_append, List.take_append_drop]
   show _ ≤ (tabP (longs (namesM l))).length
   rw [e, tabP_app]; simp
  omega
 obtain ⟨g1, g2, g3⟩ := fld_fit h3 h1 hs
 obtain ⟨f1, f2⟩ := hf x.2 (List.mem_of_getElem? h2)
 exact encR_name f2 (by decide) g3 g1
theorem memB_snoc (fm : List (Str × Mem)) (k : Nat) {x : Str × Mem} (h : fm[k]? = some x) : memB (fm.take (k + 1)) = memB (fm.take k) ++ partB (mHdr x.1 x.2) x.2.data := by
 unfold memB
 rw [List.take_add_one, h]
 simp
theorem offP_snoc : ∀ (fm : List (Str × Mem)) (b k : Nat) {x : Str × Mem}, (∀ y ∈ fm, (encR (mHdr y.1 y.2)).2 = 0) → fm[k]? = some x → offP b (fm.take (k + 1)) = offP b (fm.take k) ++ [b + (memB (fm.take k)).length]
 | [], b, k, x, _, h => by simp at h
 | y :: fm, b, 0, x, _, _ => by simp [offP, memB]
 | y :: fm, b, k + 1, x, hf, h => by
  have hl := partB_len (h := mHdr y.1 y.2) (hf y List.mem_cons_self)
  have := offP_snoc fm (b + (60 + y.2.data.length + y.2.data.length % 2)) k (fun z hz => hf z (List.mem_cons_of_mem _ hz)) (by simpa using h)
  rw [List.take_succ_cons, List.take_succ_cons]
  simp only [offP]
  rw [this]
  have e : memB (y :: fm.take k) = partB (mHdr y.1 y.2) y.2.data ++ memB (fm.take k) := by simp [memB]
  rw [e, List.length_append, hl, Nat.add_assoc b]
  rfl
def wrR (hm : Bool) (m : Str) (l : List Mem) : Str × List Nat × Int :=
 if (Sc.fitsR l 0).2 ≠ 0 then ([], [], (Sc.fitsR l 0).2) else (wrP hm m l, offsW hm m l, 0)
theorem wrR_fit {hm : Bool} {m : Str} {l : List Mem} (h : ∀ x ∈ l, fitM x) : wrR hm m l = (wrP hm m l, offsW hm m l, 0) := by
 unfold wrR; rw [if_neg (fun h2 => h2 ((fits_iff l 0).2 h))]
abbrev fewE (m : Mem) : Bool := decide (m.name.length ≤ 300) && decide (m.data.length ≤ 1000)
def sumD (l : List Mem) : Nat := (l.map fun m => m.data.length).sum
def fewL4 (l : List Mem) : Bool := decide (l.length ≤ 20) && (l.all fewE && decide (sumD l ≤ 5000))
theorem fewL4_of {l : List Mem} (h : fewL4 l = true) : FewM l ∧ sumD l ≤ 5000 := by
 unfold fewL4 at h
 simp only [Bool.and_eq_true, decide_eq_true_eq, List.all_eq_true] at h
 exact ⟨⟨h.1, fun m hm => h.2.1 m hm⟩, h.2.2⟩
theorem sumD_snoc {l : List Mem} {k : Nat} {m : Mem} (h : l[k]? = some m) : sumD (l.take (k + 1)) = sumD (l.take k) + m.data.length := by
 unfold sumD; rw [List.take_add_one, h]; simp
theorem sumD_le : ∀ {l : List Mem}, l.all fewE = true → sumD l ≤ l.length * 1000
 | [], _ => by simp [sumD]
 | m :: l, h => by
  simp only [List.all_cons, Bool.and_eq_true, decide_eq_true_eq] at h
  have := sumD_le (l := l) (by simpa using h.2)
  simp only [sumD, List.map_cons, List.sum_cons, List.length_cons] at this ⊢
  omega
theorem fewL4_false {l : List Mem} {k : Nat} {m : Mem} (h : l[k]? = some m) (hm : fewE m = false) : fewL4 l = false := by
 have : l.all fewE = false := by
  cases ha : l.all fewE with
  | false => rfl
  | true => rw [List.all_eq_true] at ha; rw [ha m (List.mem_of_getElem? h)] at hm; simp at hm
 unfold fewL4; rw [this]; simp
theorem fewL4_snoc {l : List Mem} {k : Nat} {m : Mem} (h : l[k]? = some m) (hm : fewE m = true) (hk : (l.take k).all fewE = true) : (l.take (k + 1)).all fewE = true := by
 rw [List.take_add_one, h]; simp only [Option.toList, List.all_append, hk, List.all_cons, hm]; rfl
theorem wrP_le2 {l : List Mem} (h : FewM l) (hm : Bool) (m : Str) : (wrP hm m l).length ≤ 40000 + m.length := by
 have h2 := base_le h hm m
 have h4 := h.n
 have h5 : ∀ fm : List (Str × Mem), (∀ x ∈ fm, x.2.data.length ≤ 1000) → (memB fm).length ≤ fm.length * 1061 := by
  intro fm
  induction fm with
  | nil => intro _; exact Nat.zero_le _
  | cons x r ih =>
   intro hx
   have h6 := ih fun y hy => hx y (List.mem_cons_of_mem _ hy)
   have h7 := partB_le (mHdr x.1 x.2) x.2.data
   have h8 := hx x List.mem_cons_self
   show (partB (mHdr x.1 x.2) x.2.data ++ memB r).length ≤ _
   rw [List.length_append, List.length_cons]
   omega
 have h6 := h5 (fmM l) (fun x hx => by
  have : x.2 ∈ (fmM l).map (·.2) := List.mem_map_of_mem hx
  rw [fm_snd] at this
  exact (h.d x.2 this).2)
 have h3 : (fmM l).length = l.length := by rw [← List.length_map (f := (·.2)), fm_snd]
 unfold wrP
 rw [List.length_append]
 have h7 : (magic ++ mapB hm m ++ tabB l).length = baseP hm m l := rfl
 omega
theorem memB_le {l : List Mem} (h : FewM l) (k : Nat) : (memB ((fmM l).take k)).length ≤ 21220 := by
 have h5 : ∀ fm : List (Str × Mem), (∀ x ∈ fm, x.2.data.length ≤ 1000) → (memB fm).length ≤ fm.length * 1061 := by
  intro fm
  induction fm with
  | nil => intro _; exact Nat.zero_le _
  | cons x r ih =>
   intro hx
   have h6 := ih fun y hy => hx y (List.mem_cons_of_mem _ hy)
   have h7 := partB_le (mHdr x.1 x.2) x.2.data
   have h8 := hx x List.mem_cons_self
   show (partB (mHdr x.1 x.2) x.2.data ++ memB r).length ≤ _
   rw [List.length_append, List.length_cons]
   omega
 have h6 := h5 ((fmM l).take k) (fun x hx => by
  have : x.2 ∈ (fmM l).map (·.2) := List.mem_map_of_mem (List.mem_of_mem_take hx)
  rw [fm_snd] at this
  exact (h.d x.2 this).2)
 have h3 : (fmM l).length = l.length := by rw [← List.length_map (f := (·.2)), fm_snd]
 have h8 : ((fmM l).take k).length ≤ 20 := by have := h.n; rw [List.length_take]; omega
 omega
end Go.AL.Cn

namespace Go.AL.Cn
open Go Go.AL Go.AL.Hd Go.AL.Ln Go.AL.Ar
open Go.AL.Sc (Mem defsOf)
def ofK (l : List Mem) : Nat → List Nat
 | 0 => []
 | k + 1 => ofK l k ++ (match l[k]? with | some m => (defsOf m.data).map fun _ => k | none => [])
abbrev at0 (s : Str) : Ent := (s, 0)
theorem ofK_snoc {l : List Mem} {k : Nat} {m : Mem} (h : l[k]? = some m) : ofK l (k + 1) = ofK l k ++ (defsOf m.data).map fun _ => k := by
 simp only [ofK, h]
theorem idx0_snoc {l : List Mem} {k : Nat} {m : Mem} (h : l[k]? = some m) : idx0 (l.take (k + 1)) = idx0 (l.take k) ++ (defsOf m.data).map at0 := by
 unfold idx0
 rw [List.take_add_one, h]
 simp
theorem ofK_len (l : List Mem) : ∀ k, k ≤ l.length → (ofK l k).length = (idx0 (l.take k)).length
 | 0, _ => rfl
 | k + 1, h => by
  obtain ⟨m, hm⟩ := exI (l := l) (k := k) (by omega)
  rw [ofK_snoc hm, idx0_snoc hm]
  simp [ofK_len l k (by omega)]
theorem ofK_off (l : List Mem) (os : List Nat) (ho : l.length ≤ os.length) : ∀ k, k ≤ l.length → (ofK l k).map (fun i => ((os.getD i 0 : Nat) : Int)) = (idxP (l.take k) os).map (·.2) ∧ ∀ i ∈ ofK l k, i < k
 | 0, _ => by
  constructor
  ·cases os <;> rfl
  ·intro i hi; simp [ofK] at hi
 | k + 1, h => by
  obtain ⟨m, hm⟩ := exI (l := l) (k := k) (by omega)
  obtain ⟨o, hk⟩ := exI (l := os) (k := k) (by omega)
  obtain ⟨h1, h2⟩ := ofK_off l os ho k (by omega)
  rw [ofK_snoc hm, idx_snoc l os k hm hk]
  constructor
  ·rw [List.map_append, List.map_append, h1]
   congr 1
   simp [List.getD, hk]
  ·intro i hi
   rcases List.mem_append.1 hi with hi | hi
   ·have := h2 i hi; omega
   ·obtain ⟨_, _, rfl⟩ := List.mem_map.1 hi; omega
theorem idx_at {l : List Mem} {os : List Nat} (ho : l.length ≤ os.length) {j : Nat} (hj : j < (idx0 l).length) : ∃ (s : Str) (i o : Nat), (idx0 l)[j]? = some (s, 0) ∧ (ofK l l.length)[j]? = some i ∧ os[i]? = some o ∧ (idxP l os)[j]? = some (s, (o : Int)) := by
 have hn : (idxP l os).map (·.1) = (idx0 l).map (·.1) := by rw [idx0_names, idx_names l os ho]
 have hlen : (idxP l os).length = (idx0 l).length := by have := congrArg List.length hn; simpa using this
 have hofl := ofK_len l l.length (Nat.le_refl _)
 rw [List.take_length] at hofl
 obtain ⟨h1, h2⟩ := ofK_off l os ho l.length (Nat.le_refl _)
 rw [List.take_length] at h1
 obtain ⟨e, he⟩ := exI (l := idx0 l) hj
 obtain ⟨p, hp⟩ := exI (l := idxP l os) (k := j) (by omega)
 obtain ⟨i, hi⟩ := exI (l := ofK l l.length) (k := j) (by omega)
 have hil := h2 i (List.mem_of_getElem? hi)
 obtain ⟨o, hk⟩ := exI (l := os) (k := i) (by omega)
 have e0 : e.2 = 0 := by
  have := List.mem_of_getElem? he
  unfold idx0 at this
  obtain ⟨m, _, hm⟩ := List.mem_flatMap.1 this
  obtain ⟨s, _, rfl⟩ := List.mem_map.1 hm
  rfl
 have e1 : p.1 = e.1 := by
  have := congrArg (fun q => q[j]?) hn
  simp only [List.getElem?_map, hp, he, Option.map_some] at this
  injection this
 have e2 : p.2 = (o : Int) := by
  have := congrArg (fun q => q[j]?) h1
  simp only [List.getElem?_map, hp, hi, Option.map_some, List.getD, hk, Option.getD_some] at this
  injection this with this
  exact this.symm
 obtain ⟨s, z⟩ := e
 obtain ⟨ps, pz⟩ := p
 simp only at e0 e1 e2
 subst e0 e1 e2
 exact ⟨ps, i, o, he, hi, hk, hp⟩
abbrev mixE (A B : List Ent) (k : Nat) : List Ent := A.take k ++ B.drop k
theorem mix_get {A B : List Ent} {k : Nat} {e : Ent} (hl : A.length = B.length) (h : B[k]? = some e) : (mixE A B k)[k]? = some e := by
 have hk : k < B.length := (List.getElem?_eq_some_iff.1 h).1
 unfold mixE
 rw [List.getElem?_append_right (by rw [List.length_take]; omega), List.length_take, List.getElem?_drop]
 rw [show k + (k - min k A.length) = k by omega]; exact h
theorem mix_set {A B : List Ent} {k : Nat} {e : Ent} (hl : A.length = B.length) (h : A[k]? = some e) : (mixE A B k).set k e = mixE A B (k + 1) := by
 have hk : k < A.length := (List.getElem?_eq_some_iff.1 h).1
 unfold mixE
 rw [List.set_append_right _ _ (by rw [List.length_take]; omega), List.length_take, show k - min k A.length = 0 by omega, List.take_add_one, h]
 have e2 : (B.drop k).set 0 e = e :: B.drop (k + 1) := by
  rw [List.drop_eq_getElem_cons (show k < B.length by omega)]; rfl
 rw [e2]
 simp
theorem mix_len {A B : List Ent} (hl : A.length = B.length) (k : Nat) : (mixE A B k).length = B.length := by
 unfold mixE; rw [List.length_append, List.length_take, List.length_drop]; omega
theorem gt0 {l : List Mem} {n : Nat} (h : n = (idx0 l).length) : decide ((0 : Int) < (n : Int)) = hmN l := by
 unfold hmN
 rw [decide_eq_decide, h]
 constructor
 ·intro h1 h2; rw [h2] at h1; simp at h1
 ·intro h1; have := List.length_pos_iff.2 h1; omega
theorem idx0_fit (l : List Mem) : (idx0 l).all Ap.fits = true := by
 rw [List.all_eq_true]
 intro e he
 unfold idx0 at he
 obtain ⟨m, _, hm⟩ := List.mem_flatMap.1 he
 obtain ⟨s, hs, rfl⟩ := List.mem_map.1 hm
 obtain ⟨d1, d2⟩ := defs_fit s hs
 unfold Ap.fits
 simp only [Bool.and_eq_true, decide_eq_true_eq]
 exact ⟨d1, d2, by omega, by omega⟩
theorem idx0_take_le (l : List Mem) (k : Nat) : (idx0 (l.take k)).length ≤ (idx0 l).length := by
 conv => rhs; rw [← List.take_append_drop k l]
 simp only [idx0, List.flatMap_append, List.length_append]
 omega
end Go.AL.Cn
