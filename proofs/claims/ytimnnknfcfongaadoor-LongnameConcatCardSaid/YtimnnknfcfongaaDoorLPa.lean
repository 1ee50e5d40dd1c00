/- Numbers in fields, in plain Lean. No condition. -/
import Derived.Test.YtimnnknfcfongaaDoorLAc
import Derived.Lib.Bytealg
import Derived.Lib.IndexAny
import Derived.Lib.IndexMore
set_option linter.unusedVariables false
set_option linter.unusedSimpArgs false
namespace Go.AL.Hd
open Go Go.AL
def dgt (d : Nat) : UInt8 := UInt8.ofNat (48 + d)
theorem dgt_nat {d : Nat} (h : d < 10) : (dgt d).toNat = 48 + d := by
 simp only [dgt, UInt8.toNat_ofNat']; omega
def dig (b n : Nat) : List UInt8 :=
 if h : b < 2 ∨ n < b then [dgt n] else dig b (n / b) ++ [dgt (n % b)]
termination_by n
decreasing_by exact Nat.div_lt_self (by omega) (by omega)
theorem dig_lt {b n : Nat} (h : n < b) : dig b n = [dgt n] := by rw [dig, dif_pos (.inr h)]
theorem dig_ge {b n : Nat} (hb : 2 ≤ b) (h : b ≤ n) : dig b n = dig b (n / b) ++ [dgt (n % b)] := by rw [dig, dif_neg (by omega)]
theorem dig_ne (b n : Nat) : dig b n ≠ [] := by
 rw [dig]; split <;> simp
theorem dig_pos (b n : Nat) : 0 < (dig b n).length := List.length_pos_iff.2 (dig_ne b n)
theorem dig_len {b : Nat} (hb : 2 ≤ b) : ∀ (k n : Nat), (dig b n).length ≤ k + 1 ↔ n < b ^ (k + 1)
 | 0, n => by
  simp only [Nat.zero_add, Nat.pow_one]
  by_cases h : n < b
  ·simp [dig_lt h, h]
  ·rw [dig_ge hb (by omega)]
   have := dig_pos b (n / b)
   simp only [List.length_append, List.length_singleton]; omega
 | k + 1, n => by
  by_cases h : n < b
  ·rw [dig_lt h]
   have : b ^ 1 ≤ b ^ (k + 1 + 1) := Nat.pow_le_pow_right (by omega) (by omega)
   rw [Nat.pow_one] at this
   simp only [List.length_singleton]; omega
  ·rw [dig_ge hb (by omega), List.length_append, List.length_singleton, Nat.add_le_add_iff_right, dig_len hb k, Nat.div_lt_iff_lt_mul (by omega), ← Nat.pow_succ]
def isd (b : Nat) (c : UInt8) : Bool := decide (48 ≤ c.toNat) && decide (c.toNat - 48 < b)
theorem isd_iff {b : Nat} {c : UInt8} : isd b c = true ↔ 48 ≤ c.toNat ∧ c.toNat - 48 < b := by simp [isd]
def val (b : Nat) (l : List UInt8) : Nat := l.foldl (fun n c => n * b + (c.toNat - 48)) 0
theorem val_snoc (b : Nat) (l : List UInt8) (c : UInt8) : val b (l ++ [c]) = val b l * b + (c.toNat - 48) := by simp [val]
theorem dig_isd {b : Nat} (hb : 2 ≤ b) (hb2 : b ≤ 10) (n : Nat) : ∀ c ∈ dig b n, isd b c = true := by
 induction n using Nat.strongRecOn with
 | ind n ih =>
  intro c hc
  by_cases h : n < b
  ·rw [dig_lt h] at hc
   simp at hc; subst hc
   rw [isd_iff, dgt_nat (by omega)]; omega
  ·rw [dig_ge hb (by omega), List.mem_append] at hc
   rcases hc with hc | hc
   ·exact ih _ (Nat.div_lt_self (by omega) (by omega)) c hc
   ·simp at hc; subst hc
    have := Nat.mod_lt n (show 0 < b by omega)
    rw [isd_iff, dgt_nat (by omega)]; omega
theorem val_dig {b : Nat} (hb : 2 ≤ b) (hb2 : b ≤ 10) (n : Nat) : val b (dig b n) = n := by
 induction n using Nat.strongRecOn with
 | ind n ih =>
  by_cases h : n < b
  ·rw [dig_lt h]; simp [val, dgt_nat (show n < 10 by omega)]
  ·have := Nat.mod_lt n (show 0 < b by omega)
   rw [dig_ge hb (by omega), val_snoc, ih _ (Nat.div_lt_self (by omega) (by omega)), dgt_nat (by omega)]
   have := Nat.div_add_mod n b
   rw [Nat.mul_comm] at this; omega
theorem dgt_of {b : Nat} (hb2 : b ≤ 10) {c : UInt8} (h : isd b c = true) : dgt (c.toNat - 48) = c := by
 rw [isd_iff] at h
 apply UInt8.toNat_inj.1
 rw [dgt_nat (by omega)]; omega
theorem val_pos {b : Nat} (hb : 2 ≤ b) : ∀ {c : UInt8} {l : List UInt8}, (∀ x ∈ c :: l, isd b x = true) → c ≠ 48 → 1 ≤ val b (c :: l) := by
 intro c l
 rw [← List.reverse_reverse l]
 generalize l.reverse = m
 induction m with
 | nil =>
  intro h hc
  have := isd_iff.1 (h c (by simp))
  have h48 : c.toNat ≠ 48 := fun e => hc (UInt8.toNat_inj.1 (by simpa using e))
  simp [val]; omega
 | cons x m ih =>
  intro h hc
  rw [List.reverse_cons] at h ⊢
  have h1 := ih (fun y hy => h y (by simp at hy ⊢; rcases hy with rfl | hy; exact .inl rfl; exact .inr (.inl hy))) hc
  rw [show c :: (m.reverse ++ [x]) = (c :: m.reverse) ++ [x] by simp, val_snoc]
  have : 1 * 1 ≤ val b (c :: m.reverse) * b := Nat.mul_le_mul h1 (by omega)
  omega
def lead (l : List UInt8) : Prop := l.length = 1 ∨ l.head? ≠ some 48
instance (l : List UInt8) : Decidable (lead l) := inferInstanceAs (Decidable (_ ∨ _))
theorem dig_val {b : Nat} (hb : 2 ≤ b) (hb2 : b ≤ 10) : ∀ (l : List UInt8), l ≠ [] → (∀ x ∈ l, isd b x = true) → lead l → dig b (val b l) = l := by
 intro l
 rw [← List.reverse_reverse l]
 generalize l.reverse = m
 induction m with
 | nil => intro h; exact absurd rfl h
 | cons x m ih =>
  intro _ h hl
  rw [List.reverse_cons] at h hl ⊢
  have hx := h x (by simp)
  have hx' := isd_iff.1 hx
  rw [val_snoc]
  cases hm : m.reverse with
  | nil =>
   simp only [val, List.foldl_nil, Nat.zero_mul, Nat.zero_add, List.nil_append]
   rw [dig_lt (by omega), dgt_of hb2 hx]
  | cons c r =>
   have hc : c ≠ 48 := by
    rcases hl with hl | hl
    ·rw [hm] at hl; simp at hl
    ·rw [hm] at hl; simpa using hl
   have h2 : ∀ y ∈ m.reverse, isd b y = true := fun y hy => h y (by simp at hy ⊢; exact .inl hy)
   have ih' := ih (by rw [hm]; simp) h2 (.inr (by rw [hm]; simpa using hc))
   have hp : 1 ≤ val b m.reverse := by
    rw [hm]; rw [hm] at h2
    exact val_pos hb h2 hc
   rw [← hm]
   generalize val b m.reverse = v at *
   have hvb : 1 * b ≤ v * b := Nat.mul_le_mul_right b hp
   rw [dig_ge hb (by omega)]
   have e1 : (v * b + (x.toNat - 48)) / b = v := by
    rw [Nat.mul_comm, Nat.mul_add_div (by omega), Nat.div_eq_of_lt hx'.2, Nat.add_zero]
   have e2 : (v * b + (x.toNat - 48)) % b = x.toNat - 48 := by
    rw [Nat.mul_comm, Nat.mul_add_mod, Nat.mod_eq_of_lt hx'.2]
   rw [e1, e2, ih', dgt_of hb2 hx]
theorem dig_head {b : Nat} (hb : 2 ≤ b) (hb2 : b ≤ 10) (n : Nat) (h : b ≤ n) : (dig b n).head? ≠ some 48 := by
 induction n using Nat.strongRecOn with
 | ind n ih =>
  rw [dig_ge hb h]
  by_cases h2 : n / b < b
  ·rw [dig_lt h2]
   have h3 : 1 ≤ n / b := by rw [Nat.le_div_iff_mul_le (by omega)]; omega
   simp only [List.singleton_append, List.head?_cons, ne_eq, Option.some.injEq]
   intro e
   have := congrArg UInt8.toNat e
   rw [dgt_nat (by omega)] at this
   simp at this; omega
  ·have := ih (n / b) (Nat.div_lt_self (by omega) (by omega)) (by omega)
   cases hd : dig b (n / b) with
   | nil => exact absurd hd (dig_ne _ _)
   | cons c r => rw [hd] at this; simpa using this
theorem dig_lead {b : Nat} (hb : 2 ≤ b) (hb2 : b ≤ 10) (n : Nat) : lead (dig b n) := by
 by_cases h : n < b
 ·left; rw [dig_lt h]; rfl
 ·right; exact dig_head hb hb2 n (by omega)
abbrev sp (n : Nat) : List UInt8 := List.replicate n 32
def fmt (b : Nat) (w : Nat) (n : Int) : Option (List UInt8) :=
 if n < 0 ∨ w < (dig b n.toNat).length then none else some (dig b n.toNat ++ sp (w - (dig b n.toNat).length))
theorem fmt_len {b w : Nat} {n : Int} {l : List UInt8} (h : fmt b w n = some l) : l.length = w := by
 unfold fmt at h
 split at h
 ·simp at h
 ·injection h with h; subst h; simp; omega
def pf (b : Nat) (l : List UInt8) : Option Nat :=
 if l.takeWhile (isd b) ≠ [] ∧ (l.dropWhile (isd b)).all (· == 32) = true ∧ lead (l.takeWhile (isd b)) then some (val b (l.takeWhile (isd b))) else none
theorem takeWhile_app {p : UInt8 → Bool} {a r : List UInt8} (ha : ∀ x ∈ a, p x = true) (hr : r = [] ∨ ∃ c s, r = c :: s ∧ p c = false) : (a ++ r).takeWhile p = a ∧ (a ++ r).dropWhile p = r := by
 induction a with
 | nil =>
  rcases hr with rfl | ⟨c, s, rfl, h⟩
  ·simp
  ·simp [List.takeWhile_cons, List.dropWhile_cons, h]
 | cons x a ih =>
  obtain ⟨h1, h2⟩ := ih fun y hy => ha y (by simp [hy])
  have hx := ha x (by simp)
  simp [List.takeWhile_cons, List.dropWhile_cons, hx, h1, h2]
theorem isd_sp {b : Nat} (hb : b ≤ 10) : isd b 32 = false := by
 cases h : isd b 32 with
 | false => rfl
 | true => rw [isd_iff] at h; simp at h
theorem sp_head {b : Nat} (hb : b ≤ 10) (n : Nat) : sp n = [] ∨ ∃ c s, sp n = c :: s ∧ isd b c = false := by
 cases n with
 | zero => exact .inl rfl
 | succ n => exact .inr ⟨32, sp n, rfl, isd_sp hb⟩
theorem all_sp {l : List UInt8} : l.all (· == 32) = true ↔ l = sp l.length := by
 rw [List.all_eq_true]
 constructor
 ·intro h
  exact List.eq_replicate_iff.2 ⟨rfl, fun x hx => by simpa using h x hx⟩
 ·intro h x hx
  rw [h] at hx
  simpa using (List.mem_replicate.1 hx).2
theorem pf_dig {b : Nat} (hb : 2 ≤ b) (hb2 : b ≤ 10) (n k : Nat) : pf b (dig b n ++ sp k) = some n := by
 obtain ⟨h1, h2⟩ := takeWhile_app (dig_isd hb hb2 n) (sp_head hb2 k)
 unfold pf
 rw [h1, h2, if_pos ⟨dig_ne _ _, all_sp.2 (by simp), dig_lead hb hb2 n⟩, val_dig hb hb2]
theorem pf_fmt {b w : Nat} {n : Int} {l : List UInt8} (hb : 2 ≤ b) (hb2 : b ≤ 10) (h : fmt b w n = some l) : pf b l = some n.toNat := by
 unfold fmt at h
 split at h
 ·simp at h
 ·injection h with h; subst h
  exact pf_dig hb hb2 _ _
theorem pf_some {b : Nat} {l : List UInt8} {n : Nat} (hb : 2 ≤ b) (hb2 : b ≤ 10) (h : pf b l = some n) : fmt b l.length n = some l := by
 unfold pf at h
 split at h
 case isFalse => simp at h
 rename_i hc
 obtain ⟨h1, h2, h3⟩ := hc
 injection h with h
 have hd : dig b n = l.takeWhile (isd b) := by
  rw [← h]
  exact dig_val hb hb2 _ h1 (fun x hx => by
   have : x ∈ l.takeWhile (isd b) := hx
   exact (List.all_eq_true.1 (List.all_takeWhile (p := isd b) (l := l))) x hx) h3
 have hl : l = l.takeWhile (isd b) ++ l.dropWhile (isd b) := (List.takeWhile_append_dropWhile).symm
 have hll : l.length = (l.takeWhile (isd b)).length + (l.dropWhile (isd b)).length := by rw [← List.length_append, ← hl]
 rw [all_sp] at h2
 unfold fmt
 rw [if_neg (by simp only [Int.toNat_natCast, hd]; omega)]
 simp only [Int.toNat_natCast, hd]
 congr 1
 rw [show l.length - (l.takeWhile (isd b)).length = (l.dropWhile (isd b)).length by omega, ← h2]
 exact hl.symm
def bad2 (c : UInt8) : Bool := decide (c = 10) || decide (c = 0)
def bad3 (c : UInt8) : Bool := decide (c = 47) || (decide (c = 10) || decide (c = 0))
def fitN (l : Str) : Bool := decide (1 ≤ l.length ∧ l.length ≤ 16 ∧ l.getLast? ≠ some 32) && !l.any bad2
def validN (l : Str) : Bool := decide (1 ≤ l.length ∧ l.length ≤ 255) && !l.any bad3
theorem step_any {p : UInt8 → Bool} {l : List UInt8} {k : Nat} {x : UInt8} (hx : l[k]? = some x) (hp : p x = false) (h : (l.take k).any p = false) : (l.take (k + 1)).any p = false := by
 rw [List.take_add_one, hx]; simp [List.any_append, h, hp]
theorem any_at {p : UInt8 → Bool} {l : List UInt8} {k : Nat} {x : UInt8} (hx : l[k]? = some x) (hp : p x = true) : l.any p = true := List.any_eq_true.2 ⟨x, List.mem_of_getElem? hx, hp⟩
theorem byte_eq {x c : UInt8} (h : ((x.toNat : Int) == (c.toNat : Int)) = true) : x = c := UInt8.toNat_inj.1 (by have := eq_of_beq h; omega)
theorem byte_ne {x c : UInt8} (h : ((x.toNat : Int) == (c.toNat : Int)) = false) : ¬ x = c := fun e => by subst e; simp at h
structure Hdr where
 name : Str
 date : Int
 uid : Int
 gid : Int
 mode : Int
 size : Int
deriving DecidableEq
abbrev Hdr.enc (h : Hdr) : List D := [sD h.name, vI h.date, vI h.uid, vI h.gid, vI h.mode, vI h.size]
def fmtR (b w : Nat) (n : Int) : List UInt8 × Int := match fmt b w n with | some l => (l, 0) | none => ([], 9)
def fieldR (n : Int) (b w : Nat) (bl : Bool) : List UInt8 × Bool := if bl = true then (sp w, decide (n = 0)) else ((fmtR b w n).1, decide ((fmtR b w n).2 = 0))
def encR (h : Hdr) : List UInt8 × Int :=
 if fitN h.name = true then
  if ((fieldR h.date 10 12 (decide (h.name = [47, 47]))).2 && ((fieldR h.uid 10 6 (decide (h.name = [47, 47]))).2 && ((fieldR h.gid 10 6 (decide (h.name = [47, 47]))).2 && ((fieldR h.mode 8 8 (decide (h.name = [47, 47]))).2 && (fieldR h.size 10 10 false).2)))) = true then
   (h.name ++ sp (16 - h.name.length) ++ (fieldR h.date 10 12 (decide (h.name = [47, 47]))).1 ++ (fieldR h.uid 10 6 (decide (h.name = [47, 47]))).1 ++ (fieldR h.gid 10 6 (decide (h.name = [47, 47]))).1 ++ (fieldR h.mode 8 8 (decide (h.name = [47, 47]))).1 ++ (fieldR h.size 10 10 false).1 ++ [96, 10], 0)
  else ([], 9)
 else ([], 6)
theorem fieldR_len (n : Int) (b w : Nat) (bl : Bool) : (fieldR n b w bl).1.length ≤ w := by
 unfold fieldR fmtR
 split
 ·simp
 ·cases h : fmt b w n with
  | none => simp
  | some l => simpa using Nat.le_of_eq (fmt_len h)
end Go.AL.Hd

namespace Go.AL.Ap
open Go Go.AL
abbrev Ent := Str × Int
abbrev Ent.enc (e : Ent) : List D := [sD e.1, vI e.2]
def fits (e : Ent) : Bool := decide (e.1 ≠ []) && (decide ((0 : UInt8) ∉ e.1) && (decide (0 ≤ e.2) && decide (e.2 ≤ 4294967295)))
theorem fits_iff {e : Ent} : fits e = true ↔ e.1 ≠ [] ∧ (0 : UInt8) ∉ e.1 ∧ 0 ≤ e.2 ∧ e.2 ≤ 4294967295 := by simp [fits]
def W4 (n : Nat) : List UInt8 := [UInt8.ofNat (n / 16777216), UInt8.ofNat (n / 65536), UInt8.ofNat (n / 256), UInt8.ofNat n]
def num (b : List UInt8) : Nat := (((b.getD 0 0).toNat * 256 + (b.getD 1 0).toNat) * 256 + (b.getD 2 0).toNat) * 256 + (b.getD 3 0).toNat
theorem num_W4 {n : Nat} (h : n < 4294967296) (r : List UInt8) : num (W4 n ++ r) = n := by
 simp [num, W4]
 omega
theorem num_lt (b : List UInt8) : num b < 4294967296 := by
 unfold num
 have h0 := (b.getD 0 0).toNat_lt
 have h1 := (b.getD 1 0).toNat_lt
 have h2 := (b.getD 2 0).toNat_lt
 have h3 := (b.getD 3 0).toNat_lt
 omega
theorem W4_num : ∀ {b : List UInt8}, 4 ≤ b.length → W4 (num b) = b.take 4
 | a :: b :: c :: d :: r, _ => by
  have h0 := a.toNat_lt
  have h1 := b.toNat_lt
  have h2 := c.toNat_lt
  have h3 := d.toNat_lt
  simp only [W4, num, List.getD_cons_zero, List.getD_cons_succ, List.take_succ_cons, List.take_zero, List.cons.injEq, and_true]
  refine ⟨?_, ?_, ?_, ?_⟩ <;> (apply UInt8.toNat_inj.1; simp only [UInt8.toNat_ofNat']; omega)
theorem W4_len (n : Nat) : (W4 n).length = 4 := rfl
def offs (l : List Ent) : List UInt8 := l.flatMap fun e => W4 e.2.toNat
def nams (l : List Ent) : List UInt8 := l.flatMap fun e => e.1 ++ [0]
def encB (l : List Ent) : List UInt8 := W4 l.length ++ offs l ++ nams l
theorem offs_len : ∀ l : List Ent, (offs l).length = 4 * l.length
 | [] => rfl
 | e :: l => by
  have ih := offs_len l
  simp only [offs, List.flatMap_cons, List.length_append, W4_len, List.length_cons] at ih ⊢
  omega

def isz (x : UInt8) : Bool := x != 0
def next (r : List UInt8) : Option (Str × List UInt8) :=
 if r.takeWhile isz = [] ∨ r.dropWhile isz = [] then none else some (r.takeWhile isz, (r.dropWhile isz).tail)
theorem isz_of {s : Str} (h : (0 : UInt8) ∉ s) : ∀ x ∈ s, isz x = true := fun x hx => by
 simp only [isz, bne_iff_ne]; intro e; subst e; exact h hx
theorem tw_app {s : Str} (h : ∀ x ∈ s, isz x = true) (r : List UInt8) : (s ++ r).takeWhile isz = s ++ r.takeWhile isz := by
 rw [List.takeWhile_append_of_pos h]
theorem dw_app {s : Str} (h : ∀ x ∈ s, isz x = true) (r : List UInt8) : (s ++ r).dropWhile isz = r.dropWhile isz := by
 rw [List.dropWhile_append_of_pos h]
theorem next_name {s : Str} (h1 : s ≠ []) (h2 : (0 : UInt8) ∉ s) (r : List UInt8) : next (s ++ 0 :: r) = some (s, r) := by
 unfold next
 rw [tw_app (isz_of h2), dw_app (isz_of h2)]
 simp [isz, h1]
theorem next_end {s : Str} (h2 : (0 : UInt8) ∉ s) : next s = none := by
 unfold next
 have := dw_app (isz_of h2) []
 simp only [List.append_nil, List.dropWhile_nil] at this
 rw [this]; simp
theorem next_some {r r' : List UInt8} {s : Str} (h : next r = some (s, r')) : r = s ++ 0 :: r' ∧ s ≠ [] ∧ (0 : UInt8) ∉ s := by
 unfold next at h
 split at h
 ·simp at h
 ·rename_i hn
  simp only [not_or] at hn
  simp only [Option.some.injEq, Prod.mk.injEq] at h
  obtain ⟨e1, e2⟩ := h
  subst e1
  refine ⟨?_, hn.1, fun h => ?_⟩
  ·have e := (List.takeWhile_append_dropWhile (p := isz) (l := r)).symm
   cases hd : r.dropWhile isz with
   | nil => exact absurd hd hn.2
   | cons x t =>
    rw [hd] at e e2
    have hx : x = 0 := by
     have := List.head?_dropWhile_not isz r
     rw [hd] at this
     simpa [isz] using this
    subst hx
    simp only [List.tail_cons] at e2
    subst e2
    exact e
  ·have := List.all_takeWhile (p := isz) (l := r)
   have := List.all_eq_true.1 this 0 h
   simp [isz] at this
theorem ib_spec : ∀ r : List UInt8, Lib.indexByte r 0 = if r.dropWhile isz = [] then -1 else ((r.takeWhile isz).length : Int)
 | [] => rfl
 | x :: r => by
  have ih := ib_spec r
  simp only [Lib.indexByte]
  by_cases hx : x = 0
  ·subst hx; simp [isz]
  ·have h1 : isz x = true := by simp [isz, hx]
   have h2 : (x == 0) = false := by simp [hx]
   rw [h2, ih]
   simp only [List.dropWhile_cons, List.takeWhile_cons, h1, if_true, Bool.false_eq_true, if_false]
   split
   ·rfl
   ·rename_i hne
    have : (((r.takeWhile isz).length : Int) == -1) = false := by simp
    rw [this]; simp
theorem take_tw (r : List UInt8) : r.take (r.takeWhile isz).length = r.takeWhile isz := (List.prefix_iff_eq_take.1 (List.takeWhile_prefix isz)).symm
theorem drop_tw (r : List UInt8) : r.drop ((r.takeWhile isz).length + 1) = (r.dropWhile isz).tail := by
 have e := List.takeWhile_append_dropWhile (p := isz) (l := r)
 have h : ∀ a b : List UInt8, (a ++ b).drop (a.length + 1) = b.tail := fun a b => by
  rw [← List.drop_drop, List.drop_left, List.drop_one]
 have := h (r.takeWhile isz) (r.dropWhile isz)
 rwa [e] at this

def decL (t : List UInt8) : Nat → Nat → List UInt8 → Option (List Ent)
 | _, 0, r => if r = [] then some [] else none
 | i, k + 1, r => match next r with
  | none => none
  | some (s, r') => (decL t (i + 1) k r').map fun q => (s, (num (t.drop (4 * i)) : Int)) :: q
def dec (b : List UInt8) : Option (List Ent) :=
 if b.length < 4 then none else if (b.length - 4) / 4 < num b then none else decL (b.drop 4) 0 (num b) ((b.drop 4).drop (4 * num b))

theorem decL_names (t : List UInt8) : ∀ (l : List Ent) (i : Nat) (x : List UInt8), l.all fits = true → (∀ j e, l[j]? = some e → (num (t.drop (4 * (i + j))) : Int) = e.2) →
  decL t i l.length (nams l ++ x) = if x = [] then some l else none
 | [], i, x, _, _ => by
  simp only [List.length_nil, decL, nams, List.flatMap_nil, List.nil_append]
 | e :: l, i, x, hf, ho => by
  simp only [List.all_cons, Bool.and_eq_true] at hf
  obtain ⟨h1, h2, h3, h4⟩ := fits_iff.1 hf.1
  have ih := decL_names t l (i + 1) x hf.2 (fun j e' he => by
   have := ho (j + 1) e' (by simpa using he)
   rw [← this]; congr 3; omega)
  have e0 := ho 0 e (by simp)
  simp only [Nat.add_zero] at e0
  have : nams (e :: l) ++ x = e.1 ++ 0 :: (nams l ++ x) := by simp [nams]
  rw [this]
  simp only [List.length_cons, decL, next_name h1 h2, ih, e0]
  split <;> simp
theorem decL_cut (t : List UInt8) : ∀ (l : List Ent) (i : Nat), l ≠ [] → l.all fits = true → decL t i l.length (nams l).dropLast = none
 | [], i, h, _ => absurd rfl h
 | e :: l, i, _, hf => by
  simp only [List.all_cons, Bool.and_eq_true] at hf
  obtain ⟨h1, h2, h3, h4⟩ := fits_iff.1 hf.1
  cases l with
  | nil =>
   have : (nams [e]).dropLast = e.1 := by simp [nams]
   rw [this]
   simp only [List.length_cons, decL, next_end h2]
  | cons e' l =>
   have ih := decL_cut t (e' :: l) (i + 1) (by simp) hf.2
   have : (nams (e :: e' :: l)).dropLast = e.1 ++ 0 :: (nams (e' :: l)).dropLast := by
    have hne : nams (e' :: l) ≠ [] := by simp [nams]
    have e1 : nams (e :: e' :: l) = (e.1 ++ [0]) ++ nams (e' :: l) := by simp [nams]
    rw [e1, List.dropLast_append_of_ne_nil hne]
    simp
   rw [this]
   simp only [List.length_cons, decL, next_name h1 h2] at ih ⊢
   simp [ih]
theorem decL_some (t : List UInt8) : ∀ (k i : Nat) (r : List UInt8) (q : List Ent), decL t i k r = some q →
  r = nams q ∧ q.length = k ∧ q.all fits = true ∧ ∀ j e, q[j]? = some e → e.2 = (num (t.drop (4 * (i + j))) : Int)
 | 0, i, r, q, h => by
  simp only [decL] at h
  split at h
  ·rename_i hr
   simp at h; subst h; subst hr
   exact ⟨rfl, rfl, rfl, fun j e he => by simp at he⟩
  ·simp at h
 | k + 1, i, r, q, h => by
  simp only [decL] at h
  split at h
  ·simp at h
  ·rename_i s r' hn
   simp only [Option.map_eq_some_iff] at h
   obtain ⟨q', hq', rfl⟩ := h
   obtain ⟨h1, h2, h3, h4⟩ := decL_some t k (i + 1) r' q' hq'
   obtain ⟨n1, n2, n3⟩ := next_some hn
   refine ⟨?_, by simp [h2], ?_, fun j e he => ?_⟩
   ·rw [n1, h1]; simp [nams]
   ·simp only [List.all_cons, h3, Bool.and_true]
    refine fits_iff.2 ⟨n2, n3, by simp, ?_⟩
    have := num_lt (t.drop (4 * i))
    simp; omega
   ·cases j with
    | zero => simp at he; subst he; simp
    | succ j =>
     rw [h4 j e (by simpa using he)]
     congr 3; omega

theorem drop_offs : ∀ (l : List Ent) (j : Nat) (e : Ent) (r : List UInt8), l[j]? = some e → (offs l ++ r).drop (4 * j) = W4 e.2.toNat ++ (offs (l.drop (j + 1)) ++ r)
 | [], j, e, r, h => by simp at h
 | x :: l, 0, e, r, h => by simp at h; subst h; simp [offs]
 | x :: l, j + 1, e, r, h => by
  have ih := drop_offs l j e r (by simpa using h)
  have : offs (x :: l) ++ r = W4 x.2.toNat ++ (offs l ++ r) := by simp [offs]
  rw [this]
  have e1 : 4 * (j + 1) = 4 + 4 * j := by omega
  rw [e1, ← List.drop_drop, List.drop_left' (W4_len _), ih]
  simp
theorem encB_parts {l : List Ent} (hl : l.length < 4294967296) (x : List UInt8) : num (encB l ++ x) = l.length ∧ (encB l ++ x).drop 4 = offs l ++ (nams l ++ x) ∧ ((encB l ++ x).drop 4).drop (4 * l.length) = nams l ++ x := by
 have e : encB l ++ x = W4 l.length ++ (offs l ++ (nams l ++ x)) := by simp [encB]
 rw [e]
 refine ⟨num_W4 hl _, List.drop_left' (W4_len _), ?_⟩
 rw [List.drop_left' (W4_len _), List.drop_left' (offs_len l)]
theorem encB_len (l : List Ent) : (encB l).length = 4 + 4 * l.length + (nams l).length := by
 simp [encB, W4_len, offs_len]; omega
theorem dec_encB {l : List Ent} (hl : l.length < 4294967296) (hf : l.all fits = true) (x : List UInt8) : dec (encB l ++ x) = if x = [] then some l else none := by
 obtain ⟨h1, h2, h3⟩ := encB_parts hl x
 unfold dec
 have hlen := encB_len l
 rw [h1, h3, h2, if_neg (by simp; omega), if_neg (by simp; omega)]
 refine decL_names _ l 0 x hf fun j e he => ?_
 rw [Nat.zero_add, drop_offs l j e _ he]
 have hfe := fits_iff.1 (List.all_eq_true.1 hf e (List.mem_of_getElem? he))
 rw [num_W4 (by omega)]
 omega
theorem dec_cut {l : List Ent} (hl : l.length < 4294967296) (hf : l.all fits = true) : dec (encB l).dropLast = none := by
 unfold dec
 have hlen := encB_len l
 cases l with
 | nil => simp [encB, W4, offs, nams]
 | cons e l =>
  have hne : nams (e :: l) ≠ [] := by simp [nams]
  have hpos : 0 < (nams (e :: l)).length := List.length_pos_iff.2 hne
  have e0 : (encB (e :: l)).dropLast = W4 (e :: l).length ++ (offs (e :: l) ++ (nams (e :: l)).dropLast) := by
   have : encB (e :: l) = (W4 (e :: l).length ++ offs (e :: l)) ++ nams (e :: l) := rfl
   rw [this, List.dropLast_append_of_ne_nil hne]
   simp
  rw [if_neg (by simp; omega)]
  split
  ·rfl
  ·rw [e0, num_W4 hl, List.drop_left' (W4_len _), List.drop_left' (offs_len _)]
   exact decL_cut _ _ 0 (by simp) hf
theorem take_offs (t : List UInt8) : ∀ (q : List Ent) (i : Nat), 4 * (i + q.length) ≤ t.length → (∀ j e, q[j]? = some e → e.2 = (num (t.drop (4 * (i + j))) : Int)) → offs q = (t.drop (4 * i)).take (4 * q.length)
 | [], i, _, _ => by simp [offs]
 | e :: q, i, hl, ho => by
  have ih := take_offs t q (i + 1) (by simp at hl; omega) (fun j e' he => by
   rw [ho (j + 1) e' (by simpa using he)]; congr 3; omega)
  have e0 := ho 0 e (by simp)
  simp only [Nat.add_zero] at e0
  have : offs (e :: q) = W4 e.2.toNat ++ offs q := by simp [offs]
  rw [this, ih, e0, Int.toNat_natCast, W4_num (by simp at hl ⊢; omega)]
  have e1 : 4 * (e :: q).length = 4 + 4 * q.length := by simp; omega
  have e2 : 4 * (i + 1) = 4 * i + 4 := by omega
  rw [e1, e2, ← List.drop_drop, List.take_add]
theorem enc_dec {b : List UInt8} {q : List Ent} (h : dec b = some q) : encB q = b ∧ q.all fits = true ∧ 4 * q.length + 4 ≤ b.length := by
 unfold dec at h
 split at h
 ·simp at h
 ·rename_i h4
  split at h
  ·simp at h
  ·rename_i hn
   obtain ⟨h1, h2, h3, h5⟩ := decL_some _ _ _ _ _ h
   have hlen : 4 * (0 + q.length) ≤ (b.drop 4).length := by simp; omega
   refine ⟨?_, h3, by simp at hlen; omega⟩
   have ho := take_offs (b.drop 4) q 0 hlen h5
   simp only [Nat.mul_zero, List.drop_zero] at ho
   unfold encB
   rw [← h1, ho, h2, W4_num (by omega)]
   rw [List.append_assoc, List.take_append_drop, List.take_append_drop]
end Go.AL.Ap

namespace Go.AL.Hd
open Go Go.AL
theorem val_lt {b : Nat} (hb : 2 ≤ b) : ∀ (l : List UInt8), (∀ x ∈ l, isd b x = true) → val b l < b ^ l.length := by
 intro l
 rw [← List.reverse_reverse l]
 generalize l.reverse = m
 induction m with
 | nil => intro _; simp [val]
 | cons x m ih =>
  intro h
  rw [List.reverse_cons] at h ⊢
  have hx := isd_iff.1 (h x (by simp))
  have h1 := ih (fun y hy => h y (by simp at hy ⊢; exact .inl hy))
  rw [val_snoc, List.length_append, List.length_singleton, Nat.pow_succ]
  have : (val b m.reverse + 1) * b ≤ b ^ m.reverse.length * b := Nat.mul_le_mul_right b h1
  rw [Nat.add_mul] at this; omega
theorem pow_le {b k : Nat} (hb2 : b ≤ 10) (hk : k ≤ 18) : b ^ k ≤ 1000000000000000000 := by
 have h1 : b ^ k ≤ 10 ^ k := Nat.pow_le_pow_left hb2 k
 have h2 : 10 ^ k ≤ 10 ^ 18 := Nat.pow_le_pow_right (by omega) hk
 have h3 : (10 : Nat) ^ 18 = 1000000000000000000 := by decide
 omega
theorem val_take_succ {b : Nat} {l : List UInt8} {k : Nat} {x : UInt8} (hx : l[k]? = some x) : val b (l.take (k + 1)) = val b (l.take k) * b + (x.toNat - 48) := by
 rw [List.take_add_one, hx]; exact val_snoc _ _ _
def opR : Option Nat → Nat × Int
 | some n => (n, 0)
 | none => (0, 3)
def parseR (b : Nat) (l : List UInt8) : Nat × Int :=
 if l.length < 1 ∨ 18 < l.length then (0, 13) else opR (pf b l)
theorem tw_take {b : Nat} {l : List UInt8} {k : Nat} (hk : k ≤ l.length) (h : (l.take k).all (isd b) = true) (hn : ∀ c, l[k]? = some c → isd b c = false) : l.takeWhile (isd b) = l.take k ∧ l.dropWhile (isd b) = l.drop k := by
 have := takeWhile_app (p := isd b) (a := l.take k) (r := l.drop k) (List.all_eq_true.1 h) (by
  cases hd : l.drop k with
  | nil => exact .inl rfl
  | cons c s =>
   refine .inr ⟨c, s, rfl, hn c ?_⟩
   have : (l.drop k)[0]? = some c := by rw [hd]; rfl
   rwa [List.getElem?_drop, Nat.add_zero] at this)
 rwa [List.take_append_drop] at this
theorem pf_at {b : Nat} {l : List UInt8} {k : Nat} (hk : k ≤ l.length) (h : (l.take k).all (isd b) = true) (hn : ∀ c, l[k]? = some c → isd b c = false) :
  pf b l = if 0 < k ∧ (l.drop k).all (· == 32) = true ∧ (k = 1 ∨ l.head? ≠ some 48) then some (val b (l.take k)) else none := by
 obtain ⟨h1, h2⟩ := tw_take hk h hn
 unfold pf
 rw [h1, h2]
 have e1 : l.take k ≠ [] ↔ 0 < k := by
  rw [ne_eq, ← List.length_eq_zero_iff, List.length_take]; omega
 by_cases h0 : 0 < k
 ·have e2 : lead (l.take k) ↔ (k = 1 ∨ l.head? ≠ some 48) := by
   unfold lead
   rw [List.length_take, Nat.min_eq_left hk]
   have : (l.take k).head? = l.head? := by
    cases l with
    | nil => simp
    | cons c l => cases k with | zero => omega | succ k => simp
   rw [this]
  simp only [e1, e2]
 ·rw [if_neg (fun h => h0 (e1.1 h.1)), if_neg (fun h => h0 h.1)]
theorem pf_none {b : Nat} {l : List UInt8} {k : Nat} {c : UInt8} (hc : l[k]? = some c) (h : (l.take k).all (isd b) = true) (hn : isd b c = false) (hs : c ≠ 32) : pf b l = none := by
 have hk := (List.getElem?_eq_some_iff.1 hc).1
 rw [pf_at (Nat.le_of_lt hk) h (fun d hd => by rw [hc] at hd; injection hd with hd; subst hd; exact hn)]
 have : (l.drop k).all (· == 32) = false := by
  rw [List.all_eq_false]
  refine ⟨c, ?_, by simp [hs]⟩
  have : (l.drop k)[0]? = some c := by rw [List.getElem?_drop, Nat.add_zero]; exact hc
  exact List.mem_of_getElem? this
 simp [this]
theorem pf_iff_fmt {b : Nat} {l : List UInt8} {n : Nat} (hb : 2 ≤ b) (hb2 : b ≤ 10) : pf b l = some n ↔ fmt b l.length n = some l :=
 ⟨pf_some hb hb2, fun h => by have := pf_fmt hb hb2 h; simpa using this⟩
theorem sub8 {x : UInt8} (h : 48 ≤ x.toNat) : intBin .sub .u8 (x.toNat : Int) 48 = some ((x.toNat - 48 : Nat) : Int) := by
 have e : (x.toNat : Int) - 48 = ((x.toNat - 48 : Nat) : Int) := by omega
 have hx := x.toNat_lt
 simp only [intBin, e]
 rw [wrapU8, UInt8.toNat_ofNat', Nat.mod_eq_of_lt (by omega)]
def numR (b : Nat) (l : List UInt8) (bl : Bool) : Nat × Bool :=
 if bl = true then (0, decide (l = sp l.length)) else ((parseR b l).1, decide ((parseR b l).2 = 0))
def trimR (l : Str) : Str := (l.reverse.dropWhile (· == 32)).reverse
theorem trimR_snoc (l : Str) (c : UInt8) : trimR (l ++ [c]) = if c = 32 then trimR l else l ++ [c] := by
 unfold trimR
 rw [List.reverse_append]
 simp only [List.reverse_cons, List.reverse_nil, List.nil_append, List.singleton_append, List.dropWhile_cons]
 by_cases h : c = 32
 ·simp [h]
 ·simp [h]
theorem trimR_sp (l : Str) : ∀ k, trimR (l ++ sp k) = trimR l
 | 0 => by simp
 | k + 1 => by rw [sp, List.replicate_succ', ← List.append_assoc, trimR_snoc, if_pos rfl]; exact trimR_sp l k
theorem trimR_self {l : Str} (h : l.getLast? ≠ some 32) : trimR l = l := by
 rcases List.eq_nil_or_concat l with rfl | ⟨m, c, rfl⟩
 ·rfl
 ·rw [List.concat_eq_append] at h ⊢
  rw [trimR_snoc, if_neg (by simpa using h)]
theorem trimR_last (l : Str) : (trimR l).getLast? ≠ some 32 := by
 intro h
 unfold trimR at h
 rw [List.getLast?_reverse] at h
 have := List.head?_dropWhile_not (p := fun c : UInt8 => c == 32) l.reverse
 rw [h] at this
 simp at this
theorem trimR_at {l : Str} {n : Nat} (hn : n ≤ l.length) (h : (l.drop n).all (· == 32) = true) (h0 : n = 0 ∨ l[n - 1]? ≠ some 32) : trimR l = l.take n := by
 have e : l = l.take n ++ sp (l.drop n).length := by rw [← all_sp.1 h, List.take_append_drop]
 have e2 : trimR l = trimR (l.take n) := by
  conv => lhs; rw [e]
  exact trimR_sp _ _
 rw [e2]
 apply trimR_self
 rcases h0 with rfl | h0
 ·simp
 ·rcases Nat.eq_zero_or_pos n with rfl | hp
  ·simp
  ·rw [List.getLast?_eq_getElem?, List.length_take, Nat.min_eq_left hn, List.getElem?_take, if_pos (by omega)]; exact h0
abbrev prt (l : Str) (a b : Nat) : Str := (l.take b).drop a
theorem prt_len {l : Str} {a b : Nat} (hab : a ≤ b) (hb : b ≤ l.length) : (prt l a b).length = b - a := by simp [prt]; omega
abbrev hdr0 : Hdr := ⟨[], 0, 0, 0, 0, 0⟩
def decR (l : Str) : Hdr × Int :=
 if l.length < 60 then (hdr0, 2)
 else if l[58]? = some 96 ∧ l[59]? = some 10 then
  if fitN (trimR (l.take 16)) = true then
   (if (numR 10 (prt l 16 28) (decide (trimR (l.take 16) = [47, 47]))).2 && ((numR 10 (prt l 28 34) (decide (trimR (l.take 16) = [47, 47]))).2 && ((numR 10 (prt l 34 40) (decide (trimR (l.take 16) = [47, 47]))).2 &&
     ((numR 8 (prt l 40 48) (decide (trimR (l.take 16) = [47, 47]))).2 && (numR 10 (prt l 48 58) false).2))) then
    (⟨trimR (l.take 16), (numR 10 (prt l 16 28) (decide (trimR (l.take 16) = [47, 47]))).1, (numR 10 (prt l 28 34) (decide (trimR (l.take 16) = [47, 47]))).1, (numR 10 (prt l 34 40) (decide (trimR (l.take 16) = [47, 47]))).1,
     (numR 8 (prt l 40 48) (decide (trimR (l.take 16) = [47, 47]))).1, (numR 10 (prt l 48 58) false).1⟩, 0)
   else (hdr0, 3))
  else (hdr0, 6)
 else (hdr0, 4)
end Go.AL.Hd

namespace Go.AL.U8
open Go Go.AL
theorem get_sB (l : List UInt8) (i : Nat) : (⟨l.toArray⟩ : ByteArray).get! i = l.getD i 0 := by
  simp [ByteArray.get!, List.getD, getElem!_def]
  cases l[i]? <;> rfl
theorem size_sB (l : List UInt8) : (⟨l.toArray⟩ : ByteArray).size = l.length := by simp [ByteArray.size]
theorem dec_ascii {l : List UInt8} {i : Nat} {x : UInt8} (hx : l[i]? = some x) (h : x.toNat < 128) : Utf8.decode ⟨l.toArray⟩ i = (x.toNat, 1) := by
  have e : (⟨l.toArray⟩ : ByteArray).get! (i + 0) = x := by rw [get_sB]; simp [List.getD, hx]
  simp only [Utf8.decode, e]
  rw [if_pos h]
def cont (l : List UInt8) (i k : Nat) : Prop := i + k < l.length ∧ 128 ≤ (l.getD (i + k) 0).toNat
theorem cont_of {l : List UInt8} {i k : Nat} (h : decide (i + k < (⟨l.toArray⟩ : ByteArray).size) = true ∧ (((⟨l.toArray⟩ : ByteArray).get! (i + k)).toNat / 64 == 2) = true) : cont l i k := by
  rw [size_sB, get_sB] at h
  simp only [decide_eq_true_eq, beq_iff_eq] at h
  exact ⟨h.1, by omega⟩
theorem valid_err : Utf8.valid (65533 : Nat) = true := by decide
theorem dec_more {l : List UInt8} {i : Nat} {x : UInt8} (hx : l[i]? = some x) (h : 128 ≤ x.toNat) :
    128 ≤ (Utf8.decode ⟨l.toArray⟩ i).1 ∧ Utf8.valid ((Utf8.decode ⟨l.toArray⟩ i).1 : Nat) = true ∧ 1 ≤ (Utf8.decode ⟨l.toArray⟩ i).2 ∧ ∀ k, k < (Utf8.decode ⟨l.toArray⟩ i).2 → cont l i k := by
  have hil := (List.getElem?_eq_some_iff.1 hx).1
  have e : (⟨l.toArray⟩ : ByteArray).get! (i + 0) = x := by rw [get_sB]; simp [List.getD, hx]
  have c0 : cont l i 0 := ⟨hil, by have : l.getD (i + 0) 0 = x := by simp [List.getD, hx]
                                   rw [this]; exact h⟩
  have key : ∀ p : Nat × Nat, Utf8.decode ⟨l.toArray⟩ i = p → 128 ≤ p.1 ∧ Utf8.valid (p.1 : Nat) = true ∧ 1 ≤ p.2 ∧ ∀ k, k < p.2 → cont l i k := by
    intro p hp
    have err : p = (65533, 1) → 128 ≤ p.1 ∧ Utf8.valid (p.1 : Nat) = true ∧ 1 ≤ p.2 ∧ ∀ k, k < p.2 → cont l i k := by
      rintro rfl
      exact ⟨by decide, by decide, by decide, fun k hk => by obtain rfl : k = 0 := by simp at hk; omega
                                                             exact c0⟩
    simp only [Utf8.decode, e, Utf8.runeError] at hp
    rw [if_neg (by omega)] at hp
    split at hp
    · rename_i h1
      simp only [Bool.and_eq_true] at h1
      split at hp
      · rename_i h2
        subst hp
        have hb : 2 ≤ (x.toNat % 32) := by
          have := Nat.mod_lt ((⟨l.toArray⟩ : ByteArray).get! (i + 1)).toNat (show 0 < 64 by omega)
          simp only [ge_iff_le] at h2
          omega
        refine ⟨h2, ?_, Nat.le_of_ble_eq_true rfl, fun k hk => ?_⟩
        · have := Nat.mod_lt ((⟨l.toArray⟩ : ByteArray).get! (i + 1)).toNat (show 0 < 64 by omega)
          have h5 := Nat.mod_lt x.toNat (show 0 < 32 by omega)
          simp only [Utf8.valid, Bool.or_eq_true, Bool.and_eq_true, decide_eq_true_eq]
          left; omega
        · match k, hk with
          | 0, _ => exact c0
          | 1, _ => exact cont_of h1.2
          | k + 2, hk => exact absurd (show k + 2 < 2 from hk) (by omega)
      · exact err hp.symm
    · split at hp
      · rename_i h1
        simp only [Bool.and_eq_true] at h1
        split at hp
        · rename_i h2
          simp only [Bool.and_eq_true, decide_eq_true_eq, ge_iff_le] at h2
          subst hp
          refine ⟨by show 128 ≤ _; have := h2.1; omega, h2.2, Nat.le_of_ble_eq_true rfl, fun k hk => ?_⟩
          match k, hk with
          | 0, _ => exact c0
          | 1, _ => exact cont_of h1.1.2
          | 2, _ => exact cont_of h1.2
          | k + 3, hk => exact absurd (show k + 3 < 3 from hk) (by omega)
        · exact err hp.symm
      · split at hp
        · rename_i h1
          simp only [Bool.and_eq_true] at h1
          split at hp
          · rename_i h2
            simp only [Bool.and_eq_true, decide_eq_true_eq, ge_iff_le] at h2
            subst hp
            refine ⟨by show 128 ≤ _; have := h2.1; omega, h2.2, Nat.le_of_ble_eq_true rfl, fun k hk => ?_⟩
            match k, hk with
            | 0, _ => exact c0
            | 1, _ => exact cont_of h1.1.1.2
            | 2, _ => exact cont_of h1.1.2
            | 3, _ => exact cont_of h1.2
            | k + 4, hk => exact absurd (show k + 4 < 4 from hk) (by omega)
          · exact err hp.symm
        · exact err hp.symm
  exact key _ rfl
theorem ofN {n : Nat} (h : 128 ≤ n) (h2 : n < 256) : 128 ≤ (UInt8.ofNat n).toNat := by rw [UInt8.toNat_ofNat', Nat.mod_eq_of_lt h2]; exact h
theorem enc_more {r : Nat} (h : 128 ≤ r) (hv : Utf8.valid (r : Int) = true) : ∃ m : List UInt8, Utf8.encode (r : Int) = ⟨m.toArray⟩ ∧ 2 ≤ m.length ∧ m.length ≤ 4 ∧ ∀ x ∈ m, 128 ≤ x.toNat := by
  have hr : r ≤ 1114111 := by
    simp only [Utf8.valid, Bool.or_eq_true, Bool.and_eq_true, decide_eq_true_eq] at hv
    omega
  have hc : ∀ y : Nat, 128 ≤ (UInt8.ofNat (128 + y % 64)).toNat := fun y => ofN (by omega) (by have := Nat.mod_lt y (show 0 < 64 by omega); omega)
  simp only [Utf8.encode, hv, if_true, Int.toNat_natCast]
  rw [if_neg (by omega)]
  split
  · exact ⟨_, rfl, Nat.le_of_ble_eq_true rfl, Nat.le_of_ble_eq_true rfl, fun x hx => by
      simp only [List.mem_cons, List.not_mem_nil, or_false] at hx
      rcases hx with rfl | rfl
      · exact ofN (by omega) (by omega)
      · exact hc _⟩
  · split
    · exact ⟨_, rfl, Nat.le_of_ble_eq_true rfl, Nat.le_of_ble_eq_true rfl, fun x hx => by
        simp only [List.mem_cons, List.not_mem_nil, or_false] at hx
        rcases hx with rfl | rfl | rfl
        · exact ofN (by omega) (by omega)
        · exact hc _
        · exact hc _⟩
    · exact ⟨_, rfl, Nat.le_of_ble_eq_true rfl, Nat.le_of_ble_eq_true rfl, fun x hx => by
        simp only [List.mem_cons, List.not_mem_nil, or_false] at hx
        rcases hx with rfl | rfl | rfl | rfl
        · exact ofN (by omega) (by omega)
        · exact hc _
        · exact hc _
        · exact hc _⟩
theorem ibyte_none {l : List UInt8} {c : UInt8} (h : ∀ x ∈ l, x ≠ c) : Lib.indexByte l c = -1 := by
  induction l with
  | nil => rfl
  | cons b l ih =>
    have h1 : (b == c) = false := beq_eq_false_iff_ne.2 (h b (by simp))
    simp [Lib.indexByte, h1, ih fun x hx => h x (by simp [hx])]
theorem ibyte_some {l : List UInt8} {c : UInt8} (h : c ∈ l) : 0 ≤ Lib.indexByte l c := by
  induction l with
  | nil => simp at h
  | cons b l ih =>
    by_cases h1 : (b == c) = true
    · simp [Lib.indexByte, h1]
    · have h2 : c ∈ l := by
        rcases List.mem_cons.1 h with rfl | h
        · simp at h1
        · exact h
      have := ih h2
      simp only [Lib.indexByte, h1, Bool.false_eq_true, if_false]
      split
      · rename_i h3; have := eq_of_beq h3; omega
      · omega
end Go.AL.U8

namespace Go.AL.Ln
open Go Go.AL Go.AL.Hd

def cut2 : Str → Option (Str × Str)
 | [] => none
 | x :: r => if x = 47 ∧ r.head? = some 10 then some ([], r.tail) else (cut2 r).map fun p => (x :: p.1, p.2)

theorem cut2_some : ∀ {l a b : Str}, cut2 l = some (a, b) → l = a ++ 47 :: 10 :: b
 | [], a, b, h => by simp [cut2] at h
 | x :: r, a, b, h => by
  unfold cut2 at h
  split at h
  ·rename_i hx
   simp at h
   obtain ⟨rfl, rfl⟩ := h
   obtain ⟨rfl, h2⟩ := hx
   cases r with
   | nil => simp at h2
   | cons y r => simp at h2; subst h2; rfl
  ·cases hc : cut2 r with
   | none => rw [hc] at h; simp at h
   | some p =>
    obtain ⟨a', b'⟩ := p
    rw [hc] at h
    simp at h
    obtain ⟨rfl, rfl⟩ := h
    have := cut2_some hc
    rw [this]; rfl
theorem cut2_len {l a b : Str} (h : cut2 l = some (a, b)) : b.length < l.length := by
 have := congrArg List.length (cut2_some h)
 simp at this; omega
theorem cut2_of : ∀ {a : Str} (b : Str), (∀ x ∈ a, x ≠ 47) → cut2 (a ++ 47 :: 10 :: b) = some (a, b)
 | [], b, _ => by simp [cut2]
 | x :: a, b, h => by
  have hx : x ≠ 47 := h x (by simp)
  simp only [List.cons_append, cut2]
  rw [if_neg (fun e => hx e.1), cut2_of b (fun y hy => h y (by simp [hy]))]
  rfl
theorem index_cut2 : ∀ l : Str, Lib.index l [47, 10] = match cut2 l with | none => -1 | some (a, _) => (a.length : Int)
 | [] => rfl
 | x :: r => by
  have ih := index_cut2 r
  unfold Lib.index cut2
  have hp : ([47, 10] : Str).isPrefixOf (x :: r) = decide (x = 47 ∧ r.head? = some 10) := by
   cases r with
   | nil => simp [List.isPrefixOf]
   | cons y r =>
    simp only [List.isPrefixOf, List.head?_cons, Option.some.injEq, Bool.and_true]
    rw [Bool.eq_iff_iff]
    simp
    constructor <;> intro ⟨a, b⟩ <;> exact ⟨a.symm, b.symm⟩
  rw [hp]
  by_cases hx : x = 47 ∧ r.head? = some 10
  ·simp [hx]
  ·rw [if_neg (by simpa using hx), if_neg hx, ih]
   cases hc : cut2 r with
   | none => rfl
   | some p =>
    have : ((p.1.length : Int) == -1) = false := by simp
    simp [this]

def cutI (l : Str) : Int := match cut2 l with | none => -1 | some (a, _) => (a.length : Int)
theorem index_cutI (l : Str) : Lib.index l [47, 10] = cutI l := by
 rw [index_cut2]; unfold cutI; split <;> rfl
def tabP (ns : List Str) : Str := ns.flatMap fun n => n ++ [47, 10]
theorem tabP_nil : tabP [] = [] := rfl
theorem tabP_cons (n : Str) (ns : List Str) : tabP (n :: ns) = n ++ 47 :: 10 :: tabP ns := by simp [tabP]
theorem tabP_app (a b : List Str) : tabP (a ++ b) = tabP a ++ tabP b := by simp [tabP]
theorem valid_not {n : Str} (h : validN n = true) : (∀ x ∈ n, x ≠ 47 ∧ x ≠ 10 ∧ x ≠ 0) ∧ 1 ≤ n.length ∧ n.length ≤ 255 := by
 unfold validN at h
 simp only [Bool.and_eq_true, decide_eq_true_eq, Bool.not_eq_true', List.any_eq_false] at h
 refine ⟨fun x hx => ?_, h.1⟩
 have := h.2 x hx
 simpa [bad3] using this
theorem valid_47 {n : Str} (h : validN n = true) : ∀ x ∈ n, x ≠ 47 := fun x hx => ((valid_not h).1 x hx).1
theorem not_valid {n : Str} {x : UInt8} (hx : x ∈ n) (hb : x = 47 ∨ x = 10 ∨ x = 0) : validN n = false := by
 cases h : validN n with
 | false => rfl
 | true =>
  have := (valid_not h).1 x hx
  rcases hb with e | e | e <;> simp [e] at this

def entO (t : Str) : Option (List Str) :=
 match h : cut2 t with
 | none => if t = [] then some [] else none
 | some (a, b) => if validN a = true then (entO b).map (a :: ·) else none
termination_by t.length
decreasing_by exact cut2_len h
theorem entO_none {t : Str} (h : cut2 t = none) : entO t = if t = [] then some [] else none := by
 unfold entO
 split
 ·rfl
 ·rename_i h2; rw [h] at h2; cases h2
theorem entO_some {t a b : Str} (h : cut2 t = some (a, b)) : entO t = if validN a = true then (entO b).map (a :: ·) else none := by
 rw [entO]
 split
 ·rename_i h2; rw [h] at h2; cases h2
 ·rename_i h2
  rw [h] at h2
  cases h2
  rfl
theorem ent_of : ∀ (ns : List Str), (∀ n ∈ ns, validN n = true) → entO (tabP ns) = some ns
 | [], _ => by rw [entO_none rfl]; rfl
 | n :: ns, h => by
  have h1 := h n (by simp)
  rw [tabP_cons, entO_some (cut2_of _ (valid_47 h1)), if_pos h1, ent_of ns fun m hm => h m (by simp [hm])]
  rfl
theorem ent_to : ∀ (k : Nat) {t : Str} {ns : List Str}, t.length ≤ k → entO t = some ns → t = tabP ns ∧ ∀ n ∈ ns, validN n = true
 | k, t, ns, hk, h => by
  cases hc : cut2 t with
  | none =>
   rw [entO_none hc] at h
   split at h
   ·rename_i e; simp at h; subst h; exact ⟨e, fun n hn => by simp at hn⟩
   ·simp at h
  | some p =>
   obtain ⟨a, b⟩ := p
   rw [entO_some hc] at h
   split at h
   ·rename_i hv
    cases he : entO b with
    | none => rw [he] at h; simp at h
    | some ms =>
     rw [he] at h
     simp at h; subst h
     have hl := cut2_len hc
     match k, hk with
     | k + 1, hk =>
      obtain ⟨h1, h2⟩ := ent_to k (by omega) he
      refine ⟨by rw [cut2_some hc, tabP_cons, ← h1], fun n hn => ?_⟩
      rcases List.mem_cons.1 hn with e | e
      ·rw [e]; exact hv
      ·exact h2 n e
     | 0, hk => omega
   ·simp at h
theorem ent_iff {t : Str} {ns : List Str} : entO t = some ns ↔ t = tabP ns ∧ ∀ n ∈ ns, validN n = true :=
 ⟨ent_to _ (Nat.le_refl _), fun ⟨h1, h2⟩ => by rw [h1]; exact ent_of ns h2⟩
def entR (t : Str) : List Str × Int := match entO t with | some ns => (ns, 0) | none => ([], 7)

def linesP (at' : Nat) (t : Str) : List (Nat × Str) :=
 match h : cut2 t with
 | none => if t = [] then [] else [(at', t ++ [47])]
 | some (a, b) => (at', a) :: linesP (at' + a.length + 2) b
termination_by t.length
decreasing_by exact cut2_len h
theorem linesP_none {k : Nat} {t : Str} (h : cut2 t = none) : linesP k t = if t = [] then [] else [(k, t ++ [47])] := by
 rw [linesP]
 split
 ·rfl
 ·rename_i h2; rw [h] at h2; cases h2
theorem linesP_some {k : Nat} {t a b : Str} (h : cut2 t = some (a, b)) : linesP k t = (k, a) :: linesP (k + a.length + 2) b := by
 rw [linesP]
 split
 ·rename_i h2; rw [h] at h2; cases h2
 ·rename_i h2
  rw [h] at h2
  cases h2
  rfl
theorem ent_lines : ∀ (k : Nat) {t : Str} (i : Nat), t.length ≤ k → entO t = if (linesP i t).all (fun p => validN p.2) = true then some ((linesP i t).map (·.2)) else none
 | k, t, i, hk => by
  cases hc : cut2 t with
  | none =>
   rw [entO_none hc, linesP_none hc]
   split
   ·rfl
   ·have : validN (t ++ [47]) = false := not_valid (x := 47) (by simp) (.inl rfl)
    simp [this]
  | some p =>
   obtain ⟨a, b⟩ := p
   rw [entO_some hc, linesP_some hc]
   have hl := cut2_len hc
   match k, hk with
   | 0, hk => omega
   | k + 1, hk =>
    rw [ent_lines k (i + a.length + 2) (by omega)]
    cases hv : validN a with
    | false => simp [hv]
    | true =>
     simp only [if_true, List.all_cons, hv, Bool.true_and, List.map_cons]
     split <;> rfl
theorem lines_len : ∀ (n k : Nat) {t : Str}, t.length ≤ n → (linesP k t).length ≤ t.length ∧ ∀ x ∈ linesP k t, x.2.length ≤ t.length + 1 ∧ x.1 ≤ k + t.length
 | n, k, t, hn => by
  cases hc : cut2 t with
  | none =>
   rw [linesP_none hc]
   split
   ·simp
   ·rename_i h
    have : 0 < t.length := List.length_pos_iff.2 h
    refine ⟨by simp; omega, fun x hx => ?_⟩
    simp at hx
    subst hx
    exact ⟨by simp, by simp⟩
  | some p =>
   obtain ⟨a, b⟩ := p
   rw [linesP_some hc]
   have h1 := congrArg List.length (cut2_some hc)
   simp at h1
   match n, hn with
   | 0, hn => omega
   | n + 1, hn =>
    obtain ⟨h2, h3⟩ := lines_len n (k + a.length + 2) (t := b) (by omega)
    refine ⟨by simp; omega, fun x hx => ?_⟩
    rcases List.mem_cons.1 hx with e | e
    ·subst e; exact ⟨by simp; omega, by simp⟩
    ·obtain ⟨h4, h5⟩ := h3 x e
     exact ⟨by omega, by omega⟩
def offs (k : Nat) : List Str → List (Nat × Str)
 | [] => []
 | n :: ns => (k, n) :: offs (k + n.length + 2) ns
theorem lines_of : ∀ (ns : List Str) (k : Nat), (∀ n ∈ ns, validN n = true) → linesP k (tabP ns) = offs k ns
 | [], k, _ => by rw [tabP_nil, linesP_none rfl]; rfl
 | n :: ns, k, h => by
  have h1 := h n (by simp)
  rw [tabP_cons, linesP_some (cut2_of _ (valid_47 h1)), lines_of ns _ fun m hm => h m (by simp [hm])]
  rfl
def shortN (n : Str) : Bool := validN n && (decide (n.length ≤ 15) && decide (n.getLast? ≠ some 32))
def fldP (k : Nat) : List Str → List Str
 | [] => []
 | n :: ns => if shortN n = true then (n ++ [47]) :: fldP k ns else (47 :: dig 10 k) :: fldP (k + n.length + 2) ns
def longs (ns : List Str) : List Str := ns.filter fun n => !shortN n
theorem longs_snoc (l : List Str) (n : Str) : longs (l ++ [n]) = if shortN n = true then longs l else longs l ++ [n] := by
 unfold longs
 rw [List.filter_append]
 cases h : shortN n <;> simp [h]
theorem fldP_snoc : ∀ (l : List Str) (k : Nat) (n : Str), fldP k (l ++ [n]) = fldP k l ++ [if shortN n = true then n ++ [47] else 47 :: dig 10 (k + (tabP (longs l)).length)]
 | [], k, n => by
  cases h : shortN n <;> simp [fldP, h, longs, tabP]
 | m :: l, k, n => by
  simp only [List.cons_append, fldP]
  cases h : shortN m with
  | true =>
   rw [if_pos rfl, if_pos rfl, fldP_snoc l]
   simp [longs, h]
  | false =>
   rw [if_neg (by simp), if_neg (by simp), fldP_snoc l]
   have : longs (m :: l) = m :: longs l := by simp [longs, h]
   rw [this, tabP_cons]
   simp only [List.length_append, List.length_cons, List.cons_append]
   rw [show k + m.length + 2 + (tabP (longs l)).length = k + (m.length + ((tabP (longs l)).length + 1 + 1)) by omega]
theorem tabP_len {l : List Str} {c : Nat} (h : ∀ n ∈ l, n.length ≤ c) : (tabP l).length ≤ l.length * (c + 2) := by
 induction l with
 | nil => simp [tabP]
 | cons n l ih =>
  rw [tabP_cons]
  have := h n (by simp)
  have := ih fun m hm => h m (by simp [hm])
  simp only [List.length_append, List.length_cons]
  rw [Nat.add_mul]
  omega
theorem longs_len (l : List Str) : (longs l).length ≤ l.length := List.length_filter_le _ _
theorem longs_mem {l : List Str} {n : Str} (h : n ∈ longs l) : n ∈ l := (List.mem_filter.1 h).1
theorem fldP_len : ∀ (l : List Str) (k : Nat), (fldP k l).length = l.length
 | [], k => rfl
 | n :: l, k => by
  simp only [fldP]
  split <;> simp [fldP_len l]
def buildR (ns : List Str) : Str × List Str × Int :=
 if ns.all validN = true then (tabP (longs ns), fldP 0 ns, 0) else ([], [], 6)
def resP (fl t : Str) : Str × Int :=
 if fl.getLast? = some 47 ∧ shortN fl.dropLast = true then (fl.dropLast, 0)
 else match fl with
  | 47 :: ds => if ds.length ≤ 15 ∧ ds.contains 32 = false ∧ (parseR 10 ds).2 = 0 then
    (match (linesP 0 t).find? (fun p => decide (p.1 = (parseR 10 ds).1)) with | some p => (p.2, 0) | none => ([], 6)) else ([], 6)
  | _ => ([], 6)
theorem parse10_to {ds : Str} (hs : ds.contains 32 = false) (h : (parseR 10 ds).2 = 0) : ds = dig 10 (parseR 10 ds).1 := by
 unfold parseR at h ⊢
 split at h
 ·simp at h
 ·rename_i hl
  rw [if_neg hl]
  cases hp : pf 10 ds with
  | none => rw [hp] at h; simp [opR] at h
  | some n =>
   have hf := pf_some (by omega) (by omega) hp
   show ds = dig 10 n
   unfold fmt at hf
   split at hf
   ·simp at hf
   ·injection hf with hf
    simp only [Int.toNat_natCast] at hf
    cases hk : ds.length - (dig 10 n).length with
    | zero => rw [hk] at hf; simpa using hf.symm
    | succ k =>
     rw [hk] at hf
     have : (32 : UInt8) ∈ ds := by rw [← hf]; simp [sp, List.replicate_succ]
     rw [List.contains_iff_mem.2 this] at hs
     simp at hs
theorem parse10_of {n : Nat} (hl : (dig 10 n).length ≤ 18) : parseR 10 (dig 10 n) = (n, 0) := by
 unfold parseR
 have := dig_pos 10 n
 rw [if_neg (by omega)]
 have h := pf_dig (b := 10) (by omega) (by omega) n 0
 rw [show dig 10 n ++ sp 0 = dig 10 n by simp [sp]] at h
 rw [h]; rfl
theorem dig_no32 (n : Nat) : (dig 10 n).contains 32 = false := by
 cases h : (dig 10 n).contains 32 with
 | false => rfl
 | true =>
  have := dig_isd (b := 10) (by omega) (by omega) n 32 (by simpa using h)
  rw [isd_sp (by omega)] at this; simp at this
theorem dig_inj {m n : Nat} (h : dig 10 m = dig 10 n) : m = n := by
 have := congrArg (val 10) h
 rwa [val_dig (by omega) (by omega), val_dig (by omega) (by omega)] at this
end Go.AL.Ln

namespace Go.AL.Ln
open Go Go.AL Go.AL.Hd
theorem app_47 : ∀ {a b r s : Str}, (∀ x ∈ a, x ≠ 47) → (∀ x ∈ b, x ≠ 47) → a ++ 47 :: r = b ++ 47 :: s → a = b ∧ r = s
 | [], [], r, s, _, _, h => by simpa using h
 | [], y :: b, r, s, _, hb, h => by
  simp at h
  exact absurd h.1.symm (hb y (by simp))
 | x :: a, [], r, s, ha, _, h => by
  simp at h
  exact absurd h.1 (ha x (by simp))
 | x :: a, y :: b, r, s, ha, hb, h => by
  simp only [List.cons_append, List.cons.injEq] at h
  obtain ⟨e1, e2⟩ := app_47 (fun z hz => ha z (by simp [hz])) (fun z hz => hb z (by simp [hz])) h.2
  exact ⟨by rw [h.1, e1], e2⟩
theorem tab_pre : ∀ {out ns : List Str} {rest : Str}, (∀ n ∈ out, validN n = true) → (∀ n ∈ ns, validN n = true) → tabP ns = tabP out ++ rest → ∃ ns', ns = out ++ ns' ∧ rest = tabP ns'
 | [], ns, rest, _, _, h => ⟨ns, rfl, by simpa [tabP_nil] using h.symm⟩
 | m :: out, [], rest, ho, _, h => by
  rw [tabP_nil, tabP_cons] at h
  simp at h
 | m :: out, n :: ns, rest, ho, hn, h => by
  rw [tabP_cons, tabP_cons, List.append_assoc] at h
  obtain ⟨e1, e2⟩ := app_47 (valid_47 (hn n (by simp))) (valid_47 (ho m (by simp))) h
  simp at e2
  obtain ⟨ns', e3, e4⟩ := tab_pre (fun x hx => ho x (by simp [hx])) (fun x hx => hn x (by simp [hx])) e2
  exact ⟨ns', by rw [e1, e3]; rfl, e4⟩
theorem first_nl {n r : Str} (h : ∀ x ∈ n, x ≠ 10) {j : Nat} (hj : (n ++ 47 :: 10 :: r)[j]? = some 10) (hb : ∀ q, q < j → (n ++ 47 :: 10 :: r)[q]? ≠ some 10) : j = n.length + 1 := by
 have e1 : (n ++ 47 :: 10 :: r)[n.length + 1]? = some 10 := by
  rw [List.getElem?_append_right (by omega)]
  simp
 rcases Nat.lt_trichotomy j (n.length + 1) with hlt | he | hgt
 ·exfalso
  rcases Nat.lt_or_ge j n.length with h1 | h1
  ·rw [List.getElem?_append_left h1] at hj
   exact h 10 (List.mem_of_getElem? hj) rfl
  ·have : j = n.length := by omega
   subst this
   rw [List.getElem?_append_right (by omega)] at hj
   simp at hj
 ·exact he
 ·exact absurd e1 (hb _ hgt)
structure RdT (t : Str) (out : List Str) (fr i : Nat) : Prop where
 le : fr ≤ i
 li : i ≤ t.length
 pre : t.take fr = tabP out
 val : ∀ n ∈ out, validN n = true
 no : ∀ q, fr ≤ q → q < i → t[q]? ≠ some 10
theorem RdT.drop {t out fr i} (h : RdT t out fr i) : t = tabP out ++ t.drop fr := by rw [← h.pre, List.take_append_drop]
theorem RdT.fail {t : Str} {out : List Str} {fr i : Nat} (h : RdT t out fr i) (h10 : t[i]? = some 10) {ns : List Str} (he : entO t = some ns) :
  fr < i ∧ t[i - 1]? = some 47 ∧ validN (prt t fr (i - 1)) = true := by
 obtain ⟨h1, h2⟩ := ent_iff.1 he
 have hd := h.drop
 obtain ⟨ns', e1, e2⟩ := tab_pre (rest := t.drop fr) h.val h2 (by rw [← h1]; exact hd)
 cases ns' with
 | nil =>
  rw [tabP_nil] at e2
  have : t.length ≤ fr := by have := congrArg List.length e2; simp at this; omega
  have := (List.getElem?_eq_some_iff.1 h10).1
  have := h.le
  omega
 | cons n r =>
  rw [tabP_cons] at e2
  have hv : validN n = true := h2 n (by rw [e1]; simp)
  have hg : ∀ q, (t.drop fr)[q]? = t[fr + q]? := fun q => List.getElem?_drop
  have hle := h.le
  have hj := first_nl (n := n) (r := tabP r) (fun x hx => ((valid_not hv).1 x hx).2.1) (j := i - fr) (by rw [← e2, hg, show fr + (i - fr) = i by omega]; exact h10)
   (fun q hq => by rw [← e2, hg]; exact h.no _ (by omega) (by omega))
  refine ⟨by omega, ?_, ?_⟩
  ·have : (t.drop fr)[n.length]? = some 47 := by rw [e2]; simp
   rw [hg] at this
   rw [show i - 1 = fr + n.length by omega]; exact this
  ·have : prt t fr (i - 1) = n := by
    unfold prt
    rw [List.drop_take, e2, show i - 1 - fr = n.length by omega]
    simp
   rw [this]; exact hv
theorem RdT.step {t : Str} {out : List Str} {fr i : Nat} (h : RdT t out fr i) (h10 : t[i]? = some 10) (h1 : fr < i) (h47 : t[i - 1]? = some 47) (hv : validN (prt t fr (i - 1)) = true) :
  RdT t (out ++ [prt t fr (i - 1)]) (i + 1) (i + 1) := by
 have hlt := (List.getElem?_eq_some_iff.1 h10).1
 refine ⟨Nat.le_refl _, hlt, ?_, fun n hn => ?_, fun q h1 h2 => by omega⟩
 ·rw [tabP_app, tabP_cons, tabP_nil]
  rw [show t.take (i + 1) = t.take fr ++ prt t fr (i - 1) ++ [47, 10] by
   have e1 : t.take (i + 1) = t.take i ++ [10] := by rw [List.take_add_one, h10]; rfl
   have e2 : t.take i = t.take (i - 1) ++ [47] := by
    have : t.take (i - 1 + 1) = t.take (i - 1) ++ [47] := by rw [List.take_add_one, h47]; rfl
    rwa [show i - 1 + 1 = i by omega] at this
   have e3 : t.take (i - 1) = t.take fr ++ prt t fr (i - 1) := by
    unfold prt
    have := List.take_append_drop fr (t.take (i - 1))
    rw [List.take_take, show min fr (i - 1) = fr by omega] at this
    exact this.symm
   rw [e1, e2, e3]; simp, h.pre]
  simp
 ·rcases List.mem_append.1 hn with h | h'
  ·exact ‹RdT t out fr i›.val n h
  ·simp at h'; rw [h']; exact hv
theorem RdT.skip {t : Str} {out : List Str} {fr i : Nat} (h : RdT t out fr i) (hlt : i < t.length) (h10 : t[i]? ≠ some 10) : RdT t out fr (i + 1) :=
 ⟨by have := h.le; omega, hlt, h.pre, h.val, fun q h1 h2 => by
  rcases Nat.lt_or_ge q i with h3 | h3
  ·exact h.no q h1 h3
  ·have : q = i := by omega
   subst this; exact h10⟩
theorem RdT.done {t : Str} {out : List Str} {fr : Nat} (h : RdT t out fr t.length) : (fr = t.length → entO t = some out) ∧ (fr ≠ t.length → entO t = none) := by
 refine ⟨fun e => ?_, fun e => ?_⟩
 ·have := h.pre
  rw [e, List.take_length] at this
  exact ent_iff.2 ⟨this, h.val⟩
 ·cases he : entO t with
  | none => rfl
  | some ns =>
   obtain ⟨h1, h2⟩ := ent_iff.1 he
   obtain ⟨ns', e1, e2⟩ := tab_pre (rest := t.drop fr) h.val h2 (by rw [← h1]; exact h.drop)
   cases ns' with
   | nil =>
    rw [tabP_nil] at e2
    have := congrArg List.length e2
    simp at this
    have := h.le
    omega
   | cons n r =>
    rw [tabP_cons] at e2
    have hl := congrArg List.length e2
    simp at hl
    have h3 : (t.drop fr)[n.length + 1]? = some 10 := by rw [e2, List.getElem?_append_right (by omega)]; simp
    rw [List.getElem?_drop] at h3
    exact absurd h3 (h.no _ (by omega) (by omega))

def resR (fl t : Str) : Str × Int :=
 if fl = [] then ([], 6) else
 if fl.getLast? = some 47 ∧ shortN fl.dropLast = true then (fl.dropLast, 0)
 else match (offs 0 (entR t).1).find? (fun p => decide (fl = 47 :: dig 10 p.1) && decide ((dig 10 p.1).length ≤ 15)) with | some p => (p.2, 0) | none => ([], 6)
theorem res_eq (fl : Str) {t : Str} (he : (entR t).2 = 0) : resP fl t = resR fl t := by
 have hl : linesP 0 t = offs 0 (entR t).1 := by
  unfold entR at he ⊢
  cases h : entO t with
  | none => rw [h] at he; simp at he
  | some ns =>
   obtain ⟨h1, h2⟩ := ent_iff.1 h
   simp only []
   rw [h1, lines_of ns 0 h2]
 unfold resP resR
 cases fl with
 | nil => rfl
 | cons c ds =>
  rw [if_neg (by simp : ¬ (c :: ds : Str) = [])]
  split
  ·rfl
  ·by_cases hc : c = 47
   ·subst hc
    simp only [hl]
    by_cases hd : ds.length ≤ 15 ∧ ds.contains 32 = false ∧ (parseR 10 ds).2 = 0
    ·rw [if_pos hd]
     have hdd := parse10_to hd.2.1 hd.2.2
     have : (fun p : Nat × Str => decide (p.1 = (parseR 10 ds).1)) = fun p => decide ((47 :: ds : Str) = 47 :: dig 10 p.1) && decide ((dig 10 p.1).length ≤ 15) := by
      funext p
      rw [Bool.eq_iff_iff]
      simp only [decide_eq_true_eq, Bool.and_eq_true, List.cons.injEq, true_and]
      constructor
      ·intro e; rw [e, ← hdd]; exact ⟨rfl, hd.1⟩
      ·intro e
       exact (dig_inj (by rw [← hdd]; exact e.1)).symm
     rw [this]
     try rfl
    ·rw [if_neg hd]
     have : (offs 0 (entR t).1).find? (fun p => decide ((47 :: ds : Str) = 47 :: dig 10 p.1) && decide ((dig 10 p.1).length ≤ 15)) = none := by
      rw [List.find?_eq_none]
      intro p _
      simp only [Bool.and_eq_true, decide_eq_true_eq, List.cons.injEq, true_and]
      rintro ⟨e, h15⟩
      exact hd ⟨by rw [e]; exact h15, by rw [e]; exact dig_no32 _, by rw [e, parse10_of (by omega)]⟩
     rw [this]
   ·have h1 : ∀ (x : Str × Int) (f : Str → Str × Int), (match (c :: ds : Str) with | 47 :: ds => f ds | _ => x) = x := by
     intro x f
     split
     ·rename_i h; simp at h; exact absurd h.1 hc
     ·rfl
    have h2 : (offs 0 (entR t).1).find? (fun p => decide ((c :: ds : Str) = 47 :: dig 10 p.1) && decide ((dig 10 p.1).length ≤ 15)) = none := by
     rw [List.find?_eq_none]
     intro p _
     simp [hc]
    rw [h2]
    split
    ·rename_i h; simp at h; exact absurd h.1 hc
    ·rfl
theorem offs_get : ∀ (ns : List Str) (k i : Nat) {n : Str}, ns[i]? = some n → (offs k ns)[i]? = some (k + (tabP (ns.take i)).length, n)
 | [], k, i, n, h => by simp at h
 | m :: ns, k, 0, n, h => by simp at h; subst h; simp [offs, tabP]
 | m :: ns, k, i + 1, n, h => by
  simp only [offs, List.getElem?_cons_succ, List.take_succ_cons]
  rw [offs_get ns _ i (by simpa using h), tabP_cons]
  simp only [List.length_append, List.length_cons, Option.some.injEq, Prod.mk.injEq, and_true]
  omega
theorem offs_len : ∀ (ns : List Str) (k : Nat), (offs k ns).length = ns.length
 | [], k => rfl
 | n :: ns, k => by simp [offs, offs_len ns]
end Go.AL.Ln

namespace Go.AL.Ln
open Go Go.AL Go.AL.Hd
theorem longs_cons (m : Str) (l : List Str) : longs (m :: l) = if shortN m = true then longs l else m :: longs l := by
 unfold longs
 cases h : shortN m <;> simp [h]
theorem fld_get : ∀ (ns : List Str) (k i : Nat) {n : Str}, ns[i]? = some n → (fldP k ns)[i]? = some (if shortN n = true then n ++ [47] else 47 :: dig 10 (k + (tabP (longs (ns.take i))).length))
 | [], k, i, n, h => by simp at h
 | m :: ns, k, 0, n, h => by
  simp at h; subst h
  simp only [fldP]
  cases h : shortN m <;> simp [longs, tabP]
 | m :: ns, k, i + 1, n, h => by
  have h' : ns[i]? = some n := by simpa using h
  simp only [fldP, List.take_succ_cons, longs_cons]
  cases hm : shortN m with
  | true =>
   simp only [if_true, List.getElem?_cons_succ]
   exact fld_get ns k i h'
  | false =>
   simp only [Bool.false_eq_true, if_false, List.getElem?_cons_succ]
   rw [fld_get ns _ i h', tabP_cons]
   simp only [List.length_append, List.length_cons]
   rw [show k + m.length + 2 + (tabP (longs (ns.take i))).length = k + (m.length + ((tabP (longs (ns.take i))).length + 1 + 1)) by omega]
theorem short_not {n : Str} (h : shortN n = true) : validN n = true ∧ n.length ≤ 15 := by
 simp only [shortN, Bool.and_eq_true, decide_eq_true_eq] at h
 exact ⟨h.1, h.2.1⟩
theorem res_short {n : Str} (t : Str) (h : shortN n = true) : resP (n ++ [47]) t = (n, 0) := by
 unfold resP
 rw [if_pos ⟨by simp, by simpa using h⟩]
 simp
theorem dig_last47 (k : Nat) : ¬ ((47 :: dig 10 k : Str).getLast? = some 47) := by
 intro h
 have hne := dig_ne 10 k
 have hm := dig_isd (b := 10) (by omega) (by omega) k
 rw [List.getLast?_cons] at h
 cases hl : (dig 10 k).getLast? with
 | none => rw [List.getLast?_eq_none_iff] at hl; exact hne hl
 | some c =>
  rw [hl] at h
  simp at h
  subst h
  have := hm _ (List.mem_of_getLast? hl)
  rw [isd_iff] at this
  simp at this
theorem res_dig {t : Str} {k : Nat} (hk : (dig 10 k).length ≤ 15) : resP (47 :: dig 10 k) t = match (linesP 0 t).find? (fun p => decide (p.1 = k)) with | some p => (p.2, 0) | none => ([], 6) := by
 unfold resP
 rw [if_neg (fun h => dig_last47 k h.1)]
 simp only [parse10_of (n := k) (by omega)]
 rw [if_pos ⟨hk, dig_no32 k, trivial⟩]
 try rfl
theorem offs_lt {ns : List Str} {i j : Nat} (h : i < j) (hj : j ≤ ns.length) : (tabP (ns.take i)).length < (tabP (ns.take j)).length := by
 obtain ⟨d, rfl⟩ : ∃ d, j = i + 1 + d := ⟨j - i - 1, by omega⟩
 obtain ⟨n, hn⟩ : ∃ n, ns[i]? = some n := ⟨_, List.getElem?_eq_getElem (by omega)⟩
 have e : ns.take (i + 1 + d) = ns.take i ++ n :: (ns.drop (i + 1)).take d := by
  rw [List.take_add, List.take_add_one, hn]
  simp
 rw [e, tabP_app, tabP_cons]
 simp only [List.length_append, List.length_cons]
 omega
theorem offs_mem {ns : List Str} {p : Nat × Str} (h : p ∈ offs 0 ns) : ∃ i, ns[i]? = some p.2 ∧ p.1 = (tabP (ns.take i)).length := by
 obtain ⟨i, hi, rfl⟩ := List.getElem_of_mem h
 have hl := offs_len ns 0
 have hn : ns[i]? = some (ns[i]'(by omega)) := List.getElem?_eq_getElem (by omega)
 have := offs_get ns 0 i hn
 rw [List.getElem?_eq_getElem hi] at this
 injection this with this
 exact ⟨i, by rw [this]; exact hn, by rw [this]; simp⟩
theorem find_off {ns : List Str} {i : Nat} {n : Str} (hn : ns[i]? = some n) : (offs 0 ns).find? (fun p => decide (p.1 = (tabP (ns.take i)).length)) = some ((tabP (ns.take i)).length, n) := by
 have hi := (List.getElem?_eq_some_iff.1 hn).1
 cases hf : (offs 0 ns).find? (fun p => decide (p.1 = (tabP (ns.take i)).length)) with
 | none =>
  rw [List.find?_eq_none] at hf
  have := offs_get ns 0 i hn
  rw [Nat.zero_add] at this
  have := hf _ (List.mem_of_getElem? this)
  simp at this
 | some p =>
  have h1 := List.find?_some hf
  have h2 := List.mem_of_find?_eq_some hf
  obtain ⟨j, hj, hp⟩ := offs_mem h2
  have h1' : p.1 = (tabP (ns.take i)).length := by simpa using h1
  have hjl := (List.getElem?_eq_some_iff.1 hj).1
  have : i = j := by
   rcases Nat.lt_trichotomy i j with h | h | h
   ·have := offs_lt h (by omega : j ≤ ns.length); omega
   ·exact h
   ·have := offs_lt h (by omega : i ≤ ns.length); omega
  subst this
  rw [hn] at hj
  injection hj with hj
  rw [← h1', hj]
theorem dig_small {k : Nat} (h : k < 1000000000000000) : (dig 10 k).length ≤ 15 := (dig_len (b := 10) (by omega) 14 k).2 (by simpa using h)
theorem res_off {ns : List Str} {i : Nat} {n : Str} (hv : ∀ m ∈ ns, validN m = true) (hn : ns[i]? = some n) (hs : (tabP (ns.take i)).length < 1000000000000000) : resP (47 :: dig 10 (tabP (ns.take i)).length) (tabP ns) = (n, 0) := by
 rw [res_dig (dig_small hs), lines_of ns 0 hv, find_off hn]
theorem res_no {ns : List Str} {k : Nat} (hv : ∀ m ∈ ns, validN m = true) (hk : k < 1000000000000000) (hno : ∀ i, i < ns.length → (tabP (ns.take i)).length ≠ k) : resP (47 :: dig 10 k) (tabP ns) = ([], 6) := by
 rw [res_dig (dig_small hk), lines_of ns 0 hv]
 have : (offs 0 ns).find? (fun p => decide (p.1 = k)) = none := by
  rw [List.find?_eq_none]
  intro p hp
  obtain ⟨i, hi, he⟩ := offs_mem hp
  have := hno i (List.getElem?_eq_some_iff.1 hi).1
  simp
  omega
 rw [this]
theorem take_longs {ns : List Str} {i : Nat} {n : Str} (hn : ns[i]? = some n) (h : shortN n = false) : (longs ns)[(longs (ns.take i)).length]? = some n ∧ (longs ns).take (longs (ns.take i)).length = longs (ns.take i) := by
 have e : ns = ns.take i ++ n :: ns.drop (i + 1) := by
  have h1 : ns.take (i + 1) = ns.take i ++ [n] := by rw [List.take_add_one, hn]; rfl
  have h2 := (List.take_append_drop (i + 1) ns).symm
  rw [h1] at h2
  simpa using h2
 have e2 : longs ns = longs (ns.take i) ++ n :: longs (ns.drop (i + 1)) := by
  conv => lhs; rw [e]
  unfold longs
  rw [List.filter_append, List.filter_cons]
  simp [h]
 rw [e2]
 constructor
 ·simp
 ·simp
theorem longs_valid {ns : List Str} (h : ns.all validN = true) : ∀ m ∈ longs ns, validN m = true := fun m hm => List.all_eq_true.1 h m (longs_mem hm)
theorem round_trip {ns : List Str} {i : Nat} {n f : Str} (hv : ns.all validN = true) (hn : ns[i]? = some n) (hf : (fldP 0 ns)[i]? = some f) (hs : (tabP (longs (ns.take i))).length < 1000000000000000) :
  resP f (tabP (longs ns)) = (n, 0) ∧ f.length ≤ 16 := by
 have h1 := fld_get ns 0 i hn
 rw [hf] at h1
 injection h1 with h1
 rw [Nat.zero_add] at h1
 cases hsn : shortN n with
 | true =>
  rw [hsn, if_pos rfl] at h1
  rw [h1]
  refine ⟨res_short _ hsn, ?_⟩
  have := (short_not hsn).2
  simp; omega
 | false =>
  rw [hsn, if_neg (by simp)] at h1
  obtain ⟨h2, h3⟩ := take_longs hn hsn
  rw [h1]
  have := res_off (longs_valid hv) h2 (by rw [h3]; exact hs)
  rw [h3] at this
  refine ⟨this, ?_⟩
  have := dig_small hs
  simp; omega
theorem ent_longs {ns : List Str} (hv : ns.all validN = true) : entR (tabP (longs ns)) = (longs ns, 0) := by
 unfold entR; rw [ent_of _ (longs_valid hv)]
theorem ent_err {t : Str} (h : (entR t).2 ≠ 0) : entR t = ([], 7) := by
 unfold entR at h ⊢
 cases he : entO t with
 | none => rfl
 | some ns => rw [he] at h; simp at h
theorem ent_good {t : Str} (h : (entR t).2 = 0) : t = tabP (entR t).1 ∧ ∀ m ∈ (entR t).1, validN m = true := by
 unfold entR at h ⊢
 cases he : entO t with
 | none => rw [he] at h; simp at h
 | some ns => exact ent_iff.1 he
theorem tabP_last {ns : List Str} (h : ns ≠ []) : (tabP ns).getLast? = some 10 := by
 rcases List.eq_nil_or_concat ns with rfl | ⟨a, n, rfl⟩
 ·exact absurd rfl h
 ·rw [List.concat_eq_append, tabP_app, tabP_cons, tabP_nil]
  simp
theorem ent_cut {t : Str} (h : (entR t).2 = 0) (hne : t ≠ []) : entR t.dropLast = ([], 7) := by
 obtain ⟨h1, h2⟩ := ent_good h
 generalize (entR t).1 = ns at h1 h2
 have hns : ns ≠ [] := fun e => by rw [e, tabP_nil] at h1; exact hne h1
 rcases List.eq_nil_or_concat ns with rfl | ⟨a, n, rfl⟩
 ·exact absurd rfl hns
 ·have hd : t.dropLast = tabP a ++ n ++ [47] := by
   rw [h1, List.concat_eq_append, tabP_app, tabP_cons, tabP_nil]
   rw [show tabP a ++ (n ++ [47, 10]) = (tabP a ++ n ++ [47]) ++ [10] by simp, List.dropLast_concat]
  refine ent_err fun h0 => ?_
  obtain ⟨h3, _⟩ := ent_good h0
  generalize (entR t.dropLast).1 = ms at h3
  by_cases hms : ms = []
  ·rw [hms, tabP_nil, hd] at h3
   simp at h3
  ·have := tabP_last hms
   rw [← h3, hd] at this
   simp at this
theorem build_err {ns : List Str} (h : ns.all validN = false) : buildR ns = ([], [], 6) := by
 unfold buildR; rw [if_neg (by rw [h]; simp)]
theorem build_ok {ns : List Str} (h : ns.all validN = true) : buildR ns = (tabP (longs ns), fldP 0 ns, 0) := by
 unfold buildR; rw [if_pos h]
theorem fldP_app : ∀ (a b : List Str) (k : Nat), fldP k (a ++ b) = fldP k a ++ fldP (k + (tabP (longs a)).length) b
 | [], b, k => by simp [fldP, longs, tabP]
 | n :: a, b, k => by
  simp only [List.cons_append, fldP, longs_cons]
  cases h : shortN n with
  | true => simp only [if_true, List.cons_append]; rw [fldP_app a b k]
  | false =>
   simp only [Bool.false_eq_true, if_false, List.cons_append]
   rw [fldP_app a b, tabP_cons]
   simp only [List.length_append, List.length_cons]
   rw [show k + n.length + 2 + (tabP (longs a)).length = k + (n.length + ((tabP (longs a)).length + 1 + 1)) by omega]
theorem longs_app (a b : List Str) : longs (a ++ b) = longs a ++ longs b := by simp [longs]
end Go.AL.Ln
