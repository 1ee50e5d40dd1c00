/- Numbers in fields,in plain Lean. No condition. -/
import Derived.Test.YtimjnmbpbobfiaaGreatDoorIAc
import Derived.Lib.Bytealg
import Derived.Lib.IndexAny
import Derived.Lib.IndexMore
import Derived.Sort.Walk0
import Derived.Test.YtimjnmbpbobfiaaGreatDoorIAd
set_option linter.unusedVariables false
set_option linter.unusedSimpArgs false
namespace Go.AL.Hd
open Go Go.AL
def dgt (d : Nat) : UInt8:=UInt8.ofNat (48 + d)
theorem dgt_nat {d : Nat} (h : d < 10) : (dgt d).toNat = 48 + d := by
 simp only [dgt,UInt8.toNat_ofNat']; omega
def dig (b n : Nat) : List UInt8 :=
 if h : b < 2 ∨ n < b then [dgt n] else dig b (n / b) ++ [dgt (n % b)]
termination_by n
decreasing_by exact Nat.div_lt_self (by omega) (by omega)
theorem dig_lt {b n : Nat} (h : n < b) : dig b n = [dgt n]:=by rw [dig,dif_pos (.inr h)]
theorem dig_ge {b n : Nat} (hb : 2 ≤ b) (h : b ≤ n) : dig b n = dig b (n / b) ++ [dgt (n % b)]:=by rw [dig,dif_neg (by omega)]
theorem dig_ne (b n : Nat) : dig b n ≠ [] := by
 rw [dig]; split <;> simp
theorem dig_pos (b n : Nat) : 0 < (dig b n).length:=List.length_pos_iff.2 (dig_ne b n)
theorem dig_len {b : Nat} (hb : 2 ≤ b) : ∀ (k n : Nat), (dig b n).length ≤ k + 1 ↔ n < b ^ (k + 1)
 | 0, n => by
  simp only [Nat.zero_add,Nat.pow_one]
  by_cases h : n < b
  ·simp [dig_lt h,h]
  ·rw [dig_ge hb (by omega)]
   have:=dig_pos b (n / b)
   simp only [List.length_append,List.length_singleton]; omega
 | k + 1, n => by
  by_cases h : n < b
  ·rw [dig_lt h]
   have : b ^ 1 ≤ b ^ (k + 1 + 1):=Nat.pow_le_pow_right (by omega) (by omega)
   rw [Nat.pow_one] at this
   simp only [List.length_singleton]; omega
  ·rw [dig_ge hb (by omega),List.length_append,List.length_singleton,Nat.add_le_add_iff_right,dig_len hb k,Nat.div_lt_iff_lt_mul (by omega),← Nat.pow_succ]
def isd (b : Nat) (c : UInt8) : Bool:=decide (48 ≤ c.toNat) && decide (c.toNat - 48 < b)
theorem isd_iff {b : Nat} {c : UInt8} : isd b c = true ↔ 48 ≤ c.toNat ∧ c.toNat - 48 < b:=by simp [isd]
def val (b : Nat) (l : List UInt8) : Nat:=l.foldl (fun n c=>n * b + (c.toNat - 48)) 0
theorem val_snoc (b : Nat) (l : List UInt8) (c : UInt8) : val b (l ++ [c]) = val b l * b + (c.toNat - 48):=by simp [val]
theorem dig_isd {b : Nat} (hb : 2 ≤ b) (hb2 : b ≤ 10) (n : Nat) : ∀ c ∈ dig b n, isd b c = true := by
 induction n using Nat.strongRecOn with
 | ind n ih =>
  intro c hc
  by_cases h : n < b
  ·rw [dig_lt h] at hc
   simp at hc; subst hc
   rw [isd_iff,dgt_nat (by omega)]; omega
  ·rw [dig_ge hb (by omega), List.mem_append] at hc
   rcases hc with hc|hc
   ·exact ih _ (Nat.div_lt_self (by omega) (by omega)) c hc
   ·simp at hc; subst hc
    have:=Nat.mod_lt n (show 0 < b by omega)
    rw [isd_iff,dgt_nat (by omega)]; omega
theorem val_dig {b : Nat} (hb : 2 ≤ b) (hb2 : b ≤ 10) (n : Nat) : val b (dig b n) = n := by
 induction n using Nat.strongRecOn with
 | ind n ih =>
  by_cases h : n < b
  ·rw [dig_lt h]; simp [val,dgt_nat (show n < 10 by omega)]
  ·have := Nat.mod_lt n (show 0 < b by omega)
   rw [dig_ge hb (by omega),val_snoc,ih _ (Nat.div_lt_self (by omega) (by omega)),dgt_nat (by omega)]
   have:=Nat.div_add_mod n b
   rw [Nat.mul_comm] at this; omega
theorem dgt_of {b : Nat} (hb2 : b ≤ 10) {c : UInt8} (h : isd b c = true) : dgt (c.toNat - 48) = c := by
 rw [isd_iff] at h
 apply UInt8.toNat_inj.1
 rw [dgt_nat (by omega)]; omega
theorem val_pos {b : Nat} (hb : 2 ≤ b) : ∀ {c : UInt8} {l : List UInt8}, (∀ x ∈ c :: l, isd b x = true) → c ≠ 48 → 1 ≤ val b (c :: l) := by
 intro c l
 rw [← List.reverse_reverse l]
 generalize l.reverse = m
 induction m with
 | nil =>
  intro h hc
  have:=isd_iff.1 (h c (by simp))
  have h48 : c.toNat ≠ 48:=fun e=>hc (UInt8.toNat_inj.1 (by simpa using e))
  simp [val]; omega
 | cons x m ih =>
  intro h hc
  rw [List.reverse_cons] at h ⊢
  have h1:=ih (fun y hy=>h y (by simp at hy ⊢; rcases hy with rfl|hy; exact .inl rfl; exact .inr (.inl hy))) hc
  rw [show c :: (m.reverse ++ [x]) = (c :: m.reverse) ++ [x] by simp,val_snoc]
  have : 1 * 1 ≤ val b (c :: m.reverse) * b:=Nat.mul_le_mul h1 (by omega)
  omega
def lead (l : List UInt8) : Prop:=l.length = 1 ∨ l.head? ≠ some 48
instance (l : List UInt8) : Decidable (lead l):=inferInstanceAs (Decidable (_ ∨ _))
theorem dig_val {b : Nat} (hb : 2 ≤ b) (hb2 : b ≤ 10) : ∀ (l : List UInt8), l ≠ [] → (∀ x ∈ l, isd b x = true) → lead l → dig b (val b l) = l := by
 intro l
 rw [← List.reverse_reverse l]
 generalize l.reverse = m
 induction m with
 | nil=>intro h; exact absurd rfl h
 | cons x m ih =>
  intro _ h hl
  rw [List.reverse_cons] at h hl ⊢
  have hx:=h x (by simp)
  have hx':=isd_iff.1 hx
  rw [val_snoc]
  cases hm : m.reverse with
  | nil =>
   simp only [val,List.foldl_nil,Nat.zero_mul,Nat.zero_add,List.nil_append]
   rw [dig_lt (by omega),dgt_of hb2 hx]
  | cons c r =>
   have hc : c ≠ 48 := by
    rcases hl with hl|hl
    ·rw [hm] at hl; simp at hl
    ·rw [hm] at hl; simpa using hl
   have h2 : ∀ y ∈ m.reverse,isd b y = true:=fun y hy=>h y (by simp at hy ⊢; exact .inl hy)
   have ih':=ih (by rw [hm]; simp) h2 (.inr (by rw [hm]; simpa using hc))
   have hp : 1 ≤ val b m.reverse := by
    rw [hm]; rw [hm] at h2
    exact val_pos hb h2 hc
   rw [← hm]
   generalize val b m.reverse = v at *
   have hvb : 1 * b ≤ v * b:=Nat.mul_le_mul_right b hp
   rw [dig_ge hb (by omega)]
   have e1 : (v * b + (x.toNat - 48)) / b = v := by
    rw [Nat.mul_comm,Nat.mul_add_div (by omega),Nat.div_eq_of_lt hx'.2,Nat.add_zero]
   have e2 : (v * b + (x.toNat - 48)) % b = x.toNat - 48 := by
    rw [Nat.mul_comm,Nat.mul_add_mod,Nat.mod_eq_of_lt hx'.2]
   rw [e1,e2,ih',dgt_of hb2 hx]
theorem dig_head {b : Nat} (hb : 2 ≤ b) (hb2 : b ≤ 10) (n : Nat) (h : b ≤ n) : (dig b n).head? ≠ some 48 := by
 induction n using Nat.strongRecOn with
 | ind n ih =>
  rw [dig_ge hb h]
  by_cases h2 : n / b < b
  ·rw [dig_lt h2]
   have h3 : 1 ≤ n / b:=by rw [Nat.le_div_iff_mul_le (by omega)]; omega
   simp only [List.singleton_append,List.head?_cons,ne_eq,Option.some.injEq]
   intro e
   have:=congrArg UInt8.toNat e
   rw [dgt_nat (by omega)] at this
   simp at this; omega
  ·have := ih (n / b) (Nat.div_lt_self (by omega) (by omega)) (by omega)
   cases hd : dig b (n / b) with
   | nil=>exact absurd hd (dig_ne _ _)
   | cons c r=>rw [hd] at this; simpa using this
theorem dig_lead {b : Nat} (hb : 2 ≤ b) (hb2 : b ≤ 10) (n : Nat) : lead (dig b n) := by
 by_cases h : n < b
 ·left; rw [dig_lt h]; rfl
 ·right; exact dig_head hb hb2 n (by omega)
abbrev sp (n : Nat) : List UInt8:=List.replicate n 32
def fmt (b : Nat) (w : Nat) (n : Int) : Option (List UInt8) :=
 if n < 0 ∨ w < (dig b n.toNat).length then none else some (dig b n.toNat ++ sp (w - (dig b n.toNat).length))
theorem fmt_len {b w : Nat} {n : Int} {l : List UInt8} (h : fmt b w n = some l) : l.length = w := by
 unfold fmt at h
 split at h
 ·simp at h
 ·injection h with h; subst h; simp; omega
def pf (b : Nat) (l : List UInt8) : Option Nat :=
 if l.takeWhile (isd b) ≠ [] ∧ (l.dropWhile (isd b)).all (· == 32) = true ∧ lead (l.takeWhile (isd b)) then some (val b (l.takeWhile (isd b))) else none
theorem takeWhile_app {p : UInt8 → Bool} {a r : List UInt8} (ha : ∀ x ∈ a, p x = true) (hr : r = [] ∨ ∃ c s, r = c :: s ∧ p c = false) : (a ++ r).takeWhile p = a ∧ (a ++ r).dropWhile p = r := by
 induction a with
 | nil =>
  rcases hr with rfl|⟨c,s,rfl,h⟩
  ·simp
  ·simp [List.takeWhile_cons,List.dropWhile_cons,h]
 | cons x a ih =>
  obtain ⟨h1,h2⟩:=ih fun y hy=>ha y (by simp [hy])
  have hx:=ha x (by simp)
  simp [List.takeWhile_cons,List.dropWhile_cons,hx,h1,h2]
theorem isd_sp {b : Nat} (hb : b ≤ 10) : isd b 32 = false := by
 cases h : isd b 32 with
 | false=>rfl
 | true=>rw [isd_iff] at h; simp at h
theorem sp_head {b : Nat} (hb : b ≤ 10) (n : Nat) : sp n = [] ∨ ∃ c s, sp n = c :: s ∧ isd b c = false := by
 cases n with
 | zero=>exact .inl rfl
 | succ n=>exact .inr ⟨32,sp n,rfl,isd_sp hb⟩
theorem all_sp {l : List UInt8} : l.all (· == 32) = true ↔ l = sp l.length := by
 rw [List.all_eq_true]
 constructor
 ·intro h
  exact List.eq_replicate_iff.2 ⟨rfl,fun x hx=>by simpa using h x hx⟩
 ·intro h x hx
  rw [h] at hx
  simpa using (List.mem_replicate.1 hx).2
theorem pf_dig {b : Nat} (hb : 2 ≤ b) (hb2 : b ≤ 10) (n k : Nat) : pf b (dig b n ++ sp k) = some n := by
 obtain ⟨h1,h2⟩:=takeWhile_app (dig_isd hb hb2 n) (sp_head hb2 k)
 unfold pf
 rw [h1,h2,if_pos ⟨dig_ne _ _,all_sp.2 (by simp),dig_lead hb hb2 n⟩,val_dig hb hb2]
theorem pf_fmt {b w : Nat} {n : Int} {l : List UInt8} (hb : 2 ≤ b) (hb2 : b ≤ 10) (h : fmt b w n = some l) : pf b l = some n.toNat := by
 unfold fmt at h
 split at h
 ·simp at h
 ·injection h with h; subst h
  exact pf_dig hb hb2 _ _
theorem pf_some {b : Nat} {l : List UInt8} {n : Nat} (hb : 2 ≤ b) (hb2 : b ≤ 10) (h : pf b l = some n) : fmt b l.length n = some l := by
 unfold pf at h
 split at h
 case isFalse=>simp at h
 rename_i hc
 obtain ⟨h1,h2,h3⟩:=hc
 injection h with h
 have hd : dig b n = l.takeWhile (isd b) := by
  rw [← h]
  exact dig_val hb hb2 _ h1 (fun x hx => by
   have : x ∈ l.takeWhile (isd b):=hx
   exact (List.all_eq_true.1 (List.all_takeWhile (p:=isd b) (l:=l))) x hx) h3
 have hl : l = l.takeWhile (isd b) ++ l.dropWhile (isd b):=(List.takeWhile_append_dropWhile).symm
 have hll : l.length = (l.takeWhile (isd b)).length + (l.dropWhile (isd b)).length:=by rw [← List.length_append,← hl]
 rw [all_sp] at h2
 unfold fmt
 rw [if_neg (by simp only [Int.toNat_natCast,hd]; omega)]
 simp only [Int.toNat_natCast,hd]
 congr 1
 rw [show l.length - (l.takeWhile (isd b)).length = (l.dropWhile (isd b)).length by omega,← h2]
 exact hl.symm
def bad2 (c : UInt8) : Bool:=decide (c = 10) || decide (c = 0)
def bad3 (c : UInt8) : Bool:=decide (c = 47) || (decide (c = 10) || decide (c = 0))
def fitN (l : Str) : Bool:=decide (1 ≤ l.length ∧ l.length ≤ 16 ∧ l.getLast? ≠ some 32) && !l.any bad2
def validN (l : Str) : Bool:=decide (1 ≤ l.length ∧ l.length ≤ 255) && !l.any bad3
theorem step_any {p : UInt8 → Bool} {l : List UInt8} {k : Nat} {x : UInt8} (hx : l[k]? = some x) (hp : p x = false) (h : (l.take k).any p = false) : (l.take (k + 1)).any p = false := by
 rw [List.take_add_one,hx]; simp [List.any_append,h,hp]
theorem any_at {p : UInt8 → Bool} {l : List UInt8} {k : Nat} {x : UInt8} (hx : l[k]? = some x) (hp : p x = true) : l.any p = true:=List.any_eq_true.2 ⟨x,List.mem_of_getElem? hx,hp⟩
theorem byte_eq {x c : UInt8} (h : ((x.toNat : Int) == (c.toNat : Int)) = true) : x = c:=UInt8.toNat_inj.1 (by have:=eq_of_beq h; omega)
theorem byte_ne {x c : UInt8} (h : ((x.toNat : Int) == (c.toNat : Int)) = false) : ¬ x = c:=fun e=>by subst e; simp at h
structure Hdr where
 name : Str
 date : Int
 uid : Int
 gid : Int
 mode : Int
 size : Int
deriving DecidableEq
abbrev Hdr.enc (h : Hdr) : List D:=[sD h.name,vI h.date,vI h.uid,vI h.gid,vI h.mode,vI h.size]
def fmtR (b w : Nat) (n : Int) : List UInt8 × Int:=match fmt b w n with|some l=>(l,0)|none=>([],9)
def fieldR (n : Int) (b w : Nat) (bl : Bool) : List UInt8 × Bool:=if bl = true then (sp w,decide (n = 0)) else ((fmtR b w n).1,decide ((fmtR b w n).2 = 0))
def encR (h : Hdr) : List UInt8 × Int :=
 if fitN h.name = true then
  if ((fieldR h.date 10 12 (decide (h.name = [47, 47]))).2 && ((fieldR h.uid 10 6 (decide (h.name = [47, 47]))).2 && ((fieldR h.gid 10 6 (decide (h.name = [47, 47]))).2 && ((fieldR h.mode 8 8 (decide (h.name = [47, 47]))).2 && (fieldR h.size 10 10 false).2)))) = true then
   (h.name ++ sp (16 - h.name.length) ++ (fieldR h.date 10 12 (decide (h.name = [47,47]))).1 ++ (fieldR h.uid 10 6 (decide (h.name = [47,47]))).1 ++ (fieldR h.gid 10 6 (decide (h.name = [47,47]))).1 ++ (fieldR h.mode 8 8 (decide (h.name = [47,47]))).1 ++ (fieldR h.size 10 10 false).1 ++ [96,10],0)
  else ([],9)
 else ([],6)
end Go.AL.Hd

namespace Go.AL.Ap
open Go Go.AL
abbrev Ent:=Str × Int
abbrev Ent.enc (e : Ent) : List D:=[sD e.1,vI e.2]
def fits (e : Ent) : Bool:=decide (e.1 ≠ []) && (decide ((0 : UInt8) ∉ e.1) && (decide (0 ≤ e.2) && decide (e.2 ≤ 4294967295)))
theorem fits_iff {e : Ent} : fits e = true ↔ e.1 ≠ [] ∧ (0 : UInt8) ∉ e.1 ∧ 0 ≤ e.2 ∧ e.2 ≤ 4294967295:=by simp [fits]
def W4 (n : Nat) : List UInt8:=[UInt8.ofNat (n / 16777216),UInt8.ofNat (n / 65536),UInt8.ofNat (n / 256),UInt8.ofNat n]
def num (b : List UInt8) : Nat:=(((b.getD 0 0).toNat * 256 + (b.getD 1 0).toNat) * 256 + (b.getD 2 0).toNat) * 256 + (b.getD 3 0).toNat
theorem num_lt (b : List UInt8) : num b < 4294967296 := by
 unfold num
 have h0:=(b.getD 0 0).toNat_lt
 have h1:=(b.getD 1 0).toNat_lt
 have h2:=(b.getD 2 0).toNat_lt
 have h3:=(b.getD 3 0).toNat_lt
 omega
theorem W4_num : ∀ {b : List UInt8}, 4 ≤ b.length → W4 (num b) = b.take 4
 | a :: b :: c :: d :: r,_=>by
  have h0:=a.toNat_lt
  have h1:=b.toNat_lt
  have h2:=c.toNat_lt
  have h3:=d.toNat_lt
  simp only [W4,num,List.getD_cons_zero,List.getD_cons_succ,List.take_succ_cons,List.take_zero,List.cons.injEq,and_true]
  refine ⟨?_,?_,?_,?_⟩ <;> (apply UInt8.toNat_inj.1; simp only [UInt8.toNat_ofNat']; omega)
theorem W4_len (n : Nat) : (W4 n).length = 4:=rfl
def offs (l : List Ent) : List UInt8:=l.flatMap fun e=>W4 e.2.toNat
def nams (l : List Ent) : List UInt8:=l.flatMap fun e=>e.1 ++ [0]
def encB (l : List Ent) : List UInt8:=W4 l.length ++ offs l ++ nams l
def isz (x : UInt8) : Bool:=x != 0
def next (r : List UInt8) : Option (Str × List UInt8) :=
 if r.takeWhile isz = [] ∨ r.dropWhile isz = [] then none else some (r.takeWhile isz,(r.dropWhile isz).tail)
theorem isz_of {s : Str} (h : (0 : UInt8) ∉ s) : ∀ x ∈ s, isz x = true := fun x hx => by
 simp only [isz,bne_iff_ne]; intro e; subst e; exact h hx
theorem dw_app {s : Str} (h : ∀ x ∈ s, isz x = true) (r : List UInt8) : (s ++ r).dropWhile isz = r.dropWhile isz := by
 rw [List.dropWhile_append_of_pos h]
theorem next_some {r r' : List UInt8} {s : Str} (h : next r = some (s, r')) : r = s ++ 0 :: r' ∧ s ≠ [] ∧ (0 : UInt8) ∉ s := by
 unfold next at h
 split at h
 ·simp at h
 ·rename_i hn
  simp only [not_or] at hn
  simp only [Option.some.injEq,Prod.mk.injEq] at h
  obtain ⟨e1,e2⟩:=h
  subst e1
  refine ⟨?_,hn.1,fun h=>?_⟩
  ·have e := (List.takeWhile_append_dropWhile (p := isz) (l := r)).symm
   cases hd : r.dropWhile isz with
   | nil=>exact absurd hd hn.2
   | cons x t =>
    rw [hd] at e e2
    have hx : x = 0 := by
     have:=List.head?_dropWhile_not isz r
     rw [hd] at this
     simpa [isz] using this
    subst hx
    simp only [List.tail_cons] at e2
    subst e2
    exact e
  ·have := List.all_takeWhile (p := isz) (l := r)
   have:=List.all_eq_true.1 this 0 h
   simp [isz] at this
theorem ib_spec : ∀ r : List UInt8, Lib.indexByte r 0 = if r.dropWhile isz = [] then -1 else ((r.takeWhile isz).length : Int)
 | []=>rfl
 | x :: r => by
  have ih:=ib_spec r
  simp only [Lib.indexByte]
  by_cases hx : x = 0
  ·subst hx; simp [isz]
  ·have h1 : isz x = true := by simp [isz, hx]
   have h2 : (x == 0) = false:=by simp [hx]
   rw [h2,ih]
   simp only [List.dropWhile_cons,List.takeWhile_cons,h1,if_true,Bool.false_eq_true,if_false]
   split
   ·rfl
   ·rename_i hne
    have : (((r.takeWhile isz).length : Int) == -1) = false:=by simp
    rw [this]; simp
theorem take_tw (r : List UInt8) : r.take (r.takeWhile isz).length = r.takeWhile isz:=(List.prefix_iff_eq_take.1 (List.takeWhile_prefix isz)).symm
theorem drop_tw (r : List UInt8) : r.drop ((r.takeWhile isz).length + 1) = (r.dropWhile isz).tail := by
 have e:=List.takeWhile_append_dropWhile (p:=isz) (l:=r)
 have h : ∀ a b : List UInt8, (a ++ b).drop (a.length + 1) = b.tail := fun a b => by
  rw [← List.drop_drop,List.drop_left,List.drop_one]
 have:=h (r.takeWhile isz) (r.dropWhile isz)
 rwa [e] at this

def decL (t : List UInt8) : Nat → Nat → List UInt8 → Option (List Ent)
 | _,0,r=>if r = [] then some [] else none
 | i,k + 1,r=>match next r with
  | none=>none
  | some (s,r')=>(decL t (i + 1) k r').map fun q=>(s,(num (t.drop (4 * i)) : Int)) :: q
def dec (b : List UInt8) : Option (List Ent) :=
 if b.length < 4 then none else if (b.length - 4) / 4 < num b then none else decL (b.drop 4) 0 (num b) ((b.drop 4).drop (4 * num b))

theorem decL_some (t : List UInt8) : ∀ (k i : Nat) (r : List UInt8) (q : List Ent), decL t i k r = some q →
  r = nams q ∧ q.length = k ∧ q.all fits = true ∧ ∀ j e,q[j]? = some e → e.2 = (num (t.drop (4 * (i + j))) : Int)
 | 0, i, r, q, h => by
  simp only [decL] at h
  split at h
  ·rename_i hr
   simp at h; subst h; subst hr
   exact ⟨rfl,rfl,rfl,fun j e he=>by simp at he⟩
  ·simp at h
 | k + 1, i, r, q, h => by
  simp only [decL] at h
  split at h
  ·simp at h
  ·rename_i s r' hn
   simp only [Option.map_eq_some_iff] at h
   obtain ⟨q',hq',rfl⟩:=h
   obtain ⟨h1,h2,h3,h4⟩:=decL_some t k (i + 1) r' q' hq'
   obtain ⟨n1,n2,n3⟩:=next_some hn
   refine ⟨?_,by simp [h2],?_,fun j e he=>?_⟩
   ·rw [n1,h1]; simp [nams]
   ·simp only [List.all_cons, h3, Bool.and_true]
    refine fits_iff.2 ⟨n2,n3,by simp,?_⟩
    have:=num_lt (t.drop (4 * i))
    simp; omega
   ·cases j with
    | zero=>simp at he; subst he; simp
    | succ j =>
     rw [h4 j e (by simpa using he)]
     congr 3; omega

theorem take_offs (t : List UInt8) : ∀ (q : List Ent) (i : Nat), 4 * (i + q.length) ≤ t.length → (∀ j e, q[j]? = some e → e.2 = (num (t.drop (4 * (i + j))) : Int)) → offs q = (t.drop (4 * i)).take (4 * q.length)
 | [],i,_,_=>by simp [offs]
 | e :: q, i, hl, ho => by
  have ih := take_offs t q (i + 1) (by simp at hl; omega) (fun j e' he => by
   rw [ho (j + 1) e' (by simpa using he)]; congr 3; omega)
  have e0:=ho 0 e (by simp)
  simp only [Nat.add_zero] at e0
  have : offs (e :: q) = W4 e.2.toNat ++ offs q:=by simp [offs]
  rw [this,ih,e0,Int.toNat_natCast,W4_num (by simp at hl ⊢; omega)]
  have e1 : 4 * (e :: q).length = 4 + 4 * q.length:=by simp; omega
  have e2 : 4 * (i + 1) = 4 * i + 4:=by omega
  rw [e1,e2,← List.drop_drop,List.take_add]
theorem enc_dec {b : List UInt8} {q : List Ent} (h : dec b = some q) : encB q = b ∧ q.all fits = true ∧ 4 * q.length + 4 ≤ b.length := by
 unfold dec at h
 split at h
 ·simp at h
 ·rename_i h4
  split at h
  ·simp at h
  ·rename_i hn
   obtain ⟨h1,h2,h3,h5⟩:=decL_some _ _ _ _ _ h
   have hlen : 4 * (0 + q.length) ≤ (b.drop 4).length:=by simp; omega
   refine ⟨?_,h3,by simp at hlen; omega⟩
   have ho:=take_offs (b.drop 4) q 0 hlen h5
   simp only [Nat.mul_zero,List.drop_zero] at ho
   unfold encB
   rw [← h1,ho,h2,W4_num (by omega)]
   rw [List.append_assoc,List.take_append_drop,List.take_append_drop]
end Go.AL.Ap

namespace Go.AL.Hd
open Go Go.AL
theorem val_lt {b : Nat} (hb : 2 ≤ b) : ∀ (l : List UInt8), (∀ x ∈ l, isd b x = true) → val b l < b ^ l.length := by
 intro l
 rw [← List.reverse_reverse l]
 generalize l.reverse = m
 induction m with
 | nil=>intro _; simp [val]
 | cons x m ih =>
  intro h
  rw [List.reverse_cons] at h ⊢
  have hx:=isd_iff.1 (h x (by simp))
  have h1:=ih (fun y hy=>h y (by simp at hy ⊢; exact .inl hy))
  rw [val_snoc,List.length_append,List.length_singleton,Nat.pow_succ]
  have : (val b m.reverse + 1) * b ≤ b ^ m.reverse.length * b:=Nat.mul_le_mul_right b h1
  rw [Nat.add_mul] at this; omega
theorem pow_le {b k : Nat} (hb2 : b ≤ 10) (hk : k ≤ 18) : b ^ k ≤ 1000000000000000000 := by
 have h1 : b ^ k ≤ 10 ^ k:=Nat.pow_le_pow_left hb2 k
 have h2 : 10 ^ k ≤ 10 ^ 18:=Nat.pow_le_pow_right (by omega) hk
 have h3 : (10 : Nat) ^ 18 = 1000000000000000000:=by decide
 omega
theorem val_take_succ {b : Nat} {l : List UInt8} {k : Nat} {x : UInt8} (hx : l[k]? = some x) : val b (l.take (k + 1)) = val b (l.take k) * b + (x.toNat - 48) := by
 rw [List.take_add_one,hx]; exact val_snoc _ _ _
def opR : Option Nat → Nat × Int
 | some n=>(n,0)
 | none=>(0,3)
def parseR (b : Nat) (l : List UInt8) : Nat × Int :=
 if l.length < 1 ∨ 18 < l.length then (0,13) else opR (pf b l)
theorem tw_take {b : Nat} {l : List UInt8} {k : Nat} (hk : k ≤ l.length) (h : (l.take k).all (isd b) = true) (hn : ∀ c, l[k]? = some c → isd b c = false) : l.takeWhile (isd b) = l.take k ∧ l.dropWhile (isd b) = l.drop k := by
 have := takeWhile_app (p := isd b) (a := l.take k) (r := l.drop k) (List.all_eq_true.1 h) (by
  cases hd : l.drop k with
  | nil=>exact .inl rfl
  | cons c s =>
   refine .inr ⟨c,s,rfl,hn c ?_⟩
   have : (l.drop k)[0]? = some c:=by rw [hd]; rfl
   rwa [List.getElem?_drop,Nat.add_zero] at this)
 rwa [List.take_append_drop] at this
theorem pf_at {b : Nat} {l : List UInt8} {k : Nat} (hk : k ≤ l.length) (h : (l.take k).all (isd b) = true) (hn : ∀ c, l[k]? = some c → isd b c = false) :
  pf b l = if 0 < k ∧ (l.drop k).all (· == 32) = true ∧ (k = 1 ∨ l.head? ≠ some 48) then some (val b (l.take k)) else none:=by
 obtain ⟨h1,h2⟩:=tw_take hk h hn
 unfold pf
 rw [h1,h2]
 have e1 : l.take k ≠ [] ↔ 0 < k := by
  rw [ne_eq,← List.length_eq_zero_iff,List.length_take]; omega
 by_cases h0 : 0 < k
 ·have e2 : lead (l.take k) ↔ (k = 1 ∨ l.head? ≠ some 48) := by
   unfold lead
   rw [List.length_take,Nat.min_eq_left hk]
   have : (l.take k).head? = l.head? := by
    cases l with
    | nil=>simp
    | cons c l=>cases k with|zero=>omega|succ k=>simp
   rw [this]
  simp only [e1,e2]
 ·rw [if_neg (fun h=>h0 (e1.1 h.1)),if_neg (fun h=>h0 h.1)]
theorem pf_none {b : Nat} {l : List UInt8} {k : Nat} {c : UInt8} (hc : l[k]? = some c) (h : (l.take k).all (isd b) = true) (hn : isd b c = false) (hs : c ≠ 32) : pf b l = none := by
 have hk:=(List.getElem?_eq_some_iff.1 hc).1
 rw [pf_at (Nat.le_of_lt hk) h (fun d hd=>by rw [hc] at hd; injection hd with hd; subst hd; exact hn)]
 have : (l.drop k).all (· == 32) = false := by
  rw [List.all_eq_false]
  refine ⟨c,?_,by simp [hs]⟩
  have : (l.drop k)[0]? = some c:=by rw [List.getElem?_drop,Nat.add_zero]; exact hc
  exact List.mem_of_getElem? this
 simp [this]
theorem pf_iff_fmt {b : Nat} {l : List UInt8} {n : Nat} (hb : 2 ≤ b) (hb2 : b ≤ 10) : pf b l = some n ↔ fmt b l.length n = some l :=
 ⟨pf_some hb hb2,fun h=>by have:=pf_fmt hb hb2 h; simpa using this⟩
theorem sub8 {x : UInt8} (h : 48 ≤ x.toNat) : intBin .sub .u8 (x.toNat : Int) 48 = some ((x.toNat - 48 : Nat) : Int) := by
 have e : (x.toNat : Int) - 48 = ((x.toNat - 48 : Nat) : Int):=by omega
 have hx:=x.toNat_lt
 simp only [intBin,e]
 rw [wrapU8,UInt8.toNat_ofNat',Nat.mod_eq_of_lt (by omega)]
def numR (b : Nat) (l : List UInt8) (bl : Bool) : Nat × Bool :=
 if bl = true then (0,decide (l = sp l.length)) else ((parseR b l).1,decide ((parseR b l).2 = 0))
def trimR (l : Str) : Str:=(l.reverse.dropWhile (· == 32)).reverse
theorem trimR_snoc (l : Str) (c : UInt8) : trimR (l ++ [c]) = if c = 32 then trimR l else l ++ [c] := by
 unfold trimR
 rw [List.reverse_append]
 simp only [List.reverse_cons,List.reverse_nil,List.nil_append,List.singleton_append,List.dropWhile_cons]
 by_cases h : c = 32
 ·simp [h]
 ·simp [h]
theorem trimR_sp (l : Str) : ∀ k, trimR (l ++ sp k) = trimR l
 | 0=>by simp
 | k + 1=>by rw [sp,List.replicate_succ',← List.append_assoc,trimR_snoc,if_pos rfl]; exact trimR_sp l k
theorem trimR_self {l : Str} (h : l.getLast? ≠ some 32) : trimR l = l := by
 rcases List.eq_nil_or_concat l with rfl|⟨m,c,rfl⟩
 ·rfl
 ·rw [List.concat_eq_append] at h ⊢
  rw [trimR_snoc,if_neg (by simpa using h)]
theorem trimR_at {l : Str} {n : Nat} (hn : n ≤ l.length) (h : (l.drop n).all (· == 32) = true) (h0 : n = 0 ∨ l[n - 1]? ≠ some 32) : trimR l = l.take n := by
 have e : l = l.take n ++ sp (l.drop n).length:=by rw [← all_sp.1 h,List.take_append_drop]
 have e2 : trimR l = trimR (l.take n) := by
  conv=>lhs; rw [e]
  exact trimR_sp _ _
 rw [e2]
 apply trimR_self
 rcases h0 with rfl|h0
 ·simp
 ·rcases Nat.eq_zero_or_pos n with rfl | hp
  ·simp
  ·rw [List.getLast?_eq_getElem?,List.length_take,Nat.min_eq_left hn,List.getElem?_take,if_pos (by omega)]; exact h0
abbrev prt (l : Str) (a b : Nat) : Str:=(l.take b).drop a
theorem prt_len {l : Str} {a b : Nat} (hab : a ≤ b) (hb : b ≤ l.length) : (prt l a b).length = b - a:=by simp [prt]; omega
abbrev hdr0 : Hdr:=⟨[],0,0,0,0,0⟩
def decR (l : Str) : Hdr × Int :=
 if l.length < 60 then (hdr0,2)
 else if l[58]? = some 96 ∧ l[59]? = some 10 then
  if fitN (trimR (l.take 16)) = true then
   (if (numR 10 (prt l 16 28) (decide (trimR (l.take 16) = [47, 47]))).2 && ((numR 10 (prt l 28 34) (decide (trimR (l.take 16) = [47, 47]))).2 && ((numR 10 (prt l 34 40) (decide (trimR (l.take 16) = [47, 47]))).2 &&
     ((numR 8 (prt l 40 48) (decide (trimR (l.take 16) = [47,47]))).2 && (numR 10 (prt l 48 58) false).2))) then
    (⟨trimR (l.take 16), (numR 10 (prt l 16 28) (decide (trimR (l.take 16) = [47, 47]))).1, (numR 10 (prt l 28 34) (decide (trimR (l.take 16) = [47, 47]))).1, (numR 10 (prt l 34 40) (decide (trimR (l.take 16) = [47, 47]))).1,
     (numR 8 (prt l 40 48) (decide (trimR (l.take 16) = [47,47]))).1,(numR 10 (prt l 48 58) false).1⟩,0)
   else (hdr0,3))
  else (hdr0,6)
 else (hdr0,4)
end Go.AL.Hd

namespace Go.AL.U8
open Go Go.AL
theorem get_sB (l : List UInt8) (i : Nat) : (⟨l.toArray⟩ : ByteArray).get! i = l.getD i 0 := by
  simp [ByteArray.get!,List.getD,getElem!_def]
  cases l[i]? <;> rfl
theorem size_sB (l : List UInt8) : (⟨l.toArray⟩ : ByteArray).size = l.length:=by simp [ByteArray.size]
theorem dec_ascii {l : List UInt8} {i : Nat} {x : UInt8} (hx : l[i]? = some x) (h : x.toNat < 128) : Utf8.decode ⟨l.toArray⟩ i = (x.toNat, 1) := by
  have e : (⟨l.toArray⟩ : ByteArray).get! (i + 0) = x:=by rw [get_sB]; simp [List.getD,hx]
  simp only [Utf8.decode,e]
  rw [if_pos h]
def cont (l : List UInt8) (i k : Nat) : Prop:=i + k < l.length ∧ 128 ≤ (l.getD (i + k) 0).toNat
theorem cont_of {l : List UInt8} {i k : Nat} (h : decide (i + k < (⟨l.toArray⟩ : ByteArray).size) = true ∧ (((⟨l.toArray⟩ : ByteArray).get! (i + k)).toNat / 64 == 2) = true) : cont l i k := by
  rw [size_sB,get_sB] at h
  simp only [decide_eq_true_eq,beq_iff_eq] at h
  exact ⟨h.1,by omega⟩
theorem dec_more {l : List UInt8} {i : Nat} {x : UInt8} (hx : l[i]? = some x) (h : 128 ≤ x.toNat) :
    128 ≤ (Utf8.decode ⟨l.toArray⟩ i).1 ∧ Utf8.valid ((Utf8.decode ⟨l.toArray⟩ i).1 : Nat) = true ∧ 1 ≤ (Utf8.decode ⟨l.toArray⟩ i).2 ∧ ∀ k,k < (Utf8.decode ⟨l.toArray⟩ i).2 → cont l i k:=by
  have hil:=(List.getElem?_eq_some_iff.1 hx).1
  have e : (⟨l.toArray⟩ : ByteArray).get! (i + 0) = x:=by rw [get_sB]; simp [List.getD,hx]
  have c0 : cont l i 0 := ⟨hil, by have : l.getD (i + 0) 0 = x := by simp [List.getD, hx]
                                   rw [this]; exact h⟩
  have key : ∀ p : Nat × Nat, Utf8.decode ⟨l.toArray⟩ i = p → 128 ≤ p.1 ∧ Utf8.valid (p.1 : Nat) = true ∧ 1 ≤ p.2 ∧ ∀ k, k < p.2 → cont l i k := by
    intro p hp
    have err : p = (65533, 1) → 128 ≤ p.1 ∧ Utf8.valid (p.1 : Nat) = true ∧ 1 ≤ p.2 ∧ ∀ k, k < p.2 → cont l i k := by
      rintro rfl
      exact ⟨by decide, by decide, by decide, fun k hk => by obtain rfl : k = 0 := by simp at hk; omega
                                                             exact c0⟩
    simp only [Utf8.decode,e,Utf8.runeError] at hp
    rw [if_neg (by omega)] at hp
    split at hp
    · rename_i h1
      simp only [Bool.and_eq_true] at h1
      split at hp
      · rename_i h2
        subst hp
        have hb : 2 ≤ (x.toNat % 32) := by
          have:=Nat.mod_lt ((⟨l.toArray⟩ : ByteArray).get! (i + 1)).toNat (show 0 < 64 by omega)
          simp only [ge_iff_le] at h2
          omega
        refine ⟨h2,?_,Nat.le_of_ble_eq_true rfl,fun k hk=>?_⟩
        · have := Nat.mod_lt ((⟨l.toArray⟩ : ByteArray).get! (i + 1)).toNat (show 0 < 64 by omega)
          have h5:=Nat.mod_lt x.toNat (show 0 < 32 by omega)
          simp only [Utf8.valid,Bool.or_eq_true,Bool.and_eq_true,decide_eq_true_eq]
          left; omega
        · match k, hk with
          | 0,_=>exact c0
          | 1,_=>exact cont_of h1.2
          | k + 2,hk=>exact absurd (show k + 2 < 2 from hk) (by omega)
      · exact err hp.symm
    · split at hp
      · rename_i h1
        simp only [Bool.and_eq_true] at h1
        split at hp
        · rename_i h2
          simp only [Bool.and_eq_true,decide_eq_true_eq,ge_iff_le] at h2
          subst hp
          refine ⟨by show 128 ≤ _; have:=h2.1; omega,h2.2,Nat.le_of_ble_eq_true rfl,fun k hk=>?_⟩
          match k,hk with
          | 0,_=>exact c0
          | 1,_=>exact cont_of h1.1.2
          | 2,_=>exact cont_of h1.2
          | k + 3,hk=>exact absurd (show k + 3 < 3 from hk) (by omega)
        · exact err hp.symm
      · split at hp
        · rename_i h1
          simp only [Bool.and_eq_true] at h1
          split at hp
          · rename_i h2
            simp only [Bool.and_eq_true,decide_eq_true_eq,ge_iff_le] at h2
            subst hp
            refine ⟨by show 128 ≤ _; have:=h2.1; omega,h2.2,Nat.le_of_ble_eq_true rfl,fun k hk=>?_⟩
            match k,hk with
            | 0,_=>exact c0
            | 1,_=>exact cont_of h1.1.1.2
            | 2,_=>exact cont_of h1.1.2
            | 3,_=>exact cont_of h1.2
            | k + 4,hk=>exact absurd (show k + 4 < 4 from hk) (by omega)
          · exact err hp.symm
        · exact err hp.symm
  exact key _ rfl
theorem ofN {n : Nat} (h : 128 ≤ n) (h2 : n < 256) : 128 ≤ (UInt8.ofNat n).toNat:=by rw [UInt8.toNat_ofNat',Nat.mod_eq_of_lt h2]; exact h
theorem enc_more {r : Nat} (h : 128 ≤ r) (hv : Utf8.valid (r : Int) = true) : ∃ m : List UInt8, Utf8.encode (r : Int) = ⟨m.toArray⟩ ∧ 2 ≤ m.length ∧ m.length ≤ 4 ∧ ∀ x ∈ m, 128 ≤ x.toNat := by
  have hr : r ≤ 1114111 := by
    simp only [Utf8.valid,Bool.or_eq_true,Bool.and_eq_true,decide_eq_true_eq] at hv
    omega
  have hc : ∀ y : Nat,128 ≤ (UInt8.ofNat (128 + y % 64)).toNat:=fun y=>ofN (by omega) (by have:=Nat.mod_lt y (show 0 < 64 by omega); omega)
  simp only [Utf8.encode,hv,if_true,Int.toNat_natCast]
  rw [if_neg (by omega)]
  split
  · exact ⟨_, rfl, Nat.le_of_ble_eq_true rfl, Nat.le_of_ble_eq_true rfl, fun x hx => by
      simp only [List.mem_cons,List.not_mem_nil,or_false] at hx
      rcases hx with rfl|rfl
      · exact ofN (by omega) (by omega)
      · exact hc _⟩
  · split
    · exact ⟨_, rfl, Nat.le_of_ble_eq_true rfl, Nat.le_of_ble_eq_true rfl, fun x hx => by
        simp only [List.mem_cons,List.not_mem_nil,or_false] at hx
        rcases hx with rfl|rfl|rfl
        · exact ofN (by omega) (by omega)
        · exact hc _
        · exact hc _⟩
    · exact ⟨_, rfl, Nat.le_of_ble_eq_true rfl, Nat.le_of_ble_eq_true rfl, fun x hx => by
        simp only [List.mem_cons,List.not_mem_nil,or_false] at hx
        rcases hx with rfl|rfl|rfl|rfl
        · exact ofN (by omega) (by omega)
        · exact hc _
        · exact hc _
        · exact hc _⟩
theorem ibyte_none {l : List UInt8} {c : UInt8} (h : ∀ x ∈ l, x ≠ c) : Lib.indexByte l c = -1 := by
  induction l with
  | nil=>rfl
  | cons b l ih =>
    have h1 : (b == c) = false:=beq_eq_false_iff_ne.2 (h b (by simp))
    simp [Lib.indexByte,h1,ih fun x hx=>h x (by simp [hx])]
theorem ibyte_some {l : List UInt8} {c : UInt8} (h : c ∈ l) : 0 ≤ Lib.indexByte l c := by
  induction l with
  | nil=>simp at h
  | cons b l ih =>
    by_cases h1 : (b == c) = true
    · simp [Lib.indexByte,h1]
    · have h2 : c ∈ l := by
        rcases List.mem_cons.1 h with rfl|h
        · simp at h1
        · exact h
      have:=ih h2
      simp only [Lib.indexByte,h1,Bool.false_eq_true,if_false]
      split
      · rename_i h3; have:=eq_of_beq h3; omega
      · omega
end Go.AL.U8

namespace Go.AL.Ln
open Go Go.AL Go.AL.Hd

def cut2 : Str → Option (Str × Str)
 | []=>none
 | x :: r=>if x = 47 ∧ r.head? = some 10 then some ([],r.tail) else (cut2 r).map fun p=>(x :: p.1,p.2)

theorem cut2_some : ∀ {l a b : Str}, cut2 l = some (a, b) → l = a ++ 47 :: 10 :: b
 | [],a,b,h=>by simp [cut2] at h
 | x :: r, a, b, h => by
  unfold cut2 at h
  split at h
  ·rename_i hx
   simp at h
   obtain ⟨rfl,rfl⟩:=h
   obtain ⟨rfl,h2⟩:=hx
   cases r with
   | nil=>simp at h2
   | cons y r=>simp at h2; subst h2; rfl
  ·cases hc : cut2 r with
   | none=>rw [hc] at h; simp at h
   | some p =>
    obtain ⟨a',b'⟩:=p
    rw [hc] at h
    simp at h
    obtain ⟨rfl,rfl⟩:=h
    have:=cut2_some hc
    rw [this]; rfl
theorem cut2_len {l a b : Str} (h : cut2 l = some (a, b)) : b.length < l.length := by
 have:=congrArg List.length (cut2_some h)
 simp at this; omega
theorem cut2_of : ∀ {a : Str} (b : Str), (∀ x ∈ a, x ≠ 47) → cut2 (a ++ 47 :: 10 :: b) = some (a, b)
 | [],b,_=>by simp [cut2]
 | x :: a,b,h=>by
  have hx : x ≠ 47:=h x (by simp)
  simp only [List.cons_append,cut2]
  rw [if_neg (fun e=>hx e.1),cut2_of b (fun y hy=>h y (by simp [hy]))]
  rfl
theorem index_cut2 : ∀ l : Str, Lib.index l [47, 10] = match cut2 l with | none => -1 | some (a, _) => (a.length : Int)
 | []=>rfl
 | x :: r => by
  have ih:=index_cut2 r
  unfold Lib.index cut2
  have hp : ([47, 10] : Str).isPrefixOf (x :: r) = decide (x = 47 ∧ r.head? = some 10) := by
   cases r with
   | nil=>simp [List.isPrefixOf]
   | cons y r =>
    simp only [List.isPrefixOf,List.head?_cons,Option.some.injEq,Bool.and_true]
    rw [Bool.eq_iff_iff]
    simp
    constructor <;> intro ⟨a,b⟩ <;> exact ⟨a.symm,b.symm⟩
  rw [hp]
  by_cases hx : x = 47 ∧ r.head? = some 10
  ·simp [hx]
  ·rw [if_neg (by simpa using hx), if_neg hx, ih]
   cases hc : cut2 r with
   | none=>rfl
   | some p =>
    have : ((p.1.length : Int) == -1) = false:=by simp
    simp [this]

def cutI (l : Str) : Int:=match cut2 l with|none=>-1|some (a,_)=>(a.length : Int)
theorem index_cutI (l : Str) : Lib.index l [47, 10] = cutI l := by
 rw [index_cut2]; unfold cutI; split <;> rfl
def tabP (ns : List Str) : Str:=ns.flatMap fun n=>n ++ [47,10]
theorem tabP_nil : tabP [] = []:=rfl
theorem tabP_cons (n : Str) (ns : List Str) : tabP (n :: ns) = n ++ 47 :: 10 :: tabP ns:=by simp [tabP]
theorem tabP_app (a b : List Str) : tabP (a ++ b) = tabP a ++ tabP b:=by simp [tabP]
theorem valid_not {n : Str} (h : validN n = true) : (∀ x ∈ n, x ≠ 47 ∧ x ≠ 10 ∧ x ≠ 0) ∧ 1 ≤ n.length ∧ n.length ≤ 255 := by
 unfold validN at h
 simp only [Bool.and_eq_true,decide_eq_true_eq,Bool.not_eq_true',List.any_eq_false] at h
 refine ⟨fun x hx=>?_,h.1⟩
 have:=h.2 x hx
 simpa [bad3] using this
theorem valid_47 {n : Str} (h : validN n = true) : ∀ x ∈ n,x ≠ 47:=fun x hx=>((valid_not h).1 x hx).1
theorem not_valid {n : Str} {x : UInt8} (hx : x ∈ n) (hb : x = 47 ∨ x = 10 ∨ x = 0) : validN n = false := by
 cases h : validN n with
 | false=>rfl
 | true =>
  have:=(valid_not h).1 x hx
  rcases hb with e|e|e <;> simp [e] at this

def entO (t : Str) : Option (List Str) :=
 match h : cut2 t with
 | none=>if t = [] then some [] else none
 | some (a,b)=>if validN a = true then (entO b).map (a :: ·) else none
termination_by t.length
decreasing_by exact cut2_len h
theorem entO_none {t : Str} (h : cut2 t = none) : entO t = if t = [] then some [] else none := by
 unfold entO
 split
 ·rfl
 ·rename_i h2; rw [h] at h2; cases h2
theorem entO_some {t a b : Str} (h : cut2 t = some (a, b)) : entO t = if validN a = true then (entO b).map (a :: ·) else none := by
 rw [entO]
 split
 ·rename_i h2; rw [h] at h2; cases h2
 ·rename_i h2
  rw [h] at h2
  cases h2
  rfl
theorem ent_of : ∀ (ns : List Str), (∀ n ∈ ns, validN n = true) → entO (tabP ns) = some ns
 | [],_=>by rw [entO_none rfl]; rfl
 | n :: ns,h=>by
  have h1:=h n (by simp)
  rw [tabP_cons,entO_some (cut2_of _ (valid_47 h1)),if_pos h1,ent_of ns fun m hm=>h m (by simp [hm])]
  rfl
theorem ent_to : ∀ (k : Nat) {t : Str} {ns : List Str}, t.length ≤ k → entO t = some ns → t = tabP ns ∧ ∀ n ∈ ns, validN n = true
 | k, t, ns, hk, h => by
  cases hc : cut2 t with
  | none =>
   rw [entO_none hc] at h
   split at h
   ·rename_i e; simp at h; subst h; exact ⟨e,fun n hn=>by simp at hn⟩
   ·simp at h
  | some p =>
   obtain ⟨a,b⟩:=p
   rw [entO_some hc] at h
   split at h
   ·rename_i hv
    cases he : entO b with
    | none=>rw [he] at h; simp at h
    | some ms =>
     rw [he] at h
     simp at h; subst h
     have hl:=cut2_len hc
     match k,hk with
     | k + 1,hk =>
      obtain ⟨h1,h2⟩:=ent_to k (by omega) he
      refine ⟨by rw [cut2_some hc,tabP_cons,← h1],fun n hn=>?_⟩
      rcases List.mem_cons.1 hn with e|e
      ·rw [e]; exact hv
      ·exact h2 n e
     | 0,hk=>omega
   ·simp at h
theorem ent_iff {t : Str} {ns : List Str} : entO t = some ns ↔ t = tabP ns ∧ ∀ n ∈ ns, validN n = true :=
 ⟨ent_to _ (Nat.le_refl _),fun ⟨h1,h2⟩=>by rw [h1]; exact ent_of ns h2⟩
def entR (t : Str) : List Str × Int:=match entO t with|some ns=>(ns,0)|none=>([],7)

def linesP (at' : Nat) (t : Str) : List (Nat × Str) :=
 match h : cut2 t with
 | none=>if t = [] then [] else [(at',t ++ [47])]
 | some (a,b)=>(at',a) :: linesP (at' + a.length + 2) b
termination_by t.length
decreasing_by exact cut2_len h
theorem linesP_none {k : Nat} {t : Str} (h : cut2 t = none) : linesP k t = if t = [] then [] else [(k, t ++ [47])] := by
 rw [linesP]
 split
 ·rfl
 ·rename_i h2; rw [h] at h2; cases h2
theorem linesP_some {k : Nat} {t a b : Str} (h : cut2 t = some (a, b)) : linesP k t = (k, a) :: linesP (k + a.length + 2) b := by
 rw [linesP]
 split
 ·rename_i h2; rw [h] at h2; cases h2
 ·rename_i h2
  rw [h] at h2
  cases h2
  rfl
theorem ent_lines : ∀ (k : Nat) {t : Str} (i : Nat), t.length ≤ k → entO t = if (linesP i t).all (fun p => validN p.2) = true then some ((linesP i t).map (·.2)) else none
 | k, t, i, hk => by
  cases hc : cut2 t with
  | none =>
   rw [entO_none hc,linesP_none hc]
   split
   ·rfl
   ·have : validN (t ++ [47]) = false := not_valid (x := 47) (by simp) (.inl rfl)
    simp [this]
  | some p =>
   obtain ⟨a,b⟩:=p
   rw [entO_some hc,linesP_some hc]
   have hl:=cut2_len hc
   match k,hk with
   | 0,hk=>omega
   | k + 1, hk =>
    rw [ent_lines k (i + a.length + 2) (by omega)]
    cases hv : validN a with
    | false=>simp [hv]
    | true =>
     simp only [if_true,List.all_cons,hv,Bool.true_and,List.map_cons]
     split <;> rfl
theorem lines_len : ∀ (n k : Nat) {t : Str}, t.length ≤ n → (linesP k t).length ≤ t.length ∧ ∀ x ∈ linesP k t, x.2.length ≤ t.length + 1 ∧ x.1 ≤ k + t.length
 | n, k, t, hn => by
  cases hc : cut2 t with
  | none =>
   rw [linesP_none hc]
   split
   ·simp
   ·rename_i h
    have : 0 < t.length:=List.length_pos_iff.2 h
    refine ⟨by simp; omega,fun x hx=>?_⟩
    simp at hx
    subst hx
    exact ⟨by simp,by simp⟩
  | some p =>
   obtain ⟨a,b⟩:=p
   rw [linesP_some hc]
   have h1:=congrArg List.length (cut2_some hc)
   simp at h1
   match n,hn with
   | 0,hn=>omega
   | n + 1, hn =>
    obtain ⟨h2,h3⟩:=lines_len n (k + a.length + 2) (t:=b) (by omega)
    refine ⟨by simp; omega,fun x hx=>?_⟩
    rcases List.mem_cons.1 hx with e|e
    ·subst e; exact ⟨by simp; omega,by simp⟩
    ·obtain ⟨h4, h5⟩ := h3 x e
     exact ⟨by omega,by omega⟩
def offs (k : Nat) : List Str → List (Nat × Str)
 | []=>[]
 | n :: ns=>(k,n) :: offs (k + n.length + 2) ns
theorem lines_of : ∀ (ns : List Str) (k : Nat), (∀ n ∈ ns, validN n = true) → linesP k (tabP ns) = offs k ns
 | [],k,_=>by rw [tabP_nil,linesP_none rfl]; rfl
 | n :: ns,k,h=>by
  have h1:=h n (by simp)
  rw [tabP_cons,linesP_some (cut2_of _ (valid_47 h1)),lines_of ns _ fun m hm=>h m (by simp [hm])]
  rfl
def shortN (n : Str) : Bool:=validN n && (decide (n.length ≤ 15) && decide (n.getLast? ≠ some 32))
theorem tabP_len {l : List Str} {c : Nat} (h : ∀ n ∈ l, n.length ≤ c) : (tabP l).length ≤ l.length * (c + 2) := by
 induction l with
 | nil=>simp [tabP]
 | cons n l ih =>
  rw [tabP_cons]
  have:=h n (by simp)
  have:=ih fun m hm=>h m (by simp [hm])
  simp only [List.length_append,List.length_cons]
  rw [Nat.add_mul]
  omega
def resP (fl t : Str) : Str × Int :=
 if fl.getLast? = some 47 ∧ shortN fl.dropLast = true then (fl.dropLast,0)
 else match fl with
  | 47 :: ds => if ds.length ≤ 15 ∧ ds.contains 32 = false ∧ (parseR 10 ds).2 = 0 then
    (match (linesP 0 t).find? (fun p=>decide (p.1 = (parseR 10 ds).1)) with|some p=>(p.2,0)|none=>([],6)) else ([],6)
  | _=>([],6)
theorem parse10_to {ds : Str} (hs : ds.contains 32 = false) (h : (parseR 10 ds).2 = 0) : ds = dig 10 (parseR 10 ds).1 := by
 unfold parseR at h ⊢
 split at h
 ·simp at h
 ·rename_i hl
  rw [if_neg hl]
  cases hp : pf 10 ds with
  | none=>rw [hp] at h; simp [opR] at h
  | some n =>
   have hf:=pf_some (by omega) (by omega) hp
   show ds = dig 10 n
   unfold fmt at hf
   split at hf
   ·simp at hf
   ·injection hf with hf
    simp only [Int.toNat_natCast] at hf
    cases hk : ds.length - (dig 10 n).length with
    | zero=>rw [hk] at hf; simpa using hf.symm
    | succ k =>
     rw [hk] at hf
     have : (32 : UInt8) ∈ ds:=by rw [← hf]; simp [sp,List.replicate_succ]
     rw [List.contains_iff_mem.2 this] at hs
     simp at hs
theorem parse10_of {n : Nat} (hl : (dig 10 n).length ≤ 18) : parseR 10 (dig 10 n) = (n, 0) := by
 unfold parseR
 have:=dig_pos 10 n
 rw [if_neg (by omega)]
 have h:=pf_dig (b:=10) (by omega) (by omega) n 0
 rw [show dig 10 n ++ sp 0 = dig 10 n by simp [sp]] at h
 rw [h]; rfl
theorem dig_no32 (n : Nat) : (dig 10 n).contains 32 = false := by
 cases h : (dig 10 n).contains 32 with
 | false=>rfl
 | true =>
  have:=dig_isd (b:=10) (by omega) (by omega) n 32 (by simpa using h)
  rw [isd_sp (by omega)] at this; simp at this
theorem dig_inj {m n : Nat} (h : dig 10 m = dig 10 n) : m = n := by
 have:=congrArg (val 10) h
 rwa [val_dig (by omega) (by omega),val_dig (by omega) (by omega)] at this
end Go.AL.Ln

namespace Go.AL.Ln
open Go Go.AL Go.AL.Hd
theorem app_47 : ∀ {a b r s : Str}, (∀ x ∈ a, x ≠ 47) → (∀ x ∈ b, x ≠ 47) → a ++ 47 :: r = b ++ 47 :: s → a = b ∧ r = s
 | [],[],r,s,_,_,h=>by simpa using h
 | [],y :: b,r,s,_,hb,h=>by
  simp at h
  exact absurd h.1.symm (hb y (by simp))
 | x :: a,[],r,s,ha,_,h=>by
  simp at h
  exact absurd h.1 (ha x (by simp))
 | x :: a,y :: b,r,s,ha,hb,h=>by
  simp only [List.cons_append,List.cons.injEq] at h
  obtain ⟨e1,e2⟩:=app_47 (fun z hz=>ha z (by simp [hz])) (fun z hz=>hb z (by simp [hz])) h.2
  exact ⟨by rw [h.1,e1],e2⟩
theorem tab_pre : ∀ {out ns : List Str} {rest : Str}, (∀ n ∈ out, validN n = true) → (∀ n ∈ ns, validN n = true) → tabP ns = tabP out ++ rest → ∃ ns', ns = out ++ ns' ∧ rest = tabP ns'
 | [],ns,rest,_,_,h=>⟨ns,rfl,by simpa [tabP_nil] using h.symm⟩
 | m :: out,[],rest,ho,_,h=>by
  rw [tabP_nil,tabP_cons] at h
  simp at h
 | m :: out,n :: ns,rest,ho,hn,h=>by
  rw [tabP_cons,tabP_cons,List.append_assoc] at h
  obtain ⟨e1,e2⟩:=app_47 (valid_47 (hn n (by simp))) (valid_47 (ho m (by simp))) h
  simp at e2
  obtain ⟨ns',e3,e4⟩:=tab_pre (fun x hx=>ho x (by simp [hx])) (fun x hx=>hn x (by simp [hx])) e2
  exact ⟨ns',by rw [e1,e3]; rfl,e4⟩
theorem first_nl {n r : Str} (h : ∀ x ∈ n, x ≠ 10) {j : Nat} (hj : (n ++ 47 :: 10 :: r)[j]? = some 10) (hb : ∀ q, q < j → (n ++ 47 :: 10 :: r)[q]? ≠ some 10) : j = n.length + 1 := by
 have e1 : (n ++ 47 :: 10 :: r)[n.length + 1]? = some 10 := by
  rw [List.getElem?_append_right (by omega)]
  simp
 rcases Nat.lt_trichotomy j (n.length + 1) with hlt|he|hgt
 ·exfalso
  rcases Nat.lt_or_ge j n.length with h1|h1
  ·rw [List.getElem?_append_left h1] at hj
   exact h 10 (List.mem_of_getElem? hj) rfl
  ·have : j = n.length := by omega
   subst this
   rw [List.getElem?_append_right (by omega)] at hj
   simp at hj
 ·exact he
 ·exact absurd e1 (hb _ hgt)
structure RdT (t : Str) (out : List Str) (fr i : Nat) : Prop where
 le : fr ≤ i
 li : i ≤ t.length
 pre : t.take fr = tabP out
 val : ∀ n ∈ out,validN n = true
 no : ∀ q,fr ≤ q → q < i → t[q]? ≠ some 10
theorem RdT.drop {t out fr i} (h : RdT t out fr i) : t = tabP out ++ t.drop fr:=by rw [← h.pre,List.take_append_drop]
theorem RdT.fail {t : Str} {out : List Str} {fr i : Nat} (h : RdT t out fr i) (h10 : t[i]? = some 10) {ns : List Str} (he : entO t = some ns) :
  fr < i ∧ t[i - 1]? = some 47 ∧ validN (prt t fr (i - 1)) = true:=by
 obtain ⟨h1,h2⟩:=ent_iff.1 he
 have hd:=h.drop
 obtain ⟨ns',e1,e2⟩:=tab_pre (rest:=t.drop fr) h.val h2 (by rw [← h1]; exact hd)
 cases ns' with
 | nil =>
  rw [tabP_nil] at e2
  have : t.length ≤ fr:=by have:=congrArg List.length e2; simp at this; omega
  have:=(List.getElem?_eq_some_iff.1 h10).1
  have:=h.le
  omega
 | cons n r =>
  rw [tabP_cons] at e2
  have hv : validN n = true:=h2 n (by rw [e1]; simp)
  have hg : ∀ q,(t.drop fr)[q]? = t[fr + q]?:=fun q=>List.getElem?_drop
  have hle:=h.le
  have hj := first_nl (n := n) (r := tabP r) (fun x hx => ((valid_not hv).1 x hx).2.1) (j := i - fr) (by rw [← e2, hg, show fr + (i - fr) = i by omega]; exact h10)
   (fun q hq=>by rw [← e2,hg]; exact h.no _ (by omega) (by omega))
  refine ⟨by omega,?_,?_⟩
  ·have : (t.drop fr)[n.length]? = some 47 := by rw [e2]; simp
   rw [hg] at this
   rw [show i - 1 = fr + n.length by omega]; exact this
  ·have : prt t fr (i - 1) = n := by
    unfold prt
    rw [List.drop_take,e2,show i - 1 - fr = n.length by omega]
    simp
   rw [this]; exact hv
theorem RdT.step {t : Str} {out : List Str} {fr i : Nat} (h : RdT t out fr i) (h10 : t[i]? = some 10) (h1 : fr < i) (h47 : t[i - 1]? = some 47) (hv : validN (prt t fr (i - 1)) = true) :
  RdT t (out ++ [prt t fr (i - 1)]) (i + 1) (i + 1):=by
 have hlt:=(List.getElem?_eq_some_iff.1 h10).1
 refine ⟨Nat.le_refl _,hlt,?_,fun n hn=>?_,fun q h1 h2=>by omega⟩
 ·rw [tabP_app, tabP_cons, tabP_nil]
  rw [show t.take (i + 1) = t.take fr ++ prt t fr (i - 1) ++ [47, 10] by
   have e1 : t.take (i + 1) = t.take i ++ [10]:=by rw [List.take_add_one,h10]; rfl
   have e2 : t.take i = t.take (i - 1) ++ [47] := by
    have : t.take (i - 1 + 1) = t.take (i - 1) ++ [47]:=by rw [List.take_add_one,h47]; rfl
    rwa [show i - 1 + 1 = i by omega] at this
   have e3 : t.take (i - 1) = t.take fr ++ prt t fr (i - 1) := by
    unfold prt
    have:=List.take_append_drop fr (t.take (i - 1))
    rw [List.take_take,show min fr (i - 1) = fr by omega] at this
    exact this.symm
   rw [e1,e2,e3]; simp,h.pre]
  simp
 ·rcases List.mem_append.1 hn with h | h'
  ·exact ‹RdT t out fr i›.val n h
  ·simp at h'; rw [h']; exact hv
theorem RdT.skip {t : Str} {out : List Str} {fr i : Nat} (h : RdT t out fr i) (hlt : i < t.length) (h10 : t[i]? ≠ some 10) : RdT t out fr (i + 1) :=
 ⟨by have := h.le; omega, hlt, h.pre, h.val, fun q h1 h2 => by
  rcases Nat.lt_or_ge q i with h3|h3
  ·exact h.no q h1 h3
  ·have : q = i := by omega
   subst this; exact h10⟩
theorem RdT.done {t : Str} {out : List Str} {fr : Nat} (h : RdT t out fr t.length) : (fr = t.length → entO t = some out) ∧ (fr ≠ t.length → entO t = none) := by
 refine ⟨fun e=>?_,fun e=>?_⟩
 ·have := h.pre
  rw [e,List.take_length] at this
  exact ent_iff.2 ⟨this,h.val⟩
 ·cases he : entO t with
  | none=>rfl
  | some ns =>
   obtain ⟨h1,h2⟩:=ent_iff.1 he
   obtain ⟨ns',e1,e2⟩:=tab_pre (rest:=t.drop fr) h.val h2 (by rw [← h1]; exact h.drop)
   cases ns' with
   | nil =>
    rw [tabP_nil] at e2
    have:=congrArg List.length e2
    simp at this
    have:=h.le
    omega
   | cons n r =>
    rw [tabP_cons] at e2
    have hl:=congrArg List.length e2
    simp at hl
    have h3 : (t.drop fr)[n.length + 1]? = some 10:=by rw [e2,List.getElem?_append_right (by omega)]; simp
    rw [List.getElem?_drop] at h3
    exact absurd h3 (h.no _ (by omega) (by omega))

def resR (fl t : Str) : Str × Int :=
 if fl = [] then ([],6) else
 if fl.getLast? = some 47 ∧ shortN fl.dropLast = true then (fl.dropLast,0)
 else match (offs 0 (entR t).1).find? (fun p=>decide (fl = 47 :: dig 10 p.1) && decide ((dig 10 p.1).length ≤ 15)) with|some p=>(p.2,0)|none=>([],6)
theorem res_eq (fl : Str) {t : Str} (he : (entR t).2 = 0) : resP fl t = resR fl t := by
 have hl : linesP 0 t = offs 0 (entR t).1 := by
  unfold entR at he ⊢
  cases h : entO t with
  | none=>rw [h] at he; simp at he
  | some ns =>
   obtain ⟨h1,h2⟩:=ent_iff.1 h
   simp only []
   rw [h1,lines_of ns 0 h2]
 unfold resP resR
 cases fl with
 | nil=>rfl
 | cons c ds =>
  rw [if_neg (by simp : ¬ (c :: ds : Str) = [])]
  split
  ·rfl
  ·by_cases hc : c = 47
   ·subst hc
    simp only [hl]
    by_cases hd : ds.length ≤ 15 ∧ ds.contains 32 = false ∧ (parseR 10 ds).2 = 0
    ·rw [if_pos hd]
     have hdd:=parse10_to hd.2.1 hd.2.2
     have : (fun p : Nat × Str => decide (p.1 = (parseR 10 ds).1)) = fun p => decide ((47 :: ds : Str) = 47 :: dig 10 p.1) && decide ((dig 10 p.1).length ≤ 15) := by
      funext p
      rw [Bool.eq_iff_iff]
      simp only [decide_eq_true_eq,Bool.and_eq_true,List.cons.injEq,true_and]
      constructor
      ·intro e; rw [e,← hdd]; exact ⟨rfl,hd.1⟩
      ·intro e
       exact (dig_inj (by rw [← hdd]; exact e.1)).symm
     rw [this]
     try rfl
    ·rw [if_neg hd]
     have : (offs 0 (entR t).1).find? (fun p => decide ((47 :: ds : Str) = 47 :: dig 10 p.1) && decide ((dig 10 p.1).length ≤ 15)) = none := by
      rw [List.find?_eq_none]
      intro p _
      simp only [Bool.and_eq_true,decide_eq_true_eq,List.cons.injEq,true_and]
      rintro ⟨e,h15⟩
      exact hd ⟨by rw [e]; exact h15,by rw [e]; exact dig_no32 _,by rw [e,parse10_of (by omega)]⟩
     rw [this]
   ·have h1 : ∀ (x : Str × Int) (f : Str → Str × Int), (match (c :: ds : Str) with | 47 :: ds => f ds | _ => x) = x := by
     intro x f
     split
     ·rename_i h; simp at h; exact absurd h.1 hc
     ·rfl
    have h2 : (offs 0 (entR t).1).find? (fun p => decide ((c :: ds : Str) = 47 :: dig 10 p.1) && decide ((dig 10 p.1).length ≤ 15)) = none := by
     rw [List.find?_eq_none]
     intro p _
     simp [hc]
    rw [h2]
    split
    ·rename_i h; simp at h; exact absurd h.1 hc
    ·rfl
theorem offs_get : ∀ (ns : List Str) (k i : Nat) {n : Str}, ns[i]? = some n → (offs k ns)[i]? = some (k + (tabP (ns.take i)).length, n)
 | [],k,i,n,h=>by simp at h
 | m :: ns,k,0,n,h=>by simp at h; subst h; simp [offs,tabP]
 | m :: ns,k,i + 1,n,h=>by
  simp only [offs,List.getElem?_cons_succ,List.take_succ_cons]
  rw [offs_get ns _ i (by simpa using h),tabP_cons]
  simp only [List.length_append,List.length_cons,Option.some.injEq,Prod.mk.injEq,and_true]
  omega
theorem offs_len : ∀ (ns : List Str) (k : Nat), (offs k ns).length = ns.length
 | [],k=>rfl
 | n :: ns,k=>by simp [offs,offs_len ns]
end Go.AL.Ln

namespace Go.AL.Ln
open Go Go.AL Go.AL.Hd
theorem short_not {n : Str} (h : shortN n = true) : validN n = true ∧ n.length ≤ 15 := by
 simp only [shortN,Bool.and_eq_true,decide_eq_true_eq] at h
 exact ⟨h.1,h.2.1⟩
end Go.AL.Ln

namespace Go.AL.Hd
open Go Go.AL
theorem parseR_fmt {b w : Nat} {n : Int} {f : Str} (hb : 2 ≤ b) (hb2 : b ≤ 10) (hw : 1 ≤ w) (hw2 : w ≤ 18) (h : fmt b w n = some f) : parseR b f = (n.toNat, 0) ∧ 0 ≤ n := by
 have hl:=fmt_len h
 refine ⟨?_,?_⟩
 ·unfold parseR
  rw [if_neg (by omega),pf_fmt hb hb2 h]; rfl
 ·unfold fmt at h
  split at h
  ·simp at h
  ·omega
theorem numR_fieldR {b w : Nat} {n : Int} {bl : Bool} (hb : 2 ≤ b) (hb2 : b ≤ 10) (hw : 1 ≤ w) (hw2 : w ≤ 18) (h : (fieldR n b w bl).2 = true) :
  (fieldR n b w bl).1.length = w ∧ numR b (fieldR n b w bl).1 bl = (n.toNat,true) ∧ 0 ≤ n:=by
 cases bl with
 | true =>
  simp only [fieldR,if_true,decide_eq_true_eq] at h
  subst h
  simp [fieldR,numR]
 | false =>
  simp only [fieldR,Bool.false_eq_true,if_false] at h ⊢
  cases hf : fmt b w n with
  | none=>simp [fmtR,hf] at h
  | some f =>
   obtain ⟨h1,h2⟩:=parseR_fmt hb hb2 hw hw2 hf
   simp only [fmtR,hf,numR,Bool.false_eq_true,if_false,h1]
   exact ⟨fmt_len hf,rfl,h2⟩
theorem fieldR_numR {b : Nat} {l : Str} {bl : Bool} (hb : 2 ≤ b) (hb2 : b ≤ 10) (hw : 1 ≤ l.length) (hw2 : l.length ≤ 18) (h : (numR b l bl).2 = true) : fieldR (numR b l bl).1 b l.length bl = (l, true) := by
 cases bl with
 | true =>
  simp only [numR,if_true,decide_eq_true_eq] at h
  simp only [numR,fieldR,if_true]
  rw [← h]; rfl
 | false =>
  simp only [numR,Bool.false_eq_true,if_false,decide_eq_true_eq] at h
  simp only [numR,fieldR,Bool.false_eq_true,if_false]
  have e : parseR b l = opR (pf b l):=by unfold parseR; rw [if_neg (by omega)]
  rw [e] at h ⊢
  cases hp : pf b l with
  | none=>rw [hp] at h; simp [opR] at h
  | some n =>
   have:=pf_some hb hb2 hp
   simp only [opR,fmtR,this]; rfl
theorem prt_mid {A f R : Str} {a e : Nat} (ha : A.length = a) (he : a + f.length = e) : prt (A ++ (f ++ R)) a e = f := by
 subst ha; subst he
 rw [prt,← List.append_assoc,List.take_left' (by simp),List.drop_left' rfl]
theorem fit_last {nm : Str} (h : fitN nm = true) : nm.getLast? ≠ some 32 ∧ 1 ≤ nm.length ∧ nm.length ≤ 16 := by
 simp only [fitN,Bool.and_eq_true,decide_eq_true_eq] at h
 exact ⟨h.1.2.2,h.1.1,h.1.2.1⟩
theorem enc_dec (h : Hdr) (rest : Str) (he : (encR h).2 = 0) : (encR h).1.length = 60 ∧ decR ((encR h).1 ++ rest) = (h, 0) := by
 obtain ⟨nm,dt,ui,gi,mo,si⟩:=h
 unfold encR at he ⊢
 split at he
 case isFalse=>simp at he
 rename_i hf
 rw [if_pos hf]
 split at he
 case isFalse=>simp at he
 rename_i hq
 rw [if_pos hq]
 simp only [Bool.and_eq_true] at hq
 obtain ⟨q1,q2,q3,q4,q5⟩:=hq
 simp only at q1 q2 q3 q4 q5 hf ⊢
 obtain ⟨l1,n1,z1⟩:=numR_fieldR (by omega) (by omega) (by omega) (by omega) q1
 obtain ⟨l2,n2,z2⟩:=numR_fieldR (by omega) (by omega) (by omega) (by omega) q2
 obtain ⟨l3,n3,z3⟩:=numR_fieldR (by omega) (by omega) (by omega) (by omega) q3
 obtain ⟨l4,n4,z4⟩:=numR_fieldR (by omega) (by omega) (by omega) (by omega) q4
 obtain ⟨l5,n5,z5⟩:=numR_fieldR (by omega) (by omega) (by omega) (by omega) q5
 revert l1 n1 l2 n2 l3 n3 l4 n4 l5 n5
 generalize (fieldR dt 10 12 (decide (nm = [47,47]))).1 = f1
 generalize (fieldR ui 10 6 (decide (nm = [47,47]))).1 = f2
 generalize (fieldR gi 10 6 (decide (nm = [47,47]))).1 = f3
 generalize (fieldR mo 8 8 (decide (nm = [47,47]))).1 = f4
 generalize (fieldR si 10 10 false).1 = f5
 intro l1 n1 l2 n2 l3 n3 l4 n4 l5 n5
 obtain ⟨g1,g2,g3⟩:=fit_last hf
 have hA : (nm ++ sp (16 - nm.length)).length = 16:=by simp; omega
 refine ⟨by simp [l1,l2,l3,l4,l5]; omega,?_⟩
 obtain ⟨L,hL⟩ : ∃ L,L = nm ++ sp (16 - nm.length) ++ f1 ++ f2 ++ f3 ++ f4 ++ f5 ++ [96,10] ++ rest:=⟨_,rfl⟩
 have hlen : 60 ≤ L.length:=by rw [hL]; simp [l1,l2,l3,l4,l5]; omega
 have t16 : L.take 16 = nm ++ sp (16 - nm.length) := by
  rw [hL]; simp only [List.append_assoc]; rw [← List.append_assoc nm]
  exact List.take_left' hA
 have tn : trimR (L.take 16) = nm:=by rw [t16,trimR_sp]; exact trimR_self g1
 have p1 : prt L 16 28 = f1 := by
  rw [hL,show nm ++ sp (16 - nm.length) ++ f1 ++ f2 ++ f3 ++ f4 ++ f5 ++ [96,10] ++ rest = (nm ++ sp (16 - nm.length)) ++ (f1 ++ (f2 ++ f3 ++ f4 ++ f5 ++ [96,10] ++ rest)) by simp]
  exact prt_mid hA (by omega)
 have p2 : prt L 28 34 = f2 := by
  rw [hL,show nm ++ sp (16 - nm.length) ++ f1 ++ f2 ++ f3 ++ f4 ++ f5 ++ [96,10] ++ rest = (nm ++ sp (16 - nm.length) ++ f1) ++ (f2 ++ (f3 ++ f4 ++ f5 ++ [96,10] ++ rest)) by simp]
  exact prt_mid (by rw [List.length_append,hA,l1]) (by omega)
 have p3 : prt L 34 40 = f3 := by
  rw [hL,show nm ++ sp (16 - nm.length) ++ f1 ++ f2 ++ f3 ++ f4 ++ f5 ++ [96,10] ++ rest = (nm ++ sp (16 - nm.length) ++ f1 ++ f2) ++ (f3 ++ (f4 ++ f5 ++ [96,10] ++ rest)) by simp]
  exact prt_mid (by rw [List.length_append,List.length_append,hA,l1,l2]) (by omega)
 have p4 : prt L 40 48 = f4 := by
  rw [hL,show nm ++ sp (16 - nm.length) ++ f1 ++ f2 ++ f3 ++ f4 ++ f5 ++ [96,10] ++ rest = (nm ++ sp (16 - nm.length) ++ f1 ++ f2 ++ f3) ++ (f4 ++ (f5 ++ [96,10] ++ rest)) by simp]
  exact prt_mid (by rw [List.length_append,List.length_append,List.length_append,hA,l1,l2,l3]) (by omega)
 have p5 : prt L 48 58 = f5 := by
  rw [hL,show nm ++ sp (16 - nm.length) ++ f1 ++ f2 ++ f3 ++ f4 ++ f5 ++ [96,10] ++ rest = (nm ++ sp (16 - nm.length) ++ f1 ++ f2 ++ f3 ++ f4) ++ (f5 ++ ([96,10] ++ rest)) by simp]
  exact prt_mid (by rw [List.length_append,List.length_append,List.length_append,List.length_append,hA,l1,l2,l3,l4]) (by omega)
 have h58 : (nm ++ sp (16 - nm.length) ++ f1 ++ f2 ++ f3 ++ f4 ++ f5).length = 58:=by simp [l1,l2,l3,l4,l5]; omega
 have e58 : L[58]? = some 96 := by
  rw [hL,List.append_assoc,List.getElem?_append_right (by omega),h58]; rfl
 have e59 : L[59]? = some 10 := by
  rw [hL,List.append_assoc,List.getElem?_append_right (by omega),h58]; rfl
 rw [← hL]
 unfold decR
 rw [if_neg (by omega),if_pos ⟨e58,e59⟩,tn,if_pos hf,p1,p2,p3,p4,p5,n1,n2,n3,n4,n5]
 simp only [Bool.and_self,if_true]
 rw [Int.toNat_of_nonneg z1,Int.toNat_of_nonneg z2,Int.toNat_of_nonneg z3,Int.toNat_of_nonneg z4,Int.toNat_of_nonneg z5]
theorem trim_pad {l : Str} (hl : l.length = 16) : trimR l ++ sp (16 - (trimR l).length) = l := by
 have e : ∀ l : Str, trimR l ++ sp (l.length - (trimR l).length) = l := by
  intro l
  rw [← List.reverse_reverse l]
  generalize l.reverse = m
  induction m with
  | nil=>rfl
  | cons c m ih =>
   rw [List.reverse_cons,trimR_snoc]
   split
   ·rename_i hc
    subst hc
    have hle : (trimR m.reverse).length ≤ m.reverse.length := by
     have:=congrArg List.length ih; simp only [List.length_append] at this; omega
    rw [List.length_append,List.length_singleton,show m.reverse.length + 1 - (trimR m.reverse).length = (m.reverse.length - (trimR m.reverse).length) + 1 by omega,sp,List.replicate_succ',← List.append_assoc]
    rw [sp] at ih
    rw [ih]
   ·simp
 have:=e l
 rwa [hl] at this
theorem dec_enc {l : Str} (h : (decR l).2 = 0) : 60 ≤ l.length ∧ encR (decR l).1 = (l.take 60, 0) := by
 unfold decR at h ⊢
 split at h
 case isTrue=>simp at h
 rename_i h1
 rw [if_neg h1]
 split at h
 case isFalse=>simp at h
 rename_i h2
 rw [if_pos h2]
 split at h
 case isFalse=>simp at h
 rename_i h3
 rw [if_pos h3]
 split at h
 case isFalse=>simp at h
 rename_i h4
 rw [if_pos h4]
 simp only [Bool.and_eq_true] at h4
 obtain ⟨q1,q2,q3,q4,q5⟩:=h4
 refine ⟨by omega,?_⟩
 have L1 : (prt l 16 28).length = 12:=prt_len (by omega) (by omega)
 have L2 : (prt l 28 34).length = 6:=prt_len (by omega) (by omega)
 have L3 : (prt l 34 40).length = 6:=prt_len (by omega) (by omega)
 have L4 : (prt l 40 48).length = 8:=prt_len (by omega) (by omega)
 have L5 : (prt l 48 58).length = 10:=prt_len (by omega) (by omega)
 have f1:=fieldR_numR (by omega) (by omega) (by omega) (by omega) q1
 have f2:=fieldR_numR (by omega) (by omega) (by omega) (by omega) q2
 have f3:=fieldR_numR (by omega) (by omega) (by omega) (by omega) q3
 have f4:=fieldR_numR (by omega) (by omega) (by omega) (by omega) q4
 have f5:=fieldR_numR (by omega) (by omega) (by omega) (by omega) q5
 rw [L1] at f1; rw [L2] at f2; rw [L3] at f3; rw [L4] at f4; rw [L5] at f5
 unfold encR
 simp only
 rw [if_pos h3,f1,f2,f3,f4,f5]
 simp only [Bool.and_self,if_true]
 rw [trim_pad (by rw [List.length_take]; omega)]
 have hj : ∀ (a b : Nat), a ≤ b → b ≤ l.length → l.take a ++ prt l a b = l.take b := fun a b hab hb => by
  have:=List.take_append_drop a (l.take b)
  rwa [List.take_take,Nat.min_eq_left hab] at this
 rw [hj 16 28 (by omega) (by omega),hj 28 34 (by omega) (by omega),hj 34 40 (by omega) (by omega),hj 40 48 (by omega) (by omega),hj 48 58 (by omega) (by omega)]
 have e : l.take 60 = l.take 58 ++ [96, 10] := by
  rw [show 60 = 58 + 1 + 1 from rfl,List.take_add_one,List.take_add_one,h2.1,h2.2]; simp
 rw [e]
theorem fmt_iff {b w : Nat} (hb : 2 ≤ b) (hw : 1 ≤ w) (n : Int) : (fmtR b w n).2 = 0 ↔ 0 ≤ n ∧ n < (b ^ w : Nat) := by
 obtain ⟨k,rfl⟩ : ∃ k,w = k + 1:=⟨w - 1,by omega⟩
 have hd:=dig_len hb k n.toNat
 unfold fmtR fmt
 by_cases h : n < 0 ∨ k + 1 < (dig b n.toNat).length
 ·rw [if_pos h]
  simp only
  constructor
  ·intro h; simp at h
  ·rintro ⟨h1, h2⟩
   have : n.toNat < b ^ (k + 1):=by omega
   have:=hd.2 this
   omega
 ·rw [if_neg h]
  simp only
  constructor
  ·intro _
   have : n.toNat < b ^ (k + 1):=hd.1 (by omega)
   omega
  ·intro _; trivial
theorem bounds (a b c d e : Int) : (encR ⟨[120, 47], a, b, c, d, e⟩).2 = 0 ↔
  (0 ≤ a ∧ a < 1000000000000) ∧ (0 ≤ b ∧ b < 1000000) ∧ (0 ≤ c ∧ c < 1000000) ∧ (0 ≤ d ∧ d < 16777216) ∧ (0 ≤ e ∧ e < 10000000000):=by
 have hf : fitN [120,47] = true:=by decide
 have hne : decide (([120,47] : Str) = [47,47]) = false:=by decide
 unfold encR
 simp only
 rw [if_pos hf,hne]
 have F : ∀ (n : Int) (b w : Nat),(fieldR n b w false).2 = true ↔ (fmtR b w n).2 = 0:=fun n b w=>by simp [fieldR]
 have f1:=(F a 10 12).trans (fmt_iff (b:=10) (w:=12) (by omega) (by omega) a)
 have f2:=(F b 10 6).trans (fmt_iff (b:=10) (w:=6) (by omega) (by omega) b)
 have f3:=(F c 10 6).trans (fmt_iff (b:=10) (w:=6) (by omega) (by omega) c)
 have f4:=(F d 8 8).trans (fmt_iff (b:=8) (w:=8) (by omega) (by omega) d)
 have f5:=(F e 10 10).trans (fmt_iff (b:=10) (w:=10) (by omega) (by omega) e)
 have e1 : (10 : Nat) ^ 12 = 1000000000000:=by decide
 have e2 : (10 : Nat) ^ 6 = 1000000:=by decide
 have e4 : (8 : Nat) ^ 8 = 16777216:=by decide
 have e5 : (10 : Nat) ^ 10 = 10000000000:=by decide
 rw [e1] at f1; rw [e2] at f2 f3; rw [e4] at f4; rw [e5] at f5
 constructor
 ·intro h
  split at h
  ·rename_i hq
   simp only [Bool.and_eq_true] at hq
   exact ⟨f1.1 hq.1,f2.1 hq.2.1,f3.1 hq.2.2.1,f4.1 hq.2.2.2.1,f5.1 hq.2.2.2.2⟩
  ·simp at h
 ·rintro ⟨h1, h2, h3, h4, h5⟩
  rw [if_pos (by simp only [Bool.and_eq_true]; exact ⟨f1.2 h1,f2.2 h2,f3.2 h3,f4.2 h4,f5.2 h5⟩)]
theorem fieldR_bd {b w : Nat} {n : Int} {bl : Bool} (hb : 2 ≤ b) (hb2 : b ≤ 10) (hw : 1 ≤ w) (hw2 : w ≤ 12) (h : (fieldR n b w bl).2 = true) : n ≤ 1000000000000 := by
 cases bl with
 | true =>
  simp only [fieldR,if_true,decide_eq_true_eq] at h
  omega
 | false =>
  have h1 : (fmtR b w n).2 = 0:=by simpa [fieldR] using h
  have h2:=((fmt_iff hb hw n).1 h1).2
  have h3 : b ^ w ≤ 10 ^ w:=Nat.pow_le_pow_left hb2 w
  have h4 : 10 ^ w ≤ 10 ^ 12:=Nat.pow_le_pow_right (by omega) hw2
  have h5 : (10 : Nat) ^ 12 = 1000000000000:=by decide
  omega
theorem encR_bd {h : Hdr} (he : (encR h).2 = 0) : h.name.length ≤ 16 ∧ h.date ≤ 1000000000000 ∧ h.uid ≤ 1000000000000 ∧ h.gid ≤ 1000000000000 ∧ h.mode ≤ 1000000000000 ∧ h.size ≤ 1000000000000 := by
 unfold encR at he
 split at he
 case isFalse=>simp at he
 rename_i hf
 split at he
 case isFalse=>simp at he
 rename_i hq
 simp only [Bool.and_eq_true] at hq
 obtain ⟨q1,q2,q3,q4,q5⟩:=hq
 exact ⟨(fit_last hf).2.2, fieldR_bd (by omega) (by omega) (by omega) (by omega) q1, fieldR_bd (by omega) (by omega) (by omega) (by omega) q2, fieldR_bd (by omega) (by omega) (by omega) (by omega) q3,
  fieldR_bd (by omega) (by omega) (by omega) (by omega) q4,fieldR_bd (by omega) (by omega) (by omega) (by omega) q5⟩
end Go.AL.Hd

namespace Go.AL.Bd
open Go Go.AL
structure Sym where
  name : Str
  bind : Int
  size : Int
  align : Int
structure Use where
  sym : Sym
  unit : Int
structure State where
  bind : Int
  size : Int
  align : Int
  unit : Int
  defd : Bool
  sref : Bool
  wref : Bool
  strongs : List Int
deriving DecidableEq
abbrev Sym.enc (x : Sym) : List D:=[sD x.name,vI x.bind,vI x.size,vI x.align]
def empty : State:=⟨0,0,0,-1,false,false,false,[]⟩
def strength (b : Int) : Int:=if b = 1 then 3 else if b = 3 then 2 else if b = 2 then 1 else 0
def one (x : Sym) (u : Int) : State :=
  if x.bind = 4 then { empty with sref:=true }
  else if x.bind = 5 then { empty with wref:=true }
  else ⟨x.bind,x.size,if x.bind = 3 then x.align else 0,u,!decide (x.bind = 3),false,false,if x.bind = 1 then [u] else []⟩
def join (a b : State) : State :=
  ⟨if strength b.bind > strength a.bind then b.bind else a.bind,
   if strength b.bind > strength a.bind then b.size else if a.bind = 3 ∧ b.bind = 3 then max a.size b.size else a.size,
   if strength b.bind > strength a.bind then b.align else if a.bind = 3 ∧ b.bind = 3 then max a.align b.align else a.align,
   if strength b.bind > strength a.bind then b.unit else a.unit,
   a.defd || b.defd,a.sref || b.sref,a.wref || b.wref,a.strongs ++ b.strongs⟩
def merge (s : State) (x : Sym) (u : Int) : State:=join s (one x u)
def all (l : List Use) : State:=l.foldl (fun s x=>merge s x.sym x.unit) empty
def wanted (s : State) : Bool:=s.sref && !s.defd
def okUse (x : Use) : Bool:=decide (1 ≤ x.sym.bind) && decide (x.sym.bind ≤ 5) && decide (0 ≤ x.sym.size) && decide (0 ≤ x.sym.align) && decide (0 ≤ x.unit)
def right (l : List Use) : Bool:=decide (l.length ≤ 50) && l.all okUse

def first : List Use → Int → Int
  | [],_=>-1
  | x :: l,b=>if x.sym.bind = b then 0 else (let r:=first l b; if r < 0 then -1 else r + 1)
end Go.AL.Bd



namespace Go.AL.Ob
open Go Go.AL Go.AL.Ap
structure Sym where
 name : Str
 bind : Int
 size : Int
 align : Int
deriving DecidableEq
abbrev Sym.enc (s : Sym) : List D:=[sD s.name,vI s.bind,vI s.size,vI s.align]
structure Obj where
 syms : List Sym
 body : List UInt8
deriving DecidableEq
def pows : List Int:=[1,2,4,8,16,32,64,128,256,512,1024,2048,4096,8192,16384,32768,65536]
def power (n : Int) : Bool:=decide (n ∈ pows)
theorem band {k n : Nat} (h1 : 2 ^ k < n) (h2 : n < 2 ^ (k + 1)) : n &&& (n - 1) ≠ 0 := by
 have t1 : n.testBit k = true:=Nat.testBit_of_two_pow_le_and_two_pow_add_one_gt (by omega) (by omega)
 have t2 : (n - 1).testBit k = true:=Nat.testBit_of_two_pow_le_and_two_pow_add_one_gt (by omega) (by omega)
 intro e
 have:=congrArg (fun x=>Nat.testBit x k) e
 simp [t1,t2] at this
theorem power_nat (n : Nat) : power (n : Int) = decide (n = 1 ∨ n = 2 ∨ n = 4 ∨ n = 8 ∨ n = 16 ∨ n = 32 ∨ n = 64 ∨ n = 128 ∨ n = 256 ∨ n = 512 ∨ n = 1024 ∨ n = 2048 ∨ n = 4096 ∨ n = 8192 ∨ n = 16384 ∨ n = 32768 ∨ n = 65536) := by
 unfold power
 congr 1
 simp only [pows,List.mem_cons,List.not_mem_nil,or_false,eq_iff_iff]
 omega
theorem pow_and {n : Nat} (h1 : 1 ≤ n) (h2 : n ≤ 65536) : power (n : Int) = decide ((n &&& (n - 1)) = 0) := by
 rw [power_nat]
 by_cases hp : n = 1 ∨ n = 2 ∨ n = 4 ∨ n = 8 ∨ n = 16 ∨ n = 32 ∨ n = 64 ∨ n = 128 ∨ n = 256 ∨ n = 512 ∨ n = 1024 ∨ n = 2048 ∨ n = 4096 ∨ n = 8192 ∨ n = 16384 ∨ n = 32768 ∨ n = 65536
 ·rw [decide_eq_true hp]
  rcases hp with rfl|rfl|rfl|rfl|rfl|rfl|rfl|rfl|rfl|rfl|rfl|rfl|rfl|rfl|rfl|rfl|rfl <;> rfl
 ·rw [decide_eq_false hp]
  symm
  rw [decide_eq_false_iff_not]
  simp only [not_or] at hp
  have key : ∃ k, k ≤ 15 ∧ 2 ^ k < n ∧ n < 2 ^ (k + 1) := by
   by_cases c1 : n < 4
   ·exact ⟨1,by omega,by omega,by omega⟩
   by_cases c2 : n < 8
   ·exact ⟨2,by omega,by omega,by omega⟩
   by_cases c3 : n < 16
   ·exact ⟨3,by omega,by omega,by omega⟩
   by_cases c4 : n < 32
   ·exact ⟨4,by omega,by omega,by omega⟩
   by_cases c5 : n < 64
   ·exact ⟨5,by omega,by omega,by omega⟩
   by_cases c6 : n < 128
   ·exact ⟨6,by omega,by omega,by omega⟩
   by_cases c7 : n < 256
   ·exact ⟨7,by omega,by omega,by omega⟩
   by_cases c8 : n < 512
   ·exact ⟨8,by omega,by omega,by omega⟩
   by_cases c9 : n < 1024
   ·exact ⟨9,by omega,by omega,by omega⟩
   by_cases c10 : n < 2048
   ·exact ⟨10,by omega,by omega,by omega⟩
   by_cases c11 : n < 4096
   ·exact ⟨11,by omega,by omega,by omega⟩
   by_cases c12 : n < 8192
   ·exact ⟨12,by omega,by omega,by omega⟩
   by_cases c13 : n < 16384
   ·exact ⟨13,by omega,by omega,by omega⟩
   by_cases c14 : n < 32768
   ·exact ⟨14,by omega,by omega,by omega⟩
   ·exact ⟨15,by omega,by omega,by omega⟩
  obtain ⟨k,_,hk1,hk2⟩:=key
  exact band hk1 hk2
def bindOk (s : Sym) : Bool :=
 if s.bind = 3 then power s.align else if s.bind = 4 ∨ s.bind = 5 then decide (s.size = 0) && decide (s.align = 0) else (decide (s.bind = 1) || decide (s.bind = 2)) && decide (s.align = 0)
def valid (s : Sym) : Bool:=decide (1 ≤ s.name.length) && (decide (s.name.length ≤ 255) && (decide ((0 : UInt8) ∉ s.name) && (decide (0 ≤ s.size) && (decide (s.size ≤ 4294967295) && bindOk s))))
theorem valid_iff {s : Sym} : valid s = true ↔ 1 ≤ s.name.length ∧ s.name.length ≤ 255 ∧ (0 : UInt8) ∉ s.name ∧ 0 ≤ s.size ∧ s.size ≤ 4294967295 ∧ bindOk s = true:=by simp [valid]
theorem pow_le {n : Int} (h : power n = true) : 0 ≤ n ∧ n ≤ 65536 := by
 have:=of_decide_eq_true h
 simp only [pows,List.mem_cons,List.not_mem_nil,or_false] at this
 omega
theorem bind_le {s : Sym} (h : bindOk s = true) : 1 ≤ s.bind ∧ s.bind ≤ 5 ∧ 0 ≤ s.align ∧ s.align ≤ 65536 := by
 unfold bindOk at h
 split at h
 ·have:=pow_le h; omega
 ·split at h
  ·simp at h; omega
  ·simp at h; omega
def has (l : List Sym) (n : Str) : Bool:=l.any fun s=>decide (s.name = n)
theorem has_iff {l : List Sym} {n : Str} : has l n = true ↔ ∃ s ∈ l,s.name = n:=by simp [has]
def okL : List Sym → List Sym → Bool
 | _,[]=>true
 | acc,s :: r=>valid s && !has acc s.name && okL (acc ++ [s]) r
def validO (l : List Sym) : Bool:=okL [] l && decide (l.length ≤ 65536)

def encS (s : Sym) : List UInt8:=[UInt8.ofNat s.bind.toNat] ++ W4 s.size.toNat ++ W4 s.align.toNat ++ [UInt8.ofNat s.name.length] ++ s.name
def encL (l : List Sym) : List UInt8:=l.flatMap encS
def magic : List UInt8:=[79,66,74,49]
def encO (o : Obj) : List UInt8:=magic ++ W4 o.syms.length ++ encL o.syms ++ o.body
theorem encS_len (s : Sym) : (encS s).length = 10 + s.name.length:=by simp [encS,W4]; omega

def nextS (r : List UInt8) : Option (Sym × List UInt8) :=
 if r.length < 10 + (r.getD 9 0).toNat then none
 else some (⟨(r.drop 10).take (r.getD 9 0).toNat,((r.getD 0 0).toNat : Int),(num (r.drop 1) : Int),(num (r.drop 5) : Int)⟩,r.drop (10 + (r.getD 9 0).toNat))
def decL : Nat → List UInt8 → List Sym → Except Int (List Sym × List UInt8)
 | 0,r,acc=>.ok (acc,r)
 | k + 1,r,acc=>match nextS r with
  | none=>.error 2
  | some (s,r')=>if valid s && !has acc s.name then decL k r' (acc ++ [s]) else .error 12
def decO (b : List UInt8) : Except Int (List Sym × List UInt8) :=
 if b.length < 4 then .error 2 else if b.take 4 ≠ magic then .error 1 else if b.length < 8 then .error 2
 else if 65536 < num (b.drop 4) then .error 12 else decL (num (b.drop 4)) (b.drop 8) []

theorem nextS_some {r r' : List UInt8} {s : Sym} (h : nextS r = some (s, r')) (hv : valid s = true) : r = encS s ++ r' := by
 unfold nextS at h
 split at h
 ·simp at h
 ·rename_i hl
  simp only [Option.some.injEq,Prod.mk.injEq] at h
  obtain ⟨rfl,rfl⟩:=h
  match r,hl with
  | a :: b1 :: b2 :: b3 :: b4 :: c1 :: c2 :: c3 :: c4 :: l :: t, hl =>
   simp only [List.getD_cons_zero,List.getD_cons_succ,List.drop_succ_cons,List.drop_zero,List.length_cons] at hl ⊢
   have hlen : (t.take l.toNat).length = l.toNat:=by simp; omega
   have e1:=W4_num (b:=b1 :: b2 :: b3 :: b4 :: c1 :: c2 :: c3 :: c4 :: l :: t) (by simp)
   have e2:=W4_num (b:=c1 :: c2 :: c3 :: c4 :: l :: t) (by simp)
   simp only [encS,Int.toNat_natCast,e1,e2,hlen]
   have ha : UInt8.ofNat a.toNat = a:=by simp
   have hll : UInt8.ofNat l.toNat = l:=by simp
   rw [ha,hll]
   have e3 : (a :: b1 :: b2 :: b3 :: b4 :: c1 :: c2 :: c3 :: c4 :: l :: t).drop (10 + l.toNat) = t.drop l.toNat := by
    rw [← List.drop_drop]; rfl
   rw [e3]
   simp
  | [],hl=>simp at hl
  | [_],hl=>simp at hl
  | [_,_],hl=>simp at hl
  | [_,_,_],hl=>simp at hl
  | [_,_,_,_],hl=>simp at hl
  | [_,_,_,_,_],hl=>simp at hl
  | [_,_,_,_,_,_],hl=>simp at hl
  | [_,_,_,_,_,_,_],hl=>simp at hl
  | [_,_,_,_,_,_,_,_],hl=>simp at hl
  | [_,_,_,_,_,_,_,_,_],hl=>simp at hl

theorem decL_some : ∀ (k : Nat) (r : List UInt8) (acc l : List Sym) (x : List UInt8), decL k r acc = .ok (l, x) → ∃ l', l = acc ++ l' ∧ l'.length = k ∧ okL acc l' = true ∧ r = encL l' ++ x
 | 0,r,acc,l,x,h=>by
  simp only [decL,Except.ok.injEq,Prod.mk.injEq] at h
  obtain ⟨rfl,rfl⟩:=h
  exact ⟨[],by simp,rfl,rfl,by simp [encL]⟩
 | k + 1, r, acc, l, x, h => by
  simp only [decL] at h
  split at h
  ·simp at h
  ·rename_i s r' hn
   split at h
   ·rename_i hv
    simp only [Bool.and_eq_true,Bool.not_eq_true'] at hv
    obtain ⟨l',h1,h2,h3,h4⟩:=decL_some k r' (acc ++ [s]) l x h
    refine ⟨s :: l',by simp [h1],by simp [h2],by simp [okL,hv.1,hv.2,h3],?_⟩
    rw [nextS_some hn hv.1,h4]; simp [encL]
   ·simp at h
theorem enc_dec {b : List UInt8} {l : List Sym} {x : List UInt8} (h : decO b = .ok (l, x)) : validO l = true ∧ encO ⟨l, x⟩ = b := by
 unfold decO at h
 split at h
 ·simp at h
 split at h
 ·simp at h
 split at h
 ·simp at h
 split at h
 ·simp at h
 rename_i h4 hm h8 hn
 obtain ⟨l',e,h2,h3,h5⟩:=decL_some _ _ _ _ _ h
 simp at e
 subst e
 refine ⟨by simp [validO,h3]; omega,?_⟩
 simp only [ne_eq,Decidable.not_not] at hm
 have e4:=W4_num (b:=b.drop 4) (by simp; omega)
 have : encO ⟨l,x⟩ = magic ++ (W4 l.length ++ (encL l ++ x)):=by simp [encO]
 rw [this,← h5,h2,e4,← hm]
 have e8 : b.drop 8 = (b.drop 4).drop 4:=by rw [List.drop_drop]
 rw [e8,List.take_append_drop,List.take_append_drop]
theorem okL_app : ∀ (a b acc : List Sym), okL acc (a ++ b) = (okL acc a && okL (acc ++ a) b)
 | [],b,acc=>by simp [okL]
 | s :: a,b,acc=>by
  have ih:=okL_app a b (acc ++ [s])
  simp only [List.cons_append,okL,ih]
  simp [Bool.and_assoc]
end Go.AL.Ob





namespace Go.AL.Wt
open Go Go.AL
theorem mget_mset (a b : ByteArray) (v : D) : ∀ es : Ents, mget (mset es (.string a) v) (.string b) = if b.data.toList = a.data.toList then some v else mget es (.string b)
 | []=>by
  simp only [mset,mget,keyB]
  by_cases h : b.data.toList = a.data.toList <;> simp [h]
 | e :: r => by
  simp only [mset]
  cases hk : keyB (.string a) e.1 with
  | true =>
   simp only [mget]
   have hkk : keyB (.string b) (.string a) = decide (b.data.toList = a.data.toList):=rfl
   rw [hkk]
   by_cases h : b.data.toList = a.data.toList
   ·simp [h]
   ·have : keyB (.string b) e.1 = false := by
     unfold keyB at hk ⊢
     split at hk
     ·rename_i x y e1 e2
      injection e1 with e1; subst e1
      rw [e2]
      have:=of_decide_eq_true hk
      simp only [decide_eq_false_iff_not]
      rw [← this]; exact h
     ·simp at hk
    simp [h,this]
  | false =>
   simp only [mget]
   rw [mget_mset a b v r]
   by_cases h : b.data.toList = a.data.toList
   ·have : keyB (.string b) e.1 = false := by
     unfold keyB at hk ⊢
     split
     ·rename_i x y e1 e2
      injection e1 with e1; subst e1
      rw [e2] at hk
      simp only [decide_eq_false_iff_not] at hk ⊢
      rw [h]; exact hk
     ·rfl
    simp [h,this]
   ·simp [h]
theorem strKeys_mset (a : ByteArray) (v : D) : ∀ es : Ents, strKeys es → strKeys (mset es (.string a) v)
 | [],_=>fun e he=>by simp [mset] at he; subst he; exact ⟨a,rfl⟩
 | x :: r, h => fun e he => by
  simp only [mset] at he
  split at he
  ·rcases List.mem_cons.1 he with rfl | he
   ·exact ⟨a,rfl⟩
   ·exact h e (by simp [he])
  ·rcases List.mem_cons.1 he with rfl | he
   ·exact h e (by simp)
   ·exact strKeys_mset a v r (fun y hy=>h y (by simp [hy])) e he
structure Sn (es : Ents) (seen : List Str) : Prop where
 keys : strKeys es
 look : ∀ b : ByteArray,lookD es b (.bool false) false = vB (decide (b.data.toList ∈ seen))
theorem Sn.nil : Sn [] []:=⟨fun e he=>by simp at he,fun b=>by simp [lookD,mget,zeroD,constD]⟩
theorem Sn.set {es seen} (h : Sn es seen) (s : Str) : Sn (mset es (.string (sB s)) (vB true)) (seen ++ [s]) := by
 refine ⟨strKeys_mset _ _ _ h.keys,fun b=>?_⟩
 have hl:=h.look b
 simp only [lookD,mget_mset] at hl ⊢
 by_cases hb : b.data.toList = (sB s).data.toList
 ·have hb' : b.data.toList = s := hb
  rw [if_pos hb]; simp [hb']
 ·have hb' : ¬ b.data.toList = s := hb
  rw [if_neg hb,hl]
  simp [hb']
theorem Sn.look' {es seen} (h : Sn es seen) (s : Str) : lookD es (sB s) (.bool false) false = vB (decide (s ∈ seen)):=h.look _

end Go.AL.Wt

namespace Go.AL.Sy
open Go Go.AL Go.AL.Bd
def toB (s : Ob.Sym) : Sym:=⟨s.name,s.bind,s.size,s.align⟩
def of (U : List Use) (n : Str) : List Use:=U.filter fun x=>decide (x.sym.name = n)
end Go.AL.Sy
namespace Go.AL.Sy
open Go Go.AL Go.AL.Bd
def uses (n : Nat) (l : List Ob.Sym) : List Use:=l.map fun s=>⟨toB s,(n : Int)⟩
end Go.AL.Sy





namespace Go.AL.Tb
open Go Go.AL Go.AL.Bd
abbrev SE (l : List Ob.Sym) : List (List D):=l.map Ob.Sym.enc
def usesL : Nat → List Ob.Obj → List Use
 | _,[]=>[]
 | n,o :: r=>Sy.uses n o.syms ++ usesL (n + 1) r
abbrev Us (l : List Ob.Obj) : List Use:=usesL 0 l
def wd (U : List Use) (s : Str) : Bool:=wanted (all (Sy.of U s))
end Go.AL.Tb

namespace Go.AL.Sc
open Go Go.AL Go.AL.Bd Go.AL.Tb
structure Mem where
 name : Str
 time : Int
 uid : Int
 gid : Int
 mode : Int
 data : List UInt8
deriving DecidableEq
abbrev Mem.enc (m : Mem) : List D:=[sD m.name,vI m.time,vI m.uid,vI m.gid,vI m.mode,LB m.data]
abbrev LM (l : List Mem) : D:=.list .any (l.map Mem.enc)
abbrev eD (d : List Str) : List D:=[LS d]
abbrev LD (l : List (List Str)) : D:=.list .any (l.map eD)
structure View where
 members : List Mem
 defs : List (List Str)
abbrev View.enc (v : View) : List D:=[LM v.members,LD v.defs]
structure Unt where
 file : Str
 member : Str
 index : Int
deriving DecidableEq
def dec (b : List UInt8) : Ob.Obj × Int:=match Ob.decO b with|.ok (l,x)=>(⟨l,x⟩,0)|.error e=>(⟨[],[]⟩,e)
def isDef (s : Ob.Sym) : Bool:=decide (s.bind = 1) || decide (s.bind = 2)
def defsOf (b : List UInt8) : List Str:=((dec b).1.syms.filter isDef).map (·.name)
structure Ls where
 us : List Unt
 os : List Ob.Obj
 ld : List (Str × Nat)
def memAt (v : View) (i : Nat) : Mem:=v.members.getD i ⟨[],0,0,0,0,[]⟩
def loadM (S : Ls) (f : Str) (v : View) (i : Nat) : Ls:=⟨S.us ++ [⟨f,(memAt v i).name,(i : Int)⟩],S.os ++ [(dec (memAt v i).data).1],S.ld ++ [(f,i)]⟩
def can (S : Ls) (f : Str) (v : View) (i : Nat) : Bool:=!decide ((f,i) ∈ S.ld) && (decide (i < v.defs.length) && (v.defs.getD i []).any (wd (Us S.os)))
def passN (f : Str) (v : View) : Nat → Ls → Ls × Nat
 | 0,S=>(S,0)
 | k + 1,S=>if can (passN f v k S).1 f v k = true then (loadM (passN f v k S).1 f v k,(passN f v k S).2 + 1) else passN f v k S
def pass (f : Str) (v : View) (S : Ls) : Ls × Nat:=passN f v v.members.length S
def arch (f : Str) (v : View) : Nat → Ls → Ls × Nat
 | 0,S=>(S,0)
 | n + 1,S=>if (pass f v S).2 = 0 then ((pass f v S).1,1) else ((arch f v n (pass f v S).1).1,(arch f v n (pass f v S).1).2 + 1)
end Go.AL.Sc

namespace Go.AL.Ar
open Go Go.AL Go.AL.Hd Go.AL.Ln Go.AL.Sc
structure Part where
 h : Hdr
 data : Str
 why : Int
abbrev Part.enc (p : Part) : List D:=p.h.enc ++ [.list .nat (p.data.map byteD),vI p.why]
abbrev szN (b : Str) : Nat:=(decR b).1.size.toNat
theorem dec_size {b : Str} (h : (decR b).2 = 0) : (decR b).1.size = (szN b : Int) ∧ szN b ≤ 1000000000000 := by
 have h1:=(dec_enc h).2
 have h2:=encR_bd (h:=(decR b).1) (by rw [h1])
 have h3 : 0 ≤ (decR b).1.size := by
  unfold decR at h ⊢
  split
  ·simp
  ·split
   ·split
    ·split
     ·exact Int.natCast_nonneg _
     ·simp
    ·simp
   ·simp
 exact ⟨by unfold szN; omega,by unfold szN; have:=h2.2.2.2.2.2; omega⟩
def nextP (b : Str) : Part × Nat :=
 if (decR b).2 ≠ 0 then (⟨hdr0,[],(decR b).2⟩,0)
 else if b.length < 60 + szN b + szN b % 2 then (⟨hdr0,[],2⟩,0)
 else if szN b % 2 ≠ 0 ∧ b[60 + szN b]? ≠ some 10 then (⟨hdr0,[],5⟩,0)
 else (⟨(decR b).1,prt b 60 (60 + szN b),0⟩,60 + szN b + szN b % 2)
theorem next_ok {b : Str} (h : (nextP b).1.why = 0) : 60 ≤ (nextP b).2 ∧ (nextP b).2 ≤ b.length ∧ (decR b).2 = 0 ∧ (nextP b).1 = ⟨(decR b).1, prt b 60 (60 + szN b), 0⟩ ∧ (nextP b).2 = 60 + szN b + szN b % 2 ∧ (szN b % 2 ≠ 0 → b[60 + szN b]? = some 10) := by
 unfold nextP at h ⊢
 split at h
 ·rename_i h1
  exact absurd h h1
 ·rename_i h1
  split at h
  ·simp at h
  ·rename_i h2
   split at h
   ·simp at h
   ·rename_i h3
    rw [if_neg h1,if_neg h2,if_neg h3]
    refine ⟨?_,?_,by simpa using h1,rfl,rfl,fun h4=>?_⟩
    ·show 60 ≤ 60 + szN b + szN b % 2; omega
    ·show 60 + szN b + szN b % 2 ≤ b.length; omega
    ·by_cases h5 : b[60 + szN b]? = some 10
     ·exact h5
     ·exact absurd ⟨h4,h5⟩ h3
def partsP (k : Nat) (b : Str) : List (Nat × Part) :=
 if h : b = [] then [] else
 if h2 : (nextP b).1.why = 0 then (k,(nextP b).1) :: partsP (k + (nextP b).2) (b.drop (nextP b).2)
 else [(k,(nextP b).1)]
termination_by b.length
decreasing_by
 have h1:=next_ok h2
 have : 0 < b.length:=List.length_pos_iff.2 h
 simp; omega
theorem partsP_nil (k : Nat) : partsP k [] = []:=by rw [partsP]; simp
theorem partsP_ok {k : Nat} {b : Str} (h : b ≠ []) (h2 : (nextP b).1.why = 0) : partsP k b = (k, (nextP b).1) :: partsP (k + (nextP b).2) (b.drop (nextP b).2) := by
 rw [partsP,dif_neg h,dif_pos h2]
theorem partsP_bad {k : Nat} {b : Str} (h : b ≠ []) (h2 : (nextP b).1.why ≠ 0) : partsP k b = [(k, (nextP b).1)] := by
 rw [partsP,dif_neg h,dif_neg h2]
structure PS where
 hm : Bool
 map : Str
 ms : List Mem
 os : List Nat
 names : Str
 ht : Bool
abbrev PS0 : PS:=⟨false,[],[],[],[],false⟩
abbrev PS.first (s : PS) : Bool:=decide (s.ms.length = 0) && !s.ht
def addP (s : PS) (k : Nat) (p : Part) : PS × Int :=
 if p.h.name = [47] then (if (!s.first || s.hm) = true then (s,8) else (⟨true,p.data,s.ms,s.os,s.names,s.ht⟩,0))
 else if p.h.name = [47,47] then (if (entR p.data).2 ≠ 0 ∨ s.first = false then (s,7) else (⟨s.hm,s.map,s.ms,s.os,p.data,true⟩,0))
 else if (resP p.h.name s.names).2 ≠ 0 then (s,(resP p.h.name s.names).2)
 else (⟨s.hm,s.map,s.ms ++ [⟨(resP p.h.name s.names).1,p.h.date,p.h.uid,p.h.gid,p.h.mode,p.data⟩],s.os ++ [k],s.names,s.ht⟩,0)
def stepP (s : PS) (x : Nat × Part) : PS × Int:=if x.2.why ≠ 0 then (s,x.2.why) else addP s x.1 x.2
abbrev foldA (acc : PS × Int) (p : List (Nat × Part)) : PS × Int:=p.foldl (fun acc x=>stepP acc.1 x) acc
abbrev foldP (p : List (Nat × Part)) : PS × Int:=foldA (PS0,0) p
def runP (s : PS) : List (Nat × Part) → PS × Option (Nat × Int)
 | []=>(s,none)
 | x :: r=>if (stepP s x).2 ≠ 0 then ((stepP s x).1,some (x.1,(stepP s x).2)) else runP (stepP s x).1 r
structure Arc where
 hm : Bool
 map : Str
 ms : List Mem
 os : List Nat
deriving DecidableEq
abbrev Arc0 : Arc:=⟨false,[],[],[]⟩
abbrev PS.arc (s : PS) : Arc:=⟨s.hm,s.map,s.ms,s.os⟩
abbrev magic : Str:=[33,60,97,114,99,104,62,10]
def arcP (b : Str) : Arc × Nat × Int :=
 if b.length < 8 then (Arc0,0,2) else if b.take 8 ≠ magic then (Arc0,0,1) else
 match runP PS0 (partsP 8 (b.drop 8)) with
 | (s,none)=>(s.arc,0,0)
 | (_,some (k,e))=>(Arc0,k,e)
end Go.AL.Ar

namespace Go.AL.Ar
open Go Go.AL Go.AL.Hd Go.AL.Ln Go.AL.Sc
theorem foldP_snoc (p : List (Nat × Part)) (x : Nat × Part) : foldP (p ++ [x]) = stepP (foldP p).1 x:=by simp [foldP,foldA,List.foldl_append]
abbrev okA (p : List (Nat × Part)) : Bool:=decide ((foldP p).2 = 0)
theorem visitA : ∀ (r pre : List (Nat × Part)), okA pre = true →
  (okA (visitR okA pre r) = true → visitR okA pre r = pre ++ r ∧ runP (foldP pre).1 r = ((foldP (pre ++ r)).1,none)) ∧
  (okA (visitR okA pre r) = false → ∃ q x,visitR okA pre r = q ++ [x] ∧ okA q = true ∧ runP (foldP pre).1 r = ((foldP (q ++ [x])).1,some (x.1,(foldP (q ++ [x])).2)))
 | [],pre,h=>by simp [visitR,h,runP]
 | x :: r, pre, h => by
  simp only [visitR]
  cases ho : okA (pre ++ [x]) with
  | true =>
   obtain ⟨h1,h2⟩:=visitA r (pre ++ [x]) ho
   have e : runP (foldP pre).1 (x :: r) = runP (foldP (pre ++ [x])).1 r := by
    have ho':=of_decide_eq_true ho
    rw [foldP_snoc] at ho' ⊢
    rw [runP,if_neg (fun h=>h ho')]
   rw [e]
   refine ⟨fun h3=>?_,fun h3=>h2 h3⟩
   have:=h1 h3
   simpa using this
  | false =>
   simp only []
   refine ⟨fun h2=>by rw [ho] at h2; simp at h2,fun _=>⟨pre,x,rfl,h,?_⟩⟩
   have ho':=of_decide_eq_false ho
   rw [foldP_snoc] at ho' ⊢
   rw [runP,if_pos ho']
theorem part_bd {b : Str} : (nextP b).1.data.length ≤ b.length ∧ (nextP b).1.h.name.length ≤ 16 := by
 by_cases h : (nextP b).1.why = 0
 ·obtain ⟨h1, h2, h3, h4, h5, h6⟩ := next_ok h
  rw [h4]
  have h7:=(dec_enc h3).2
  have h8:=encR_bd (h:=(decR b).1) (by rw [h7])
  refine ⟨?_,?_⟩
  ·show (prt b 60 (60 + szN b)).length ≤ _
   simp [prt]; omega
  ·exact h8.1
 ·unfold nextP at h ⊢
  split
  ·simp
  ·rename_i h1
   rw [if_neg h1] at h
   split
   ·simp
   ·rename_i h2
    rw [if_neg h2] at h
    split
    ·simp
    ·rename_i h3
     rw [if_neg h3] at h
     simp at h
theorem parts_bd : ∀ (n : Nat) (b : Str) (k : Nat), b.length ≤ n → (partsP k b).length * 60 ≤ b.length + 60 ∧ ∀ x ∈ partsP k b, x.2.data.length ≤ b.length ∧ x.2.h.name.length ≤ 16 ∧ k ≤ x.1 ∧ x.1 ≤ k + b.length
 | n, b, k, hn => by
  by_cases h0 : b = []
  ·subst h0; rw [partsP_nil]; simp
  ·have hp : 0 < b.length := List.length_pos_iff.2 h0
   obtain ⟨p1,p2⟩:=part_bd (b:=b)
   by_cases h : (nextP b).1.why = 0
   ·rw [partsP_ok h0 h]
    obtain ⟨h1,h2,_⟩:=next_ok h
    match n,hn with
    | 0,hn=>omega
    | n + 1, hn =>
     have ih:=parts_bd n (b.drop (nextP b).2) (k + (nextP b).2) (by simp; omega)
     simp only [List.length_drop] at ih
     refine ⟨by rw [List.length_cons]; omega,fun x hx=>?_⟩
     rcases List.mem_cons.1 hx with rfl|hx
     ·exact ⟨p1,p2,Nat.le_refl _,Nat.le_add_right _ _⟩
     ·have := ih.2 x hx
      omega
   ·rw [partsP_bad h0 h]
    refine ⟨by rw [List.length_singleton]; omega,fun x hx=>?_⟩
    obtain rfl:=List.mem_singleton.1 hx
    exact ⟨p1,p2,Nat.le_refl _,Nat.le_add_right _ _⟩
structure Lim (c n : Nat) (s : PS) : Prop where
 m : s.ms.length ≤ n
 o : s.os.length = s.ms.length
 t : s.names.length ≤ c
theorem Lim.step {c n : Nat} {s : PS} {x : Nat × Part} (h : Lim c n s) (hx : x.2.data.length ≤ c) : Lim c (n + 1) (stepP s x).1 := by
 obtain ⟨h1,h2,h3⟩:=h
 have h0 : Lim c (n + 1) s:=⟨by omega,h2,h3⟩
 unfold stepP
 split
 ·exact h0
 ·unfold addP
  split
  ·split
   ·exact h0
   ·exact ⟨by show s.ms.length ≤ _; omega,h2,h3⟩
  ·split
   ·split
    ·exact h0
    ·exact ⟨by show s.ms.length ≤ _; omega,h2,hx⟩
   ·split
    ·exact h0
    ·exact ⟨by simp; omega,by simp; omega,h3⟩
theorem Lim.foldN {c : Nat} : ∀ (n : Nat) (p : List (Nat × Part)), p.length = n → (∀ x ∈ p, x.2.data.length ≤ c) → Lim c p.length (foldP p).1
 | 0,p,hn=>by
  obtain rfl:=List.eq_nil_of_length_eq_zero hn
  intro _; exact ⟨Nat.le_refl _,rfl,Nat.zero_le _⟩
 | n + 1, p, hn => by
  intro h
  rcases List.eq_nil_or_concat p with rfl|⟨q,x,rfl⟩
  ·simp at hn
  ·simp only [List.concat_eq_append] at hn h ⊢
   rw [foldP_snoc,List.length_append]
   exact (Lim.foldN n q (by simpa using hn) fun y hy=>h y (List.mem_append_left _ hy)).step (h x (by simp))
theorem Lim.fold {c : Nat} (p : List (Nat × Part)) (h : ∀ x ∈ p,x.2.data.length ≤ c) : Lim c p.length (foldP p).1:=Lim.foldN _ p rfl h
end Go.AL.Ar

namespace Go.AL.Ar
open Go Go.AL Go.AL.Hd Go.AL.Ln Go.AL.Sc
theorem run_bad {s : PS} {k : Nat} {t : Str} (h : t ≠ []) (h2 : (nextP t).1.why ≠ 0) : runP s (partsP k t) = (s, some (k, (nextP t).1.why)) := by
 rw [partsP_bad h h2,runP]
 have e : stepP s (k,(nextP t).1) = (s,(nextP t).1.why):=by unfold stepP; rw [if_pos h2]
 rw [e,if_pos h2]
theorem run_add {s : PS} {k : Nat} {t : Str} (h : t ≠ []) (h2 : (nextP t).1.why = 0) : runP s (partsP k t) =
  if (addP s k (nextP t).1).2 ≠ 0 then ((addP s k (nextP t).1).1,some (k,(addP s k (nextP t).1).2)) else runP (addP s k (nextP t).1).1 (partsP (k + (nextP t).2) (t.drop (nextP t).2)):=by
 rw [partsP_ok h h2,runP]
 have e : stepP s (k,(nextP t).1) = addP s k (nextP t).1:=by unfold stepP; rw [if_neg (fun h=>h h2)]
 rw [e]
abbrev usedP (s : PS) : Bool:=!s.first || s.hm
theorem add_used {s : PS} {k : Nat} {p : Part} (h : (addP s k p).2 = 0) : usedP (addP s k p).1 = true := by
 unfold addP at h ⊢
 split
 ·rename_i h1
  rw [if_pos h1] at h
  split
  ·rename_i h2; rw [if_pos h2] at h; simp at h
  ·simp [usedP]
 ·rename_i h1
  rw [if_neg h1] at h
  split
  ·rename_i h2
   rw [if_pos h2] at h
   split
   ·rename_i h3; rw [if_pos h3] at h; simp at h
   ·simp [usedP,PS.first]
  ·rename_i h2
   rw [if_neg h2] at h
   split
   ·rename_i h3; rw [if_pos h3] at h; exact absurd h h3
   ·simp [usedP,PS.first]
theorem add_names {s : PS} {k : Nat} {p : Part} (h : (entR s.names).2 = 0) : (entR (addP s k p).1.names).2 = 0 := by
 unfold addP
 split
 ·split <;> exact h
 ·split
  ·split
   ·exact h
   ·rename_i h3
    by_cases h4 : (entR p.data).2 = 0
    ·exact h4
    ·exact absurd (.inl h4) h3
  ·split <;> exact h
theorem ent_nil : (entR []).2 = 0 := by
 unfold entR
 rw [entO_none (by decide)]
 rfl
structure At (b : Str) (x : PS × Nat) : Prop where
 run : runP PS0 (partsP 8 (b.drop 8)) = runP x.1 (partsP x.2 (b.drop x.2))
 lo : 8 ≤ x.2
 hi : x.2 ≤ b.length
 use : usedP x.1 = decide (x.2 ≠ 8)
 ent : (entR x.1.names).2 = 0
 nml : x.1.names.length ≤ b.length
 ms : x.1.ms.length ≤ x.2
 os : x.1.os.length = x.1.ms.length
theorem At.start {b : Str} (h : 8 ≤ b.length) : At b (PS0,8):=⟨rfl,Nat.le_refl _,h,rfl,ent_nil,Nat.zero_le _,Nat.zero_le _,rfl⟩
theorem At.ne {b : Str} {s : PS} {k : Nat} (h : At b (s,k)) (hk : k < b.length) : b.drop k ≠ []:=fun e=>by have:=congrArg List.length e; simp at this; omega
theorem At.step {b : Str} {s : PS} {k : Nat} (h : At b (s, k)) (hk : k < b.length) (hw : (nextP (b.drop k)).1.why = 0) (ha : (addP s k (nextP (b.drop k)).1).2 = 0) :
  At b ((addP s k (nextP (b.drop k)).1).1,k + (nextP (b.drop k)).2):=by
 obtain ⟨n1,n2,n3,n4,n5,n6⟩:=next_ok hw
 have hd : (b.drop k).length = b.length - k:=by simp
 have hlo : 8 ≤ k:=h.lo
 have hs : stepP s (k,(nextP (b.drop k)).1) = addP s k (nextP (b.drop k)).1:=by unfold stepP; rw [if_neg (fun h=>h hw)]
 have hL:=Lim.step (c:=b.length) (n:=k) (s:=s) (x:=(k,(nextP (b.drop k)).1)) ⟨h.ms,h.os,h.nml⟩ (by have:=(part_bd (b:=b.drop k)).1; simp only []; omega)
 rw [hs] at hL
 refine ⟨?_,?_,?_,?_,?_,?_,?_,?_⟩
 ·have := h.run
  simp only at this
  rw [run_add (h.ne hk) hw,if_neg (fun h=>h ha),List.drop_drop] at this
  exact this
 ·show 8 ≤ k + _; omega
 ·show k + _ ≤ b.length; omega
 ·rw [add_used ha]; symm; exact decide_eq_true (show k + (nextP (b.drop k)).2 ≠ 8 by omega)
 ·exact add_names h.ent
 ·exact hL.t
 ·have:=hL.m; show _ ≤ k + _; simp only [] at this ⊢; omega
 ·exact hL.o
theorem arc_run {b : Str} (h1 : ¬ b.length < 8) (h2 : b.take 8 = magic) : arcP b = match runP PS0 (partsP 8 (b.drop 8)) with | (s, none) => (s.arc, 0, 0) | (_, some (k, e)) => (Arc0, k, e) := by
 unfold arcP; rw [if_neg h1,if_neg (fun h=>h h2)]; try rfl
theorem At.bad {b : Str} {s : PS} {k : Nat} (h : At b (s, k)) (hk : k < b.length) (h1 : ¬ b.length < 8) (h2 : b.take 8 = magic) (hw : (nextP (b.drop k)).1.why ≠ 0) : arcP b = (Arc0, k, (nextP (b.drop k)).1.why) := by
 rw [arc_run h1 h2,h.run,run_bad (h.ne hk) hw]
theorem At.addbad {b : Str} {s : PS} {k : Nat} (h : At b (s, k)) (hk : k < b.length) (h1 : ¬ b.length < 8) (h2 : b.take 8 = magic) (hw : (nextP (b.drop k)).1.why = 0) {e : Int} (he : (addP s k (nextP (b.drop k)).1).2 = e) (he0 : e ≠ 0) : arcP b = (Arc0, k, e) := by
 subst he
 rw [arc_run h1 h2,h.run,run_add (h.ne hk) hw,if_pos he0]
theorem At.fin {b : Str} {s : PS} {k : Nat} (h : At b (s, k)) (hk : ¬ k < b.length) (h1 : ¬ b.length < 8) (h2 : b.take 8 = magic) : arcP b = (s.arc, 0, 0) := by
 rw [arc_run h1 h2,h.run]
 simp only []
 rw [List.drop_of_length_le (by omega),partsP_nil]
 rfl
end Go.AL.Ar

namespace Go.AL.Ar
open Go Go.AL Go.AL.Hd Go.AL.Ln Go.AL.Sc
theorem runP_err : ∀ {l : List (Nat × Part)} {s s' : PS} {k : Nat} {e : Int}, runP s l = (s', some (k, e)) → (∃ x ∈ l, x.1 = k) ∧ e ≠ 0
 | [],s,s',k,e,h=>by simp [runP] at h
 | x :: r, s, s', k, e, h => by
  rw [runP] at h
  split at h
  ·rename_i hx
   simp only [Prod.mk.injEq,Option.some.injEq] at h
   exact ⟨⟨x,List.mem_cons_self,h.2.1⟩,by rw [← h.2.2]; exact hx⟩
  ·obtain ⟨⟨y, h1, h2⟩, h3⟩ := runP_err h
   exact ⟨⟨y,List.mem_cons_of_mem _ h1,h2⟩,h3⟩
theorem arc_ok {b : Str} (h : (arcP b).2.2 = 0) : 8 ≤ b.length ∧ b.take 8 = magic ∧ ∃ s, runP PS0 (partsP 8 (b.drop 8)) = (s, none) ∧ arcP b = (s.arc, 0, 0) := by
 by_cases h1 : b.length < 8
 ·unfold arcP at h; rw [if_pos h1] at h; simp at h
 ·by_cases h2 : b.take 8 = magic
  ·have e := arc_run h1 h2
   rw [e] at h ⊢
   refine ⟨by omega,h2,?_⟩
   cases hr : runP PS0 (partsP 8 (b.drop 8)) with
   | mk s o =>
    cases o with
    | none=>exact ⟨s,rfl,rfl⟩
    | some x =>
     obtain ⟨k,e'⟩:=x
     rw [hr] at h
     exact absurd h (runP_err hr).2
  ·unfold arcP at h; rw [if_neg h1,if_pos h2] at h; simp at h
theorem arc_err {b : Str} (h : (arcP b).2.2 ≠ 0) : (arcP b).1 = Arc0 ∧ (arcP b).2.1 ≤ b.length := by
 by_cases h1 : b.length < 8
 ·unfold arcP; rw [if_pos h1]; exact ⟨rfl,Nat.zero_le _⟩
 ·by_cases h2 : b.take 8 = magic
  ·have e := arc_run h1 h2
   rw [e] at h ⊢
   cases hr : runP PS0 (partsP 8 (b.drop 8)) with
   | mk s o =>
    cases o with
    | none=>rw [hr] at h; exact absurd rfl h
    | some x =>
     obtain ⟨k,e'⟩:=x
     obtain ⟨⟨x,hx,rfl⟩,_⟩:=runP_err hr
     have:=(parts_bd _ (b.drop 8) 8 (Nat.le_refl _)).2 x hx
     simp only [List.length_drop] at this
     exact ⟨rfl,by show x.1 ≤ _; omega⟩
  ·unfold arcP; rw [if_neg h1,if_pos h2]; exact ⟨rfl,Nat.zero_le _⟩
end Go.AL.Ar

namespace Go.AL.Ar
open Go Go.AL Go.AL.Hd Go.AL.Ln Go.AL.Sc
theorem res_valid {fl t : Str} (he : (entR t).2 = 0) (h : (resP fl t).2 = 0) : validN (resP fl t).1 = true := by
 unfold resP at h ⊢
 split
 ·rename_i h1
  exact (short_not h1.2).1
 ·rename_i h1
  rw [if_neg h1] at h
  split
  ·rename_i ds
   simp only at h ⊢
   split
   ·rename_i h2
    rw [if_pos h2] at h
    cases hf : (linesP 0 t).find? (fun p=>decide (p.1 = (parseR 10 ds).1)) with
    | none=>rw [hf] at h; simp at h
    | some p =>
     simp only []
     have hm:=List.mem_of_find?_eq_some hf
     have he' : ((linesP 0 t).all fun p => validN p.2) = true := by
      unfold entR at he
      rw [ent_lines _ 0 (Nat.le_refl _)] at he
      cases ha : ((linesP 0 t).all fun p=>validN p.2) with
      | true=>rfl
      | false=>rw [ha] at he; simp at he
     exact List.all_eq_true.1 he' p hm
   ·rename_i h2
    rw [if_neg h2] at h; simp at h
  ·rename_i hx
   split at h
   ·rename_i ds; exact absurd rfl (hx ds)
   ·simp at h
theorem res_len (fl t : Str) : (resP fl t).1.length ≤ fl.length + t.length + 1 := by
 unfold resP
 split
 ·simp; omega
 ·split
  ·split
   ·split
    ·rename_i p hf
     have:=((lines_len t.length 0 (Nat.le_refl _)).2 p (List.mem_of_find?_eq_some hf)).1
     simp only []
     omega
    ·simp
   ·simp
  ·simp
structure MAt (b : Str) (o e : Nat) (m : Mem) : Prop where
 lo : 8 ≤ o
 en : e = o + 60 + m.data.length + m.data.length % 2
 hi : e ≤ b.length
 ok : (decR (b.drop o)).2 = 0
 t : (decR (b.drop o)).1.date = m.time
 u : (decR (b.drop o)).1.uid = m.uid
 g : (decR (b.drop o)).1.gid = m.gid
 mo : (decR (b.drop o)).1.mode = m.mode
 sz : (decR (b.drop o)).1.size = m.data.length
 d : prt b (o + 60) (o + 60 + m.data.length) = m.data
 v : validN m.name = true
 nl : m.name.length ≤ b.length + 17
 nn : (decR (b.drop o)).1.name ≠ [47,47]
abbrev Chain (b : Str) (s : PS) (k : Nat) : Prop:=∀ i,i < s.ms.length → ∃ m o e,s.ms[i]? = some m ∧ s.os[i]? = some o ∧ (s.os ++ [k])[i + 1]? = some e ∧ MAt b o e m
theorem Chain.step {b : Str} {s : PS} {k : Nat} (A : At b (s, k)) (C : Chain b s k) (hk : k < b.length) (hw : (nextP (b.drop k)).1.why = 0) (ha : (addP s k (nextP (b.drop k)).1).2 = 0) :
  Chain b (addP s k (nextP (b.drop k)).1).1 (k + (nextP (b.drop k)).2):=by
 obtain ⟨n1,n2,n3,n4,n5,n6⟩:=next_ok hw
 obtain ⟨z1,z2⟩:=dec_size n3
 have hd : (b.drop k).length = b.length - k:=by simp
 have hol : s.os.length = s.ms.length:=A.os
 have hlo : 8 ≤ k:=A.lo
 have hen : (entR s.names).2 = 0:=A.ent
 have none : s.first = true → ∀ {x : PS}, x.ms = s.ms → Chain b x (k + (nextP (b.drop k)).2) := by
  intro h x hx i hi
  rw [hx] at hi
  simp only [PS.first,Bool.and_eq_true,decide_eq_true_eq] at h
  omega
 unfold addP at ha ⊢
 split
 ·rename_i h1
  rw [if_pos h1] at ha
  split
  ·rename_i h2; rw [if_pos h2] at ha; simp at ha
  ·rename_i h2
   refine none ?_ rfl
   cases hf : s.first with
   | true=>rfl
   | false=>rw [hf] at h2; simp at h2
 ·rename_i h1
  rw [if_neg h1] at ha
  split
  ·rename_i h2
   rw [if_pos h2] at ha
   split
   ·rename_i h3; rw [if_pos h3] at ha; simp at ha
   ·rename_i h3
    refine none ?_ rfl
    cases hf : s.first with
    | true=>rfl
    | false=>exact absurd (.inr hf) h3
  ·rename_i h2
   rw [if_neg h2] at ha
   split
   ·rename_i h3; rw [if_pos h3] at ha; exact absurd ha h3
   ·rename_i h3
    have h3' : (resP (nextP (b.drop k)).1.h.name s.names).2 = 0 := by
     by_cases h : (resP (nextP (b.drop k)).1.h.name s.names).2 = 0
     ·exact h
     ·exact absurd h h3
    have hv:=res_valid hen h3'
    intro i hi
    simp only [List.length_append,List.length_singleton] at hi
    by_cases hi' : i < s.ms.length
    ·obtain ⟨m, o, e, c1, c2, c3, c4⟩ := C i hi'
     refine ⟨m,o,e,?_,?_,?_,c4⟩
     ·simp only []; rw [List.getElem?_append_left hi']; exact c1
     ·simp only []; rw [List.getElem?_append_left (by omega)]; exact c2
     ·simp only []; rw [List.getElem?_append_left (by simp; omega)]; exact c3
    ·have ei : i = s.ms.length := by omega
     subst ei
     have hdat : (nextP (b.drop k)).1.data = prt b (k + 60) (k + 60 + szN (b.drop k)) := by
      rw [n4]; simp only [prt]; rw [List.take_drop,List.drop_drop,Nat.add_assoc]
     have hdl : (nextP (b.drop k)).1.data.length = szN (b.drop k):=by rw [hdat]; simp [prt]; omega
     refine ⟨_,k,k + (nextP (b.drop k)).2,(by simp; rfl),by rw [← hol]; simp,by rw [← hol]; simp,?_⟩
     refine ⟨hlo,?_,?_,n3,by rw [n4],by rw [n4],by rw [n4],by rw [n4],?_,?_,hv,?_,?_⟩
     ·show k + _ = k + 60 + (nextP (b.drop k)).1.data.length + (nextP (b.drop k)).1.data.length % 2
      rw [hdl,n5]; omega
     ·omega
     ·show _ = (((nextP (b.drop k)).1.data.length : Nat) : Int)
      rw [hdl]; exact z1
     ·show prt b (k + 60) (k + 60 + (nextP (b.drop k)).1.data.length) = (nextP (b.drop k)).1.data
      rw [hdl,hdat]
     ·have q1 := res_len (nextP (b.drop k)).1.h.name s.names
      have q2:=(part_bd (b:=b.drop k)).2
      have q3 : s.names.length ≤ b.length:=A.nml
      show (resP (nextP (b.drop k)).1.h.name s.names).1.length ≤ _
      omega
     ·rw [n4] at h2; exact h2
theorem chain_run {b : Str} {s' : PS} : ∀ (n : Nat) (s : PS) (k : Nat), b.length - k ≤ n → At b (s, k) → Chain b s k → runP s (partsP k (b.drop k)) = (s', none) → Chain b s' b.length ∧ s'.os.length = s'.ms.length := by
 intro n
 induction n with
 | zero =>
  intro s k hn A C h
  have hk : k ≤ b.length:=A.hi
  have ek : k = b.length:=by omega
  rw [List.drop_of_length_le (by omega),partsP_nil] at h
  injection h with h _
  subst h
  exact ⟨ek ▸ C,A.os⟩
 | succ n ih =>
  intro s k hn A C h
  by_cases hk : k < b.length
  ·by_cases hw : (nextP (b.drop k)).1.why = 0
   ·rw [run_add (A.ne hk) hw] at h
    by_cases ha : (addP s k (nextP (b.drop k)).1).2 = 0
    ·rw [if_neg (fun h => h ha), List.drop_drop] at h
     have:=(next_ok hw).1
     exact ih _ _ (by omega) (A.step hk hw ha) (C.step A hk hw ha) h
    ·rw [if_pos ha] at h; simp at h
   ·rw [run_bad (A.ne hk) hw] at h; simp at h
  ·have hk' : k ≤ b.length := A.hi
   have ek : k = b.length:=by omega
   rw [List.drop_of_length_le (by omega),partsP_nil] at h
   injection h with h _
   subst h
   exact ⟨ek ▸ C,A.os⟩
theorem chain_ok {b : Str} {s : PS} (h1 : 8 ≤ b.length) (h : runP PS0 (partsP 8 (b.drop 8)) = (s, none)) : Chain b s b.length ∧ s.os.length = s.ms.length :=
 chain_run _ PS0 8 (Nat.le_refl _) (At.start h1) (fun i hi=>by simp at hi) h
theorem run_ms : ∀ {l : List (Nat × Part)} {s s' : PS}, runP s l = (s', none) → s'.ms.length ≤ s.ms.length + l.length
 | [],s,s',h=>by injection h with h _; subst h; exact Nat.le_refl _
 | x :: r, s, s', h => by
  rw [runP] at h
  split at h
  ·simp at h
  ·have h1 := run_ms h
   have h2 : (stepP s x).1.ms.length ≤ s.ms.length + 1 := by
    unfold stepP addP
    repeat' split
    all_goals simp
   rw [List.length_cons]; omega
theorem ms_bd {b : Str} {s : PS} (h : runP PS0 (partsP 8 (b.drop 8)) = (s, none)) : s.ms.length ≤ b.length + 60 := by
 have h1:=run_ms h
 have h2:=(parts_bd _ (b.drop 8) 8 (Nat.le_refl _)).1
 simp only [List.length_drop,List.length_nil] at h1 h2
 omega
theorem run_map {c : Nat} : ∀ {l : List (Nat × Part)} {s s' : PS}, runP s l = (s', none) → (∀ x ∈ l, x.2.data.length ≤ c) → s.map.length ≤ c → s'.map.length ≤ c
 | [],s,s',h,_,hs=>by injection h with h _; subst h; exact hs
 | x :: r, s, s', h, hx, hs => by
  rw [runP] at h
  split at h
  ·simp at h
  ·refine run_map h (fun y hy => hx y (List.mem_cons_of_mem _ hy)) ?_
   have hd:=hx x List.mem_cons_self
   unfold stepP addP
   repeat' split
   all_goals first|exact hs|exact hd
theorem arc_bd (b : Str) : (arcP b).1.ms.length ≤ b.length + 60 ∧ (∀ m ∈ (arcP b).1.ms, m.data.length ≤ b.length) ∧ (arcP b).1.map.length ≤ b.length := by
 by_cases h : (arcP b).2.2 = 0
 ·obtain ⟨a1, a2, s, a3, a4⟩ := arc_ok h
  obtain ⟨C,_⟩:=chain_ok a1 a3
  rw [a4]
  refine ⟨ms_bd a3,fun m hm=>?_,run_map a3 (fun x hx=>?_) (Nat.zero_le _)⟩
  ·obtain ⟨i, hi⟩ := List.mem_iff_getElem?.1 hm
   replace hi : s.ms[i]? = some m:=hi
   have hil : i < s.ms.length := by
    rcases Nat.lt_or_ge i s.ms.length with h|h
    ·exact h
    ·rw [List.getElem?_eq_none h] at hi; simp at hi
   obtain ⟨m',o,e,c1,_,_,M⟩:=C i hil
   rw [hi] at c1; injection c1 with c1; subst c1
   have:=M.en; have:=M.hi
   omega
  ·have := ((parts_bd _ (b.drop 8) 8 (Nat.le_refl _)).2 x hx).1
   simp only [List.length_drop] at this
   omega
 ·rw [(arc_err h).1]; simp
end Go.AL.Ar



namespace Go.AL.Cn
open Go Go.AL Go.AL.Hd Go.AL.Ln Go.AL.Sc Go.AL.Ar
abbrev Ent:=Ap.Ent
def decE (b : List UInt8) : List Ent × Int:=match Ap.dec b with|some q=>(q,0)|none=>([],8)
def idxP : List Mem → List Nat → List Ent
 | m :: ms,o :: os=>(defsOf m.data).map (fun s=>(s,(o : Int))) ++ idxP ms os
 | _,_=>[]
def chkP (a : Arc) : Int :=
 if a.hm = true then (if (decE a.map).2 ≠ 0 then (decE a.map).2 else if (decE a.map).1 = idxP a.ms a.os then 0 else 16)
 else if idxP a.ms a.os = [] then 0 else 16
abbrev viewP (l : List Mem) : View:=⟨l,l.map fun m=>defsOf m.data⟩
abbrev View0 : View:=⟨[],[]⟩
def openP (b : Str) : View × Nat × Int :=
 if (arcP b).2.2 ≠ 0 then (View0,(arcP b).2.1,(arcP b).2.2)
 else if chkP (arcP b).1 ≠ 0 then (View0,8,chkP (arcP b).1)
 else (viewP (arcP b).1.ms,0,0)
theorem openP_ok {b : Str} {a : Arc} (h : arcP b = (a, 0, 0)) : openP b = if chkP a ≠ 0 then (View0, 8, chkP a) else (viewP a.ms, 0, 0) := by
 unfold openP; rw [h]; simp
end Go.AL.Cn



namespace Go.AL.Cn
open Go Go.AL Go.AL.Hd Go.AL.Ln Go.AL.Sc Go.AL.Ar
structure FewM (l : List Mem) : Prop where
 n : l.length ≤ 20
 d : ∀ m ∈ l,m.name.length ≤ 300 ∧ m.data.length ≤ 1000
theorem syms_len : ∀ l : List Ob.Sym, ((l.filter isDef).map (·.name)).length ≤ (Ob.encL l).length ∧ (((l.filter isDef).map (·.name)).flatMap fun s => s ++ [0]).length ≤ (Ob.encL l).length
 | []=>⟨Nat.zero_le _,Nat.zero_le _⟩
 | s :: l => by
  obtain ⟨h1,h2⟩:=syms_len l
  have e : (Ob.encL (s :: l)).length = 10 + s.name.length + (Ob.encL l).length := by
   show (Ob.encS s ++ Ob.encL l).length = _
   rw [List.length_append]
   simp [Ob.encS,Ap.W4]
   omega
  rw [e]
  cases hd : isDef s with
  | true =>
   rw [List.filter_cons_of_pos hd]
   simp only [List.map_cons,List.length_cons,List.flatMap_cons,List.length_append,List.length_nil]
   omega
  | false =>
   rw [List.filter_cons_of_neg (by rw [hd]; simp)]
   omega
theorem defs_len (b : List UInt8) : (defsOf b).length ≤ b.length ∧ ((defsOf b).flatMap fun s => s ++ [0]).length ≤ b.length := by
 unfold defsOf dec
 cases hd : Ob.decO b with
 | error e=>simp
 | ok x =>
  obtain ⟨l,y⟩:=x
  have he:=congrArg List.length (Ob.enc_dec hd).2
  unfold Ob.encO at he
  simp only [List.length_append] at he
  obtain ⟨h1,h2⟩:=syms_len l
  simp only []
  omega
end Go.AL.Cn



namespace Go.AL
open Go
theorem Wk.listE {α : Type} {f g : α → List D} (t : Tg) (l : List α) (hl : ∀ a, (g a).length = (f a).length) (hw : ∀ a i (h1 : i < (f a).length) (h2 : i < (g a).length), Wk (f a)[i] (g a)[i]) (hf : ∀ a, ∀ d ∈ g a, d.idf = true) :
  Wk (.list t (l.map f)) (.list .any (l.map g)):=by
 refine ⟨fun E h σ x hx=>?_⟩
 cases hx with
 | list _ _ A c s u hc hb hs hn ha hv hf' ht =>
  have e : (l.map f).length = (l.map g).length:=by simp
  rw [e] at hc hb ⊢
  refine .list .any (l.map g) A c s u hc hb (fun i hi=>?_) (fun h=>?_) (fun a ha'=>⟨fun hne=>(ha a ha').1 ?_,fun i j hi hj=>⟨?_,((ha a ha').2 i j (by rw [e]; exact hi) hj).2⟩⟩) (fun i j hi hj=>?_) (fun i j hi hj=>?_) (fun k e=>by simp at e)
  ·have := hs i (by rw [e]; exact hi)
   simp only [List.getElem_map] at this ⊢
   rw [hl]; exact this
  ·have := hn h
   exact ⟨by simpa using this.1,this.2⟩
  ·intro e2; apply hne; simpa using e2
  ·exact Tg.ow_any ((ha a ha').2 i j (by rw [e]; exact hi) hj).1
  ·have hi' : i < l.length := by simpa using hi
   have:=hv i j (by simpa using hi') (by simp only [List.getElem_map] at hj ⊢; rw [← hl]; exact hj)
   simp only [List.getElem_map] at this ⊢
   exact (hw _ j _ _).sem _ _ _ _ this
  ·have h1 : (l.map g)[i][j] ∈ (l.map g)[i] := List.getElem_mem hj
   obtain ⟨y,_,hy⟩:=List.mem_map.1 (List.getElem_mem hi : (l.map g)[i] ∈ l.map g)
   have h2 : ∀ c : List D,c = g y → ∀ d ∈ c,d.idf = true:=fun c e d hd=>hf y d (e ▸ hd)
   exact h2 _ hy.symm _ h1
theorem Wk.listE1 {α : Type} {f g : α → D} (t : Tg) (l : List α) (hw : ∀ a, Wk (f a) (g a)) (hf : ∀ a, (g a).idf = true) : Wk (.list t (l.map fun a => [f a])) (.list .any (l.map fun a => [g a])) :=
 Wk.listE t l (fun _ => rfl) (fun a i h1 h2 => by
  have : i = 0:=by simp at h1; exact h1
  subst this; exact hw a) (fun a d hd=>by simp at hd; subst hd; exact hf a)
end Go.AL
namespace Go.AL.Sc
open Go Go.AL Go.AL.Bd Go.AL.Tb
structure OkM (m : Mem) : Prop where
 n : m.name.length ≤ 140737488351232
 d : m.data.length ≤ 140737488351232
 t : m.time ≤ 9223372036854775807
 u : m.uid ≤ 9223372036854775807
 g : m.gid ≤ 9223372036854775807
 o : m.mode ≤ 9223372036854775807
end Go.AL.Sc



namespace Go.AL.Cn
open Go Go.AL Go.AL.Hd Go.AL.Ln Go.AL.Sc Go.AL.Ar
abbrev atO (o : Nat) (s : Str) : Ent:=(s,(o : Int))
theorem idx_snoc : ∀ (l : List Mem) (os : List Nat) (k : Nat) {m : Mem} {o : Nat}, l[k]? = some m → os[k]? = some o → idxP (l.take (k + 1)) os = idxP (l.take k) os ++ (defsOf m.data).map (atO o)
 | [],os,k,m,o,h,_=>by simp at h
 | m' :: l,[],k,m,o,_,h=>by simp at h
 | m' :: l,o' :: os,0,m,o,h,h2=>by
  simp at h h2; subst h h2
  cases l <;> cases os <;> simp [idxP]
 | m' :: l,o' :: os,k + 1,m,o,h,h2=>by
  simp only [List.take_succ_cons,idxP]
  rw [idx_snoc l os k (by simpa using h) (by simpa using h2),List.append_assoc]
theorem idx_take_le (l : List Mem) (os : List Nat) (k : Nat) : (idxP (l.take k) os).length ≤ (idxP l os).length := by
 induction l generalizing os k with
 | nil=>simp
 | cons m l ih =>
  cases k with
  | zero=>cases os <;> simp [idxP]
  | succ k =>
   cases os with
   | nil=>simp [idxP]
   | cons o os =>
    simp only [List.take_succ_cons,idxP,List.length_append]
    have:=ih os k
    omega
theorem idx_le : ∀ (l : List Mem) (os : List Nat) {c : Nat}, (∀ m ∈ l, m.data.length ≤ c) → (idxP l os).length ≤ l.length * c
 | [],os,c,_=>by cases os <;> simp [idxP]
 | m :: l,[],c,_=>by simp [idxP]
 | m :: l,o :: os,c,h=>by
  have h1:=idx_le l os fun x hx=>h x (List.mem_cons_of_mem _ hx)
  have h2:=(defs_len m.data).1
  have h3:=h m List.mem_cons_self
  simp only [idxP,List.length_append,List.length_map,List.length_cons,Nat.add_mul,Nat.one_mul]
  omega
end Go.AL.Cn

namespace Go.AL.Cn
open Go Go.AL Go.AL.Hd Go.AL.Ln Go.AL.Ar
open Go.AL.Sc (Mem)
abbrev fewE (m : Mem) : Bool:=decide (m.name.length ≤ 300) && decide (m.data.length ≤ 1000)
def sumD (l : List Mem) : Nat:=(l.map fun m=>m.data.length).sum
def fewL4 (l : List Mem) : Bool:=decide (l.length ≤ 20) && (l.all fewE && decide (sumD l ≤ 5000))
theorem fewL4_of {l : List Mem} (h : fewL4 l = true) : FewM l ∧ sumD l ≤ 5000 := by
 unfold fewL4 at h
 simp only [Bool.and_eq_true,decide_eq_true_eq,List.all_eq_true] at h
 exact ⟨⟨h.1,fun m hm=>h.2.1 m hm⟩,h.2.2⟩
theorem sumD_snoc {l : List Mem} {k : Nat} {m : Mem} (h : l[k]? = some m) : sumD (l.take (k + 1)) = sumD (l.take k) + m.data.length := by
 unfold sumD; rw [List.take_add_one,h]; simp
theorem sumD_le : ∀ {l : List Mem}, l.all fewE = true → sumD l ≤ l.length * 1000
 | [],_=>by simp [sumD]
 | m :: l,h=>by
  simp only [List.all_cons,Bool.and_eq_true,decide_eq_true_eq] at h
  have:=sumD_le (l:=l) (by simpa using h.2)
  simp only [sumD,List.map_cons,List.sum_cons,List.length_cons] at this ⊢
  omega
theorem fewL4_false {l : List Mem} {k : Nat} {m : Mem} (h : l[k]? = some m) (hm : fewE m = false) : fewL4 l = false := by
 have : l.all fewE = false := by
  cases ha : l.all fewE with
  | false=>rfl
  | true=>rw [List.all_eq_true] at ha; rw [ha m (List.mem_of_getElem? h)] at hm; simp at hm
 unfold fewL4; rw [this]; simp
theorem fewL4_snoc {l : List Mem} {k : Nat} {m : Mem} (h : l[k]? = some m) (hm : fewE m = true) (hk : (l.take k).all fewE = true) : (l.take (k + 1)).all fewE = true := by
 rw [List.take_add_one,h]; simp only [Option.toList,List.all_append,hk,List.all_cons,hm]; rfl
end Go.AL.Cn



namespace Go.AL.In
open Go Go.AL
structure It where
 group : Bool
 files : List Str
 ats : List Nat
deriving DecidableEq
abbrev wB1 : Str:=[45,40]
abbrev wB2 : Str:=[45,45,115,116,97,114,116,45,103,114,111,117,112]
abbrev wE1 : Str:=[45,41]
abbrev wE2 : Str:=[45,45,101,110,100,45,103,114,111,117,112]
abbrev isB (w : Str) : Bool:=decide (w = wB1) || decide (w = wB2)
abbrev isE (w : Str) : Bool:=decide (w = wE1) || decide (w = wE2)
structure PC where
 items : List It
 cur : Option (Nat × List Str × List Nat)
def stepC (S : PC) (w : Str) (i : Nat) : PC × Int :=
 if w = [] then (S,13) else
 match S.cur with
 | none=>if isB w = true then (⟨S.items,some (i,[],[])⟩,0) else if isE w = true then (S,14) else (⟨S.items ++ [⟨false,[w],[i]⟩],none⟩,0)
 | some (k,fs,ats)=>if isB w = true then (S,14) else if isE w = true then (⟨S.items ++ [⟨true,fs,ats⟩],none⟩,0) else (⟨S.items,some (k,fs ++ [w],ats ++ [i])⟩,0)
def runC (S : PC) (i : Nat) : List Str → PC × Option (Nat × Int)
 | []=>(S,none)
 | w :: ws=>if (stepC S w i).2 = 0 then runC (stepC S w i).1 (i + 1) ws else (S,some (i,(stepC S w i).2))
abbrev PC0 : PC:=⟨[],none⟩
def parseC (ws : List Str) : List It × Nat × Int :=
 match runC PC0 0 ws with
 | (_,some (i,e))=>([],i,e)
 | (S,none)=>match S.cur with
  | some (k,_,_)=>([],k,14)
  | none=>(S.items,0,0)
theorem runC_step {S : PC} {i : Nat} {ws : List Str} {w : Str} (h : ws[i]? = some w) : runC S i (ws.drop i) = if (stepC S w i).2 = 0 then runC (stepC S w i).1 (i + 1) (ws.drop (i + 1)) else (S, some (i, (stepC S w i).2)) := by
 have hi : i < ws.length:=(List.getElem?_eq_some_iff.1 h).1
 have e : ws[i] = w:=by rw [List.getElem?_eq_getElem hi] at h; injection h
 rw [List.drop_eq_getElem_cons hi,e]
 rfl
structure OkC (S : PC) (i : Nat) : Prop where
 n : S.items.length ≤ i
 c : ∀ k fs ats,S.cur = some (k,fs,ats) → fs.length ≤ i ∧ ats.length = fs.length ∧ k < i ∧ S.items.length + 1 ≤ i
theorem OkC.zero : OkC PC0 0:=⟨Nat.le_refl _,fun k fs ats h=>by simp at h⟩
theorem OkC.step {S : PC} {i : Nat} {w : Str} (h : OkC S i) (hz : (stepC S w i).2 = 0) : OkC (stepC S w i).1 (i + 1) := by
 unfold stepC at hz ⊢
 by_cases h0 : w = []
 ·rw [if_pos h0] at hz; simp at hz
 ·rw [if_neg h0] at hz ⊢
  cases hc : S.cur with
  | none =>
   rw [hc] at hz
   simp only [] at hz ⊢
   have hn:=h.n
   split
   ·exact ⟨by show S.items.length ≤ _; omega,fun k fs ats e=>by injection e with e; injection e with e1 e; injection e with e2 e3; subst e1 e2 e3; exact ⟨by simp,rfl,by omega,by show S.items.length + 1 ≤ _; omega⟩⟩
   ·split
    ·rename_i h1 h2; rw [if_neg h1,if_pos h2] at hz; simp at hz
    ·exact ⟨by simp; omega,fun k fs ats e=>by simp at e⟩
  | some q =>
   obtain ⟨k,fs,ats⟩:=q
   rw [hc] at hz
   simp only [] at hz ⊢
   have hn:=h.n
   obtain ⟨c1,c2,c3,c4⟩:=h.c k fs ats hc
   split
   ·rename_i h1; rw [if_pos h1] at hz; simp at hz
   ·split
    ·exact ⟨by simp; omega,fun k fs ats e=>by simp at e⟩
    ·exact ⟨by show S.items.length ≤ _; omega,fun k' fs' ats' e=>by injection e with e; injection e with e1 e; injection e with e2 e3; subst e1 e2 e3; exact ⟨by simp; omega,by simp; omega,by omega,by show S.items.length + 1 ≤ _; omega⟩⟩
abbrev eO (n : Nat) : List D:=[vI n]
def nl {α : Type} (f : α → List D) : List α → D
 | []=>.nil
 | x :: l=>.list .nat ((x :: l).map f)
abbrev encX (x : It) : List D:=[vB x.group,nl eS x.files,nl eO x.ats]
abbrev It.enc (x : It) : List D:=[vB x.group,LS x.files,.list .any (x.ats.map eO)]
theorem nl_wk {α : Type} (f : α → List D) : ∀ l : List α, Wk (nl f l) (.list .any (l.map f))
 | []=>Wk.nilm
 | x :: l=>Wk.list _ _
theorem fill2 {X : List (List D)} {a b c b' c' : D} (hX : ∀ x ∈ X, x.length = 3) : FillOk 3 (X ++ [[a, b, c]]) [(X.length, 1, b'), (X.length, 2, c')] (X ++ [[a, b', c']]) := by
 refine ⟨by simp,fun i hi=>?_⟩
 have hi' : i < X.length + 1:=by simpa using hi
 by_cases h : i < X.length
 ·have e : (X ++ [[a, b', c']])[i] = X[i] := List.getElem_append_left h
  have e2 : (X ++ [[a,b,c]])[i]'(by simp; omega) = X[i]:=List.getElem_append_left h
  refine ⟨by rw [e]; exact hX _ (List.getElem_mem h),fun j hj=>.inr ⟨fun d hd=>?_,by simp; omega,?_,?_⟩⟩
  ·simp at hd; omega
  ·rw [e2]; rw [e] at hj; exact hj
  ·simp only [e,e2]
 ·obtain rfl : i = X.length := by omega
  have e : (X ++ [[a,b',c']])[X.length] = [a,b',c']:=by simp
  have e2 : (X ++ [[a,b,c]])[X.length]'(by simp) = [a,b,c]:=by simp
  refine ⟨by rw [e]; rfl,fun j hj=>?_⟩
  have hj' : j < 3:=by rw [e] at hj; exact hj
  have : j = 0 ∨ j = 1 ∨ j = 2:=by omega
  rcases this with rfl|rfl|rfl
  ·refine .inr ⟨fun d hd => by simp at hd, by simp, by rw [e2]; simp, ?_⟩
   simp only [e,e2]; rfl
  ·refine .inl ?_
   simp only [e]; simp
  ·refine .inl ?_
   simp only [e]; simp
end Go.AL.In



namespace Go.AL.Gp
open Go Go.AL Go.AL.Bd Go.AL.Tb Go.AL.Sc
structure Inp where
 name : Str
 arch : Bool
 obj : Ob.Obj
 view : View
abbrev Inp.enc (x : Inp) : List D:=[sD x.name,vB x.arch,.list .any (SE x.obj.syms),LB x.obj.body,LM x.view.members,LD x.view.defs]
abbrev LIp (l : List Inp) : D:=.list .any (l.map Inp.enc)
end Go.AL.Gp

namespace Go.AL.In
open Go Go.AL
structure Fe where
 name : Str
 data : Str
abbrev Fe.enc (f : Fe) : List D:=[sD f.name,LB f.data]
abbrev LFe (l : List Fe) : D:=.list .any (l.map Fe.enc)
abbrev Inp0 : Gp.Inp:=⟨[],false,⟨[],[]⟩,Cn.View0⟩
abbrev isM (b : Str) : Bool:=decide (8 ≤ b.length) && decide (b.take 8 = Ar.magic)
def openF (n d : Str) : Gp.Inp × Int :=
 if isM d = true then (if (Cn.openP d).2.2 = 0 then (⟨n,true,⟨[],[]⟩,(Cn.openP d).1⟩,0) else (Inp0,(Cn.openP d).2.2))
 else (if (Sc.dec d).2 = 0 then (⟨n,false,(Sc.dec d).1,Cn.View0⟩,0) else (Inp0,(Sc.dec d).2))
def openI : List Fe → Str → Gp.Inp × Int
 | [],_=>(Inp0,15)
 | f :: fs,n=>if f.name = n then openF n f.data else openI fs n
def ixF : List Fe → Str → Int
 | [],_=>-1
 | f :: fs,n=>if f.name = n then 0 else if ixF fs n < 0 then -1 else ixF fs n + 1
theorem ixF_spec : ∀ (fs : List Fe) (n : Str), (ixF fs n = -1 ∧ openI fs n = (Inp0, 15) ∧ ∀ f ∈ fs, f.name ≠ n) ∨
  (∃ (k : Nat) (f : Fe),fs[k]? = some f ∧ ixF fs n = (k : Int) ∧ f.name = n ∧ openI fs n = openF n f.data ∧ ∀ (j : Nat) (g : Fe),j < k → fs[j]? = some g → g.name ≠ n)
 | [],n=>.inl ⟨rfl,rfl,fun f h=>absurd h (by simp)⟩
 | f :: fs, n => by
  by_cases h : f.name = n
  ·exact .inr ⟨0,f,rfl,by simp [ixF,h],h,by simp [openI,h],fun j g hj=>absurd hj (by omega)⟩
  ·rcases ixF_spec fs n with ⟨h1, h2, h3⟩ | ⟨k, g, h1, h2, h3, h4, h5⟩
   ·refine .inl ⟨by simp [ixF, h, h1], by simp [openI, h, h2], fun x hx => ?_⟩
    rcases List.mem_cons.1 hx with rfl|hx
    ·exact h
    ·exact h3 x hx
   ·refine .inr ⟨k + 1, g, by simpa using h1, ?_, h3, by simp [openI, h, h4], fun j x hj hx => ?_⟩
    ·have : ¬ ixF fs n < 0 := by omega
     simp only [ixF,if_neg h,if_neg this,h2]; omega
    ·cases j with
     | zero=>simp at hx; subst hx; exact h
     | succ j=>exact h5 j x (by omega) (by simpa using hx)
theorem ixF_none {fs : List Fe} {n : Str} (h : ∀ f ∈ fs, f.name ≠ n) : ixF fs n = -1 := by
 rcases ixF_spec fs n with ⟨h1,_⟩|⟨k,f,h1,_,h3,_⟩
 ·exact h1
 ·exact absurd h3 (h f (List.mem_of_getElem? h1))
theorem ixF_at {fs : List Fe} {n : Str} {k : Nat} {f : Fe} (hk : fs[k]? = some f) (hn : f.name = n) (hb : ∀ g ∈ fs.take k, g.name ≠ n) : ixF fs n = (k : Int) := by
 rcases ixF_spec fs n with ⟨_,_,h3⟩|⟨j,g,h1,h2,h3,_,h5⟩
 ·exact absurd hn (h3 f (List.mem_of_getElem? hk))
 ·rcases Nat.lt_trichotomy j k with h | h | h
  ·refine absurd h3 (hb g ?_)
   have : (fs.take k)[j]? = some g:=by rw [List.getElem?_take_of_lt h]; exact h1
   exact List.mem_of_getElem? this
  ·rw [h2,h]
  ·exact absurd hn (h5 k f h hk)
structure ItI where
 group : Bool
 ins : List Gp.Inp
abbrev ItI.enc (x : ItI) : List D:=[vB x.group,Gp.LIp x.ins]
abbrev LIt (l : List ItI) : D:=.list .any (l.map ItI.enc)
def openR (fs : List Fe) (acc : List Gp.Inp) : List (Str × Nat) → Except (Nat × Int) (List Gp.Inp)
 | []=>.ok acc
 | (w,a) :: r=>if (openI fs w).2 = 0 then openR fs (acc ++ [(openI fs w).1]) r else .error (a,(openI fs w).2)
abbrev prs (x : It) : List (Str × Nat):=x.files.zip x.ats
def allR (fs : List Fe) (acc : List ItI) : List It → Except (Nat × Int) (List ItI)
 | []=>.ok acc
 | x :: r=>match openR fs [] (prs x) with
  | .ok l=>allR fs (acc ++ [⟨x.group,l⟩]) r
  | .error e=>.error e
def allI (fs : List Fe) (ws : List Str) : List ItI × Int × Int :=
 if (parseC ws).2.2 = 0 then (match allR fs [] (parseC ws).1 with|.ok l=>(l,0,0)|.error (a,e)=>([],(a : Int),e))
 else ([],((parseC ws).2.1 : Int),(parseC ws).2.2)
theorem openR_step {fs : List Fe} {acc : List Gp.Inp} {l : List (Str × Nat)} {k : Nat} {w : Str} {a : Nat} (h : l[k]? = some (w, a)) :
  openR fs acc (l.drop k) = if (openI fs w).2 = 0 then openR fs (acc ++ [(openI fs w).1]) (l.drop (k + 1)) else .error (a,(openI fs w).2):=by
 have hk : k < l.length:=(List.getElem?_eq_some_iff.1 h).1
 have e : l[k] = (w,a):=by rw [List.getElem?_eq_getElem hk] at h; injection h
 rw [List.drop_eq_getElem_cons hk,e]
 rfl
theorem allR_step {fs : List Fe} {acc : List ItI} {l : List It} {k : Nat} {x : It} (h : l[k]? = some x) :
  allR fs acc (l.drop k) = match openR fs [] (prs x) with|.ok q=>allR fs (acc ++ [⟨x.group,q⟩]) (l.drop (k + 1))|.error e=>.error e:=by
 have hk : k < l.length:=(List.getElem?_eq_some_iff.1 h).1
 have e : l[k] = x:=by rw [List.getElem?_eq_getElem hk] at h; injection h
 rw [List.drop_eq_getElem_cons hk,e]
 rfl
def OkIt (n : Nat) (x : It) : Prop:=x.ats.length = x.files.length ∧ x.files.length ≤ n ∧ ∀ a ∈ x.ats,a < n
def OkS (n : Nat) (S : PC) : Prop:=(∀ x ∈ S.items,OkIt n x) ∧ ∀ k fs ats,S.cur = some (k,fs,ats) → OkIt n ⟨true,fs,ats⟩
theorem OkIt.mono {n m : Nat} {x : It} (h : OkIt n x) (hm : n ≤ m) : OkIt m x:=⟨h.1,by have:=h.2.1; omega,fun a ha=>by have:=h.2.2 a ha; omega⟩
theorem OkS.step {S : PC} {i : Nat} {w : Str} (h : OkS i S) : OkS (i + 1) (stepC S w i).1 := by
 obtain ⟨h1,h2⟩:=h
 have m1 : ∀ x ∈ S.items,OkIt (i + 1) x:=fun x hx=>(h1 x hx).mono (by omega)
 have m2 : ∀ k fs ats,S.cur = some (k,fs,ats) → OkIt (i + 1) ⟨true,fs,ats⟩:=fun k fs ats e=>(h2 k fs ats e).mono (by omega)
 unfold stepC
 split
 ·exact ⟨m1,m2⟩
 ·split
  ·split
   ·exact ⟨m1,fun k fs ats e=>by injection e with e; injection e with e1 e; injection e with e2 e3; subst e2 e3; exact ⟨rfl,Nat.zero_le _,fun a ha=>absurd ha (by simp)⟩⟩
   ·split
    ·exact ⟨m1,m2⟩
    ·refine ⟨fun x hx => ?_, fun k fs ats e => absurd e (by simp)⟩
     rcases List.mem_append.1 hx with hx|hx
     ·exact m1 x hx
     ·simp at hx; subst hx; exact ⟨rfl,by simp,fun a ha=>by simp at ha; omega⟩
  ·rename_i k fs ats hc
   split
   ·exact ⟨m1,m2⟩
   ·split
    ·refine ⟨fun x hx => ?_, fun k fs ats e => absurd e (by simp)⟩
     rcases List.mem_append.1 hx with hx|hx
     ·exact m1 x hx
     ·simp at hx; subst hx; exact m2 k fs ats hc
    ·refine ⟨m1, fun k' fs' ats' e => ?_⟩
     injection e with e; injection e with e1 e; injection e with e2 e3; subst e2 e3
     obtain ⟨q1,q2,q3⟩:=h2 k fs ats hc
     refine ⟨by simp; exact q1,by simp; exact q2,fun a ha=>?_⟩
     rcases List.mem_append.1 ha with ha|ha
     ·have:=q3 a ha; omega
     ·simp at ha; omega
theorem runC_okS : ∀ (ws : List Str) (S : PC) (i : Nat), OkS i S → OkS (i + ws.length) (runC S i ws).1
 | [],S,i,h=>h
 | w :: ws, S, i, h => by
  unfold runC
  have hl : (w :: ws).length = ws.length + 1:=rfl
  split
  ·have := runC_okS ws _ (i + 1) (h.step (w := w))
   rw [hl,show i + (ws.length + 1) = i + 1 + ws.length by omega]; exact this
  ·exact ⟨fun x hx=>(h.1 x hx).mono (by omega),fun k fs ats e=>(h.2 k fs ats e).mono (by omega)⟩
theorem runC_len : ∀ (ws : List Str) (S : PC) (i : Nat), S.items.length ≤ i → (runC S i ws).1.items.length ≤ i + ws.length
 | [],S,i,h=>h
 | w :: ws, S, i, h => by
  unfold runC
  have hl : (w :: ws).length = ws.length + 1:=rfl
  have hs : (stepC S w i).1.items.length ≤ i + 1 := by
   unfold stepC
   split
   ·show S.items.length ≤ _; omega
   ·split
    ·split
     ·show S.items.length ≤ _; omega
     ·split
      ·show S.items.length ≤ _; omega
      ·simp; omega
    ·split
     ·show S.items.length ≤ _; omega
     ·split
      ·simp; omega
      ·show S.items.length ≤ _; omega
  split
  ·have := runC_len ws _ (i + 1) hs
   omega
  ·show S.items.length ≤ _; omega
theorem parseC_ok (ws : List Str) : (parseC ws).1.length ≤ ws.length ∧ ∀ x ∈ (parseC ws).1, OkIt ws.length x := by
 have h1:=runC_okS ws PC0 0 ⟨fun x hx=>absurd hx (by simp),fun k fs ats e=>absurd e (by simp)⟩
 have h2:=runC_len ws PC0 0 (Nat.le_refl _)
 rw [Nat.zero_add] at h1 h2
 unfold parseC
 split
 ·exact ⟨Nat.zero_le _,fun x hx=>absurd hx (by simp)⟩
 ·rename_i S hS
  rw [hS] at h1 h2
  split
  ·exact ⟨Nat.zero_le _,fun x hx=>absurd hx (by simp)⟩
  ·exact ⟨h2,h1.1⟩
end Go.AL.In

namespace Go.AL.In
open Go Go.AL
abbrev fewF (f : Fe) : Bool:=!decide (2000 < f.data.length) && !decide (100 < f.name.length)
def fewI (fs : List Fe) (ws : List Str) : Bool:=(fs.take 13).all fewF && (decide (fs.length ≤ 12) && decide (ws.length ≤ 40))
theorem fewI_small {fs : List Fe} {ws : List Str} (h : fewI fs ws = true) : (∀ f ∈ fs, f.data.length ≤ 2000) ∧ fs.length ≤ 12 ∧ ws.length ≤ 40 := by
 unfold fewI at h
 simp only [Bool.and_eq_true,decide_eq_true_eq] at h
 obtain ⟨h1,h2,h3⟩:=h
 rw [List.take_of_length_le (by omega)] at h1
 refine ⟨fun f hf=>?_,h2,h3⟩
 have:=List.all_eq_true.1 h1 f hf
 simp [fewF] at this; omega
def openA (fs : List Fe) : List (Str × Nat) → Option (Nat × Int)
 | []=>none
 | (w,a) :: r=>if (openI fs w).2 = 0 then openA fs r else some (a,(openI fs w).2)
abbrev ofI (fs : List Fe) (x : It) : ItI:=⟨x.group,((prs x).map Prod.fst).map fun w=>(openI fs w).1⟩
theorem openR_eq (fs : List Fe) : ∀ (l : List (Str × Nat)) (acc : List Gp.Inp), openR fs acc l = match openA fs l with | none => .ok (acc ++ (l.map Prod.fst).map fun w => (openI fs w).1) | some x => .error x
 | [],acc=>by simp [openR,openA]
 | (w, a) :: r, acc => by
  unfold openR openA
  split
  ·rw [openR_eq fs r]
   cases openA fs r <;> simp
  ·rfl
theorem openA_append (fs : List Fe) (l m : List (Str × Nat)) : openA fs (l ++ m) = match openA fs l with | none => openA fs m | some x => some x := by
 induction l with
 | nil=>rfl
 | cons p l ih =>
  obtain ⟨w,a⟩:=p
  simp only [List.cons_append,openA]
  split
  ·exact ih
  ·rfl
theorem allR_eq (fs : List Fe) : ∀ (its : List It) (acc : List ItI), allR fs acc its = match openA fs (its.flatMap prs) with | none => .ok (acc ++ its.map (ofI fs)) | some x => .error x
 | [],acc=>by simp [allR,openA]
 | x :: r, acc => by
  unfold allR
  rw [openR_eq,List.flatMap_cons,openA_append]
  cases h : openA fs (prs x) with
  | none =>
   simp only []
   rw [allR_eq fs r]
   cases openA fs (r.flatMap prs) <;> simp [ofI]
  | some y=>simp
theorem allI_eq (fs : List Fe) (ws : List Str) : allI fs ws = if (parseC ws).2.2 = 0 then (match openA fs ((parseC ws).1.flatMap prs) with | none => ((parseC ws).1.map (ofI fs), 0, 0) | some (a, e) => ([], (a : Int), e)) else ([], ((parseC ws).2.1 : Int), (parseC ws).2.2) := by
 unfold allI
 rw [allR_eq]
 cases openA fs ((parseC ws).1.flatMap prs) <;> simp
theorem openA_none {fs : List Fe} : ∀ {l : List (Str × Nat)}, openA fs l = none ↔ ∀ p ∈ l, (openI fs p.1).2 = 0
 | []=>by simp [openA]
 | (w, a) :: r => by
  unfold openA
  by_cases h : (openI fs w).2 = 0
  ·rw [if_pos h, openA_none (l := r)]
   simp [h]
  ·rw [if_neg h]
   simp [h]
theorem openA_some {fs : List Fe} {a : Nat} {e : Int} : ∀ {l : List (Str × Nat)}, openA fs l = some (a, e) → e ≠ 0 ∧ ∃ p ∈ l, p.2 = a
 | [],h=>by simp [openA] at h
 | (w, b) :: r, h => by
  unfold openA at h
  split at h
  ·obtain ⟨h1, p, h2, h3⟩ := openA_some h
   exact ⟨h1,p,List.mem_cons_of_mem _ h2,h3⟩
  ·rename_i hne
   injection h with h; injection h with h1 h2
   subst h1 h2
   exact ⟨hne,_,List.mem_cons_self,rfl⟩
theorem openA_first {fs : List Fe} {a : Nat} {e : Int} : ∀ {l : List (Str × Nat)}, (l.map Prod.snd).Pairwise (· < ·) → openA fs l = some (a, e) → ∀ p ∈ l, (p.2 < a → (openI fs p.1).2 = 0) ∧ (p.2 = a → (openI fs p.1).2 = e)
 | [],_,h=>by simp [openA] at h
 | (w, b) :: r, hs, h => by
  simp only [List.map_cons,List.pairwise_cons] at hs
  obtain ⟨hs1,hs2⟩:=hs
  unfold openA at h
  intro p hp
  split at h
  ·rename_i h0
   rcases List.mem_cons.1 hp with rfl|hp
   ·refine ⟨fun _ => h0, fun e' => ?_⟩
    obtain ⟨_,q,hq,hqa⟩:=openA_some h
    have:=hs1 q.2 (List.mem_map_of_mem hq)
    simp only at e' this; omega
   ·exact openA_first hs2 h p hp
  ·injection h with h; injection h with h1 h2
   subst h1 h2
   rcases List.mem_cons.1 hp with rfl|hp
   ·exact ⟨fun hh=>absurd hh (Nat.lt_irrefl _),fun _=>rfl⟩
   ·have := hs1 p.2 (List.mem_map_of_mem hp)
    exact ⟨fun hh=>by omega,fun hh=>by omega⟩
def atsS (S : PC) : List Nat:=S.items.flatMap It.ats ++ (match S.cur with|some (_,_,ats)=>ats|none=>[])
def OrdS (n : Nat) (S : PC) : Prop:=(atsS S).Pairwise (· < ·) ∧ ∀ a ∈ atsS S,a < n
theorem OrdS.up {n : Nat} {S : PC} (h : OrdS n S) : OrdS (n + 1) S:=⟨h.1,fun a ha=>by have:=h.2 a ha; omega⟩
theorem OrdS.snoc {n : Nat} {S T : PC} (h : OrdS n S) (e : atsS T = atsS S ++ [n]) : OrdS (n + 1) T := by
 refine ⟨?_,fun a ha=>?_⟩
 ·rw [e, List.pairwise_append]
  exact ⟨h.1,List.pairwise_singleton _ _,fun a ha b hb=>by simp at hb; subst hb; exact h.2 a ha⟩
 ·rw [e] at ha
  rcases List.mem_append.1 ha with ha|ha
  ·have:=h.2 a ha; omega
  ·simp at ha; omega
theorem OrdS.same {n : Nat} {S T : PC} (h : OrdS n S) (e : atsS T = atsS S) : OrdS (n + 1) T := by
 have:=h.up
 unfold OrdS at *
 rw [e]; exact this
theorem OrdS.step {S : PC} {i : Nat} {w : Str} (h : OrdS i S) : OrdS (i + 1) (stepC S w i).1 := by
 obtain ⟨it,cur⟩:=S
 unfold stepC
 split
 ·exact h.up
 ·cases cur with
  | none =>
   simp only []
   split
   ·exact h.same (by simp [atsS])
   ·split
    ·exact h.up
    ·exact h.snoc (by simp [atsS])
  | some q =>
   obtain ⟨k,fs,ats⟩:=q
   simp only []
   split
   ·exact h.up
   ·split
    ·exact h.same (by simp [atsS])
    ·exact h.snoc (by simp [atsS])
theorem runC_ord : ∀ (ws : List Str) (S : PC) (i : Nat), OrdS i S → (atsS (runC S i ws).1).Pairwise (· < ·)
 | [],S,i,h=>h.1
 | w :: ws,S,i,h=>by
  unfold runC
  split
  ·exact runC_ord ws _ (i + 1) h.step
  ·exact h.1
theorem zip_snd : ∀ (a : List Str) (b : List Nat), b.length = a.length → (a.zip b).map Prod.snd = b
 | [],[],_=>rfl
 | x :: a,y :: b,h=>by simp [zip_snd a b (by simpa using h)]
 | [],y :: b,h=>by simp at h
 | x :: a,[],h=>by simp at h
theorem flat_snd : ∀ (its : List It), (∀ x ∈ its, x.ats.length = x.files.length) → (its.flatMap prs).map Prod.snd = its.flatMap It.ats
 | [],_=>rfl
 | x :: r,h=>by
  rw [List.flatMap_cons,List.flatMap_cons,List.map_append,flat_snd r (fun y hy=>h y (by simp [hy])),zip_snd _ _ (h x (by simp))]
theorem parseC_ord (ws : List Str) : (((parseC ws).1.flatMap prs).map Prod.snd).Pairwise (· < ·) := by
 rw [flat_snd _ (fun x hx=>((parseC_ok ws).2 x hx).1)]
 have h1:=runC_ord ws PC0 0 ⟨by simp [atsS],fun a ha=>by simp [atsS] at ha⟩
 unfold parseC
 split
 ·simp
 ·rename_i S hS
  rw [hS] at h1
  split
  ·simp
  ·rename_i hc
   unfold atsS at h1
   rw [hc] at h1
   simpa using h1
abbrev sh (n : Nat) (x : It) : It:=⟨x.group,x.files,x.ats.map (· + n)⟩
def Sim (A : List It) (n : Nat) (S T : PC) : Prop:=S.items = A ++ T.items.map (sh n) ∧ S.cur = T.cur.map fun q=>(q.1 + n,q.2.1,q.2.2.map (· + n))
theorem Sim.step {A : List It} {n i : Nat} {S T : PC} {w : Str} (h : Sim A n S T) : (stepC S w (i + n)).2 = (stepC T w i).2 ∧ Sim A n (stepC S w (i + n)).1 (stepC T w i).1 := by
 obtain ⟨si,sc⟩:=S
 obtain ⟨ti,tc⟩:=T
 obtain ⟨h1,h2⟩:=h
 simp only at h1 h2
 subst h1 h2
 unfold stepC
 by_cases h0 : w = []
 ·simp [h0,Sim]
 ·rw [if_neg h0, if_neg h0]
  cases tc with
  | none =>
   simp only [Option.map_none]
   by_cases hb : isB w = true
   ·rw [if_pos hb,if_pos hb]; simp [Sim]
   ·rw [if_neg hb, if_neg hb]
    by_cases he : isE w = true
    ·rw [if_pos he,if_pos he]; simp [Sim]
    ·rw [if_neg he,if_neg he]; simp [Sim]
  | some q =>
   obtain ⟨k,fs,ats⟩:=q
   simp only [Option.map_some]
   by_cases hb : isB w = true
   ·rw [if_pos hb,if_pos hb]; simp [Sim]
   ·rw [if_neg hb, if_neg hb]
    by_cases he : isE w = true
    ·rw [if_pos he,if_pos he]; simp [Sim]
    ·rw [if_neg he,if_neg he]; simp [Sim]
theorem runC_sim {A : List It} {n : Nat} : ∀ (ws : List Str) (i : Nat) (S T : PC), Sim A n S T → (runC T i ws).2 = none → (runC S (i + n) ws).2 = none ∧ Sim A n (runC S (i + n) ws).1 (runC T i ws).1
 | [],i,S,T,h,_=>⟨rfl,h⟩
 | w :: ws, i, S, T, h, hn => by
  unfold runC at hn ⊢
  obtain ⟨h1,h2⟩:=h.step (w:=w) (i:=i)
  rw [h1]
  by_cases h0 : (stepC T w i).2 = 0
  ·rw [if_pos h0] at hn ⊢
   rw [if_pos h0]
   have:=runC_sim ws (i + 1) _ _ h2 hn
   rwa [show i + 1 + n = i + n + 1 by omega] at this
  ·rw [if_neg h0] at hn; simp at hn
theorem runC_append : ∀ (a b : List Str) (S : PC) (i : Nat), (runC S i a).2 = none → runC S i (a ++ b) = runC (runC S i a).1 (i + a.length) b
 | [],b,S,i,_=>rfl
 | w :: a, b, S, i, h => by
  simp only [List.cons_append,runC] at h ⊢
  split
  ·rename_i h0
   rw [if_pos h0] at h
   rw [runC_append a b _ _ h,show i + 1 + a.length = i + (w :: a).length by simp; omega]
  ·rename_i h0
   rw [if_neg h0] at h; simp at h
theorem parseC_zero {ws : List Str} (h : (parseC ws).2.2 = 0) : (runC PC0 0 ws).2 = none ∧ (runC PC0 0 ws).1.cur = none ∧ parseC ws = ((runC PC0 0 ws).1.items, 0, 0) := by
 have hn : ∀ (ws : List Str) (S : PC) (i : Nat) (x : Nat × Int), (runC S i ws).2 = some x → x.2 ≠ 0 := by
  intro ws
  induction ws with
  | nil=>intro S i x h; simp [runC] at h
  | cons w ws ih =>
   intro S i x h
   unfold runC at h
   split at h
   ·exact ih _ _ _ h
   ·rename_i h0; simp at h; subst h; exact h0
 have hx:=hn ws PC0 0
 unfold parseC at h ⊢
 generalize runC PC0 0 ws = q at h hx ⊢
 obtain ⟨S,o⟩:=q
 cases o with
 | some x=>exact absurd h (hx x rfl)
 | none =>
  simp only [] at h ⊢
  cases hc : S.cur with
  | none=>simp
  | some q=>rw [hc] at h; obtain ⟨k,f,t⟩:=q; simp at h
theorem parseC_append {a b : List Str} (ha : (parseC a).2.2 = 0) (hb : (parseC b).2.2 = 0) : parseC (a ++ b) = ((parseC a).1 ++ (parseC b).1.map (sh a.length), 0, 0) := by
 obtain ⟨a1,a2,a3⟩:=parseC_zero ha
 obtain ⟨b1,b2,b3⟩:=parseC_zero hb
 have hr:=runC_append a b PC0 0 a1
 have hs:=runC_sim (A:=(runC PC0 0 a).1.items) (n:=a.length) b 0 (runC PC0 0 a).1 PC0 ⟨by simp,by rw [a2]; rfl⟩ b1
 obtain ⟨s1,s2,s3⟩:=hs
 rw [a3,b3]
 unfold parseC
 rw [hr]
 generalize runC (runC PC0 0 a).1 (0 + a.length) b = q at s1 s2 s3 ⊢
 obtain ⟨S,o⟩:=q
 simp only at s1
 subst s1
 rw [b2] at s3
 simp only at s3
 simp only [s3,Option.map_none]
 exact congrArg (·,(0 : Nat),(0 : Int)) s2
theorem prs_sh (n : Nat) (x : It) : (prs (sh n x)).map Prod.fst = (prs x).map Prod.fst := by
 show (x.files.zip (x.ats.map (· + n))).map Prod.fst = (x.files.zip x.ats).map Prod.fst
 generalize x.files = a
 generalize x.ats = b
 induction a generalizing b with
 | nil=>simp
 | cons y a ih =>
  cases b with
  | nil=>simp
  | cons z b=>simp [ih]
theorem allI_append {fs : List Fe} {a b : List Str} (ha : (allI fs a).2.2 = 0) (hb : (allI fs b).2.2 = 0) : allI fs (a ++ b) = ((allI fs a).1 ++ (allI fs b).1, 0, 0) := by
 rw [allI_eq] at ha hb ⊢
 have key : ∀ ws : List Str, (if (parseC ws).2.2 = 0 then (match openA fs ((parseC ws).1.flatMap prs) with | none => ((parseC ws).1.map (ofI fs), (0 : Int), (0 : Int)) | some (a, e) => ([], (a : Int), e)) else ([], ((parseC ws).2.1 : Int), (parseC ws).2.2)).2.2 = 0 →
   (parseC ws).2.2 = 0 ∧ openA fs ((parseC ws).1.flatMap prs) = none:=by
  intro ws h
  split at h
  ·rename_i h0
   refine ⟨h0,?_⟩
   split at h
   ·assumption
   ·rename_i e he; exact absurd h (openA_some he).1
  ·rename_i h0; exact absurd h h0
 obtain ⟨a1,a2⟩:=key a ha
 obtain ⟨b1,b2⟩:=key b hb
 rw [allI_eq,allI_eq,if_pos a1,a2,if_pos b1,b2,parseC_append a1 b1,if_pos rfl]
 have e1 : openA fs (((parseC a).1 ++ (parseC b).1.map (sh a.length)).flatMap prs) = none := by
  rw [openA_none] at a2 b2 ⊢
  intro p hp
  rw [List.flatMap_append] at hp
  rcases List.mem_append.1 hp with hp|hp
  ·exact a2 p hp
  ·obtain ⟨x, hx, hp⟩ := List.mem_flatMap.1 hp
   obtain ⟨y,hy,rfl⟩:=List.mem_map.1 hx
   have hm : p.1 ∈ (prs (sh a.length y)).map Prod.fst:=List.mem_map_of_mem hp
   rw [prs_sh] at hm
   obtain ⟨q,hq,e⟩:=List.mem_map.1 hm
   rw [← e]
   exact b2 q (List.mem_flatMap.2 ⟨y,hy,hq⟩)
 simp only [e1]
 refine congrArg (·,(0 : Int),(0 : Int)) ?_
 rw [List.map_append,List.map_map]
 congr 1
 refine List.map_congr_left fun x _=>?_
 simp only [Function.comp,ofI,prs_sh]
end Go.AL.In
