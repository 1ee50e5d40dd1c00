/- The heap of names, in plain Lean. No condition. -/
import Derived.Test.YtbbaojokfabmlaaAmB
import Derived.Sort.Walk0
set_option linter.unusedVariables false
set_option linter.unusedSimpArgs false
namespace Go.AL.Wt
open Go Go.AL
def lt (a b : Str) : Bool := Op.bytesLess a b
theorem lt_eq (a b : Str) : lt a b = decide (a < b) := Go.Proofs.bytesLess_eq a b
theorem lt_irr (a : Str) : lt a a = false := by rw [lt_eq]; simp [List.lt_irrefl]
theorem lt_trans {a b c : Str} (h : lt a b = true) (h' : lt b c = true) : lt a c = true := by
  rw [lt_eq] at *
  simp only [decide_eq_true_eq] at *
  exact List.lt_trans h h'
theorem lt_asymm {a b : Str} (h : lt a b = true) : lt b a = false := by
  cases h' : lt b a with
  | false => rfl
  | true => have := lt_trans h h'; rw [lt_irr] at this; exact this.symm
theorem lt_conn {a b : Str} (h : lt a b = false) (h' : lt b a = false) : a = b := by
  rw [lt_eq] at *
  simp only [decide_eq_false_iff_not] at *
  exact List.le_antisymm (List.not_lt.1 h') (List.not_lt.1 h)
/-- not less, carried over -/
theorem nlt_trans {a b c : Str} (h : lt a b = false) (h' : lt b c = false) : lt a c = false := by
  cases hc : lt a c with
  | false => rfl
  | true =>
    cases hb : lt b a with
    | true => have := lt_trans hb hc; rw [this] at h'; exact h'.symm ▸ rfl
    | false =>
      have := lt_conn h hb
      subst this
      rw [hc] at h'; exact h'

abbrev at' (xs : List Str) (i : Nat) : Str := xs.getD i []
def swp (xs : List Str) (i k : Nat) : List Str := (xs.set i (at' xs k)).set k (at' xs i)
theorem swp_len (xs : List Str) (i k : Nat) : (swp xs i k).length = xs.length := by simp [swp]
theorem at_swp {xs : List Str} {i k : Nat} (hi : i < xs.length) (hk : k < xs.length) (q : Nat) : at' (swp xs i k) q = if q = k then at' xs i else if q = i then at' xs k else at' xs q := by
  simp only [at', swp, List.getD, List.getElem?_set, List.length_set]
  by_cases h1 : q = k
  · subst h1; simp [hk]
  · simp only [h1, if_false]
    rw [if_neg (fun e => h1 e.symm)]
    by_cases h2 : q = i
    · subst h2; simp [hi]
    · rw [if_neg (fun e => h2 e.symm)]; simp [h2]

/-! ### the heap -/
def par (i : Nat) : Nat := (i - 1) / 2
theorem par_lt {i : Nat} (h : 0 < i) : par i < i := by unfold par; omega
def Hp (n : Nat) (xs : List Str) : Prop := ∀ i, 0 < i → i < n → lt (at' xs i) (at' xs (par i)) = false

def up (xs : List Str) (j : Nat) : List Str :=
  if h : 0 < j then (if lt (at' xs j) (at' xs (par j)) then up (swp xs (par j) j) (par j) else xs) else xs
termination_by j
decreasing_by exact par_lt h

structure UpI (n : Nat) (xs : List Str) (j : Nat) : Prop where
  len : n ≤ xs.length
  lt : j < n
  out : ∀ i, 0 < i → i < n → i ≠ j → Wt.lt (at' xs i) (at' xs (par i)) = false
  gr : ∀ c, 0 < c → c < n → par c = j → 0 < j → Wt.lt (at' xs c) (at' xs (par j)) = false

theorem UpI.step {n xs j} (I : UpI n xs j) (h0 : 0 < j) (h : Wt.lt (at' xs j) (at' xs (par j)) = true) : UpI n (swp xs (par j) j) (par j) := by
  have hp := par_lt h0
  have hl := I.len
  have hj := I.lt
  have ha := fun q => at_swp (xs := xs) (i := par j) (k := j) (by omega) (by omega) q
  refine ⟨by rw [swp_len]; exact hl, by omega, fun i i0 hi hne => ?_, fun c c0 hc hpc hp0 => ?_⟩
  · rw [ha, ha]
    by_cases e1 : i = j
    · subst e1
      rw [if_pos rfl, if_neg (by omega), if_pos rfl]
      exact lt_asymm h
    · rw [if_neg e1, if_neg hne]
      by_cases e2 : par i = j
      · rw [if_pos e2]; exact I.gr i i0 hi e2 h0
      · rw [if_neg e2]
        by_cases e3 : par i = par j
        · rw [if_pos e3]
          have h1 := I.out i i0 hi e1
          rw [e3] at h1
          exact nlt_trans h1 (lt_asymm h)
        · rw [if_neg e3]; exact I.out i i0 hi e1
  · rw [ha, ha]
    have hpp := par_lt hp0
    rw [if_neg (show par (par j) ≠ j by omega), if_neg (show par (par j) ≠ par j by omega)]
    have h1 := I.out (par j) hp0 (by omega) (by omega)
    by_cases e1 : c = j
    · rw [if_pos e1]; exact h1
    · rw [if_neg e1]
      have := par_lt c0
      rw [if_neg (show c ≠ par j by omega)]
      have h2 := I.out c c0 hc e1
      rw [hpc] at h2
      exact nlt_trans h2 h1

theorem UpI.done {n xs j} (I : UpI n xs j) (h : 0 < j → Wt.lt (at' xs j) (at' xs (par j)) = false) : Hp n xs := by
  intro i i0 hi
  by_cases e : i = j
  · subst e; exact h i0
  · exact I.out i i0 hi e

theorem up_len (xs : List Str) (j : Nat) : (up xs j).length = xs.length := by
  induction j using Nat.strongRecOn generalizing xs with
  | _ j ih =>
    rw [up]
    split
    · rename_i h
      split
      · rw [ih (par j) (par_lt h), swp_len]
      · rfl
    · rfl
theorem up_heap {n : Nat} : ∀ (j : Nat) (xs : List Str), UpI n xs j → Hp n (up xs j) := by
  intro j
  induction j using Nat.strongRecOn with
  | _ j ih =>
    intro xs I
    rw [up]
    split
    · rename_i h0
      split
      · rename_i h; exact ih (par j) (par_lt h0) _ (I.step h0 h)
      · rename_i h; exact I.done (fun _ => by simpa using h)
    · exact I.done (fun h => by omega)

/-- the lesser child -/
def kid (n : Nat) (xs : List Str) (i : Nat) : Nat := if 2 * i + 2 < n && lt (at' xs (2 * i + 2)) (at' xs (2 * i + 1)) then 2 * i + 2 else 2 * i + 1
theorem kid_gt (n xs i) : i < kid n xs i := by unfold kid; split <;> omega
theorem kid_par (n xs i) : par (kid n xs i) = i := by unfold kid par; split <;> omega
theorem kid_lt {n xs i} (h : 2 * i + 1 < n) : kid n xs i < n := by
  unfold kid
  split
  · rename_i h'; simp at h'; omega
  · exact h
def down (n : Nat) (xs : List Str) (i : Nat) : List Str :=
  if h : 2 * i + 1 < n then (if lt (at' xs (kid n xs i)) (at' xs i) then down n (swp xs i (kid n xs i)) (kid n xs i) else xs) else xs
termination_by n - i
decreasing_by
  have := kid_gt n xs i
  omega

structure DnI (n : Nat) (xs : List Str) (i : Nat) : Prop where
  len : n ≤ xs.length
  out : ∀ k, 0 < k → k < n → par k ≠ i → Wt.lt (at' xs k) (at' xs (par k)) = false
  gr : ∀ c, 0 < c → c < n → par c = i → 0 < i → Wt.lt (at' xs c) (at' xs (par i)) = false

theorem kid_least {n : Nat} {xs : List Str} {i c : Nat} (h0 : 0 < c) (hc : c < n) (hp : par c = i) : lt (at' xs c) (at' xs (kid n xs i)) = false := by
  have hcc : c = 2 * i + 1 ∨ c = 2 * i + 2 := by unfold par at hp; omega
  unfold kid
  split
  · rename_i h
    simp only [Bool.and_eq_true, decide_eq_true_eq] at h
    rcases hcc with rfl | rfl
    · exact lt_asymm h.2
    · exact lt_irr _
  · rename_i h
    rcases hcc with rfl | rfl
    · exact lt_irr _
    · simp only [Bool.and_eq_true, decide_eq_true_eq, not_and, Bool.not_eq_true] at h
      exact h hc

theorem DnI.step {n xs i} (I : DnI n xs i) (hk : 2 * i + 1 < n) (h : Wt.lt (at' xs (kid n xs i)) (at' xs i) = true) : DnI n (swp xs i (kid n xs i)) (kid n xs i) := by
  have hg := kid_gt n xs i
  have hp := kid_par n xs i
  have hl := kid_lt (xs := xs) hk
  have hn := I.len
  generalize hj : kid n xs i = j at *
  have ha := fun q => at_swp (xs := xs) (i := i) (k := j) (by omega) (by omega) q
  have hle : ∀ c, 0 < c → c < n → par c = i → Wt.lt (at' xs c) (at' xs j) = false := fun c c0 hc hpc => by rw [← hj]; exact kid_least c0 hc hpc
  refine ⟨by rw [swp_len]; exact hn, fun k k0 hk' hne => ?_, fun c c0 hc hpc hj0 => ?_⟩
  · rw [ha, ha]
    by_cases e1 : k = j
    · subst e1
      rw [if_pos rfl, hp, if_neg (by omega), if_pos rfl]
      exact lt_asymm h
    · rw [if_neg e1, if_neg hne]
      by_cases e2 : par k = i
      · rw [if_pos e2]
        have := par_lt k0
        rw [if_neg (by omega)]
        exact hle k k0 hk' e2
      · rw [if_neg e2]
        by_cases e3 : k = i
        · rw [if_pos e3]
          subst e3
          exact I.gr j (by omega) hl hp k0
        · rw [if_neg e3]; exact I.out k k0 hk' e2
  · have hcj := par_lt c0
    rw [ha, ha, hp]
    rw [if_neg (by omega), if_neg (by omega), if_neg (by omega), if_pos rfl]
    have h2 := I.out c c0 hc (by omega)
    rw [hpc] at h2
    exact h2

theorem DnI.done {n xs i} (I : DnI n xs i) (h : ∀ c, 0 < c → c < n → par c = i → Wt.lt (at' xs c) (at' xs i) = false) : Hp n xs := by
  intro k k0 hk
  by_cases e : par k = i
  · rw [e]; exact h k k0 hk e
  · exact I.out k k0 hk e

theorem down_heap {n : Nat} : ∀ (m i : Nat) (xs : List Str), n - i = m → DnI n xs i → Hp n (down n xs i) := by
  intro m
  induction m using Nat.strongRecOn with
  | _ m ih =>
    intro i xs hm I
    rw [down]
    split
    · rename_i hk
      split
      · rename_i h
        have := kid_gt n xs i
        exact ih (n - kid n xs i) (by omega) _ _ rfl (I.step hk h)
      · rename_i h
        refine I.done fun c c0 hc hp => ?_
        exact nlt_trans (kid_least c0 hc hp) (by simpa using h)
    · rename_i hk
      exact I.done fun c c0 hc hp => by unfold par at hp; omega
theorem down_len {n : Nat} : ∀ (m i : Nat) (xs : List Str), n - i = m → (down n xs i).length = xs.length := by
  intro m
  induction m using Nat.strongRecOn with
  | _ m ih =>
    intro i xs hm
    rw [down]
    split
    · rename_i hk
      split
      · have := kid_gt n xs i
        rw [ih (n - kid n xs i) (by omega) _ _ rfl, swp_len]
      · rfl
    · rfl

/-- the least stands first -/
theorem Hp.least {n : Nat} {xs : List Str} (H : Hp n xs) : ∀ k, k < n → lt (at' xs k) (at' xs 0) = false := by
  intro k
  induction k using Nat.strongRecOn with
  | _ k ih =>
    intro hk
    rcases Nat.eq_zero_or_pos k with h | h
    · subst h; exact lt_irr _
    · exact nlt_trans (H k h hk) (ih (par k) (par_lt h) (by have := par_lt h; omega))
end Go.AL.Wt

/- The heap of names: pushing and taking, in plain Lean. No condition. -/
set_option linter.unusedVariables false
set_option linter.unusedSimpArgs false
namespace Go.AL.Wt
open Go Go.AL
theorem swp_perm {xs : List Str} {i k : Nat} (hi : i < xs.length) (hk : k < xs.length) : List.Perm (swp xs i k) xs := by
  have := List.set_set_perm hi hk
  simpa [swp, at', List.getD, hi, hk] using this
theorem at_take {xs : List Str} {n k : Nat} (hk : k < n) : at' (xs.take n) k = at' xs k := by
  simp [at', List.getD, List.getElem?_take, hk]
theorem take_swp {xs : List Str} {n i k : Nat} (hi : i < n) (hk : k < n) : (swp xs i k).take n = swp (xs.take n) i k := by
  simp only [swp, List.take_set, at_take hi, at_take hk]
theorem take_swp_perm {xs : List Str} {n i k : Nat} (hi : i < n) (hk : k < n) (hn : n ≤ xs.length) : ((swp xs i k).take n).Perm (xs.take n) := by
  rw [take_swp hi hk]
  exact swp_perm (by simp; omega) (by simp; omega)
theorem up_perm {n : Nat} : ∀ (j : Nat) (xs : List Str), j < n → n ≤ xs.length → ((up xs j).take n).Perm (xs.take n) := by
  intro j
  induction j using Nat.strongRecOn with
  | _ j ih =>
    intro xs hj hn
    rw [up]
    split
    · rename_i h0
      split
      · have := par_lt h0
        exact (ih (par j) this _ (by omega) (by rw [swp_len]; exact hn)).trans (take_swp_perm (by omega) hj hn)
      · exact .refl _
    · exact .refl _
theorem down_perm {n : Nat} : ∀ (m i : Nat) (xs : List Str), n - i = m → n ≤ xs.length → ((down n xs i).take n).Perm (xs.take n) := by
  intro m
  induction m using Nat.strongRecOn with
  | _ m ih =>
    intro i xs hm hn
    rw [down]
    split
    · rename_i hk
      split
      · have h1 := kid_gt n xs i
        have h2 := kid_lt (xs := xs) hk
        exact (ih (n - kid n xs i) (by omega) _ _ rfl (by rw [swp_len]; exact hn)).trans (take_swp_perm (by omega) h2 hn)
      · exact .refl _
    · exact .refl _
theorem down_out {n q : Nat} (hq : n ≤ q) : ∀ (m i : Nat) (xs : List Str), n - i = m → n ≤ xs.length → at' (down n xs i) q = at' xs q := by
  intro m
  induction m using Nat.strongRecOn with
  | _ m ih =>
    intro i xs hm hn
    rw [down]
    split
    · rename_i hk
      split
      · have h1 := kid_gt n xs i
        have h2 := kid_lt (xs := xs) hk
        rw [ih (n - kid n xs i) (by omega) _ _ rfl (by rw [swp_len]; exact hn), at_swp (by omega) (by omega), if_neg (by omega), if_neg (by omega)]
      · rfl
    · rfl

/-- the heap holds these names -/
structure Wl (n : Nat) (xs ws : List Str) : Prop where
  len : n ≤ xs.length
  hp : Hp n xs
  perm : (xs.take n).Perm ws
theorem Wl.size {n xs ws} (W : Wl n xs ws) : n = ws.length := by
  have := W.perm.length_eq
  have := W.len
  simp at *; omega
theorem Wl.nil : Wl 0 [] [] := ⟨Nat.le_refl _, fun i _ h => by omega, by simp⟩
def Srt (l : List Str) : Prop := l.Pairwise fun a b => lt a b = true
theorem Srt.nodup {l : List Str} (h : Srt l) : l.Nodup := h.imp fun {a b} h e => by subst e; rw [lt_irr] at h; exact absurd h (by simp)

theorem at_app {xs : List Str} {n i : Nat} {s : Str} (hn : n ≤ xs.length) (hi : i < n) : at' (xs.take n ++ [s]) i = at' xs i := by
  simp [at', List.getD, List.getElem?_append, show i < min n xs.length by omega, show i < xs.length by omega, hi]
theorem Wl.push {n xs ws ws'} (W : Wl n xs ws) (s : Str) (hp : ws'.Perm (s :: ws)) : Wl (n + 1) (up (xs.take n ++ [s]) n) ws' := by
  have hl := W.len
  have hlen : n + 1 ≤ (xs.take n ++ [s]).length := by simp; omega
  refine ⟨by rw [up_len]; exact hlen, up_heap n _ ⟨hlen, by omega, fun i i0 hi hne => ?_, fun c c0 hc hp _ => ?_⟩, ?_⟩
  · have hpar := par_lt i0
    rw [at_app hl (by omega), at_app hl (by omega)]
    exact W.hp i i0 (by omega)
  · have := par_lt c0
    omega
  · refine (up_perm n _ (by omega) hlen).trans ?_
    have h1 : (xs.take n ++ [s]).take (n + 1) = xs.take n ++ [s] := List.take_of_length_le (by simp; omega)
    rw [h1]
    refine List.perm_append_comm.trans ?_
    simp only [List.singleton_append]
    exact (W.perm.cons s).trans hp.symm
def popH (n : Nat) (xs : List Str) : List Str := down n (swp xs 0 n) 0
theorem Wl.pop {n xs ws} (W : Wl (n + 1) xs ws) (hs : Srt ws) : ∃ w r, ws = w :: r ∧ at' (popH n xs) n = w ∧ Wl n (popH n xs) r ∧ Srt r ∧ n + 1 ≤ (popH n xs).length := by
  have hl := W.len
  have hsz := W.size
  cases ws with
  | nil => simp at hsz
  | cons w r =>
    have hw : at' xs 0 = w := by
      have h1 : at' xs 0 ∈ w :: r := W.perm.mem_iff.1 (by
        rw [← at_take (n := n + 1) (by omega : 0 < n + 1)]
        simp only [at', List.getD]
        rw [List.getElem?_eq_getElem (by simp; omega)]
        simp only [Option.getD_some]
        exact List.getElem_mem _)
      have h2 : w ∈ xs.take (n + 1) := W.perm.mem_iff.2 (by simp)
      obtain ⟨k, hk, e⟩ := List.getElem_of_mem h2
      simp at hk
      have h3 : at' xs k = w := by
        rw [← at_take (n := n + 1) (by omega : k < n + 1)]
        simp only [at', List.getD]
        rw [List.getElem?_eq_getElem (by simp; omega), Option.getD_some, e]
      have h4 := W.hp.least k (by omega)
      rw [h3] at h4
      rcases List.mem_cons.1 h1 with h | h
      · exact h
      · have := (List.pairwise_cons.1 hs).1 _ h
        rw [h4] at this; simp at this
    have h0 : n + 1 ≤ (swp xs 0 n).length := by rw [swp_len]; exact hl
    have hn : at' (swp xs 0 n) n = w := by rw [at_swp (by omega) (by omega), if_pos rfl, hw]
    refine ⟨w, r, rfl, ?_, ⟨?_, ?_, ?_⟩, (List.pairwise_cons.1 hs).2, ?_⟩
    · rw [popH, down_out (Nat.le_refl n) _ _ _ rfl (by omega), hn]
    · rw [popH, down_len _ _ _ rfl]; omega
    · refine down_heap _ _ _ rfl ⟨by omega, fun k k0 hk hp => ?_, fun _ _ _ _ h => by omega⟩
      have := par_lt k0
      rw [at_swp (by omega) (by omega), at_swp (by omega) (by omega), if_neg (by omega), if_neg (by omega), if_neg (by omega), if_neg hp]
      exact W.hp k k0 (by omega)
    · refine (down_perm _ _ _ rfl (by omega)).trans ?_
      have h1 := (take_swp_perm (n := n + 1) (i := 0) (k := n) (xs := xs) (by omega) (by omega) hl).trans W.perm
      have h2 : (swp xs 0 n).take (n + 1) = (swp xs 0 n).take n ++ [w] := by
        rw [List.take_add_one, List.getElem?_eq_getElem (by omega)]
        simp only [Option.toList_some]
        rw [← hn]
        simp [at', List.getD, List.getElem?_eq_getElem (show n < (swp xs 0 n).length by omega)]
      rw [h2] at h1
      exact List.Perm.cons_inv (List.perm_append_comm.trans h1)
    · rw [popH, down_len _ _ _ rfl]; exact h0

/-! ### the reference's -/
def put : List Str → Str → List Str
  | [], s => [s]
  | x :: r, s => if lt x s then x :: put r s else if x = s then x :: r else s :: x :: r
theorem put_mem : ∀ (l : List Str) (s y : Str), y ∈ put l s ↔ y = s ∨ y ∈ l
  | [], s, y => by simp [put]
  | x :: r, s, y => by
    simp only [put]
    split
    · simp only [List.mem_cons, put_mem r s y]
      constructor
      · rintro (h | h | h) <;> simp [h]
      · rintro (h | h | h) <;> simp [h]
    · split
      · rename_i h; subst h; simp
      · simp
theorem put_srt : ∀ (l : List Str) (s : Str), Srt l → Srt (put l s)
  | [], s, _ => by simp [put, Srt]
  | x :: r, s, h => by
    obtain ⟨h1, h2⟩ := List.pairwise_cons.1 h
    simp only [put]
    split
    · rename_i hx
      refine List.pairwise_cons.2 ⟨fun y hy => ?_, put_srt r s h2⟩
      rcases (put_mem r s y).1 hy with rfl | hy
      · exact hx
      · exact h1 y hy
    · split
      · exact h
      · rename_i hx hne
        have hsx : lt s x = true := by
          cases hc : lt s x with
          | true => rfl
          | false => exact absurd (lt_conn (by simpa using hx) hc) hne
        refine List.pairwise_cons.2 ⟨fun y hy => ?_, h⟩
        rcases List.mem_cons.1 hy with rfl | hy
        · exact hsx
        · exact lt_trans hsx (h1 y hy)
theorem put_perm : ∀ (l : List Str) (s : Str), s ∉ l → (put l s).Perm (s :: l)
  | [], s, _ => .refl _
  | x :: r, s, h => by
    simp only [List.mem_cons, not_or] at h
    simp only [put]
    split
    · exact ((put_perm r s h.2).cons x).trans (.swap _ _ _)
    · rw [if_neg (fun e => h.1 e.symm)]
end Go.AL.Wt

/- The worklist, in plain Lean. No condition. -/
set_option linter.unusedVariables false
set_option linter.unusedSimpArgs false
namespace Go.AL.Wt
open Go Go.AL
theorem mget_mset (a b : ByteArray) (v : D) : ∀ es : Ents, mget (mset es (.string a) v) (.string b) = if b.data.toList = a.data.toList then some v else mget es (.string b)
  | [] => by
    simp only [mset, mget, keyB]
    by_cases h : b.data.toList = a.data.toList <;> simp [h]
  | e :: r => by
    simp only [mset]
    cases hk : keyB (.string a) e.1 with
    | true =>
      simp only [mget]
      have hkk : keyB (.string b) (.string a) = decide (b.data.toList = a.data.toList) := rfl
      rw [hkk]
      by_cases h : b.data.toList = a.data.toList
      · simp [h]
      · have : keyB (.string b) e.1 = false := by
          unfold keyB at hk ⊢
          split at hk
          · rename_i x y e1 e2
            injection e1 with e1; subst e1
            rw [e2]
            have := of_decide_eq_true hk
            simp only [decide_eq_false_iff_not]
            rw [← this]; exact h
          · simp at hk
        simp [h, this]
    | false =>
      simp only [mget]
      rw [mget_mset a b v r]
      by_cases h : b.data.toList = a.data.toList
      · have : keyB (.string b) e.1 = false := by
          unfold keyB at hk ⊢
          split
          · rename_i x y e1 e2
            injection e1 with e1; subst e1
            rw [e2] at hk
            simp only [decide_eq_false_iff_not] at hk ⊢
            rw [h]; exact hk
          · rfl
        simp [h, this]
      · simp [h]
theorem strKeys_mset (a : ByteArray) (v : D) : ∀ es : Ents, strKeys es → strKeys (mset es (.string a) v)
  | [], _ => fun e he => by simp [mset] at he; subst he; exact ⟨a, rfl⟩
  | x :: r, h => fun e he => by
    simp only [mset] at he
    split at he
    · rcases List.mem_cons.1 he with rfl | he
      · exact ⟨a, rfl⟩
      · exact h e (by simp [he])
    · rcases List.mem_cons.1 he with rfl | he
      · exact h e (by simp)
      · exact strKeys_mset a v r (fun y hy => h y (by simp [hy])) e he
/-- the map holds these names -/
structure Sn (es : Ents) (seen : List Str) : Prop where
  keys : strKeys es
  look : ∀ b : ByteArray, lookD es b (.bool false) false = vB (decide (b.data.toList ∈ seen))
theorem Sn.nil : Sn [] [] := ⟨fun e he => by simp at he, fun b => by simp [lookD, mget, zeroD, constD]⟩
theorem Sn.set {es seen} (h : Sn es seen) (s : Str) : Sn (mset es (.string (sB s)) (vB true)) (seen ++ [s]) := by
  refine ⟨strKeys_mset _ _ _ h.keys, fun b => ?_⟩
  have hl := h.look b
  simp only [lookD, mget_mset] at hl ⊢
  by_cases hb : b.data.toList = (sB s).data.toList
  · have hb' : b.data.toList = s := hb
    rw [if_pos hb]; simp [hb']
  · have hb' : ¬ b.data.toList = s := hb
    rw [if_neg hb, hl]
    simp [hb']
theorem Sn.look' {es seen} (h : Sn es seen) (s : Str) : lookD es (sB s) (.bool false) false = vB (decide (s ∈ seen)) := h.look _

/-- the list of the program -/
structure Hs where
  g : Nat
  n : Nat
  xs : List Str
  es : Ents
def hasB (es : Ents) (s : Str) : Bool := match lookD es (sB s) (.bool false) false with | .v (.bool b) => b | _ => false
def Hs.add1 (h : Hs) (s : Str) : Hs := match hasB h.es s with | true => h | false => ⟨h.g + 1, h.n + 1, up (h.xs.take h.n ++ [s]) h.n, mset h.es (.string (sB s)) (vB true)⟩
def Hs.addL (h : Hs) (l : List Str) : Hs := l.foldl Hs.add1 h
/-- the list of the reference -/
abbrev Rs := List Str × List Str
def Rs.add1 (r : Rs) (s : Str) : Rs := if s ∈ r.2 then r else (put r.1 s, r.2 ++ [s])
def Rs.addL (r : Rs) (l : List Str) : Rs := l.foldl Rs.add1 r
structure Rl (h : Hs) (r : Rs) : Prop where
  wl : Wl h.n h.xs r.1
  srt : Srt r.1
  sn : Sn h.es r.2
  sub : ∀ s ∈ r.1, s ∈ r.2
theorem Rl.has {h r} (R : Rl h r) (s : Str) : hasB h.es s = decide (s ∈ r.2) := by
  simp only [hasB, R.sn.look']
theorem Rl.add1 {h : Hs} {r : Rs} (R : Rl h r) (s : Str) : Rl (h.add1 s) (r.add1 s) := by
  unfold Hs.add1 Rs.add1
  rw [R.has]
  by_cases hs : s ∈ r.2
  · simp only [hs, decide_true, if_true]; exact R
  · simp only [hs, decide_false, if_false]
    refine ⟨R.wl.push s (put_perm _ _ (fun h => hs (R.sub _ h))), put_srt _ _ R.srt, R.sn.set s, fun y hy => ?_⟩
    rcases (put_mem _ _ _).1 hy with rfl | hy
    · simp
    · simp [R.sub _ hy]
theorem Rl.addL : ∀ (l : List Str) {h : Hs} {r : Rs}, Rl h r → Rl (h.addL l) (r.addL l)
  | [], h, r, R => R
  | s :: l, h, r, R => Rl.addL l (R.add1 s)
theorem Hs.add1_n (h : Hs) (s : Str) : h.n ≤ (h.add1 s).n ∧ (h.add1 s).n ≤ h.n + 1 := by
  unfold Hs.add1; split <;> simp
theorem Hs.addL_n : ∀ (l : List Str) (h : Hs), h.n ≤ (h.addL l).n ∧ (h.addL l).n ≤ h.n + l.length
  | [], h => by simp [addL]
  | s :: l, h => by
    have h1 := add1_n h s
    have h2 := addL_n l (h.add1 s)
    simp only [addL, List.foldl_cons, List.length_cons] at *
    omega
theorem Hs.addL_take {h : Hs} {l : List Str} {k : Nat} {s : Str} (hk : l[k]? = some s) : h.addL (l.take (k + 1)) = (h.addL (l.take k)).add1 s := by
  simp [addL, List.take_add_one, hk]
theorem Rs.addL_take {h : Rs} {l : List Str} {k : Nat} {s : Str} (hk : l[k]? = some s) : h.addL (l.take (k + 1)) = (h.addL (l.take k)).add1 s := by
  simp [addL, List.take_add_one, hk]
theorem Rl.zero : Rl ⟨0, 0, [], []⟩ ([], []) := ⟨Wl.nil, .nil, Sn.nil, fun s h => by simp at h⟩
def Hs.pop (h : Hs) : Hs := ⟨h.g, h.n - 1, popH (h.n - 1) h.xs, h.es⟩
def Hs.top (h : Hs) : Str := at' (popH (h.n - 1) h.xs) (h.n - 1)
theorem Rl.pop {h : Hs} {w : Str} {ws seen : List Str} (R : Rl h (w :: ws, seen)) : h.top = w ∧ Rl h.pop (ws, seen) := by
  have hsz := R.wl.size
  have h1 : h.n = (h.n - 1) + 1 := by simp at hsz; omega
  have W := R.wl
  rw [h1] at W
  obtain ⟨w', r', e, h2, h3, h4, h5⟩ := W.pop R.srt
  injection e with e1 e2
  subst e1; subst e2
  exact ⟨h2, ⟨h3, h4, R.sn, fun s hs => R.sub s (by simp [hs])⟩⟩
end Go.AL.Wt
