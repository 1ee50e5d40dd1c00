/- The walks through small functions of archive maps. No condition. -/
import Derived.Test.YtfacepcmpijdpaaAnC
import Derived.Test.YtfacepcmpijdpaaAnp
import Derived.Test.YtfacepcmpijdpaaProg
import Derived.KernelRfl
set_option linter.unusedVariables false
set_option linter.unusedSimpArgs false
namespace Go.Proofs.Ytfacepcmpijdpaa
open Go Go.AL Go.AL.Ap
theorem hT : TOk Try.prog (tabOf Try.prog) := tabOf_ok _
theorem hmix : Try.prog.follows .mixedOrders = true := by kernel_rfl
def Gl : Glob := { g := fun _ => [] }
set_option maxRecDepth 100000
theorem ibs (s : Str) (c : Int) : ECall Try.prog 63 [sD s, .v (.int .u8 c)] (vI (Lib.indexByte s c.toNat.toUInt8)) :=
  ibs_ Try.func63 (by kernel_rfl) (by kernel_rfl) (by kernel_rfl) (by kernel_rfl) s c
theorem ibb (s : List UInt8) (c : Int) : ECall Try.prog 56 [LB s, .v (.int .u8 c)] (vI (Lib.indexByte s c.toNat.toUInt8)) :=
  ibb_ Try.func56 (by kernel_rfl) (by kernel_rfl) (by kernel_rfl) (by kernel_rfl) s c
theorem has0 (s : Str) : decide (0 ≤ Lib.indexByte s 0) = decide ((0 : UInt8) ∈ s) := by
  rw [ib_spec]
  by_cases h : (0 : UInt8) ∈ s
  · have : s.dropWhile isz ≠ [] := by
      intro e
      have h2 := List.takeWhile_append_dropWhile (p := isz) (l := s)
      rw [e, List.append_nil] at h2
      have h3 := List.all_takeWhile (p := isz) (l := s)
      rw [h2] at h3
      have := List.all_eq_true.1 h3 0 h
      simp [isz] at this
    rw [if_neg this]; simp [h]
  · have := dw_app (isz_of h) []
    simp only [List.append_nil, List.dropWhile_nil] at this
    rw [if_pos this]; simp [h]
theorem sibyte_ (s : Str) (c : Int) : FCall Try.prog Gl 59 [sD s, .v (.int .u8 c)] [] (vI (Lib.indexByte s c.toNat.toUInt8)) [] := by
  refine FCall.enterL hT hmix [] Try.func59 rfl rfl rfl fun hbd => ?_
  (conv => whnf)
  refine CallLeaf.e (Wks.cons (Wk.refl _) (Wks.cons (Wk.refl _) Wks.nil)) (ibs s c) ?_
  (conv => whnf)
  exact Wk.refl _
theorem bibyte_ (s : List UInt8) (c : Int) : FCall Try.prog Gl 47 [LB s, .v (.int .u8 c)] [] (vI (Lib.indexByte s c.toNat.toUInt8)) [] := by
  refine FCall.enterL hT hmix [] Try.func47 rfl rfl rfl fun hbd => ?_
  (conv => whnf)
  refine CallLeaf.e (Wks.cons (Wk.refl _) (Wks.cons (Wk.refl _) Wks.nil)) (ibb s c) ?_
  (conv => whnf)
  exact Wk.refl _
theorem slindex_ (s : Str) (c : UInt8) : FCall Try.prog Gl 58 [sD s, sD [c]] [] (vI (Lib.indexByte s c)) [] := by
  have h1 := sibyte_ s (c.toNat : Int)
  simp only [Int.toNat_natCast, Nat.toUInt8] at h1
  refine FCall.enterL hT hmix [] Try.func58 rfl rfl rfl fun hbd => ?_
  (conv => whnf)
  refine split_intro (fun h => ?_) (fun h => ?_)
  · have e : [c] = s := of_decide_eq_true h
    subst e
    (conv => whnf)
    exact Wk.int (by simp [Lib.indexByte])
  · (conv => whnf)
    refine ⟨c, ⟨by decide, rfl⟩, ?_⟩
    (conv => whnf)
    refine CallLeaf.w (by (repeat' (first | exact ArgsTo.nil | refine ArgsTo.cons ?_ ?_ | exact ArgTo.mk' rfl (Wk.refl _) | exact ArgTo.mk' rfl Wk.nilm | exact ArgTo.mk' rfl (Wk.int (by simp)) | exact ArgTo.mk' rfl (Wk.list _ _) | exact ArgTo.mk' rfl (Wk.agg (by (repeat' (first | exact Wks.nil | refine Wks.cons ?_ ?_ | exact Wk.refl _ | exact Wk.nilm | exact Wk.list _ _  | exact Wk.natN rfl | refine Wk.agg ?_))))))) (h1) rfl ?_
    (conv => whnf)
    exact Wk.int (by simp)
theorem sindex_ (s : Str) (c : UInt8) : FCall Try.prog Gl 55 [sD s, sD [c]] [] (vI (Lib.indexByte s c)) [] := by
  refine FCall.enterL hT hmix [] Try.func55 rfl rfl rfl fun hbd => ?_
  (conv => whnf)
  refine CallLeaf.w (by (repeat' (first | exact ArgsTo.nil | refine ArgsTo.cons ?_ ?_ | exact ArgTo.mk' rfl (Wk.refl _) | exact ArgTo.mk' rfl Wk.nilm | exact ArgTo.mk' rfl (Wk.int (by simp)) | exact ArgTo.mk' rfl (Wk.list _ _) | exact ArgTo.mk' rfl (Wk.agg (by (repeat' (first | exact Wks.nil | refine Wks.cons ?_ ?_ | exact Wk.refl _ | exact Wk.nilm | exact Wk.list _ _  | exact Wk.natN rfl | refine Wk.agg ?_))))))) (slindex_ s c) rfl ?_
  (conv => whnf)
  exact Wk.refl _
theorem contains0_ (s : Str) : FCall Try.prog Gl 45 [sD s, sD [0]] [] (vB (decide ((0 : UInt8) ∈ s))) [] := by
  refine FCall.enterL hT hmix [] Try.func45 rfl rfl rfl fun hbd => ?_
  (conv => whnf)
  refine CallLeaf.w (by (repeat' (first | exact ArgsTo.nil | refine ArgsTo.cons ?_ ?_ | exact ArgTo.mk' rfl (Wk.refl _) | exact ArgTo.mk' rfl Wk.nilm | exact ArgTo.mk' rfl (Wk.int (by simp)) | exact ArgTo.mk' rfl (Wk.list _ _) | exact ArgTo.mk' rfl (Wk.agg (by (repeat' (first | exact Wks.nil | refine Wks.cons ?_ ?_ | exact Wk.refl _ | exact Wk.nilm | exact Wk.list _ _  | exact Wk.natN rfl | refine Wk.agg ?_))))))) (sindex_ s 0) rfl ?_
  (conv => whnf)
  exact Wk.bool (has0 s)
theorem fits_ (e : Ent) : FCall Try.prog Gl 33 [.agg e.enc] [] (vB (fits e)) [] := by
  obtain ⟨s, n⟩ := e
  refine FCall.enterL hT hmix [] Try.func33 rfl rfl rfl fun hbd => ?_
  (conv => whnf)
  refine split_intro (fun h => ?_) (fun h => ?_)
  · have h' : s ≠ [] := by have := h; simp at this; intro e; subst e; exact this rfl
    (conv => whnf)
    refine CallLeaf.w (by (repeat' (first | exact ArgsTo.nil | refine ArgsTo.cons ?_ ?_ | exact ArgTo.mk' rfl (Wk.refl _) | exact ArgTo.mk' rfl Wk.nilm | exact ArgTo.mk' rfl (Wk.int (by simp)) | exact ArgTo.mk' rfl (Wk.list _ _) | exact ArgTo.mk' rfl (Wk.agg (by (repeat' (first | exact Wks.nil | refine Wks.cons ?_ ?_ | exact Wk.refl _ | exact Wk.nilm | exact Wk.list _ _  | exact Wk.natN rfl | refine Wk.agg ?_))))))) (contains0_ s) rfl ?_
    (conv => whnf)
    refine split_intro (fun h1 => ?_) (fun h1 => ?_)
    · have h1' : (0 : UInt8) ∉ s := by simpa using h1
      (conv => whnf)
      refine split_intro (fun h2 => ?_) (fun h2 => ?_)
      · (conv => whnf)
        exact Wk.bool (by have := of_decide_eq_true h2; simp [fits, h', h1', this])
      · (conv => whnf)
        exact Wk.bool (by have := of_decide_eq_false h2; simp [fits, h', h1', this])
    · have h1' : (0 : UInt8) ∈ s := by simpa using h1
      (conv => whnf)
      exact Wk.bool (by simp [fits, h1'])
  · have h' : s = [] := by
      cases s with
      | nil => rfl
      | cons x r => exact absurd h (by simp)
    subst h'
    (conv => whnf)
    exact Wk.bool (by simp [fits])
end Go.Proofs.Ytfacepcmpijdpaa

/- Words of four bytes. No condition. -/
set_option linter.unusedVariables false
set_option linter.unusedSimpArgs false
namespace Go.Proofs.Ytfacepcmpijdpaa
open Go Go.AL Go.AL.Ap
set_option maxRecDepth 100000
abbrev B (l : List UInt8) : List (List D) := l.map byteD
theorem word_ (n : Nat) (hn : n < 4294967296) : FCall Try.prog Gl 34 [vI n] [] (LBn (W4 n)) [] := by
  refine FCall.enterL hT hmix [] Try.func34 rfl rfl rfl fun hbd => ?_
  (conv => whnf)
  refine ⟨_, quo64k (b := 16777216) rfl (by omega) (by omega), ?_⟩
  (conv => whnf)
  refine ⟨_, wrapU8 _, ?_⟩
  (conv => whnf)
  refine ⟨_, quo64k (b := 65536) rfl (by omega) (by omega), ?_⟩
  (conv => whnf)
  refine ⟨_, wrapU8 _, ?_⟩
  (conv => whnf)
  refine ⟨_, quo64k (b := 256) rfl (by omega) (by omega), ?_⟩
  (conv => whnf)
  refine ⟨_, wrapU8 _, ?_⟩
  (conv => whnf)
  refine ⟨_, wrapU8 _, ?_⟩
  (conv => whnf)
  exact Wk.nat' rfl
theorem wordT_ (n : Nat) (hn : n < 4294967296) : FCall Try.prog Gl 34 [vI n] [] (.list (.tok 0) (B (W4 n))) [.tok (B (W4 n)).length 1] := by
  refine FCall.enterO hT hmix [] Try.func34 rfl rfl rfl fun hbd => ?_
  (conv => whnf)
  refine ⟨_, quo64k (b := 16777216) rfl (by omega) (by omega), ?_⟩
  (conv => whnf)
  refine ⟨_, wrapU8 _, ?_⟩
  (conv => whnf)
  refine ⟨_, quo64k (b := 65536) rfl (by omega) (by omega), ?_⟩
  (conv => whnf)
  refine ⟨_, wrapU8 _, ?_⟩
  (conv => whnf)
  refine ⟨_, quo64k (b := 256) rfl (by omega) (by omega), ?_⟩
  (conv => whnf)
  refine ⟨_, wrapU8 _, ?_⟩
  (conv => whnf)
  refine ⟨_, wrapU8 _, ?_⟩
  (conv => whnf)
  refine ⟨[600], rfl, by (try unfold pullOk); (repeat' (first | exact trivial | exact ObWk.refl _ | refine And.intro ?_ ?_ | unfold pullOk)), ?_⟩
  exact Wk.refl _
theorem put_ (xs : List UInt8) (n : Nat) (hn : n < 4294967296) (hb : xs.length ≤ 1000000000) :
    FCall Try.prog Gl 32 [.list (.tok 0) (B xs), vI n] [.tok (B xs).length 1] (.list (.tok 0) (B (xs ++ W4 n))) [.tok (B (xs ++ W4 n)).length 1] := by
  refine FCall.enterO hT hmix [] Try.func32 rfl rfl rfl fun hbd => ?_
  (conv => whnf)
  refine ⟨_, shr64n n 24 (by omega), ?_⟩
  (conv => whnf)
  refine ⟨_, wrapU8 _, ?_⟩
  (conv => whnf)
  refine ⟨_, shr64n n 16 (by omega), ?_⟩
  (conv => whnf)
  refine ⟨_, wrapU8 _, ?_⟩
  (conv => whnf)
  refine ⟨_, shr64n n 8 (by omega), ?_⟩
  (conv => whnf)
  refine ⟨_, wrapU8 _, ?_⟩
  (conv => whnf)
  refine ⟨_, wrapU8 _, ?_⟩
  (conv => whnf)
  refine ⟨_, appL (f := byteD) (xs := xs) (ys := W4 n) (zs := xs ++ W4 n) rfl rfl (fun _ => rfl) rfl (by rw [List.length_append, W4_len]; show _ * 1 ≤ _; omega), ?_⟩
  (conv => whnf)
  refine ⟨[0], rfl, by (try unfold pullOk); (repeat' (first | exact trivial | exact ObWk.refl _ | refine And.intro ?_ ?_ | unfold pullOk)), ?_⟩
  exact Wk.refl _
theorem put0_ (n : Nat) (hn : n < 4294967296) :
    FCall Try.prog Gl 32 [.nil, vI n] [] (.list (.tok 0) (B (W4 n))) [.tok (B (W4 n)).length 1] := by
  refine FCall.enterO hT hmix [] Try.func32 rfl rfl rfl fun hbd => ?_
  (conv => whnf)
  refine ⟨_, shr64n n 24 (by omega), ?_⟩
  (conv => whnf)
  refine ⟨_, wrapU8 _, ?_⟩
  (conv => whnf)
  refine ⟨_, shr64n n 16 (by omega), ?_⟩
  (conv => whnf)
  refine ⟨_, wrapU8 _, ?_⟩
  (conv => whnf)
  refine ⟨_, shr64n n 8 (by omega), ?_⟩
  (conv => whnf)
  refine ⟨_, wrapU8 _, ?_⟩
  (conv => whnf)
  refine ⟨_, wrapU8 _, ?_⟩
  (conv => whnf)
  refine ⟨_, appN (f := byteD) (ys := W4 n) (s0 := 1) (fun _ => rfl) (by rw [W4_len]; show _ * 1 ≤ _; omega), ?_⟩
  (conv => whnf)
  refine ⟨[616], rfl, by (try unfold pullOk); (repeat' (first | exact trivial | exact ObWk.refl _ | refine And.intro ?_ ?_ | unfold pullOk)), ?_⟩
  exact Wk.refl _
end Go.Proofs.Ytfacepcmpijdpaa

/- Numbers of four bytes. No condition. -/
set_option linter.unusedVariables false
set_option linter.unusedSimpArgs false
namespace Go.Proofs.Ytfacepcmpijdpaa
open Go Go.AL Go.AL.Ap
set_option maxRecDepth 100000
theorem num4 (a b c d : UInt8) (r : List UInt8) : num (a :: b :: c :: d :: r) = ((a.toNat * 256 + b.toNat) * 256 + c.toNat) * 256 + d.toNat := rfl
theorem split4 : ∀ {b : List UInt8}, 4 ≤ b.length → ∃ x y z w r, b = x :: y :: z :: w :: r
  | x :: y :: z :: w :: r, _ => ⟨x, y, z, w, r, rfl⟩
theorem number_ (b : List UInt8) (hb : 4 ≤ b.length) : FCall Try.prog Gl 38 [LB b] [] (vI (num b)) [] := by
  obtain ⟨x, y, z, w, r, rfl⟩ := split4 hb
  have hx := x.toNat_lt
  have hy := y.toNat_lt
  have hz := z.toNat_lt
  have hw := w.toNat_lt
  refine FCall.enterL hT hmix [] Try.func38 rfl rfl rfl fun hbd => ?_
  (conv => whnf)
  refine ⟨_, ⟨by decide, rfl⟩, ?_⟩
  (conv => whnf)
  refine ⟨_, wrap64 (by omega), ?_⟩
  (conv => whnf)
  refine ⟨_, mulN (b := 256) rfl rfl (by omega), ?_⟩
  (conv => whnf)
  refine ⟨_, ⟨by decide, rfl⟩, ?_⟩
  (conv => whnf)
  refine ⟨_, wrap64 (by omega), ?_⟩
  (conv => whnf)
  refine ⟨_, addN rfl (by omega), ?_⟩
  (conv => whnf)
  refine ⟨_, mulN (b := 256) rfl rfl (by omega), ?_⟩
  (conv => whnf)
  refine ⟨_, ⟨by decide, rfl⟩, ?_⟩
  (conv => whnf)
  refine ⟨_, wrap64 (by omega), ?_⟩
  (conv => whnf)
  refine ⟨_, addN rfl (by omega), ?_⟩
  (conv => whnf)
  refine ⟨_, mulN (b := 256) rfl rfl (by omega), ?_⟩
  (conv => whnf)
  refine ⟨_, ⟨by decide, rfl⟩, ?_⟩
  (conv => whnf)
  refine ⟨_, wrap64 (by omega), ?_⟩
  (conv => whnf)
  refine ⟨_, addN rfl (by omega), ?_⟩
  (conv => whnf)
  exact Wk.refl _
theorem get_ (b : List UInt8) (hb : 4 ≤ b.length) : FCall Try.prog Gl 36 [LB b] [] (vI (num b)) [] := by
  obtain ⟨x, y, z, w, r, rfl⟩ := split4 hb
  have hx := x.toNat_lt
  have hy := y.toNat_lt
  have hz := z.toNat_lt
  have hw := w.toNat_lt
  refine FCall.enterL hT hmix [] Try.func36 rfl rfl rfl fun hbd => ?_
  (conv => whnf)
  refine ⟨_, ⟨by decide, rfl⟩, ?_⟩
  (conv => whnf)
  refine ⟨_, wrap64 (by omega), ?_⟩
  (conv => whnf)
  refine ⟨_, shl64n (k := 24) (by omega) rfl (by omega), ?_⟩
  (conv => whnf)
  refine ⟨_, ⟨by decide, rfl⟩, ?_⟩
  (conv => whnf)
  refine ⟨_, wrap64 (by omega), ?_⟩
  (conv => whnf)
  refine ⟨_, shl64n (k := 16) (by omega) rfl (by omega), ?_⟩
  (conv => whnf)
  refine ⟨_, or64n (x.toNat) 24 rfl (by omega) rfl (by omega), ?_⟩
  (conv => whnf)
  refine ⟨_, ⟨by decide, rfl⟩, ?_⟩
  (conv => whnf)
  refine ⟨_, wrap64 (by omega), ?_⟩
  (conv => whnf)
  refine ⟨_, shl64n (k := 8) (by omega) rfl (by omega), ?_⟩
  (conv => whnf)
  refine ⟨_, or64n (x.toNat * 256 + y.toNat) 16 (by omega) (by omega) rfl (by omega), ?_⟩
  (conv => whnf)
  refine ⟨_, ⟨by decide, rfl⟩, ?_⟩
  (conv => whnf)
  refine ⟨_, wrap64 (by omega), ?_⟩
  (conv => whnf)
  refine ⟨_, or64n ((x.toNat * 256 + y.toNat) * 256 + z.toNat) 8 (by omega) (by omega) rfl (by omega), ?_⟩
  (conv => whnf)
  exact Wk.int (by rw [num4]; omega)
end Go.Proofs.Ytfacepcmpijdpaa

/- Splitting names; encoding. No condition. -/
set_option linter.unusedVariables false
set_option linter.unusedSimpArgs false
namespace Go.Proofs.Ytfacepcmpijdpaa
open Go Go.AL Go.AL.Ap
set_option maxRecDepth 100000
abbrev fNext : D := .func (.func 46) [] [.ptr 0 0]
abbrev fLeft : D := .func (.func 48) [] [.ptr 0 0]
theorem names_ (r : List UInt8) : FCall Try.prog Gl 37 [LB r] [] (.tuple [fNext, fLeft]) [.cells [LB r]] := by
  refine FCall.enterO hT hmix [] Try.func37 rfl rfl rfl fun hbd => ?_
  (conv => whnf)
  refine ⟨[0], rfl, by (try unfold pullOk); (repeat' (first | exact trivial | exact ObWk.refl _ | refine And.intro ?_ ?_ | unfold pullOk)), ?_⟩
  exact Wk.refl _
theorem left_ (r : List UInt8) : FCall Try.prog Gl 48 [.ptr 0 0] [.cells [LB r]] (vI r.length) [.cells [LB r]] := by
  refine FCall.enterO hT hmix [] Try.func48 rfl rfl rfl fun hbd => ?_
  (conv => whnf)
  refine ⟨[0], rfl, by (try unfold pullOk); (repeat' (first | exact trivial | exact ObWk.refl _ | refine And.intro ?_ ?_ | unfold pullOk)), ?_⟩
  exact Wk.int (by simp)
theorem next_ (r : List UInt8) (s : Str) (r' : List UInt8) (h : next r = some (s, r')) (hb : r.length ≤ 1000000000000) :
    FCall Try.prog Gl 46 [.ptr 0 0] [.cells [LB r]] (.tuple [sD s, vB true]) [.cells [LB r']] := by
  obtain ⟨e1, e2, e3⟩ := next_some h
  unfold next at h
  split at h
  · simp at h
  · rename_i hn
    simp only [not_or] at hn
    simp only [Option.some.injEq, Prod.mk.injEq] at h
    obtain ⟨h1, h2⟩ := h
    have hib := bibyte_ r 0
    have hsp : Lib.indexByte r (0 : Int).toNat.toUInt8 = (s.length : Int) := by
      show Lib.indexByte r 0 = _
      rw [ib_spec, if_neg hn.2, h1]
    rw [hsp] at hib
    have hlen : r.length = s.length + 1 + r'.length := by rw [e1]; simp; omega
    have hs0 : 0 < s.length := List.length_pos_iff.2 e2
    have t1 : r.take s.length = s := by rw [← h1, take_tw]
    have t2 : r.drop (s.length + 1) = r' := by rw [← h1, ← h2, drop_tw]
    refine FCall.enterO hT hmix [] Try.func46 rfl rfl rfl fun hbd => ?_
    (conv => whnf)
    refine CallLeaf.w (by (repeat' (first | exact ArgsTo.nil | refine ArgsTo.cons ?_ ?_ | exact ArgTo.mk' rfl (Wk.refl _) | exact ArgTo.mk' rfl Wk.nilm | exact ArgTo.mk' rfl (Wk.int (by simp)) | exact ArgTo.mk' rfl (Wk.list _ _) | exact ArgTo.mk' rfl (Wk.agg (by (repeat' (first | exact Wks.nil | refine Wks.cons ?_ ?_ | exact Wk.refl _ | exact Wk.nilm | exact Wk.list _ _  | exact Wk.natN rfl | refine Wk.agg ?_))))))) (hib) rfl ?_
    (conv => whnf)
    refine split_intro (fun h => absurd h (by (simp; omega))) (fun _ => ?_)
    (conv => whnf)
    refine ⟨_, slL (f := byteD) (l := r) (r := s) (s := 1) (by decide) (by omega) (by simp; omega) (fun _ => rfl) (by simpa using t1), ?_⟩
    (conv => whnf)
    refine ⟨s, rfl, ?_⟩
    (conv => whnf)
    refine ⟨((s.length + 1 : Nat) : Int), add64 (by omega) (by omega), ?_⟩
    (conv => whnf)
    refine ⟨_, slL (f := byteD) (l := r) (r := r') (s := 1) (by omega) (by simp; omega) (by simp) (fun _ => rfl) (by simpa using t2), ?_⟩
    (conv => whnf)
    refine ⟨[0], rfl, by (try unfold pullOk); (repeat' (first | exact trivial | exact ObWk.refl _ | refine And.intro ?_ ?_ | unfold pullOk)), ?_⟩
    exact Wk.refl _
theorem next0_ (r : List UInt8) (h : next r = none) : FCall Try.prog Gl 46 [.ptr 0 0] [.cells [LB r]] (.tuple [sD [], vB false]) [.cells [LB r]] := by
  have hib := bibyte_ r 0
  have hsp : Lib.indexByte r (0 : Int).toNat.toUInt8 ≤ 0 := by
    show Lib.indexByte r 0 ≤ _
    rw [ib_spec]
    unfold next at h
    split at h
    · rename_i hn
      split
      · omega
      · rename_i h2
        rcases hn with hn | hn
        · simp [hn]
        · exact absurd hn h2
    · simp at h
  generalize Lib.indexByte r (0 : Int).toNat.toUInt8 = c at *
  refine FCall.enterO hT hmix [] Try.func46 rfl rfl rfl fun hbd => ?_
  (conv => whnf)
  refine CallLeaf.w (by (repeat' (first | exact ArgsTo.nil | refine ArgsTo.cons ?_ ?_ | exact ArgTo.mk' rfl (Wk.refl _) | exact ArgTo.mk' rfl Wk.nilm | exact ArgTo.mk' rfl (Wk.int (by simp)) | exact ArgTo.mk' rfl (Wk.list _ _) | exact ArgTo.mk' rfl (Wk.agg (by (repeat' (first | exact Wks.nil | refine Wks.cons ?_ ?_ | exact Wk.refl _ | exact Wk.nilm | exact Wk.list _ _  | exact Wk.natN rfl | refine Wk.agg ?_))))))) (hib) rfl ?_
  (conv => whnf)
  refine split_intro (fun _ => ?_) (fun h => absurd h (by (simp; omega)))
  (conv => whnf)
  refine ⟨[0], rfl, by (try unfold pullOk); (repeat' (first | exact trivial | exact ObWk.refl _ | refine And.intro ?_ ?_ | unfold pullOk)), ?_⟩
  exact Wk.refl _
end Go.Proofs.Ytfacepcmpijdpaa

/- Encoding archive maps. No condition. -/
set_option linter.unusedVariables false
set_option linter.unusedSimpArgs false
namespace Go.Proofs.Ytfacepcmpijdpaa
open Go Go.AL Go.AL.Ap
set_option maxRecDepth 100000
abbrev LE (l : List Ent) : D := .list .any (l.map Ent.enc)
abbrev LEn (l : List Ent) : D := .list .nat (l.map Ent.enc)
def encR (l : List Ent) : List UInt8 × Int := if l.all fits then (encB l, 0) else ([], 9)
theorem offs_take {l : List Ent} {k : Nat} {e : Ent} (h : l[k]? = some e) : offs (l.take (k + 1)) = offs (l.take k) ++ W4 e.2.toNat := by
  rw [List.take_add_one, h]; simp [offs]
theorem nams_take {l : List Ent} {k : Nat} {e : Ent} (h : l[k]? = some e) : nams (l.take (k + 1)) = (nams (l.take k) ++ e.1) ++ [0] := by
  rw [List.take_add_one, h]; simp [nams]
theorem nams_le (l : List Ent) (k : Nat) : (nams (l.take k)).length ≤ (nams l).length := by
  conv => rhs; rw [← List.take_append_drop k l]
  simp only [nams, List.flatMap_append, List.length_append]
  omega
theorem all_take {l : List Ent} {k : Nat} {e : Ent} (h : l[k]? = some e) : (l.take (k + 1)).all fits = ((l.take k).all fits && fits e) := by
  rw [List.take_add_one, h]; simp
theorem all_false {l : List Ent} {k : Nat} {e : Ent} (h : l[k]? = some e) (hf : fits e = false) : l.all fits = false := by
  rw [List.all_eq_false]
  exact ⟨e, List.mem_of_getElem? h, by simp [hf]⟩
theorem encode_ (l : List Ent) (hb : (encB l).length ≤ 1000000000) : FCall Try.prog Gl 15 [LE l] [] (.tuple [LBn (encR l).1, vI (encR l).2]) [] := by
  have hlen := encB_len l
  refine FCall.enterL hT hmix [] Try.func15 rfl rfl rfl fun hbd => ?_
  (conv => whnf)
  refine split_intro (fun h => absurd h (by (simp; omega))) (fun _ => ?_)
  (conv => whnf)
  refine CallLeaf.o [1552] (by (repeat' (first | exact ArgsTo.nil | refine ArgsTo.cons ?_ ?_ | exact ArgTo.mk' rfl (Wk.refl _) | exact ArgTo.mk' rfl Wk.nilm | exact ArgTo.mk' rfl (Wk.int (by simp)) | exact ArgTo.mk' rfl (Wk.list _ _) | exact ArgTo.mk' rfl (Wk.agg (by (repeat' (first | exact Wks.nil | refine Wks.cons ?_ ?_ | exact Wk.refl _ | exact Wk.nilm | exact Wk.list _ _  | exact Wk.natN rfl | refine Wk.agg ?_))))))) (put0_ l.length (by omega)) rfl rfl (by (repeat' (first | exact trivial | exact rfl | refine And.intro ?_ ?_))) (by (repeat' (first | exact trivial | exact rfl | refine And.intro ?_ ?_))) (by (repeat' (first | exact trivial | exact rfl | refine And.intro ?_ ?_))) rfl rfl ?_
  (conv => whnf)
  refine LWp.loop hT hmix [] (fun k : Nat => [(17, vI k), (4, .list (.tok 1552) (B (W4 l.length ++ offs (l.take k))))]) (fun k => [(1552, .tok (B (W4 l.length ++ offs (l.take k))).length 1)]) (fun k => k ≤ l.length ∧ (l.take k).all fits = true) (fun k => l.length - k) 0 ⟨Nat.zero_le _, rfl⟩ ?_
  (conv => whnf)
  refine ⟨?_, fun k ⟨hk, hkk⟩ => ?_⟩
  · (repeat' (first | exact trivial | exact Wk.refl _ | exact ObWk.refl _ | exact rfl | exact ⟨_, rfl⟩ | exact Nat.zero_lt_one | refine And.intro ?_ ?_ | unfold okTo | (unfold okO; conv => whnf) | (unfold okS; conv => whnf) | (unfold SlotOk; conv => whnf) | (unfold ObjOk; conv => whnf) | (unfold okCells; conv => whnf) | (unfold liveTo; conv => whnf) | exact Nat.zero_lt_succ _))
  · have hok : (offs (l.take k)).length ≤ 4 * l.length := by rw [offs_len]; simp; omega
    (conv => whnf)
    refine split_intro (fun h => ?_) (fun h => ?_)
    · have hlt : k < l.length := by simpa using h
      obtain ⟨e, he⟩ := exI hlt
      (conv => whnf)
      refine ⟨_, ⟨by omega, getMap he⟩, ?_⟩
      (conv => whnf)
      refine CallLeaf.w (by (repeat' (first | exact ArgsTo.nil | refine ArgsTo.cons ?_ ?_ | exact ArgTo.mk' rfl (Wk.refl _) | exact ArgTo.mk' rfl Wk.nilm | exact ArgTo.mk' rfl (Wk.int (by simp)) | exact ArgTo.mk' rfl (Wk.list _ _) | exact ArgTo.mk' rfl (Wk.agg (by (repeat' (first | exact Wks.nil | refine Wks.cons ?_ ?_ | exact Wk.refl _ | exact Wk.nilm | exact Wk.list _ _  | exact Wk.natN rfl | refine Wk.agg ?_))))))) (fits_ e) rfl ?_
      (conv => whnf)
      refine split_intro (fun hf => ?_) (fun hf => ?_)
      · have hf' : fits e = false := by simpa using hf
        (conv => whnf)
        have hR : encR l = ([], 9) := by simp [encR, all_false he hf']
        rw [hR]
        exact Wk.tuple (Wks.cons (Wk.natN rfl) (Wks.cons (Wk.refl _) Wks.nil))
      · have hf' : fits e = true := by simpa using hf
        obtain ⟨_, _, f3, f4⟩ := fits_iff.1 hf'
        obtain ⟨n, hn⟩ := Int.eq_ofNat_of_zero_le f3
        have hp := put_ (W4 l.length ++ offs (l.take k)) n (by omega) (by simp [W4_len]; omega)
        have e2 : (W4 l.length ++ offs (l.take k)) ++ W4 n = W4 l.length ++ offs (l.take (k + 1)) := by
          rw [offs_take he, hn]; simp
        rw [e2] at hp
        have hev : vI e.2 = vI n := by rw [hn]
        rw [← hev] at hp
        (conv => whnf)
        refine CallLeaf.o [1552] (by (repeat' (first | exact ArgsTo.nil | refine ArgsTo.cons ?_ ?_ | exact ArgTo.mk' rfl (Wk.refl _) | exact ArgTo.mk' rfl Wk.nilm | exact ArgTo.mk' rfl (Wk.int (by simp)) | exact ArgTo.mk' rfl (Wk.list _ _) | exact ArgTo.mk' rfl (Wk.agg (by (repeat' (first | exact Wks.nil | refine Wks.cons ?_ ?_ | exact Wk.refl _ | exact Wk.nilm | exact Wk.list _ _  | exact Wk.natN rfl | refine Wk.agg ?_))))))) (hp) rfl rfl (by (repeat' (first | exact trivial | exact rfl | refine And.intro ?_ ?_))) (by (repeat' (first | exact trivial | exact rfl | refine And.intro ?_ ?_))) (by (repeat' (first | exact trivial | exact rfl | refine And.intro ?_ ?_))) rfl rfl ?_
        (conv => whnf)
        refine ⟨_, add64 (c := ((k + 1 : Nat) : Int)) (by omega) (by omega), ?_⟩
        (conv => whnf)
        refine ⟨k + 1, ⟨⟨by omega, by rw [all_take he, hkk, hf']; rfl⟩, by simp only []; omega⟩, ?_⟩
        (repeat' (first | exact trivial | exact Wk.refl _ | exact ObWk.refl _ | exact rfl | exact ⟨_, rfl⟩ | exact Nat.zero_lt_one | refine And.intro ?_ ?_ | unfold okTo | (unfold okO; conv => whnf) | (unfold okS; conv => whnf) | (unfold SlotOk; conv => whnf) | (unfold ObjOk; conv => whnf) | (unfold okCells; conv => whnf) | (unfold liveTo; conv => whnf) | exact Nat.zero_lt_succ _))
    · have hge : l.length ≤ k := by simpa using h
      rw [List.take_of_length_le hge] at hkk
      have hR : encR l = (encB l, 0) := by simp [encR, hkk]
      rw [hR]
      have ho : l.take k = l := List.take_of_length_le hge
      have hol := offs_len l
      (conv => whnf)
      refine LWp.loop hT hmix [] (fun j : Nat => [(31, vI j), (4, .list (.tok 1552) (B (W4 l.length ++ offs (l.take k) ++ nams (l.take j))))]) (fun j => [(1552, .tok (B (W4 l.length ++ offs (l.take k) ++ nams (l.take j))).length 1)]) (fun j => j ≤ l.length) (fun j => l.length - j) 0 (Nat.zero_le _) ?_
      (conv => whnf)
      refine ⟨?_, fun j hj => ?_⟩
      · (repeat' (first | exact trivial | exact Wk.refl _ | exact ObWk.refl _ | exact rfl | exact ⟨_, rfl⟩ | exact Nat.zero_lt_one | refine And.intro ?_ ?_ | unfold okTo | (unfold okO; conv => whnf) | (unfold okS; conv => whnf) | (unfold SlotOk; conv => whnf) | (unfold ObjOk; conv => whnf) | (unfold okCells; conv => whnf) | (unfold liveTo; conv => whnf) | exact Nat.zero_lt_succ _))
        · exact ObWk.of_eq (by simp [nams])
        · show Wk (.list (.tok 1552) (B (W4 l.length ++ offs (l.take k)))) (.list (.tok 1552) (B (W4 l.length ++ offs (l.take k) ++ nams (l.take 0))))
          exact Wk.of_eq (by simp [nams])
      · have hn1 := nams_le l j
        have hn2 := nams_le l (j + 1)
        (conv => whnf)
        refine split_intro (fun h2 => ?_) (fun h2 => ?_)
        · have hlt : j < l.length := by simpa using h2
          obtain ⟨e, he⟩ := exI hlt
          have e3 := nams_take he
          have hle : (nams (l.take j)).length + e.1.length + 1 = (nams (l.take (j + 1))).length := by rw [e3]; simp; omega
          (conv => whnf)
          refine ⟨_, ⟨by omega, getMap he⟩, ?_⟩
          (conv => whnf)
          refine ⟨_, appL (f := byteD) (xs := W4 l.length ++ offs (l.take k) ++ nams (l.take j)) (ys := e.1) (zs := W4 l.length ++ offs (l.take k) ++ nams (l.take j) ++ e.1) rfl rfl (fun _ => rfl) rfl (by simp only [List.length_append, W4_len]; show _ * 1 ≤ _; omega), ?_⟩
          (conv => whnf)
          refine ⟨_, appL (f := byteD) (xs := W4 l.length ++ offs (l.take k) ++ nams (l.take j) ++ e.1) (ys := [0]) (zs := W4 l.length ++ offs (l.take k) ++ nams (l.take j) ++ e.1 ++ [0]) rfl rfl (fun _ => rfl) rfl (by simp only [List.length_append, W4_len, List.length_singleton]; show _ * 1 ≤ _; omega), ?_⟩
          (conv => whnf)
          refine ⟨_, add64 (c := ((j + 1 : Nat) : Int)) (by omega) (by omega), ?_⟩
          (conv => whnf)
          have e4 : W4 l.length ++ offs (l.take k) ++ nams (l.take j) ++ e.1 ++ [0] = W4 l.length ++ offs (l.take k) ++ nams (l.take (j + 1)) := by rw [e3]; simp
          refine ⟨j + 1, ⟨by omega, by simp only []; omega⟩, ?_⟩
          simp only [← e4]
          (repeat' (first | exact trivial | exact Wk.refl _ | exact ObWk.refl _ | exact rfl | exact ⟨_, rfl⟩ | exact Nat.zero_lt_one | refine And.intro ?_ ?_ | unfold okTo | (unfold okO; conv => whnf) | (unfold okS; conv => whnf) | (unfold SlotOk; conv => whnf) | (unfold ObjOk; conv => whnf) | (unfold okCells; conv => whnf) | (unfold liveTo; conv => whnf) | exact Nat.zero_lt_succ _))
        · have hge2 : l.length ≤ j := by simpa using h2
          (conv => whnf)
          exact Wk.tuple (Wks.cons (Wk.nat' (by rw [ho, List.take_of_length_le hge2]; rfl)) (Wks.cons (Wk.refl _) Wks.nil))
theorem rfits_ (e : Ent) (hb : e.1.length ≤ 1000000000) : FCall Try.prog Gl 35 [.agg e.enc] [] (vB (fits e)) [] := by
  obtain ⟨s, n⟩ := e
  replace hb : s.length ≤ 1000000000 := hb
  refine FCall.enterL hT hmix [] Try.func35 rfl rfl rfl fun hbd => ?_
  (conv => whnf)
  refine LWp.loop hT hmix [] (fun k : Nat => [(3, vI k)]) (fun _ => []) (fun k => k ≤ s.length ∧ (0 : UInt8) ∉ s.take k) (fun k => s.length - k) 0 ⟨Nat.zero_le _, by simp⟩ ?_
  (conv => whnf)
  refine ⟨?_, fun k ⟨hk, hkk⟩ => ?_⟩
  · (repeat' (first | exact trivial | exact Wk.refl _ | exact ObWk.refl _ | exact rfl | exact ⟨_, rfl⟩ | exact Nat.zero_lt_one | refine And.intro ?_ ?_ | unfold okTo | (unfold okO; conv => whnf) | (unfold okS; conv => whnf) | (unfold SlotOk; conv => whnf) | (unfold ObjOk; conv => whnf) | (unfold okCells; conv => whnf) | (unfold liveTo; conv => whnf) | exact Nat.zero_lt_succ _))
  · have hsz : (sB s).size = s.length := by simp [sB, ByteArray.size]
    (conv => whnf)
    refine split_intro (fun h => ?_) (fun h => ?_)
    · have hlt : k < s.length := by have := of_decide_eq_true h; rw [hsz] at this; omega
      obtain ⟨x, hx⟩ := exI hlt
      (conv => whnf)
      refine ⟨x, ⟨by omega, by simpa using hx⟩, ?_⟩
      (conv => whnf)
      refine split_intro (fun h1 => ?_) (fun h1 => ?_)
      · have hx0 : x = 0 := by
          have : (x.toNat : Int) = 0 := by simpa using h1
          exact UInt8.toNat_inj.1 (by simpa using this)
        (conv => whnf)
        exact Wk.bool (by
          have : (0 : UInt8) ∈ s := by rw [← hx0]; exact List.mem_of_getElem? hx
          simp [fits, this])
      · have hx0 : ¬ 0 = x := by
          intro e; subst e; simp at h1
        (conv => whnf)
        refine ⟨_, add64 (c := ((k + 1 : Nat) : Int)) (by omega) (by omega), ?_⟩
        (conv => whnf)
        refine ⟨k + 1, ⟨⟨by omega, ?_⟩, by simp only []; omega⟩, ?_⟩
        · rw [List.take_add_one, hx]; simp [hkk, hx0]
        · (repeat' (first | exact trivial | exact Wk.refl _ | exact ObWk.refl _ | exact rfl | exact ⟨_, rfl⟩ | exact Nat.zero_lt_one | refine And.intro ?_ ?_ | unfold okTo | (unfold okO; conv => whnf) | (unfold okS; conv => whnf) | (unfold SlotOk; conv => whnf) | (unfold ObjOk; conv => whnf) | (unfold okCells; conv => whnf) | (unfold liveTo; conv => whnf) | exact Nat.zero_lt_succ _))
    · have hge : s.length ≤ k := by have := of_decide_eq_false h; rw [hsz] at this; omega
      rw [List.take_of_length_le hge] at hkk
      (conv => whnf)
      refine split_intro (fun h1 => ?_) (fun h1 => ?_)
      · have hne : s ≠ [] := by
          have := of_decide_eq_true h1; rw [hsz] at this
          intro e; subst e; simp at this
        (conv => whnf)
        refine split_intro (fun h2 => ?_) (fun h2 => ?_)
        · (conv => whnf)
          exact Wk.bool (by have := of_decide_eq_true h2; simp [fits, hne, hkk, this])
        · (conv => whnf)
          exact Wk.bool (by have := of_decide_eq_false h2; simp [fits, hne, hkk, this])
      · have hne : s = [] := by
          have := of_decide_eq_false h1; rw [hsz] at this
          exact List.eq_nil_of_length_eq_zero (by omega)
        (conv => whnf)
        exact Wk.bool (by simp [fits, hne])
theorem rencode_ (l : List Ent) (hb : (encB l).length ≤ 1000000000) : FCall Try.prog Gl 16 [LE l] [] (.tuple [LBn (encR l).1, vI (encR l).2]) [] := by
  have hlen := encB_len l
  have hw := wordT_ l.length (by omega)
  have hnm : ∀ e ∈ l, e.1.length ≤ 1000000000 := fun e he => by
    obtain ⟨i, hi⟩ := List.getElem?_of_mem he
    have h1 := nams_take hi
    have h2 := nams_le l (i + 1)
    have : (nams (l.take i) ++ e.1 ++ [0]).length ≤ (nams l).length := by rw [← h1]; exact h2
    simp at this; omega
  refine FCall.enterL hT hmix [] Try.func16 rfl rfl rfl fun hbd => ?_
  (conv => whnf)
  refine CallLeaf.o [528] (by (repeat' (first | exact ArgsTo.nil | refine ArgsTo.cons ?_ ?_ | exact ArgTo.mk' rfl (Wk.refl _) | exact ArgTo.mk' rfl Wk.nilm | exact ArgTo.mk' rfl (Wk.int (by simp)) | exact ArgTo.mk' rfl (Wk.list _ _) | exact ArgTo.mk' rfl (Wk.agg (by (repeat' (first | exact Wks.nil | refine Wks.cons ?_ ?_ | exact Wk.refl _ | exact Wk.nilm | exact Wk.list _ _  | exact Wk.natN rfl | refine Wk.agg ?_))))))) (hw) rfl rfl (by (repeat' (first | exact trivial | exact rfl | refine And.intro ?_ ?_))) (by (repeat' (first | exact trivial | exact rfl | refine And.intro ?_ ?_))) (by (repeat' (first | exact trivial | exact rfl | refine And.intro ?_ ?_))) rfl rfl ?_
  (conv => whnf)
  refine LWp.loop hT hmix [] (fun k : Nat => [(5, vI k), (4, .list (.tok 528) (B (W4 l.length ++ offs (l.take k))))]) (fun k => [(528, .tok (B (W4 l.length ++ offs (l.take k))).length 1)]) (fun k => k ≤ l.length ∧ (l.take k).all fits = true) (fun k => l.length - k) 0 ⟨Nat.zero_le _, rfl⟩ ?_
  (conv => whnf)
  refine ⟨?_, fun k ⟨hk, hkk⟩ => ?_⟩
  · (repeat' (first | exact trivial | exact Wk.refl _ | exact ObWk.refl _ | exact rfl | exact ⟨_, rfl⟩ | exact Nat.zero_lt_one | refine And.intro ?_ ?_ | unfold okTo | (unfold okO; conv => whnf) | (unfold okS; conv => whnf) | (unfold SlotOk; conv => whnf) | (unfold ObjOk; conv => whnf) | (unfold okCells; conv => whnf) | (unfold liveTo; conv => whnf) | exact Nat.zero_lt_succ _))
  · have hok : (offs (l.take k)).length ≤ 4 * l.length := by rw [offs_len]; simp; omega
    (conv => whnf)
    refine split_intro (fun h => ?_) (fun h => ?_)
    · have hlt : k < l.length := by simpa using h
      obtain ⟨e, he⟩ := exI hlt
      (conv => whnf)
      refine ⟨_, ⟨by omega, getMap he⟩, ?_⟩
      (conv => whnf)
      refine CallLeaf.w (by (repeat' (first | exact ArgsTo.nil | refine ArgsTo.cons ?_ ?_ | exact ArgTo.mk' rfl (Wk.refl _) | exact ArgTo.mk' rfl Wk.nilm | exact ArgTo.mk' rfl (Wk.int (by simp)) | exact ArgTo.mk' rfl (Wk.list _ _) | exact ArgTo.mk' rfl (Wk.agg (by (repeat' (first | exact Wks.nil | refine Wks.cons ?_ ?_ | exact Wk.refl _ | exact Wk.nilm | exact Wk.list _ _  | exact Wk.natN rfl | refine Wk.agg ?_))))))) (rfits_ e (hnm e (List.mem_of_getElem? he))) rfl ?_
      (conv => whnf)
      refine split_intro (fun hf => ?_) (fun hf => ?_)
      · have hf' : fits e = false := by simpa using hf
        (conv => whnf)
        have hR : encR l = ([], 9) := by simp [encR, all_false he hf']
        rw [hR]
        exact Wk.tuple (Wks.cons (Wk.natN rfl) (Wks.cons (Wk.refl _) Wks.nil))
      · have hf' : fits e = true := by simpa using hf
        obtain ⟨_, _, f3, f4⟩ := fits_iff.1 hf'
        obtain ⟨n, hn⟩ := Int.eq_ofNat_of_zero_le f3
        have hp := word_ n (by omega)
        have e2 : (W4 l.length ++ offs (l.take k)) ++ W4 n = W4 l.length ++ offs (l.take (k + 1)) := by
          rw [offs_take he, hn]; simp
        have hev : vI e.2 = vI n := by rw [hn]
        rw [← hev] at hp
        (conv => whnf)
        refine ⟨_, ⟨by omega, getMap he⟩, ?_⟩
        (conv => whnf)
        refine CallLeaf.w (by (repeat' (first | exact ArgsTo.nil | refine ArgsTo.cons ?_ ?_ | exact ArgTo.mk' rfl (Wk.refl _) | exact ArgTo.mk' rfl Wk.nilm | exact ArgTo.mk' rfl (Wk.int (by simp)) | exact ArgTo.mk' rfl (Wk.list _ _) | exact ArgTo.mk' rfl (Wk.agg (by (repeat' (first | exact Wks.nil | refine Wks.cons ?_ ?_ | exact Wk.refl _ | exact Wk.nilm | exact Wk.list _ _  | exact Wk.natN rfl | refine Wk.agg ?_))))))) (hp) rfl ?_
        (conv => whnf)
        refine ⟨_, appL (f := byteD) (xs := W4 l.length ++ offs (l.take k)) (ys := W4 n) (zs := W4 l.length ++ offs (l.take (k + 1))) rfl rfl (fun _ => rfl) e2 (by rw [← e2]; simp only [List.length_append, W4_len]; show _ * 1 ≤ _; omega), ?_⟩
        (conv => whnf)
        refine ⟨_, add64 (c := ((k + 1 : Nat) : Int)) (by omega) (by omega), ?_⟩
        (conv => whnf)
        refine ⟨k + 1, ⟨⟨by omega, by rw [all_take he, hkk, hf']; rfl⟩, by simp only []; omega⟩, ?_⟩
        (repeat' (first | exact trivial | exact Wk.refl _ | exact ObWk.refl _ | exact rfl | exact ⟨_, rfl⟩ | exact Nat.zero_lt_one | refine And.intro ?_ ?_ | unfold okTo | (unfold okO; conv => whnf) | (unfold okS; conv => whnf) | (unfold SlotOk; conv => whnf) | (unfold ObjOk; conv => whnf) | (unfold okCells; conv => whnf) | (unfold liveTo; conv => whnf) | exact Nat.zero_lt_succ _))
    · have hge : l.length ≤ k := by simpa using h
      rw [List.take_of_length_le hge] at hkk
      have hR : encR l = (encB l, 0) := by simp [encR, hkk]
      rw [hR]
      have ho : l.take k = l := List.take_of_length_le hge
      have hol := offs_len l
      (conv => whnf)
      refine LWp.loop hT hmix [] (fun j : Nat => [(6, vI j), (4, .list (.tok 528) (B (W4 l.length ++ offs (l.take k) ++ nams (l.take j))))]) (fun j => [(528, .tok (B (W4 l.length ++ offs (l.take k) ++ nams (l.take j))).length 1)]) (fun j => j ≤ l.length) (fun j => l.length - j) 0 (Nat.zero_le _) ?_
      (conv => whnf)
      refine ⟨?_, fun j hj => ?_⟩
      · (repeat' (first | exact trivial | exact Wk.refl _ | exact ObWk.refl _ | exact rfl | exact ⟨_, rfl⟩ | exact Nat.zero_lt_one | refine And.intro ?_ ?_ | unfold okTo | (unfold okO; conv => whnf) | (unfold okS; conv => whnf) | (unfold SlotOk; conv => whnf) | (unfold ObjOk; conv => whnf) | (unfold okCells; conv => whnf) | (unfold liveTo; conv => whnf) | exact Nat.zero_lt_succ _))
        · exact ObWk.of_eq (by simp [nams])
        · show Wk (.list (.tok 528) (B (W4 l.length ++ offs (l.take k)))) (.list (.tok 528) (B (W4 l.length ++ offs (l.take k) ++ nams (l.take 0))))
          exact Wk.of_eq (by simp [nams])
      · have hn1 := nams_le l j
        have hn2 := nams_le l (j + 1)
        (conv => whnf)
        refine split_intro (fun h2 => ?_) (fun h2 => ?_)
        · have hlt : j < l.length := by simpa using h2
          obtain ⟨e, he⟩ := exI hlt
          have e3 := nams_take he
          have hle : (nams (l.take j)).length + e.1.length + 1 = (nams (l.take (j + 1))).length := by rw [e3]; simp; omega
          (conv => whnf)
          refine ⟨_, ⟨by omega, getMap he⟩, ?_⟩
          (conv => whnf)
          refine ⟨_, appL (f := byteD) (xs := W4 l.length ++ offs (l.take k) ++ nams (l.take j)) (ys := e.1) (zs := W4 l.length ++ offs (l.take k) ++ nams (l.take j) ++ e.1) rfl rfl (fun _ => rfl) rfl (by simp only [List.length_append, W4_len]; show _ * 1 ≤ _; omega), ?_⟩
          (conv => whnf)
          refine ⟨_, appL (f := byteD) (xs := W4 l.length ++ offs (l.take k) ++ nams (l.take j) ++ e.1) (ys := [0]) (zs := W4 l.length ++ offs (l.take k) ++ nams (l.take j) ++ e.1 ++ [0]) rfl rfl (fun _ => rfl) rfl (by simp only [List.length_append, W4_len, List.length_singleton]; show _ * 1 ≤ _; omega), ?_⟩
          (conv => whnf)
          refine ⟨_, add64 (c := ((j + 1 : Nat) : Int)) (by omega) (by omega), ?_⟩
          (conv => whnf)
          have e4 : W4 l.length ++ offs (l.take k) ++ nams (l.take j) ++ e.1 ++ [0] = W4 l.length ++ offs (l.take k) ++ nams (l.take (j + 1)) := by rw [e3]; simp
          refine ⟨j + 1, ⟨by omega, by simp only []; omega⟩, ?_⟩
          simp only [← e4]
          (repeat' (first | exact trivial | exact Wk.refl _ | exact ObWk.refl _ | exact rfl | exact ⟨_, rfl⟩ | exact Nat.zero_lt_one | refine And.intro ?_ ?_ | unfold okTo | (unfold okO; conv => whnf) | (unfold okS; conv => whnf) | (unfold SlotOk; conv => whnf) | (unfold ObjOk; conv => whnf) | (unfold okCells; conv => whnf) | (unfold liveTo; conv => whnf) | exact Nat.zero_lt_succ _))
        · have hge2 : l.length ≤ j := by simpa using h2
          (conv => whnf)
          exact Wk.tuple (Wks.cons (Wk.nat' (by rw [ho, List.take_of_length_le hge2]; rfl)) (Wks.cons (Wk.refl _) Wks.nil))
end Go.Proofs.Ytfacepcmpijdpaa

/- Decoding archive maps. No condition. -/
set_option linter.unusedVariables false
set_option linter.unusedSimpArgs false
namespace Go.Proofs.Ytfacepcmpijdpaa
open Go Go.AL Go.AL.Ap
set_option maxRecDepth 100000
def decR (b : List UInt8) : List Ent × Int := match dec b with | some q => (q, 0) | none => ([], 8)
theorem decR_none {b : List UInt8} (h : dec b = none) : decR b = ([], 8) := by simp [decR, h]
theorem decR_some {b : List UInt8} {q : List Ent} (h : dec b = some q) : decR b = (q, 0) := by simp [decR, h]
theorem decode_ (b : List UInt8) (hb : b.length ≤ 1000000000) : FCall Try.prog Gl 17 [LB b] [] (.tuple [LEn (decR b).1, vI (decR b).2]) [] := by
  refine FCall.enterL hT hmix [] Try.func17 rfl rfl rfl fun hbd => ?_
  (conv => whnf)
  refine split_intro (fun h => ?_) (fun h => ?_)
  · have hr := decR_none (b := b) (by have := of_decide_eq_true h; simp at this; simp [dec]; omega)
    rw [hr]
    (conv => whnf)
    exact Wk.tuple (Wks.cons (Wk.natN rfl) (Wks.cons (Wk.refl _) Wks.nil))
  · have h4 : 4 ≤ b.length := by have := of_decide_eq_false h; simp at this; omega
    have hd : dec b = if (b.length - 4) / 4 < num b then none else decL (b.drop 4) 0 (num b) ((b.drop 4).drop (4 * num b)) := by
      unfold dec; rw [if_neg (by omega)]
    generalize hn : num b = n at hd
    generalize ht : b.drop 4 = t at hd
    have hg := get_ b h4
    rw [hn] at hg
    have htl : t.length = b.length - 4 := by rw [← ht]; simp
    have hn32 := num_lt b
    rw [hn] at hn32
    (conv => whnf)
    refine CallLeaf.w (by (repeat' (first | exact ArgsTo.nil | refine ArgsTo.cons ?_ ?_ | exact ArgTo.mk' rfl (Wk.refl _) | exact ArgTo.mk' rfl Wk.nilm | exact ArgTo.mk' rfl (Wk.int (by simp)) | exact ArgTo.mk' rfl (Wk.list _ _) | exact ArgTo.mk' rfl (Wk.agg (by (repeat' (first | exact Wks.nil | refine Wks.cons ?_ ?_ | exact Wk.refl _ | exact Wk.nilm | exact Wk.list _ _  | exact Wk.natN rfl | refine Wk.agg ?_))))))) (hg) rfl ?_
    (conv => whnf)
    refine ⟨_, slDrop (f := byteD) (l := b) (a := 4) rfl h4 (fun _ => rfl) ht, ?_⟩
    (conv => whnf)
    refine ⟨((t.length / 4 : Nat) : Int), by simpa using quo64k (a := t.length) (b := 4) rfl (by omega) (by omega), ?_⟩
    (conv => whnf)
    refine split_intro (fun h1 => ?_) (fun h1 => ?_)
    · have h1' : (b.length - 4) / 4 < n := by have := of_decide_eq_true h1; omega
      rw [if_pos h1'] at hd
      rw [decR_none hd]
      (conv => whnf)
      exact Wk.tuple (Wks.cons (Wk.natN rfl) (Wks.cons (Wk.refl _) Wks.nil))
    · have h1' : ¬ (b.length - 4) / 4 < n := by have := of_decide_eq_false h1; omega
      rw [if_neg h1'] at hd
      have hn4 : 4 * n ≤ t.length := by omega
      generalize hr0 : t.drop (4 * n) = r0 at hd
      have hr0l : r0.length ≤ t.length := by rw [← hr0]; simp
      (conv => whnf)
      refine ⟨((n * 4 : Nat) : Int), mulN (b := 4) rfl rfl (by omega), ?_⟩
      (conv => whnf)
      refine ⟨_, slDrop (f := byteD) (l := t) (a := n * 4) rfl (by omega) (r := r0) (fun _ => rfl) (by rw [Nat.mul_comm]; exact hr0), ?_⟩
      (conv => whnf)
      refine CallLeaf.o [3616] (by (repeat' (first | exact ArgsTo.nil | refine ArgsTo.cons ?_ ?_ | exact ArgTo.mk' rfl (Wk.refl _) | exact ArgTo.mk' rfl Wk.nilm | exact ArgTo.mk' rfl (Wk.int (by simp)) | exact ArgTo.mk' rfl (Wk.list _ _) | exact ArgTo.mk' rfl (Wk.agg (by (repeat' (first | exact Wks.nil | refine Wks.cons ?_ ?_ | exact Wk.refl _ | exact Wk.nilm | exact Wk.list _ _  | exact Wk.natN rfl | refine Wk.agg ?_))))))) (names_ r0) rfl rfl (by (repeat' (first | exact trivial | exact rfl | refine And.intro ?_ ?_))) (by (repeat' (first | exact trivial | exact rfl | refine And.intro ?_ ?_))) (by (repeat' (first | exact trivial | exact rfl | refine And.intro ?_ ?_))) rfl rfl ?_
      (conv => whnf)
      refine LWp.loop hT hmix [] (fun x : Nat × List Ent × List UInt8 => [(32, vI x.1), (7, .list (.tok 900001) (x.2.1.map Ent.enc))]) (fun x => [(900001, .tok (x.2.1.map Ent.enc).length 2), (3616, .cells [LB x.2.2])]) (fun x => x.1 ≤ n ∧ x.2.1.length = x.1 ∧ x.2.2.length ≤ t.length ∧ dec b = (decL t x.1 (n - x.1) x.2.2).map (x.2.1 ++ ·)) (fun x => n - x.1) (0, [], r0) ⟨Nat.zero_le _, rfl, hr0l, by rw [hd]; simp⟩ ?_
      (conv => whnf)
      refine ⟨?_, fun ⟨k, out, r⟩ ⟨hk, hol, hrl, hdec⟩ => ?_⟩
      · (repeat' (first | exact trivial | exact Wk.refl _ | exact ObWk.refl _ | exact rfl | exact ⟨_, rfl⟩ | exact Nat.zero_lt_one | refine And.intro ?_ ?_ | unfold okTo | (unfold okO; conv => whnf) | (unfold okS; conv => whnf) | (unfold SlotOk; conv => whnf) | (unfold ObjOk; conv => whnf) | (unfold okCells; conv => whnf) | (unfold liveTo; conv => whnf) | exact Nat.zero_lt_succ _))
      · replace hk : k ≤ n := hk
        replace hol : out.length = k := hol
        replace hrl : r.length ≤ t.length := hrl
        replace hdec : dec b = (decL t k (n - k) r).map (out ++ ·) := hdec
        (conv => whnf)
        refine split_intro (fun h2 => ?_) (fun h2 => ?_)
        · have hlt : k < n := by have := of_decide_eq_true h2; omega
          obtain ⟨m, hm⟩ : ∃ m, n - k = m + 1 := ⟨n - k - 1, by omega⟩
          rw [hm, decL] at hdec
          cases hnx : next r with
          | none =>
            rw [hnx] at hdec
            rw [decR_none hdec]
            (conv => whnf)
            refine CallLeaf.o [3616] (by (repeat' (first | exact ArgsTo.nil | refine ArgsTo.cons ?_ ?_ | exact ArgTo.mk' rfl (Wk.refl _) | exact ArgTo.mk' rfl Wk.nilm | exact ArgTo.mk' rfl (Wk.int (by simp)) | exact ArgTo.mk' rfl (Wk.list _ _) | exact ArgTo.mk' rfl (Wk.agg (by (repeat' (first | exact Wks.nil | refine Wks.cons ?_ ?_ | exact Wk.refl _ | exact Wk.nilm | exact Wk.list _ _  | exact Wk.natN rfl | refine Wk.agg ?_))))))) (next0_ r hnx) rfl rfl (by (repeat' (first | exact trivial | exact rfl | refine And.intro ?_ ?_))) (by (repeat' (first | exact trivial | exact rfl | refine And.intro ?_ ?_))) (by (repeat' (first | exact trivial | exact rfl | refine And.intro ?_ ?_))) rfl rfl ?_
            (conv => whnf)
            exact Wk.tuple (Wks.cons (Wk.natN rfl) (Wks.cons (Wk.refl _) Wks.nil))
          | some p =>
            obtain ⟨s, r'⟩ := p
            rw [hnx] at hdec
            have hr' := (next_some hnx).1
            have hlr : r'.length ≤ r.length := by rw [hr']; simp; omega
            have hg2 := get_ (t.drop (4 * k)) (by simp; omega)
            (conv => whnf)
            refine CallLeaf.o [3616] (by (repeat' (first | exact ArgsTo.nil | refine ArgsTo.cons ?_ ?_ | exact ArgTo.mk' rfl (Wk.refl _) | exact ArgTo.mk' rfl Wk.nilm | exact ArgTo.mk' rfl (Wk.int (by simp)) | exact ArgTo.mk' rfl (Wk.list _ _) | exact ArgTo.mk' rfl (Wk.agg (by (repeat' (first | exact Wks.nil | refine Wks.cons ?_ ?_ | exact Wk.refl _ | exact Wk.nilm | exact Wk.list _ _  | exact Wk.natN rfl | refine Wk.agg ?_))))))) (next_ r s r' hnx (by omega)) rfl rfl (by (repeat' (first | exact trivial | exact rfl | refine And.intro ?_ ?_))) (by (repeat' (first | exact trivial | exact rfl | refine And.intro ?_ ?_))) (by (repeat' (first | exact trivial | exact rfl | refine And.intro ?_ ?_))) rfl rfl ?_
            (conv => whnf)
            refine ⟨((k * 4 : Nat) : Int), mulN (b := 4) rfl rfl (by omega), ?_⟩
            (conv => whnf)
            refine ⟨_, slDrop (f := byteD) (l := t) (a := k * 4) rfl (by omega) (r := t.drop (4 * k)) (fun _ => rfl) (by rw [Nat.mul_comm]), ?_⟩
            (conv => whnf)
            refine CallLeaf.w (by (repeat' (first | exact ArgsTo.nil | refine ArgsTo.cons ?_ ?_ | exact ArgTo.mk' rfl (Wk.refl _) | exact ArgTo.mk' rfl Wk.nilm | exact ArgTo.mk' rfl (Wk.int (by simp)) | exact ArgTo.mk' rfl (Wk.list _ _) | exact ArgTo.mk' rfl (Wk.agg (by (repeat' (first | exact Wks.nil | refine Wks.cons ?_ ?_ | exact Wk.refl _ | exact Wk.nilm | exact Wk.list _ _  | exact Wk.natN rfl | refine Wk.agg ?_))))))) (hg2) rfl ?_
            (conv => whnf)
            refine ⟨_, appL (f := Ent.enc) (xs := out) (ys := [(s, (num (t.drop (4 * k)) : Int))]) (zs := out ++ [(s, (num (t.drop (4 * k)) : Int))]) rfl rfl (fun _ => rfl) rfl (by rw [List.length_append]; show (_ + 1) * 24 ≤ _; omega), ?_⟩
            (conv => whnf)
            refine ⟨_, add64 (c := ((k + 1 : Nat) : Int)) (by omega) (by omega), ?_⟩
            (conv => whnf)
            refine ⟨(k + 1, out ++ [(s, (num (t.drop (4 * k)) : Int))], r'), ⟨⟨by show k + 1 ≤ n; omega, by simp [hol], by show r'.length ≤ _; omega, ?_⟩, by show n - (k + 1) < n - k; omega⟩, ?_⟩
            · show dec b = (decL t (k + 1) (n - (k + 1)) r').map (_ ++ ·)
              rw [hdec, show n - (k + 1) = m by omega]
              simp only [Option.map_map]
              congr 1
              funext q
              simp
            · (repeat' (first | exact trivial | exact Wk.refl _ | exact ObWk.refl _ | exact rfl | exact ⟨_, rfl⟩ | exact Nat.zero_lt_one | refine And.intro ?_ ?_ | unfold okTo | (unfold okO; conv => whnf) | (unfold okS; conv => whnf) | (unfold SlotOk; conv => whnf) | (unfold ObjOk; conv => whnf) | (unfold okCells; conv => whnf) | (unfold liveTo; conv => whnf) | exact Nat.zero_lt_succ _))
        · have hge : n - k = 0 := by have := of_decide_eq_false h2; omega
          rw [hge, decL] at hdec
          (conv => whnf)
          refine CallLeaf.o [3616] (by (repeat' (first | exact ArgsTo.nil | refine ArgsTo.cons ?_ ?_ | exact ArgTo.mk' rfl (Wk.refl _) | exact ArgTo.mk' rfl Wk.nilm | exact ArgTo.mk' rfl (Wk.int (by simp)) | exact ArgTo.mk' rfl (Wk.list _ _) | exact ArgTo.mk' rfl (Wk.agg (by (repeat' (first | exact Wks.nil | refine Wks.cons ?_ ?_ | exact Wk.refl _ | exact Wk.nilm | exact Wk.list _ _  | exact Wk.natN rfl | refine Wk.agg ?_))))))) (left_ r) rfl rfl (by (repeat' (first | exact trivial | exact rfl | refine And.intro ?_ ?_))) (by (repeat' (first | exact trivial | exact rfl | refine And.intro ?_ ?_))) (by (repeat' (first | exact trivial | exact rfl | refine And.intro ?_ ?_))) rfl rfl ?_
          (conv => whnf)
          refine split_intro (fun h3 => ?_) (fun h3 => ?_)
          · have hne : r ≠ [] := by have := of_decide_eq_true h3; intro e; subst e; simp at this
            rw [if_neg hne] at hdec
            rw [decR_none hdec]
            (conv => whnf)
            exact Wk.tuple (Wks.cons (Wk.natN rfl) (Wks.cons (Wk.refl _) Wks.nil))
          · have he : r = [] := by have := of_decide_eq_false h3; exact List.eq_nil_of_length_eq_zero (by omega)
            rw [if_pos he] at hdec
            rw [decR_some (q := out) (by simpa using hdec)]
            (conv => whnf)
            exact Wk.tuple (Wks.cons (Wk.nat' rfl) (Wks.cons (Wk.refl _) Wks.nil))
end Go.Proofs.Ytfacepcmpijdpaa

/- The reference's decoding of archive maps. No condition. -/
set_option linter.unusedVariables false
set_option linter.unusedSimpArgs false
namespace Go.Proofs.Ytfacepcmpijdpaa
open Go Go.AL Go.AL.Ap
set_option maxRecDepth 100000
theorem num_take {x : List UInt8} (h : 4 ≤ x.length) : num (x.take 4) = num x := by
  obtain ⟨a, b, c, d, r, rfl⟩ := split4 h
  rfl
theorem sB_app (a b : Str) : sB a ++ sB b = sB (a ++ b) := by
  simp [sB, ByteArray.append]
  apply ByteArray.ext
  simp
theorem sB_sz (s : Str) : (sB s).size = s.length := by simp [sB, ByteArray.size]
theorem rdecode_ (b : List UInt8) (hb : b.length ≤ 1000000000) : FCall Try.prog Gl 18 [LB b] [] (.tuple [LEn (decR b).1, vI (decR b).2]) [] := by
  refine FCall.enterL hT hmix [] Try.func18 rfl rfl rfl fun hbd => ?_
  (conv => whnf)
  refine split_intro (fun h => ?_) (fun h => ?_)
  · have hr := decR_none (b := b) (by have := of_decide_eq_true h; simp at this; simp [dec]; omega)
    rw [hr]
    (conv => whnf)
    exact Wk.tuple (Wks.cons (Wk.natN rfl) (Wks.cons (Wk.refl _) Wks.nil))
  · have h4 : 4 ≤ b.length := by have := of_decide_eq_false h; simp at this; omega
    have hd : dec b = if (b.length - 4) / 4 < num b then none else decL (b.drop 4) 0 (num b) (b.drop (4 + 4 * num b)) := by
      unfold dec; rw [if_neg (by omega), List.drop_drop]
    have hg := number_ (b.take 4) (by simp; omega)
    rw [num_take h4] at hg
    have hn32 := num_lt b
    generalize hn : num b = n at hd hg hn32
    (conv => whnf)
    refine ⟨_, slTake (f := byteD) (l := b) (b := 4) (r := b.take 4) rfl h4 (fun _ => rfl) rfl, ?_⟩
    (conv => whnf)
    refine CallLeaf.w (by (repeat' (first | exact ArgsTo.nil | refine ArgsTo.cons ?_ ?_ | exact ArgTo.mk' rfl (Wk.refl _) | exact ArgTo.mk' rfl Wk.nilm | exact ArgTo.mk' rfl (Wk.int (by simp)) | exact ArgTo.mk' rfl (Wk.list _ _) | exact ArgTo.mk' rfl (Wk.agg (by (repeat' (first | exact Wks.nil | refine Wks.cons ?_ ?_ | exact Wk.refl _ | exact Wk.nilm | exact Wk.list _ _  | exact Wk.natN rfl | refine Wk.agg ?_))))))) (hg) rfl ?_
    (conv => whnf)
    refine ⟨((4 * n : Nat) : Int), mul64 (by simp) (by omega), ?_⟩
    (conv => whnf)
    refine ⟨((4 + 4 * n : Nat) : Int), add64 (by simp) (by omega), ?_⟩
    (conv => whnf)
    refine split_intro (fun h1 => ?_) (fun h1 => ?_)
    · have h1' : (b.length - 4) / 4 < n := by have := of_decide_eq_true h1; simp at this; omega
      rw [if_pos h1'] at hd
      rw [decR_none hd]
      (conv => whnf)
      exact Wk.tuple (Wks.cons (Wk.natN rfl) (Wks.cons (Wk.refl _) Wks.nil))
    · have h1' : ¬ (b.length - 4) / 4 < n := by have := of_decide_eq_false h1; simp at this; omega
      rw [if_neg h1'] at hd
      have hn4 : 4 + 4 * n ≤ b.length := by omega
      (conv => whnf)
      refine LWp.loop hT hmix [] (fun x : Nat × List Ent × Nat => [(7, vI x.1), (6, .list (.tok 900001) (x.2.1.map Ent.enc)), (5, vI x.2.2)]) (fun x => [(900001, .tok (x.2.1.map Ent.enc).length 2)]) (fun x => x.1 ≤ n ∧ x.2.1.length = x.1 ∧ x.2.2 ≤ b.length ∧ dec b = (decL (b.drop 4) x.1 (n - x.1) (b.drop x.2.2)).map (x.2.1 ++ ·)) (fun x => n - x.1) (0, [], 4 + 4 * n) ⟨Nat.zero_le _, rfl, hn4, by rw [hd]; simp⟩ ?_
      (conv => whnf)
      refine ⟨?_, fun ⟨k, out, p⟩ ⟨hk, hol, hp, hdec⟩ => ?_⟩
      · (repeat' (first | exact trivial | exact Wk.refl _ | exact ObWk.refl _ | exact rfl | exact ⟨_, rfl⟩ | exact Nat.zero_lt_one | refine And.intro ?_ ?_ | unfold okTo | (unfold okO; conv => whnf) | (unfold okS; conv => whnf) | (unfold SlotOk; conv => whnf) | (unfold ObjOk; conv => whnf) | (unfold okCells; conv => whnf) | (unfold liveTo; conv => whnf) | exact Nat.zero_lt_succ _))
      · replace hk : k ≤ n := hk
        replace hol : out.length = k := hol
        replace hp : p ≤ b.length := hp
        replace hdec : dec b = (decL (b.drop 4) k (n - k) (b.drop p)).map (out ++ ·) := hdec
        (conv => whnf)
        refine split_intro (fun h2 => ?_) (fun h2 => ?_)
        · have hlt : k < n := by have := of_decide_eq_true h2; omega
          obtain ⟨m, hm⟩ : ∃ m, n - k = m + 1 := ⟨n - k - 1, by omega⟩
          rw [hm, decL] at hdec
          (conv => whnf)
          refine LWp.loop hT hmix [] (fun x : Str => [(8, sD x), (5, vI (p + x.length : Nat))]) (fun _ => []) (fun x => p + x.length ≤ b.length ∧ (b.drop p).takeWhile isz = x ++ (b.drop (p + x.length)).takeWhile isz ∧ (b.drop p).dropWhile isz = (b.drop (p + x.length)).dropWhile isz) (fun x => b.length - (p + x.length)) [] ⟨hp, rfl, rfl⟩ ?_
          (conv => whnf)
          refine ⟨?_, fun x ⟨hx1, hx2, hx3⟩ => ?_⟩
          · (repeat' (first | exact trivial | exact Wk.refl _ | exact ObWk.refl _ | exact rfl | exact ⟨_, rfl⟩ | exact Nat.zero_lt_one | refine And.intro ?_ ?_ | unfold okTo | (unfold okO; conv => whnf) | (unfold okS; conv => whnf) | (unfold SlotOk; conv => whnf) | (unfold ObjOk; conv => whnf) | (unfold okCells; conv => whnf) | (unfold liveTo; conv => whnf) | exact Nat.zero_lt_succ _))
          · (conv => whnf)
            refine split_intro (fun g1 => ?_) (fun g1 => ?_)
            · have hpl : p + x.length < b.length := by have := of_decide_eq_true g1; simp at this; omega
              obtain ⟨u, hu⟩ := exI hpl
              have hdu : b.drop (p + x.length) = u :: b.drop (p + x.length + 1) := by
                rw [List.drop_eq_getElem_cons hpl]
                rw [List.getElem?_eq_getElem hpl] at hu
                injection hu with hu; rw [hu]
              (conv => whnf)
              refine ⟨_, ⟨by omega, getMap hu⟩, ?_⟩
              (conv => whnf)
              refine split_intro (fun g2 => ?_) (fun g2 => ?_)
              · have hu0 : isz u = true := by
                  simp only [isz, bne_iff_ne]
                  intro e; subst e; simp at g2
                have hone : (b.take (p + x.length + 1)).drop (p + x.length) = [u] := by
                  rw [List.drop_take, hdu, show p + x.length + 1 - (p + x.length) = 1 by omega]; rfl
                (conv => whnf)
                refine ⟨((p + x.length + 1 : Nat) : Int), add64 (by omega) (by omega), ?_⟩
                (conv => whnf)
                refine ⟨_, slN (f := byteD) (l := b) (a := p + x.length) (b := p + x.length + 1) (r := [u]) rfl rfl (by omega) (by omega) (fun _ => rfl) hone, ?_⟩
                (conv => whnf)
                refine ⟨[u], rfl, ?_⟩
                (conv => whnf)
                refine ⟨sB (x ++ [u]), ⟨by have := sB_sz x; have := sB_sz [u]; show (sB x).size + (sB [u]).size ≤ _; simp at *; omega, sB_app x [u]⟩, ?_⟩
                (conv => whnf)
                refine ⟨((p + x.length + 1 : Nat) : Int), add64 (by omega) (by omega), ?_⟩
                (conv => whnf)
                refine ⟨x ++ [u], ⟨⟨by simp; omega, ?_, ?_⟩, by simp; omega⟩, ?_⟩
                · rw [hx2, hdu, List.takeWhile_cons_of_pos hu0]; simp [Nat.add_assoc]
                · rw [hx3, hdu, List.dropWhile_cons_of_pos hu0]; simp [Nat.add_assoc]
                · (repeat' (first | exact trivial | exact Wk.refl _ | exact ObWk.refl _ | exact rfl | exact ⟨_, rfl⟩ | exact Nat.zero_lt_one | refine And.intro ?_ ?_ | unfold okTo | (unfold okO; conv => whnf) | (unfold okS; conv => whnf) | (unfold SlotOk; conv => whnf) | (unfold ObjOk; conv => whnf) | (unfold okCells; conv => whnf) | (unfold liveTo; conv => whnf) | exact Nat.zero_lt_succ _))
                  all_goals exact Wk.int (by simp; omega)
              · have hu0 : u = 0 := by
                  have : (u.toNat : Int) = 0 := by simpa using g2
                  exact UInt8.toNat_inj.1 (by simpa using this)
                subst hu0
                rw [hdu] at hx2 hx3
                have htw : (b.drop p).takeWhile isz = x := by rw [hx2]; simp [isz]
                have hdw : (b.drop p).dropWhile isz = 0 :: b.drop (p + x.length + 1) := by rw [hx3]; simp [isz]
                (conv => whnf)
                refine split_intro (fun g3 => ?_) (fun g3 => ?_)
                · have hx0 : x = [] := of_decide_eq_true g3
                  have hnx : next (b.drop p) = none := by unfold next; rw [if_pos (.inl (by rw [htw, hx0]))]
                  rw [hnx] at hdec
                  rw [decR_none hdec]
                  (conv => whnf)
                  exact Wk.tuple (Wks.cons (Wk.natN rfl) (Wks.cons (Wk.refl _) Wks.nil))
                · have hx0 : ¬ x = [] := of_decide_eq_false g3
                  have hnx : next (b.drop p) = some (x, b.drop (p + x.length + 1)) := by
                    unfold next
                    rw [if_neg (by rw [htw, hdw]; simp [hx0]), htw, hdw]
                    rfl
                  rw [hnx] at hdec
                  simp only [List.drop_drop] at hdec
                  have hg2 := number_ ((b.drop (4 + 4 * k)).take 4) (by simp; omega)
                  rw [num_take (by simp; omega)] at hg2
                  (conv => whnf)
                  refine split_intro (fun h => absurd h (by (simp; omega))) (fun _ => ?_)
                  (conv => whnf)
                  refine ⟨((p + x.length + 1 : Nat) : Int), add64 (by omega) (by omega), ?_⟩
                  (conv => whnf)
                  refine ⟨((4 * k : Nat) : Int), mul64 (by simp) (by omega), ?_⟩
                  (conv => whnf)
                  refine ⟨((4 + 4 * k : Nat) : Int), add64 (by simp) (by omega), ?_⟩
                  (conv => whnf)
                  refine ⟨((4 * k : Nat) : Int), mul64 (by simp) (by omega), ?_⟩
                  (conv => whnf)
                  refine ⟨((8 + 4 * k : Nat) : Int), add64 (by simp) (by omega), ?_⟩
                  (conv => whnf)
                  refine ⟨_, slN (f := byteD) (l := b) (a := 4 + 4 * k) (b := 8 + 4 * k) (r := (b.drop (4 + 4 * k)).take 4) rfl rfl (by omega) (by omega) (fun _ => rfl) (by rw [List.drop_take]; congr 1; omega), ?_⟩
                  (conv => whnf)
                  refine CallLeaf.w (by (repeat' (first | exact ArgsTo.nil | refine ArgsTo.cons ?_ ?_ | exact ArgTo.mk' rfl (Wk.refl _) | exact ArgTo.mk' rfl Wk.nilm | exact ArgTo.mk' rfl (Wk.int (by simp)) | exact ArgTo.mk' rfl (Wk.list _ _) | exact ArgTo.mk' rfl (Wk.agg (by (repeat' (first | exact Wks.nil | refine Wks.cons ?_ ?_ | exact Wk.refl _ | exact Wk.nilm | exact Wk.list _ _  | exact Wk.natN rfl | refine Wk.agg ?_))))))) (hg2) rfl ?_
                  (conv => whnf)
                  refine ⟨_, appL (f := Ent.enc) (xs := out) (ys := [(x, (num (b.drop (4 + 4 * k)) : Int))]) (zs := out ++ [(x, (num (b.drop (4 + 4 * k)) : Int))]) rfl rfl (fun _ => rfl) rfl (by rw [List.length_append]; show (_ + 1) * 24 ≤ _; omega), ?_⟩
                  (conv => whnf)
                  refine ⟨_, add64 (c := ((k + 1 : Nat) : Int)) (by omega) (by omega), ?_⟩
                  (conv => whnf)
                  refine ⟨(k + 1, out ++ [(x, (num (b.drop (4 + 4 * k)) : Int))], p + x.length + 1), ⟨⟨by show k + 1 ≤ n; omega, by simp [hol], by show p + x.length + 1 ≤ _; omega, ?_⟩, by show n - (k + 1) < n - k; omega⟩, ?_⟩
                  · show dec b = (decL (b.drop 4) (k + 1) (n - (k + 1)) (b.drop (p + x.length + 1))).map (_ ++ ·)
                    rw [hdec, show n - (k + 1) = m by omega]
                    simp only [Option.map_map]
                    congr 1
                    funext q
                    simp
                  · (repeat' (first | exact trivial | exact Wk.refl _ | exact ObWk.refl _ | exact rfl | exact ⟨_, rfl⟩ | exact Nat.zero_lt_one | refine And.intro ?_ ?_ | unfold okTo | (unfold okO; conv => whnf) | (unfold okS; conv => whnf) | (unfold SlotOk; conv => whnf) | (unfold ObjOk; conv => whnf) | (unfold okCells; conv => whnf) | (unfold liveTo; conv => whnf) | exact Nat.zero_lt_succ _))
            · have hpl : p + x.length = b.length := by have := of_decide_eq_false g1; simp at this; omega
              have hdn : b.drop (p + x.length) = [] := List.drop_of_length_le (by omega)
              rw [hdn] at hx2 hx3
              have hnx : next (b.drop p) = none := by unfold next; rw [if_pos (.inr (by rw [hx3]; rfl))]
              rw [hnx] at hdec
              rw [decR_none hdec]
              (conv => whnf)
              refine split_intro (fun g3 => ?_) (fun g3 => ?_)
              · (conv => whnf)
                exact Wk.tuple (Wks.cons (Wk.natN rfl) (Wks.cons (Wk.refl _) Wks.nil))
              · (conv => whnf)
                refine split_intro (fun _ => ?_) (fun h => absurd h (by (simp; omega)))
                (conv => whnf)
                exact Wk.tuple (Wks.cons (Wk.natN rfl) (Wks.cons (Wk.refl _) Wks.nil))
        · have hge : n - k = 0 := by have := of_decide_eq_false h2; omega
          rw [hge, decL] at hdec
          (conv => whnf)
          refine split_intro (fun h3 => ?_) (fun h3 => ?_)
          · have hne : b.drop p ≠ [] := by
              intro e
              have : p = b.length := by have := List.drop_eq_nil_iff.1 e; omega
              subst this
              simp at h3
            rw [if_neg hne] at hdec
            rw [decR_none hdec]
            (conv => whnf)
            exact Wk.tuple (Wks.cons (Wk.natN rfl) (Wks.cons (Wk.refl _) Wks.nil))
          · have he : b.drop p = [] := by
              have : (p : Int) = b.length := by simpa using h3
              exact List.drop_of_length_le (by omega)
            rw [if_pos he] at hdec
            rw [decR_some (q := out) (by simpa using hdec)]
            (conv => whnf)
            exact Wk.tuple (Wks.cons (Wk.nat' rfl) (Wks.cons (Wk.refl _) Wks.nil))
end Go.Proofs.Ytfacepcmpijdpaa

/- Comparing; few entries; the size. No condition. -/
set_option linter.unusedVariables false
set_option linter.unusedSimpArgs false
namespace Go.Proofs.Ytfacepcmpijdpaa
open Go Go.AL Go.AL.Ap
set_option maxRecDepth 100000
theorem not_t {b : Bool} (h : (!b) = true) : b = false := by cases b <;> simp_all
theorem not_f {b : Bool} (h : (!b) = false) : b = true := by cases b <;> simp_all
theorem len_ne {a b : Nat} (h : ((a : Int) != (b : Int)) = true) : a ≠ b := by intro e; subst e; simp at h
theorem len_eq {a b : Nat} (h : ((a : Int) != (b : Int)) = false) : a = b := by
  by_cases e : a = b
  · exact e
  · have : ((a : Int) != (b : Int)) = true := by simp; omega
    rw [this] at h; exact absurd h (by decide)
theorem u8_ne {x y : UInt8} (h : ((x.toNat : Int) != (y.toNat : Int)) = true) : x ≠ y := fun e => by subst e; simp at h
theorem u8_eq {x y : UInt8} (h : ((x.toNat : Int) != (y.toNat : Int)) = false) : x = y := UInt8.toNat_inj.1 (len_eq h)
theorem same_ (a b : List UInt8) : FCall Try.prog Gl 19 [LB a, LB b] [] (vB (decide (a = b))) [] := by
  refine FCall.enterL hT hmix [] Try.func19 rfl rfl rfl fun hbd => ?_
  have ha := bds_list hbd (.head _)
  (conv => whnf)
  refine split_intro (fun h => ?_) (fun h => ?_)
  · have hne : a.length ≠ b.length := by have := len_ne h; simpa using this
    (conv => whnf)
    exact Wk.bool (by symm; simp; intro e; subst e; exact hne rfl)
  · have hl : a.length = b.length := by have := len_eq h; simpa using this
    (conv => whnf)
    refine LWp.loop hT hmix [] (fun k : Nat => [(5, vI k)]) (fun _ => []) (fun k => k ≤ a.length ∧ a.take k = b.take k) (fun k => a.length - k) 0 ⟨Nat.zero_le _, rfl⟩ ?_
    (conv => whnf)
    refine ⟨?_, fun k ⟨hk, hkk⟩ => ?_⟩
    · (repeat' (first | exact trivial | exact Wk.refl _ | exact ObWk.refl _ | exact rfl | exact ⟨_, rfl⟩ | exact Nat.zero_lt_one | refine And.intro ?_ ?_ | unfold okTo | (unfold okO; conv => whnf) | (unfold okS; conv => whnf) | (unfold SlotOk; conv => whnf) | (unfold ObjOk; conv => whnf) | (unfold okCells; conv => whnf) | (unfold liveTo; conv => whnf) | exact Nat.zero_lt_succ _))
    · (conv => whnf)
      refine split_intro (fun h1 => ?_) (fun h1 => ?_)
      · have hlt : k < a.length := by have := of_decide_eq_true h1; simp at this; omega
        obtain ⟨x, hx⟩ := exI hlt
        obtain ⟨y, hy⟩ := exI (l := b) (k := k) (by omega)
        (conv => whnf)
        refine ⟨_, ⟨by omega, getMap hx⟩, ?_⟩
        (conv => whnf)
        refine ⟨_, ⟨by omega, getMap hy⟩, ?_⟩
        (conv => whnf)
        refine split_intro (fun h2 => ?_) (fun h2 => ?_)
        · have := u8_ne h2
          (conv => whnf)
          exact Wk.bool (by
            symm; simp; intro e; subst e
            rw [hx] at hy; injection hy with hy; exact this hy)
        · have := u8_eq h2
          subst this
          (conv => whnf)
          refine ⟨_, add64 (c := ((k + 1 : Nat) : Int)) (by omega) (by omega), ?_⟩
          (conv => whnf)
          refine ⟨k + 1, ⟨⟨by omega, by rw [List.take_add_one, List.take_add_one, hx, hy, hkk]⟩, by simp only []; omega⟩, ?_⟩
          (repeat' (first | exact trivial | exact Wk.refl _ | exact ObWk.refl _ | exact rfl | exact ⟨_, rfl⟩ | exact Nat.zero_lt_one | refine And.intro ?_ ?_ | unfold okTo | (unfold okO; conv => whnf) | (unfold okS; conv => whnf) | (unfold SlotOk; conv => whnf) | (unfold ObjOk; conv => whnf) | (unfold okCells; conv => whnf) | (unfold liveTo; conv => whnf) | exact Nat.zero_lt_succ _))
      · have hge : a.length ≤ k := by have := of_decide_eq_false h1; simp at this; omega
        rw [List.take_of_length_le hge, List.take_of_length_le (by omega)] at hkk
        (conv => whnf)
        exact Wk.bool (by simp [hkk])
theorem plainE (e : Ent) : plainEq Try.prog 40 e.enc = true := by
  obtain ⟨s, n⟩ := e
  kernel_rfl
theorem eqE (a b : Ent) : eqCellsD a.enc b.enc = some (decide (a.1 = b.1) && (a.2 == b.2 && true)) := rfl
theorem eqE' (a b : Ent) : (decide (a.1 = b.1) && (a.2 == b.2 && true)) = decide (a = b) := by
  rw [Bool.eq_iff_iff]; simp [Prod.ext_iff]
theorem rsame_ (a b : List Ent) : FCall Try.prog Gl 20 [LE a, LE b] [] (vB (decide (a = b))) [] := by
  refine FCall.enterL hT hmix [] Try.func20 rfl rfl rfl fun hbd => ?_
  have ha := bds_list hbd (.head _)
  (conv => whnf)
  refine split_intro (fun h => ?_) (fun h => ?_)
  · have hne : a.length ≠ b.length := by have := len_ne h; simpa using this
    (conv => whnf)
    exact Wk.bool (by symm; simp; intro e; subst e; exact hne rfl)
  · have hl : a.length = b.length := by have := len_eq h; simpa using this
    (conv => whnf)
    refine LWp.loop hT hmix [] (fun k : Nat => [(5, vI k)]) (fun _ => []) (fun k => k ≤ a.length ∧ a.take k = b.take k) (fun k => a.length - k) 0 ⟨Nat.zero_le _, rfl⟩ ?_
    (conv => whnf)
    refine ⟨?_, fun k ⟨hk, hkk⟩ => ?_⟩
    · (repeat' (first | exact trivial | exact Wk.refl _ | exact ObWk.refl _ | exact rfl | exact ⟨_, rfl⟩ | exact Nat.zero_lt_one | refine And.intro ?_ ?_ | unfold okTo | (unfold okO; conv => whnf) | (unfold okS; conv => whnf) | (unfold SlotOk; conv => whnf) | (unfold ObjOk; conv => whnf) | (unfold okCells; conv => whnf) | (unfold liveTo; conv => whnf) | exact Nat.zero_lt_succ _))
    · (conv => whnf)
      refine split_intro (fun h1 => ?_) (fun h1 => ?_)
      · have hlt : k < a.length := by have := of_decide_eq_true h1; simp at this; omega
        obtain ⟨x, hx⟩ := exI hlt
        obtain ⟨y, hy⟩ := exI (l := b) (k := k) (by omega)
        (conv => whnf)
        refine ⟨_, ⟨by omega, getMap hx⟩, ?_⟩
        (conv => whnf)
        refine ⟨_, ⟨by omega, getMap hy⟩, ?_⟩
        (conv => whnf)
        refine ⟨plainE x, ?_⟩
        (conv => whnf)
        refine split_intro (fun h2 => ?_) (fun h2 => ?_)
        · have h2' : decide (x = y) = false := by
            rw [← eqE']
            exact not_t h2
          (conv => whnf)
          exact Wk.bool (by
            symm; simp; intro e; subst e
            rw [hx] at hy; injection hy with hy; subst hy; simp at h2')
        · have h2' : decide (x = y) = true := by
            rw [← eqE']
            exact not_f h2
          have := of_decide_eq_true h2'
          subst this
          (conv => whnf)
          refine ⟨_, add64 (c := ((k + 1 : Nat) : Int)) (by omega) (by omega), ?_⟩
          (conv => whnf)
          refine ⟨k + 1, ⟨⟨by omega, by rw [List.take_add_one, List.take_add_one, hx, hy, hkk]⟩, by simp only []; omega⟩, ?_⟩
          (repeat' (first | exact trivial | exact Wk.refl _ | exact ObWk.refl _ | exact rfl | exact ⟨_, rfl⟩ | exact Nat.zero_lt_one | refine And.intro ?_ ?_ | unfold okTo | (unfold okO; conv => whnf) | (unfold okS; conv => whnf) | (unfold SlotOk; conv => whnf) | (unfold ObjOk; conv => whnf) | (unfold okCells; conv => whnf) | (unfold liveTo; conv => whnf) | exact Nat.zero_lt_succ _))
      · have hge : a.length ≤ k := by have := of_decide_eq_false h1; simp at this; omega
        rw [List.take_of_length_le hge, List.take_of_length_le (by omega)] at hkk
        (conv => whnf)
        exact Wk.bool (by simp [hkk])
def few (l : List Ent) : Bool := (l.take 101).all (fun e => decide (e.1.length ≤ 300)) && decide (l.length ≤ 100)
theorem few_iff {l : List Ent} (h : few l = true) : l.length ≤ 100 ∧ ∀ e ∈ l, e.1.length ≤ 300 := by
  simp only [few, Bool.and_eq_true, decide_eq_true_eq] at h
  obtain ⟨h1, h2⟩ := h
  rw [List.take_of_length_le (by omega)] at h1
  exact ⟨h2, fun e he => of_decide_eq_true (List.all_eq_true.1 h1 e he)⟩
theorem few_ (l : List Ent) : FCall Try.prog Gl 14 [LE l] [] (vB (few l)) [] := by
  refine FCall.enterL hT hmix [] Try.func14 rfl rfl rfl fun hbd => ?_
  have ha := bds_list hbd (.head _)
  (conv => whnf)
  refine LWp.loop hT hmix [] (fun k : Nat => [(3, vI k)]) (fun _ => []) (fun k => k ≤ l.length ∧ k ≤ 101 ∧ (l.take k).all (fun e => decide (e.1.length ≤ 300)) = true) (fun k => l.length - k) 0 ⟨Nat.zero_le _, Nat.zero_le _, rfl⟩ ?_
  (conv => whnf)
  refine ⟨?_, fun k ⟨hk, hk2, hkk⟩ => ?_⟩
  · (repeat' (first | exact trivial | exact Wk.refl _ | exact ObWk.refl _ | exact rfl | exact ⟨_, rfl⟩ | exact Nat.zero_lt_one | refine And.intro ?_ ?_ | unfold okTo | (unfold okO; conv => whnf) | (unfold okS; conv => whnf) | (unfold SlotOk; conv => whnf) | (unfold ObjOk; conv => whnf) | (unfold okCells; conv => whnf) | (unfold liveTo; conv => whnf) | exact Nat.zero_lt_succ _))
  · (conv => whnf)
    refine split_intro (fun h => ?_) (fun h => ?_)
    · have hlt : k < l.length := by have := of_decide_eq_true h; simp at this; omega
      obtain ⟨e, he⟩ := exI hlt
      (conv => whnf)
      refine split_intro (fun h1 => ?_) (fun h1 => ?_)
      · have hk3 : k ≤ 100 := by have := of_decide_eq_true h1; omega
        (conv => whnf)
        refine ⟨_, ⟨by omega, getMap he⟩, ?_⟩
        (conv => whnf)
        refine split_intro (fun h2 => ?_) (fun h2 => ?_)
        · have hx3 : ¬ e.1.length ≤ 300 := by have := of_decide_eq_true h2; rw [sB_sz] at this; omega
          (conv => whnf)
          exact Wk.bool (by
            symm
            have : ((l.take 101).all fun e => decide (e.1.length ≤ 300)) = false := by
              rw [List.all_eq_false]
              exact ⟨e, List.mem_of_getElem? (i := k) (by rw [List.getElem?_take_of_lt (by omega), he]), by simpa using hx3⟩
            rw [few, this]; rfl)
        · have hx3 : e.1.length ≤ 300 := by have := of_decide_eq_false h2; rw [sB_sz] at this; omega
          (conv => whnf)
          refine ⟨_, add64 (c := ((k + 1 : Nat) : Int)) (by omega) (by omega), ?_⟩
          (conv => whnf)
          refine ⟨k + 1, ⟨⟨by omega, by omega, ?_⟩, by simp only []; omega⟩, ?_⟩
          · rw [List.take_add_one, he]; simp only [List.all_append, hkk, Option.toList_some, List.all_cons, List.all_nil, decide_eq_true hx3]; rfl
          · (repeat' (first | exact trivial | exact Wk.refl _ | exact ObWk.refl _ | exact rfl | exact ⟨_, rfl⟩ | exact Nat.zero_lt_one | refine And.intro ?_ ?_ | unfold okTo | (unfold okO; conv => whnf) | (unfold okS; conv => whnf) | (unfold SlotOk; conv => whnf) | (unfold ObjOk; conv => whnf) | (unfold okCells; conv => whnf) | (unfold liveTo; conv => whnf) | exact Nat.zero_lt_succ _))
      · have hk3 : k = 101 := by have := of_decide_eq_false h1; omega
        (conv => whnf)
        exact Wk.bool (by rw [few, decide_eq_false (show ¬ l.length ≤ 100 by omega)]; simp; omega)
    · have hge : l.length ≤ k := by have := of_decide_eq_false h; simp at this; omega
      have e61 : l.take 101 = l := List.take_of_length_le (by omega)
      rw [List.take_of_length_le hge] at hkk
      (conv => whnf)
      exact Wk.bool (by rw [few, e61, hkk, Bool.true_and]; simp; constructor <;> intro h <;> omega)
def szs (l : List Str) : Nat := (l.map fun s => 5 + s.length).sum
theorem szs_take {l : List Str} {k : Nat} {s : Str} (h : l[k]? = some s) : szs (l.take (k + 1)) = szs (l.take k) + (5 + s.length) := by
  rw [List.take_add_one, h]
  simp only [szs, List.map_append, List.sum_append, Option.toList_some, List.map_cons, List.map_nil, List.sum_cons, List.sum_nil]
  omega
theorem szs_le {l : List Str} (hb : ∀ s ∈ l, s.length ≤ 1000) : ∀ k, szs (l.take k) ≤ 1005 * k
  | 0 => by simp [szs]
  | k + 1 => by
    have ih := szs_le hb k
    cases hs : l[k]? with
    | none => rw [List.take_add_one, hs]; simp only [Option.toList_none, List.append_nil]; omega
    | some s =>
      have := hb s (List.mem_of_getElem? hs)
      rw [szs_take hs]; omega
theorem size_ (l : List Str) (hb : l.length ≤ 1000 ∧ ∀ s ∈ l, s.length ≤ 1000) : FCall Try.prog Gl 21 [LS l] [] (vI ((4 + szs l : Nat) : Int)) [] := by
  have hsum := fun k => szs_le hb.2 k
  refine FCall.enterL hT hmix [] Try.func21 rfl rfl rfl fun hbd => ?_
  (conv => whnf)
  refine LWp.loop hT hmix [] (fun k : Nat => [(8, vI k), (3, vI ((4 + szs (l.take k) : Nat) : Int))]) (fun _ => []) (fun k => k ≤ l.length) (fun k => l.length - k) 0 (Nat.zero_le _) ?_
  (conv => whnf)
  refine ⟨?_, fun k hk => ?_⟩
  · (repeat' (first | exact trivial | exact Wk.refl _ | exact ObWk.refl _ | exact rfl | exact ⟨_, rfl⟩ | exact Nat.zero_lt_one | refine And.intro ?_ ?_ | unfold okTo | (unfold okO; conv => whnf) | (unfold okS; conv => whnf) | (unfold SlotOk; conv => whnf) | (unfold ObjOk; conv => whnf) | (unfold okCells; conv => whnf) | (unfold liveTo; conv => whnf) | exact Nat.zero_lt_succ _))
  · have hsk := hsum k
    (conv => whnf)
    refine split_intro (fun h => ?_) (fun h => ?_)
    · have hlt : k < l.length := by have := of_decide_eq_true h; simp at this; omega
      obtain ⟨s, hs⟩ := exI hlt
      have hsl := hb.2 s (List.mem_of_getElem? hs)
      have e1 : szs (l.take (k + 1)) = szs (l.take k) + (5 + s.length) := by
        exact szs_take hs
      (conv => whnf)
      refine ⟨_, ⟨by omega, getMap hs⟩, ?_⟩
      (conv => whnf)
      refine ⟨((4 + s.length : Nat) : Int), add64 (by rw [sB_sz]; simp) (by omega), ?_⟩
      (conv => whnf)
      refine ⟨((4 + s.length + 1 : Nat) : Int), add64 (by omega) (by omega), ?_⟩
      (conv => whnf)
      refine ⟨((4 + szs (l.take (k + 1)) : Nat) : Int), add64 (by rw [e1]; omega) (by rw [e1]; omega), ?_⟩
      (conv => whnf)
      refine ⟨_, add64 (c := ((k + 1 : Nat) : Int)) (by omega) (by omega), ?_⟩
      (conv => whnf)
      refine ⟨k + 1, ⟨by omega, by simp only []; omega⟩, ?_⟩
      (repeat' (first | exact trivial | exact Wk.refl _ | exact ObWk.refl _ | exact rfl | exact ⟨_, rfl⟩ | exact Nat.zero_lt_one | refine And.intro ?_ ?_ | unfold okTo | (unfold okO; conv => whnf) | (unfold okS; conv => whnf) | (unfold SlotOk; conv => whnf) | (unfold ObjOk; conv => whnf) | (unfold okCells; conv => whnf) | (unfold liveTo; conv => whnf) | exact Nat.zero_lt_succ _))
    · have hge : l.length ≤ k := by have := of_decide_eq_false h; simp at this; omega
      (conv => whnf)
      exact Wk.int (by rw [List.take_of_length_le hge])
end Go.Proofs.Ytfacepcmpijdpaa
