/- The walks through small functions of objects. No condition. -/
import Derived.Test.YtfacepcmpijdpaaAnq
import Derived.Test.YtfacepcmpijdpaaAnC
import Derived.Test.YtfacepcmpijdpaaAnp
set_option linter.unusedVariables false
set_option linter.unusedSimpArgs false
namespace Go.Proofs.Ytfacepcmpijdpaa
open Go Go.AL Go.AL.Ap Go.AL.Ob
set_option maxRecDepth 100000
abbrev SE (l : List Ob.Sym) : List (List D) := l.map Ob.Sym.enc
abbrev oD (o : Ob.Obj) : D := .agg [.list .any (SE o.syms), LB o.body]
abbrev oDn (o : Ob.Obj) : D := .agg [.list .nat (SE o.syms), LBn o.body]
theorem oput_ (xs : List UInt8) (n : Nat) (hn : n < 4294967296) (hb : xs.length ≤ 1000000000) :
    FCall Try.prog Gl 39 [.list (.tok 0) (B xs), vI n] [.tok (B xs).length 1] (.list (.tok 0) (B (xs ++ W4 n))) [.tok (B (xs ++ W4 n)).length 1] := by
  refine FCall.enterO hT hmix [] Try.func39 rfl rfl rfl fun hbd => ?_
  (conv => whnf)
  refine ⟨_, shr64n n 24 (by omega), ?_⟩
  (conv => whnf)
  refine ⟨_, wrapU8 _, ?_⟩
  (conv => whnf)
  refine ⟨_, shr64n n 16 (by omega), ?_⟩
  (conv => whnf)
  refine ⟨_, wrapU8 _, ?_⟩
  (conv => whnf)
  refine ⟨_, shr64n n 8 (by omega), ?_⟩
  (conv => whnf)
  refine ⟨_, wrapU8 _, ?_⟩
  (conv => whnf)
  refine ⟨_, wrapU8 _, ?_⟩
  (conv => whnf)
  refine ⟨_, appL (f := byteD) (xs := xs) (ys := W4 n) (zs := xs ++ W4 n) rfl rfl (fun _ => rfl) rfl (by rw [List.length_append, W4_len]; show _ * 1 ≤ _; omega), ?_⟩
  (conv => whnf)
  refine ⟨[0], rfl, by (try unfold pullOk); (repeat' (first | exact trivial | exact ObWk.refl _ | refine And.intro ?_ ?_ | unfold pullOk)), ?_⟩
  exact Wk.refl _
theorem oget_ (b : List UInt8) (hb : 4 ≤ b.length) : FCall Try.prog Gl 57 [LB b] [] (vI (num b)) [] := by
  obtain ⟨x, y, z, w, r, rfl⟩ := split4 hb
  have hx := x.toNat_lt
  have hy := y.toNat_lt
  have hz := z.toNat_lt
  have hw := w.toNat_lt
  refine FCall.enterL hT hmix [] Try.func57 rfl rfl rfl fun hbd => ?_
  (conv => whnf)
  refine ⟨_, ⟨by decide, rfl⟩, ?_⟩
  (conv => whnf)
  refine ⟨_, wrap64 (by omega), ?_⟩
  (conv => whnf)
  refine ⟨_, shl64n (k := 24) (by omega) rfl (by omega), ?_⟩
  (conv => whnf)
  refine ⟨_, ⟨by decide, rfl⟩, ?_⟩
  (conv => whnf)
  refine ⟨_, wrap64 (by omega), ?_⟩
  (conv => whnf)
  refine ⟨_, shl64n (k := 16) (by omega) rfl (by omega), ?_⟩
  (conv => whnf)
  refine ⟨_, or64n (x.toNat) 24 rfl (by omega) rfl (by omega), ?_⟩
  (conv => whnf)
  refine ⟨_, ⟨by decide, rfl⟩, ?_⟩
  (conv => whnf)
  refine ⟨_, wrap64 (by omega), ?_⟩
  (conv => whnf)
  refine ⟨_, shl64n (k := 8) (by omega) rfl (by omega), ?_⟩
  (conv => whnf)
  refine ⟨_, or64n (x.toNat * 256 + y.toNat) 16 (by omega) (by omega) rfl (by omega), ?_⟩
  (conv => whnf)
  refine ⟨_, ⟨by decide, rfl⟩, ?_⟩
  (conv => whnf)
  refine ⟨_, wrap64 (by omega), ?_⟩
  (conv => whnf)
  refine ⟨_, or64n ((x.toNat * 256 + y.toNat) * 256 + z.toNat) 8 (by omega) (by omega) rfl (by omega), ?_⟩
  (conv => whnf)
  exact Wk.int (by rw [num4]; omega)
/-! ### the decoder -/
abbrev thr (n : Int) : D := .iface 72 (.agg [vI n])
abbrev Dr (r : List UInt8) : List AObj := [.cells [LB r]]
theorem must_t (n : Int) : FCall Try.prog Gl 49 [vB true, vI n] [] (.tuple []) [] := by
  refine FCall.enterL hT hmix [] Try.func49 rfl rfl rfl fun hbd => ?_
  (conv => whnf)
  exact Wk.refl _
theorem must_f (n : Int) : PCall Try.prog Gl 49 [vB false, vI n] [] (thr n) [] := by
  refine PCall.enter hT hmix [] Try.func49 rfl rfl rfl fun hbd => ?_
  (conv => whnf)
  refine ⟨[], rfl, by (try unfold pullOk); (repeat' (first | exact trivial | exact ObWk.refl _ | refine And.intro ?_ ?_ | unfold pullOk)), ?_⟩
  exact Wk.refl _
theorem take_ (r : List UInt8) (n : Nat) (hn : n ≤ r.length) : FCall Try.prog Gl 50 [.ptr 0 0, vI n] (Dr r) (LB (r.take n)) (Dr (r.drop n)) := by
  refine FCall.enterO hT hmix [] Try.func50 rfl rfl rfl fun hbd => ?_
  (conv => whnf)
  refine split_intro (fun h => absurd h (by (simp; omega))) (fun _ => ?_)
  (conv => whnf)
  refine ⟨_, slTake (f := byteD) (l := r) (b := n) (r := r.take n) rfl hn (fun _ => rfl) rfl, ?_⟩
  (conv => whnf)
  refine ⟨_, slDrop (f := byteD) (l := r) (a := n) (r := r.drop n) rfl hn (fun _ => rfl) rfl, ?_⟩
  (conv => whnf)
  refine ⟨[0], rfl, by (try unfold pullOk); (repeat' (first | exact trivial | exact ObWk.refl _ | refine And.intro ?_ ?_ | unfold pullOk)), ?_⟩
  exact Wk.refl _
theorem take_f (r : List UInt8) (n : Nat) (hn : ¬ n ≤ r.length) : PCall Try.prog Gl 50 [.ptr 0 0, vI n] (Dr r) (thr 2) (Dr r) := by
  refine PCall.enter hT hmix [] Try.func50 rfl rfl rfl fun hbd => ?_
  (conv => whnf)
  refine split_intro (fun _ => ?_) (fun h => absurd h (by (simp; omega)))
  (conv => whnf)
  refine ⟨[0], rfl, by (try unfold pullOk); (repeat' (first | exact trivial | exact ObWk.refl _ | refine And.intro ?_ ?_ | unfold pullOk)), ?_⟩
  exact Wk.refl _
end Go.Proofs.Ytfacepcmpijdpaa

/- The decoder of objects. No condition. -/
set_option linter.unusedVariables false
set_option linter.unusedSimpArgs false
namespace Go.Proofs.Ytfacepcmpijdpaa
open Go Go.AL Go.AL.Ap Go.AL.Ob
set_option maxRecDepth 100000
abbrev Dj : List AObj := [.cells [.junk]]
theorem number_ok (r : List UInt8) (hn : 4 ≤ r.length) : FCall Try.prog Gl 51 [.ptr 0 0] (Dr r) (vI (num r)) (Dr (r.drop 4)) := by
  have hg := oget_ (r.take 4) (by simp; omega)
  rw [num_take hn] at hg
  refine FCall.enterO hT hmix [] Try.func51 rfl rfl rfl fun hbd => ?_
  (conv => whnf)
  refine CallLeaf.o [0] (by (repeat' (first | exact ArgsTo.nil | refine ArgsTo.cons ?_ ?_ | exact ArgTo.mk' rfl (Wk.refl _) | exact ArgTo.mk' rfl Wk.nilm | exact ArgTo.mk' rfl (Wk.int (by simp)) | exact ArgTo.mk' rfl (Wk.list _ _) | exact ArgTo.mk' rfl (Wk.agg (by (repeat' (first | exact Wks.nil | refine Wks.cons ?_ ?_ | exact Wk.refl _ | exact Wk.nilm | exact Wk.list _ _  | exact Wk.natN rfl | refine Wk.agg ?_))))))) (take_ r 4 hn) rfl rfl (by (repeat' (first | exact trivial | exact rfl | refine And.intro ?_ ?_))) (by (repeat' (first | exact trivial | exact rfl | refine And.intro ?_ ?_))) (by (repeat' (first | exact trivial | exact rfl | refine And.intro ?_ ?_))) rfl rfl ?_
  (conv => whnf)
  refine CallLeaf.w (by (repeat' (first | exact ArgsTo.nil | refine ArgsTo.cons ?_ ?_ | exact ArgTo.mk' rfl (Wk.refl _) | exact ArgTo.mk' rfl Wk.nilm | exact ArgTo.mk' rfl (Wk.int (by simp)) | exact ArgTo.mk' rfl (Wk.list _ _) | exact ArgTo.mk' rfl (Wk.agg (by (repeat' (first | exact Wks.nil | refine Wks.cons ?_ ?_ | exact Wk.refl _ | exact Wk.nilm | exact Wk.list _ _  | exact Wk.natN rfl | refine Wk.agg ?_))))))) (hg) rfl ?_
  (conv => whnf)
  refine ⟨[0], rfl, by (try unfold pullOk); (repeat' (first | exact trivial | exact ObWk.refl _ | refine And.intro ?_ ?_ | unfold pullOk)), ?_⟩
  exact Wk.refl _
theorem number_f (r : List UInt8) (hn : ¬ 4 ≤ r.length) : PCall Try.prog Gl 51 [.ptr 0 0] (Dr r) (thr 2) (Dr r) := by
  refine PCall.enter hT hmix [] Try.func51 rfl rfl rfl fun hbd => ?_
  (conv => whnf)
  refine CallLeaf.po [0] (by (repeat' (first | exact ArgsTo.nil | refine ArgsTo.cons ?_ ?_ | exact ArgTo.mk' rfl (Wk.refl _) | exact ArgTo.mk' rfl Wk.nilm | exact ArgTo.mk' rfl (Wk.int (by simp)) | exact ArgTo.mk' rfl (Wk.list _ _) | exact ArgTo.mk' rfl (Wk.agg (by (repeat' (first | exact Wks.nil | refine Wks.cons ?_ ?_ | exact Wk.refl _ | exact Wk.nilm | exact Wk.list _ _  | exact Wk.natN rfl | refine Wk.agg ?_))))))) (take_f r 4 hn) rfl rfl (by (repeat' (first | exact trivial | exact rfl | refine And.intro ?_ ?_))) (by (repeat' (first | exact trivial | exact rfl | refine And.intro ?_ ?_))) (by (repeat' (first | exact trivial | exact rfl | refine And.intro ?_ ?_))) rfl rfl ?_
  refine ⟨[0], rfl, by (try unfold pullOk); (repeat' (first | exact trivial | exact ObWk.refl _ | refine And.intro ?_ ?_ | unfold pullOk)), ?_⟩
  exact Wk.refl _
theorem hd_take (r : List UInt8) (k n : Nat) (h1 : k < n) (h2 : k < r.length) : (List.map byteD (r.take n))[k]? = some (byteD (r.getD k 0)) := by
  simp [List.getElem?_take_of_lt h1, List.getD, h2]
theorem symbol_ok (r r' : List UInt8) (s : Ob.Sym) (h : nextS r = some (s, r')) : FCall Try.prog Gl 52 [.ptr 0 0] (Dr r) (.agg s.enc) (Dr r') := by
  unfold nextS at h
  split at h
  · simp at h
  · rename_i hl
    simp only [Option.some.injEq, Prod.mk.injEq] at h
    obtain ⟨hs, hr⟩ := h
    have h10 : 10 ≤ r.length := by omega
    refine FCall.enterO hT hmix [] Try.func52 rfl rfl rfl fun hbd => ?_
    (conv => whnf)
    refine split_intro (fun h => absurd h (by (simp; omega))) (fun _ => ?_)
    (conv => whnf)
    have T1 := take_ r 1 (by omega)
    have N1 := number_ok (r.drop 1) (by simp; omega)
    have N2 := number_ok (r.drop 5) (by simp; omega)
    have T2 := take_ (r.drop 9) 1 (by simp; omega)
    have T3 := take_ (r.drop 10) (r.getD 9 0).toNat (by rw [List.length_drop]; omega)
    rw [List.drop_drop] at N1 N2 T2 T3
    have u0 := (r.getD 0 0).toNat_lt
    have u9 := (r.getD 9 0).toNat_lt
    have g0 := hd_take r 0 1 (by omega) (by omega)
    have g9 := hd_take (r.drop 9) 0 1 (by omega) (by simp; omega)
    have e9 : (r.drop 9).getD 0 0 = r.getD 9 0 := by simp [List.getD]
    rw [e9] at g9
    subst hs; subst hr
    refine CallLeaf.o [0] (by (repeat' (first | exact ArgsTo.nil | refine ArgsTo.cons ?_ ?_ | exact ArgTo.mk' rfl (Wk.refl _) | exact ArgTo.mk' rfl Wk.nilm | exact ArgTo.mk' rfl (Wk.int (by simp)) | exact ArgTo.mk' rfl (Wk.list _ _) | exact ArgTo.mk' rfl (Wk.agg (by (repeat' (first | exact Wks.nil | refine Wks.cons ?_ ?_ | exact Wk.refl _ | exact Wk.nilm | exact Wk.list _ _  | exact Wk.natN rfl | refine Wk.agg ?_))))))) (T1) rfl rfl (by (repeat' (first | exact trivial | exact rfl | refine And.intro ?_ ?_))) (by (repeat' (first | exact trivial | exact rfl | refine And.intro ?_ ?_))) (by (repeat' (first | exact trivial | exact rfl | refine And.intro ?_ ?_))) rfl rfl ?_
    (conv => whnf)
    refine ⟨_, ⟨by decide, g0⟩, ?_⟩
    (conv => whnf)
    refine ⟨_, wrap64 (by omega), ?_⟩
    (conv => whnf)
    refine CallLeaf.o [0] (by (repeat' (first | exact ArgsTo.nil | refine ArgsTo.cons ?_ ?_ | exact ArgTo.mk' rfl (Wk.refl _) | exact ArgTo.mk' rfl Wk.nilm | exact ArgTo.mk' rfl (Wk.int (by simp)) | exact ArgTo.mk' rfl (Wk.list _ _) | exact ArgTo.mk' rfl (Wk.agg (by (repeat' (first | exact Wks.nil | refine Wks.cons ?_ ?_ | exact Wk.refl _ | exact Wk.nilm | exact Wk.list _ _  | exact Wk.natN rfl | refine Wk.agg ?_))))))) (N1) rfl rfl (by (repeat' (first | exact trivial | exact rfl | refine And.intro ?_ ?_))) (by (repeat' (first | exact trivial | exact rfl | refine And.intro ?_ ?_))) (by (repeat' (first | exact trivial | exact rfl | refine And.intro ?_ ?_))) rfl rfl ?_
    (conv => whnf)
    refine CallLeaf.o [0] (by (repeat' (first | exact ArgsTo.nil | refine ArgsTo.cons ?_ ?_ | exact ArgTo.mk' rfl (Wk.refl _) | exact ArgTo.mk' rfl Wk.nilm | exact ArgTo.mk' rfl (Wk.int (by simp)) | exact ArgTo.mk' rfl (Wk.list _ _) | exact ArgTo.mk' rfl (Wk.agg (by (repeat' (first | exact Wks.nil | refine Wks.cons ?_ ?_ | exact Wk.refl _ | exact Wk.nilm | exact Wk.list _ _  | exact Wk.natN rfl | refine Wk.agg ?_))))))) (N2) rfl rfl (by (repeat' (first | exact trivial | exact rfl | refine And.intro ?_ ?_))) (by (repeat' (first | exact trivial | exact rfl | refine And.intro ?_ ?_))) (by (repeat' (first | exact trivial | exact rfl | refine And.intro ?_ ?_))) rfl rfl ?_
    (conv => whnf)
    refine CallLeaf.o [0] (by (repeat' (first | exact ArgsTo.nil | refine ArgsTo.cons ?_ ?_ | exact ArgTo.mk' rfl (Wk.refl _) | exact ArgTo.mk' rfl Wk.nilm | exact ArgTo.mk' rfl (Wk.int (by simp)) | exact ArgTo.mk' rfl (Wk.list _ _) | exact ArgTo.mk' rfl (Wk.agg (by (repeat' (first | exact Wks.nil | refine Wks.cons ?_ ?_ | exact Wk.refl _ | exact Wk.nilm | exact Wk.list _ _  | exact Wk.natN rfl | refine Wk.agg ?_))))))) (T2) rfl rfl (by (repeat' (first | exact trivial | exact rfl | refine And.intro ?_ ?_))) (by (repeat' (first | exact trivial | exact rfl | refine And.intro ?_ ?_))) (by (repeat' (first | exact trivial | exact rfl | refine And.intro ?_ ?_))) rfl rfl ?_
    (conv => whnf)
    refine ⟨_, ⟨by decide, g9⟩, ?_⟩
    (conv => whnf)
    refine ⟨_, wrap64 (by omega), ?_⟩
    (conv => whnf)
    refine CallLeaf.o [0] (by (repeat' (first | exact ArgsTo.nil | refine ArgsTo.cons ?_ ?_ | exact ArgTo.mk' rfl (Wk.refl _) | exact ArgTo.mk' rfl Wk.nilm | exact ArgTo.mk' rfl (Wk.int (by simp)) | exact ArgTo.mk' rfl (Wk.list _ _) | exact ArgTo.mk' rfl (Wk.agg (by (repeat' (first | exact Wks.nil | refine Wks.cons ?_ ?_ | exact Wk.refl _ | exact Wk.nilm | exact Wk.list _ _  | exact Wk.natN rfl | refine Wk.agg ?_))))))) (T3) rfl rfl (by (repeat' (first | exact trivial | exact rfl | refine And.intro ?_ ?_))) (by (repeat' (first | exact trivial | exact rfl | refine And.intro ?_ ?_))) (by (repeat' (first | exact trivial | exact rfl | refine And.intro ?_ ?_))) rfl rfl ?_
    (conv => whnf)
    refine ⟨_, rfl, ?_⟩
    (conv => whnf)
    refine ⟨[0], rfl, by (try unfold pullOk); (repeat' (first | exact trivial | exact ObWk.refl _ | refine And.intro ?_ ?_ | unfold pullOk)), ?_⟩
    exact Wk.refl _
theorem symbol_f (r : List UInt8) (h : nextS r = none) : PCall Try.prog Gl 52 [.ptr 0 0] (Dr r) (thr 2) Dj := by
  unfold nextS at h
  split at h
  case isFalse => simp at h
  rename_i hl
  refine PCall.enter hT hmix [] Try.func52 rfl rfl rfl fun hbd => ?_
  (conv => whnf)
  refine split_intro (fun h10 => ?_) (fun h10 => ?_)
  · (conv => whnf)
    refine ⟨[0], rfl, by (repeat' (first | exact trivial | exact ObWk.refl _ | exact ObWk.cells _ _ (Wks.cons (Wk.junk _) Wks.nil) | refine And.intro ?_ ?_ | unfold pullOk)), ?_⟩
    exact Wk.refl _
  · have h10' : 10 ≤ r.length := by have := of_decide_eq_false h10; simp at this; omega
    have T1 := take_ r 1 (by omega)
    have N1 := number_ok (r.drop 1) (by simp; omega)
    have N2 := number_ok (r.drop 5) (by simp; omega)
    have T2 := take_ (r.drop 9) 1 (by simp; omega)
    have T3 := take_f (r.drop 10) (r.getD 9 0).toNat (by rw [List.length_drop]; omega)
    rw [List.drop_drop] at N1 N2 T2
    have u0 := (r.getD 0 0).toNat_lt
    have u9 := (r.getD 9 0).toNat_lt
    have g0 := hd_take r 0 1 (by omega) (by omega)
    have g9 := hd_take (r.drop 9) 0 1 (by omega) (by simp; omega)
    have e9 : (r.drop 9).getD 0 0 = r.getD 9 0 := by simp [List.getD]
    rw [e9] at g9
    (conv => whnf)
    refine CallLeaf.o [0] (by (repeat' (first | exact ArgsTo.nil | refine ArgsTo.cons ?_ ?_ | exact ArgTo.mk' rfl (Wk.refl _) | exact ArgTo.mk' rfl Wk.nilm | exact ArgTo.mk' rfl (Wk.int (by simp)) | exact ArgTo.mk' rfl (Wk.list _ _) | exact ArgTo.mk' rfl (Wk.agg (by (repeat' (first | exact Wks.nil | refine Wks.cons ?_ ?_ | exact Wk.refl _ | exact Wk.nilm | exact Wk.list _ _  | exact Wk.natN rfl | refine Wk.agg ?_))))))) (T1) rfl rfl (by (repeat' (first | exact trivial | exact rfl | refine And.intro ?_ ?_))) (by (repeat' (first | exact trivial | exact rfl | refine And.intro ?_ ?_))) (by (repeat' (first | exact trivial | exact rfl | refine And.intro ?_ ?_))) rfl rfl ?_
    (conv => whnf)
    refine ⟨_, ⟨by decide, g0⟩, ?_⟩
    (conv => whnf)
    refine ⟨_, wrap64 (by omega), ?_⟩
    (conv => whnf)
    refine CallLeaf.o [0] (by (repeat' (first | exact ArgsTo.nil | refine ArgsTo.cons ?_ ?_ | exact ArgTo.mk' rfl (Wk.refl _) | exact ArgTo.mk' rfl Wk.nilm | exact ArgTo.mk' rfl (Wk.int (by simp)) | exact ArgTo.mk' rfl (Wk.list _ _) | exact ArgTo.mk' rfl (Wk.agg (by (repeat' (first | exact Wks.nil | refine Wks.cons ?_ ?_ | exact Wk.refl _ | exact Wk.nilm | exact Wk.list _ _  | exact Wk.natN rfl | refine Wk.agg ?_))))))) (N1) rfl rfl (by (repeat' (first | exact trivial | exact rfl | refine And.intro ?_ ?_))) (by (repeat' (first | exact trivial | exact rfl | refine And.intro ?_ ?_))) (by (repeat' (first | exact trivial | exact rfl | refine And.intro ?_ ?_))) rfl rfl ?_
    (conv => whnf)
    refine CallLeaf.o [0] (by (repeat' (first | exact ArgsTo.nil | refine ArgsTo.cons ?_ ?_ | exact ArgTo.mk' rfl (Wk.refl _) | exact ArgTo.mk' rfl Wk.nilm | exact ArgTo.mk' rfl (Wk.int (by simp)) | exact ArgTo.mk' rfl (Wk.list _ _) | exact ArgTo.mk' rfl (Wk.agg (by (repeat' (first | exact Wks.nil | refine Wks.cons ?_ ?_ | exact Wk.refl _ | exact Wk.nilm | exact Wk.list _ _  | exact Wk.natN rfl | refine Wk.agg ?_))))))) (N2) rfl rfl (by (repeat' (first | exact trivial | exact rfl | refine And.intro ?_ ?_))) (by (repeat' (first | exact trivial | exact rfl | refine And.intro ?_ ?_))) (by (repeat' (first | exact trivial | exact rfl | refine And.intro ?_ ?_))) rfl rfl ?_
    (conv => whnf)
    refine CallLeaf.o [0] (by (repeat' (first | exact ArgsTo.nil | refine ArgsTo.cons ?_ ?_ | exact ArgTo.mk' rfl (Wk.refl _) | exact ArgTo.mk' rfl Wk.nilm | exact ArgTo.mk' rfl (Wk.int (by simp)) | exact ArgTo.mk' rfl (Wk.list _ _) | exact ArgTo.mk' rfl (Wk.agg (by (repeat' (first | exact Wks.nil | refine Wks.cons ?_ ?_ | exact Wk.refl _ | exact Wk.nilm | exact Wk.list _ _  | exact Wk.natN rfl | refine Wk.agg ?_))))))) (T2) rfl rfl (by (repeat' (first | exact trivial | exact rfl | refine And.intro ?_ ?_))) (by (repeat' (first | exact trivial | exact rfl | refine And.intro ?_ ?_))) (by (repeat' (first | exact trivial | exact rfl | refine And.intro ?_ ?_))) rfl rfl ?_
    (conv => whnf)
    refine ⟨_, ⟨by decide, g9⟩, ?_⟩
    (conv => whnf)
    refine ⟨_, wrap64 (by omega), ?_⟩
    (conv => whnf)
    refine CallLeaf.po [0] (by (repeat' (first | exact ArgsTo.nil | refine ArgsTo.cons ?_ ?_ | exact ArgTo.mk' rfl (Wk.refl _) | exact ArgTo.mk' rfl Wk.nilm | exact ArgTo.mk' rfl (Wk.int (by simp)) | exact ArgTo.mk' rfl (Wk.list _ _) | exact ArgTo.mk' rfl (Wk.agg (by (repeat' (first | exact Wks.nil | refine Wks.cons ?_ ?_ | exact Wk.refl _ | exact Wk.nilm | exact Wk.list _ _  | exact Wk.natN rfl | refine Wk.agg ?_))))))) (T3) rfl rfl (by (repeat' (first | exact trivial | exact rfl | refine And.intro ?_ ?_))) (by (repeat' (first | exact trivial | exact rfl | refine And.intro ?_ ?_))) (by (repeat' (first | exact trivial | exact rfl | refine And.intro ?_ ?_))) rfl rfl ?_
    refine ⟨[0], rfl, by (repeat' (first | exact trivial | exact ObWk.refl _ | exact ObWk.cells _ _ (Wks.cons (Wk.junk _) Wks.nil) | refine And.intro ?_ ?_ | unfold pullOk)), ?_⟩
    exact Wk.refl _
end Go.Proofs.Ytfacepcmpijdpaa

/- Valid symbols; copying bytes. No condition. -/
set_option linter.unusedVariables false
set_option linter.unusedSimpArgs false
namespace Go.Proofs.Ytfacepcmpijdpaa
open Go Go.AL Go.AL.Ap Go.AL.Ob
set_option maxRecDepth 100000
theorem vbad {s : Ob.Sym} (h : ¬ (1 ≤ s.name.length ∧ s.name.length ≤ 255 ∧ (0 : UInt8) ∉ s.name ∧ 0 ≤ s.size ∧ s.size ≤ 4294967295)) : valid s = false := by
  cases hv : valid s with
  | false => rfl
  | true =>
    obtain ⟨h1, h2, h3, h4, h5, _⟩ := valid_iff.1 hv
    exact absurd ⟨h1, h2, h3, h4, h5⟩ h
theorem vgood {s : Ob.Sym} (h1 : 1 ≤ s.name.length) (h2 : s.name.length ≤ 255) (h3 : (0 : UInt8) ∉ s.name) (h4 : 0 ≤ s.size) (h5 : s.size ≤ 4294967295) : valid s = bindOk s := by
  simp [valid, h1, h2, h3, h4, h5]
theorem valid_ (s : Ob.Sym) : FCall Try.prog Gl 44 [.agg s.enc] [] (vB (valid s)) [] := by
  obtain ⟨nm, bd, sz, al⟩ := s
  have hsz := sB_sz nm
  refine FCall.enterL hT hmix [] Try.func44 rfl rfl rfl fun hbd => ?_
  (conv => whnf)
  refine split_intro (fun h1 => ?_) (fun h1 => ?_)
  · have h1' : ((sB nm).size : Int) < 1 := of_decide_eq_true h1
    (conv => whnf)
    exact Wk.bool (vbad (by simp only; omega)).symm
  · have h1' : ¬ (((sB nm).size : Int) < 1) := of_decide_eq_false h1
    (conv => whnf)
    refine split_intro (fun h2 => ?_) (fun h2 => ?_)
    · have h2' : (255 : Int) < (sB nm).size := of_decide_eq_true h2
      (conv => whnf)
      exact Wk.bool (vbad (by simp only; omega)).symm
    · have h2' : ¬ ((255 : Int) < (sB nm).size) := of_decide_eq_false h2
      (conv => whnf)
      refine CallLeaf.w (by (repeat' (first | exact ArgsTo.nil | refine ArgsTo.cons ?_ ?_ | exact ArgTo.mk' rfl (Wk.refl _) | exact ArgTo.mk' rfl Wk.nilm | exact ArgTo.mk' rfl (Wk.int (by simp)) | exact ArgTo.mk' rfl (Wk.list _ _) | exact ArgTo.mk' rfl (Wk.agg (by (repeat' (first | exact Wks.nil | refine Wks.cons ?_ ?_ | exact Wk.refl _ | exact Wk.nilm | exact Wk.list _ _  | exact Wk.natN rfl | refine Wk.agg ?_))))))) (contains0_ nm) rfl ?_
      (conv => whnf)
      refine split_intro (fun h3 => ?_) (fun h3 => ?_)
      · have h3' : (0 : UInt8) ∈ nm := of_decide_eq_true h3
        (conv => whnf)
        exact Wk.bool (vbad (fun h => h.2.2.1 h3')).symm
      · have h3' : ¬ ((0 : UInt8) ∈ nm) := of_decide_eq_false h3
        (conv => whnf)
        refine split_intro (fun h4 => ?_) (fun h4 => ?_)
        · have h4' : sz < 0 := of_decide_eq_true h4
          (conv => whnf)
          exact Wk.bool (vbad (by simp only; omega)).symm
        · have h4' : ¬ (sz < 0) := of_decide_eq_false h4
          (conv => whnf)
          refine split_intro (fun h5 => ?_) (fun h5 => ?_)
          · have h5' : (4294967295 : Int) < sz := of_decide_eq_true h5
            (conv => whnf)
            exact Wk.bool (vbad (by simp only; omega)).symm
          · have h5' : ¬ ((4294967295 : Int) < sz) := of_decide_eq_false h5
            rw [vgood (s := ⟨nm, bd, sz, al⟩) (by simp only; omega) (by simp only; omega) h3' (by simp only; omega) (by simp only; omega)]
            (conv => whnf)
            refine split_intro (fun b1 => ?_) (fun b1 => ?_)
            · have b1' : bd = 1 := eq_of_beq b1
              subst b1'
              (conv => whnf)
              exact Wk.bool (by simp [bindOk]; rw [Bool.eq_iff_iff]; simp)
            · have b1' : ¬ bd = 1 := by simpa using b1
              (conv => whnf)
              refine split_intro (fun b2 => ?_) (fun b2 => ?_)
              · have b2' : bd = 2 := eq_of_beq b2
                subst b2'
                (conv => whnf)
                exact Wk.bool (by simp [bindOk]; rw [Bool.eq_iff_iff]; simp)
              · have b2' : ¬ bd = 2 := by simpa using b2
                (conv => whnf)
                refine split_intro (fun b3 => ?_) (fun b3 => ?_)
                · have b3' : bd = 3 := eq_of_beq b3
                  subst b3'
                  (conv => whnf)
                  refine split_intro (fun a1 => ?_) (fun a1 => ?_)
                  · have a1' : (1 : Int) ≤ al := of_decide_eq_true a1
                    (conv => whnf)
                    refine split_intro (fun a2 => ?_) (fun a2 => ?_)
                    · have a2' : al ≤ 65536 := of_decide_eq_true a2
                      obtain ⟨n, rfl⟩ := Int.eq_ofNat_of_zero_le (show 0 ≤ al by omega)
                      (conv => whnf)
                      refine ⟨((n - 1 : Nat) : Int), sub64 (by show (n : Int) - 1 = _; omega) (by omega), ?_⟩
                      (conv => whnf)
                      refine ⟨_, and64n (by omega) (by omega), ?_⟩
                      (conv => whnf)
                      exact Wk.bool (by simp only [bindOk, if_true]; rw [pow_and (by omega) (by omega), Bool.eq_iff_iff]; simp; try omega)
                    · have a2' : ¬ (al ≤ 65536) := of_decide_eq_false a2
                      (conv => whnf)
                      exact Wk.bool (by
                        symm; simp only [bindOk, if_true]
                        rw [Bool.eq_false_iff]; intro hp; have := pow_le hp; omega)
                  · have a1' : ¬ ((1 : Int) ≤ al) := of_decide_eq_false a1
                    (conv => whnf)
                    exact Wk.bool (by
                      symm; simp only [bindOk, if_true]
                      rw [Bool.eq_false_iff]; intro hp; have := of_decide_eq_true hp
                      simp only [pows, List.mem_cons, List.not_mem_nil, or_false] at this; omega)
                · have b3' : ¬ bd = 3 := by simpa using b3
                  (conv => whnf)
                  refine split_intro (fun b4 => ?_) (fun b4 => ?_)
                  · have b4' : bd = 4 := eq_of_beq b4
                    subst b4'
                    (conv => whnf)
                    ((refine split_intro (fun a1 => ?_) (fun a1 => ?_)); (((conv => whnf)); exact Wk.bool (by have a1' : al = 0 := eq_of_beq a1; simp [bindOk, a1']; (try rw [Bool.eq_iff_iff]); (try simp))); (((conv => whnf)); exact Wk.bool (by have a1' : ¬ al = 0 := (by simpa using a1); simp [bindOk, a1'])))
                  · have b4' : ¬ bd = 4 := by simpa using b4
                    (conv => whnf)
                    refine split_intro (fun b5 => ?_) (fun b5 => ?_)
                    · have b5' : bd = 5 := eq_of_beq b5
                      subst b5'
                      (conv => whnf)
                      ((refine split_intro (fun a1 => ?_) (fun a1 => ?_)); (((conv => whnf)); exact Wk.bool (by have a1' : al = 0 := eq_of_beq a1; simp [bindOk, a1']; (try rw [Bool.eq_iff_iff]); (try simp))); (((conv => whnf)); exact Wk.bool (by have a1' : ¬ al = 0 := (by simpa using a1); simp [bindOk, a1'])))
                    · have b5' : ¬ bd = 5 := by simpa using b5
                      (conv => whnf)
                      exact Wk.bool (by simp [bindOk, b1', b2', b3', b4', b5'])
end Go.Proofs.Ytfacepcmpijdpaa

/- Decoding an object. No condition. -/
set_option linter.unusedVariables false
set_option linter.unusedSimpArgs false
namespace Go.Proofs.Ytfacepcmpijdpaa
open Go Go.AL Go.AL.Ap Go.AL.Ob
set_option maxRecDepth 100000
set_option maxHeartbeats 4000000
theorem must_t' (b : Bool) (n : Int) (h : b = true) : FCall Try.prog Gl 49 [vB b, vI n] [] (.tuple []) [] := by subst h; exact must_t n
theorem must_f' (b : Bool) (n : Int) (h : b = false) : PCall Try.prog Gl 49 [vB b, vI n] [] (thr n) [] := by subst h; exact must_f n
theorem clone_ (r : List UInt8) (hr : r.length ≤ 1000000000) : FCall Try.prog Gl 53 [LB r] [] (LBn r) [] := by
  refine FCall.enterL hT hmix [] Try.func53 rfl rfl rfl fun hbd => ?_
  (conv => whnf)
  refine And.intro (fun he => ?_) (fun he => ?_)
  · have hr0 : r = [] := by simpa using he
    subst hr0
    (conv => whnf)
    refine And.intro ?_ ?_
    · (conv => whnf)
      exact Wk.natN rfl
    · (conv => whnf)
      refine ⟨_, appL (f := byteD) (xs := []) (ys := []) (zs := []) rfl rfl (fun _ => rfl) rfl (by decide), ?_⟩
      (conv => whnf)
      exact Wk.nat' rfl
  · (conv => whnf)
    refine ⟨_, appL (f := byteD) (xs := []) (ys := r) (zs := r) rfl rfl (fun _ => rfl) rfl (by show _ * 1 ≤ _; omega), ?_⟩
    (conv => whnf)
    exact Wk.nat' rfl
theorem has_mem (l : List Ob.Sym) (n : Str) : Ob.has l n = decide (n ∈ l.map Ob.Sym.name) := by
  rw [Bool.eq_iff_iff, Ob.has_iff]; simp
theorem object_ok (r : List UInt8) (l : List Ob.Sym) (x : List UInt8) (h : decO r = .ok (l, x)) (hr : r.length ≤ 1000000000) :
    FCall Try.prog Gl 41 [.ptr 0 0] (Dr r) (oDn ⟨l, x⟩) Dj := by
  unfold decO at h
  split at h
  · simp at h
  rename_i h4
  split at h
  · simp at h
  rename_i hm
  split at h
  · simp at h
  rename_i h8
  split at h
  · simp at h
  rename_i hn
  simp only [ne_eq, Decidable.not_not] at hm
  have T1 := take_ r 4 (by omega)
  have N1 := number_ok (r.drop 4) (by simp; omega)
  rw [List.drop_drop] at N1
  have hn32 := num_lt (r.drop 4)
  generalize hnn : num (r.drop 4) = n at *
  refine FCall.enterO hT hmix [] Try.func41 rfl rfl rfl fun hbd => ?_
  (conv => whnf)
  refine CallLeaf.o [0] (by (repeat' (first | exact ArgsTo.nil | refine ArgsTo.cons ?_ ?_ | exact ArgTo.mk' rfl (Wk.refl _) | exact ArgTo.mk' rfl Wk.nilm | exact ArgTo.mk' rfl (Wk.int (by simp)) | exact ArgTo.mk' rfl (Wk.list _ _) | exact ArgTo.mk' rfl (Wk.agg (by (repeat' (first | exact Wks.nil | refine Wks.cons ?_ ?_ | exact Wk.refl _ | exact Wk.nilm | exact Wk.list _ _  | exact Wk.natN rfl | refine Wk.agg ?_))))))) (T1) rfl rfl (by (repeat' (first | exact trivial | exact rfl | refine And.intro ?_ ?_))) (by (repeat' (first | exact trivial | exact rfl | refine And.intro ?_ ?_))) (by (repeat' (first | exact trivial | exact rfl | refine And.intro ?_ ?_))) rfl rfl ?_
  (conv => whnf)
  (refine ⟨(r.take 4), rfl, ?_⟩)
  (conv => whnf)
  refine CallLeaf.w (by (repeat' (first | exact ArgsTo.nil | refine ArgsTo.cons ?_ ?_ | exact ArgTo.mk' rfl (Wk.refl _) | exact ArgTo.mk' rfl Wk.nilm | exact ArgTo.mk' rfl (Wk.int (by simp)) | exact ArgTo.mk' rfl (Wk.list _ _) | exact ArgTo.mk' rfl (Wk.agg (by (repeat' (first | exact Wks.nil | refine Wks.cons ?_ ?_ | exact Wk.refl _ | exact Wk.nilm | exact Wk.list _ _  | exact Wk.natN rfl | refine Wk.agg ?_))))))) (must_t' _ 1 (decide_eq_true hm)) rfl ?_
  (conv => whnf)
  refine CallLeaf.o [0] (by (repeat' (first | exact ArgsTo.nil | refine ArgsTo.cons ?_ ?_ | exact ArgTo.mk' rfl (Wk.refl _) | exact ArgTo.mk' rfl Wk.nilm | exact ArgTo.mk' rfl (Wk.int (by simp)) | exact ArgTo.mk' rfl (Wk.list _ _) | exact ArgTo.mk' rfl (Wk.agg (by (repeat' (first | exact Wks.nil | refine Wks.cons ?_ ?_ | exact Wk.refl _ | exact Wk.nilm | exact Wk.list _ _  | exact Wk.natN rfl | refine Wk.agg ?_))))))) (N1) rfl rfl (by (repeat' (first | exact trivial | exact rfl | refine And.intro ?_ ?_))) (by (repeat' (first | exact trivial | exact rfl | refine And.intro ?_ ?_))) (by (repeat' (first | exact trivial | exact rfl | refine And.intro ?_ ?_))) rfl rfl ?_
  (conv => whnf)
  refine CallLeaf.w (by (repeat' (first | exact ArgsTo.nil | refine ArgsTo.cons ?_ ?_ | exact ArgTo.mk' rfl (Wk.refl _) | exact ArgTo.mk' rfl Wk.nilm | exact ArgTo.mk' rfl (Wk.int (by simp)) | exact ArgTo.mk' rfl (Wk.list _ _) | exact ArgTo.mk' rfl (Wk.agg (by (repeat' (first | exact Wks.nil | refine Wks.cons ?_ ?_ | exact Wk.refl _ | exact Wk.nilm | exact Wk.list _ _  | exact Wk.natN rfl | refine Wk.agg ?_))))))) (must_t' _ 12 (by simp; omega)) rfl ?_
  (conv => whnf)
  refine LWp.loop hT hmix [] (fun x : Nat × List UInt8 × List Ob.Sym × Ents => [(19, vI x.1)]) (fun x => [(0, .cells [LB x.2.1]), (2049, .cells [.list (.tok 403) (SE x.2.2.1), .nil]), (403, .tok (SE x.2.2.1).length 4), (2561, .map x.2.2.2)]) (fun y => y.1 ≤ n ∧ y.2.1.length ≤ r.length ∧ y.2.2.1.length = y.1 ∧ Wt.Sn y.2.2.2 (y.2.2.1.map Ob.Sym.name) ∧ Ob.decL (n - y.1) y.2.1 y.2.2.1 = .ok (l, x)) (fun x => n - x.1) (0, r.drop 8, [], []) ⟨Nat.zero_le _, by simp, rfl, Wt.Sn.nil, h⟩ ?_
  (conv => whnf)
  refine ⟨?_, fun ⟨k, q, acc, es⟩ ⟨hk, hql, hal, hS, hd⟩ => ?_⟩
  · (repeat' (first | exact trivial | exact Wk.refl _ | exact ObWk.refl _ | exact rfl | exact ⟨_, rfl⟩ | exact Nat.zero_lt_one | refine And.intro ?_ ?_ | unfold okTo | (unfold okO; conv => whnf) | (unfold okS; conv => whnf) | (unfold SlotOk; conv => whnf) | (unfold ObjOk; conv => whnf) | (unfold okCells; conv => whnf) | (unfold liveTo; conv => whnf) | exact Nat.zero_lt_succ _))
  · replace hk : k ≤ n := hk
    replace hql : q.length ≤ r.length := hql
    replace hal : acc.length = k := hal
    replace hS : Wt.Sn es (acc.map Ob.Sym.name) := hS
    replace hd : Ob.decL (n - k) q acc = .ok (l, x) := hd
    (conv => whnf)
    refine split_intro (fun h2 => ?_) (fun h2 => ?_)
    · have hlt : k < n := by have := of_decide_eq_true h2; omega
      obtain ⟨m, hmm⟩ : ∃ m, n - k = m + 1 := ⟨n - k - 1, by omega⟩
      rw [hmm, Ob.decL] at hd
      split at hd
      · simp at hd
      rename_i s q' hnx
      split at hd
      case isFalse => simp at hd
      rename_i hvs
      simp only [Bool.and_eq_true, Bool.not_eq_true'] at hvs
      rw [has_mem] at hvs
      have hq' := congrArg List.length (nextS_some hnx hvs.1)
      simp at hq'
      (conv => whnf)
      refine CallLeaf.o [0] (by (repeat' (first | exact ArgsTo.nil | refine ArgsTo.cons ?_ ?_ | exact ArgTo.mk' rfl (Wk.refl _) | exact ArgTo.mk' rfl Wk.nilm | exact ArgTo.mk' rfl (Wk.int (by simp)) | exact ArgTo.mk' rfl (Wk.list _ _) | exact ArgTo.mk' rfl (Wk.agg (by (repeat' (first | exact Wks.nil | refine Wks.cons ?_ ?_ | exact Wk.refl _ | exact Wk.nilm | exact Wk.list _ _  | exact Wk.natN rfl | refine Wk.agg ?_))))))) (symbol_ok q q' s hnx) rfl rfl (by (repeat' (first | exact trivial | exact rfl | refine And.intro ?_ ?_))) (by (repeat' (first | exact trivial | exact rfl | refine And.intro ?_ ?_))) (by (repeat' (first | exact trivial | exact rfl | refine And.intro ?_ ?_))) rfl rfl ?_
      (conv => whnf)
      refine CallLeaf.w (by (repeat' (first | exact ArgsTo.nil | refine ArgsTo.cons ?_ ?_ | exact ArgTo.mk' rfl (Wk.refl _) | exact ArgTo.mk' rfl Wk.nilm | exact ArgTo.mk' rfl (Wk.int (by simp)) | exact ArgTo.mk' rfl (Wk.list _ _) | exact ArgTo.mk' rfl (Wk.agg (by (repeat' (first | exact Wks.nil | refine Wks.cons ?_ ?_ | exact Wk.refl _ | exact Wk.nilm | exact Wk.list _ _  | exact Wk.natN rfl | refine Wk.agg ?_))))))) (valid_ s) rfl ?_
      (conv => whnf)
      refine split_intro (fun _ => ?_) (fun h => absurd h (by (simp [hvs.1])))
      (conv => whnf)
      refine ⟨_, ⟨hS.keys, hS.look' s.name⟩, ?_⟩
      (conv => whnf)
      refine CallLeaf.w (by (repeat' (first | exact ArgsTo.nil | refine ArgsTo.cons ?_ ?_ | exact ArgTo.mk' rfl (Wk.refl _) | exact ArgTo.mk' rfl Wk.nilm | exact ArgTo.mk' rfl (Wk.int (by simp)) | exact ArgTo.mk' rfl (Wk.list _ _) | exact ArgTo.mk' rfl (Wk.agg (by (repeat' (first | exact Wks.nil | refine Wks.cons ?_ ?_ | exact Wk.refl _ | exact Wk.nilm | exact Wk.list _ _  | exact Wk.natN rfl | refine Wk.agg ?_))))))) (must_t' _ 12 (by rw [hvs.2]; rfl)) rfl ?_
      (conv => whnf)
      refine ⟨_, ⟨hS.keys, rfl⟩, ?_⟩
      (conv => whnf)
      refine ⟨_, appL (f := Ob.Sym.enc) (xs := acc) (ys := [s]) (zs := acc ++ [s]) rfl rfl (fun _ => rfl) rfl (by rw [List.length_append]; show (_ + 1) * 40 ≤ _; omega), ?_⟩
      (conv => whnf)
      refine ⟨_, add64 (c := ((k + 1 : Nat) : Int)) (by omega) (by omega), ?_⟩
      (conv => whnf)
      refine ⟨(k + 1, q', acc ++ [s], mset es (.string (sB s.name)) (vB true)), ⟨⟨by show k + 1 ≤ n; omega, by show q'.length ≤ _; omega, by simp [hal], by have := hS.set s.name; simpa using this, ?_⟩, by show n - (k + 1) < n - k; omega⟩, ?_⟩
      · show Ob.decL (n - (k + 1)) q' (acc ++ [s]) = _
        rw [show n - (k + 1) = m by omega]; exact hd
      · (repeat' (first | exact trivial | exact Wk.refl _ | exact ObWk.refl _ | exact rfl | exact ⟨_, rfl⟩ | exact Nat.zero_lt_one | refine And.intro ?_ ?_ | unfold okTo | (unfold okO; conv => whnf) | (unfold okS; conv => whnf) | (unfold SlotOk; conv => whnf) | (unfold ObjOk; conv => whnf) | (unfold okCells; conv => whnf) | (unfold liveTo; conv => whnf) | exact Nat.zero_lt_succ _))
    · have hge : n - k = 0 := by have := of_decide_eq_false h2; omega
      rw [hge, Ob.decL] at hd
      simp only [Except.ok.injEq, Prod.mk.injEq] at hd
      obtain ⟨e1, e2⟩ := hd
      subst e1; subst e2
      (conv => whnf)
      refine CallLeaf.w (by (repeat' (first | exact ArgsTo.nil | refine ArgsTo.cons ?_ ?_ | exact ArgTo.mk' rfl (Wk.refl _) | exact ArgTo.mk' rfl Wk.nilm | exact ArgTo.mk' rfl (Wk.int (by simp)) | exact ArgTo.mk' rfl (Wk.list _ _) | exact ArgTo.mk' rfl (Wk.agg (by (repeat' (first | exact Wks.nil | refine Wks.cons ?_ ?_ | exact Wk.refl _ | exact Wk.nilm | exact Wk.list _ _  | exact Wk.natN rfl | refine Wk.agg ?_))))))) (clone_ q (by omega)) rfl ?_
      (conv => whnf)
      refine ⟨[0], rfl, by (repeat' (first | exact trivial | exact ObWk.refl _ | exact ObWk.cells _ _ (Wks.cons (Wk.junk _) Wks.nil) | refine And.intro ?_ ?_ | unfold pullOk)), ?_⟩
      exact Wk.agg (Wks.cons (Wk.nat' rfl) (Wks.cons (Wk.nat' rfl) Wks.nil))
end Go.Proofs.Ytfacepcmpijdpaa
