/- AL42: loops over functions: the rule. No condition. -/
import Derived.Test.YtimnnknfcfongaaDoorAAc
import Derived.Lib.LaidTab
import Derived.Lib.AppendIntMem
import Derived.Handed
import Derived.MakeChecks
import Derived.Shelf.Vars
set_option linter.unusedVariables false
set_option linter.unusedSimpArgs false
namespace Go.AL
open Go
variable {P : Program} {T : Tab} {G : Glob}

def visitR {α : Type} (ok : List α → Bool) : List α → List α → List α
 | pre, [] => pre
 | pre, x :: r => match ok (pre ++ [x]) with | true => visitR ok (pre ++ [x]) r | false => pre ++ [x]

def IterSpec (P : Program) (G : Glob) (f : FuncId) (cob : AObj) {α : Type} (encs : α → List D) (xs : List α) : Prop :=
 IsFn P f ∧ ∀ (l : Nat) (B : List α → Bag) (ok : List α → Bool),
  (∀ pre x r, xs = pre ++ x :: r → (∀ p y s, pre = p ++ y :: s → ok (p ++ [y]) = true) → YCall P G l (encs x) [.bag (B pre)] (vB (ok (pre ++ [x]))) [.bag (B (pre ++ [x]))]) →
  FCall P G f [.func (.yield l) [] [], .ptr 1 0] [.bag (B []), cob] (.tuple []) [.bag (B (visitR ok [] xs)), cob]

theorem Rel.core' {E w st a} (R : Rel G E w st a) : Core G E w.heap st.σ st.nx := R.core

theorem AWp.rangeFunc {base : Nat} (hmks : G.mks = some base) {m mr : Nat} {g : Operand} {ps : Array Tmp} {assign body : Code} {Q : Exit → St → Prop} {st : St} {f : FuncId} {q : Nat} {cob : AObj} {ks : Sl} {α : Type} {encs : α → List D} {xs : List α} {σ : List α → Store} {jump : List α → Exit}
  (hg : ev G st.ρ g = .func (.func f) [] [.ptr q 0]) (hq : st.σ q = cob) (hqd : cob ≠ .dead) (hqm : m ≤ q) (hcob : AObj.ren (oner (some q)) cob = some cob)
  (hσ : ∀ k, k ≠ q → σ [] k = st.σ k) (hσq : σ [] q = .dead) (hr : ∀ k, AObj.ren (cutr (some q)) (σ [] k) = some (σ [] k))
  (hks : ∀ t, mkρ ks t = st.ρ t ∨ mkρ ks t = .junk) (hkr : ∀ t, D.ren (cutr (some q)) (mkρ ks t) = some (mkρ ks t))
  (hkeys : ∀ p k, mr ≤ k → σ p k = .dead) (hmr0 : m ≤ mr) (hmr : mr ≤ st.nx)
  (hlen : ∀ x, (encs x).length = ps.size) (hps : ∀ p ∈ ps.toList, p < st.n) (henc : ∀ x, D.renL (fun _ => none) (encs x) = some (encs x))
  (hn1 : Code.nodef assign = true) (hn2 : Code.nodef body = true) (hj0 : jump [] = .normal) (hjok : ∀ p, jok (jump p) = true)
  (hspec : IterSpec P G f cob encs xs)
  (hround : ∀ pre x r, xs = pre ++ x :: r → (∀ p y s, pre = p ++ y :: s → jump (p ++ [y]) = .normal) →
   AWp P { g := G.g } mr assign (fun e s => match e with | .normal => AWp P { g := G.g } mr body (fun e s' => e = jump (pre ++ [x]) ∧ StWk { g := G.g } mr s' ⟨fun _ => .junk, σ (pre ++ [x]), st.nx, st.n⟩) s | _ => False) ⟨mkρ (parL ps.toList (encs x) ks), σ pre, st.nx, st.n⟩)
  (hfin : ∀ v, v = visitR (fun p => (jcode (jump p)).isNone) [] xs → Q (jump v) ⟨mkρ ks, σ v, st.nx, st.n⟩) :
  AWp P G m (.rangeFunc g ps assign body) Q st := by
 refine ⟨fun hm E a w R r hr0 => ?_⟩
 obtain rfl : r = none := hr0.elim id (fun h => by simp [Code.nodef] at h)
 refine wpIn_rangeFunc (F := Fence.wide) fun fn _ => ?_
 have hgv := R.evl g
 rw [hg] at hgv
 obtain ⟨pv, hgv1, hpv⟩ : ∃ pv : Value, a.eval g = .func (.func f) #[] #[pv] ∧ VR E w.heap st.σ (.ptr q 0) pv := by
  revert hgv
  generalize a.eval g = gv
  intro hgv
  cases hgv with
  | func _ _ _ us vs l1 l2 f1 f2 =>
   obtain rfl : us = [] := List.eq_nil_of_length_eq_zero l1
   match vs, l2, f2 with
   | [v], l2, f2 => exact ⟨v, rfl, f2 0 (by simp) (by simp)⟩
 obtain ⟨Dd, hDd⟩ : ∃ Dd, Dd = w.heap.size := ⟨_, rfl⟩
 obtain ⟨L, hLe⟩ : ∃ L, L = w.heap.size + 1 := ⟨_, rfl⟩
 have hLD : L ≠ Dd := by omega
 obtain ⟨W1, hW1⟩ : ∃ W1, (w.alloc (.deferred (some []))).alloc (.loop (rcd fn a.tmps ps assign body Dd .normal)) = W1 := ⟨_, rfl⟩
 have hheap : W1.heap = (w.heap.push (.deferred (some []))).push (.loop (rcd fn a.tmps ps assign body Dd .normal)) := by rw [← hW1]; rfl
 have hws : WSame w W1 := by rw [← hW1]; exact ⟨rfl, rfl, rfl⟩
 have hL1 : W1.heap[L]? = some (.loop (rcd fn a.tmps ps assign body Dd .normal)) := by
  rw [hheap, Array.getElem?_push, if_pos (by simp [hLe])]
 have hD1 : W1.heap[Dd]? = some (.deferred (some [])) := by
  rw [hheap, push_old (by simp [hDd]), Array.getElem?_push, if_pos hDd]
 have pk : Poke (fun _ => False) w.heap W1.heap := by rw [hheap]; exact (Poke.push _ _).trans (Poke.push _ _)
 have hEL : ∀ b o, w.heap.size ≤ b → E.own b o = .ext := fun b o hb => by
  cases h : E.own b o with
  | ext => rfl
  | _ => have := R.core.bnd b o (by rw [h]; simp); omega
 have C1 : Core G E W1.heap st.σ st.nx := R.core.poke pk (fun b h => h.elim)
 have hv1 : ∀ t, VR E W1.heap st.σ (mkρ ks t) ((rcd fn a.tmps ps assign body Dd .normal).tmps.getD t undef) := by
  intro t
  rcases hks t with h | h
  ·rw [h]; exact (R.slots t).keep (pk.cmap R.core.bnd)
  ·rw [h]; exact .junk _
 have hi0 : Idg m E st.σ E (σ []) := fun k hk hl => by
  have hne : k ≠ q := by omega
  have e := hσ k hne
  refine ⟨by unfold live; rw [e]; exact hl, rfl, fun m' hm' => ⟨m', ?_, Nat.le_refl _, fun _ => rfl⟩, fun s' hs' => ?_⟩
  ·unfold tlen at hm' ⊢; rw [e] at hm'; exact hm'
  ·unfold tstr at hs' ⊢; rw [e] at hs'; exact hs'
 have CS := Core.shutR (m := m) (E0 := E) (σ0 := st.σ) (ρ := mkρ ks) (ρ' := mkρ ks) (L := L) (Dd := Dd) (x0 := 0) (H0 := (none, 0)) (rec := rcd fn a.tmps ps assign body Dd .normal) (some q) C1 (σ1 := σ [])
  (fun k hk => hσ k fun e => hk (by rw [e])) (fun q' e => by simp at e; subst e; exact hσq) hr hkr hv1 hi0 (fun o => hEL L o (by omega)) (fun o => hEL Dd o (by omega)) hL1 hD1 [cob] ⟨cob, rfl, hq, hcob⟩
 obtain ⟨O2, Oz, Oe⟩ := shutR_opn (E := E) (qo := some q) (L := L) (Dd := Dd) (x0 := 0) (H0 := (none, 0)) (fun o => hEL L o (by omega)) (fun o => hEL Dd o (by omega))
 obtain ⟨hpe, hpl⟩ := hpv.ptr_inv
 obtain ⟨B, hB⟩ : ∃ B : List α → Bag, B = fun p => rgB m E st.σ (mkρ ks) (σ p) L Dd (rcd fn a.tmps ps assign body Dd (jump p)) := ⟨_, rfl⟩
 have hargs : VRs (AL.shutR E (some q) L Dd 0 (none, 0)) W1.heap (sto [.bag (B []), cob]) [.func (.yield L) [] [], .ptr 1 0] [.func (.yield L) #[] #[], pv] := by
  refine VRs_cons.2 ⟨VR.func _ [] [] [] [] rfl rfl (fun i a => by simp at a) (fun i a => by simp at a), VRs_cons.2 ⟨?_, VRs_nil.2 rfl⟩⟩
  rw [hpe]
  exact VR.ptr (E := AL.shutR E (some q) L Dd 0 (none, 0)) 1 0 (by unfold live; simpa [sto] using hqd)
 have hB0 : B [] = rgB m E st.σ (mkρ ks) (σ []) L Dd (rcd fn a.tmps ps assign body Dd .normal) := by rw [hB]; simp only [hj0]
 rw [← hB0] at CS
 have hcall := (hspec.2 L B (fun p => (jcode (jump p)).isNone) (fun pre x r he hok => by
  rw [hB]
  refine YCall.round (e1 := jump pre) (e2 := jump (pre ++ [x])) ?_ (hjok _) hmr0 hmr (hlen x) hps R.n (henc x) (hkeys pre) hLD hn1 hn2 (hround pre x r he fun p y s hp => jcode_none (hjok _) (by simpa using hok p y s hp))
  rcases List.eq_nil_or_concat pre with rfl | ⟨p, y, rfl⟩
  ·rw [hj0]; rfl
  ·have := hok p y [] (by simp)
   simpa using this)).run _ W1 _ CS hargs
 refine ⟨L, [{ target := .collected Dd, args := #[] }], W1, { target := .fn (.func f) #[pv], args := #[.func (.yield L) #[] #[]] }, W1, f, #[.func (.yield L) #[] #[], pv], W1, ?_, ?_, fun _ _ => trivial, ?_, fun h => by simp [Fence.wide] at h, ?_⟩
 ·rw [hLe, hDd, ← hW1, hDd]
  exact run_enterLoop_outer _ _ _ _ _
 ·simp only [resolve, hgv1]
  simp [go_sem]
 ·have := run_callFunc hspec.1 #[Value.func (.yield L) #[] #[], pv] W1
  simp only [invoke]
  simpa using this
 refine callsIn_wide.2 (Calls.mono hcall fun e w' he => ?_)
 obtain ⟨Ec, v, rfl, _, Cc, gc, sc⟩ := he
 obtain ⟨vv, hvv⟩ : ∃ vv, vv = visitR (fun p => (jcode (jump p)).isNone) [] xs := ⟨_, rfl⟩
 rw [← hvv] at Cc gc
 have H : RgR m E st.σ (mkρ ks) (σ vv) L Dd (rcd fn a.tmps ps assign body Dd (jump vv)) Ec w'.heap 0 := by
  have := Cc.objs 0
  rw [hB] at this
  exact this
 obtain ⟨E2, hi, C2, hslots, hL2, hD2, hL, hDh, hLo, hDo, O⟩ := RgR.opened (nx := st.nx) Cc (fun k hk => hkeys vv k (by omega)) H
 have hend := run_endLoop (P := P) hL (by simp only []; split <;> simp)
 refine ⟨_, _, hend, ?_⟩
 have p2 := Poke.set (y := .loop { rcd fn a.tmps ps assign body Dd (jump vv) with state := .exhausted }) hL rfl rfl
 have hX2 : ∀ b, b = L → ∀ o, E2.own b o = .ext := fun b e o => by rw [e]; exact hL2 o
 obtain ⟨W4, hW4⟩ : ∃ W4, w'.putObj L (.loop { rcd fn a.tmps ps assign body Dd (jump vv) with state := .exhausted }) = W4 := ⟨_, rfl⟩
 have hh4 : W4.heap = w'.heap.setIfInBounds L (.loop { rcd fn a.tmps ps assign body Dd (jump vv) with state := .exhausted }) := by rw [← hW4]; rfl
 rw [← hh4] at p2
 have hs4 : WSame w' W4 := by rw [← hW4]; exact ⟨rfl, rfl, rfl⟩
 rw [hW4]
 have hold : ∀ b, b < w.heap.size → b ≠ L ∧ b ≠ Dd := fun b hb => ⟨by omega, by omega⟩
 have hlt1 : ∀ b, b < w.heap.size → b < W1.heap.size := fun b hb => Nat.lt_of_lt_of_le hb pk.sz
 have hlt2 : ∀ b, b < w.heap.size → b < w'.heap.size := fun b hb => Nat.lt_of_lt_of_le (hlt1 b hb) gc.sz
 have gf : Guar m E w.heap st.σ E2 W4.heap (σ vv) := by
  refine ⟨Nat.le_trans pk.sz (Nat.le_trans gc.sz p2.sz), fun b o hb e => ?_, fun b o x hb e => ?_, fun b o x hb e => ?_, fun b o hb e => ?_, ?_, fun b hb e => ?_, hi⟩
  ·have f1 := Oz b o e
   obtain ⟨f2, f3⟩ := gc.fz b o (hlt1 b hb) (by rw [f1]; exact e)
   exact ⟨by rw [O.frz b o (by rw [f2, f1]; exact e), f2, f1], (p2.cell b o (hlt2 b hb)).trans (f3.trans (pk.cell b o hb))⟩
  ·exact (O.sc b o x).2 (gc.sc b o x (hlt1 b hb) ((O2.sc b o x).1 e))
  ·exact (O2.sc b o x).2 (gc.sc' b o x (hlt1 b hb) ((O.sc b o x).1 e))
  ·obtain ⟨f2, f3⟩ := gc.ext b o (hlt1 b hb) (Oe b o e (hold b hb).1 (hold b hb).2)
   exact ⟨O.ext b o f2, (p2.cell b o (hlt2 b hb)).trans (f3.trans (pk.cell b o hb))⟩
  ·intro b c e f hb
   obtain ⟨c1, f1, h1, s1, t1⟩ := pk.shp b c e f hb
   obtain ⟨c2, f2, h2, s2, t2⟩ := gc.shp b c1 e f1 h1
   obtain ⟨c3, f3, h3, s3, t3⟩ := p2.shp b c2 e f2 h2
   refine ⟨c3, f3, h3, s3.trans (s2.trans s1), t1.trans ?_⟩
   rw [← s1]
   refine t2.trans ?_
   rw [← s2]; exact t3
  ·rw [p2.blk b (hlt2 b hb) (hold b hb).1, gc.blk b (hlt1 b hb) (fun o => ?_), pk.blk b hb (fun h => h)]
   rcases e o with e | e
   ·exact .inl (Oe b o e (hold b hb).1 (hold b hb).2)
   ·exact .inr (by rw [Oz b o e]; exact e)
 have hdf : Dfs G E2 W4.heap (markOf Dd :: a.defers) := by
  have hd0 := R.defers
  unfold Dfs at hd0 ⊢
  rw [hmks] at hd0 ⊢
  obtain ⟨b0, Ds, b1, b2, b3⟩ := hd0
  have hDs : ∀ D ∈ Ds, D < w.heap.size := fun D hD => lt_of_get (b3 D hD).2.1
  refine ⟨Nat.le_trans b0 gf.sz, Dd :: Ds, by rw [b1]; rfl, List.nodup_cons.2 ⟨fun h => by have := hDs Dd h; omega, b2⟩, fun D hD => ?_⟩
  rcases List.mem_cons.1 hD with e | e
  ·rw [e]
   refine ⟨by rw [hDd]; exact b0, ?_, hD2⟩
   rw [p2.blk Dd (lt_of_get hDh) (fun e => hLD e.symm)]; exact hDh
  ·obtain ⟨c1, c2, c3⟩ := b3 D e
   exact ⟨c1, (gf.blk D (hDs D e) fun o => .inl (c3 o)).trans c2, fun o => (gf.ext D o (hDs D e) (c3 o)).1⟩
 have Rf : Rel G E2 W4 ⟨mkρ ks, σ vv, st.nx, st.n⟩ { a with defers := [{ target := .collected Dd, args := #[] }] ++ a.defers } :=
  ⟨C2.poke p2 hX2, R.n, fun t => (hslots t).keep (p2.cmap C2.bnd), hdf⟩
 have hQ := hfin vv hvv
 have hpost : PostE G m E w st Q (jump vv) { a with defers := [{ target := .collected Dd, args := #[] }] ++ a.defers } W4 :=
  .inl ⟨E2, _, hQ, hm, Rf, gf, hws.trans (sc.trans hs4)⟩
 have hjv := hjok vv
 revert hpost hjv
 generalize jump vv = ee
 intro hpost hjv
 cases ee with
 | normal => exact hpost
 | ret => exact wpIn_ret hpost
 | exit id => exact wpIn_exit hpost
 | goto t => exact wpIn_goto hpost
 | panic c => simp [jok] at hjv
 | outgrown => simp [jok] at hjv
end Go.AL

namespace Go.AL
open Go
variable {P : Program} {T : Tab} {G : Glob}

theorem YRun.mono {l : Nat} {vs : Array Value} {w : World} {Q Q' : Ending → World → Prop} (h : YRun P l vs w Q) (hq : ∀ e w', Q e w' → Q' e w') : YRun P l vs w Q' := by
 obtain ⟨fn, tmps, assign, body, h1, h2⟩ := h
 exact ⟨fn, tmps, assign, body, h1, RoundIn.mono h2 hq⟩
theorem YCall.congr {G' : Glob} {l : Nat} {args : List D} {pre : List AObj} {d : D} {post : List AObj} (hg : G'.g = G.g) (h : YCall P G' l args pre d post) : YCall P G l args pre d post :=
 ⟨fun E w vs C hv => YRun.mono (h.run E w vs (C.congr hg) hv) fun e w' ⟨E', v, h1, h2, h3, h4, h5⟩ => ⟨E', v, h1, h2, h3.congr hg.symm, h4, h5⟩⟩
theorem YOk.of2 {l : Nat} {args args' : List D} {pre post : List AObj} {d d' : D} {σ : Store} {id : Nat} {q : Nat → Nat} {qi : Nat → Option Nat} {ups : List (Nat × AObj)} {rds : List Nat}
  (h : YCall P G l args' pre d post)
  (L : ∀ σ0 : Store, (∀ k, k ∈ rds ∨ k ∈ keysOf ups → σ0 k = σ k) → Link q qi pre.length post.length σ0 pre post (updAll σ0 ups))
  (hr : ArgsTo (fun k => (qi k).bind fun i => if i < pre.length then some i else none) args args')
  (hd : D.ren (fun i => if i < post.length then some (q i) else none) d = some d')
  (hq : ∀ i, i < post.length → σ (q i) ≠ .dead ∧ q i ∈ rds ∨ q i < id + 8) : YOk P G l args σ id d' ups rds := by
 refine ⟨fun E w st a vs R hv hk h0 => ?_⟩
 have L1 := L st.σ hk
 have hv1 := hr.sem (L1.pull.cmap (E := E) (h := w.heap)) hv
 refine YRun.mono (h.run (E.pull _ q) w vs (L1.pull.core R.core |> fun C => by simpa using C) hv1) fun e w' he => ?_
 obtain ⟨Ec, v, rfl, hvd, Cc, g, s⟩ := he
 have hqn : ∀ i, i < post.length → q i < st.nx := by
  intro i hi
  rcases hq i hi with ⟨h1, h2⟩ | h1
  ·rcases Nat.lt_or_ge (q i) st.nx with hx | hx
   ·exact hx
   ·have := R.core.dead _ hx
    rw [hk _ (.inl h2)] at this
    exact absurd this h1
  ·omega
 obtain ⟨C', g', M, Mq⟩ := L1.step R.core hqn Cc g
 exact ⟨_, v, rfl, hvd.map' Mq hd, ⟨C', R.n, fun t => (R.slots t).keep M, R.defers.keep g'⟩, g', s⟩

theorem YLeaf.o {G' : Glob} {l : Nat} {args args' : List D} {pre post : List AObj} {d d' : D} {σ : Store} {id : Nat} {K : KD} {ups : List (Nat × AObj)} (qs : List Nat)
  (hr : ArgsTo (idxN pre.length qs) args args') (h : YCall P G' l args' pre d post) (hn : nodupN qs = true) (hle : Nat.ble pre.length post.length = true)
  (hp : preOk σ (idxN pre.length qs) qs pre) (hl : liveAll σ (qs.take pre.length)) (hnew : newOk σ id (qs.drop pre.length) 0)
  (hu : upsOf (atN qs) qs post = some ups) (hd : D.ren (atN qs) d = some d') (hk : K d' ups (qs.take pre.length)) (hg : G'.g = G.g := by rfl) : YLeaf P G l args σ id K := by
 replace h := h.congr hg
 have hle := Nat.le_of_ble_eq_true hle
 obtain ⟨u1, u2, u3⟩ := upsOf_spec hu
 have hat : ∀ i, i < post.length → atN qs i = some (qs.getD i 0) := by
  intro i hi
  simp [atN, List.getD, show i < qs.length by omega]
 have hidx : ∀ i, i < post.length → idx qs (qs.getD i 0) = some i := fun i hi => idx_get hn (hat i hi)
 have hrn : (fun k => (idx qs k).bind fun i => if i < pre.length then some i else none) = idxN pre.length qs := by
  funext k
  unfold idxN
  cases idx qs k with
  | none => rfl
  | some j =>
   simp only [Option.bind_some]
   by_cases hj : j < pre.length
   ·have : Nat.blt j pre.length = true := by simpa [Nat.blt_eq] using hj
    rw [this]; simp [hj]
   ·have : Nat.blt j pre.length = false := by
     cases hb : Nat.blt j pre.length with
     | false => rfl
     | true => exact absurd (by simpa [Nat.blt_eq] using hb) hj
    rw [this]; simp [hj]
 have hrd : (fun i => if i < post.length then some (qs.getD i 0) else none) = atN qs := by
  funext i
  by_cases hi : i < post.length
  ·rw [if_pos hi, hat i hi]
  ·rw [if_neg hi, atN, List.getElem?_eq_none (by omega)]
 refine ⟨d', ups, qs.take pre.length, ?_, hk⟩
 refine YOk.of2 (q := fun i => qs.getD i 0) (qi := idx qs) h (fun σ0 hσ => ?_) (by rw [hrn]; exact hr) (by rw [hrd]; exact hd) (fun i hi => ?_)
 ·have hin : ∀ k, k ∈ qs → σ0 k = σ k := fun k hk => hσ k (.inr (by rw [u1]; exact hk))
  refine ⟨fun k i e => ?_, hidx, hle, rfl, rfl, fun i hi => ?_, fun i hi => ?_, fun k e => ?_, fun i h1 h2 => ?_⟩
  ·have h1 := idx_some e
   refine ⟨by simp [List.getD, h1], ?_⟩
   rcases Nat.lt_or_ge i qs.length with h2 | h2
   ·omega
   ·rw [List.getElem?_eq_none h2] at h1; simp at h1
  ·have e2 : pre[i]? = some pre[i] := by simp
   obtain ⟨s, e3, e4⟩ := preOk_get hp i _ e2
   have e5 : qs.getD i 0 = s := by simp [List.getD, e3]
   show AObj.ren _ (σ0 (qs.getD i 0)) = _
   rw [hrn, e5, hin s (List.mem_of_getElem? e3), e4]
   simp [sto, List.getD, e2]
  ·have e2 : post[i]? = some post[i] := by simp
   have e1 : qs[i]? = some (qs.getD i 0) := hat i hi
   obtain ⟨y, e3, e4⟩ := u3 i _ _ e1 e2
   rw [hrd]
   show AObj.ren _ (sto post i) = some (updAll σ0 ups (qs.getD i 0))
   rw [updAll_get (by rw [u1]; exact hn) e4]
   have : sto post i = post[i] := by simp [sto, List.getD, hi]
   rw [this, e3]
  ·refine updAll_not_mem _ _ _ (fun hm => ?_)
   rw [u1] at hm
   obtain ⟨j, hj, e2⟩ := List.getElem_of_mem hm
   have : idx qs k = some j := idx_get hn (by simp [hj, e2])
   rw [this] at e; simp at e
  ·have e1 : qs[i]? = some (qs.getD i 0) := hat i h2
   rw [hin _ (List.mem_of_getElem? e1)]
   refine (newOk_get hnew _ ?_).2
   have : (qs.drop pre.length)[i - pre.length]? = some (qs.getD i 0) := by
    rw [List.getElem?_drop, show pre.length + (i - pre.length) = i by omega]; exact e1
   exact List.mem_of_getElem? this
 ·have e1 : qs[i]? = some (qs.getD i 0) := hat i hi
  by_cases h1 : i < pre.length
  ·have hm : qs.getD i 0 ∈ qs.take pre.length := by
    have : (qs.take pre.length)[i]? = some (qs.getD i 0) := by rw [List.getElem?_take, if_pos h1]; exact e1
    exact List.mem_of_getElem? this
   exact .inl ⟨liveAll_get hl _ hm, hm⟩
  ·refine .inr (newOk_get hnew _ ?_).1
   have : (qs.drop pre.length)[i - pre.length]? = some (qs.getD i 0) := by
    rw [List.getElem?_drop, show pre.length + (i - pre.length) = i by omega]; exact e1
   exact List.mem_of_getElem? this


theorem leavesM {fn : Func} {tm : Array Value} {R : Ending → World → Prop} : ∀ (Ds : List Nat) (w : World), Ds.Nodup → (∀ D ∈ Ds, w.heap[D]? = some (.deferred (some []))) →
  (∀ w2 : World, Poke (fun b => b ∈ Ds) w.heap w2.heap → WSame w w2 → ∃ v, (results fn tm).run P w2 = .ok v w2 ∧ R (.returned v) w2) → LeavesInM Fence.wide 0 P fn tm R (Ds.map markOf) .returning w
 | [], w, hn, hd, h => by
  obtain ⟨v, h1, h2⟩ := h w (Poke.refl _ _) (WSame.refl _)
  exact ⟨v, h1, h2⟩
 | D :: Ds, w, hn, hd, h => by
  obtain ⟨hn1, hn2⟩ := List.nodup_cons.1 hn
  have h0 := hd D (by simp)
  have p := Poke.set (y := .deferred none) h0 rfl rfl
  refine ⟨by simp, .inl ⟨D, _, rfl, run_takeDeferred h0, leavesM Ds _ hn2 (fun D' hD' => ?_) (fun w2 p2 ws => h w2 ((p.mono (fun b e => by simp [e])).trans (p2.mono (fun b e => by simp [e]))) ⟨ws.os, ws.tape, ws.output⟩)⟩⟩
  have hne : D' ≠ D := fun e => hn1 (by rw [← e]; exact hD')
  rw [World.putObj_heap_other hne]
  exact hd D' (by simp [hD'])

theorem FCall.enterM (hT : TOk P T) (hmix : P.follows .mixedOrders = true) {f : FuncId} {fn : Func} {c : Code} {args : List D} {pre : List AObj} {d : D} {post : List AObj} (S : List Nat)
  (hf : P.funcs[f]? = some fn) (hn : (fn.name == "runtime.NumGoroutine") = false) (hb : fn.body = some c) (ha : Nat.ble args.length fn.ntmps = true)
  (h : bds args → ∀ base, forceS (initS args 0) fun l => wpc P T { G with mks := some base } pre.length (pre.length + 1048576) fn.ntmps S c (retK T (pre.length + 1048576) fn.ntmps fn.results.toList (FinO pre.length post d)) l (initO pre 0))
  (hdf : G.df = [] := by rfl) (hpk : ∀ q ρ σ, ¬ G.pk q ρ σ := by exact fun _ _ _ h => h) : FCall P G f args pre d post := by
 refine FCall.bound ⟨fn, hf, hn, by simp [hb]⟩ fun hbd => ?_
 replace h := h hbd
 refine ⟨⟨fn, hf, hn, by simp [hb]⟩, fun E w vs C hv => (callsIn_wide (n := 0)).1 (callsIn_of_wp_marks hf hb trivial ?_)⟩
 replace h := h w.heap.size
 rw [forceS_eq] at h
 obtain ⟨G2, hG2⟩ : ∃ G2 : Glob, G2 = { G with mks := some w.heap.size } := ⟨_, rfl⟩
 have hg : G2.g = G.g := by rw [hG2]
 have hm2 : G2.mks = some w.heap.size := by rw [hG2]
 have hd2 : G2.df = [] := by rw [hG2]; exact hdf
 have hp2 : ∀ q ρ σ, ¬ G2.pk q ρ σ := by rw [hG2]; exact hpk
 rw [← hG2] at h
 have hvl : vs.length = args.length := hv.1
 have ha' := Nat.le_of_ble_eq_true ha
 have e1 : mkρ (initS args 0) = fun t => args.getD t .junk := by funext t; rw [mkρ_initS]; simp
 have e2 : mkσ (initO pre 0) = sto pre := by funext t; rw [mkσ_initO]; simp [sto]
 have R : Rel G2 E w (stOf (pre.length + 1048576) fn.ntmps (initS args 0) (initO pre 0))
   { tmps := vs.toArray ++ Array.replicate (fn.ntmps - vs.toArray.size) undef, defers := [] } := by
  rw [stOf, e1, e2]
  have C := Core.congr (G := G) (G' := G2) hg C
  refine ⟨⟨C.objs, C.bnd, C.sc, C.nf, fun k hk => C.dead k (by simp at hk; omega), C.glob⟩, by simp; omega, fun t => ?_, Dfs.of_eqS hm2 (Nat.le_refl _) hd2.symm⟩
  show VR E w.heap (sto pre) (args.getD t .junk) _
  by_cases ht : t < args.length
  ·have := hv.2 t ht (by omega)
   have e1 : args.getD t .junk = args[t] := by simp [List.getD, ht]
   have e2 : (vs.toArray ++ Array.replicate (fn.ntmps - vs.toArray.size) undef).getD t undef = vs[t]'(by omega) := by
    simp [Array.getElem?_append, show t < vs.length by omega]
   rw [e1, e2]; exact this
  ·have e1 : args.getD t .junk = .junk := by simp [List.getD, List.getElem?_eq_none (Nat.le_of_not_lt ht)]
   rw [e1]; exact .junk _
 refine wpIn_mono ((wpc_sound hT hmix c _ _ _ h).sem.semR (by simp) E _ w R none (.inl rfl)) fun e a' w' hp => ?_
 rcases hp with ⟨E', st', ⟨l', o', rfl, q⟩, hm, R', g, s⟩ | ⟨q, _, _, st', _, hq, _⟩
 case inr => exact absurd hq (hp2 _ _ _)
 rw [stOf, e2] at g
 have fin : resK T (stOf (pre.length + 1048576) fn.ntmps l' o') fn.results.toList (FinO pre.length post d o') → LeavesInM Fence.wide 0 P fn a'.tmps (fun e w' => ∃ E' v, e = .returned v ∧ VR E' w'.heap (sto post) d v ∧ Core G E' w'.heap (sto post) post.length ∧
   Guar pre.length E w.heap (sto pre) E' w'.heap (sto post) ∧ WSame w w') a'.defers .returning w' := by
  intro hq
  unfold resK at hq
  split at hq
  case h_2 => exact hq.elim
  rename_i ds hds
  rw [forceL_eq] at hq
  obtain ⟨srcs, hs, hp, hd⟩ := hq
  have hdf' := R'.defers
  unfold Dfs at hdf'
  rw [hm2] at hdf'
  obtain ⟨b0, Ds, b1, b2, b3⟩ := hdf'
  rw [b1, hd2, List.append_nil]
  refine leavesM Ds w' b2 (fun D hD => (b3 D hD).2.1) fun w2 p ws => ?_
  have hX : ∀ b, b ∈ Ds → ∀ o, E'.own b o = .ext := fun b hb => (b3 b hb).2.2
  have C2 := R'.core.poke p hX
  have R2 : Rel ({ g := G.g } : Glob) E' w2 (stOf (pre.length + 1048576) fn.ntmps l' o') { tmps := a'.tmps, defers := [] } :=
   ⟨Core.congr (G := G2) (G' := { g := G.g }) hg.symm C2, R'.n, fun t => (R'.slots t).keep (p.cmap R'.core.bnd), Dfs.of_eq rfl rfl⟩
  obtain ⟨v, hr, hv'⟩ := results_sound hT R2 hds
  have gX : GuarX (fun b => b ∈ Ds) pre.length E w.heap (sto pre) E' w2.heap (mkσ o') := (g.toX _).trans p.guarX
  have g2 : Guar pre.length E w.heap (sto pre) E' w2.heap (mkσ o') :=
   ⟨gX.sz, gX.fz, gX.sc, gX.sc', gX.ext, gX.shp, fun b hb e => gX.blk b hb (fun hx => by have := (b3 b hx).1; omega) e, gX.ids⟩
  obtain ⟨E2, o1, o2, o3⟩ := FinS.out ⟨srcs, hs, hp, hd⟩ R2.core hv' g2
  exact ⟨v, hr, E2, v, rfl, o1, Core.congr (G := { g := G.g }) (G' := G) rfl o2, o3, s.trans ws⟩
 cases e with
 | normal => exact fin q
 | ret => exact fin q
 | _ => exact q.elim

theorem IterSpec.congr {G' : Glob} {f : FuncId} {cob : AObj} {α : Type} {encs : α → List D} {xs : List α} (hg : G'.g = G.g) (h : IterSpec P G' f cob encs xs) : IterSpec P G f cob encs xs :=
 ⟨h.1, fun l B ok HY => (h.2 l B ok fun pre x r e1 e2 => (HY pre x r e1 e2).congr hg.symm).congr hg⟩
def cutN (q k : Nat) : Option Nat := match Nat.beq k q with | true => none | false => some k
theorem cutN_eq (q : Nat) : cutN q = cutr (some q) := by
 funext k
 unfold cutN cutr
 cases hb : Nat.beq k q with
 | true => have := Nat.eq_of_beq_eq_true hb; simp [this]
 | false =>
  have : q ≠ k := fun e => by subst e; simp at hb
  simp [this]
def slOk (g q : Nat) : Sl → Prop
 | [] => True
 | (t, d) :: r => Nat.beq t g = false ∧ D.ren (cutN q) d = some d ∧ slOk g q r
def soOk (q mr : Nat) : So → Prop
 | [] => True
 | (k, x) :: r => Nat.beq k q = false ∧ Nat.blt k mr = true ∧ AObj.ren (cutN q) x = some x ∧ soOk q mr r
theorem soOk_app {q mr : Nat} : ∀ {a b : So}, soOk q mr a → soOk q mr b → soOk q mr (a ++ b)
 | [], b, _, h => h
 | (k, x) :: r, b, ⟨h1, h2, h3, h4⟩, h => ⟨h1, h2, h3, soOk_app h4 h⟩
theorem soOk_get {q mr : Nat} : ∀ {a : So}, soOk q mr a → ∀ k, mkσ a k = .dead ∨ (k ≠ q ∧ k < mr ∧ AObj.ren (cutN q) (mkσ a k) = some (mkσ a k))
 | [], _, k => .inl rfl
 | (j, x) :: r, ⟨h1, h2, h3, h4⟩, k => by
  unfold mkσ
  cases hb : Nat.beq k j with
  | true =>
   have := Nat.eq_of_beq_eq_true hb
   subst this
   exact .inr ⟨fun e => by subst e; simp at h1, by simpa [Nat.blt_eq] using h2, h3⟩
  | false => exact soOk_get h4 k
theorem slOk_get {g q : Nat} : ∀ {a : Sl}, slOk g q a → ∀ k, mkρ a k = .junk ∨ (k ≠ g ∧ D.ren (cutN q) (mkρ a k) = some (mkρ a k))
 | [], _, k => .inl rfl
 | (j, x) :: r, ⟨h1, h3, h4⟩, k => by
  unfold mkρ
  cases hb : Nat.beq k j with
  | true =>
   have := Nat.eq_of_beq_eq_true hb
   subst this
   exact .inr ⟨fun e => by subst e; simp at h1, h3⟩
  | false => exact slOk_get h4 k

def liveKs (m : Nat) (σ' : Store) : So → Prop
 | [] => True
 | (k, _) :: r => (match Nat.blt k m with | false => True | true => match σ' k with | .dead => False | _ => True) ∧ liveKs m σ' r
theorem liveKs_get {m : Nat} {σ' : Store} : ∀ {o : So}, liveKs m σ' o → ∀ k, k < m → mkσ o k ≠ .dead → σ' k ≠ .dead
 | [], _, k, _, h => absurd rfl h
 | (j, x) :: r, ⟨h1, h2⟩, k, hk, h => by
  unfold mkσ at h
  cases hb : Nat.beq k j with
  | true =>
   have := Nat.eq_of_beq_eq_true hb
   subst this
   rw [show Nat.blt k m = true by simpa [Nat.blt_eq] using hk] at h1
   simp only [] at h1
   intro e
   rw [e] at h1
   exact h1
  | false =>
   rw [hb] at h
   exact liveKs_get h2 k hk h
def okToR (m nx : Nat) (l : Sl) (o : So) (L : Sl) (O : So) : Prop :=
 liveKs m (mkσ O) o ∧ okO nx (mkσ o) (mkσ O) O ∧ okS (mkρ l) (mkσ o) (mkσ O) L
theorem okToR.wk {m nx n l o L O} (h : okToR m nx l o L O) : StWk G m (stOf nx n l o) (stOf nx n L O) :=
 To.wk (m := m) (lv := L) (lo := O) ⟨rfl, rfl, fun k hk hl => liveKs_get h.1 k hk hl, okO_to h.2.1, okS_to h.2.2⟩

def RangeK (P : Program) (T : Tab) (G : Glob) (m nx n : Nat) (S S' : List Nat) (mr q g : Nat) (ps : List Tmp) (assign body : Code) (Q : Exit → Sl → So → Prop) (f : FuncId) (cob : AObj) {α : Type} (encs : α → List D) (xs : List α) (co : List α → So) (jump : List α → Exit) (l : Sl) (o : So) (ks : Sl) (ko : So) : Prop :=
 okTo m nx l o ((g, .func (.func f) [] [.ptr q 0]) :: ks) ((q, cob) :: (co [] ++ ko)) ∧ slOk g q ks ∧ soOk q mr ko ∧
 (∀ pre x r, xs = pre ++ x :: r → (∀ p y s, pre = p ++ y :: s → jump (p ++ [y]) = .normal) →
  wpc P T { g := G.g } mr nx n S assign (fun e l' o' => match e with
   | .normal => wpc P T { g := G.g } mr nx n S' body (fun e l2 o2 => e = jump (pre ++ [x]) ∧ okToR mr nx l2 o2 [] (co (pre ++ [x]) ++ ko)) l' o'
   | _ => False) (parL ps (encs x) ks) (co pre ++ ko)) ∧
 (∀ v, v = visitR (fun p => (jcode (jump p)).isNone) [] xs → Q (jump v) ks (co v ++ ko))

theorem LWp.rangeFunc {G' : Glob} (hT : TOk P T) (hmix : P.follows .mixedOrders = true) {base : Nat} (hmks : G.mks = some base) {m nx n : Nat} {g : Nat} {ps : Array Tmp} {assign body : Code} {Q : Exit → Sl → So → Prop} {l : Sl} {o : So} (S S' : List Nat) (mr q : Nat) (drop : List Nat)
  {α : Type} {f : FuncId} {cob : AObj} {encs : α → List D} {xs : List α} (co : List α → So) (jump : List α → Exit)
  (hspec : IterSpec P G' f cob encs xs) (hlen : ∀ x, (encs x).length = ps.size) (henc : ∀ x, D.renL (fun _ => none) (encs x) = some (encs x)) (hj0 : jump [] = .normal) (hjok : ∀ p, jok (jump p) = true)
  (hn1 : Code.nodef assign = true) (hn2 : Code.nodef body = true) (hmr : (Nat.ble m mr && (Nat.ble mr nx && Nat.ble m q)) = true) (hps : (ps.toList.all fun p => Nat.blt p n) = true) (hqd : cob ≠ .dead) (hcob : AObj.ren (oner (some q)) cob = some cob) (hco : ∀ p, soOk q mr (co p))
  (h : keepS (fun t => memN t drop) l [] fun ks => keepO (q :: keysOf (co [])) o [] fun ko => RangeK P T G m nx n S S' mr q g ps.toList assign body Q f cob encs xs co jump l o ks ko) (hg : G'.g = G.g := by rfl) : LWp P G m nx n (.rangeFunc (.tmp g) ps assign body) Q l o := by
 obtain ⟨ks, h⟩ := keepS_ex _ _ _ _ h
 obtain ⟨ko, h1, h2, h3, h4, h5⟩ := keepO_ex _ _ _ _ h
 simp only [Bool.and_eq_true] at hmr
 obtain ⟨m1, m2, m3⟩ := hmr
 have m1 := Nat.le_of_ble_eq_true m1
 have m2 := Nat.le_of_ble_eq_true m2
 have m3 := Nat.le_of_ble_eq_true m3
 refine LWp.wk h1 ⟨?_⟩
 have hso : ∀ p, soOk q mr (co p ++ ko) := fun p => soOk_app (hco p) h3
 refine AWp.rangeFunc (σ := fun p => mkσ (co p ++ ko)) (jump := jump) (ks := ks) hmks (mr := mr) (q := q) (cob := cob) (encs := encs) (xs := xs) (f := f) ?_ ?_ hqd m3 hcob ?_ ?_ ?_ ?_ ?_ ?_ m1 m2 hlen ?_ henc hn1 hn2 hj0 hjok (hspec.congr hg) ?_ ?_
 ·show mkρ ((g, _) :: ks) g = _
  simp [mkρ]
 ·show mkσ ((q, cob) :: _) q = _
  simp [mkσ]
 ·intro k hk
  show _ = mkσ ((q, cob) :: _) k
  have hb : Nat.beq k q = false := by
   cases hb : Nat.beq k q with
   | false => rfl
   | true => exact absurd (Nat.eq_of_beq_eq_true hb) hk
  simp only [mkσ, hb]
 ·rcases soOk_get (hso []) q with h | h
  ·exact h
  ·exact absurd rfl h.1
 ·intro k
  rw [← cutN_eq]
  rcases soOk_get (hso []) k with h | h
  ·show AObj.ren _ (mkσ (co [] ++ ko) k) = some (mkσ (co [] ++ ko) k)
   rw [h]; rfl
  ·exact h.2.2
 ·intro t
  rcases slOk_get h2 t with h | h
  ·exact .inr h
  ·left
   show _ = mkρ ((g, _) :: ks) t
   have hb : Nat.beq t g = false := by
    cases hb : Nat.beq t g with
    | false => rfl
    | true => exact absurd (Nat.eq_of_beq_eq_true hb) h.1
   simp only [mkρ, hb]
 ·intro t
  rw [← cutN_eq]
  rcases slOk_get h2 t with h | h
  ·rw [h]; rfl
  ·exact h.2
 ·intro p k hk
  rcases soOk_get (hso p) k with h | h
  ·exact h
  ·omega
 ·intro p hp
  have := List.all_eq_true.1 hps p hp
  simpa [Nat.blt_eq] using this
 ·intro pre x r he hn
  have := (wpc_sound (P := P) hT hmix assign _ _ _ (h4 pre x r he hn)).sem
  refine this.mono fun e st ⟨l', o', e1, q1⟩ => ?_
  subst e1
  cases e with
  | normal =>
   refine ((wpc_sound (P := P) hT hmix body _ _ _ q1).sem).mono fun e st ⟨l2, o2, e2, he2, hk2⟩ => ?_
   subst e2
   exact ⟨he2, hk2.wk⟩
  | _ => exact q1
 ·intro v hv
  exact ⟨ks, co v ++ ko, rfl, h5 v hv⟩
end Go.AL

namespace Go.AL
open Go
variable {P : Program} {G : Glob}
theorem VR.ro_cells {E h σ cs b o} (hv : VR E h σ (.ro cs) (.pointer (some ⟨b, o, none⟩))) : ∀ j (hj : j < cs.length), ∃ u, cellH h b (o + j) = some u ∧ VR E h σ cs[j] u := by
 cases hv with
 | ro _ _ _ u hr hv hf => exact fun j hj => ⟨u j, (hr j hj).2, hv j hj⟩
theorem GV.tab {E h σ g} {zs : List Int} {k : IntKind} (H : GV G E h σ g) (hG : G g = zs.map fun z => D.v (.int k z)) (hne : zs ≠ []) : ∃ e f, h[g]? = some (.cells (zs.map fun z => Value.int k z).toArray e f) := by
 obtain ⟨h1, h2⟩ := H
 rw [hG] at h1 h2
 rcases h2 with h2 | ⟨us, e, f, h2, h3⟩
 ·simp at h2; exact absurd h2 hne
 ·refine ⟨e, f, ?_⟩
  rw [h2]
  congr 2
  apply Array.ext
  ·rw [h3]; simp
  ·intro i a b
   have hi : i < (zs.map fun z => D.v (.int k z)).length := by rw [← h3]; exact a
   obtain ⟨u, hu, hv⟩ := h1.ro_cells i hi
   simp only [Nat.zero_add, cellH, h2] at hu
   have e1 : us[i] = u := by
    rw [Array.getElem?_eq_getElem a] at hu
    simpa using hu
   rw [e1]
   simp only [List.getElem_map] at hv
   rw [hv.v_inv]
   simp
theorem GV.tabIs {E} {w : World} {σ g} {name : String} {zs : List Int} {k : IntKind} (H : GV G E w.heap σ g) (hn : P.globalNamed name = some g) (hG : G g = zs.map fun z => D.v (.int k z)) (hne : zs ≠ []) : Lib.TabIs P w name k zs := by
 obtain ⟨e, f, h⟩ := H.tab hG hne
 unfold Lib.TabIs World.var?
 rw [hn]
 simp [h]
theorem GV.cell {E} {w : World} {σ g} {x : Value} {r : List D} (H : GV G E w.heap σ g) (hG : G g = D.v x :: r) : w.cell? ⟨g, 0, none⟩ = some x := by
 have h1 := H.1
 rw [hG] at h1
 obtain ⟨u, hu, hv⟩ := h1.ro_cells 0 (by simp)
 simp at hv
 rw [cell?_eq]
 rw [hv.v_inv] at hu
 simpa using hu
theorem VR.bytes {E : Env} {w : World} {σ : Store} {t : Tg} {l : List UInt8} {v : Value} (h : VR E w.heap σ (.list t (l.map byteD)) v) :
  ∃ A c, v = .slice A l.length c ∧ l.length ≤ c ∧ l.length ≤ 140737488355328 ∧ (A = none → l = []) ∧ (A = none → c = 0) ∧ ∀ a, A = some a → ∀ i, i < l.length → w.cell? (a.add i) = some (.int .u8 ((l.map fun x => (x.toNat : Int)).getD i 0)) := by
 cases h with
 | list _ _ A c s u hc hb hs hn ha hv hf ht =>
  have hlen : (l.map byteD).length = l.length := by simp
  refine ⟨A, c, by rw [hlen], by rw [← hlen]; exact hc, by rw [← hlen]; exact hb, fun e => by simpa using (hn e).1, fun e => (hn e).2, fun a e i hi => ?_⟩
  obtain ⟨h3, h4⟩ := ha a e
  have hsp : a.spot = none := h3 (by intro e; simp at e; subst e; simp at hi)
  have hi' : i < (l.map byteD).length := by simpa using hi
  have hs1 : s = 1 := by
   have := hs i hi'
   simp [byteD] at this; omega
  subst hs1
  obtain ⟨_, h5⟩ := h4 i 0 hi' (by omega)
  have h6 := hv i 0 hi' (by simp [byteD])
  simp only [List.getElem_map, byteD, List.getElem_cons_zero] at h6
  rw [h6.v_inv] at h5
  simp only [Nat.mul_one, Nat.add_zero] at h5
  obtain ⟨ab, ao, asp⟩ := a
  simp only at hsp; subst hsp
  have ea : (⟨ab, ao, none⟩ : Addr).add i = ⟨ab, ao + i, none⟩ := by unfold Addr.add; split <;> simp_all
  rw [ea, cell?_eq, h5]
  simp [hi]
theorem FCall.belowD {f : FuncId} {args : List D} {pre : List AObj} {d : D} (hf : IsFn P f)
  (H : ∀ E (w : World) vs, Core G E w.heap (sto pre) pre.length → VRs E w.heap (sto pre) args vs →
   Calls P f vs.toArray w fun e w' => ∃ v : Value, e = .returned v ∧ (∀ E' : Env, VR E' w'.heap (sto pre) d v) ∧ RowKit.Below w.heap.size w w') : FCall P G f args pre d pre := FCall.below hf H
theorem below_drewN (w : World) (q : Nat) : RowKit.Below w.heap.size w (w.drewN q) := ⟨rfl, rfl, rfl, Nat.le_refl _, fun _ _ => rfl⟩
end Go.AL

namespace Go.AL
open Go Go.RowKit
theorem tabIs_mem {P : Program} {W : World} {name : String} {k : IntKind} {zs : List Int} {g : Nat} {t e : TypeId} {n : Nat}
  (hg : P.globalNamed name = some g) (hty : (P.globals[g]?).map (·.type) = some t) (ht : P.underlying t = some (.array n e)) (he : P.underlying e = some (.int k)) (hce : P.cellsOf e = 1) (hct : P.cellsOf t = n) :
  ∀ {laid : List (String × DataW Unit)} {ps : List MemPlace}, DataW.LaidVars P W laid ps → (name, Lib.tabData k zs) ∈ laid → Lib.TabIs P W name k zs
 | [], ps, h, hm => by simp at hm
 | (nm, d) :: r, ps, h, hm => by
  obtain ⟨g', t', cs, fuel, p, q, hg', ht', hvar, hd, hr, _⟩ := h
  rcases List.mem_cons.1 hm with e1 | e1
  ·injection e1 with e2 e3
   subst e2
   subst e3
   obtain rfl := Option.some.inj (hg.symm.trans hg')
   obtain rfl := Option.some.inj (hty.symm.trans ht')
   unfold Lib.TabIs
   rw [hvar, ← Lib.cells_of_tab ht he hce hct hd]
  ·exact tabIs_mem hg hty ht he hce hct hr e1
theorem glob_tab {P : Program} {G : Glob} {W : World} {name : String} {k : IntKind} {zs : List Int} {g : Nat} (hg : P.globalNamed name = some g) (h : Lib.TabIs P W name k zs) (hG : G g = zs.map fun z => D.v (.int k z)) :
  (∀ j (hj : j < (G g).length), ∃ u, cellH W.heap g j = some u ∧ VR (env0 W.heap) W.heap (sto []) ((G g)[j]) u ∧ ((G g)[j]).idf = true) ∧ (G g = [] ∨ ∃ us e f, W.heap[g]? = some (.cells us e f) ∧ us.size = (G g).length) := by
 rw [hG]
 refine ⟨fun j hj => ?_, .inr ?_⟩
 ·have hj' : j < zs.length := by simpa using hj
  have hc := h.cell hg j hj'
  rw [cell?_eq] at hc
  refine ⟨_, hc, ?_, ?_⟩
  ·simp [hj']
   exact .v _
  ·simp [D.idf]
 ·unfold Lib.TabIs World.var? at h
  rw [hg] at h
  simp only [Option.bind_some] at h
  split at h
  ·rename_i cs e f hc
   injection h with h
   exact ⟨cs, e, f, hc, by rw [h]; simp⟩
  ·simp at h
theorem rih {H : Type} {enc : TypeId × Value → H} {a : Assume} {C : Checked} {os : Os} {f : FuncId} {fn : Func} {s : ChangeSpec} {conds : List PathCond} {apart fresh handsOn again : Bool} {X : World → Array Value → Prop}
  (hX : ∀ (w w' : World) (args : Array Value), w.heap = w'.heap → X w args → X w' args)
  (own : ownKnob C.prog.godebug = none) (started : os.Started) (noInit : C.prog.inits.idxOf? f = none) (hfn : C.prog.funcs[f]? = some fn)
  (witness : ∃ (w : World) (tape : Tape) (i : Input), w.os = os ∧ (w.forCall tape i).Shaped C.prog ∧ i.vars = [] ∧ Input.okWide C.prog (w.forCall tape i) .any w.heap.size f i ∧
   ((s.pre enc C.prog fn conds apart (w.forCall tape i).memory i.args ∧ X (w.forCall tape i).memory i.args) ∧ sizedMet enc C.prog fn (OpenSpec.ofChange s) apart (w.forCall tape i).memory i.args) ∧ a.holds C.prog (lone (Frame.enter C.prog f i.args .normal) [] (w.forCall tape i)))
  (contract : ∀ (W : World) (base : Nat) (args : Array Value) (ds gs : List (DataW H)) (before : List MemPlace), W.ShapedOpen C.prog →
   (∀ (j : Nat) t v, fn.params[j]? = some t → args[j]? = some v → Value.okWide C.prog W .any base t v) →
   DataW.Whole enc C.prog fn.params.toList s.vars apart W args.toList ds gs before →
   (DataW.weightsEach C.prog (fn.params.toList ++ s.plain.varTypes C.prog) (ds ++ gs)).all (· ≤ reachBytes) = true → X W args →
   Calls C.prog f args W fun e W' => ∃ v, e = .returned v ∧ s.post enc C.prog fn apart fresh handsOn again W args v W') :
  ReturnsInHanded a C os f .any (fun w args => (s.pre enc C.prog fn conds apart w args ∧ X w args) ∧ sizedMet enc C.prog fn (OpenSpec.ofChange s) apart w args) (s.post enc C.prog fn apart fresh handsOn again) := by
 refine returnsInHanded_of_calls own started noInit witness ?_
 intro w tape i _ hsh _ hok hpre hholds
 obtain ⟨_, _, _, fn', hfn', _, _, _, _, hval⟩ := hok
 have e : fn' = fn := Option.some.inj (hfn'.symm.trans hfn)
 subst e
 obtain ⟨⟨⟨ds, gs, before, hw, hc⟩, hx⟩, hz⟩ := hpre
 have hw' := DataW.Whole.of_heap (w' := w.forCall tape i) (by rfl) hw
 refine (contract (w.forCall tape i) w.heap.size i.args ds gs before hsh hval hw' (hz.weights hw) (hX _ _ _ (by rfl) hx)).mono fun e W' ⟨v, he, hp⟩ => ?_
 subst he
 exact ChangeSpec.post_blind hp
theorem glob_block {P : Program} {w : World} {g : Nat} {t : TypeId} {zero : Array Value}
  (h : w.ShapedOpen P) (hg : g < P.globals.size) (h0 : ((begin P (fun _ _ => 0) default).world.heap[g]?).bind Obj.row? = some (zero, t)) : ∃ us e f, w.heap[g]? = some (.cells us e f) ∧ us.size = zero.size := by
 obtain ⟨cs, hh, hs, hr⟩ := h.1 g zero t hg h0
 exact ⟨cs, _, _, hh, hs⟩
end Go.AL
