/- AL14: weaker states by lists of live slots and objects. No condition. -/
import Derived.Test.YtimjnmbpbobfiaaGreatDoorIAb
import Derived.ProofKit
import Derived.Carry
import Derived.SizedLaws
import Derived.OpenShut
import Derived.Laws.Externs
import Derived.Lib.Bytealg
import Derived.Lib.BytesEntry
import Derived.Recover
import Derived.Below
import Derived.Sort.KeysCollected
import Derived.Maps.Own
import Derived.Sort.OwnSorted
import Derived.StringKeys
import Derived.Scope
import Derived.RangeFuncRecord
import Derived.Lib.LaidTab
import Derived.Lib.AppendIntMem
set_option linter.unusedVariables false
set_option linter.unusedSimpArgs false
namespace Go.AL
open Go

variable {P : Program} {T : Tab} {G : Glob}

def AObj.isDead : AObj → Bool
  | .dead=>true
  | _=>false
theorem AObj.isDead_iff {x : AObj} : x.isDead = true ↔ x = .dead:=by cases x <;> simp [AObj.isDead]

def mkρ : List (Nat × D) → Nat → D
  | [],_=>.junk
  | (t,d) :: r,q=>match Nat.beq q t with|true=>d|false=>mkρ r q
def mkσ : List (Nat × AObj) → Store
  | [],_=>.dead
  | (t,d) :: r,q=>match Nat.beq q t with|true=>d|false=>mkσ r q

def keepOf (σ' : Store) (k : Nat) : Option Nat:=match σ' k with|.dead=>none|_=>some k

inductive ObWk : AObj → AObj → Prop where
  | refl (x) : ObWk x x
  | cells (cs cs') (h : Wks cs cs') : ObWk (.cells cs) (.cells cs')
  | bag (cs) (B : Bag) (h : ∀ E h σ k,OR E h σ k (.cells cs) → B.R E h k) : ObWk (.cells cs) (.bag B)

def SlotTo (σ : Store) (σ' : Store) (d0 d : D) : Prop :=
  (∃ d1,D.ren (keepOf σ') d0 = some d1 ∧ Wk d1 d) ∨ (d0 = .nil ∧ ∃ k s,(d = .list (.tok k) [] ∧ σ k = .dead ∧ σ' k = .tok 0 s ∨ d = .sl k 0 0 0 ∧ σ k = .dead ∧ σ' k = .arr 0 s [])) ∨
    (∃ k g off n s xs,d0 = .sl k g off n ∧ σ k = .arr g s xs ∧ σ' k = .dead ∧ off + n ≤ xs.length ∧ n ≤ 140737488355328 ∧ Wk (.list .nat ((xs.drop off).take n)) d)

inductive CellsTo (σ σ' : Store) : List D → List D → Prop where
  | nil : CellsTo σ σ' [] []
  | cons {d0 d : D} {r r' : List D} (h : SlotTo σ σ' d0 d) (hr : CellsTo σ σ' r r') : CellsTo σ σ' (d0 :: r) (d :: r')

inductive HolesTo (σ σ' : Store) : List (Nat × Nat × D) → List (Nat × Nat × D) → Prop where
  | nil : HolesTo σ σ' [] []
  | cons {i j : Nat} {d0 d : D} {r r' : List (Nat × Nat × D)} (h : SlotTo σ σ' d0 d) (hi : d.idf = true) (hr : HolesTo σ σ' r r') : HolesTo σ σ' ((i,j,d0) :: r) ((i,j,d) :: r')
theorem HolesTo.fw {σ σ'} : ∀ {r r' : List (Nat × Nat × D)}, HolesTo σ σ' r r' → ∀ i j d, (i, j, d) ∈ r' → d.idf = true ∧ ∃ d0, (i, j, d0) ∈ r ∧ SlotTo σ σ' d0 d
  | _,_,.nil,i,j,d,h=>by simp at h
  | _, _, .cons h hi hr, i, j, d, hm => by
    rcases List.mem_cons.1 hm with e|hm
    · injection e with e1 e2
      injection e2 with e2 e3
      subst e1 e2 e3
      exact ⟨hi,_,List.mem_cons_self,h⟩
    · obtain ⟨a, d0, b, c⟩ := hr.fw i j d hm
      exact ⟨a,d0,List.mem_cons_of_mem _ b,c⟩
theorem HolesTo.bw {σ σ'} : ∀ {r r' : List (Nat × Nat × D)}, HolesTo σ σ' r r' → ∀ i j d, (i, j, d) ∈ r → ∃ d', (i, j, d') ∈ r'
  | _,_,.nil,i,j,d,h=>by simp at h
  | _, _, .cons h hi hr, i, j, d, hm => by
    rcases List.mem_cons.1 hm with e|hm
    · injection e with e1 e2
      injection e2 with e2 e3
      subst e1 e2
      exact ⟨_,List.mem_cons_self⟩
    · obtain ⟨d', b⟩ := hr.bw i j d hm
      exact ⟨d',List.mem_cons_of_mem _ b⟩
def FillOk (s : Nat) (xs : List (List D)) (hs' : List (Nat × Nat × D)) (xs' : List (List D)) : Prop :=
  xs'.length = xs.length ∧ ∀ i (hi : i < xs'.length),xs'[i].length = s ∧ ∀ j (hj : j < xs'[i].length),(i,j,xs'[i][j]) ∈ hs' ∨ ((∀ d,(i,j,d) ∉ hs') ∧ ∃ (h1 : i < xs.length) (h2 : j < xs[i].length),xs'[i][j] = xs[i][j])

def ObjTo (nx : Nat) (σ σ' : Store) (k : Nat) (o : AObj) : Prop :=
  (∃ x,AObj.ren (keepOf σ') (σ k) = some x ∧ ObWk x o ∧ x ≠ .dead) ∨ (σ k = .dead ∧ k < nx ∧ ∃ s,0 < s ∧ (o = .tok 0 s ∨ o = .arr 0 s [])) ∨
    (∃ cs cs',σ k = .cells cs ∧ o = .cells cs' ∧ CellsTo σ σ' cs cs') ∨ (∃ g s xs hs xs' hs',σ k = .arx g s xs hs ∧ o = .arr g s xs' ∧ HolesTo σ σ' hs hs' ∧ FillOk s xs hs' xs')

def slotsTo (st : St) (σ' : Store) : List (Nat × D) → Prop
  | []=>True
  | (t,d) :: r=>SlotTo st.σ σ' (st.ρ t) d ∧ slotsTo st σ' r
def objsTo (st : St) (σ' : Store) : List (Nat × AObj) → Prop
  | []=>True
  | (k,o) :: r=>ObjTo st.nx st.σ σ' k o ∧ objsTo st σ' r

theorem ObWk.or {E h σ k x y} (w : ObWk x y) (H : OR E h σ k x) : OR E h σ k y := by
  cases w with
  | refl=>exact H
  | cells cs cs' hw =>
    obtain ⟨us,e,hb,hv,ho⟩:=H
    exact ⟨us,e,hb,hw.sem _ _ _ _ hv,ho⟩
  | bag cs B hB=>exact hB _ _ _ _ H
theorem ObWk.dead {x y} (w : ObWk x y) (h : x ≠ .dead) : y ≠ .dead:=by cases w <;> simp_all
theorem ObWk.tl {σ σ' : Store} {k} {x} (hx : σ k = x) (w : ObWk x (σ' k)) : tlen σ' k = tlen σ k ∧ tstr σ' k = tstr σ k := by
  generalize hy : σ' k = y at w
  cases w with
  | refl=>simp [tlen,tstr,hx,hy]
  | cells cs cs' h=>simp [tlen,tstr,hx,hy]
  | bag cs B h=>simp [tlen,tstr,hx,hy]

theorem mkσ_cases {st : St} {σ' : Store} : ∀ (lo : List (Nat × AObj)) (k : Nat), objsTo st σ' lo → mkσ lo k = .dead ∨ ObjTo st.nx st.σ σ' k (mkσ lo k)
  | [],k,_=>.inl rfl
  | (t, d) :: r, k, h => by
    obtain ⟨h1,h2⟩:=h
    by_cases e : k = t
    · subst e; right; simpa [mkσ] using h1
    · have : Nat.beq k t = false := by
        cases hb : Nat.beq k t with
        | false=>rfl
        | true=>exact absurd (Nat.eq_of_beq_eq_true hb) e
      have hm : mkσ ((t,d) :: r) k = mkσ r k:=by simp [mkσ,this]
      rw [hm]
      exact mkσ_cases r k h2
theorem mkρ_cases {st : St} {σ' : Store} : ∀ (lo : List (Nat × D)) (k : Nat), slotsTo st σ' lo → mkρ lo k = .junk ∨ SlotTo st.σ σ' (st.ρ k) (mkρ lo k)
  | [],k,_=>.inl rfl
  | (t, d) :: r, k, h => by
    obtain ⟨h1,h2⟩:=h
    by_cases e : k = t
    · subst e; right; simpa [mkρ] using h1
    · have : Nat.beq k t = false := by
        cases hb : Nat.beq k t with
        | false=>rfl
        | true=>exact absurd (Nat.eq_of_beq_eq_true hb) e
      have hm : mkρ ((t,d) :: r) k = mkρ r k:=by simp [mkρ,this]
      rw [hm]
      exact mkρ_cases r k h2

def keptTo (m : Nat) (st : St) (σ' : Store) : Prop:=∀ k,k < m → st.σ k ≠ .dead → σ' k ≠ .dead

def AObj.isArr : AObj → Bool
  | .arr _ _ _=>true
  | _=>false
noncomputable def ownTo (E : Env) (x y : AObj) (k b o : Nat) : Own :=
  match y.isDead with
  | true=>(match x with|.arr _ s _=>(open Classical in if ∃ a,(E.hdr k).1 = some a ∧ b = a.block ∧ a.off ≤ o ∧ o < a.off + (E.hdr k).2 * s then .fz else .ext)|_=>.ext)
  | false=>(match x.isDead with|true=>.ext|false=>.ob k)
theorem ownTo_sc {E x y k b o q} : ownTo E x y k b o ≠ .sc q := by
  unfold ownTo; split <;> split <;> (try split) <;> simp
theorem ownTo_fz {E x y k b o} (h : ownTo E x y k b o = .fz) : ∃ g s xs a, x = .arr g s xs ∧ (E.hdr k).1 = some a ∧ b = a.block ∧ a.off ≤ o ∧ o < a.off + (E.hdr k).2 * s := by
  unfold ownTo at h
  split at h
  · split at h
    · rename_i g s xs
      split at h
      · rename_i hh
        obtain ⟨a,h1⟩:=hh
        exact ⟨g,s,xs,a,rfl,h1⟩
      · simp at h
    · simp at h
  · split at h <;> simp at h

theorem StWk.to {m : Nat} {st : St} (lv : List (Nat × D)) (lo : List (Nat × AObj)) (hk : keptTo m st (mkσ lo)) (ho : objsTo st (mkσ lo) lo) (hs : slotsTo st (mkσ lo) lv) :
    StWk G m st ⟨mkρ lv,mkσ lo,st.nx,st.n⟩:=by
  intro E w a hm R
  have hO:=fun k=>mkσ_cases lo k ho
  let σ':=mkσ lo
  let E' : Env := { own := fun b o => match E.own b o with | .ob k => ownTo E (st.σ k) (σ' k) k b o | y => y,
                    φ:=E.φ,hdr:=fun k=>if (st.σ k).isDead then (none,0) else E.hdr k }
  have hT : ∀ k, live st.σ k → live σ' k → tlen σ' k = tlen st.σ k ∧ tstr σ' k = tstr st.σ k := by
    intro k h1 h2
    rcases hO k with h|h|h|h|h
    · exact absurd h h2
    · obtain ⟨x, hx, hw, hxd⟩ := h
      have t1:=tlen_ren (σ:=st.σ) (σ':=fun _=>x) (k:=k) (j:=k) hx
      have t2:=ObWk.tl (σ:=fun _=>x) (σ':=σ') (k:=k) rfl hw
      exact ⟨t2.1.trans t1.1,t2.2.trans t1.2⟩
    · exact absurd h.1 h1
    · obtain ⟨cs, cs', e1, e2, _⟩ := h
      have e2' : σ' k = .cells cs':=e2
      simp [tlen,tstr,e1,e2']
    · obtain ⟨g, s, xs, hs, xs', hs', e1, e2, _⟩ := h
      have e2' : σ' k = .arr g s xs':=e2
      simp [tlen,tstr,e1,e2']
  have hE : ∀ b o k, live st.σ k → live σ' k → E.own b o = .ob k → E'.own b o = .ob k := by
    intro b o k h1 h2 h3
    have e1 : (st.σ k).isDead = false:=by cases hh : (st.σ k).isDead <;> simp_all [AObj.isDead_iff,live]
    have e2 : (σ' k).isDead = false:=by cases hh : (σ' k).isDead <;> simp_all [AObj.isDead_iff,live]
    simp [E',h3,ownTo,e1,e2]
  have hH : ∀ k, live st.σ k → E'.hdr k = E.hdr k := by
    intro k h1
    have e1 : (st.σ k).isDead = false:=by cases hh : (st.σ k).isDead <;> simp_all [AObj.isDead_iff,live]
    simp [E',e1]
  have hfr : ∀ b o, (E.own b o).frz = true → E'.own b o = E.own b o := by
    intro b o hf
    cases e : E.own b o <;> simp [e,Own.frz] at hf <;> simp [E',e]
  have hsc : ∀ b o q, E'.own b o = .sc q ↔ E.own b o = .sc q := by
    intro b o q
    cases e : E.own b o with
    | ob k=>simp only [E',e]; exact ⟨fun h=>absurd h ownTo_sc,fun h=>by simp at h⟩
    | _=>simp [E',e]
  have hnf : ∀ b o, E'.own b o = .fz → Free w.heap b o := by
    intro b o hq
    cases e : E.own b o with
    | ob k =>
      simp only [E',e] at hq
      obtain ⟨g,s,xs,a,h1,h2,rfl,h4,h5⟩:=ownTo_fz hq
      have hO':=R.core.objs k
      rw [h1] at hO'
      obtain ⟨_,_,⟨_,_,t3⟩,_⟩:=hO'
      obtain ⟨_,us,e',ff,hb',hs',ho'⟩:=t3 a h2
      exact ⟨us,e',ff,hb',fun _=>(ho' o (by omega) h5).2⟩
    | fz=>exact R.core.nf b o e
    | _=>simp [E',e] at hq
  have M : CMap (keepOf σ') E w.heap st.σ E' w.heap σ' := by
    refine ⟨fun b o hf=>⟨hfr b o hf,rfl⟩,fun b o q hq=>(hsc b o q).2 hq,fun k k' hl e=>?_⟩
    have hl' : live σ' k ∧ k' = k := by
      unfold keepOf at e
      split at e
      · simp at e
      · rename_i hne; simp at e; exact ⟨hne,e.symm⟩
    obtain ⟨hl',rfl⟩:=hl'
    have t:=hT k' hl hl'
    exact ⟨hl',rfl,fun m' hm'=>⟨m',by rw [← t.1]; exact hm',Nat.le_refl _,fun _=>hH k' hl⟩,fun s' hs'=>by rw [← t.2]; exact hs'⟩
  have hslot : ∀ d0 d v, VR E w.heap st.σ d0 v → SlotTo st.σ σ' d0 d → VR E' w.heap σ' d v := by
    intro d0 d v hv h
    rcases h with h|h|h
    · obtain ⟨d1, h1, h2⟩ := h
      exact h2.sem _ _ _ _ (hv.map' M h1)
    · obtain ⟨h1, k, s, h⟩ := h
      rw [h1] at hv
      rcases h with ⟨h2,h3,h4⟩|⟨h2,h3,h4⟩
      case inr =>
        rw [h2]
        revert hv
        generalize v = vv
        intro hv
        cases hv
        have e1 : E'.hdr k = (none,0):=by simp [E',h3,AObj.isDead]
        refine .sl k 0 0 0 none 0 (by unfold live; rw [h4]; simp) (fun m s _ _=>⟨Nat.zero_le _,fun _=>?_⟩)
        rw [e1]
        exact ⟨Nat.le_refl _,rfl,fun _=>rfl,fun a ha=>by simp at ha⟩
      rw [h2]
      revert hv
      generalize v = vv
      intro hv
      cases hv
      refine SlR.vr (s:=s) (cs:=[]) ⟨Row.nil _ _ _ _,by simp,by simp,fun _=>⟨rfl,rfl⟩,fun a e=>by simp at e,fun k' e=>?_⟩
      simp at e; subst e
      have e1 : E'.hdr k = (none,0):=by simp [E',h3,AObj.isDead]
      refine ⟨by unfold live; rw [h4]; simp,fun m hm=>⟨by simp,fun _=>e1⟩,fun s0 hs0 i hi=>by simp at hi⟩
    · obtain ⟨k, g, off, n, s, xs, rfl, hk1, hk2, hb, hn, hwk⟩ := h
      refine hwk.sem _ _ _ _ ?_
      obtain ⟨A,c,rfl,hl,ht⟩:=hv.sl_inv
      obtain ⟨_,hH⟩:=ht g s (by simp [tlen,hk1]) (by simp [tstr,hk1])
      obtain ⟨s1,s2,s3,s4⟩:=hH rfl
      have hO':=R.core.objs k
      rw [hk1] at hO'
      obtain ⟨h00,hxl,⟨t1,t2,t3⟩,⟨c1,c2,c3⟩⟩:=hO'
      have hlen : ((xs.drop off).take n).length = n:=by simp; omega
      have hg : ∀ i (hi : i < ((xs.drop off).take n).length), ∃ hi' : off + i < xs.length, ((xs.drop off).take n)[i] = xs[off + i] := by
        intro i hi
        exact ⟨by omega,by simp⟩
      have key : ∀ i j, ∃ u, ∀ (hi : off + i < xs.length) (hj : j < xs[off + i].length), (∀ a, (E.hdr k).1 = some a → cellH w.heap a.block (a.off + (off + i) * s + j) = some u) ∧ VR E' w.heap σ' xs[off + i][j] u := by
        intro i j
        by_cases hi : off + i < xs.length
        · by_cases hj : j < xs[off + i].length
          · cases hA : (E.hdr k).1 with
            | none=>have:=c2 hA; subst this; simp at hi
            | some a =>
              obtain ⟨u,hu,hv⟩:=c3 a hA (off + i) j hi hj
              refine ⟨u,fun _ _=>⟨fun a' ha'=>?_,hv.map' M (D.idf_ren_some _ ((c1 _ hi).2 j hj).1)⟩⟩
              simp at ha'; subst ha'; exact hu
          · exact ⟨undef,fun _ h=>absurd h hj⟩
        · exact ⟨undef,fun h=>absurd h hi⟩
      obtain ⟨f,hf⟩:=Classical.axiomOfChoice (fun i=>Classical.axiomOfChoice (key i))
      generalize hys : (xs.drop off).take n = ys at *
      subst hlen
      refine .list .nat ys A c s f (by omega) hn (fun i hi=>?_) (fun e=>?_) (fun a e=>?_) (fun i j hi hj=>?_) (fun i j hi hj=>?_) (fun k e=>by simp at e)
      · obtain ⟨h1,h2⟩:=hg i hi; rw [h2]; exact (c1 _ h1).1
      · cases hA : (E.hdr k).1 with
        | none =>
          have h5:=t2 hA
          exact ⟨List.eq_nil_of_length_eq_zero (by omega),by omega⟩
        | some a0=>obtain ⟨j,_,_,j3⟩:=s4 a0 hA; rw [j3] at e; simp at e
      · cases hA : (E.hdr k).1 with
        | none=>rw [s3 hA] at e; simp at e
        | some a0 =>
          obtain ⟨j0,j1,j2,j3⟩:=s4 a0 hA
          rw [j3] at e
          simp at e; subst e
          refine ⟨fun _=>rfl,fun i j hi hj=>?_⟩
          obtain ⟨h1,h2⟩:=hg i hi
          have hj' : j < xs[off + i].length:=by rw [(c1 _ h1).1]; exact hj
          obtain rfl:=j2 (by omega)
          have e1 : a0.off + j0 * s + i * s + j = a0.off + (j0 + i) * s + j:=by rw [Nat.add_mul]; omega
          show E'.own a0.block (a0.off + j0 * s + i * s + j) = .fz ∧ cellH w.heap a0.block (a0.off + j0 * s + i * s + j) = some (f i j)
          rw [e1]
          refine ⟨?_,(hf i j h1 hj').1 a0 hA⟩
          obtain ⟨_,us,e,ff,hb',hs',ho'⟩:=t3 a0 hA
          have hoff : a0.off + (j0 + i) * s + j < a0.off + (E.hdr k).2 * s := by
            have : (j0 + i + 1) * s ≤ (E.hdr k).2 * s:=Nat.mul_le_mul_right _ (by omega)
            rw [Nat.add_mul,Nat.one_mul] at this
            omega
          have:=(ho' (a0.off + (j0 + i) * s + j) (by omega) hoff).1
          simp only [E',this,hk1,hk2,ownTo,AObj.isDead]
          rw [if_pos ⟨a0,hA,rfl,by omega,hoff⟩]
      · obtain ⟨h1, h2⟩ := hg i hi
        have hj' : j < xs[off + i].length:=by rw [← h2]; exact hj
        have h8 : ys[i][j] = xs[off + i][j]:=by simp only [h2]
        rw [h8]; exact (hf i j h1 hj').2
      · obtain ⟨h1, h2⟩ := hg i hi
        have hj' : j < xs[off + i].length:=by rw [← h2]; exact hj
        have h8 : ys[i][j] = xs[off + i][j]:=by simp only [h2]
        rw [h8]; exact ((c1 _ h1).2 j hj').1
  have hcells : ∀ cs cs' us, VRs E w.heap st.σ cs us → CellsTo st.σ σ' cs cs' → VRs E' w.heap σ' cs' us := by
    intro cs cs' us hv h
    induction h generalizing us with
    | nil=>obtain rfl:=VRs_nil.1 hv; exact VRs_nil.2 rfl
    | cons h hr ih =>
      obtain ⟨x,r,rfl,a1,a2⟩:=VRs_cons_inv hv
      exact VRs_cons.2 ⟨hslot _ _ _ a1 h,ih _ a2⟩
  refine ⟨E', ⟨⟨fun k => ?_, fun b o hh => R.core.bnd b o (fun e => hh (by simp [E', e])), fun b o q hq => R.core.sc b o q ((hsc b o q).1 hq), hnf, fun k hkx => ?_, fun g => (R.core.glob g).map' M (Shp.refl _)⟩, R.n, fun t => ?_, R.defers.ext (fun b o e => by simp [E', e])⟩, hm,
    ⟨Nat.le_refl _,fun b o _ hf=>⟨hfr b o hf,rfl⟩,fun b o q _ hq=>(hsc b o q).2 hq,fun b o q _ hq=>(hsc b o q).1 hq,fun b o _ hf=>⟨by simp [E',hf],rfl⟩,fun b c e f hb=>⟨c,f,hb,rfl,.refl _ _⟩,fun b _ _=>rfl,fun k hkm hl=>?_⟩⟩
  · show OR E' w.heap σ' k (σ' k)
    by_cases hd : σ' k = .dead
    · rw [hd]; trivial
    · rcases hO k with h | h | h | h | h
      · exact absurd h hd
      · obtain ⟨x, hx, hw, hxd⟩ := h
        have hl : live st.σ k:=fun e=>hxd ((AObj.ren_dead hx).2 e)
        exact hw.or ((R.core.objs k).ren' M rfl (hH k hl) (fun b o e=>hE b o k hl hd e) hx)
      · obtain ⟨h1, h2, s, hs0, he⟩ := h
        show OR E' w.heap σ' k (mkσ lo k)
        have e1 : E'.hdr k = (none,0):=by simp [E',h1,AObj.isDead]
        have hT0 : Tail E' w.heap k 0 s := by
          unfold Tail
          rw [e1]
          exact ⟨Nat.le_refl _,fun _=>rfl,fun a ha=>by simp at ha⟩
        rcases he with he|he
        · rw [he]; exact ⟨hs0,hT0⟩
        · rw [he]; exact ⟨hs0,Nat.zero_le _,hT0,fun i hi=>by simp at hi,fun _=>rfl,fun a ha=>by rw [e1] at ha; simp at ha⟩
      · obtain ⟨cs, cs', e1, e2, hc⟩ := h
        have e2' : σ' k = .cells cs':=e2
        have hO':=R.core.objs k
        rw [e1] at hO'
        obtain ⟨us,e,hb,hv,ho⟩:=hO'
        rw [e2']
        exact ⟨us,e,hb,hcells _ _ _ hv hc,fun o=>hE _ o k (by unfold live; rw [e1]; simp) (by unfold live; rw [e2']; simp) (ho o)⟩
      · obtain ⟨g, s, xs, hs, xs', hs', e1, e2, hh, hf1, hf2⟩ := h
        have e2' : σ' k = .arr g s xs':=e2
        have hl : live st.σ k:=by unfold live; rw [e1]; simp
        have hl' : live σ' k:=by unfold live; rw [e2']; simp
        have hO':=R.core.objs k
        rw [e1] at hO'
        obtain ⟨h0,h1,⟨t1,t2,t3⟩,c1,c2,c3,c4⟩:=hO'
        rw [e2']
        refine ⟨h0,by rw [hf1,hH k hl]; exact h1,⟨by rw [hH k hl]; exact t1,by rw [hH k hl]; exact t2,fun a ha=>?_⟩,fun i hi=>⟨(hf2 i hi).1,fun j hj=>?_⟩,fun e=>?_,fun a ha i j hi hj=>?_⟩
        · rw [hH k hl] at ha ⊢
          obtain ⟨sp,us,e,f,hb,hs1,ho⟩:=t3 a ha
          exact ⟨sp,us,e,f,hb,⟨hs1.1,hs1.2.1,hE _ _ _ hl hl' hs1.2.2⟩,fun o p1 p2=>⟨hE _ _ _ hl hl' (ho o p1 p2).1,(ho o p1 p2).2⟩⟩
        · have key : xs'[i][j].idf = true := by
            rcases (hf2 i hi).2 j hj with hm|⟨hn,q1,q2,e⟩
            · exact (hh.fw _ _ _ hm).1
            · cases hA : (E.hdr k).1 with
              | none=>have:=c2 hA; subst this; simp at q1
              | some a =>
                rcases (c4 a hA).1 i j q1 q2 with ⟨d,hd⟩|⟨p1,_⟩
                · obtain ⟨d', hd'⟩ := hh.bw i j d hd
                  exact absurd hd' (hn d')
                · rw [e]; exact p1
          exact ⟨key,D.one_of_idf key⟩
        · rw [hH k hl] at e
          have:=c2 e
          subst this
          exact List.eq_nil_of_length_eq_zero hf1
        · rw [hH k hl] at ha
          rcases (hf2 i hi).2 j hj with hm|⟨hn,q1,q2,e⟩
          · obtain ⟨_, d0, hd0, hst⟩ := hh.fw _ _ _ hm
            obtain ⟨u,hu,hv⟩:=(c4 a ha).2 _ hd0
            exact ⟨u,hu,hslot _ _ _ hv hst⟩
          · rcases (c4 a ha).1 i j q1 q2 with ⟨d, hd⟩ | ⟨p1, u, p2, p3⟩
            · obtain ⟨d', hd'⟩ := hh.bw i j d hd
              exact absurd hd' (hn d')
            · exact ⟨u,p2,by rw [e]; exact p3.map' M (D.idf_ren_some _ p1)⟩
  · rcases hO k with h | h | h | h | h
    · exact h
    · obtain ⟨x, hx, hw, hxd⟩ := h
      exact absurd ((AObj.ren_dead hx).2 (R.core.dead k hkx)) hxd
    · exact absurd h.2.1 (by simp at hkx ⊢; omega)
    · obtain ⟨cs, cs', e1, _⟩ := h
      rw [R.core.dead k hkx] at e1; simp at e1
    · obtain ⟨g, s, xs, hs, xs', hs', e1, _⟩ := h
      rw [R.core.dead k hkx] at e1; simp at e1
  · show VR E' w.heap σ' (mkρ lv t) _
    rcases mkρ_cases lv t hs with h|h
    · rw [h]; exact .junk _
    · exact hslot _ _ _ (R.slots t) h
  · have hl' := hk k hkm hl
    have t:=hT k hl hl'
    exact ⟨hl',rfl,fun m' hm'=>⟨m',by rw [← t.1]; exact hm',Nat.le_refl _,fun _=>hH k hl⟩,fun s' hs'=>by rw [← t.2]; exact hs'⟩

end Go.AL

namespace Go.AL
open Go

noncomputable def tabOf (P : Program) : Tab := fun t => match P.underlying t with
 | some d=>match P.info? t with
  | some i=>some ⟨d,i.size,i.bytes,i.zero⟩
  | none=>none
 | none=>none
theorem tabOf_ok (P : Program) : TOk P (tabOf P) := by
 intro t i h
 unfold tabOf at h
 split at h
 ·rename_i d hd
  split at h
  ·rename_i inf hi; simp at h; subst h; exact ⟨hd,inf,hi,rfl,rfl,rfl⟩
  ·simp at h
 ·simp at h

variable {P : Program} {T : Tab} {G : Glob}

structure To (m : Nat) (st : St) (lv : List (Nat × D)) (lo : List (Nat × AObj)) (nx n : Nat) : Prop where
 nx : st.nx = nx
 n : st.n = n
 kept : keptTo m st (mkσ lo)
 objs : objsTo st (mkσ lo) lo
 slots : slotsTo st (mkσ lo) lv

theorem To.wk {m st lv lo nx n} (h : To m st lv lo nx n) : StWk G m st ⟨mkρ lv, mkσ lo, nx, n⟩ := by
 obtain ⟨rfl,rfl,h1,h2,h3⟩:=h
 exact StWk.to lv lo h1 h2 h3

theorem split_intro {b : Bool} {X Y : Prop} (h1 : b = true → X) (h2 : b = false → Y) : cond b X Y := by
 cases b
 ·exact h2 rfl
 ·exact h1 rfl

abbrev vI (x : Int) : D:=.v (.int .i64 x)
abbrev vB (x : Bool) : D:=.v (.bool x)
theorem add64 {a b c : Int} (h : a + b = c) (hb : -9223372036854775808 ≤ c ∧ c ≤ 9223372036854775807) : intBin .add .i64 a b = some c := by
 subst h; simp only [intBin]; rw [IntWalk.i64_in _ hb]
theorem sub64 {a b c : Int} (h : a - b = c) (hb : -9223372036854775808 ≤ c ∧ c ≤ 9223372036854775807) : intBin .sub .i64 a b = some c := by
 subst h; simp only [intBin]; rw [IntWalk.i64_in _ hb]

theorem getMap {α β : Type} {f : α → β} {l : List α} {i : Nat} {x : α} (h : l[i]? = some x) : (l.map f)[i]? = some (f x):=by simp [h]

end Go.AL

namespace Go.AL
open Go
variable {P : Program} {T : Tab} {G : Glob} {ρ : Nat → D} {σ : Store} {id : Nat}

theorem withT_mono {t : TypeId} {k k' : TyI → Prop} (h : ∀ i, k i → k' i) : withT T t k → withT T t k' := by
 unfold withT; cases T t <;> simp; exact h _
theorem asrt_mono {b : Bool} {p q : Prop} (h : p → q) : asrt b p → asrt b q:=by cases b <;> simp [asrt]; exact h

variable {K K' : KD} (hK : ∀ d u r,K d u r → K' d u r)
include hK

theorem aField_mono {s x f} : aField T G ρ σ s x f K → aField T G ρ σ s x f K' := by
 unfold aField
 simp only [forceD_eq,forceL_eq,forceLL_eq]
 refine withT_mono fun i=>?_
 cases i.d <;> try exact fun h=>h
 rename_i fs
 simp only []
 cases fs[f]? <;> try exact fun h=>h
 refine withT_mono fun j=>asrt_mono ?_
 cases ev G ρ x <;> first|exact fun h=>h|exact hK _ _ _|skip
 rename_i k g s ix o
 simp only []
 cases σ k <;> first|exact fun h=>h|exact fun ⟨h1,h2⟩=>⟨h1,hK _ _ _ h2⟩

theorem aLoad_mono {t x} : aLoad T G ρ σ t x K → aLoad T G ρ σ t x K' := by
 unfold aLoad
 simp only [forceD_eq,forceL_eq,forceLL_eq]
 refine withT_mono fun i=>?_
 cases ev G ρ x <;> try exact fun h=>h
 ·rename_i cs
  simp only []
  cases ofCells i (cs.take i.size) <;> first|exact fun h=>h|exact hK _ _ _
 ·rename_i k o
  simp only []
  cases σ k <;> try exact fun h=>h
  rename_i cs
  simp only []
  cases ofCells i ((cs.drop o).take i.size) <;> first|exact fun h=>h|exact hK _ _ _
 ·rename_i cs
  simp only []
  cases ofCells i (cs.take i.size) <;> first|exact fun h=>h|exact hK _ _ _
 ·rename_i k g s ix o
  simp only []
  cases σ k <;> try exact fun h=>h
  ·refine fun ⟨cs, h1, h2⟩ => ⟨cs, h1, ?_⟩
   revert h2
   cases ofCells i ((cs.drop o).take i.size) <;> first|exact fun h=>h|exact hK _ _ _
  ·refine fun ⟨n, d, h1, h2⟩ => ⟨n, d, h1, ?_⟩
   revert h2
   cases ofCells i [d] <;> first|exact fun h=>h|exact hK _ _ _

theorem aStore_mono {t x y} : aStore T G ρ σ id t x y K → aStore T G ρ σ id t x y K' := by
 unfold aStore
 simp only [forceD_eq,forceL_eq,forceLL_eq]
 refine withT_mono fun i=>?_
 cases ev G ρ x <;> try exact fun h=>h
 ·rename_i cs
  simp only []
  split
  ·cases σ id <;> try exact fun h => h
   exact asrt_mono (hK _ _ _)
  ·exact fun h=>h
 ·rename_i k o
  simp only []
  cases σ k <;> try exact fun h=>h
  exact asrt_mono (hK _ _ _)
 ·rename_i k g s ix o
  simp only []
  cases σ k <;> try exact fun h=>h
  ·simp only []
   cases (ev G ρ y).idfV with
   | true=>exact asrt_mono fun ⟨cs,ys,h1,h2,h3⟩=>⟨cs,ys,h1,h2,hK _ _ _ h3⟩
   | false=>exact asrt_mono fun ⟨h1,h2⟩=>⟨h1,hK _ _ _ h2⟩
  ·exact asrt_mono fun ⟨hs',h1,h2,h3⟩=>⟨hs',h1,h2,hK _ _ _ h3⟩

theorem aIndexAddr_mono {t x y} : aIndexAddr T G ρ σ t x y K → aIndexAddr T G ρ σ t x y K' := by
 unfold aIndexAddr
 refine withT_mono fun it=>?_
 cases it.d <;> try exact fun h=>h
 ·rename_i e
  refine withT_mono fun i=>?_
  cases ev G ρ x <;> try exact fun h=>h
  ·simp only []
   cases ev G ρ y <;> try exact fun h=>h
   rename_i v
   cases v <;> try exact fun h=>h
   exact fun ⟨cs,h1,h2⟩=>⟨cs,h1,asrt_mono (hK _ _ _) h2⟩
  ·simp only []
   cases ev G ρ y <;> try exact fun h=>h
   rename_i v
   cases v <;> try exact fun h=>h
   exact fun ⟨cs,h1,h2⟩=>⟨cs,h1,asrt_mono (hK _ _ _) h2⟩
  ·rename_i k g off n
   simp only []
   cases ev G ρ y <;> try exact fun h=>h
   rename_i v
   cases v <;> try exact fun h=>h
   simp only []
   cases σ k <;> first|exact fun h=>h|exact fun ⟨h1,h2⟩=>⟨h1,hK _ _ _ h2⟩
 ·rename_i len e
  refine withT_mono fun i=>?_
  cases ev G ρ y <;> try exact fun h=>h
  rename_i v
  cases v <;> try exact fun h=>h
  simp only []
  cases ev G ρ x <;> try exact fun h=>h
  ·exact fun ⟨h1,h2⟩=>⟨h1,hK _ _ _ h2⟩
  ·exact fun ⟨ds,h1,h2⟩=>⟨ds,h1,hK _ _ _ h2⟩

theorem aIndex_mono {t x y} : aIndex T G ρ t x y K → aIndex T G ρ t x y K' := by
 unfold aIndex
 refine withT_mono fun it=>?_
 split
 ·cases ev G ρ x <;> try exact fun h => h
  rename_i v
  cases v <;> try exact fun h=>h
  simp only []
  cases ev G ρ y <;> try exact fun h=>h
  rename_i v
  cases v <;> try exact fun h=>h
  exact fun ⟨b,h1,h2⟩=>⟨b,h1,hK _ _ _ h2⟩
 ·refine withT_mono fun j => ?_
  cases ev G ρ x <;> try exact fun h=>h
  simp only []
  cases ev G ρ y <;> try exact fun h=>h
  rename_i v
  cases v <;> try exact fun h=>h
  exact fun ⟨b,h1,h2⟩=>⟨b,h1,hK _ _ _ h2⟩
 ·exact fun h=>h

theorem aEqNil_mono {op t x y} : aEqNil T G ρ op t x y K → aEqNil T G ρ op t x y K' := by
 unfold aEqNil
 refine withT_mono fun i=>asrt_mono ?_
 cases eqNil (ev G ρ x) (ev G ρ y) <;> try exact fun h=>h
 rename_i b
 simp only []
 cases eqD op b <;> first|exact fun h=>h|exact hK _ _ _

theorem aBin_mono {op t x y} : aBin T G ρ op t x y K → aBin T G ρ op t x y K' := by
 unfold aBin
 have hn:=aEqNil_mono (T:=T) (G:=G) (ρ:=ρ) (op:=op) (t:=t) (x:=x) (y:=y) hK
 cases hx : ev G ρ x <;> try exact hn
 case sq q =>
  simp only []
  cases sqBin op (.sq q) (ev G ρ y) <;> first|exact fun h=>h|exact hK _ _ _
 rename_i v
 cases v <;> try exact hn
 ·rename_i k a
  simp only []
  cases ev G ρ y <;> try exact fun h=>h
  rename_i v
  cases v <;> try exact fun h=>h
  rename_i k' b
  simp only []
  cases isCmp op
  ·simp only []
   cases isShift op
   ·exact asrt_mono fun ⟨c,h1,h2⟩=>⟨c,h1,hK _ _ _ h2⟩
   ·exact fun ⟨c,h1,h2⟩=>⟨c,h1,hK _ _ _ h2⟩
  ·refine asrt_mono ?_
   cases intCmpB op a b <;> first|exact fun h=>h|exact hK _ _ _
 ·rename_i a
  simp only []
  cases ev G ρ y <;> try exact fun h=>h
  rename_i v
  cases v <;> try exact fun h=>h
  rename_i b
  simp only []
  cases isCmp op
  ·cases op <;> first|exact fun h=>h|exact fun ⟨c,h1,h2⟩=>⟨c,h1,hK _ _ _ h2⟩
  ·simp only []
   cases strCmp op a b <;> first|exact fun h=>h|exact hK _ _ _

theorem aConv_mono {s t x} : aConv T G ρ σ id s t x K → aConv T G ρ σ id s t x K' := by
 unfold aConv
 refine withT_mono fun is=>withT_mono fun it=>?_
 cases ev G ρ x <;> try exact fun h=>h
 case v v =>
  cases v <;> try exact fun h=>h
  case string b =>
   simp only []
   cases it.d <;> try exact fun h=>h
   exact withT_mono fun ie => asrt_mono (by
    cases σ id <;> try exact fun h=>h
    exact fun ⟨h1,h2⟩=>⟨h1,hK _ _ _ h2⟩)
  simp only []
  cases it.d <;> first|exact fun h=>h|exact fun ⟨c,h1,h2⟩=>⟨c,h1,hK _ _ _ h2⟩
 case list tg xs =>
  simp only []
  cases is.d <;> try exact fun h=>h
  refine withT_mono fun ie=>?_
  cases it.d <;> try exact fun h=>h
  ·exact asrt_mono fun ⟨l,h1,h2⟩=>⟨l,h1,hK _ _ _ h2⟩
  ·refine asrt_mono ?_
   cases tg <;> try exact fun h=>h
   rename_i k
   cases xs <;> try exact fun h=>h
   simp only []
   cases σ k <;> try exact fun h=>h
   exact asrt_mono (hK _ _ _)

theorem aSlice_mono {t x lo hi} : aSlice T G ρ σ t x lo hi K → aSlice T G ρ σ t x lo hi K' := by
 unfold aSlice
 refine withT_mono fun it=>?_
 cases it.d <;> try exact fun h=>h
 ·simp only []
  cases ev G ρ x <;> try exact fun h=>h
  rename_i v
  cases v <;> try exact fun h=>h
  rename_i s
  simp only []
  cases bnd G ρ 0 lo <;> try exact fun h=>h
  simp only []
  cases bnd G ρ s.size hi <;> try exact fun h=>h
  exact fun ⟨c,h1,h2⟩=>⟨c,h1,hK _ _ _ h2⟩
 ·rename_i e
  refine withT_mono fun i=>?_
  cases ev G ρ x <;> try exact fun h=>h
  ·simp only []
   cases bnd G ρ 0 lo <;> try exact fun h=>h
   simp only []
   cases bnd G ρ 0 hi <;> try exact fun h=>h
   exact fun ⟨h1,h2⟩=>⟨h1,hK _ _ _ h2⟩
  ·rename_i tk xs
   simp only []
   cases bnd G ρ 0 lo <;> try exact fun h=>h
   simp only []
   cases bnd G ρ xs.length hi <;> try exact fun h=>h
   exact fun ⟨c,h1,h2⟩=>⟨c,h1,hK _ _ _ h2⟩
  ·rename_i k g off n
   simp only []
   cases bnd G ρ 0 lo <;> try exact fun h=>h
   simp only []
   cases bnd G ρ n hi <;> try exact fun h=>h
   simp only []
   cases σ k <;> try exact fun h=>h
   exact fun ⟨h1,h2⟩=>⟨h1,hK _ _ _ h2⟩
  ·rename_i k n
   cases lo <;> try exact fun h=>h
   simp only []
   cases σ k <;> try exact fun h=>h
   rename_i n2 s
   cases n2 <;> try exact fun h=>h
   simp only []
   cases bnd G ρ n hi <;> try exact fun h=>h
   exact fun ⟨h1,h2⟩=>⟨h1,hK _ _ _ h2⟩
 ·rename_i n e
  refine withT_mono fun i=>?_
  cases lo <;> try exact fun h=>h
  cases hi <;> try exact fun h=>h
  cases ev G ρ x <;> try exact fun h=>h
  rename_i k o
  cases o <;> try exact fun h=>h
  simp only []
  cases σ k <;> try exact fun h=>h
  simp only [forceLL_eq]
  exact asrt_mono (hK _ _ _)

theorem aAppend_mono {ts xs} : aAppend T G ρ σ id ts xs K → aAppend T G ρ σ id ts xs K' := by
 unfold aAppend
 match ts with
 | []=>exact fun h=>h
 | [_]=>exact fun h=>h
 | _ :: _ :: _ :: _=>exact fun h=>h
 | [t, t2] =>
  match xs with
  | []=>exact fun h=>h
  | [_]=>exact fun h=>h
  | _ :: _ :: _ :: _=>exact fun h=>h
  | [x, y] =>
   refine withT_mono fun it=>?_
   cases it.d <;> try exact fun h=>h
   refine withT_mono fun i=>withT_mono fun j=>?_
   cases isIntD j.d
   ·refine asrt_mono ?_
    cases srcOf (ev G ρ y) <;> try exact fun h=>h
    simp only []
    cases ev G ρ x <;> try exact fun h=>h
    ·simp only []
     cases σ id <;> try exact fun h=>h
     exact fun ⟨c,h1,h2⟩=>⟨c,h1,hK _ _ _ h2⟩
    ·rename_i tk xs
     cases tk <;> try exact fun h=>h
     rename_i k
     simp only []
     cases σ k <;> try exact fun h=>h
     exact fun ⟨c,h1,h2⟩=>⟨c,h1,hK _ _ _ h2⟩
    ·rename_i k g off n
     simp only []
     cases σ k <;> try exact fun h=>h
     exact fun ⟨c,h1,h2⟩=>⟨c,h1,hK _ _ _ h2⟩
   ·refine asrt_mono ?_
    cases ev G ρ y <;> try exact fun h=>h
    rename_i v
    cases v <;> try exact fun h=>h
    rename_i k n
    cases k <;> try exact fun h=>h
    simp only []
    cases ev G ρ x <;> try exact fun h=>h
    simp only []
    cases σ id <;> try exact fun h=>h
    exact fun ⟨h1,h2⟩=>⟨h1,hK _ _ _ h2⟩

theorem aBuiltin_mono {b ts xs} : aBuiltin T G ρ σ id b ts xs K → aBuiltin T G ρ σ id b ts xs K' := by
 cases b <;> first|exact aAppend_mono hK|skip
 all_goals unfold aBuiltin
 all_goals first|exact fun h=>h|skip
 ·match ts with
  | []=>exact fun h=>h
  | _ :: _ :: _=>exact fun h=>h
  | [t] =>
   match xs with
   | []=>exact fun h=>h
   | _ :: _ :: _=>exact fun h=>h
   | [x] =>
    refine withT_mono fun it=>?_
    cases it.d <;> try exact fun h=>h
    simp only []
    cases ev G ρ x <;> first|exact fun h=>h|exact hK _ _ _
 ·match ts with
  | []=>exact fun h=>h
  | _ :: _ :: _=>exact fun h=>h
  | [t] =>
   match xs with
   | []=>exact fun h=>h
   | _ :: _ :: _=>exact fun h=>h
   | [x] =>
    refine withT_mono fun it=>?_
    cases it.d <;> try exact fun h=>h
    refine withT_mono fun i=>?_
    cases i.zero <;> try exact fun h=>h
    rename_i z
    simp only []
    split
    ·refine asrt_mono ?_
     cases ev G ρ x <;> try exact fun h=>h
     rename_i k g off n
     simp only []
     cases σ k <;> try exact fun h=>h
     exact fun ⟨h1,h2⟩=>⟨h1,hK _ _ _ h2⟩
    ·exact fun h=>h
 ·match ts with
  | []=>exact fun h=>h
  | _ :: _ :: _=>exact fun h=>h
  | [t] =>
   match xs with
   | []=>exact fun h=>h
   | _ :: _ :: _=>exact fun h=>h
   | [x] =>
    refine withT_mono fun it=>asrt_mono ?_
    cases lenD σ (ev G ρ x) <;> first|exact fun h=>h|exact hK _ _ _
 all_goals
  match xs with
  | []=>exact fun h=>h
  | [_]=>exact fun h=>h
  | _ :: _ :: _ :: _=>exact fun h=>h
  | [x,y] =>
   simp only []
   cases ev G ρ x <;> try exact fun h=>h
   rename_i v
   cases v <;> try exact fun h=>h
   simp only []
   cases ev G ρ y <;> try exact fun h=>h
   rename_i v
   cases v <;> try exact fun h=>h
   refine asrt_mono ?_
   simp only [minmax]
   exact hK _ _ _

theorem aBuildSlice_mono {t n ps} : aBuildSlice T G ρ σ id t n ps K → aBuildSlice T G ρ σ id t n ps K' := by
 unfold aBuildSlice
 simp only [forceD_eq,forceL_eq,forceLL_eq]
 refine withT_mono fun it=>?_
 cases it.d <;> try exact fun h=>h
 refine withT_mono fun i=>asrt_mono ?_
 cases σ id <;> try exact fun h=>h
 exact hK _ _ _

theorem aField2_mono {t x f} : aField2 T G ρ t x f K → aField2 T G ρ t x f K' := by
 unfold aField2
 simp only [forceD_eq,forceL_eq,forceLL_eq]
 refine withT_mono fun i=>?_
 cases i.d <;> try exact fun h=>h
 rename_i fs
 simp only []
 cases fs[f]? <;> try exact fun h=>h
 rename_i fd
 refine withT_mono fun j=>?_
 cases ev G ρ x <;> try exact fun h=>h
 rename_i cs
 simp only []
 cases ofCells j ((cs.drop fd.offset).take j.size) <;> first|exact fun h=>h|exact hK _ _ _

theorem aBuild_mono {t ps} : aBuild T G ρ t ps K → aBuild T G ρ t ps K' := by
 unfold aBuild
 simp only [forceD_eq,forceL_eq,forceLL_eq]
 refine withT_mono fun i=>?_
 cases i.d <;> try exact fun h=>h
 case struct fs =>
  simp only []
  cases i.zero <;> try exact fun h=>h
  rename_i z
  refine asrt_mono ?_
  cases buildCells T fs.toList (zcells z) (ps.map fun p=>(p.1,ev G ρ p.2)) <;> first|exact fun h=>h|exact hK _ _ _
 case array n e =>
  refine withT_mono fun j=>?_
  cases i.zero <;> try exact fun h=>h
  rename_i z
  simp only []
  cases buildCells T (arrFs e j.size n 0) (zcells z) (ps.map fun p=>(p.1,ev G ρ p.2)) <;> first|exact fun h=>h|exact hK _ _ _

theorem aLookup_mono {t x y ok} : aLookup T G ρ σ t x y ok K → aLookup T G ρ σ t x y ok K' := by
 unfold aLookup
 refine withT_mono fun it=>?_
 cases it.d <;> try exact fun h=>h
 refine withT_mono fun ik=>withT_mono fun ie=>?_
 cases ie.zero <;> try exact fun h=>h
 simp only []
 cases ev G ρ y <;> try exact fun h=>h
 rename_i v
 cases v <;> try exact fun h=>h
 refine asrt_mono ?_
 cases ev G ρ x <;> try exact fun h=>h
 ·rename_i v
  cases v <;> try exact fun h=>h
  rename_i r
  cases r <;> first|exact fun h=>h|exact hK _ _ _
 ·rename_i k
  simp only []
  cases σ k <;> try exact fun h=>h
  exact fun ⟨d,h1,h2⟩=>⟨d,h1,hK _ _ _ h2⟩

theorem aMapUpdate_mono {t x y v} : aMapUpdate T G ρ σ t x y v K → aMapUpdate T G ρ σ t x y v K' := by
 unfold aMapUpdate
 refine withT_mono fun it=>?_
 cases it.d <;> try exact fun h=>h
 refine withT_mono fun ik=>?_
 cases ev G ρ y <;> try exact fun h=>h
 rename_i v
 cases v <;> try exact fun h=>h
 refine asrt_mono ?_
 cases ev G ρ x <;> try exact fun h=>h
 rename_i k
 simp only []
 cases σ k <;> try exact fun h=>h
 exact fun ⟨d,h1,h2⟩=>⟨d,h1,hK _ _ _ h2⟩

theorem aMake_mono {t x y} : aMake T G ρ σ id t x y K → aMake T G ρ σ id t x y K' := by
 unfold aMake
 refine withT_mono fun it=>?_
 cases it.d <;> try exact fun h=>h
 refine withT_mono fun i=>?_
 cases i.zero <;> try exact fun h=>h
 refine asrt_mono ?_
 split
 case h_2=>exact fun h=>h
 split
 case h_2=>exact fun h=>h
 split
 case h_2=>exact fun h=>h
 rw [forceD_eq,forceD_eq]
 exact fun ⟨h1,h2⟩=>⟨h1,hK _ _ _ h2⟩

theorem aop_mono {op : Op} : aop T G ρ σ id op K → aop T G ρ σ id op K' := by
 unfold aop
 simp only [forceD_eq,forceL_eq,forceLL_eq]
 split
 ·exact hK _ _ _
 ·exact hK _ _ _
 ·split
  ·split <;> exact hK _ _ _
  ·exact fun h=>h
 ·refine withT_mono fun i => ?_
  cases i.zero <;> try exact fun h=>h
  simp only []
  cases σ id <;> first|exact fun h=>h|exact hK _ _ _
 ·refine asrt_mono ?_
  cases σ id <;> first|exact fun h=>h|exact hK _ _ _
 ·exact aField_mono hK
 ·exact aLoad_mono hK
 ·exact aStore_mono hK
 ·exact aIndexAddr_mono hK
 ·exact aIndex_mono hK
 ·exact aBin_mono hK
 ·split
  ·exact hK _ _ _
  ·exact fun h=>h
 ·split
  ·exact fun ⟨c,h1,h2⟩=>⟨c,h1,hK _ _ _ h2⟩
  ·exact fun h=>h
 ·exact aConv_mono hK
 ·split
  ·split
   ·exact hK _ _ _
   ·exact fun h=>h
  ·exact fun h=>h
 ·exact aBuildSlice_mono hK
 ·exact aSlice_mono hK
 ·exact aField2_mono hK
 ·exact aBuild_mono hK
 ·refine withT_mono fun i=>asrt_mono (hK _ _ _)
 ·exact hK _ _ _
 ·split
  ·exact hK _ _ _
  ·exact hK _ _ _
  ·split
   ·exact fun ⟨h1,h2⟩=>⟨h1,hK _ _ _ h2⟩
   ·exact fun h=>h
  ·exact fun h=>h
 ·exact aMake_mono hK
 ·split
  ·exact hK _ _ _
  ·exact fun h=>h
 ·exact aLookup_mono hK
 ·exact aMapUpdate_mono hK
 ·refine withT_mono fun i => ?_
  split
  ·refine asrt_mono ?_
   split <;> exact hK _ _ _
  ·exact fun h=>h
 ·refine withT_mono fun i => ?_
  split
  ·split
   ·split
    ·exact hK _ _ _
    ·exact fun h=>h
   ·exact fun h=>h
  ·exact fun h=>h
 ·split
  ·split
   ·exact fun ⟨s,pos,e,h⟩=>⟨s,pos,e,h.imp (fun h=>⟨h.1,hK _ _ _ h.2⟩) (fun h=>⟨h.1,hK _ _ _ h.2⟩)⟩
   ·exact fun h=>h
  ·exact fun h=>h
 ·exact aBuiltin_mono hK
 ·exact fun h=>h

theorem CallLeaf.mono {f as} {Kv Kv' : KD} (hv : ∀ d u r,Kv d u r → Kv' d u r) : CallLeaf P G ρ f as σ id K Kv → CallLeaf P G ρ f as σ id K' Kv':=Or.imp (fun ⟨d,u,r,h1,h2⟩=>⟨d,u,r,h1,hK _ _ _ h2⟩) (Or.imp (fun h=>h) fun ⟨q,u,d,u',r',h1,h2,h4,h3⟩=>⟨q,u,d,u',r',h1,h2,h4,hv _ _ _ h3⟩)
theorem MethGo_mono {t d as f b} : MethGo P T G ρ t d as σ id K f b → MethGo P T G ρ t d as σ id K' f b := by
 unfold MethGo
 simp only [forceL_eq]
 refine withT_mono fun i=>?_
 cases i.d <;> first
  | (cases b <;> first|exact fun h=>h|exact CallLeaf.mono hK (fun _ _ _ h=>h))
  | skip
 rename_i e
 cases b
 ·refine withT_mono fun j => ?_
  cases d <;> try exact fun h=>h
  rename_i k o
  simp only []
  cases σ k <;> try exact fun h=>h
  rename_i cs
  simp only []
  cases ofCells j ((cs.drop o).take j.size) <;> try exact fun h=>h
  exact CallLeaf.mono (fun d u r h=>hK _ _ _ h) (fun _ _ _ h=>h)
 ·exact CallLeaf.mono hK (fun _ _ _ h=>h)

theorem aLookupW_mono {t x cs ok} : aLookupW P T G ρ σ id t x cs ok K → aLookupW P T G ρ σ id t x cs ok K' := by
 unfold aLookupW
 split
 case h_2=>exact fun h=>h
 refine withT_mono fun it=>?_
 split
 case h_2=>exact fun h=>h
 refine withT_mono fun ie=>?_
 split
 case h_2=>exact fun h=>h
 refine fun ⟨h1,h2⟩=>⟨h1,?_⟩
 revert h2
 split
 ·exact fun ⟨d,h1,h2⟩=>⟨d,h1,hK _ _ _ h2⟩
 ·split
  ·exact fun ⟨d,h1,h2⟩=>⟨d,h1,hK _ _ _ h2⟩
  ·exact fun h=>h
 ·exact fun h=>h
theorem aMapUpdateW_mono {t x v cs} : aMapUpdateW P T G ρ σ id t x v cs K → aMapUpdateW P T G ρ σ id t x v cs K' := by
 unfold aMapUpdateW
 split
 case h_2=>exact fun h=>h
 refine withT_mono fun it=>?_
 split
 case h_2=>exact fun h=>h
 refine fun ⟨h1,h2⟩=>⟨h1,?_⟩
 revert h2
 refine asrt_mono ?_
 split
 ·split
  ·exact fun ⟨d,h1,h2⟩=>⟨d,h1,hK _ _ _ h2⟩
  ·exact fun h=>h
 ·exact fun h=>h

theorem aopK_mono {op : Op} {Kv Kv' : KD} (hv : ∀ d u r, Kv d u r → Kv' d u r) : aopK P T G ρ σ id op K Kv → aopK P T G ρ σ id op K' Kv' := by
 unfold aopK
 split
 ·split
  ·simp only [forceL_eq]
   exact CallLeaf.mono hK hv
  ·simp only [forceL_eq]
   exact fun ⟨d,u,r,h1,h2⟩=>⟨d,u,r,h1,hK _ _ _ h2⟩
  ·exact fun h=>h
 ·split
  ·simp only [forceL_eq]
   exact fun ⟨f,b,h1,h2⟩=>⟨f,b,h1,MethGo_mono hK h2⟩
  ·exact fun h=>h
 ·split
  ·split
   ·split
    ·split
     ·exact fun ⟨h1,h2⟩=>⟨h1,hK _ _ _ h2⟩
     ·exact fun h=>h
    ·exact fun h=>h
   ·exact fun h=>h
  ·split
   ·exact withT_mono fun i => by
     split
     ·split
      ·exact fun ⟨h1,h2⟩=>⟨fun e=>hK _ _ _ (h1 e),fun e=>hK _ _ _ (h2 e)⟩
      ·exact fun h=>h
     ·exact fun h=>h
   ·exact fun h=>h
  ·split
   ·exact withT_mono fun i => by
     split
     ·split
      ·exact fun h=>hK _ _ _ h
      ·exact fun h=>h
     ·exact fun h=>h
   ·exact aop_mono hK
  ·exact aop_mono hK
 ·split
  ·exact aLookupW_mono hK
  ·exact aop_mono hK
 ·split
  ·exact aMapUpdateW_mono hK
  ·exact aop_mono hK
 ·exact fun h=>h
 ·exact aop_mono hK
theorem aopC_mono {op : Op} {dr : Bool} : aopC P T G dr ρ σ id op K → aopC P T G dr ρ σ id op K' := by
 cases dr with
 | false=>exact aopK_mono hK (fun _ _ _ h=>h)
 | true =>
  refine aopK_mono (K:=unm K) (K':=unm K') (fun d u r=>?_) hK
  unfold unm
  split
  ·exact fun h=>h
  ·exact hK d u r

end Go.AL

namespace Go.AL
open Go

abbrev Sl:=List (Nat × D)
abbrev So:=List (Nat × AObj)
abbrev stOf (nx n : Nat) (l : Sl) (o : So) : St:=⟨mkρ l,mkσ o,nx,n⟩

noncomputable def pushO (ups : List (Nat × AObj)) : So → (So → Prop) → Prop :=
 List.rec (motive:=fun _=>So → (So → Prop) → Prop) (fun o k=>k o) (fun p _ ih o k=>ih (p :: o) k) ups
def pushed : List (Nat × AObj) → So → So
 | [],o=>o
 | p :: r,o=>pushed r (p :: o)
theorem pushO_eq : ∀ (ups : List (Nat × AObj)) (o : So) (k : So → Prop), pushO ups o k = k (pushed ups o)
 | [],o,k=>rfl
 | p :: r,o,k=>pushO_eq r (p :: o) k
theorem mkσ_cons (k : Nat) (x : AObj) (o : So) : mkσ ((k,x) :: o) = up (mkσ o) k x:=rfl
theorem mkσ_pushed : ∀ (ups : List (Nat × AObj)) (o : So), mkσ (pushed ups o) = updAll (mkσ o) ups
 | [],o=>rfl
 | (k,x) :: r,o=>by rw [pushed,mkσ_pushed r,updAll,mkσ_cons]

def putL (n : Nat) (dst : Option Tmp) (d : D) (l : Sl) (k : Sl → Prop) : Prop :=
 match dst with
 | none=>k l
 | some t=>asrt (Nat.blt t n) (k ((t,d) :: l))

noncomputable def astepL (P : Program) (T : Tab) (G : Glob) (dr : Bool) (n : Nat) (all : List Oper) (nx0 : Nat) (o : Oper) (i : Nat) (l : Sl) (ob : So) (tr : Trace) (next : Sl → So → Trace → Prop) : Prop :=
 let run (l : Sl) : Prop := aopC P T G dr (mkρ l) (mkσ ob) (Nat.add nx0 (Nat.mul 8 i)) o.op fun d ups rds =>
  pushO ups ob fun ob'=>putL n o.dst d l fun l'=>next l' ob' ((i,rds,keysOf ups) :: tr)
 let skip (l : Sl) : Prop:=putL n o.dst (.v undef) l fun l'=>next l' ob tr
 match o.guard with
 | none=>run l
 | some (j, want) => match dstAt all j with
  | none=>False
  | some t => match mkρ l t with
   | .v (.bool b)=>match want with
    | true=>cond b (run ((t,.v (.bool true)) :: l)) (skip ((t,.v (.bool false)) :: l))
    | false=>cond b (skip ((t,.v (.bool true)) :: l)) (run ((t,.v (.bool false)) :: l))
   | .v (.tuple _)=>skip l
   | _=>False

noncomputable def aregL (P : Program) (T : Tab) (G : Glob) (dr : Bool) (n : Nat) (all : List Oper) (nx0 : Nat) (fin : Sl → So → Trace → Prop) : List Oper → Nat → Sl → So → Trace → Prop :=
 fun ops => List.rec (motive := fun _ => Nat → Sl → So → Trace → Prop) (fun _ l ob tr => fin l ob tr)
  (fun o _ ih i l ob tr=>astepL P T G dr n all nx0 o i l ob tr (ih (i + 1))) ops

variable {P : Program} {T : Tab} {G : Glob}

theorem putL_putK {nx n : Nat} {dst : Option Tmp} {d : D} {l : Sl} {ob : So} {k : Sl → Prop} {k' : (Nat → D) → Prop} (h : ∀ l, k l → k' (mkρ l)) (hp : putL n dst d l k) :
  putK (stOf nx n l ob) dst d k':=by
 unfold putL at hp
 unfold putK
 cases dst with
 | none=>exact h _ hp
 | some t=>exact asrt_mono (h _) hp

theorem astepL_astep {dr : Bool} {nx n : Nat} {all : List Oper} {nx0 : Nat} {o : Oper} {i : Nat} {next : Sl → So → Trace → Prop} {next' : St → Trace → Prop}
  (h : ∀ l ob tr,next l ob tr → next' (stOf nx n l ob) tr) {l : Sl} {ob : So} {tr : Trace} (hs : astepL P T G dr n all nx0 o i l ob tr next) :
  astep P T G dr all nx0 o i (stOf nx n l ob) tr next':=by
 have hrun : ∀ l : Sl, (aopC P T G dr (mkρ l) (mkσ ob) (Nat.add nx0 (Nat.mul 8 i)) o.op fun d ups rds => pushO ups ob fun ob' => putL n o.dst d l fun l' => next l' ob' ((i, rds, keysOf ups) :: tr)) →
   aopC P T G dr (mkρ l) (mkσ ob) (Nat.add nx0 (Nat.mul 8 i)) o.op fun d ups rds=>putK (stOf nx n l ob) o.dst d fun ρ=>next' { stOf nx n l ob with ρ:=ρ,σ:=updAll (mkσ ob) ups } ((i,rds,keysOf ups) :: tr):=by
  intro l
  refine aopC_mono fun d ups rds hk=>?_
  rw [pushO_eq] at hk
  refine putL_putK (fun l' hl=>?_) hk
  have:=h _ _ _ hl
  rw [stOf,mkσ_pushed] at this
  exact this
 have hskip : ∀ l : Sl, (putL n o.dst (.v undef) l fun l' => next l' ob tr) → putK (stOf nx n l ob) o.dst (.v undef) fun ρ => next' { stOf nx n l ob with ρ := ρ } tr := by
  intro l hk
  exact putL_putK (fun l' hl=>h _ _ _ hl) hk
 unfold astepL at hs
 unfold astep
 cases hg : o.guard with
 | none=>simp only [hg] at hs ⊢; exact hrun _ hs
 | some jw =>
  obtain ⟨j,want⟩:=jw
  simp only [hg] at hs ⊢
  cases hd : dstAt all j with
  | none=>simp [hd] at hs
  | some t =>
   simp only [hd] at hs ⊢
   split at hs
   ·rename_i b hb
    try simp only [hb]
    cases want <;> cases b <;> simp only [cond] at hs ⊢
    ·exact hrun _ hs
    ·exact hskip _ hs
    ·exact hskip _ hs
    ·exact hrun _ hs
   ·rename_i vs hb
    try simp only [hb]
    exact hskip _ hs
   ·exact hs.elim

theorem aregL_areg {dr : Bool} {nx n : Nat} {all : List Oper} {nx0 : Nat} {fin : Sl → So → Trace → Prop} {fin' : St → Trace → Prop} (h : ∀ l ob tr, fin l ob tr → fin' (stOf nx n l ob) tr) :
  ∀ (ops : List Oper) (i : Nat) (l : Sl) (ob : So) (tr : Trace),aregL P T G dr n all nx0 fin ops i l ob tr → areg P T G dr all nx0 fin' ops i (stOf nx n l ob) tr
 | [],i,l,ob,tr,hs=>h _ _ _ hs
 | o :: r,i,l,ob,tr,hs=>by
  rw [areg_cons]
  change astepL P T G dr n all nx0 o i l ob tr (aregL P T G dr n all nx0 fin r (i + 1)) at hs
  exact astepL_astep (fun l ob tr=>aregL_areg h r (i + 1) l ob tr) hs

structure LWp (P : Program) (G : Glob) (m nx n : Nat) (c : Code) (Q : Exit → Sl → So → Prop) (l : Sl) (o : So) : Prop where
 sem : AWp P G m c (fun e st=>∃ l' o',st = stOf nx n l' o' ∧ Q e l' o') (stOf nx n l o)

def excL (id : Nat) (Q : Exit → Sl → So → Prop) : Exit → Sl → So → Prop :=
 fun e l o => match e with
  | .exit j=>(match Nat.beq j id with|true=>Q .normal l o|false=>Q (.exit j) l o)
  | e=>Q e l o

noncomputable def wpRegL (P : Program) (T : Tab) (G : Glob) (m nx n : Nat) (id : Nat) (ops : List Oper) (draw : Bool) (Q : Sl → So → Prop) (l : Sl) (o : So) : Prop :=
 asrt (Nat.ble (Nat.add m (Nat.add (Nat.mul 512 id) (Nat.mul 8 ops.length))) nx)
  (aregL P T (match draw with|true=>G.drawk (mkρ l) (dstsOf ops)|false=>G) draw n ops (Nat.add m (Nat.mul 512 id)) (fun l o tr=>match draw with|true=>drawEnd ops tr (Q l o)|false=>Q l o) ops 0 l o [])

def firstId : Code → Option Nat
 | .region id _ _=>some id
 | .seq a b=>match firstId a with|some i=>some i|none=>firstId b
 | .cond _ a b=>match firstId a with|some i=>some i|none=>firstId b
 | .block _ c=>firstId c
 | .loop c=>firstId c
 | .scope c=>firstId c
 | _=>none
def stopAt (S : List Nat) (c : Code) : Bool :=
 match S with
 | []=>false
 | _=>match c with
  | .region id _ _=>memN id S
  | .cond c a b=>match firstId (.cond c a b) with|some i=>memN i S|none=>false
  | .block id c=>match firstId c with|some i=>memN i S|none=>false
  | .seq a b=>match firstId (.seq a b) with|some i=>memN i S|none=>false
  | _=>false

noncomputable def wpc (P : Program) (T : Tab) (G : Glob) (m nx n : Nat) (S : List Nat) (c : Code) : (Exit → Sl → So → Prop) → Sl → So → Prop :=
 Code.rec (motive := fun _ => (Exit → Sl → So → Prop) → Sl → So → Prop)
  (fun Q l o=>Q .normal l o)
  (fun id ops draw Q l o=>wpRegL P T G m nx n id ops.toList draw (Q .normal) l o)
  (fun a b iha ihb Q l o=>cond (stopAt S a) (LWp P G m nx n (.seq a b) Q l o) (iha (fun e l o=>match e with|.normal=>ihb Q l o|e=>Q e l o) l o))
  (fun c a b iha ihb Q l o => match ev G (mkρ l) c with
   | .v (.bool x)=>cond x (iha Q l o) (ihb Q l o)
   | .sq .bool=>iha Q l o ∧ ihb Q l o
   | _=>False)
  (fun id c ih Q l o=>ih (excL id Q) l o)
  (fun c _ Q l o=>LWp P G m nx n (.loop c) Q l o)
  (fun f ps a b _ _ Q l o=>LWp P G m nx n (.rangeFunc f ps a b) Q l o)
  (fun id Q l o=>Q (.exit id) l o)
  (fun c ih Q l o=>LWp P G m nx n (.scope c) Q l o)
  (fun l0 Q l o=>Q .normal l o)
  (fun l0 Q l o=>Q (.goto l0) l o)
  (fun Q l o=>Q .ret l o)
  (fun _ _ _ _=>False) c

theorem LWp.mono {m nx n c Q Q' l o} (h : LWp P G m nx n c Q l o) (hq : ∀ e l o, Q e l o → Q' e l o) : LWp P G m nx n c Q' l o :=
 ⟨h.sem.mono fun e st ⟨l',o',e1,q⟩=>⟨l',o',e1,hq _ _ _ q⟩⟩

theorem LWp.seq {m nx n a b Q l o} (h : LWp P G m nx n a (fun e l o => match e with | .normal => LWp P G m nx n b Q l o | e => Q e l o) l o) : LWp P G m nx n (.seq a b) Q l o :=
 ⟨.seq (h.sem.mono fun e st ⟨l', o', e1, q⟩ => by
  subst e1
  cases e with
  | normal=>exact q.sem
  | _=>exact ⟨l',o',rfl,q⟩)⟩

theorem LWp.block {m nx n id c Q l o} (h : LWp P G m nx n c (excL id Q) l o) : LWp P G m nx n (.block id c) Q l o :=
 ⟨.block (h.sem.mono fun e st ⟨l', o', e1, q⟩ => by
  subst e1
  cases e with
  | exit j =>
   simp only [excL] at q
   simp only [excBlock]
   cases hb : Nat.beq j id with
   | true=>rw [hb] at q; exact ⟨l',o',rfl,q⟩
   | false=>rw [hb] at q; exact ⟨l',o',rfl,q⟩
  | _=>exact ⟨l',o',rfl,q⟩)⟩

theorem wpRegL_sound (hT : TOk P T) (hmix : P.follows .mixedOrders = true) {m nx n id : Nat} {ops : Array Oper} {draw : Bool} {Q : Exit → Sl → So → Prop} {l : Sl} {o : So}
  (h : wpRegL P T G m nx n id ops.toList draw (Q .normal) l o) : LWp P G m nx n (.region id ops draw) Q l o:=by
 refine ⟨?_⟩
 have h' : awpRegion P T G m id ops.toList draw ((fun e st => ∃ l' o', st = stOf nx n l' o' ∧ Q e l' o') .normal) (stOf nx n l o) := by
  unfold wpRegL at h
  unfold awpRegion
  refine asrt_mono (fun h=>?_) h
  refine aregL_areg (fun l ob tr hf=>?_) _ _ _ _ _ h
  cases draw with
  | false=>exact ⟨l,ob,rfl,hf⟩
  | true=>exact drawEnd.mono (fun hf=>⟨l,ob,rfl,hf⟩) hf
 cases draw with
 | false=>exact .region_seq hT h'
 | true=>exact .region_draw hT hmix h'

theorem wpc_sound (hT : TOk P T) (hmix : P.follows .mixedOrders = true) {m nx n : Nat} {S : List Nat} : ∀ (c : Code) (Q : Exit → Sl → So → Prop) (l : Sl) (o : So), wpc P T G m nx n S c Q l o → LWp P G m nx n c Q l o
 | .skip,Q,l,o,h=>⟨⟨fun hm E a w R r hr=>wpIn_skip (.inl ⟨E,_,⟨l,o,rfl,h⟩,hm,R,Guar.refl _ _ _ _,WSame.refl _⟩)⟩⟩
 | .region id ops draw,Q,l,o,h=>wpRegL_sound hT hmix h
 | .seq x y, Q, l, o, h => by
  change cond (stopAt S x) (LWp P G m nx n (.seq x y) Q l o) (wpc P T G m nx n S x (fun e l o=>match e with|.normal=>wpc P T G m nx n S y Q l o|e=>Q e l o) l o) at h
  cases hs : stopAt S x with
  | true=>rw [hs] at h; exact h
  | false =>
   rw [hs] at h
   exact .seq ((wpc_sound hT hmix x _ l o h).mono fun e l o hq => by
    cases e with
    | normal=>exact wpc_sound hT hmix y Q l o hq
    | _=>exact hq)
 | .cond c x y, Q, l, o, h => by
  refine ⟨⟨fun hm E a w R r hr=>?_⟩⟩
  have hx:=hr.imp id fun hr=>(Bool.and_eq_true_iff.1 hr).1
  have hy:=hr.imp id fun hr=>(Bool.and_eq_true_iff.1 hr).2
  change (match ev G (mkρ l) c with|.v (.bool b)=>cond b (wpc P T G m nx n S x Q l o) (wpc P T G m nx n S y Q l o)|.sq .bool=>wpc P T G m nx n S x Q l o ∧ wpc P T G m nx n S y Q l o|_=>False) at h
  split at h
  ·rename_i b hb
   have:=R.evl c
   rw [hb] at this
   refine wpIn_cond (t:=b) this.v_inv ?_
   cases b
   ·exact (wpc_sound hT hmix y Q l o h).sem.semR hm E a w R r hy
   ·exact (wpc_sound hT hmix x Q l o h).sem.semR hm E a w R r hx
  ·rename_i hb
   have:=R.evl c
   rw [hb] at this
   obtain ⟨b,hb'⟩:=VR.sq_bool this
   refine wpIn_cond (t:=b) hb' ?_
   cases b
   ·exact (wpc_sound hT hmix y Q l o h.2).sem.semR hm E a w R r hy
   ·exact (wpc_sound hT hmix x Q l o h.1).sem.semR hm E a w R r hx
  ·exact h.elim
 | .block id c,Q,l,o,h=>.block (wpc_sound hT hmix c _ l o h)
 | .loop c,Q,l,o,h=>h
 | .rangeFunc f ps a b,Q,l,o,h=>h
 | .exit id,Q,l,o,h=>⟨⟨fun hm E a w R r hr=>wpIn_exit (.inl ⟨E,_,⟨l,o,rfl,h⟩,hm,R,Guar.refl _ _ _ _,WSame.refl _⟩)⟩⟩
 | .scope c,Q,l,o,h=>h
 | .label l0,Q,l,o,h=>⟨⟨fun hm E a w R r hr=>wpIn_label (.inl ⟨E,_,⟨l,o,rfl,h⟩,hm,R,Guar.refl _ _ _ _,WSame.refl _⟩)⟩⟩
 | .goto l0,Q,l,o,h=>⟨⟨fun hm E a w R r hr=>wpIn_goto (.inl ⟨E,_,⟨l,o,rfl,h⟩,hm,R,Guar.refl _ _ _ _,WSame.refl _⟩)⟩⟩
 | .ret,Q,l,o,h=>⟨⟨fun hm E a w R r hr=>wpIn_ret (.inl ⟨E,_,⟨l,o,rfl,h⟩,hm,R,Guar.refl _ _ _ _,WSame.refl _⟩)⟩⟩
 | .refuse s,Q,l,o,h=>h.elim

def D.isJunk : D → Bool
 | .junk=>true
 | _=>false
def dsts (ops : List Oper) (acc : List Nat) : List Nat :=
 match ops with
 | []=>acc
 | o :: r=>match o.dst with|some t=>t :: dsts r acc|none=>dsts r acc
def writes : Code → List Nat → List Nat
 | .region _ ops _,acc=>dsts ops.toList acc
 | .seq a b,acc=>writes a (writes b acc)
 | .cond _ a b,acc=>writes a (writes b acc)
 | .block _ c,acc=>writes c acc
 | .loop c,acc=>writes c acc
 | .scope c,acc=>writes c acc
 | .rangeFunc _ ps a b,acc=>ps.toList ++ writes a (writes b acc)
 | _,acc=>acc

noncomputable def keepS (W : Nat → Bool) (l : Sl) : List Nat → (Sl → Prop) → Prop :=
 List.rec (motive := fun _ => List Nat → (Sl → Prop) → Prop) (fun _ k => k [])
  (fun p _ ih seen k => match W p.1 with
   | true=>ih seen k
   | false => match memN p.1 seen with
    | true=>ih seen k
    | false=>match p.2.isJunk with
     | true=>ih (p.1 :: seen) k
     | false=>ih (p.1 :: seen) (fun r=>k (p :: r))) l
theorem keepS_ex (W : Nat → Bool) : ∀ (l : Sl) (seen : List Nat) (k : Sl → Prop), keepS W l seen k → ∃ r, k r
 | [],seen,k,h=>⟨[],h⟩
 | p :: l, seen, k, h => by
  unfold keepS at h
  simp only [] at h
  split at h
  ·exact keepS_ex W l seen k h
  ·split at h
   ·exact keepS_ex W l seen k h
   ·split at h
    ·exact keepS_ex W l _ k h
    ·obtain ⟨r, hr⟩ := keepS_ex W l _ _ h
     exact ⟨_,hr⟩
noncomputable def keepO (W : List Nat) (l : So) : List Nat → (So → Prop) → Prop :=
 List.rec (motive := fun _ => List Nat → (So → Prop) → Prop) (fun _ k => k [])
  (fun p _ ih seen k => match memN p.1 W with
   | true=>ih seen k
   | false => match memN p.1 seen with
    | true=>ih seen k
    | false=>match p.2.isDead with
     | true=>ih (p.1 :: seen) k
     | false=>ih (p.1 :: seen) (fun r=>k (p :: r))) l
theorem keepO_ex (W : List Nat) : ∀ (l : So) (seen : List Nat) (k : So → Prop), keepO W l seen k → ∃ r, k r
 | [],seen,k,h=>⟨[],h⟩
 | p :: l, seen, k, h => by
  unfold keepO at h
  simp only [] at h
  split at h
  ·exact keepO_ex W l seen k h
  ·split at h
   ·exact keepO_ex W l seen k h
   ·split at h
    ·exact keepO_ex W l _ k h
    ·obtain ⟨r, hr⟩ := keepO_ex W l _ _ h
     exact ⟨_,hr⟩

def SlotOk (σ σ' : Store) (d0 d : D) : Prop :=
 match d0 with
 | .nil=>(match d with
  | .list (.tok k) xs=>xs = [] ∧ σ k = .dead ∧ ∃ s,σ' k = .tok 0 s
  | .sl k g off n=>(g = 0 ∧ off = 0 ∧ n = 0) ∧ σ k = .dead ∧ ∃ s,σ' k = .arr 0 s []
  | d=>Wk .nil d)
 | .sl k g off n => (match σ' k with
  | .dead=>(match σ k with
   | .arr g' _ xs=>g = g' ∧ off + n ≤ xs.length ∧ n ≤ 140737488355328 ∧ Wk (.list .nat ((xs.drop off).take n)) d
   | _=>False)
  | _=>Wk (.sl k g off n) d)
 | d0=>(match D.ren (keepOf σ') d0 with|some d1=>Wk d1 d|none=>False)
theorem SlotOk.to {σ σ' d0 d} (h : SlotOk σ σ' d0 d) : SlotTo σ σ' d0 d := by
 unfold SlotOk at h
 split at h
 ·split at h
  ·obtain ⟨rfl, h1, s, h2⟩ := h
   exact .inr (.inl ⟨rfl,_,s,.inl ⟨rfl,h1,h2⟩⟩)
  ·obtain ⟨⟨rfl, rfl, rfl⟩, h1, s, h2⟩ := h
   exact .inr (.inl ⟨rfl,_,s,.inr ⟨rfl,h1,h2⟩⟩)
  ·exact .inl ⟨.nil,rfl,h⟩
 ·rename_i k g off n
  split at h
  ·rename_i hk'
   split at h
   ·rename_i g' s xs hk
    obtain ⟨rfl,h1,h2,h3⟩:=h
    exact .inr (.inr ⟨_,_,_,_,_,_,rfl,hk,hk',h1,h2,h3⟩)
   ·exact h.elim
  ·rename_i hk'
   refine .inl ⟨.sl k g off n,?_,h⟩
   have : keepOf σ' k = some k := by
    unfold keepOf
    split
    ·rename_i he; exact absurd he hk'
    ·rfl
   simp [D.ren,this]
 ·split at h
  ·rename_i d1 hd; exact .inl ⟨d1,hd,h⟩
  ·exact h.elim
def okCells (σ σ' : Store) : List D → List D → Prop
 | [],[]=>True
 | a :: r,b :: s=>SlotOk σ σ' a b ∧ okCells σ σ' r s
 | _,_=>False
theorem okCells.to {σ σ'} : ∀ {cs cs' : List D}, okCells σ σ' cs cs' → CellsTo σ σ' cs cs'
 | [],[],_=>.nil
 | _ :: _,_ :: _,⟨h1,h2⟩=>.cons h1.to (okCells.to h2)
 | [],_ :: _,h=>h.elim
 | _ :: _,[],h=>h.elim
def okHoles (σ σ' : Store) : List (Nat × Nat × D) → List (Nat × Nat × D) → Prop
 | [],[]=>True
 | (i,j,a) :: r,(i',j',b) :: s=>(i = i' ∧ j = j' ∧ b.idf = true) ∧ SlotOk σ σ' a b ∧ okHoles σ σ' r s
 | _,_=>False
theorem okHoles.to {σ σ'} : ∀ {r r' : List (Nat × Nat × D)}, okHoles σ σ' r r' → HolesTo σ σ' r r'
 | [],[],_=>.nil
 | (i,j,a) :: r,(i',j',b) :: s,⟨⟨h1,h2,h3⟩,h4,h5⟩=>by subst h1 h2; exact .cons h4.to h3 (okHoles.to h5)
 | (_,_,_) :: _,[],h=>h.elim
 | [],(_,_,_) :: _,h=>h.elim
def ObjOk (nx : Nat) (σ σ' : Store) (k : Nat) (o : AObj) : Prop :=
 match σ k with
 | .dead=>Nat.blt k nx = true ∧ (match o with|.tok n s=>n = 0 ∧ 0 < s|.arr n s xs=>(n = 0 ∧ xs = []) ∧ 0 < s|_=>False)
 | .cells cs=>(match o with|.cells cs'=>okCells σ σ' cs cs'|.bag B=>(match AObj.ren (keepOf σ') (.cells cs) with|some y=>ObWk y (.bag B)|none=>False)|_=>False)
 | .arx g s xs hs=>(match o with
  | .arr g' s' xs'=>∃ hs',(g = g' ∧ s = s') ∧ okHoles σ σ' hs hs' ∧ FillOk s xs hs' xs'
  | _=>(match AObj.ren (keepOf σ') (.arx g s xs hs) with|some y=>ObWk y o|none=>False))
 | x=>(match AObj.ren (keepOf σ') x with|some y=>ObWk y o|none=>False)
theorem ObjOk.to {nx σ σ' k o} (h : ObjOk nx σ σ' k o) : ObjTo nx σ σ' k o := by
 unfold ObjOk at h
 split at h
 ·rename_i hd
  obtain ⟨h1,h2⟩:=h
  split at h2
  ·obtain ⟨rfl, h3⟩ := h2
   exact .inr (.inl ⟨hd,by simpa [Nat.blt_eq] using h1,_,h3,.inl rfl⟩)
  ·obtain ⟨⟨rfl, rfl⟩, h3⟩ := h2
   exact .inr (.inl ⟨hd,by simpa [Nat.blt_eq] using h1,_,h3,.inr rfl⟩)
  ·exact h2.elim
 ·rename_i cs hcs
  split at h
  ·exact .inr (.inr (.inl ⟨_,_,hcs,rfl,h.to⟩))
  ·split at h
   ·rename_i y hy
    exact .inl ⟨y,by rw [hcs]; exact hy,h,fun e=>by have:=(AObj.ren_dead hy).1 e; simp at this⟩
   ·exact h.elim
  ·exact h.elim
 ·rename_i g s xs hs hk
  split at h
  ·obtain ⟨hs', ⟨rfl, rfl⟩, h2, h3⟩ := h
   exact .inr (.inr (.inr ⟨_,_,_,_,_,hs',hk,rfl,h2.to,h3⟩))
  ·split at h
   ·rename_i y hy
    exact .inl ⟨y,by rw [hk]; exact hy,h,fun e=>by have:=(AObj.ren_dead hy).1 e; simp at this⟩
   ·exact h.elim
 ·rename_i hnd _ _
  split at h
  ·rename_i y hy
   exact .inl ⟨y,hy,h,fun e=>hnd ((AObj.ren_dead hy).1 e)⟩
  ·exact h.elim
def okS (ρ : Nat → D) (σ σ' : Store) : Sl → Prop
 | []=>True
 | (t,d) :: r=>SlotOk σ σ' (ρ t) d ∧ okS ρ σ σ' r
def okO (nx : Nat) (σ σ' : Store) : So → Prop
 | []=>True
 | (k,o) :: r=>ObjOk nx σ σ' k o ∧ okO nx σ σ' r
def liveTo : Nat → Store → Store → Prop
 | 0,_,_=>True
 | m + 1,σ,σ'=>(match σ' m with|.dead=>σ m = .dead|_=>True) ∧ liveTo m σ σ'
theorem liveTo_kept : ∀ {m : Nat} {st : St} {σ' : Store}, liveTo m st.σ σ' → keptTo m st σ'
 | 0,st,σ',h,k,hk,_=>by omega
 | m + 1, st, σ', h, k, hk, hl => by
  obtain ⟨h1,h2⟩:=h
  by_cases e : k = m
  ·subst e
   split at h1
   ·exact absurd h1 hl
   ·rename_i hn; exact fun he=>hn he
  ·exact liveTo_kept h2 k (by omega) hl
def okTo (m nx : Nat) (l : Sl) (o : So) (L : Sl) (O : So) : Prop :=
 liveTo m (mkσ o) (mkσ O) ∧ okO nx (mkσ o) (mkσ O) O ∧ okS (mkρ l) (mkσ o) (mkσ O) L
theorem okO_to {nx n : Nat} {l : Sl} {o : So} {σ' : Store} : ∀ {O : So}, okO nx (mkσ o) σ' O → objsTo (stOf nx n l o) σ' O
 | [],_=>trivial
 | (k,x) :: r,⟨h1,h2⟩=>⟨h1.to,okO_to h2⟩
theorem okS_to {nx n : Nat} {l : Sl} {o : So} {σ' : Store} : ∀ {L : Sl}, okS (mkρ l) (mkσ o) σ' L → slotsTo (stOf nx n l o) σ' L
 | [],_=>trivial
 | (k,x) :: r,⟨h1,h2⟩=>⟨h1.to,okS_to h2⟩
theorem okTo.wk {m nx n l o L O} (h : okTo m nx l o L O) : StWk G m (stOf nx n l o) (stOf nx n L O) :=
 To.wk (m:=m) (lv:=L) (lo:=O) ⟨rfl,rfl,liveTo_kept h.1,okO_to h.2.1,okS_to h.2.2⟩

theorem LWp.wk {m nx n c Q l o L O} (h : okTo m nx l o L O) (hw : LWp P G m nx n c Q L O) : LWp P G m nx n c Q l o:=⟨.wk h.wk hw.sem⟩
theorem LWp.mono_wk {m nx n c Q Q' l o} (h : LWp P G m nx n c Q l o) (hq : ∀ e l o, Q e l o → (∃ L O, okTo m nx l o L O ∧ Q' e L O) ∨ Q' e l o) : LWp P G m nx n c Q' l o :=
 ⟨h.sem.mono_wk fun e st ⟨l', o', e1, q⟩ => by
  subst e1
  rcases hq _ _ _ q with ⟨L,O,hk,q'⟩|q'
  ·exact ⟨_,hk.wk,L,O,rfl,q'⟩
  ·exact ⟨_,StWk.refl _ _,l',o',rfl,q'⟩⟩

def LoopK (P : Program) (T : Tab) (G : Glob) (m nx n : Nat) (S : List Nat) (c : Code) (Q : Exit → Sl → So → Prop) {α : Type} (cs : α → Sl) (co : α → So) (I : α → Prop) (μ : α → Nat) (x0 : α) (l : Sl) (o : So) (ks : Sl) (ko : So) : Prop :=
 okTo m nx l o (cs x0 ++ ks) (co x0 ++ ko) ∧
 ∀ x,I x → wpc P T G m nx n S c (fun e l' o'=>match e with
  | .normal=>∃ y,(I y ∧ μ y < μ x) ∧ okTo m nx l' o' (cs y ++ ks) (co y ++ ko)
  | e=>Q e l' o') (cs x ++ ks) (co x ++ ko)

theorem LWp.loop (hT : TOk P T) (hmix : P.follows .mixedOrders = true) {m nx n : Nat} {c : Code} {Q : Exit → Sl → So → Prop} {l : Sl} {o : So} (S : List Nat) {α : Type} (cs : α → Sl) (co : α → So) (I : α → Prop) (μ : α → Nat) (x0 : α)
  (h0 : I x0) (h : keepS (fun t=>memN t (writes c [])) l [] fun ks=>keepO (keysOf (co x0)) o [] fun ko=>LoopK P T G m nx n S c Q cs co I μ x0 l o ks ko) : LWp P G m nx n (.loop c) Q l o:=by
 obtain ⟨ks,h⟩:=keepS_ex _ _ _ _ h
 obtain ⟨ko,h1,h2⟩:=keepO_ex _ _ _ _ h
 refine LWp.wk h1 ⟨AWp.loop (inv:=fun x s=>I x ∧ s = stOf nx n (cs x ++ ks) (co x ++ ko)) μ x0 ⟨h0,rfl⟩ (fun x s hs=>?_)⟩
 obtain ⟨hI,rfl⟩:=hs
 refine (wpc_sound hT hmix c _ _ _ (h2 x hI)).sem.mono_wk (fun e s' hq=>?_)
 obtain ⟨l',o',rfl,q⟩:=hq
 cases e with
 | normal =>
  obtain ⟨y,⟨hy,hlt⟩,hk⟩:=q
  exact ⟨_,hk.wk,y,hlt,hy,rfl⟩
 | _=>exact ⟨_,StWk.refl _ _,l',o',rfl,q⟩

def CutK (P : Program) (T : Tab) (G : Glob) (m nx n : Nat) (S S' : List Nat) (a b : Code) (Q : Exit → Sl → So → Prop) {α : Type} (cs : α → Sl) (co : α → So) (I : α → Prop) (l : Sl) (o : So) (ks : Sl) (ko : So) : Prop :=
 (wpc P T G m nx n S a (fun e l' o' => match e with
  | .normal=>∃ y,I y ∧ okTo m nx l' o' (cs y ++ ks) (co y ++ ko)
  | e=>Q e l' o') l o) ∧ ∀ x,I x → wpc P T G m nx n S' b Q (cs x ++ ks) (co x ++ ko)

theorem LWp.cut (hT : TOk P T) (hmix : P.follows .mixedOrders = true) {m nx n : Nat} {a b : Code} {Q : Exit → Sl → So → Prop} {l : Sl} {o : So} (S S' : List Nat) {α : Type} (cs : α → Sl) (co : α → So) (drop : List Nat) (I : α → Prop)
  (h : keepS (fun t=>memN t (writes a [])) l [] fun ks=>keepO drop o [] fun ko=>CutK P T G m nx n S S' a b Q cs co I l o ks ko) : LWp P G m nx n (.seq a b) Q l o:=by
 obtain ⟨ks,h⟩:=keepS_ex _ _ _ _ h
 obtain ⟨ko,h1,h2⟩:=keepO_ex _ _ _ _ h
 refine .seq ((wpc_sound hT hmix a _ _ _ h1).mono_wk fun e l' o' hq=>?_)
 cases e with
 | normal =>
  obtain ⟨y,hy,hk⟩:=hq
  exact .inl ⟨_,_,hk,wpc_sound hT hmix b _ _ _ (h2 y hy)⟩
 | _=>exact .inr hq

end Go.AL

namespace Go.AL
open Go
variable {P : Program} {T : Tab} {G : Glob}

noncomputable def forceS (l : Sl) : (Sl → Prop) → Prop :=
 List.rec (motive:=fun _=>(Sl → Prop) → Prop) (fun k=>k []) (fun p _ ih k=>match p with|(t,d)=>forceD d fun d=>ih fun r=>k ((t,d) :: r)) l
theorem forceS_eq : ∀ (l : Sl) (k : Sl → Prop), forceS l k = k l
 | [],k=>rfl
 | (t,d) :: r,k=>by
  show forceD d (fun d=>forceS r fun r=>k ((t,d) :: r)) = _
  rw [forceD_eq,forceS_eq r]
def initS : List D → Nat → Sl
 | [],_=>[]
 | d :: r,i=>(i,d) :: initS r (i + 1)
theorem mkρ_initS : ∀ (args : List D) (i t : Nat), mkρ (initS args i) t = if t < i then .junk else args.getD (t - i) .junk
 | [],i,t=>by simp [initS,mkρ]
 | d :: r, i, t => by
  simp only [initS,mkρ]
  cases hb : Nat.beq t i with
  | true =>
   have:=Nat.eq_of_beq_eq_true hb
   subst this
   simp
  | false =>
   have hne : t ≠ i:=fun e=>by subst e; simp at hb
   simp only []
   rw [mkρ_initS r (i + 1) t]
   by_cases h : t < i
   ·rw [if_pos h,if_pos (by omega)]
   ·rw [if_neg h, if_neg (by omega)]
    rw [show t - i = (t - (i + 1)) + 1 by omega]
    simp

def retK (T : Tab) (nx n : Nat) (rs : List ResultVar) (k : So → D → Prop) : Exit → Sl → So → Prop :=
 fun e l o => match e with
  | .normal=>resK T (stOf nx n l o) rs (k o)
  | .ret=>resK T (stOf nx n l o) rs (k o)
  | _=>False

def D.bd : Nat → D → Prop
 | 0,_=>True
 | n + 1,.list _ xs=>xs.length ≤ 140737488355328 ∧ ∀ c ∈ xs,∀ d ∈ c,D.bd n d
 | n + 1,.agg cs=>∀ d ∈ cs,D.bd n d
 | n + 1,.tuple cs=>∀ d ∈ cs,D.bd n d
 | n + 1,.ro cs=>∀ d ∈ cs,D.bd n d
 | n + 1,.iface _ d=>D.bd n d
 | _ + 1,_=>True
theorem VR.bd {E h σ} : ∀ (n : Nat) {d : D} {x : Value}, VR E h σ d x → D.bd n d
 | 0,d,x,_=>trivial
 | n + 1, d, x, hx => by
  have key : ∀ cs : List D, (∀ i (a : i < cs.length), ∃ y, VR E h σ cs[i] y) → ∀ d ∈ cs, D.bd n d := by
   intro cs hcs d hd
   obtain ⟨i,hi,rfl⟩:=List.getElem_of_mem hd
   obtain ⟨y,hy⟩:=hcs i hi
   exact hy.bd n
  cases hx with
  | list t xs A c s u hc hb hs hn ha hv hf ht =>
   refine ⟨hb,fun c hc=>?_⟩
   obtain ⟨i,hi,rfl⟩:=List.getElem_of_mem hc
   exact key _ (fun j hj=>⟨_,hv i j hi hj⟩)
  | agg cs us l a=>exact key _ (fun i hi=>⟨_,a i hi (by omega)⟩)
  | tuple cs us l a=>exact key _ (fun i hi=>⟨_,a i hi (by omega)⟩)
  | ro cs b o u hr hv hf=>exact key _ (fun i hi=>⟨_,hv i hi⟩)
  | iface t d x hx=>exact hx.bd n
  | _=>trivial
def bds (args : List D) : Prop:=∀ d ∈ args,D.bd 4 d
theorem FCall.bound {f : FuncId} {args : List D} {pre : List AObj} {d : D} {post : List AObj} (hf : IsFn P f) (h : bds args → FCall P G f args pre d post) : FCall P G f args pre d post := by
 refine ⟨hf,fun E w vs C hv=>?_⟩
 refine (h fun d hd=>?_).run E w vs C hv
 obtain ⟨i,hi,rfl⟩:=List.getElem_of_mem hd
 exact (hv.2 i hi (by have:=hv.1; omega)).bd 4

theorem FCall.congr {G' : Glob} {f : FuncId} {args : List D} {pre : List AObj} {d : D} {post : List AObj} (hg : G'.g = G.g) (h : FCall P G' f args pre d post) : FCall P G f args pre d post :=
 ⟨h.fn,fun E w vs C hv=>Calls.mono (h.run E w vs (C.congr hg) hv) fun e w' ⟨E',v,h1,h2,h3,h4,h5⟩=>⟨E',v,h1,h2,h3.congr hg.symm,h4,h5⟩⟩

theorem FCall.enterL (hT : TOk P T) (hmix : P.follows .mixedOrders = true) {f : FuncId} {fn : Func} {c : Code} {args : List D} {d : D} (S : List Nat)
  (hf : P.funcs[f]? = some fn) (hn : (fn.name == "runtime.NumGoroutine") = false) (hb : fn.body = some c) (ha : Nat.ble args.length fn.ntmps = true)
  (h : bds args → forceS (initS args 0) fun l=>wpc P T G 0 1048576 fn.ntmps S c (retK T 1048576 fn.ntmps fn.results.toList fun _=>FinP d) l [])
  (hdf : G.df = []:=by rfl) (hpk : ∀ q ρ σ,¬ G.pk q ρ σ:=by exact fun _ _ _ h=>h) (hmk : G.mks = none:=by rfl) : FCall P G f args [] d []:=by
 refine FCall.bound ⟨fn,hf,hn,by simp [hb]⟩ fun hbd=>?_
 replace h:=h hbd
 rw [forceS_eq] at h
 refine FCall.enter' hT hf hn hb (Nat.le_of_ble_eq_true ha) ?_ hdf hpk hmk
 have e : (⟨fun t => args.getD t .junk, sto [], ([] : List AObj).length + 1048576, fn.ntmps⟩ : St) = stOf 1048576 fn.ntmps (initS args 0) [] := by
  have e1 : mkρ (initS args 0) = fun t=>args.getD t .junk:=by funext t; rw [mkρ_initS]; simp
  have e2 : sto [] = mkσ []:=by funext k; rfl
  rw [stOf,e1,e2]; simp
 rw [e]
 refine AWp.mono (wpc_sound hT hmix c _ _ _ h).sem (fun e st ⟨l',o',e1,hq⟩=>?_)
 subst e1
 cases e with
 | normal=>exact resK_mono (fun _=>Fin.pure) hq
 | ret=>exact resK_mono (fun _=>Fin.pure) hq
 | _=>exact hq

theorem bds_list {args : List D} {α : Type} {f : α → List D} {l : List α} {t : Tg} (h : bds args) (hm : D.list t (l.map f) ∈ args) : l.length ≤ 140737488355328 := by
 have:=(h _ hm).1
 simpa using this
end Go.AL

namespace Go.AL
open Go
variable {P : Program} {T : Tab} {G : Glob}

abbrev Str:=List UInt8
abbrev sB (s : Str) : ByteArray:=⟨⟨s⟩⟩
abbrev sD (s : Str) : D:=.v (.string (sB s))
abbrev eS (x : Str) : List D:=[sD x]
abbrev LSn (l : List Str) : D:=.list .nat (l.map eS)
abbrev LBn (l : List UInt8) : D:=.list .nat (l.map byteD)
abbrev LS (l : List Str) : D:=.list .any (l.map eS)
abbrev LB (l : List UInt8) : D:=.list .any (l.map byteD)

theorem exI {α : Type} {l : List α} {k : Nat} (h : k < l.length) : ∃ x,l[k]? = some x:=⟨l[k],by simp [h]⟩

structure ArgTo (r : Nat → Option Nat) (d d' : D) : Prop where
 ex : ∃ d1,D.ren r d = some d1 ∧ Wk d1 d'
theorem ArgTo.mk' {r : Nat → Option Nat} {d d1 d' : D} (h : D.ren r d = some d1) (hw : Wk d1 d') : ArgTo r d d':=⟨d1,h,hw⟩
inductive ArgsTo (r : Nat → Option Nat) : List D → List D → Prop where
 | nil : ArgsTo r [] []
 | cons {d d' : D} {ds ds' : List D} (h : ArgTo r d d') (hs : ArgsTo r ds ds') : ArgsTo r (d :: ds) (d' :: ds')
theorem ArgsTo.sem {r E1 h1 σ1 E2 h2 σ2} (M : CMap r E1 h1 σ1 E2 h2 σ2) {ds ds' : List D} (A : ArgsTo r ds ds') : ∀ {vs : List Value}, VRs E1 h1 σ1 ds vs → VRs E2 h2 σ2 ds' vs := by
 induction A with
 | nil=>intro vs hv; obtain rfl:=VRs_nil.1 hv; exact VRs_nil.2 rfl
 | cons h hs ih =>
  intro vs hv
  obtain ⟨x,r',rfl,a1,a2⟩:=VRs_cons_inv hv
  obtain ⟨d1,e,hw⟩:=h.ex
  exact VRs_cons.2 ⟨hw.sem _ _ _ _ (a1.map' M e),ih a2⟩

theorem CallOk.of2 {f : FuncId} {args args' : List D} {pre post : List AObj} {d d' : D} {σ : Store} {id : Nat} {q : Nat → Nat} {qi : Nat → Option Nat} {ups : List (Nat × AObj)} {rds : List Nat}
  (h : FCall P G f args' pre d post)
  (L : ∀ σ0 : Store,(∀ k,k ∈ rds ∨ k ∈ keysOf ups → σ0 k = σ k) → Link q qi pre.length post.length σ0 pre post (updAll σ0 ups))
  (hr : ArgsTo (fun k=>(qi k).bind fun i=>if i < pre.length then some i else none) args args')
  (hd : D.ren (fun i=>if i < post.length then some (q i) else none) d = some d')
  (hq : ∀ i,i < post.length → σ (q i) ≠ .dead ∧ q i ∈ rds ∨ q i < id + 8) : CallOk P G f args σ id d' ups rds:=by
 refine ⟨fun E w st a vs R hv hk h0=>.inl ⟨run_callFunc h.fn _ _,?_⟩⟩
 have L1:=L st.σ hk
 have hv1:=hr.sem (L1.pull.cmap (E:=E) (h:=w.heap)) hv
 refine Calls.mono (h.run (E.pull _ q) w vs (L1.pull.core R.core |> fun C=>by simpa using C) hv1) fun e w' he=>?_
 obtain ⟨Ec,v,rfl,hvd,Cc,g,s⟩:=he
 have hqn : ∀ i, i < post.length → q i < st.nx := by
  intro i hi
  rcases hq i hi with ⟨h1,h2⟩|h1
  ·rcases Nat.lt_or_ge (q i) st.nx with hx | hx
   ·exact hx
   ·have := R.core.dead _ hx
    rw [hk _ (.inl h2)] at this
    exact absurd this h1
  ·omega
 obtain ⟨C',g',M,Mq⟩:=L1.step R.core hqn Cc g
 exact ⟨_,v,rfl,hvd.map' Mq hd,⟨C',R.n,fun t=>(R.slots t).keep M,R.defers.keep g'⟩,g',s⟩

theorem CallLeaf.w {ρ : Nat → D} {G' : Glob} {f : FuncId} {args args' : List D} {d : D} {σ : Store} {id : Nat} {K Kv : KD} (hr : ArgsTo (fun _ => none) args args') (h : FCall P G' f args' [] d [])
  (hd : D.ren (fun _=>none) d = some d) (hk : K d [] []) (hg : G'.g = G.g:=by rfl) : CallLeaf P G ρ f args σ id K Kv:=by
 replace h:=h.congr hg
 refine .inl ⟨d,[],[],?_,hk⟩
 refine CallOk.of2 (q:=fun i=>i) (qi:=fun _=>none) h (fun σ0 hk=>⟨fun k i e=>by simp at e,fun i hi=>by simp at hi,Nat.le_refl _,rfl,rfl,fun i hi=>by simp at hi,fun i hi=>by simp at hi,fun k _=>rfl,fun i _ hi=>by simp at hi⟩) ?_ ?_ (fun i hi=>by simp at hi)
 ·simpa using hr
 ·simpa using hd

theorem Wk.nilm {α : Type} {f : α → List D} : Wk .nil (.list .any (List.map f [])):=Wk.nil' rfl
theorem Wk.bool {a b : Bool} (h : a = b) : Wk (vB a) (vB b):=Wk.of_eq (by rw [h])
theorem Wk.int {a b : Int} (h : a = b) : Wk (vI a) (vI b):=Wk.of_eq (by rw [h])

theorem appL {α : Type} {f : α → List D} {xs ys zs : List α} {n s s0 b : Nat} (hn : (xs.map f).length = n) (hs : s = s0) (hf : ∀ a, (f a).length = s0) (e : xs ++ ys = zs)
  (hb : zs.length * b ≤ 140737488355328) :
  ((xs.map f).length = n ∧ s = s0 ∧ xs.map f ++ ys.map f = zs.map f ∧ (∀ c ∈ ys.map f,c.length = s0) ∧ (zs.map f).length * b ≤ 140737488355328):=by
 subst e
 refine ⟨hn,hs,by simp,fun c hc=>?_,by simpa using hb⟩
 obtain ⟨a,_,rfl⟩:=List.mem_map.1 hc
 exact hf a
theorem appN {α : Type} {f : α → List D} {ys : List α} {s0 b : Nat} (hf : ∀ a, (f a).length = s0) (hb : ys.length * b ≤ 140737488355328) :
  (ys.map f = ys.map f ∧ (∀ c ∈ ys.map f,c.length = s0) ∧ (ys.map f).length * b ≤ 140737488355328):=by
 refine ⟨rfl,fun c hc=>?_,by simpa using hb⟩
 obtain ⟨a,_,rfl⟩:=List.mem_map.1 hc
 exact hf a
theorem slL {α : Type} {f : α → List D} {l r : List α} {lo hi : Int} {s : Nat} (h0 : 0 ≤ lo) (h1 : lo ≤ hi) (h2 : hi ≤ ((l.map f).length : Nat)) (hf : ∀ a, (f a).length = s) (e : (l.take hi.toNat).drop lo.toNat = r) :
  (0 ≤ lo ∧ lo ≤ hi ∧ hi ≤ ((l.map f).length : Nat) ∧ (∀ c ∈ l.map f,c.length = s) ∧ ((l.map f).take hi.toNat).drop lo.toNat = r.map f):=by
 subst e
 refine ⟨h0,h1,h2,fun c hc=>?_,by simp⟩
 obtain ⟨a,_,rfl⟩:=List.mem_map.1 hc
 exact hf a
theorem wrap64 {a : Int} (h : -9223372036854775808 ≤ a ∧ a ≤ 9223372036854775807) : IntKind.i64.wrap a = a:=IntWalk.i64_in _ h
theorem rem64 {a b c : Int} (h : a.tmod b = c) (hb : b ≠ 0) : intBin .rem .i64 a b = some c:=by subst h; simp [intBin,hb]
theorem ObWk.of_eq {x y : AObj} (h : x = y) : ObWk x y:=h ▸ .refl x
end Go.AL

namespace Go.AL
open Go
variable {P : Program} {T : Tab} {G : Glob}

def initO : List AObj → Nat → So
 | [],_=>[]
 | d :: r,i=>(i,d) :: initO r (i + 1)
theorem mkσ_initO : ∀ (args : List AObj) (i t : Nat), mkσ (initO args i) t = if t < i then .dead else args.getD (t - i) .dead
 | [],i,t=>by simp [initO,mkσ]
 | d :: r, i, t => by
  simp only [initO,mkσ]
  cases hb : Nat.beq t i with
  | true =>
   have:=Nat.eq_of_beq_eq_true hb
   subst this
   simp
  | false =>
   have hne : t ≠ i:=fun e=>by subst e; simp at hb
   simp only []
   rw [mkσ_initO r (i + 1) t]
   by_cases h : t < i
   ·rw [if_pos h,if_pos (by omega)]
   ·rw [if_neg h, if_neg (by omega)]
    rw [show t - i = (t - (i + 1)) + 1 by omega]
    simp

def idx : List Nat → Nat → Option Nat
 | [],_=>none
 | x :: r,k=>match Nat.beq k x with|true=>some 0|false=>match idx r k with|some j=>some (j + 1)|none=>none
theorem idx_some : ∀ {l : List Nat} {k j : Nat}, idx l k = some j → l[j]? = some k
 | [],k,j,h=>by simp [idx] at h
 | x :: r, k, j, h => by
  simp only [idx] at h
  split at h
  ·rename_i hb
   simp at h; subst h
   have:=Nat.eq_of_beq_eq_true hb
   simp [this]
  ·split at h
   ·rename_i j' hj
    simp at h; subst h
    simpa using idx_some hj
   ·simp at h
def nodupN : List Nat → Bool
 | []=>true
 | x :: r=>match memN x r with|true=>false|false=>nodupN r
theorem idx_get : ∀ {l : List Nat} {j k : Nat}, nodupN l = true → l[j]? = some k → idx l k = some j
 | [],j,k,_,h=>by simp at h
 | x :: r,0,k,_,h=>by simp at h; subst h; simp [idx]
 | x :: r, j + 1, k, hn, h => by
  simp only [nodupN] at hn
  split at hn
  ·simp at hn
  ·rename_i hm
   have ih:=idx_get hn (by simpa using h : r[j]? = some k)
   have hk : k ∈ r:=List.mem_of_getElem? (by simpa using h : r[j]? = some k)
   have hne : k ≠ x:=fun e=>by subst e; rw [memN_iff.2 hk] at hm; simp at hm
   have hb : Nat.beq k x = false := by
    cases hq : Nat.beq k x with
    | false=>rfl
    | true=>exact absurd (Nat.eq_of_beq_eq_true hq) hne
   simp [idx,hb,ih]

def rangeOk : List Nat → Nat → Nat → Bool
 | _,_,0=>true
 | [],_,_ + 1=>false
 | x :: r,i,m + 1=>match Nat.beq x i with|true=>rangeOk r (i + 1) m|false=>false
theorem rangeOk_get : ∀ {l : List Nat} {i m j : Nat}, rangeOk l i m = true → j < m → l[j]? = some (i + j)
 | _,_,0,j,_,h=>by omega
 | [],_,m + 1,j,h,_=>by simp [rangeOk] at h
 | x :: r, i, m + 1, j, h, hj => by
  simp only [rangeOk] at h
  split at h
  ·rename_i hb
   have:=Nat.eq_of_beq_eq_true hb
   subst this
   cases j with
   | zero=>simp
   | succ j=>have:=rangeOk_get h (show j < m by omega); simp [this]; omega
  ·simp at h

def srcOk (m : Nat) (srcs : List Nat) (n : Nat) : Bool:=Nat.beq srcs.length n && Nat.ble m n && rangeOk srcs 0 m && nodupN srcs

def pullOk (σ : Store) (r : Nat → Option Nat) : List Nat → List AObj → Prop
 | s :: ss,p :: ps=>(match AObj.ren r (σ s) with|some y=>ObWk y p|none=>False) ∧ pullOk σ r ss ps
 | _,_=>True
theorem pullOk_get {σ : Store} {r : Nat → Option Nat} : ∀ {ss : List Nat} {ps : List AObj}, pullOk σ r ss ps → ∀ (j s : Nat) p, ss[j]? = some s → ps[j]? = some p →
  ∃ y,AObj.ren r (σ s) = some y ∧ ObWk y p
 | [],ps,h,j,s,p,h1,h2=>by simp at h1
 | _ :: _,[],h,j,s,p,h1,h2=>by simp at h2
 | s0 :: ss,p0 :: ps,⟨h1,h2⟩,0,s,p,e1,e2=>by
  simp at e1 e2; subst e1; subst e2
  split at h1
  ·rename_i y hy; exact ⟨y,hy,h1⟩
  ·exact h1.elim
 | s0 :: ss,p0 :: ps,⟨h1,h2⟩,j + 1,s,p,e1,e2=>pullOk_get h2 j s p (by simpa using e1) (by simpa using e2)

def FinS (m : Nat) (post : List AObj) (d : D) (σ : Store) (d0 : D) : Prop :=
 ∃ srcs,srcOk m srcs post.length = true ∧ pullOk σ (idx srcs) srcs post ∧ (match D.ren (idx srcs) d0 with|some d1=>Wk d1 d|none=>False)
def FinO (m : Nat) (post : List AObj) (d : D) (o : So) (d0 : D) : Prop:=FinS m post d (mkσ o) d0

theorem ObWk.cmap {E : Env} {h : Heap} {σ σ' : Store} (w : ∀ k, ObWk (σ k) (σ' k)) : CMap some E h σ E h σ' := by
 refine ⟨fun b o hf=>⟨rfl,rfl⟩,fun b o q h=>h,fun k k' hl e=>?_⟩
 simp at e; subst e
 have t:=ObWk.tl (σ:=σ) (σ':=σ') (k:=k) rfl (w k)
 exact ⟨(w k).dead hl,rfl,fun m' hm'=>⟨m',by rw [← t.1]; exact hm',Nat.le_refl _,fun _=>rfl⟩,fun s' hs'=>by rw [← t.2]; exact hs'⟩
theorem ObWk.undead {x y : AObj} (w : ObWk x y) (h : x = .dead) : y = .dead:=by cases w <;> simp_all
theorem OR.wkσ {E h σ σ' k x} (w : ∀ k, ObWk (σ k) (σ' k)) (H : OR E h σ k x) : OR E h σ' k x :=
 H.frame (ObWk.cmap w) rfl rfl (fun b o _ ho=>⟨ho,rfl⟩) (fun b _ _=>rfl) (fun b c e f hb=>⟨c,f,hb,rfl,.refl _ _⟩) (Nat.le_refl _)
theorem Core.wkσ {E h σ σ' nx} (w : ∀ k, ObWk (σ k) (σ' k)) (C : Core G E h σ nx) : Core G E h σ' nx where
 objs k:=(w k).or ((C.objs k).wkσ w)
 bnd:=C.bnd
 sc:=C.sc
 nf:=C.nf
 dead k hk:=(w k).undead (C.dead k hk)
 glob g:=(C.glob g).map' (ObWk.cmap w) (Shp.refl _)
theorem Guar.wkσ {m E h σ E' h' σ1 σ2} (w : ∀ k, ObWk (σ1 k) (σ2 k)) (g : Guar m E h σ E' h' σ1) : Guar m E h σ E' h' σ2 :=
 ⟨g.sz, g.fz, g.sc, g.sc', g.ext, g.shp, g.blk, fun k hk hl => by
   obtain ⟨a1,a2,a3,a4⟩:=g.ids k hk hl
   have t:=ObWk.tl (σ:=σ1) (σ':=σ2) (k:=k) rfl (w k)
   exact ⟨(w k).dead a1,a2,fun m' hm'=>a3 m' (by rw [← t.1]; exact hm'),fun s' hs'=>a4 s' (by rw [← t.2]; exact hs')⟩⟩

theorem FinS.out {m nx : Nat} {post : List AObj} {d d0 : D} {σ σ0 : Store} {E0 E' : Env} {h0 h' : Heap} {v : Value} (H : FinS m post d σ d0) (C : Core G E' h' σ nx) (hv' : VR E' h' σ d0 v)
  (g : Guar m E0 h0 σ0 E' h' σ) : ∃ E2,VR E2 h' (sto post) d v ∧ Core G E2 h' (sto post) post.length ∧ Guar m E0 h0 σ0 E2 h' (sto post):=by
 obtain ⟨srcs,hs,hp,hd⟩:=H
 split at hd
 case h_2=>exact hd.elim
 rename_i d1 hd1
 simp only [srcOk,Bool.and_eq_true] at hs
 obtain ⟨⟨⟨s1,s2⟩,s3⟩,s4⟩:=hs
 have s1:=Nat.eq_of_beq_eq_true s1
 have s2:=Nat.le_of_ble_eq_true s2
 have hget : ∀ j (hj : j < post.length), ∃ s p, srcs[j]? = some s ∧ post[j]? = some p ∧ ∃ y, AObj.ren (idx srcs) (σ s) = some y ∧ ObWk y p := by
  intro j hj
  have h1 : srcs[j]? = some (srcs[j]'(by omega)):=by simp
  have h2 : post[j]? = some post[j]:=by simp
  exact ⟨_,_,h1,h2,pullOk_get hp j _ _ h1 h2⟩
 let ys : Store:=fun j=>if j < post.length then (AObj.ren (idx srcs) (σ (srcs.getD j 0))).getD .dead else .dead
 have hsrc : ∀ j s,srcs[j]? = some s → srcs.getD j 0 = s:=fun j s h=>by simp [List.getD,h]
 have pull : Pull (idx srcs) (fun j => srcs.getD j 0) post.length (σ) ys := by
  refine ⟨fun k j h=>?_,fun j hj=>?_,fun j hj=>?_,fun j hj=>?_⟩
  ·have h1 := idx_some h
   refine ⟨hsrc j k h1,?_⟩
   rcases Nat.lt_or_ge j srcs.length with h2|h2
   ·omega
   ·rw [List.getElem?_eq_none h2] at h1; simp at h1
  ·obtain ⟨s, p, h1, h2, _⟩ := hget j hj
   show idx srcs (srcs.getD j 0) = some j
   rw [hsrc j s h1]; exact idx_get s4 h1
  ·obtain ⟨s, p, h1, h2, y, h3, h4⟩ := hget j hj
   show AObj.ren _ (σ (srcs.getD j 0)) = some (ys j)
   simp only [ys,hj,if_true,hsrc j s h1,h3,Option.getD_some]
  ·show ys j = .dead
   simp only [ys,show ¬ j < post.length by omega,if_false]
 have w : ∀ k, ObWk (ys k) (sto post k) := by
  intro k
  by_cases hk : k < post.length
  ·obtain ⟨s, p, h1, h2, y, h3, h4⟩ := hget k hk
   have e3 : ys k = y:=by simp only [ys,hk,if_true,hsrc k s h1,h3,Option.getD_some]
   have e4 : sto post k = p:=by simp [sto,List.getD,h2]
   rw [e3,e4]; exact h4
  ·have e3 : ys k = .dead := by simp only [ys, hk, if_false]
   have e4 : sto post k = .dead:=by simp [sto,List.getD,List.getElem?_eq_none (Nat.le_of_not_lt hk)]
   rw [e3,e4]; exact .refl _
 have g2 := g.trans (pull.guar (E := E') (h := h') (m := m) s2 (fun j hj => by
  have:=rangeOk_get s3 hj
  simp only [Nat.zero_add] at this
  exact hsrc j j this))
 exact ⟨E'.pull (idx srcs) (fun j=>srcs.getD j 0),hd.sem _ _ _ _ ((hv'.map' pull.cmap hd1).keep (ObWk.cmap w)),(pull.core C).wkσ w,g2.wkσ w⟩

theorem FCall.enterO (hT : TOk P T) (hmix : P.follows .mixedOrders = true) {f : FuncId} {fn : Func} {c : Code} {args : List D} {pre : List AObj} {d : D} {post : List AObj} (S : List Nat)
  (hf : P.funcs[f]? = some fn) (hn : (fn.name == "runtime.NumGoroutine") = false) (hb : fn.body = some c) (ha : Nat.ble args.length fn.ntmps = true)
  (h : bds args → forceS (initS args 0) fun l=>wpc P T G pre.length (pre.length + 1048576) fn.ntmps S c (retK T (pre.length + 1048576) fn.ntmps fn.results.toList (FinO pre.length post d)) l (initO pre 0))
  (hdf : G.df = []:=by rfl) (hpk : ∀ q ρ σ,¬ G.pk q ρ σ:=by exact fun _ _ _ h=>h) (hmk : G.mks = none:=by rfl) : FCall P G f args pre d post:=by
 refine FCall.bound ⟨fn,hf,hn,by simp [hb]⟩ fun hbd=>?_
 replace h:=h hbd
 rw [forceS_eq] at h
 refine ⟨⟨fn,hf,hn,by simp [hb]⟩,fun E w vs C hv=>calls_of_wp hf hb ?_⟩
 have hvl : vs.length = args.length:=hv.1
 have ha':=Nat.le_of_ble_eq_true ha
 have e1 : mkρ (initS args 0) = fun t=>args.getD t .junk:=by funext t; rw [mkρ_initS]; simp
 have e2 : mkσ (initO pre 0) = sto pre:=by funext t; rw [mkσ_initO]; simp [sto]
 have R : Rel G E w (stOf (pre.length + 1048576) fn.ntmps (initS args 0) (initO pre 0))
   { tmps:=vs.toArray ++ Array.replicate (fn.ntmps - vs.toArray.size) undef,defers:=[] }:=by
  rw [stOf,e1,e2]
  refine ⟨⟨C.objs,C.bnd,C.sc,C.nf,fun k hk=>C.dead k (by simp at hk; omega),C.glob⟩,by simp; omega,fun t=>?_,Dfs.of_eq hmk hdf.symm⟩
  show VR E w.heap (sto pre) (args.getD t .junk) _
  by_cases ht : t < args.length
  ·have := hv.2 t ht (by omega)
   have e1 : args.getD t .junk = args[t]:=by simp [List.getD,ht]
   have e2 : (vs.toArray ++ Array.replicate (fn.ntmps - vs.toArray.size) undef).getD t undef = vs[t]'(by omega) := by
    simp [Array.getElem?_append,show t < vs.length by omega]
   rw [e1,e2]; exact this
  ·have e1 : args.getD t .junk = .junk := by simp [List.getD, List.getElem?_eq_none (Nat.le_of_not_lt ht)]
   rw [e1]; exact .junk _
 refine wp_mono ((wpc_sound hT hmix c _ _ _ h).sem.sem (by simp) E _ w R) fun e a' w' hp=>?_
 rcases hp with ⟨E',st',⟨l',o',rfl,q⟩,hm,R',g,s⟩|⟨q,_,_,st',_,hq,_⟩
 case inr=>exact absurd hq (hpk _ _ _)
 rw [stOf,e2] at g
 have fin : resK T (stOf (pre.length + 1048576) fn.ntmps l' o') fn.results.toList (FinO pre.length post d o') → a'.defers = [] ∧ ∃ v, (results fn a'.tmps).run P w' = .ok v w' ∧
   ∃ E' v_1,Ending.returned v = .returned v_1 ∧ VR E' w'.heap (sto post) d v_1 ∧ Core G E' w'.heap (sto post) post.length ∧
   Guar pre.length E w.heap (sto pre) E' w'.heap (sto post) ∧ WSame w w':=by
  intro hq
  unfold resK at hq
  split at hq
  case h_2=>exact hq.elim
  rename_i ds hds
  rw [forceL_eq] at hq
  obtain ⟨srcs,hs,hp,hd⟩:=hq
  obtain ⟨v,hr,hv'⟩:=results_sound hT R' hds
  obtain ⟨E2,o1,o2,o3⟩:=FinS.out ⟨srcs,hs,hp,hd⟩ R'.core hv' g
  exact ⟨(R'.defers.eq hmk).trans hdf,v,hr,E2,v,rfl,o1,o2,o3,s⟩
 cases e with
 | normal=>exact fin q
 | ret=>exact fin q
 | _=>exact q.elim

def idxN (n : Nat) (qs : List Nat) (k : Nat) : Option Nat:=match idx qs k with|some j=>(match Nat.blt j n with|true=>some j|false=>none)|none=>none
def atN (qs : List Nat) (j : Nat) : Option Nat:=qs[j]?

def preOk (σ : Store) (r : Nat → Option Nat) : List Nat → List AObj → Prop
 | s :: ss,p :: ps=>AObj.ren r (σ s) = some p ∧ preOk σ r ss ps
 | _,[]=>True
 | [],_ :: _=>False
theorem preOk_get {σ : Store} {r : Nat → Option Nat} : ∀ {ss : List Nat} {ps : List AObj}, preOk σ r ss ps → ∀ (j : Nat) p, ps[j]? = some p → ∃ s, ss[j]? = some s ∧ AObj.ren r (σ s) = some p
 | _,[],h,j,p,h2=>by simp at h2
 | [],_ :: _,h,j,p,h2=>h.elim
 | s0 :: ss,p0 :: ps,⟨h1,h2⟩,0,p,e2=>by simp at e2; subst e2; exact ⟨s0,rfl,h1⟩
 | s0 :: ss,p0 :: ps,⟨h1,h2⟩,j + 1,p,e2=>by
  obtain ⟨s,h3,h4⟩:=preOk_get h2 j p (by simpa using e2)
  exact ⟨s,by simpa using h3,h4⟩

noncomputable def upsOf (r : Nat → Option Nat) : List Nat → List AObj → Option (List (Nat × AObj))
 | s :: ss,p :: ps=>match AObj.ren r p with
  | some y=>(match upsOf r ss ps with|some u=>some ((s,y) :: u)|none=>none)
  | none=>none
 | [],[]=>some []
 | _,_=>none
theorem upsOf_spec {r : Nat → Option Nat} : ∀ {ss : List Nat} {ps : List AObj} {u : List (Nat × AObj)}, upsOf r ss ps = some u → keysOf u = ss ∧ ss.length = ps.length ∧
  ∀ (j : Nat) s p,ss[j]? = some s → ps[j]? = some p → ∃ y,AObj.ren r p = some y ∧ u[j]? = some (s,y)
 | [],[],u,h=>by simp [upsOf] at h; subst h; exact ⟨rfl,rfl,fun j s p h=>by simp at h⟩
 | s0 :: ss, p0 :: ps, u, h => by
  simp only [upsOf] at h
  split at h
  ·rename_i y hy
   split at h
   ·rename_i u' hu
    simp at h; subst h
    obtain ⟨h1,h2,h3⟩:=upsOf_spec hu
    refine ⟨by simp [keysOf] at h1 ⊢; exact h1,by simp [h2],fun j s p e1 e2=>?_⟩
    cases j with
    | zero=>simp at e1 e2; subst e1; subst e2; exact ⟨y,hy,rfl⟩
    | succ j=>simpa using h3 j s p (by simpa using e1) (by simpa using e2)
   ·simp at h
  ·simp at h
 | [],_ :: _,u,h=>by simp [upsOf] at h
 | _ :: _,[],u,h=>by simp [upsOf] at h

theorem updAll_get {l : List (Nat × AObj)} (hn : nodupN (keysOf l) = true) : ∀ {σ : Store} {j k : Nat} {x : AObj}, l[j]? = some (k, x) → updAll σ l k = x := by
 induction l with
 | nil=>intro σ j k x h; simp at h
 | cons a r ih =>
  intro σ j k x h
  obtain ⟨k0,x0⟩:=a
  change (match memN k0 (keysOf r) with|true=>false|false=>nodupN (keysOf r)) = true at hn
  split at hn
  ·simp at hn
  ·rename_i hm
   cases j with
   | zero =>
    simp at h
    obtain ⟨rfl,rfl⟩:=h
    rw [updAll,updAll_not_mem _ _ _ (fun hk=>by rw [memN_iff.2 hk] at hm; simp at hm),up_self]
   | succ j=>exact ih hn (by simpa using h)

def newOk (σ : Store) (id : Nat) : List Nat → Nat → Prop
 | [],_=>True
 | s :: ss,i=>s = id + i ∧ Nat.blt i 8 = true ∧ σ s = .dead ∧ newOk σ id ss (i + 1)
theorem newOk_get {σ : Store} {id : Nat} : ∀ {ss : List Nat} {i : Nat}, newOk σ id ss i → ∀ s ∈ ss, s < id + 8 ∧ σ s = .dead
 | [],i,h,s,hs=>by simp at hs
 | s0 :: ss, i, ⟨h1, h2, h3, h4⟩, s, hs => by
  rcases List.mem_cons.1 hs with e|e
  ·subst e
   have : i < 8:=by simpa [Nat.blt_eq] using h2
   exact ⟨by omega,h3⟩
  ·exact newOk_get h4 s e

def liveAll (σ : Store) : List Nat → Prop
 | []=>True
 | k :: r=>(match σ k with|.dead=>False|_=>True) ∧ liveAll σ r
theorem liveAll_get {σ : Store} : ∀ {l : List Nat}, liveAll σ l → ∀ k ∈ l, σ k ≠ .dead
 | [],h,k,hk=>by simp at hk
 | x :: r, ⟨h1, h2⟩, k, hk => by
  rcases List.mem_cons.1 hk with e|e
  ·subst e
   split at h1
   ·exact h1.elim
   ·assumption
  ·exact liveAll_get h2 k e

theorem CallLeaf.o {ρ : Nat → D} {G' : Glob} {f : FuncId} {args args' : List D} {pre post : List AObj} {d d' : D} {σ : Store} {id : Nat} {K Kv : KD} {ups : List (Nat × AObj)} (qs : List Nat)
  (hr : ArgsTo (idxN pre.length qs) args args') (h : FCall P G' f args' pre d post) (hn : nodupN qs = true) (hle : Nat.ble pre.length post.length = true)
  (hp : preOk σ (idxN pre.length qs) qs pre) (hl : liveAll σ (qs.take pre.length)) (hnew : newOk σ id (qs.drop pre.length) 0)
  (hu : upsOf (atN qs) qs post = some ups) (hd : D.ren (atN qs) d = some d') (hk : K d' ups (qs.take pre.length)) (hg : G'.g = G.g:=by rfl) : CallLeaf P G ρ f args σ id K Kv:=by
 replace h:=h.congr hg
 have hle:=Nat.le_of_ble_eq_true hle
 obtain ⟨u1,u2,u3⟩:=upsOf_spec hu
 have hat : ∀ i, i < post.length → atN qs i = some (qs.getD i 0) := by
  intro i hi
  simp [atN,List.getD,show i < qs.length by omega]
 have hidx : ∀ i,i < post.length → idx qs (qs.getD i 0) = some i:=fun i hi=>idx_get hn (hat i hi)
 have hrn : (fun k => (idx qs k).bind fun i => if i < pre.length then some i else none) = idxN pre.length qs := by
  funext k
  unfold idxN
  cases idx qs k with
  | none=>rfl
  | some j =>
   simp only [Option.bind_some]
   by_cases hj : j < pre.length
   ·have : Nat.blt j pre.length = true := by simpa [Nat.blt_eq] using hj
    rw [this]; simp [hj]
   ·have : Nat.blt j pre.length = false := by
     cases hb : Nat.blt j pre.length with
     | false=>rfl
     | true=>exact absurd (by simpa [Nat.blt_eq] using hb) hj
    rw [this]; simp [hj]
 have hrd : (fun i => if i < post.length then some (qs.getD i 0) else none) = atN qs := by
  funext i
  by_cases hi : i < post.length
  ·rw [if_pos hi,hat i hi]
  ·rw [if_neg hi,atN,List.getElem?_eq_none (by omega)]
 refine .inl ⟨d',ups,qs.take pre.length,?_,hk⟩
 refine CallOk.of2 (q:=fun i=>qs.getD i 0) (qi:=idx qs) h (fun σ0 hσ=>?_) (by rw [hrn]; exact hr) (by rw [hrd]; exact hd) (fun i hi=>?_)
 ·have hin : ∀ k, k ∈ qs → σ0 k = σ k := fun k hk => hσ k (.inr (by rw [u1]; exact hk))
  refine ⟨fun k i e=>?_,hidx,hle,rfl,rfl,fun i hi=>?_,fun i hi=>?_,fun k e=>?_,fun i h1 h2=>?_⟩
  ·have h1 := idx_some e
   refine ⟨by simp [List.getD,h1],?_⟩
   rcases Nat.lt_or_ge i qs.length with h2|h2
   ·omega
   ·rw [List.getElem?_eq_none h2] at h1; simp at h1
  ·have e2 : pre[i]? = some pre[i] := by simp
   obtain ⟨s,e3,e4⟩:=preOk_get hp i _ e2
   have e5 : qs.getD i 0 = s:=by simp [List.getD,e3]
   show AObj.ren _ (σ0 (qs.getD i 0)) = _
   rw [hrn,e5,hin s (List.mem_of_getElem? e3),e4]
   simp [sto,List.getD,e2]
  ·have e2 : post[i]? = some post[i] := by simp
   have e1 : qs[i]? = some (qs.getD i 0):=hat i hi
   obtain ⟨y,e3,e4⟩:=u3 i _ _ e1 e2
   rw [hrd]
   show AObj.ren _ (sto post i) = some (updAll σ0 ups (qs.getD i 0))
   rw [updAll_get (by rw [u1]; exact hn) e4]
   have : sto post i = post[i]:=by simp [sto,List.getD,hi]
   rw [this,e3]
  ·refine updAll_not_mem _ _ _ (fun hm => ?_)
   rw [u1] at hm
   obtain ⟨j,hj,e2⟩:=List.getElem_of_mem hm
   have : idx qs k = some j:=idx_get hn (by simp [hj,e2])
   rw [this] at e; simp at e
  ·have e1 : qs[i]? = some (qs.getD i 0) := hat i h2
   rw [hin _ (List.mem_of_getElem? e1)]
   refine (newOk_get hnew _ ?_).2
   have : (qs.drop pre.length)[i - pre.length]? = some (qs.getD i 0) := by
    rw [List.getElem?_drop,show pre.length + (i - pre.length) = i by omega]; exact e1
   exact List.mem_of_getElem? this
 ·have e1 : qs[i]? = some (qs.getD i 0) := hat i hi
  by_cases h1 : i < pre.length
  ·have hm : qs.getD i 0 ∈ qs.take pre.length := by
    have : (qs.take pre.length)[i]? = some (qs.getD i 0):=by rw [List.getElem?_take,if_pos h1]; exact e1
    exact List.mem_of_getElem? this
   exact .inl ⟨liveAll_get hl _ hm,hm⟩
  ·refine .inr (newOk_get hnew _ ?_).1
   have : (qs.drop pre.length)[i - pre.length]? = some (qs.getD i 0) := by
    rw [List.getElem?_drop,show pre.length + (i - pre.length) = i by omega]; exact e1
   exact List.mem_of_getElem? this

end Go.AL

namespace Go.AL
open Go
variable {P : Program} {T : Tab} {G : Glob}

inductive Al : D → Prop where
 | v (x) : Al (.v x)
 | nil : Al .nil
 | junk : Al .junk
 | list (xs) (h : ∀ c ∈ xs,∀ d ∈ c,Al d) : Al (.list .any xs)
 | agg (cs) (h : ∀ d ∈ cs,Al d) : Al (.agg cs)
 | tuple (cs) (h : ∀ d ∈ cs,Al d) : Al (.tuple cs)
 | ro (cs) (h : ∀ d ∈ cs,Al d) : Al (.ro cs)

theorem Al.map {α : Type} {f : α → List D} (l : List α) (h : ∀ a, ∀ d ∈ f a, Al d) : Al (.list .any (l.map f)) := by
 refine .list _ fun c hc=>?_
 obtain ⟨a,_,rfl⟩:=List.mem_map.1 hc
 exact h a
theorem Al.cons {d : D} {ds : List D} (h : Al d) (hs : ∀ d' ∈ ds, Al d') : ∀ d' ∈ d :: ds, Al d' := fun d' hd => by
 rcases List.mem_cons.1 hd with e|e
 ·subst e; exact h
 ·exact hs _ e
theorem Al.none' : ∀ d' ∈ ([] : List D),Al d':=fun d' hd=>by simp at hd

def Env.al (E : Env) : Env where
 own b o:=match E.own b o with|.fz=>.fa|.fa=>.fa|.sc q=>.sc q|_=>.ext
 φ:=E.φ
 hdr:=E.hdr

theorem al_frz {E : Env} {b o} : (E.own b o).frz = true ↔ E.al.own b o = .fa := by
 cases h : E.own b o <;> simp [Env.al,h,Own.frz]
theorem al_frz' {E : Env} {b o} : (E.al.own b o).frz = true ↔ (E.own b o).frz = true := by
 cases h : E.own b o <;> simp [Env.al,h,Own.frz]
theorem al_sc {E : Env} {b o q} : E.al.own b o = .sc q ↔ E.own b o = .sc q := by
 cases h : E.own b o <;> simp [Env.al,h]
theorem al_fz {E : Env} {b o} : E.al.own b o ≠ .fz := by
 cases h : E.own b o <;> simp [Env.al,h]
theorem VR.al' {E h σ} {d : D} (hd : Al d) : ∀ {x : Value}, VR E h σ d x → VR E.al h σ d x := by
 induction hd with
 | v x=>intro y hx; cases hx; exact .v _
 | nil=>intro y hx; cases hx; exact .nil
 | junk=>intro y hx; exact .junk _
 | list xs _ ih =>
  intro y hx
  cases hx with
  | list _ _ A c s u hc hb hs hn ha hv hf ht =>
   refine .list .any xs A c s u hc hb hs hn (fun a e=>⟨(ha a e).1,fun i j hi hj=>⟨?_,((ha a e).2 i j hi hj).2⟩⟩) (fun i j hi hj=>ih _ (List.getElem_mem hi) _ (List.getElem_mem hj) (hv i j hi hj)) hf (fun k e=>by simp at e)
   have:=((ha a e).2 i j hi hj).1
   show Own.frz _ = true
   exact al_frz'.2 this
 | agg cs _ ih =>
  intro y hx
  cases hx with
  | agg _ us l a=>exact .agg cs us l (fun i a' b=>ih _ (List.getElem_mem a') (a i a' b))
 | tuple cs _ ih =>
  intro y hx
  cases hx with
  | tuple _ us l a=>exact .tuple cs us l (fun i a' b=>ih _ (List.getElem_mem a') (a i a' b))
 | ro cs _ ih =>
  intro y hx
  cases hx with
  | ro _ b o u hr hv hf=>exact .ro cs b o u (fun j hj=>⟨al_frz'.2 (hr j hj).1,(hr j hj).2⟩) (fun j hj=>ih _ (List.getElem_mem hj) (hv j hj)) hf

inductive Th : Bool → D → D → Prop where
 | int (k n) : Th true (.v (.int k n)) (.sq (.int k))
 | str (s) : Th true (.v (.string s)) (.sq .str)
 | bool (c b) : Th c (.v (.bool b)) (.v (.bool b))
 | v (x) : Th false (.v x) (.v x)
 | nil (c) : Th c .nil .nil
 | junk (d) : Th false d .junk
 | list (c : Bool) (xs ys : List (List D)) (hl : ys.length = xs.length) (hs : ∀ i (a : i < xs.length) (b : i < ys.length), ys[i].length = xs[i].length)
   (h : ∀ i (a : i < xs.length) (b : i < ys.length) j (a' : j < xs[i].length) (b' : j < ys[i].length),Th true xs[i][j] ys[i][j]) : Th c (.list .nat xs) (.slist ys)
 | agg (cs ds : List D) (hl : ds.length = cs.length) (h : ∀ i (a : i < cs.length) (b : i < ds.length),Th false cs[i] ds[i]) : Th false (.agg cs) (.agg ds)
 | tuple (cs ds : List D) (hl : ds.length = cs.length) (h : ∀ i (a : i < cs.length) (b : i < ds.length),Th false cs[i] ds[i]) : Th false (.tuple cs) (.tuple ds)

inductive ThL (c : Bool) : List D → List D → Prop where
 | nil : ThL c [] []
 | cons {d d' : D} {ds ds' : List D} (h : Th c d d') (hs : ThL c ds ds') : ThL c (d :: ds) (d' :: ds')
theorem ThL.len {c} {ds ds' : List D} (h : ThL c ds ds') : ds'.length = ds.length := by
 induction h with
 | nil=>rfl
 | cons _ _ ih=>simp [ih]
theorem ThL.get {c} {ds ds' : List D} (h : ThL c ds ds') : ∀ i (a : i < ds.length) (b : i < ds'.length), Th c ds[i] ds'[i] := by
 induction h with
 | nil=>intro i a; simp at a
 | cons h hs ih =>
  intro i a b
  cases i with
  | zero=>exact h
  | succ i=>exact ih i (by simpa using a) (by simpa using b)
theorem Th.map {α : Type} {f g : α → List D} (c : Bool) (l : List α) (h : ∀ a, ThL true (f a) (g a)) : Th c (.list .nat (l.map f)) (.slist (l.map g)) :=
 .list c _ _ (by simp) (fun i a b => by simpa using (h (l[i]'(by simpa using a))).len) (fun i a b j a' b' => by
  have:=(h (l[i]'(by simpa using a))).get j (by simpa using a') (by simpa using b')
  simpa using this)
theorem Th.tupleL {ds ds' : List D} (h : ThL false ds ds') : Th false (.tuple ds) (.tuple ds'):=.tuple _ _ h.len h.get

def thK (x : Option Value) : Own :=
 match x with
 | some (.int k _)=>.sc (.int k)
 | some (.string _)=>.sc .str
 | _=>.fz

noncomputable def Env.th (E' : Env) (E : Env) (h h' : Heap) : Env where
 own b o:=open Classical in if b < h.size ∧ (E.own b o).frz = true then E.own b o else match E'.own b o with|.fz=>thK (cellH h' b o)|x=>x
 φ:=E'.φ
 hdr:=E'.hdr

theorem Th.vr {E' E : Env} {h h' : Heap} {σ σ' : Store} (hq : ∀ b o, E'.own b o = .fz → ¬ (b < h.size ∧ (E.own b o).frz = true)) {c : Bool} {d d' : D} (H : Th c d d') :
  ∀ {x : Value},VR E' h' σ d x → VR (E'.th E h h') h' σ' d' x ∧ (c = true → (d'.idf || d'.isSq) = true ∧ ∀ b o,E'.own b o = .fz → cellH h' b o = some x → SqR (E'.th E h h') h' d' b o x):=by
 have own0 : ∀ b o, E'.own b o = .fz → (E'.th E h h').own b o = thK (cellH h' b o) := by
  intro b o e
  simp only [Env.th,if_neg (hq b o e),e]
 induction H with
 | int k n =>
  intro x hx
  obtain rfl:=hx.v_inv
  exact ⟨.sq _ _ ⟨n, rfl⟩, fun _ => ⟨rfl, fun b o e hc => by
   show (E'.th E h h').own b o = .sc (.int k)
   rw [own0 b o e,hc]; rfl⟩⟩
 | str s =>
  intro x hx
  obtain rfl:=hx.v_inv
  exact ⟨.sq _ _ ⟨s, rfl⟩, fun _ => ⟨rfl, fun b o e hc => by
   show (E'.th E h h').own b o = .sc .str
   rw [own0 b o e,hc]; rfl⟩⟩
 | bool c y =>
  intro x hx
  obtain rfl:=hx.v_inv
  exact ⟨.v _,fun _=>⟨rfl,fun b o e hc=>⟨by rw [own0 b o e,hc]; rfl,hc⟩⟩⟩
 | v y=>intro x hx; obtain rfl:=hx.v_inv; exact ⟨.v _,fun e=>by simp at e⟩
 | nil c=>intro x hx; cases hx; exact ⟨.nil,fun _=>⟨rfl,fun b o e hc=>⟨by rw [own0 b o e,hc]; rfl,hc⟩⟩⟩
 | junk d=>intro x hx; exact ⟨.junk _,fun e=>by simp at e⟩
 | agg cs ds hl _ ih =>
  intro x hx
  cases hx with
  | agg _ us l a=>exact ⟨.agg ds us (by omega) (fun i a' b=>(ih i (by omega) a' (a i (by omega) b)).1),fun e=>by simp at e⟩
 | tuple cs ds hl _ ih =>
  intro x hx
  cases hx with
  | tuple _ us l a=>exact ⟨.tuple ds us (by omega) (fun i a' b=>(ih i (by omega) a' (a i (by omega) b)).1),fun e=>by simp at e⟩
 | list c xs ys hl hs _ ih =>
  intro x hx
  cases hx with
  | list _ _ A c' s u hc hb hs' hn ha hv hf ht =>
   refine ⟨?_,fun _=>⟨rfl,fun b o e hc=>⟨by rw [own0 b o e,hc]; rfl,hc⟩⟩⟩
   rw [show xs.length = ys.length from hl.symm]
   refine .slist ys A c' s u (by omega) (by omega) (fun i hi=>by rw [hs i (by omega) hi]; exact hs' i (by omega)) (fun e=>⟨List.eq_nil_of_length_eq_zero (by rw [hl,(hn e).1]; rfl),(hn e).2⟩) (fun a e=>⟨fun hne=>(ha a e).1 (fun h0=>hne (List.eq_nil_of_length_eq_zero (by rw [hl,h0]; rfl))),fun i j hi hj=>?_⟩) (fun i j hi hj=>?_) (fun i j hi hj=>?_)
   ·have hj' : j < xs[i].length := by rw [← hs i (by omega) hi]; exact hj
    obtain ⟨p1,p2⟩:=(ha a e).2 i j (by omega) (by rw [← hs' i (by omega)]; exact hj')
    exact ((ih i (by omega) hi j hj' hj (hv i j (by omega) hj')).2 rfl).2 _ _ p1 p2
   ·have hj' : j < xs[i].length := by rw [← hs i (by omega) hi]; exact hj
    exact (ih i (by omega) hi j hj' hj (hv i j (by omega) hj')).1
   ·have hj' : j < xs[i].length := by rw [← hs i (by omega) hi]; exact hj
    exact ((ih i (by omega) hi j hj' hj (hv i j (by omega) hj')).2 rfl).1

theorem FCall.thaw {f : FuncId} {args : List D} {d d' : D} (h : FCall P G f args [] d []) (ha : ∀ a ∈ args, Al a) (hg : ∀ g, Al (.ro (G g))) (ht : Th false d d') : FCall P G f args [] d' [] := by
 refine ⟨h.fn,fun E w vs C hv=>?_⟩
 have C1 : Core G E.al w.heap (sto []) ([] : List AObj).length := by
  refine ⟨fun k=>trivial,fun b o hh=>C.bnd b o (fun e=>hh (by simp [Env.al,e])),fun b o q hq=>C.sc b o q (al_sc.1 hq),fun b o hq=>absurd hq al_fz,fun k _=>rfl,fun g=>⟨VR.al' (hg g) (C.glob g).1,(C.glob g).2⟩⟩
 have hv1 : VRs E.al w.heap (sto []) args vs:=⟨hv.1,fun i a b=>VR.al' (ha _ (List.getElem_mem a)) (hv.2 i a b)⟩
 refine Calls.mono (h.run E.al w vs C1 hv1) fun e w' he=>?_
 obtain ⟨E',v,rfl,hvd,Cc,g,s⟩:=he
 have hq : ∀ b o, E'.own b o = .fz → ¬ (b < w.heap.size ∧ (E.own b o).frz = true) := by
  intro b o e ⟨h1,h2⟩
  have:=(g.fz b o h1 (al_frz'.2 h2)).1
  rw [al_frz.1 h2,e] at this
  simp at this
 have old : ∀ b o, b < w.heap.size → (E.own b o).frz = true → (E'.th E w.heap w'.heap).own b o = E.own b o ∧ cellH w'.heap b o = cellH w.heap b o := by
  intro b o h1 h2
  exact ⟨by simp only [Env.th,if_pos (And.intro h1 h2)],(g.fz b o h1 (al_frz'.2 h2)).2⟩
 have oldS : ∀ b o q, E.own b o = .sc q → (E'.th E w.heap w'.heap).own b o = .sc q := by
  intro b o q h1
  have hb:=C.bnd b o (by simp [h1])
  have h2:=g.sc b o q hb (al_sc.2 h1)
  simp only [Env.th,h1,Own.frz,h2]
  simp
 have oldX : ∀ b o, b < w.heap.size → E.al.own b o = .ext → (E'.th E w.heap w'.heap).own b o = .ext := by
  intro b o hb h1
  have h2:=(g.ext b o hb h1).1
  have h3 : ¬ (E.own b o).frz = true:=fun h=>by rw [al_frz.1 h] at h1; simp at h1
  simp only [Env.th,h2,h3]
  simp
 have cls : ∀ b o, (E'.th E w.heap w'.heap).own b o = .fz → b < w'.heap.size → Free w'.heap b o := by
  intro b o e hb
  by_cases hc : b < w.heap.size ∧ (E.own b o).frz = true
  ·simp only [Env.th, if_pos hc] at e
   exact (C.nf b o e).mono g.shp
  ·simp only [Env.th, if_neg hc] at e
   split at e
   ·rename_i h1; exact Cc.nf b o h1
   ·exact Cc.nf b o e
 have bnd : ∀ b o, (E'.th E w.heap w'.heap).own b o ≠ .ext → b < w'.heap.size := by
  intro b o hh
  by_cases hc : b < w.heap.size ∧ (E.own b o).frz = true
  ·exact Nat.lt_of_lt_of_le hc.1 g.sz
  ·refine Cc.bnd b o (fun e => hh ?_)
   simp only [Env.th,if_neg hc,e]
 have M : CMap some E w.heap (sto []) (E'.th E w.heap w'.heap) w'.heap (sto []) :=
  ⟨fun b o hf=>old b o (C.bnd b o (Own.frz_ext hf)) hf,fun b o q hq=>oldS b o q hq,fun k k' hl=>absurd rfl hl⟩
 refine ⟨E'.th E w.heap w'.heap,v,rfl,(ht.vr hq hvd).1,⟨fun k=>trivial,bnd,fun b o q e=>?_,fun b o e=>cls b o e (bnd b o (by simp [e])),fun k _=>rfl,fun gl=>(C.glob gl).map' M g.shp⟩,⟨g.sz,fun b o hb hf=>old b o hb hf,fun b o q hb e=>oldS b o q e,fun b o q hb e=>?_,fun b o hb e=>?_,g.shp,fun b hb ho=>?_,fun k hk=>by simp at hk⟩,s⟩
 ·by_cases hc : b < w.heap.size ∧ (E.own b o).frz = true
  ·simp only [Env.th, if_pos hc] at e
   exact absurd e (Own.frz_sc hc.2 q)
  ·simp only [Env.th, if_neg hc] at e
   split at e
   ·rename_i h1
    refine ⟨Cc.nf b o h1,?_⟩
    unfold thK at e
    split at e
    ·rename_i k n h2; simp at e; subst e; exact ⟨_,h2,n,rfl⟩
    ·rename_i s h2; simp at e; subst e; exact ⟨_,h2,s,rfl⟩
    ·simp at e
   ·exact Cc.sc b o q e
 ·by_cases hc : (E.own b o).frz = true
  ·rw [(old b o hb hc).1] at e; exact absurd e (Own.frz_sc hc q)
  ·cases h1 : E.own b o with
   | sc q'=>rw [oldS b o q' h1] at e; exact e
   | fz=>simp [h1,Own.frz] at hc
   | fa=>simp [h1,Own.frz] at hc
   | ext=>rw [oldX b o hb (by simp [Env.al,h1])] at e; simp at e
   | ob k=>rw [oldX b o hb (by simp [Env.al,h1])] at e; simp at e
 ·have h1 : E.al.own b o = .ext := by simp [Env.al, e]
  exact ⟨oldX b o hb h1,(g.ext b o hb h1).2⟩
 ·refine g.blk b hb (fun o => ?_)
  rcases ho o with h1|h1
  ·exact .inl (by simp [Env.al,h1])
  ·exact .inr (al_frz'.2 h1)

end Go.AL

namespace Go.AL
open Go Go.RowKit
variable {P : Program} {T : Tab} {G : Glob} {H : Type} {enc : TypeId × Value → H}

def env0 (h : Heap) : Env:={ own:=fun b o=>if b < h.size then .fa else .ext,φ:=fun _=>0,hdr:=fun _=>(none,0) }

def tiles (P : Program) : List Field → Nat → Nat → Bool
  | [],n,total=>Nat.beq n total
  | f :: r,n,total=>Nat.beq f.offset n && tiles P r (n + P.cellsOf f.type) total

def simple (P : Program) : Nat → TypeId → Bool
  | 0,_=>false
  | n + 1, t => match P.underlying t with
    | some .bool=>true
    | some (.int _)=>true
    | some .string=>true
    | some (.slice e)=>simple P n e && Nat.blt 0 (P.cellsOf e) && Nat.blt 0 (P.bytesOf e)
    | some (.struct fs)=>fs.toList.all (fun f=>simple P n f.type) && tiles P fs.toList 0 (P.cellsOf t)
    | _=>false

def RdFs (R : TypeId → List D → Prop) : List Field → List D → Prop
  | [],ds=>ds = []
  | f :: r,ds=>∃ a b,ds = a ++ b ∧ R f.type a ∧ RdFs R r b

def Rd (P : Program) : Nat → TypeId → List D → Prop
  | 0,_,_=>False
  | n + 1, t, ds => match P.underlying t with
    | some .bool=>∃ b,ds = [vB b]
    | some (.int k)=>∃ x,(Lit.int k x).wf = true ∧ ds = [.v (.int k x)]
    | some .string=>∃ s : Str,s.length ≤ 140737488351232 ∧ ds = [sD s]
    | some (.slice e)=>∃ xs,ds = [.list .any xs] ∧ xs.length * P.bytesOf e ≤ 140737488351232 ∧ ∀ x ∈ xs,Rd P n e x
    | some (.struct fs)=>RdFs (Rd P n) fs.toList ds
    | _=>False

theorem cells?_spec {w : World} {base : Nat} {a : Addr} {n : Nat} {l : List Value} (h : w.cells? base a n = some l) : l.length = n ∧ ∀ j (hj : j < l.length), w.cell? (a.add j) = some l[j] := by
  unfold World.cells? at h
  split at h
  · have key : ∀ (r : List Nat) (l : List Value), r.mapM (fun i => w.cell? (a.add i)) = some l → l.length = r.length ∧ ∀ j (h1 : j < l.length) (h2 : j < r.length), w.cell? (a.add r[j]) = some l[j] := by
      intro r
      induction r with
      | nil=>intro l hl; simp at hl; subst hl; exact ⟨rfl,fun j h1=>by simp at h1⟩
      | cons x r ih =>
        intro l hl
        rw [List.mapM_cons] at hl
        cases hx : w.cell? (a.add x) with
        | none=>simp [hx] at hl
        | some v =>
          cases hr : r.mapM (fun i=>w.cell? (a.add i)) with
          | none=>simp [hx,hr] at hl
          | some l' =>
            simp [hx,hr] at hl
            subst hl
            obtain ⟨h1,h2⟩:=ih l' hr
            refine ⟨by simp [h1],fun j a1 a2=>?_⟩
            cases j with
            | zero=>simpa using hx
            | succ j=>simpa using h2 j (by simpa using a1) (by simpa using a2)
    obtain ⟨h1,h2⟩:=key _ _ h
    refine ⟨by simpa using h1,fun j hj=>?_⟩
    have:=h2 j hj (by rw [← h1]; exact hj)
    simpa using this
  · simp at h

theorem VR.fz0 {w : World} {b o : Nat} {v : Value} (h : cellH w.heap b o = some v) : (env0 w.heap).own b o = .fa := by
  unfold cellH at h
  split at h
  · rename_i c e f hb
    simp [env0,lt_of_get hb]
  · simp at h

theorem weights_all {e : TypeId} : ∀ {l : List (DataW H)}, (∀ n ∈ DataW.weightsAll P e l, n ≤ reachBytes) → ∀ d ∈ l, ∀ n ∈ d.weights P e, n ≤ reachBytes
  | [],h,d,hd=>by simp at hd
  | x :: r, h, d, hd => by
    simp only [DataW.weightsAll,List.mem_append] at h
    rcases List.mem_cons.1 hd with rfl|hd
    · exact fun n hn=>h n (.inl hn)
    · exact weights_all (fun n hn=>h n (.inr hn)) d hd

theorem reach_eq : reachBytes = 140737488351232:=rfl

theorem weights_each {fs : List Field} : ∀ {l : List (DataW H)}, (∀ n ∈ DataW.weightsEach P (fs.map (·.type)) l, n ≤ reachBytes) → ∀ (i : Nat) (f : Field) d, fs[i]? = some f → l[i]? = some d → ∀ n ∈ d.weights P f.type, n ≤ reachBytes := by
  intro l h i f d hf hd n hn
  exact h n (DataW.weights_mem_each (P:=P) (j:=i) (by simp [hf]) hd n hn)

theorem VRs_append' {E h σ ds es us vs} (h1 : VRs E h σ ds us) (h2 : VRs E h σ es vs) : VRs E h σ (ds ++ es) (us ++ vs) := by
  obtain ⟨l1,f1⟩:=h1
  obtain ⟨l2,f2⟩:=h2
  refine ⟨by simp [l1,l2],fun i a b=>?_⟩
  simp only [List.getElem_append,l1]
  split
  · exact f1 i _ _
  · exact f2 _ _ _

theorem fields_rd {w : World} {R : TypeId → List D → Prop} {cs : List Value} {total : Nat} : ∀ (fs : List Field) (off : Nat), tiles P fs off total = true → cs.length = total → off ≤ total →
    (∀ f ∈ fs,∃ ds,R f.type ds ∧ VRs (env0 w.heap) w.heap (sto []) ds ((cs.drop f.offset).take (P.cellsOf f.type)) ∧ ds.all D.idf = true) →
    ∃ ds,RdFs R fs ds ∧ VRs (env0 w.heap) w.heap (sto []) ds (cs.drop off) ∧ ds.all D.idf = true
  | [], off, ht, hl, ho, h => by
    have : off = total:=Nat.eq_of_beq_eq_true ht
    refine ⟨[],rfl,?_,rfl⟩
    rw [List.drop_of_length_le (by omega)]
    exact VRs_nil.2 rfl
  | f :: r, off, ht, hl, ho, h => by
    simp only [tiles,Bool.and_eq_true] at ht
    obtain ⟨h1,h2⟩:=ht
    have h1:=Nat.eq_of_beq_eq_true h1
    obtain ⟨a,a1,a2,a3⟩:=h f (by simp)
    rw [h1] at a2
    have htl : ∀ (fs : List Field) (n total : Nat), tiles P fs n total = true → n ≤ total := by
      intro fs
      induction fs with
      | nil=>intro n t h; have:=Nat.eq_of_beq_eq_true h; omega
      | cons f r ih=>intro n t h; simp only [tiles,Bool.and_eq_true] at h; have:=ih _ _ h.2; omega
    have hle:=htl _ _ _ h2
    obtain ⟨b,b1,b2,b3⟩:=fields_rd r (off + P.cellsOf f.type) h2 hl hle (fun g hg=>h g (by simp [hg]))
    refine ⟨a ++ b,⟨a,b,rfl,a1,b1⟩,?_,by simp [a3,b3]⟩
    have:=VRs_append' a2 b2
    rw [← List.drop_drop,List.take_append_drop] at this
    exact this

theorem trod_rd {w : World} {base : Nat} {spare : Nat → Bool} {held : Bool} : ∀ (n fuel : Nat) (t : TypeId) (cs : List Value) (d : DataW H) (ps : List MemPlace), simple P n t = true →
    DataW.trod enc P w base spare held fuel t cs = some (d,ps) → (∀ k ∈ d.weights P t,k ≤ reachBytes) →
    ∃ ds,Rd P n t ds ∧ VRs (env0 w.heap) w.heap (sto []) ds cs ∧ ds.all D.idf = true ∧ ds.length = cs.length
  | 0,_,t,_,_,_,hs,_,_=>by simp [simple] at hs
  | n + 1, fuel, t, cs, d, ps, hs, h, hw => by
    simp only [simple] at hs
    simp only [Rd]
    cases hu : P.underlying t with
    | none=>simp [hu] at hs
    | some u =>
      rw [hu] at hs
      cases u with
      | bool =>
        obtain ⟨b,rfl,_⟩:=DataW.trod_bool hu h
        exact ⟨_,⟨b,rfl⟩,VRs_cons.2 ⟨.v _,VRs_nil.2 rfl⟩,rfl,rfl⟩
      | int k =>
        obtain ⟨x,rfl,_,hwf⟩:=DataW.trod_int hu h
        exact ⟨_,⟨x,hwf,rfl⟩,VRs_cons.2 ⟨.v _,VRs_nil.2 rfl⟩,rfl,rfl⟩
      | string =>
        obtain ⟨s,rfl,e,_⟩:=DataW.trod_string hu h
        simp only [Prod.mk.injEq] at e
        obtain ⟨rfl,_⟩:=e
        refine ⟨[sD s.data.toList],⟨s.data.toList,?_,rfl⟩,VRs_cons.2 ⟨.v _,VRs_nil.2 rfl⟩,rfl,rfl⟩
        have:=hw s.data.toList.length (by simp [DataW.weights])
        rwa [reach_eq] at this
      | slice e =>
        simp only [Bool.and_eq_true] at hs
        obtain ⟨⟨hs1,hs2⟩,hs3⟩:=hs
        have hs2:=blt_pos hs2
        have hs3:=blt_pos hs3
        rcases DataW.trod_slice hu h with ⟨rfl,_⟩|⟨a,len,cap,elems,rest,m,rfl,rfl,hx,_,hlc,hcm,hel,hrd,_,_⟩
        · refine ⟨[.list .any []],⟨[],rfl,by simp,by simp⟩,VRs_cons.2 ⟨Wk.nil.sem _ _ _ _ .nil,VRs_nil.2 rfl⟩,rfl,rfl⟩
        · simp only [Prod.mk.injEq] at hx
          obtain ⟨rfl,_⟩:=hx
          simp only [DataW.weights,hu,List.mem_cons,List.mem_append] at hw
          have hb:=hw _ (.inl rfl)
          rw [reach_eq] at hb
          simp only [List.length_map] at hb
          have hel' : ∀ i, ∃ cs ds, i < len → w.cells? base (a.add (i * P.cellsOf e)) (P.cellsOf e) = some cs ∧ Rd P n e ds ∧ VRs (env0 w.heap) w.heap (sto []) ds cs ∧ ds.all D.idf = true ∧ ds.length = cs.length := by
            intro i
            by_cases hi : i < len
            · have h1 := hrd i hi
              cases hc : w.cells? base (a.add (i * P.cellsOf e)) (P.cellsOf e) with
              | none=>rw [hc] at h1; simp at h1; omega
              | some cs =>
                rw [hc] at h1
                have h2 : elems[i]? = some (elems[i]'(by omega)):=by simp
                rw [h2] at h1
                simp only [Option.bind_some] at h1
                obtain ⟨ds,d1,d2,d3,d4⟩:=trod_rd n m e cs _ _ hs1 h1 (fun k hk=>weights_all (l:=elems.map (·.1)) (fun n hn=>hw n (.inr (.inl hn))) _ (List.mem_map.2 ⟨_,List.getElem_mem _,rfl⟩) k hk)
                exact ⟨cs,ds,fun _=>⟨rfl,d1,d2,d3,d4⟩⟩
            · exact ⟨[],[],fun h=>absurd h hi⟩
          have hch:=Classical.axiomOfChoice hel'
          obtain ⟨fc,hfc⟩:=hch
          obtain ⟨fd,hfd⟩:=Classical.axiomOfChoice hfc
          have hspot : 0 < len → a.spot = none := by
            intro h0
            obtain ⟨c1,_,c2,_,c4⟩:=hfd 0 h0
            obtain ⟨e1,e2⟩:=cells?_spec c1
            have:=e2 0 (by omega)
            unfold World.cell? at this
            have h3 : (a.add (0 * P.cellsOf e)).add 0 = a:=by simp [Addr.add]
            rw [h3] at this
            split at this
            · split at this
              · simp at this
              · rename_i hs; simpa using hs
            · simp at this
          have hsz : ∀ i, i < len → (fd i).length = P.cellsOf e := by
            intro i hi
            obtain ⟨c1,_,_,_,c4⟩:=hfd i hi
            rw [c4,(cells?_spec c1).1]
          refine ⟨[.list .any ((List.range len).map fd)],⟨_,rfl,?_,fun x hx=>?_⟩,VRs_cons.2 ⟨?_,VRs_nil.2 rfl⟩,rfl,rfl⟩
          · simp only [List.length_map, List.length_range]
            have : len * P.bytesOf e ≤ (elems.length + rest.length) * P.bytesOf e:=Nat.mul_le_mul_right _ (by omega)
            omega
          · obtain ⟨i, hi, rfl⟩ := List.mem_map.1 hx
            exact (hfd i (List.mem_range.1 hi)).2.1
          · have hlen : ((List.range len).map fd).length = len := by simp
            have hbl : len ≤ 140737488355328 := by
              have h1 : (elems.length + rest.length) * 1 ≤ (elems.length + rest.length) * P.bytesOf e:=Nat.mul_le_mul_left _ hs3
              omega
            have key : VR (env0 w.heap) w.heap (sto []) (.list .any ((List.range len).map fd)) (.slice (some a) ((List.range len).map fd).length cap) := by
              refine .list .any _ (some a) cap (P.cellsOf e) (fun i j=>(fc i).getD j undef) (by simp; omega) (by simp; omega) (fun i hi=>by simp at hi ⊢; exact hsz i hi) (by simp) (fun a' ha'=>?_) (fun i j hi hj=>?_) (fun i j hi hj=>?_) (by simp)
              · simp at ha'; subst ha'
                refine ⟨fun hne => hspot (by rcases Nat.eq_zero_or_pos len with h0 | h0; · subst h0; simp at hne
                                             · exact h0),fun i j hi hj=>?_⟩
                simp at hi
                obtain ⟨c1,_,_,_,c4⟩:=hfd i hi
                obtain ⟨e1,e2⟩:=cells?_spec c1
                have h3:=e2 j (by omega)
                obtain ⟨ab,ao,asp⟩:=a
                have hsp:=hspot (by omega)
                simp only at hsp
                subst hsp
                rw [add_none,add_none,cell?_eq] at h3
                refine ⟨by show Own.frz _ = true; rw [VR.fz0 h3]; rfl,?_⟩
                rw [h3]
                simp [List.getD,show j < (fc i).length by omega]
              · simp at hi hj ⊢
                obtain ⟨_,_,c2,_,c4⟩:=hfd i hi
                have:=c2.2 j hj (by omega)
                simpa [List.getD,show j < (fc i).length by omega] using this
              · simp at hi hj ⊢
                obtain ⟨_,_,_,c3,_⟩:=hfd i hi
                exact List.all_eq_true.1 c3 _ (List.getElem_mem hj)
            rw [hlen] at key
            exact key
      | struct fs =>
        simp only [Bool.and_eq_true] at hs
        obtain ⟨hs1,hs2⟩:=hs
        obtain ⟨xs,m,rfl,hx,hl,hxl,hf⟩:=DataW.trod_struct hu h
        simp only [Prod.mk.injEq] at hx
        obtain ⟨rfl,_⟩:=hx
        simp only [DataW.weights,hu] at hw
        obtain ⟨ds, d1, d2, d3⟩ := fields_rd (P := P) (w := w) (R := Rd P n) (cs := cs) fs.toList 0 hs2 hl (Nat.zero_le _) (fun f hfm => by
          obtain ⟨i,hi,rfl⟩:=List.getElem_of_mem hfm
          have h1 : fs[i]? = some (fs.toList[i]):=by simp at hi ⊢
          have h2:=hf i _ h1
          have h3 : xs[i]? = some (xs[i]'(by simp at hi; omega)):=by simp
          rw [h3] at h2
          have h4 : (fs.toList)[i]? = some (fs.toList[i]):=by simp
          obtain ⟨ds,d1,d2,d3,_⟩:=trod_rd n m _ _ _ _ (List.all_eq_true.1 hs1 _ hfm) h2 (fun k hk=>weights_each (fs:=fs.toList) (l:=xs.map (·.1)) hw i _ _ h4 (by simp [h3]) k hk)
          exact ⟨ds,d1,d2,d3⟩)
        rw [List.drop_zero] at d2
        exact ⟨ds,d1,d2,d3,d2.1.symm⟩
      | _=>simp at hs

def argD (P : Program) (t : TypeId) (ds : List D) : D :=
  match P.underlying t with
  | some (.struct _)=>.agg ds
  | _=>match ds with|[d]=>d|_=>.agg ds

inductive ArgsR (P : Program) (n : Nat) : List TypeId → List D → Prop where
  | nil : ArgsR P n [] []
  | cons {t : TypeId} {ts : List TypeId} {ds as : List D} (h : Rd P n t ds) (hs : ArgsR P n ts as) : ArgsR P n (t :: ts) (argD P t ds :: as)

theorem one_cell {v : Value} (h : ∀ cs, v ≠ .agg cs) : v.cells.toList = [v] := by
  cases v <;> simp [Value.cells] at h ⊢

theorem arg_vr {w : World} {base n : Nat} {t : TypeId} {v : Value} {ds : List D} (hok : Value.okWide P w .any base t v) (hR : Rd P n t ds) (hv : VRs (env0 w.heap) w.heap (sto []) ds v.cells.toList) :
    VR (env0 w.heap) w.heap (sto []) (argD P t ds) v:=by
  cases n with
  | zero=>exact hR.elim
  | succ n =>
    simp only [Rd] at hR
    unfold argD
    have single : ∀ d, ds = [d] → (∀ cs, v ≠ .agg cs) → VR (env0 w.heap) w.heap (sto []) d v := by
      intro d hd ha
      rw [one_cell ha,hd] at hv
      exact (VRs_cons.1 hv).1
    cases hu : P.underlying t with
    | none=>rw [hu] at hR; exact hR.elim
    | some u =>
      rw [hu] at hR
      have hna : (∀ fs, u ≠ .struct fs) → (∀ k e, u ≠ .array k e) → (∀ k e, u ≠ .map k e) → (∀ m, u ≠ .interface m) → (u = .bool ∨ (∃ k, u = .int k) ∨ u = .string ∨ ∃ e, u = .slice e) → ∀ cs, v ≠ .agg cs := by
        intro _ _ _ _ hcase cs e
        subst e
        rcases hcase with rfl|⟨k,rfl⟩|rfl|⟨e,rfl⟩ <;> simp [Value.okWide,hu,Cell.okWide,Cell.ok] at hok
      cases u with
      | bool =>
        obtain ⟨b,rfl⟩:=hR
        exact single _ rfl (hna (by simp) (by simp) (by simp) (by simp) (.inl rfl))
      | int k =>
        obtain ⟨x,_,rfl⟩:=hR
        exact single _ rfl (hna (by simp) (by simp) (by simp) (by simp) (.inr (.inl ⟨_,rfl⟩)))
      | string =>
        obtain ⟨x,_,rfl⟩:=hR
        exact single _ rfl (hna (by simp) (by simp) (by simp) (by simp) (.inr (.inr (.inl rfl))))
      | slice e =>
        obtain ⟨x,rfl,_⟩:=hR
        exact single _ rfl (hna (by simp) (by simp) (by simp) (by simp) (.inr (.inr (.inr ⟨_,rfl⟩))))
      | struct fs =>
        simp only [Value.okWide,hu] at hok
        obtain ⟨cs,rfl,_⟩:=hok
        obtain ⟨l,f⟩:=hv
        have:=VR.agg (E:=env0 w.heap) (h:=w.heap) (σ:=sto []) ds cs.toList l f
        simpa using this
      | _=>exact hR.elim

open Go.ChangeShapes Go.WideShapes Go.ChangeAt in
theorem trodAll_args {w : World} {base n : Nat} : ∀ {ts : List TypeId} {vs : List Value} {ds : List (DataW H)} {ps : List MemPlace}, ts.all (simple P n) = true →
    DataW.TrodAll enc P w 0 (fun _=>true) true ts vs ds ps → (∀ k ∈ DataW.weightsEach P ts ds,k ≤ reachBytes) →
    (∀ (j : Nat) t v,ts[j]? = some t → vs[j]? = some v → Value.okWide P w .any base t v) → ∃ as,ArgsR P n ts as ∧ VRs (env0 w.heap) w.heap (sto []) as vs
  | [], vs, ds, ps, hs, h, hw, hok => by
    obtain ⟨rfl,rfl,rfl⟩:=trodAll_nil h
    exact ⟨[],.nil,VRs_nil.2 rfl⟩
  | t :: ts, vs, ds, ps, hs, h, hw, hok => by
    obtain ⟨v,vs',d,ds',p,q,rfl,rfl,rfl,⟨fuel,h1⟩,h2⟩:=trodAll_cons h
    simp only [List.all_cons,Bool.and_eq_true] at hs
    simp only [DataW.weightsEach,List.mem_append] at hw
    obtain ⟨as,a1,a2⟩:=trodAll_args (ts:=ts) hs.2 h2 (fun k hk=>hw k (.inr hk)) (fun j t v h1 h2=>hok (j + 1) t v (by simpa using h1) (by simpa using h2))
    obtain ⟨xs,x1,x2,_,_⟩:=trod_rd n fuel t _ _ _ hs.1 h1 (fun k hk=>hw k (.inl hk))
    exact ⟨_,.cons x1 a1,VRs_cons.2 ⟨arg_vr (hok 0 t v rfl rfl) x1 x2,a2⟩⟩

open Go.ChangeShapes Go.WideShapes Go.ChangeAt in
theorem trodAll_back (hl : laidOutB P = true) {W W' : World} (bel : Below W.heap.size W W') : ∀ {ts : List TypeId} {vs : List Value} {ds : List (DataW H)} {ps : List MemPlace}, (∀ t ∈ ts, P.readableRec t = true ∧ t < P.types.size) →
    DataW.TrodAll enc P W 0 (fun _=>true) true ts vs ds ps → ∃ pa,DataW.TrodAll enc P W' 0 (fun b=>decide (b < W.heap.size)) true ts vs ds pa
  | [], vs, ds, ps, hs, h => by
    obtain ⟨rfl,rfl,rfl⟩:=trodAll_nil h
    exact ⟨[],rfl⟩
  | t :: ts, vs, ds, ps, hs, h => by
    obtain ⟨v,vs',d,ds',p,q,rfl,rfl,rfl,h1,h2⟩:=trodAll_cons h
    obtain ⟨pa,h3⟩:=trodAll_back hl bel (ts:=ts) (fun t ht=>hs t (by simp [ht])) h2
    obtain ⟨a1,a2⟩:=hs t (by simp)
    have lt : ∀ x ∈ p,x.block < W.heap.size:=by obtain ⟨m,hm⟩:=h1; exact DataW.trod_lt m _ _ _ hm
    exact ⟨_,Go.trodAll_cons_mk (Below.trod hl a1 a2 h1 bel lt) h3⟩

def GlobOk (G : Glob) (w : World) : Prop :=
  (∀ g j (hj : j < (G g).length),∃ u,cellH w.heap g j = some u ∧ VR (env0 w.heap) w.heap (sto []) ((G g)[j]) u ∧ ((G g)[j]).idf = true) ∧
    ∀ g,G g = [] ∨ ∃ us e f,w.heap[g]? = some (.cells us e f) ∧ us.size = (G g).length
theorem globOk_vr {w : World} (h : GlobOk G w) (g : Nat) : GV G (env0 w.heap) w.heap (sto []) g := by
  refine ⟨?_,h.2 g⟩
  replace h:=h.1
  refine .ro _ g 0 (fun j=>if hj : j < (G g).length then (h g j hj).choose else undef) (fun j hj=>?_) (fun j hj=>?_) (fun j hj=>?_)
  · have := (h g j hj).choose_spec
    simp only [hj,dif_pos,Nat.zero_add]
    exact ⟨by rw [VR.fz0 this.1]; rfl,this.1⟩
  · have := (h g j hj).choose_spec
    simp only [hj,dif_pos]
    exact this.2.1
  · exact (h g j hj).choose_spec.2.2

theorem law_calls {f : FuncId} {as : List D} {W : World} {vs : List Value} {d : D} (hG : GlobOk G W) (hv : VRs (env0 W.heap) W.heap (sto []) as vs) (h : FCall P G f as [] d []) :
    Calls P f vs.toArray W fun e W'=>∃ E' v,e = .returned v ∧ VR E' W'.heap (sto []) d v ∧ Below W.heap.size W W':=by
  have C : Core G (env0 W.heap) W.heap (sto []) ([] : List AObj).length := by
    refine ⟨fun k=>trivial,fun b o hh=>?_,fun b o q hq=>by simp only [env0] at hq; split at hq <;> simp at hq,fun b o hq=>by simp only [env0] at hq; split at hq <;> simp at hq,fun k _=>rfl,globOk_vr hG⟩
    simp only [env0] at hh
    by_cases hb : b < W.heap.size
    · exact hb
    · simp [hb] at hh
  refine (h.run (env0 W.heap) W vs C hv).mono fun e W' ⟨E',v,e1,hd,_,g,s⟩=>⟨E',v,e1,hd,s.os,s.tape,s.output,g.sz,fun k hk=>?_⟩
  exact g.blk k hk (fun o=>.inr (by simp [env0,hk,Own.frz]))

open Go.ChangeShapes Go.WideShapes Go.ChangeAt in
theorem law_contract {f : FuncId} {fn : Func} {s : ChangeSpec} {ts : List TypeId} {tb : TypeId} {base n : Nat} (hl : laidOutB P = true) (hts : fn.params.toList = ts) (hsimp : ts.all (simple P n) = true)
    (hread : ∀ t ∈ ts,P.readableRec t = true ∧ t < P.types.size) (hvars : s.vars = []) (hres : fn.resultTypes = #[tb]) (hbu : P.underlying tb = some .bool)
    (hspec : ∀ ds : List (DataW H),ds.length = ts.length → s.fn H ds = { results:=[.lit (.bool true)],args:=ds })
    (hlaw : ∀ as,ArgsR P n ts as → FCall P G f as [] (vB true) [])
    {W : World} {args : Array Value} {ds gs : List (DataW H)} {before : List MemPlace} (hval : ∀ (j : Nat) t v,fn.params[j]? = some t → args[j]? = some v → Value.okWide P W .any base t v)
    (hW : DataW.Whole enc P fn.params.toList s.vars false W args.toList ds gs before)
    (hsz : (DataW.weightsEach P (fn.params.toList ++ s.plain.varTypes P) (ds ++ gs)).all (· ≤ reachBytes) = true) (hG : GlobOk G W) :
    Calls P f args W fun e W'=>∃ v,e = .returned v ∧ s.post enc P fn false true false false W args v W':=by
  have hW':=hW
  obtain ⟨p,q,hA,hV,rfl,hfz,hnd⟩:=hW
  rw [hts] at hA
  have hlen : ds.length = ts.length := by
    have key : ∀ {ts : List TypeId} {vs : List Value} {ds : List (DataW H)} {ps : List MemPlace}, DataW.TrodAll enc P W 0 (fun _ => true) true ts vs ds ps → ds.length = ts.length := by
      intro ts
      induction ts with
      | nil=>intro vs ds ps h; obtain ⟨_,rfl,_⟩:=trodAll_nil h; rfl
      | cons t ts ih =>
        intro vs ds ps h
        obtain ⟨v,vs',d,ds',p,q,rfl,rfl,rfl,_,h2⟩:=trodAll_cons h
        simp [ih h2]
    exact key hA
  rw [hvars] at hV
  obtain ⟨rfl,rfl⟩:=trodVars_none hV
  have hw : ∀ k ∈ DataW.weightsEach P ts ds, k ≤ reachBytes := by
    intro k hk
    have hz:=List.all_eq_true.1 hsz k
    rw [hts,List.append_nil] at hz
    have hvt : ∀ (ts us : List TypeId) (ds : List (DataW H)), ds.length = ts.length → DataW.weightsEach P (ts ++ us) ds = DataW.weightsEach P ts ds := by
      intro ts
      induction ts with
      | nil=>intro us ds h; have : ds = []:=List.eq_nil_of_length_eq_zero (by simpa using h); subst this; cases us <;> rfl
      | cons t ts ih =>
        intro us ds h
        cases ds with
        | nil=>simp at h
        | cons d ds=>simp only [List.cons_append,DataW.weightsEach]; rw [ih us ds (by simpa using h)]
    have:=hz (by rw [hvt _ _ _ hlen]; exact hk)
    simpa using this
  obtain ⟨as, a1, a2⟩ := trodAll_args (base := base) hsimp hA hw (fun j t v h1 h2 => hval j t v (by
    have : fn.params.toList[j]? = some t:=by rw [hts]; exact h1
    simpa using this) (by simpa using h2))
  have hc:=law_calls hG a2 (hlaw as a1)
  rw [Array.toArray_toList] at hc
  refine hc.mono fun e W' ⟨E',v,he,hd,bel⟩=>?_
  obtain rfl:=hd.v_inv
  obtain ⟨pa,hb⟩:=trodAll_back hl bel hread hA
  refine ⟨_,he,_,_,_,[],pa,[],hW',?_,?_,?_,bel.frame _,fun h=>by cases h⟩
  · rw [List.append_nil, hspec ds hlen, hres]
    exact trodAll_mk1 (shut_bool hbu _)
  · rw [List.append_nil, hspec ds hlen, hts]
    exact hb
  · rw [List.append_nil, hspec ds hlen, hvars]
    rfl

theorem list_of {n : Nat} {α : Type} {f : α → List D} {e t : TypeId} {ds : List D} (hu : P.underlying t = some (.slice e)) (he : ∀ x, Rd P n e x → ∃ y, x = f y) (h : Rd P (n + 1) t ds) :
    ∃ l : List α,argD P t ds = .list .any (l.map f):=by
  simp only [Rd,hu] at h
  obtain ⟨xs,rfl,_,hx⟩:=h
  refine ⟨?_,?_⟩
  · exact xs.attach.map fun x=>(he x.1 (hx x.1 x.2)).choose
  · simp only [argD, hu, List.map_map, D.list.injEq, true_and]
    have : ∀ x : { x // x ∈ xs },f ((he x.1 (hx x.1 x.2)).choose) = x.1:=fun x=>((he x.1 (hx x.1 x.2)).choose_spec).symm
    have h2 : (xs.attach.map fun x=>f ((he x.1 (hx x.1 x.2)).choose)) = xs.attach.map (fun x=>x.1):=List.map_congr_left fun x _=>this x
    rw [List.attach_map_subtype_val] at h2
    exact h2.symm


end Go.AL



namespace Go.AL
open Go
variable {P : Program} {G : Glob}
structure ECall (P : Program) (f : FuncId) (args : List D) (d : D) : Prop where
 run : ∀ E (w : World) σ vs,VRs E w.heap σ args vs → ∃ v,(callFunc f vs.toArray).run P w = .ok (.value v) w ∧ VR E w.heap σ d v
theorem CallLeaf.e {ρ : Nat → D} {f : FuncId} {args args' : List D} {d : D} {σ : Store} {id : Nat} {K Kv : KD} (hr : Wks args args') (h : ECall P f args' d) (hk : K d [] []) : CallLeaf P G ρ f args σ id K Kv :=
 .inl ⟨d, [], [], ⟨fun E w st a vs R hv _ _ => by
  obtain ⟨v,h1,h2⟩:=h.run E w st.σ vs (hr.sem _ _ _ _ hv)
  exact .inr ⟨v,w,h1,E,v,rfl,StepTo.same R h2⟩⟩,hk⟩
theorem ibs_ {f : FuncId} {fn : Func} (hf : P.funcs[f]? = some fn) (hname : (fn.name == "runtime.NumGoroutine") = false) (hb : fn.body.isNone = true) (hn : Extern.findNext fn = none)
  (he : Extern.find fn = some Extern.BytealgIndexByte.indexByte) (s : Str) (c : Int) : ECall P f [sD s,.v (.int .u8 c)] (vI (Lib.indexByte s c.toNat.toUInt8)):=by
 refine ⟨fun E w σ vs hv=>?_⟩
 obtain ⟨v1, v2, rfl, h1, h2⟩ : ∃ v1 v2, vs = [v1, v2] ∧ VR E w.heap σ (sD s) v1 ∧ VR E w.heap σ (.v (.int .u8 c)) v2 := by
  obtain ⟨hl,hv⟩:=hv
  match vs,hl with
  | [v1,v2],_=>exact ⟨v1,v2,rfl,hv 0 (by simp) (by simp),hv 1 (by simp) (by simp)⟩
 obtain rfl:=h1.v_inv
 obtain rfl:=h2.v_inv
 refine ⟨_,?_,.v _⟩
 rw [run_callFunc_extern hf hname hb hn he]
 show Result.andThen ((Extern.BytealgIndexByte.indexByte #[.string (sB s),.int .u8 c]).run P w) _ = _
 rw [Lib.run_indexByteString]
 rfl
theorem bytesOf_nats : ∀ l : List UInt8, Lib.bytesOf (l.map fun u => ((u.toNat : Nat) : Int)) = l
 | []=>rfl
 | a :: l=>by
  have ih:=bytesOf_nats l
  unfold Lib.bytesOf at ih ⊢
  simp only [List.map_cons,ih]
  simp
theorem ibb_ {f : FuncId} {fn : Func} (hf : P.funcs[f]? = some fn) (hname : (fn.name == "runtime.NumGoroutine") = false) (hb : fn.body.isNone = true) (hn : Extern.findNext fn = none)
  (he : Extern.find fn = some Extern.BytealgIndexByte.indexByte) (s : List UInt8) (c : Int) : ECall P f [LB s,.v (.int .u8 c)] (vI (Lib.indexByte s c.toNat.toUInt8)):=by
 refine ⟨fun E w σ vs hv=>?_⟩
 obtain ⟨v1, v2, rfl, h1, h2⟩ : ∃ v1 v2, vs = [v1, v2] ∧ VR E w.heap σ (LB s) v1 ∧ VR E w.heap σ (.v (.int .u8 c)) v2 := by
  obtain ⟨hl,hv⟩:=hv
  match vs,hl with
  | [v1,v2],_=>exact ⟨v1,v2,rfl,hv 0 (by simp) (by simp),hv 1 (by simp) (by simp)⟩
 obtain rfl:=h2.v_inv
 cases h1 with
 | list t xs A c' s' u hc hb' hs hn' ha hv' hf' ht =>
  have hrun : ∀ V : Value, (Extern.BytealgIndexByte.indexByte #[V, .int .u8 c]).run P w = .ok (.int .i64 (Lib.indexByte s c.toNat.toUInt8)) w →
    (callFunc f #[V,.int .u8 c]).run P w = .ok (.value (.int .i64 (Lib.indexByte s c.toNat.toUInt8))) w:=by
   intro V hV
   rw [run_callFunc_extern hf hname hb hn he,hV]
   rfl
  refine ⟨_,hrun _ ?_,.v _⟩
  rcases List.eq_nil_or_concat s with h0|⟨s1,x,h0⟩
  ·subst h0
   cases A with
   | none=>exact Lib.run_indexByteNil _ _ _ _
   | some a=>exact Lib.run_indexByteString (P:=P) .empty c w
  ·have hne : List.map byteD s ≠ [] := by rw [h0]; simp
   cases A with
   | none=>exact absurd (hn' rfl).1 hne
   | some a =>
    obtain ⟨hsp,hcell⟩:=ha a rfl
    have hsp:=hsp hne
    obtain ⟨b,off,sp⟩:=a
    simp only at hsp; subst hsp
    have hbd : ∀ i (hi : i < s.length),(List.map byteD s)[i]'(by simpa using hi) = [.v (.int .u8 (s[i]).toNat)]:=fun i hi=>by simp [byteD]
    have hl1 : ∀ i (hi : i < s.length),((List.map byteD s)[i]'(by simpa using hi)).length = 1:=fun i hi=>by rw [hbd i hi]; rfl
    have hpos : 0 < s.length:=by rw [h0]; simp
    have hs1 : s' = 1:=by rw [← hs 0 (by simpa using hpos),hl1 0 hpos]
    subst hs1
    have hx : (s.map fun u=>((u.toNat : Nat) : Int)).length = (List.map byteD s).length:=by simp
    have hcc : ∀ i, i < (List.map byteD s).length → w.cell? ⟨b, off + i, none⟩ = some (.int .u8 ((s.map fun u => ((u.toNat : Nat) : Int)).getD i 0)) := by
     intro i hi
     have hi' : i < s.length:=by simpa using hi
     have h3:=hv' i 0 hi (by rw [hl1 i hi']; omega)
     have h4:=(hcell i 0 hi (by omega)).2
     have h5 : VR E w.heap σ (.v (.int .u8 (s[i]).toNat)) (u i 0) := by
      have e : ((List.map byteD s)[i]'hi)[0]'(by rw [hl1 i hi']; omega) = .v (.int .u8 (s[i]).toNat) := by
       have:=hbd i hi'
       simp only [this,List.getElem_cons_zero]
      rw [e] at h3; exact h3
     rw [h5.v_inv] at h4
     rw [cell?_eq]
     have e6 : off + i * 1 + 0 = off + i:=by omega
     rw [e6] at h4
     rw [h4]
     simp [List.getD,hi']
    rw [Lib.run_indexByteSlice _ b off _ c' _ hx hcc c]
    rw [bytesOf_nats]
end Go.AL

namespace Go.AL
open Go
theorem mul64 {a b c : Int} (h : a * b = c) (hb : -9223372036854775808 ≤ c ∧ c ≤ 9223372036854775807) : intBin .mul .i64 a b = some c := by
 subst h; simp only [intBin]; rw [IntWalk.i64_in _ hb]
theorem wrapU8 (m : Nat) : IntKind.u8.wrap (m : Int) = ((UInt8.ofNat m).toNat : Int) := by
 rw [IntKind.wrap_u8]; simp
theorem wrapU8' {m : Nat} {u : UInt8} (h : u = UInt8.ofNat m) : IntKind.u8.wrap (m : Int) = (u.toNat : Int):=by subst h; exact wrapU8 m
theorem quo64n {a b : Nat} (h : 0 < b) (hb : a ≤ 9223372036854775807) : intBin .quo .i64 (a : Int) (b : Int) = some ((a / b : Nat) : Int) := by
 have h1 : ((a : Int)).tdiv (b : Int) = ((a / b : Nat) : Int):=(Int.ofNat_tdiv a b).symm
 have h2 : a / b ≤ a:=Nat.div_le_self _ _
 simp only [intBin]
 generalize a / b = q at *
 rw [if_neg (by omega),h1,IntWalk.i64_in _ (by omega)]
theorem quo64k {a b : Nat} {z : Int} (hz : z = (b : Int)) (h : 0 < b) (hb : a ≤ 9223372036854775807) : intBin .quo .i64 (a : Int) z = some ((a / b : Nat) : Int):=hz ▸ quo64n h hb
theorem shl64n {a k c : Nat} (hk : k ≤ 64) (h : a * 2 ^ k = c) (hc : c ≤ 9223372036854775807) : shiftB .shl .i64 (a : Int) (k : Int) = some (c : Int) := by
 have hm : min (k : Int).toNat IntKind.i64.bits = k := by
  have : IntKind.i64.bits = 64:=rfl
  rw [this]; simp; omega
 simp only [shiftB]
 rw [if_neg (by omega),hm]
 have : ((a : Int) * 2 ^ k) = (c : Int):=by rw [← h]; push_cast; rfl
 rw [this,IntWalk.i64_in _ (by omega)]
theorem or64n {x y c : Nat} (a i : Nat) (hx : x = a * 2 ^ i) (hy : y < 2 ^ i) (h : x + y = c) (hc : c ≤ 9223372036854775807) : intBin .or .i64 (x : Int) (y : Int) = some (c : Int) := by
 have h1 : x ||| y = c := by
  rw [← h,hx,← Nat.shiftLeft_eq]
  exact (Nat.shiftLeft_add_eq_or_of_lt hy a).symm
 simp only [intBin]
 have e : (BitVec.ofInt IntKind.i64.bits (x : Int) ||| BitVec.ofInt IntKind.i64.bits (y : Int)).toNat = c := by
  have hb : IntKind.i64.bits = 64:=rfl
  rw [hb,BitVec.toNat_or]
  simp only [BitVec.toNat_ofInt]
  have e1 : ((x : Int) % ((2 ^ 64 : Nat) : Int)).toNat = x:=by omega
  have e2 : ((y : Int) % ((2 ^ 64 : Nat) : Int)).toNat = y:=by omega
  rw [e1,e2,h1]
 rw [e,IntWalk.i64_in _ (by omega)]
theorem and64n {x y : Nat} (hx : x ≤ 9223372036854775807) (hy : y ≤ 9223372036854775807) : intBin .and .i64 (x : Int) (y : Int) = some ((x &&& y : Nat) : Int) := by
 simp only [intBin]
 have hle : x &&& y ≤ x:=Nat.and_le_left
 have e : (BitVec.ofInt IntKind.i64.bits (x : Int) &&& BitVec.ofInt IntKind.i64.bits (y : Int)).toNat = x &&& y := by
  have hb : IntKind.i64.bits = 64:=rfl
  rw [hb,BitVec.toNat_and]
  simp only [BitVec.toNat_ofInt]
  have e1 : ((x : Int) % ((2 ^ 64 : Nat) : Int)).toNat = x:=by omega
  have e2 : ((y : Int) % ((2 ^ 64 : Nat) : Int)).toNat = y:=by omega
  rw [e1,e2]
 rw [e,IntWalk.i64_in _ (by omega)]
theorem addN {a b c : Nat} (h : a + b = c) (hc : c ≤ 9223372036854775807) : intBin .add .i64 (a : Int) (b : Int) = some (c : Int):=add64 (by omega) (by omega)
theorem mulN {a b c : Nat} {z : Int} (hz : z = (b : Int)) (h : a * b = c) (hc : c ≤ 9223372036854775807) : intBin .mul .i64 (a : Int) z = some (c : Int) := by
 subst hz
 exact mul64 (by rw [← h]; simp) (by omega)
theorem slN {α : Type} {f : α → List D} {l r : List α} {lo hi : Int} {s a b : Nat} (h1 : lo = (a : Int)) (h2 : hi = (b : Int)) (hab : a ≤ b) (hb : b ≤ l.length) (hf : ∀ a, (f a).length = s) (e : (l.take b).drop a = r) :
  (0 ≤ lo ∧ lo ≤ hi ∧ hi ≤ ((l.map f).length : Nat) ∧ (∀ c ∈ l.map f,c.length = s) ∧ ((l.map f).take hi.toNat).drop lo.toNat = r.map f):=by
 subst h1; subst h2
 exact slL (by omega) (by omega) (by simp; omega) hf (by simpa using e)
theorem slDrop {α : Type} {f : α → List D} {l r : List α} {lo : Int} {s a : Nat} (h1 : lo = (a : Int)) (hb : a ≤ l.length) (hf : ∀ a, (f a).length = s) (e : l.drop a = r) :
  (0 ≤ lo ∧ lo ≤ ((l.map f).length : Nat) ∧ (((l.map f).length : Nat) : Int) ≤ ((l.map f).length : Nat) ∧ (∀ c ∈ l.map f,c.length = s) ∧ ((l.map f).take (((l.map f).length : Nat) : Int).toNat).drop lo.toNat = r.map f) :=
 slN h1 (b:=l.length) (by simp) hb (Nat.le_refl _) hf (by rw [List.take_length]; exact e)
theorem slTake {α : Type} {f : α → List D} {l r : List α} {hi : Int} {s b : Nat} (h2 : hi = (b : Int)) (hb : b ≤ l.length) (hf : ∀ a, (f a).length = s) (e : l.take b = r) :
  ((0 : Int) ≤ 0 ∧ 0 ≤ hi ∧ hi ≤ ((l.map f).length : Nat) ∧ (∀ c ∈ l.map f,c.length = s) ∧ ((l.map f).take hi.toNat).drop (0 : Int).toNat = r.map f) :=
 slN (a:=0) rfl h2 (Nat.zero_le _) hb hf (by simpa using e)
end Go.AL

namespace Go.AL
open Go
variable {P : Program} {T : Tab} {G : Glob}

structure PCall (P : Program) (G : Glob) (f : FuncId) (args : List D) (pre : List AObj) (q : D) (post : List AObj) : Prop where
 fn : IsFn P f
 run : ∀ E (w : World) vs, Core G E w.heap (sto pre) pre.length → VRs E w.heap (sto pre) args vs →
  Calls P f vs.toArray w (fun e w' => ∃ E' v, e = .panicked (thrown v) ∧ VR E' w'.heap (sto post) q v ∧ Core G E' w'.heap (sto post) post.length ∧
   Guar pre.length E w.heap (sto pre) E' w'.heap (sto post) ∧ WSame w w')
theorem PCall.congr {G' : Glob} {f : FuncId} {args : List D} {pre : List AObj} {q : D} {post : List AObj} (hg : G'.g = G.g) (h : PCall P G' f args pre q post) : PCall P G f args pre q post :=
 ⟨h.fn,fun E w vs C hv=>Calls.mono (h.run E w vs (C.congr hg) hv) fun e w' ⟨E',v,h1,h2,h3,h4,h5⟩=>⟨E',v,h1,h2,h3.congr hg.symm,h4,h5⟩⟩
def Glob.pan (G : Glob) (m : Nat) (post : List AObj) (q : D) : Glob:=⟨G.g,fun d _ σ=>FinS m post q σ d,[],none,fun _ _ _=>False⟩

theorem PCall.enter (hT : TOk P T) (hmix : P.follows .mixedOrders = true) {f : FuncId} {fn : Func} {c : Code} {args : List D} {pre : List AObj} {q : D} {post : List AObj} (S : List Nat)
  (hf : P.funcs[f]? = some fn) (hn : (fn.name == "runtime.NumGoroutine") = false) (hb : fn.body = some c) (ha : Nat.ble args.length fn.ntmps = true)
  (h : bds args → forceS (initS args 0) fun l=>wpc P T (G.pan pre.length post q) pre.length (pre.length + 1048576) fn.ntmps S c (fun _ _ _=>False) l (initO pre 0)) :
  PCall P G f args pre q post:=by
 refine ⟨⟨fn,hf,hn,by simp [hb]⟩,fun E w vs C hv=>calls_of_wp hf hb ?_⟩
 have hbd : bds args := fun d hd => by
  obtain ⟨i,hi,rfl⟩:=List.getElem_of_mem hd
  exact (hv.2 i hi (by have:=hv.1; omega)).bd 4
 replace h:=h hbd
 rw [forceS_eq] at h
 have hvl : vs.length = args.length:=hv.1
 have ha':=Nat.le_of_ble_eq_true ha
 have e1 : mkρ (initS args 0) = fun t=>args.getD t .junk:=by funext t; rw [mkρ_initS]; simp
 have e2 : mkσ (initO pre 0) = sto pre:=by funext t; rw [mkσ_initO]; simp [sto]
 have R : Rel (G.pan pre.length post q) E w (stOf (pre.length + 1048576) fn.ntmps (initS args 0) (initO pre 0))
   { tmps:=vs.toArray ++ Array.replicate (fn.ntmps - vs.toArray.size) undef,defers:=[] }:=by
  rw [stOf,e1,e2]
  refine ⟨⟨C.objs,C.bnd,C.sc,C.nf,fun k hk=>C.dead k (by simp at hk; omega),C.glob⟩,by simp; omega,fun t=>?_,Dfs.of_eq rfl rfl⟩
  show VR E w.heap (sto pre) (args.getD t .junk) _
  by_cases ht : t < args.length
  ·have := hv.2 t ht (by omega)
   have e1 : args.getD t .junk = args[t]:=by simp [List.getD,ht]
   have e2 : (vs.toArray ++ Array.replicate (fn.ntmps - vs.toArray.size) undef).getD t undef = vs[t]'(by omega) := by
    simp [Array.getElem?_append,show t < vs.length by omega]
   rw [e1,e2]; exact this
  ·have e1 : args.getD t .junk = .junk := by simp [List.getD, List.getElem?_eq_none (Nat.le_of_not_lt ht)]
   rw [e1]; exact .junk _
 refine wp_mono ((wpc_sound hT hmix c _ _ _ h).sem.sem (by simp) E _ w R) fun e a' w' hp=>?_
 rcases hp with ⟨E',st',⟨l',o',rfl,q⟩,hm,R',g,s⟩|⟨q0,v,E',st',rfl,hq,hv',hm,R',g,s⟩
 ·exact q.elim
 ·rw [stOf, e2] at g
  obtain ⟨E2,o1,o2,o3⟩:=FinS.out hq R'.core hv' g
  exact ⟨R'.defers.eq rfl,E2,v,rfl,o1,Core.congr (G:=G.pan pre.length post q) (G':=G) rfl o2,o3,s⟩

theorem CallPan.of2 {f : FuncId} {args args' : List D} {pre post : List AObj} {d d' : D} {σ : Store} {id : Nat} {q : Nat → Nat} {qi : Nat → Option Nat} {ups : List (Nat × AObj)}
  (h : PCall P G f args' pre d post)
  (L : Link q qi pre.length post.length σ pre post (updAll σ ups))
  (hr : ArgsTo (fun k=>(qi k).bind fun i=>if i < pre.length then some i else none) args args')
  (hd : D.ren (fun i=>if i < post.length then some (q i) else none) d = some d')
  (hq : ∀ i,i < post.length → σ (q i) ≠ .dead ∨ q i < id + 8) : CallPan P G f args σ id d' ups:=by
 refine ⟨h.fn,fun E w st a vs R hv hk h0=>?_⟩
 rw [← hk] at L
 have hv1:=hr.sem (L.pull.cmap (E:=E) (h:=w.heap)) hv
 refine Calls.mono (h.run (E.pull _ q) w vs (L.pull.core R.core |> fun C=>by simpa using C) hv1) fun e w' he=>?_
 obtain ⟨Ec,v,rfl,hvd,Cc,g,s⟩:=he
 have hqn : ∀ i, i < post.length → q i < st.nx := by
  intro i hi
  rcases hq i hi with h1|h1
  ·rcases Nat.lt_or_ge (q i) st.nx with hx | hx
   ·exact hx
   ·have := R.core.dead _ hx
    rw [hk] at this
    exact absurd this h1
  ·omega
 obtain ⟨C',g',M,Mq⟩:=L.step R.core hqn Cc g
 exact ⟨_,v,rfl,hvd.map' Mq hd,⟨C',R.n,fun t=>(R.slots t).keep M,R.defers.keep g'⟩,g',s⟩
theorem CallPan.po {G' : Glob} {f : FuncId} {args args' : List D} {pre post : List AObj} {d d' : D} {σ : Store} {id : Nat} {ups : List (Nat × AObj)} (qs : List Nat)
  (hr : ArgsTo (idxN pre.length qs) args args') (h : PCall P G' f args' pre d post) (hn : nodupN qs = true) (hle : Nat.ble pre.length post.length = true)
  (hp : preOk σ (idxN pre.length qs) qs pre) (hl : liveAll σ (qs.take pre.length)) (hnew : newOk σ id (qs.drop pre.length) 0)
  (hu : upsOf (atN qs) qs post = some ups) (hd : D.ren (atN qs) d = some d') (hg : G'.g = G.g:=by rfl) : CallPan P G f args σ id d' ups:=by
 replace h:=h.congr hg
 have hle:=Nat.le_of_ble_eq_true hle
 obtain ⟨u1,u2,u3⟩:=upsOf_spec hu
 have hat : ∀ i, i < post.length → atN qs i = some (qs.getD i 0) := by
  intro i hi
  simp [atN,List.getD,show i < qs.length by omega]
 have hidx : ∀ i,i < post.length → idx qs (qs.getD i 0) = some i:=fun i hi=>idx_get hn (hat i hi)
 have hrn : (fun k => (idx qs k).bind fun i => if i < pre.length then some i else none) = idxN pre.length qs := by
  funext k
  unfold idxN
  cases idx qs k with
  | none=>rfl
  | some j =>
   simp only [Option.bind_some]
   by_cases hj : j < pre.length
   ·have : Nat.blt j pre.length = true := by simpa [Nat.blt_eq] using hj
    rw [this]; simp [hj]
   ·have : Nat.blt j pre.length = false := by
     cases hb : Nat.blt j pre.length with
     | false=>rfl
     | true=>exact absurd (by simpa [Nat.blt_eq] using hb) hj
    rw [this]; simp [hj]
 have hrd : (fun i => if i < post.length then some (qs.getD i 0) else none) = atN qs := by
  funext i
  by_cases hi : i < post.length
  ·rw [if_pos hi,hat i hi]
  ·rw [if_neg hi,atN,List.getElem?_eq_none (by omega)]
 refine CallPan.of2 (q:=fun i=>qs.getD i 0) (qi:=idx qs) h ?_ (by rw [hrn]; exact hr) (by rw [hrd]; exact hd) (fun i hi=>?_)
 ·have hin : ∀ k, k ∈ qs → σ k = σ k := fun k hk => rfl
  refine ⟨fun k i e=>?_,hidx,hle,rfl,rfl,fun i hi=>?_,fun i hi=>?_,fun k e=>?_,fun i h1 h2=>?_⟩
  ·have h1 := idx_some e
   refine ⟨by simp [List.getD,h1],?_⟩
   rcases Nat.lt_or_ge i qs.length with h2|h2
   ·omega
   ·rw [List.getElem?_eq_none h2] at h1; simp at h1
  ·have e2 : pre[i]? = some pre[i] := by simp
   obtain ⟨s,e3,e4⟩:=preOk_get hp i _ e2
   have e5 : qs.getD i 0 = s:=by simp [List.getD,e3]
   show AObj.ren _ (σ (qs.getD i 0)) = _
   rw [hrn,e5,hin s (List.mem_of_getElem? e3),e4]
   simp [sto,List.getD,e2]
  ·have e2 : post[i]? = some post[i] := by simp
   have e1 : qs[i]? = some (qs.getD i 0):=hat i hi
   obtain ⟨y,e3,e4⟩:=u3 i _ _ e1 e2
   rw [hrd]
   show AObj.ren _ (sto post i) = some (updAll σ ups (qs.getD i 0))
   rw [updAll_get (by rw [u1]; exact hn) e4]
   have : sto post i = post[i]:=by simp [sto,List.getD,hi]
   rw [this,e3]
  ·refine updAll_not_mem _ _ _ (fun hm => ?_)
   rw [u1] at hm
   obtain ⟨j,hj,e2⟩:=List.getElem_of_mem hm
   have : idx qs k = some j:=idx_get hn (by simp [hj,e2])
   rw [this] at e; simp at e
  ·have e1 : qs[i]? = some (qs.getD i 0) := hat i h2
   rw [hin _ (List.mem_of_getElem? e1)]
   refine (newOk_get hnew _ ?_).2
   have : (qs.drop pre.length)[i - pre.length]? = some (qs.getD i 0) := by
    rw [List.getElem?_drop,show pre.length + (i - pre.length) = i by omega]; exact e1
   exact List.mem_of_getElem? this
 ·have e1 : qs[i]? = some (qs.getD i 0) := hat i hi
  by_cases h1 : i < pre.length
  ·have hm : qs.getD i 0 ∈ qs.take pre.length := by
    have : (qs.take pre.length)[i]? = some (qs.getD i 0):=by rw [List.getElem?_take,if_pos h1]; exact e1
    exact List.mem_of_getElem? this
   exact .inl (liveAll_get hl _ hm)
  ·refine .inr (newOk_get hnew _ ?_).1
   have : (qs.drop pre.length)[i - pre.length]? = some (qs.getD i 0) := by
    rw [List.getElem?_drop,show pre.length + (i - pre.length) = i by omega]; exact e1
   exact List.mem_of_getElem? this

theorem CallLeaf.po {ρ : Nat → D} {G' : Glob} {f : FuncId} {args args' : List D} {pre post : List AObj} {d d' : D} {σ : Store} {id : Nat} {K Kv : KD} {ups : List (Nat × AObj)} (qs : List Nat)
  (hr : ArgsTo (idxN pre.length qs) args args') (h : PCall P G' f args' pre d post) (hn : nodupN qs = true) (hle : Nat.ble pre.length post.length = true)
  (hp : preOk σ (idxN pre.length qs) qs pre) (hl : liveAll σ (qs.take pre.length)) (hnew : newOk σ id (qs.drop pre.length) 0)
  (hu : upsOf (atN qs) qs post = some ups) (hd : D.ren (atN qs) d = some d') (hk : G.pk d' ρ (updAll σ ups)) (hg : G'.g = G.g:=by rfl) : CallLeaf P G ρ f args σ id K Kv :=
 .inr (.inl ⟨d',ups,.po qs hr h hn hle hp hl hnew hu hd hg,hk⟩)
theorem CallLeaf.pv {ρ : Nat → D} {G' : Glob} {f : FuncId} {args args' : List D} {pre post : List AObj} {d d' : D} {σ : Store} {id : Nat} {K Kv : KD} {ups : List (Nat × AObj)} (qs : List Nat)
  (hr : ArgsTo (idxN pre.length qs) args args') (h : PCall P G' f args' pre d post) (hn : nodupN qs = true) (hle : Nat.ble pre.length post.length = true)
  (hp : preOk σ (idxN pre.length qs) qs pre) (hl : liveAll σ (qs.take pre.length)) (hnew : newOk σ id (qs.drop pre.length) 0)
  (hu : upsOf (atN qs) qs post = some ups) (hd : D.ren (atN qs) d = some d') (hk : G.vk d' ρ (updAll σ ups)) (dv : D) (hkv : Kv dv [] [panMark]) (hg : G'.g = G.g:=by rfl) : CallLeaf P G ρ f args σ id K Kv :=
 .inr (.inr ⟨d',ups,dv,[],[panMark],.po qs hr h hn hle hp hl hnew hu hd hg,hk,⟨rfl,rfl⟩,hkv⟩)

end Go.AL

namespace Go.AL
open Go
variable {P : Program} {T : Tab} {G : Glob}
theorem CallLeaf.wa {ρ : Nat → D} {G' : Glob} {f : FuncId} {args args' : List D} {d : D} {σ : Store} {id : Nat} {K Kv : KD} (h : FCall P G' f args' [] d [])
  (hd : D.ren (fun _=>none) d = some d) (hk : K d [] []) (hr : ArgsTo (fun _=>none) args args':=by (repeat' (first|exact ArgsTo.nil|refine ArgsTo.cons ?_ ?_|exact ArgTo.mk' rfl (Wk.refl _)|exact ArgTo.mk' rfl Wk.nilm|exact ArgTo.mk' rfl (Wk.int (by simp))|exact ArgTo.mk' rfl (Wk.list _ _)|exact ArgTo.mk' rfl (Wk.agg (by (repeat' (first|exact Wks.nil|refine Wks.cons ?_ ?_|exact Wk.refl _|exact Wk.nilm|exact Wk.list _ _  | exact Wk.natN rfl|refine Wk.agg ?_))))))) (hg : G'.g = G.g:=by rfl) : CallLeaf P G ρ f args σ id K Kv:=CallLeaf.w hr h hd hk hg
theorem CallLeaf.oa {ρ : Nat → D} {G' : Glob} {f : FuncId} {args args' : List D} {pre post : List AObj} {d d' : D} {σ : Store} {id : Nat} {K Kv : KD} {ups : List (Nat × AObj)} (qs : List Nat)
  (h : FCall P G' f args' pre d post) (hn : nodupN qs = true) (hle : Nat.ble pre.length post.length = true)
  (hu : upsOf (atN qs) qs post = some ups) (hd : D.ren (atN qs) d = some d') (hk : K d' ups (qs.take pre.length))
  (hr : ArgsTo (idxN pre.length qs) args args':=by (repeat' (first|exact ArgsTo.nil|refine ArgsTo.cons ?_ ?_|exact ArgTo.mk' rfl (Wk.refl _)|exact ArgTo.mk' rfl Wk.nilm|exact ArgTo.mk' rfl (Wk.int (by simp))|exact ArgTo.mk' rfl (Wk.list _ _)|exact ArgTo.mk' rfl (Wk.agg (by (repeat' (first|exact Wks.nil|refine Wks.cons ?_ ?_|exact Wk.refl _|exact Wk.nilm|exact Wk.list _ _  | exact Wk.natN rfl|refine Wk.agg ?_)))))))
  (hp : preOk σ (idxN pre.length qs) qs pre:=by (repeat' (first|exact trivial|exact rfl|refine And.intro ?_ ?_))) (hl : liveAll σ (qs.take pre.length):=by (repeat' (first|exact trivial|exact rfl|refine And.intro ?_ ?_))) (hnew : newOk σ id (qs.drop pre.length) 0:=by (repeat' (first|exact trivial|exact rfl|refine And.intro ?_ ?_))) (hg : G'.g = G.g:=by rfl) : CallLeaf P G ρ f args σ id K Kv:=CallLeaf.o qs hr h hn hle hp hl hnew hu hd hk hg
theorem okT {p : Prop} (h : p:=by (repeat' (first|exact trivial|exact Wk.refl _|exact ObWk.refl _|exact rfl|exact ⟨_,rfl⟩|exact Nat.zero_lt_one|refine And.intro ?_ ?_|unfold okTo|(unfold okO; conv=>whnf)|(unfold okS; conv=>whnf)|(unfold SlotOk; conv=>whnf)|(unfold ObjOk; conv=>whnf)|(unfold okCells; conv=>whnf)|(unfold liveTo; conv=>whnf)|exact Nat.zero_lt_succ _))) : p:=h
theorem finT {p : Prop} (h : p:=by (try unfold pullOk); (repeat' (first|exact trivial|exact ObWk.refl _|refine And.intro ?_ ?_|unfold pullOk))) : p:=h
theorem argT {p : Prop} (h : p:=by (repeat' (first|exact ArgsTo.nil|refine ArgsTo.cons ?_ ?_|exact ArgTo.mk' rfl (Wk.refl _)|exact ArgTo.mk' rfl Wk.nilm|exact ArgTo.mk' rfl (Wk.int (by simp))|exact ArgTo.mk' rfl (Wk.list _ _)|exact ArgTo.mk' rfl (Wk.agg (by (repeat' (first|exact Wks.nil|refine Wks.cons ?_ ?_|exact Wk.refl _|exact Wk.nilm|exact Wk.list _ _  | exact Wk.natN rfl|refine Wk.agg ?_))))))) : p:=h
theorem triT {p : Prop} (h : p:=by (repeat' (first|exact trivial|exact rfl|refine And.intro ?_ ?_))) : p:=h
end Go.AL

namespace Go.AL
open Go
variable {P : Program} {T : Tab} {G : Glob}

def modeOf : Option Value → FrameMode
 | none=>.returning
 | some v=>.panicking (thrown v)
def Thrown (E : Env) (h : Heap) (σ : Store) : Option D → Option Value → Prop
 | none,none=>True
 | some d,some v=>VR E h σ d v
 | _,_=>False

structure DCall (P : Program) (G : Glob) (f : FuncId) (args : List D) (pre : List AObj) (q : Option D) (post : List AObj) : Prop where
 fn : IsFn P f
 run : ∀ E (w : World) vs ov, Core G E w.heap (sto pre) pre.length → VRs E w.heap (sto pre) args vs → Thrown E w.heap (sto pre) q ov →
  CallsD P f vs.toArray (modeOf ov) w (fun e u' w' => (∃ rv, e = .returned rv) ∧ settle u' = .returning ∧ ∃ E', Core G E' w'.heap (sto post) post.length ∧
   Guar pre.length E w.heap (sto pre) E' w'.heap (sto post) ∧ WSame w w')
theorem DCall.congr {G' : Glob} {f : FuncId} {args : List D} {pre : List AObj} {q : Option D} {post : List AObj} (hg : G'.g = G.g) (h : DCall P G' f args pre q post) : DCall P G f args pre q post :=
 ⟨h.fn,fun E w vs ov C hv ht=>CallsD.mono (h.run E w vs ov (C.congr hg) hv ht) fun e u' w' ⟨h1,h2,E',h3,h4,h5⟩=>⟨h1,h2,E',h3.congr hg.symm,h4,h5⟩⟩

structure DoorOk (P : Program) (G : Glob) (f : FuncId) (args : List D) (q : Option D) (σ : Store) (ups : List (Nat × AObj)) : Prop where
 fn : IsFn P f
 sem : ∀ E w st a vs ov, Rel G E w st a → VRs E w.heap st.σ args vs → Thrown E w.heap st.σ q ov → st.σ = σ →
  CallsD P f vs.toArray (modeOf ov) w (fun e u' w'=>(∃ rv,e = .returned rv) ∧ settle u' = .returning ∧ ∃ E',StepTo G E w st a E' w' (.v undef) undef ups)
def Door (P : Program) (G : Glob) (f : FuncId) (args : List D) (q : Option D) (σ : Store) (K : Store → Prop) : Prop:=∃ ups,DoorOk P G f args q σ ups ∧ K (updAll σ ups)

theorem DoorOk.of2 {f : FuncId} {args args' : List D} {pre post : List AObj} {qo : Option D} {σ : Store} {q : Nat → Nat} {qi : Nat → Option Nat} {ups : List (Nat × AObj)}
  (h : DCall P G f args' pre qo post)
  (L : Link q qi pre.length post.length σ pre post (updAll σ ups))
  (hr : ArgsTo (fun k=>(qi k).bind fun i=>if i < pre.length then some i else none) args args')
  (hd : ∀ d,qo = some d → ∀ r,D.ren r d = some d)
  (hq : ∀ i,i < post.length → σ (q i) ≠ .dead) : DoorOk P G f args qo σ ups:=by
 refine ⟨h.fn,fun E w st a vs ov R hv ht hk=>?_⟩
 rw [← hk] at L
 have hv1:=hr.sem (L.pull.cmap (E:=E) (h:=w.heap)) hv
 have ht1 : Thrown (E.pull (fun k => (qi k).bind fun i => if i < pre.length then some i else none) q) w.heap (sto pre) qo ov := by
  cases qo <;> cases ov <;> simp only [Thrown] at ht ⊢
  exact ht.map' (L.pull.cmap (E:=E) (h:=w.heap)) (hd _ rfl _)
 refine CallsD.mono (h.run (E.pull _ q) w vs ov (L.pull.core R.core |> fun C=>by simpa using C) hv1 ht1) fun e u' w' he=>?_
 obtain ⟨h1,h2,Ec,Cc,g,s⟩:=he
 have hqn : ∀ i, i < post.length → q i < st.nx := by
  intro i hi
  rcases Nat.lt_or_ge (q i) st.nx with hx|hx
  ·exact hx
  ·have := R.core.dead _ hx
   rw [hk] at this
   exact absurd this (hq i hi)
 obtain ⟨C',g',M,Mq⟩:=L.step R.core hqn Cc g
 exact ⟨h1,h2,_,.v _,⟨C',R.n,fun t=>(R.slots t).keep M,R.defers.keep g'⟩,g',s⟩
theorem Door.o {G' : Glob} {f : FuncId} {args args' : List D} {pre post : List AObj} {qo : Option D} {σ : Store} {K : Store → Prop} {ups : List (Nat × AObj)} (qs : List Nat)
  (hr : ArgsTo (idxN pre.length qs) args args') (h : DCall P G' f args' pre qo post) (hn : nodupN qs = true) (hle : Nat.ble pre.length post.length = true)
  (hp : preOk σ (idxN pre.length qs) qs pre) (hl : liveAll σ (qs.take pre.length)) (hnew : newOk σ 0 (qs.drop pre.length) 0) (hle2 : Nat.ble post.length pre.length = true)
  (hu : upsOf (atN qs) qs post = some ups) (hd : ∀ d,qo = some d → ∀ r,D.ren r d = some d) (hk : K (updAll σ ups)) (hg : G'.g = G.g:=by rfl) : Door P G f args qo σ K:=by
 replace h:=h.congr hg
 have hle:=Nat.le_of_ble_eq_true hle
 obtain ⟨u1,u2,u3⟩:=upsOf_spec hu
 have hat : ∀ i, i < post.length → atN qs i = some (qs.getD i 0) := by
  intro i hi
  simp [atN,List.getD,show i < qs.length by omega]
 have hidx : ∀ i,i < post.length → idx qs (qs.getD i 0) = some i:=fun i hi=>idx_get hn (hat i hi)
 have hrn : (fun k => (idx qs k).bind fun i => if i < pre.length then some i else none) = idxN pre.length qs := by
  funext k
  unfold idxN
  cases idx qs k with
  | none=>rfl
  | some j =>
   simp only [Option.bind_some]
   by_cases hj : j < pre.length
   ·have : Nat.blt j pre.length = true := by simpa [Nat.blt_eq] using hj
    rw [this]; simp [hj]
   ·have : Nat.blt j pre.length = false := by
     cases hb : Nat.blt j pre.length with
     | false=>rfl
     | true=>exact absurd (by simpa [Nat.blt_eq] using hb) hj
    rw [this]; simp [hj]
 have hrd : (fun i => if i < post.length then some (qs.getD i 0) else none) = atN qs := by
  funext i
  by_cases hi : i < post.length
  ·rw [if_pos hi,hat i hi]
  ·rw [if_neg hi,atN,List.getElem?_eq_none (by omega)]
 have hle2:=Nat.le_of_ble_eq_true hle2
 refine ⟨ups,?_,hk⟩
 refine DoorOk.of2 (q:=fun i=>qs.getD i 0) (qi:=idx qs) h ?_ (by rw [hrn]; exact hr) hd (fun i hi=>?_)
 ·have hin : ∀ k, k ∈ qs → σ k = σ k := fun k hk => rfl
  refine ⟨fun k i e=>?_,hidx,hle,rfl,rfl,fun i hi=>?_,fun i hi=>?_,fun k e=>?_,fun i h1 h2=>?_⟩
  ·have h1 := idx_some e
   refine ⟨by simp [List.getD,h1],?_⟩
   rcases Nat.lt_or_ge i qs.length with h2|h2
   ·omega
   ·rw [List.getElem?_eq_none h2] at h1; simp at h1
  ·have e2 : pre[i]? = some pre[i] := by simp
   obtain ⟨s,e3,e4⟩:=preOk_get hp i _ e2
   have e5 : qs.getD i 0 = s:=by simp [List.getD,e3]
   show AObj.ren _ (σ (qs.getD i 0)) = _
   rw [hrn,e5,hin s (List.mem_of_getElem? e3),e4]
   simp [sto,List.getD,e2]
  ·have e2 : post[i]? = some post[i] := by simp
   have e1 : qs[i]? = some (qs.getD i 0):=hat i hi
   obtain ⟨y,e3,e4⟩:=u3 i _ _ e1 e2
   rw [hrd]
   show AObj.ren _ (sto post i) = some (updAll σ ups (qs.getD i 0))
   rw [updAll_get (by rw [u1]; exact hn) e4]
   have : sto post i = post[i]:=by simp [sto,List.getD,hi]
   rw [this,e3]
  ·refine updAll_not_mem _ _ _ (fun hm => ?_)
   rw [u1] at hm
   obtain ⟨j,hj,e2⟩:=List.getElem_of_mem hm
   have : idx qs k = some j:=idx_get hn (by simp [hj,e2])
   rw [this] at e; simp at e
  ·have e1 : qs[i]? = some (qs.getD i 0) := hat i h2
   rw [hin _ (List.mem_of_getElem? e1)]
   refine (newOk_get hnew _ ?_).2
   have : (qs.drop pre.length)[i - pre.length]? = some (qs.getD i 0) := by
    rw [List.getElem?_drop,show pre.length + (i - pre.length) = i by omega]; exact e1
   exact List.mem_of_getElem? this
 ·have e1 : qs[i]? = some (qs.getD i 0) := hat i hi
  by_cases h1 : i < pre.length
  ·have hm : qs.getD i 0 ∈ qs.take pre.length := by
    have : (qs.take pre.length)[i]? = some (qs.getD i 0):=by rw [List.getElem?_take,if_pos h1]; exact e1
    exact List.mem_of_getElem? this
   exact liveAll_get hl _ hm
  ·omega
end Go.AL

namespace Go.AL
open Go
variable {P : Program} {T : Tab} {G : Glob}
abbrev ptrs (ks : List (Nat × Nat)) : List D:=ks.map fun k=>.ptr k.1 k.2
theorem Guar.ptr {m E h σ E' h' σ'} {k o : Nat} {v : Value} (g : Guar m E h σ E' h' σ') (hk : k < m) (hv : VR E h σ (.ptr k o) v) : VR E' h' σ' (.ptr k o) v := by
 obtain ⟨rfl,hl⟩:=hv.ptr_inv
 obtain ⟨a1,a2,a3,a4⟩:=g.ids k hk hl
 rw [← a2]
 exact .ptr k o a1
theorem resD_eq {st st' : St} {r : ResultVar} (h1 : st.ρ = st'.ρ) (h2 : st.σ = st'.σ) : resD T st r = resD T st' r := by
 cases r <;> simp only [resD,h1,h2]
theorem resDs_eq {st st' : St} (h1 : st.ρ = st'.ρ) (h2 : st.σ = st'.σ) : ∀ rs : List ResultVar, resDs T st rs = resDs T st' rs
 | []=>rfl
 | r :: rs=>by simp only [resDs,resD_eq (r:=r) h1 h2,resDs_eq h1 h2 rs]
theorem FCall.enterD (hT : TOk P T) (hmix : P.follows .mixedOrders = true) {f fc : FuncId} {fn : Func} {r0 r1 : Nat} {ops0 : Array Oper} {o1 o2 : Oper} {c2 : Code} {t : Nat} {caps : Array Operand} {ts : Array TypeId}
  {args : List D} {pre : List AObj} {d : D} {post : List AObj}
  (hf : P.funcs[f]? = some fn) (hn : (fn.name == "runtime.NumGoroutine") = false) (hb : fn.body = some (.seq (.region r0 ops0 false) (.seq (.region r1 #[o1,o2] false) c2))) (ha : Nat.ble args.length fn.ntmps = true)
  (g1 : o1.guard = none) (e1 : o1.op = .makeFunc (.func fc) #[] caps) (d1 : o1.dst = some t) (g2 : o2.guard = none) (e2 : o2.op = .defer ⟨.value (.tmp t),#[],ts⟩) (d2 : o2.dst = none)
  (ht : Nat.blt t fn.ntmps = true)
  (h : bds args → forceS (initS args 0) fun l => wpRegL P T G pre.length (pre.length + 1048576) fn.ntmps r0 ops0.toList false (fun l o =>
   ∃ ks : List (Nat × Nat), caps.toList.map (ev G (mkρ l)) = ptrs ks ∧ (∀ k ∈ ks, k.1 < pre.length + 4096) ∧
    ∀ ds, wpc P T ⟨G.g, fun q ρ σ => Door P G fc (ptrs ks) (some q) σ (fun σ' => resK T ⟨ρ, σ', pre.length + 1048576, fn.ntmps⟩ fn.results.toList (FinS pre.length post d σ')), ds, none, fun _ _ _ => False⟩ (pre.length + 4096) (pre.length + 1048576) fn.ntmps [] c2
     (fun e l o => match e with
      | .normal=>Door P G fc (ptrs ks) none (mkσ o) (fun σ'=>resK T ⟨mkρ l,σ',pre.length + 1048576,fn.ntmps⟩ fn.results.toList (FinS pre.length post d σ'))
      | .ret=>Door P G fc (ptrs ks) none (mkσ o) (fun σ'=>resK T ⟨mkρ l,σ',pre.length + 1048576,fn.ntmps⟩ fn.results.toList (FinS pre.length post d σ'))
      | _=>False) ((t,.func (.func fc) [] (ptrs ks)) :: l) o) l (initO pre 0))
  (hdf : G.df = []:=by rfl) (hpk : ∀ q ρ σ,¬ G.pk q ρ σ:=by exact fun _ _ _ h=>h) (hmk : G.mks = none:=by rfl) : FCall P G f args pre d post:=by
 refine FCall.bound ⟨fn,hf,hn,by simp [hb]⟩ fun hbd=>?_
 replace h:=h hbd
 rw [forceS_eq] at h
 refine ⟨⟨fn,hf,hn,by simp [hb]⟩,fun E w vs C hv=>calls_of_wp_defers hf hb ?_⟩
 have hvl : vs.length = args.length:=hv.1
 have ha':=Nat.le_of_ble_eq_true ha
 have ht' : t < fn.ntmps:=by simpa [Nat.blt_eq] using ht
 have q1 : mkρ (initS args 0) = fun t=>args.getD t .junk:=by funext t; rw [mkρ_initS]; simp
 have q2 : mkσ (initO pre 0) = sto pre:=by funext t; rw [mkσ_initO]; simp [sto]
 have R : Rel G E w (stOf (pre.length + 1048576) fn.ntmps (initS args 0) (initO pre 0))
   { tmps:=vs.toArray ++ Array.replicate (fn.ntmps - vs.toArray.size) undef,defers:=[] }:=by
  rw [stOf,q1,q2]
  refine ⟨⟨C.objs,C.bnd,C.sc,C.nf,fun k hk=>C.dead k (by simp at hk; omega),C.glob⟩,by simp; omega,fun t=>?_,Dfs.of_eq hmk hdf.symm⟩
  show VR E w.heap (sto pre) (args.getD t .junk) _
  by_cases ht : t < args.length
  ·have := hv.2 t ht (by omega)
   have e1 : args.getD t .junk = args[t]:=by simp [List.getD,ht]
   have e2 : (vs.toArray ++ Array.replicate (fn.ntmps - vs.toArray.size) undef).getD t undef = vs[t]'(by omega) := by
    simp [Array.getElem?_append,show t < vs.length by omega]
   rw [e1,e2]; exact this
  ·have e1 : args.getD t .junk = .junk := by simp [List.getD, List.getElem?_eq_none (Nat.le_of_not_lt ht)]
   rw [e1]; exact .junk _
 revert h
 generalize hN : (fun (l : Sl) (o : So)=>∃ ks : List (Nat × Nat),caps.toList.map (ev G (mkρ l)) = ptrs ks ∧ _) = N
 intro h
 have hreg := (wpRegL_sound (P := P) (T := T) (G := G) (m := pre.length) (nx := pre.length + 1048576) (n := fn.ntmps) (id := r0) (ops := ops0) (draw := false)
  (Q:=fun e l o=>match e with|.normal=>N l o|_=>False) hT hmix h).sem.sem (by simp) E _ w R
 refine wp_seq (wp_mono hreg fun e a' w' hp=>?_)
 rcases hp with ⟨E',st',⟨l',o',rfl,q⟩,hm,R',g,s⟩|⟨q,_,_,st',_,hq,_⟩
 case inr=>exact absurd hq (hpk _ _ _)
 cases e with
 | normal =>
  rw [← hN] at q
  obtain ⟨ks,hcaps,hks,hrest⟩:=q
  rw [stOf,q2] at g
  -- the closure is made,and deferred
  show Code.wp P _ _ _ _
  refine (wpIn_wide (n:=0)).1 (wpIn_seq (wpIn_region (F:=fen none) ?_))
  have hrange : List.range (#[o1,o2] : Array Oper).size = [0,1]:=rfl
  rw [hrange,wpOpsIn_cons]
  have hw1 : ∀ tmps,Region.wanted o1 (yielded #[o1,o2] tmps) = true:=fun tmps=>by simp [Region.wanted,g1]
  have hw2 : ∀ tmps,Region.wanted o2 (yielded #[o1,o2] tmps) = true:=fun tmps=>by simp [Region.wanted,g2]
  unfold wpOpIn
  simp only [show (#[o1,o2] : Array Oper)[0]? = some o1 from rfl,hw1,if_true]
  refine wq_in (r:=none) (.inl rfl) ?_
  have hmkf:=makeFunc_op (P:=P) (G:=G) (ρ:=mkρ l') (σ:=mkσ o') (id:=0) e1 E' a' w' _ R' (fun _ _=>rfl) (fun k hk=>by simp [keysOf] at hk) (by show 0 < pre.length + 1048576; omega)
  refine wp_mono2 (fun a1 w1 hh=>?_) (fun e a w hh=>hh.elim) hmkf
  obtain ⟨E1,v1,rfl,S1⟩:=hh
  have R1:=S1.rel.put S1.vr ht'
  rw [d1]
  rw [wpOpsIn_cons]
  unfold wpOpIn
  simp only [show (#[o1,o2] : Array Oper)[1]? = some o2 from rfl,hw2,if_true]
  refine wq_in (r:=none) (.inl rfl) ?_
  have hv1 : VR E1 w1.heap (mkσ o') (.func (.func fc) [] (ptrs ks)) v1 := by
   have:=S1.vr
   rw [hcaps] at this
   exact this
  obtain ⟨cvs, rfl, hcv⟩ : ∃ cvs : List Value, v1 = .func (.func fc) #[] cvs.toArray ∧ VRs E1 w1.heap (mkσ o') (ptrs ks) cvs := by
   cases hv1 with
   | func _ _ _ us vs l1 l2 f1 f2 =>
    have : us = []:=List.eq_nil_of_length_eq_zero l1
    subst this
    exact ⟨vs,rfl,l2,f2⟩
  have hrun : (execOp (a'.put (some t) (.func (.func fc) #[] cvs.toArray)).eval o2).run P w1 = .ok (.defer { target := .fn (.func fc) cvs.toArray, args := #[] }) w1 := by
   have hsz : t < a'.tmps.size:=by rw [R'.n]; exact ht'
   have : (a'.put (some t) (.func (.func fc) #[] cvs.toArray)).eval (.tmp t) = .func (.func fc) #[] cvs.toArray := by
    simp [Act.put,Act.eval,hsz]
   simp [execOp,e2,resolve,this,Deferred.ofValue]
  unfold Oper.wq
  rw [hrun,Oper.uponIn_defer,d2]
  show Code.wpIn (fen none) 0 P c2 _ _ w1
  refine wpIn_wide.2 ?_
  have hdf' : (a'.put (some t) (Value.func (.func fc) #[] cvs.toArray)).defers = [] := by
   show a'.defers = []
   rw [R'.defers.eq hmk,hdf]
  generalize hD : ({ target:=.fn (.func fc) cvs.toArray,args:=#[] } : Deferred) = dd
  have hrest:=hrest [dd]
  generalize hG2 : (⟨G.g,_,[dd],none,fun _ _ _=>False⟩ : Glob) = G2 at hrest
  have R2 : Rel G2 E1 w1 (stOf (pre.length + 1048576) fn.ntmps ((t, .func (.func fc) [] (ptrs ks)) :: l') o')
    { (a'.put (some t) (Value.func (.func fc) #[] cvs.toArray)) with defers:=[dd] }:=by
   refine ⟨R1.core.congr (by rw [← hG2]),R1.n,fun q=>?_,Dfs.of_eq (by rw [← hG2]) (by rw [← hG2])⟩
   have:=R1.slots q
   rw [hcaps] at this
   exact this
  have gg : Guar pre.length E w.heap (sto pre) E1 w1.heap (mkσ o'):=g.trans (S1.guar.mono (by show pre.length ≤ pre.length + 1048576; omega))
  have ss:=s.trans S1.ws
  have hc2:=(wpc_sound (P:=P) hT hmix c2 _ _ _ hrest).sem.sem (by show pre.length + 4096 ≤ pre.length + 1048576; omega) E1 _ w1 R2
  rw [hdf']
  refine wp_mono hc2 fun e a2 w2 hp=>?_
  -- the door
  have hcv2 : ∀ {E2 : Env} {h2 : Heap} {σ2 : Store}, Guar (pre.length + 4096) E1 w1.heap (mkσ o') E2 h2 σ2 → VRs E2 h2 σ2 (ptrs ks) cvs := by
   intro E2 h2 σ2 gd
   refine ⟨hcv.1,fun i a1 b1=>?_⟩
   have h3:=hcv.2 i a1 b1
   simp only [ptrs,List.getElem_map] at h3 ⊢
   exact gd.ptr (hks _ (List.getElem_mem _)) h3
  have door : ∀ {E2 : Env} {st2 : St} {qo : Option D} {ov : Option Value}, pre.length + 4096 ≤ st2.nx → Rel G2 E2 w2 st2 a2 → Thrown E2 w2.heap st2.σ qo ov → Guar (pre.length + 4096) E1 w1.heap (mkσ o') E2 w2.heap st2.σ → WSame w1 w2 →
    Door P G fc (ptrs ks) qo st2.σ (fun σ'=>resK T ⟨st2.ρ,σ',pre.length + 1048576,fn.ntmps⟩ fn.results.toList (FinS pre.length post d σ')) →
    Leaves P fn a2.tmps (fun e w'=>∃ E' v,e = .returned v ∧ VR E' w'.heap (sto post) d v ∧ Core G E' w'.heap (sto post) post.length ∧ Guar pre.length E w.heap (sto pre) E' w'.heap (sto post) ∧ WSame w w') a2.defers (modeOf ov) w2:=by
   intro E2 st2 qo ov hnx R3 ht3 g3 s3 ⟨ups,ok,hres⟩
   have hdd : a2.defers = [dd]:=by rw [R3.defers.eq (by rw [← hG2]),← hG2]
   rw [hdd,← hD]
   have R4 : Rel G E2 w2 st2 { a2 with defers:=[] }:=⟨R3.core.congr (by rw [← hG2]),R3.n,R3.slots,Dfs.of_eq hmk hdf.symm⟩
   refine leaves_cons (f:=fc) (args:=cvs.toArray) (by cases ov <;> simp [modeOf]) ?_ ?_
   ·simp only [invoke]
    have:=run_callFunc ok.fn (#[] ++ cvs.toArray) w2
    simpa using this
   ·refine CallsD.mono (ok.sem E2 w2 st2 _ cvs ov R4 (hcv2 g3) ht3 rfl) fun e u' w3 ⟨⟨rv, hrv⟩, hset, E3, S3⟩ => ?_
    subst hrv
    show Leaves P fn a2.tmps _ [] (settle u') w3
    rw [hset]
    replace hres : resK T ⟨st2.ρ,updAll st2.σ ups,pre.length + 1048576,fn.ntmps⟩ fn.results.toList (FinS pre.length post d (updAll st2.σ ups)):=hres
    unfold resK at hres
    split at hres
    case h_2=>exact hres.elim
    rename_i ds hds
    rw [forceL_eq] at hres
    rw [resDs_eq (st:=⟨st2.ρ,updAll st2.σ ups,pre.length + 1048576,fn.ntmps⟩) (st':={ st2 with σ:=updAll st2.σ ups }) rfl rfl] at hds
    obtain ⟨v,hr,hv'⟩:=results_sound hT S3.rel hds
    have g4:=gg.trans (g3.mono (by omega))
    have g5:=g4.trans (S3.guar.mono (by omega))
    obtain ⟨E4,o1',o2',o3'⟩:=FinS.out hres S3.rel.core hv' g5
    exact ⟨v,hr,E4,v,rfl,o1',o2',o3',ss.trans (s3.trans S3.ws)⟩
  rcases hp with ⟨E2,st2,⟨l2,ob2,rfl,q⟩,hm2,R3,g3,s3⟩|⟨q,v,E2,st2,rfl,hq,hv2,hm2,R3,g3,s3⟩
  ·cases e with
   | normal=>exact door (qo:=none) (ov:=none) hm2 R3 trivial g3 s3 q
   | ret=>exact door (qo:=none) (ov:=none) hm2 R3 trivial g3 s3 q
   | _=>exact q.elim
  ·refine door (qo := some q) (ov := some v) hm2 R3 hv2 g3 s3 ?_
   rw [← hG2] at hq
   exact hq
 | _=>exact q.elim
set_option allowUnsafeReducibility true in
attribute [irreducible] Door
end Go.AL

namespace Go.AL
open Go
variable {P : Program} {T : Tab} {G : Glob}
def recD : Option D → D
 | none=>.v .nilIface
 | some d=>d
theorem DCall.enter (hT : TOk P T) (hmix : P.follows .mixedOrders = true) {f : FuncId} {fn : Func} {r0 t1 t2 : Nat} {oR oA : Oper} {c2 : Code}
  {args : List D} {pre : List AObj} {qo : Option D} {post : List AObj}
  (hf : P.funcs[f]? = some fn) (hn : (fn.name == "runtime.NumGoroutine") = false) (hb : fn.body = some (.seq (.region r0 #[oR,oA] false) c2)) (ha : Nat.ble args.length fn.ntmps = true)
  (g1 : oR.guard = none) (e1 : oR.op = .call ⟨.builtin .recover,#[],#[]⟩) (d1 : oR.dst = some t1) (g2 : oA.guard = none) (e2 : oA.op = .assign (.tmp t1)) (d2 : oA.dst = some t2)
  (ht1 : Nat.blt t1 fn.ntmps = true) (ht2 : Nat.blt t2 fn.ntmps = true) (hrs : fn.results = #[])
  (h : forceS (initS args 0) fun l => wpc P T G pre.length (pre.length + 1048576) fn.ntmps [] c2 (fun e l o => match e with
   | .normal=>FinS pre.length post (.tuple []) (mkσ o) (.tuple [])
   | .ret=>FinS pre.length post (.tuple []) (mkσ o) (.tuple [])
   | _=>False) ((t2,recD qo) :: (t1,recD qo) :: l) (initO pre 0))
  (hdf : G.df = []:=by rfl) (hpk : ∀ q ρ σ,¬ G.pk q ρ σ:=by exact fun _ _ _ h=>h) (hmk : G.mks = none:=by rfl) : DCall P G f args pre qo post:=by
 rw [forceS_eq] at h
 refine ⟨⟨fn,hf,hn,by simp [hb]⟩,fun E w vs ov C hv hth=>callsD_of_wpS hf hb fun c₀ cs hc=>?_⟩
 have hvl : vs.length = args.length:=hv.1
 have ha':=Nat.le_of_ble_eq_true ha
 have ht1' : t1 < fn.ntmps:=by simpa [Nat.blt_eq] using ht1
 have ht2' : t2 < fn.ntmps:=by simpa [Nat.blt_eq] using ht2
 have q1 : mkρ (initS args 0) = fun t=>args.getD t .junk:=by funext t; rw [mkρ_initS]; simp
 have q2 : mkσ (initO pre 0) = sto pre:=by funext t; rw [mkσ_initO]; simp [sto]
 have R : Rel G E w (stOf (pre.length + 1048576) fn.ntmps (initS args 0) (initO pre 0))
   { tmps:=vs.toArray ++ Array.replicate (fn.ntmps - vs.toArray.size) undef,defers:=[] }:=by
  rw [stOf,q1,q2]
  refine ⟨⟨C.objs,C.bnd,C.sc,C.nf,fun k hk=>C.dead k (by simp at hk; omega),C.glob⟩,by simp; omega,fun t=>?_,Dfs.of_eq hmk hdf.symm⟩
  show VR E w.heap (sto pre) (args.getD t .junk) _
  by_cases ht : t < args.length
  ·have := hv.2 t ht (by omega)
   have e1 : args.getD t .junk = args[t]:=by simp [List.getD,ht]
   have e2 : (vs.toArray ++ Array.replicate (fn.ntmps - vs.toArray.size) undef).getD t undef = vs[t]'(by omega) := by
    simp [Array.getElem?_append,show t < vs.length by omega]
   rw [e1,e2]; exact this
  ·have e1 : args.getD t .junk = .junk := by simp [List.getD, List.getElem?_eq_none (Nat.le_of_not_lt ht)]
   rw [e1]; exact .junk _
 generalize hA : ({ tmps:=vs.toArray ++ Array.replicate (fn.ntmps - vs.toArray.size) undef,defers:=[] } : Act) = a0 at R ⊢
 -- what was recovered
 obtain ⟨x, u', hx, hrec, hset⟩ : ∃ x u', VR E w.heap (sto pre) (recD qo) x ∧ (match recoverD (c₀ :: cs) with | some (v, cs') => v = x ∧ cs' = { c₀ with mode := u' } :: cs | none => x = .nilIface ∧ u' = c₀.mode) ∧ settle u' = .returning := by
  cases qo <;> cases ov <;> simp only [Thrown] at hth
  ·refine ⟨.nilIface, .returning, .v _, ?_, rfl⟩
   simp only [modeOf] at hc
   simp [recoverD,hc]
  ·rename_i d v
   refine ⟨v,.panicking [{ v,recovered:=true }],hth,?_,by simp [settle]⟩
   simp only [modeOf,thrown] at hc
   simp [recoverD,hc]
 have hsz : a0.tmps.size = fn.ntmps:=R.n
 refine wpS_seq (wpS_region ?_)
 have hrange : List.range (#[oR,oA] : Array Oper).size = [0,1]:=rfl
 rw [hrange]
 have hw1 : ∀ tmps,Region.wanted oR (yielded #[oR,oA] tmps) = true:=fun tmps=>by simp [Region.wanted,g1]
 have hw2 : ∀ tmps,Region.wanted oA (yielded #[oR,oA] tmps) = true:=fun tmps=>by simp [Region.wanted,g2]
 have hr1 : (execOp a0.eval oR).run P w = .ok .recover w := by
  simp [execOp,e1,resolve,invoke,builtin]
 have hev : (a0.put (some t1) x).eval (.tmp t1) = x := by
  simp [Act.put,Act.eval,hsz,ht1']
 have hr2 : (execOp (a0.put (some t1) x).eval oA).run P w = .ok (.value x) w := by
  simp [execOp,e2,hev]
 have hend : ∀ cs', cs' = ({ c₀ with mode := u' } :: cs) → c2.wpS P (bodyPostS P fn c₀ cs fun e u' w' => (∃ rv, e = .returned rv) ∧ settle u' = .returning ∧ ∃ E', Core G E' w'.heap (sto post) post.length ∧
   Guar pre.length E w.heap (sto pre) E' w'.heap (sto post) ∧ WSame w w') ((a0.put (some t1) x).put (some t2) x) cs' w:=by
  intro cs' hcs'
  subst hcs'
  refine wpS_of_wp ?_
  have hx' : VR E w.heap (mkσ (initO pre 0)) (recD qo) x:=by rw [q2]; exact hx
  have R1:=R.put hx' ht1'
  have R2:=R1.put (v:=x) (d:=recD qo) hx' ht2'
  have R3 : Rel G E w (stOf (pre.length + 1048576) fn.ntmps ((t2,recD qo) :: (t1,recD qo) :: initS args 0) (initO pre 0)) ((a0.put (some t1) x).put (some t2) x):=R2
  refine wp_mono ((wpc_sound (P:=P) hT hmix c2 _ _ _ h).sem.sem (by show pre.length ≤ pre.length + 1048576; omega) E _ w R3) fun e a' w' hp=>?_
  rcases hp with ⟨E',st',⟨l',o',rfl,q⟩,hm,R',g,s⟩|⟨q,_,_,st',_,hq,_⟩
  case inr=>exact absurd hq (hpk _ _ _)
  have g : Guar pre.length E w.heap (sto pre) E' w'.heap (mkσ o') := by
   have:=g
   rw [stOf,q2] at this
   exact this
  have fin : FinS pre.length post (.tuple []) (mkσ o') (.tuple []) → a'.defers = [] ∧ ∃ u'', ({ c₀ with mode := u' } :: cs) = { c₀ with mode := u'' } :: cs ∧ ∃ rv, (results fn a'.tmps).run P w' = .ok rv w' ∧
    ((∃ rv',Ending.returned rv = .returned rv') ∧ settle u'' = .returning ∧ ∃ E',Core G E' w'.heap (sto post) post.length ∧ Guar pre.length E w.heap (sto pre) E' w'.heap (sto post) ∧ WSame w w'):=by
   intro hq
   obtain ⟨rv,hr,hvr⟩:=results_sound hT R' (fn:=fn) (ds:=[]) (by rw [hrs]; rfl)
   obtain ⟨E2,_,o2,o3⟩:=FinS.out hq R'.core hvr g
   exact ⟨(R'.defers.eq hmk).trans hdf,u',rfl,rv,hr,⟨rv,rfl⟩,hset,E2,o2,o3,s⟩
  cases e with
  | normal=>exact fin q
  | ret=>exact fin q
  | _=>exact q.elim
 simp only [wpOpsS,show (#[oR,oA] : Array Oper)[0]? = some oR from rfl,show (#[oR,oA] : Array Oper)[1]? = some oA from rfl,hw1,hw2,if_true,hr1,d1,d2]
 split at hrec
 ·rename_i v cs' hre
  obtain ⟨rfl,hcs⟩:=hrec
  simp only [hre]
  rw [hr2]
  simp only [Oper.upon_value,d2]
  exact hend cs' hcs
 ·rename_i hre
  obtain ⟨rfl,hcs⟩:=hrec
  simp only [hre]
  rw [hr2]
  simp only [Oper.upon_value,d2]
  exact hend _ (by rw [hcs])
end Go.AL

namespace Go.AL
open Go
variable {P : Program} {G : Glob}
def Env.more (E : Env) (n gb m : Nat) : Env where
 own b o:=if b < n then E.own b o else if b = gb ∧ o < m then .fz else .ext
 φ:=E.φ
 hdr:=E.hdr
theorem more_old {E : Env} {n gb m b o : Nat} (h : b < n) : (E.more n gb m).own b o = E.own b o:=by simp [Env.more,h]
structure Later (h h' : Heap) : Prop where
 size : h.size ≤ h'.size
 block : ∀ b,b < h.size → h'[b]? = h[b]?
theorem Later.cell {h h' : Heap} (L : Later h h') {b : Nat} (hb : b < h.size) (o : Nat) : cellH h' b o = cellH h b o := by
 unfold cellH; rw [L.block b hb]
theorem Later.shp {h h' : Heap} (L : Later h h') : Shp h h':=fun b c e f hb=>⟨c,f,by rw [L.block b (lt_of_get hb)]; exact hb,rfl,.refl _ _⟩
theorem Core.more {E : Env} {h h' : Heap} {σ : Store} {nx gb m : Nat} (C : Core G E h σ nx) (L : Later h h') (hg : m = 0 ∨ ∃ us e, h'[gb]? = some (.cells us e (0, 0))) :
  CMap some E h σ (E.more h.size gb m) h' σ ∧ Core G (E.more h.size gb m) h' σ nx ∧ Guar nx E h σ (E.more h.size gb m) h' σ:=by
 have M : CMap some E h σ (E.more h.size gb m) h' σ := by
  refine ⟨fun b o hf=>?_,fun b o q hq=>?_,fun k k' hl e=>?_⟩
  ·have hb := C.bnd b o (Own.frz_ext hf)
   exact ⟨more_old hb,L.cell hb o⟩
  ·have hb := C.bnd b o (by simp [hq])
   rw [more_old hb]; exact hq
  ·simp at e; subst e
   exact ⟨hl,rfl,fun m' hm'=>⟨m',hm',Nat.le_refl _,fun _=>rfl⟩,fun s' hs'=>hs'⟩
 refine ⟨M,⟨fun k=>?_,fun b o ho=>?_,fun b o q hq=>?_,fun b o hq=>?_,C.dead,fun g=>(C.glob g).map' M L.shp⟩,⟨L.size,fun b o hb hf=>⟨more_old hb,L.cell hb o⟩,fun b o q hb hq=>by rw [more_old hb]; exact hq,fun b o q hb hq=>by rw [more_old hb] at hq; exact hq,fun b o hb he=>⟨by rw [more_old hb]; exact he,L.cell hb o⟩,L.shp,fun b hb _=>L.block b hb,fun k _ hl=>⟨hl,rfl,fun m' hm'=>⟨m',hm',Nat.le_refl _,fun _=>rfl⟩,fun s' hs'=>hs'⟩⟩⟩
 ·exact (C.objs k).frame M rfl rfl (fun b o hb ho=>⟨by rw [more_old hb]; exact ho,L.cell hb o⟩) (fun b hb _=>L.block b hb) L.shp L.size
 ·by_cases hb : b < h.size
  ·exact Nat.lt_of_lt_of_le hb L.size
  ·simp only [Env.more, hb, if_false] at ho
   by_cases hc : b = gb ∧ o < m
   ·rcases hg with rfl | ⟨us, e, hg⟩
    ·omega
    ·rw [hc.1]; exact lt_of_get hg
   ·simp [hc] at ho
 ·by_cases hb : b < h.size
  ·rw [more_old hb] at hq
   obtain ⟨⟨us,e,f,h1,h2⟩,h3⟩:=C.sc b o q hq
   exact ⟨⟨us,e,f,by rw [L.block b hb]; exact h1,h2⟩,by rw [L.cell hb o]; exact h3⟩
  ·simp only [Env.more, hb, if_false] at hq
   split at hq <;> simp at hq
 ·by_cases hb : b < h.size
  ·rw [more_old hb] at hq
   obtain ⟨us,e,f,h1,h2⟩:=C.nf b o hq
   exact ⟨us,e,f,by rw [L.block b hb]; exact h1,h2⟩
  ·simp only [Env.more, hb, if_false] at hq
   by_cases hc : b = gb ∧ o < m
   ·rcases hg with rfl | ⟨us, e, hg⟩
    ·omega
    ·exact ⟨us,e,(0,0),by rw [hc.1]; exact hg,fun _=>by simp⟩
   ·simp [hc] at hq
end Go.AL
namespace Go.AL
open Go
variable {P : Program} {G : Glob}
end Go.AL
namespace Go.AL
open Go
variable {P : Program} {G : Glob}
end Go.AL







namespace Go.AL
open Go
variable {P : Program} {T : Tab} {G : Glob}
class MX where
 val : Int
def noGo {α : Sort _} (Q : Exit → α) (F : α) : Exit → α:=fun e=>match e with|.goto _=>F|e=>Q e
theorem AWp.scope {m c} {Q : Exit → St → Prop} {st} (h : AWp P G m c (fun e st => match e with | .goto _ => False | e => Q e st) st) : AWp P G m (.scope c) Q st := by
 refine ⟨fun hm E a w R r hr=>?_⟩
 obtain rfl : r = none:=hr.elim id (fun h=>by simp [Code.nodef] at h)
 refine wpIn_wide.2 (wp_scope_straight (wp_mono (h.sem hm E a w R) fun e a' w' hp=>?_))
 rcases hp with ⟨E',st',q,hm',r,g,s⟩|hp
 ·cases e with
  | goto l=>exact q.elim
  | _=>exact .inl ⟨E',st',q,hm',r,g,s⟩
 ·have hp' := hp
  obtain ⟨q,v,E',st',rfl,_⟩:=hp'
  exact .inr hp
theorem LWp.scope (hT : TOk P T) (hmix : P.follows .mixedOrders = true) {m nx n c Q l o} (S : List Nat) (h : wpc P T G m nx n S c (fun e l o => match e with | .goto _ => False | e => Q e l o) l o) : LWp P G m nx n (.scope c) Q l o :=
 ⟨.scope ((wpc_sound hT hmix c _ _ _ h).sem.mono fun e st ⟨l', o', e1, q⟩ => by
  subst e1
  cases e with
  | goto l=>exact q.elim
  | _=>exact ⟨l',o',rfl,q⟩)⟩
end Go.AL

namespace Go.AL
open Go
variable {P : Program} {G : Glob}
theorem VRs.vals {E h σ} : ∀ {xs us : List Value}, VRs E h σ (xs.map .v) us → us = xs
 | [],us,hv=>List.eq_nil_of_length_eq_zero (by simpa using hv.1)
 | x :: xs,[],hv=>by have:=hv.1; simp at this
 | x :: xs, u :: us, hv => by
  have h0:=hv.2 0 (by simp) (by simp)
  simp only [List.map_cons,List.getElem_cons_zero] at h0
  rw [h0.v_inv]
  congr 1
  exact VRs.vals (E := E) (h := h) (σ := σ) ⟨by simpa using hv.1, fun i a b => by
   have:=hv.2 (i + 1) (by simpa using a) (by simpa using b)
   simpa using this⟩
theorem FCall.below {f : FuncId} {args : List D} {pre : List AObj} {d : D} (hf : IsFn P f)
  (H : ∀ E (w : World) vs, Core G E w.heap (sto pre) pre.length → VRs E w.heap (sto pre) args vs →
   Calls P f vs.toArray w fun e w'=>∃ v : Value,e = .returned v ∧ (∀ E' : Env,VR E' w'.heap (sto pre) d v) ∧ RowKit.Below w.heap.size w w') : FCall P G f args pre d pre:=by
 refine ⟨hf,fun E w vs C hv=>(H E w vs C hv).mono fun e w' ⟨v,he,hr,hb⟩=>?_⟩
 obtain ⟨_,C',g'⟩:=C.more (h':=w'.heap) (gb:=0) (m:=0) ⟨hb.size,hb.block⟩ (.inl rfl)
 exact ⟨_,v,he,hr _,C',g',⟨hb.os,hb.tape,hb.output⟩⟩
theorem FCall.val {f : FuncId} {xs : List Value} {y : Value} (hf : IsFn P f)
  (H : ∀ w : World,Calls P f xs.toArray w fun e w'=>e = .returned y ∧ RowKit.Below w.heap.size w w') : FCall P G f (xs.map .v) [] (.v y) [] :=
 FCall.below hf fun E w vs C hv => by
  rw [hv.vals]
  exact (H w).mono fun e w' ⟨he,hb⟩=>⟨y,he,fun _=>.v y,hb⟩
end Go.AL

namespace Go.AL
open Go
variable {P : Program} {G : Glob}

def PkR (fam : List AObj → Prop) (E : Env) (h : Heap) (k : Nat) : Prop :=
 ∃ (l : List AObj) (E1 : Env),fam l ∧ E1.φ 0 = E.φ k ∧ (∃ cs,sto l 0 = .cells cs) ∧
  (∀ b o j,E1.own b o = .ob j → j < l.length ∧ E.own b o = .ob k ∧ b < h.size) ∧
  (∀ b o,(E1.own b o).frz = true → E.own b o = E1.own b o) ∧ (∀ b o q,E1.own b o = .sc q → E.own b o = .sc q) ∧
  ∀ j,j < l.length → OR E1 h (sto l) j (sto l j)

theorem CMap.same {E1 E2 : Env} {h1 h2 : Heap} {σ : Store} (h : ∀ b o, (E1.own b o).frz = true → E2.own b o = E1.own b o ∧ cellH h2 b o = cellH h1 b o)
  (hs : ∀ b o q,E1.own b o = .sc q → E2.own b o = .sc q) (hφ : E2.φ = E1.φ) (hh : E2.hdr = E1.hdr) : CMap some E1 h1 σ E2 h2 σ :=
 ⟨h, hs, fun k k' hl e => by
  simp at e; subst e
  exact ⟨hl,by rw [hφ],fun m' hm'=>⟨m',hm',Nat.le_refl _,fun _=>by rw [hh]⟩,fun s' hs'=>hs'⟩⟩

def pk (fam : List AObj → Prop) : Bag where
 R:=PkR fam
 st := by
  intro E h k E2 h2 k' B ⟨l,E1,hf,hφ,hc,hl,hz,hs,ho⟩
  refine ⟨l,E1,hf,hφ.trans B.φ.symm,hc,fun b o j e=>?_,fun b o e=>?_,fun b o q e=>B.sc b o q (hs b o q e),fun j hj=>?_⟩
  ·obtain ⟨h1, h2, h3⟩ := hl b o j e
   exact ⟨h1,(B.own b o h3 h2).1,Nat.lt_of_lt_of_le h3 B.sz⟩
  ·have h1 := hz b o e
   exact (B.cell b o (by rw [h1]; exact e)).1.trans h1
  ·refine (ho j hj).frame (CMap.same (fun b o e=>⟨rfl,(B.cell b o (by rw [hz b o e]; exact e)).2⟩) (fun _ _ _ e=>e) rfl rfl) rfl rfl (fun b o hb e=>⟨e,(B.own b o hb (hl b o j e).2.1).2⟩) (fun b hb e=>B.blk b hb fun o=>(hl b o j (e o)).2.1) B.shp B.sz

abbrev ltO (n : Nat) (k : Nat) : Option Nat:=match Nat.blt k n with|true=>some k|false=>none
theorem sto_out {l : List AObj} {j : Nat} (h : l.length ≤ j) : sto l j = .dead := by
 simp [sto,List.getD,List.getElem?_eq_none h]

def Env.opn (E E1 : Env) : Env where
 own b o := match E.own b o with
  | .ob k=>(match Nat.beq k 0 with|true=>(match E1.own b o with|.ob j=>.ob j|_=>.ext)|false=>.ext)
  | y=>y
 φ:=E1.φ
 hdr:=E1.hdr
theorem opn_frz {E E1 : Env} {b o} (h : (E.own b o).frz = true) : (E.opn E1).own b o = E.own b o := by
 cases e : E.own b o <;> simp [e,Own.frz] at h <;> simp [Env.opn,e]
theorem opn_sc {E E1 : Env} {b o q} : (E.opn E1).own b o = .sc q ↔ E.own b o = .sc q := by
 cases e : E.own b o <;> simp [Env.opn,e]
 split
 ·split <;> simp
 ·simp
theorem opn_fz {E E1 : Env} {b o} : (E.opn E1).own b o = .fz ↔ E.own b o = .fz := by
 cases e : E.own b o <;> simp [Env.opn,e]
 split
 ·split <;> simp
 ·simp
theorem opn_ext {E E1 : Env} {b o} (h : (E.opn E1).own b o ≠ .ext) : E.own b o ≠ .ext:=fun e=>h (by simp [Env.opn,e])
theorem opn_ext' {E E1 : Env} {b o} (h : E.own b o = .ext) : (E.opn E1).own b o = .ext:=by simp [Env.opn,h]
theorem opn_ob {E E1 : Env} {b o j} (h : E.own b o = .ob 0) (h1 : E1.own b o = .ob j) : (E.opn E1).own b o = .ob j:=by simp [Env.opn,h,h1]

abbrev r0 (k : Nat) : Option Nat:=match Nat.beq k 0 with|true=>some 0|false=>none

end Go.AL

namespace Go.AL
open Go
variable {P : Program} {T : Tab} {G : Glob}

def notCells : Obj → Bool
 | .cells _ _ _=>false
 | _=>true

structure Poke (X : Nat → Prop) (h h' : Heap) : Prop where
 sz : h.size ≤ h'.size
 cell : ∀ b o,b < h.size → cellH h' b o = cellH h b o
 blk : ∀ b,b < h.size → ¬ X b → h'[b]? = h[b]?
 shp : Shp h h'
theorem Poke.refl (X : Nat → Prop) (h : Heap) : Poke X h h:=⟨Nat.le_refl _,fun _ _ _=>rfl,fun _ _ _=>rfl,fun b c e f hb=>⟨c,f,hb,rfl,.refl _ _⟩⟩
theorem Poke.trans {X} {h h1 h2 : Heap} (p : Poke X h h1) (q : Poke X h1 h2) : Poke X h h2 where
 sz:=Nat.le_trans p.sz q.sz
 cell b o hb:=(q.cell b o (Nat.lt_of_lt_of_le hb p.sz)).trans (p.cell b o hb)
 blk b hb hX:=(q.blk b (Nat.lt_of_lt_of_le hb p.sz) hX).trans (p.blk b hb hX)
 shp b c e f hb := by
  obtain ⟨c1,f1,h1,s1,t1⟩:=p.shp b c e f hb
  obtain ⟨c2,f2,h2,s2,t2⟩:=q.shp b c1 e f1 h1
  exact ⟨c2,f2,h2,s2.trans s1,t1.trans (by rw [← s1]; exact t2)⟩
theorem Poke.mono {X Y : Nat → Prop} {h h' : Heap} (hXY : ∀ b,X b → Y b) (p : Poke X h h') : Poke Y h h':=⟨p.sz,p.cell,fun b hb hn=>p.blk b hb fun hx=>hn (hXY b hx),p.shp⟩
theorem cellH_not {h : Heap} {b o : Nat} {x : Obj} (hx : h[b]? = some x) (hn : notCells x = true) : cellH h b o = none := by
 unfold cellH
 rw [hx]
 cases x <;> simp [notCells] at hn ⊢
theorem Poke.set {h : Heap} {L : Nat} {x y : Obj} (hx : h[L]? = some x) (hn : notCells x = true) (hy : notCells y = true) : Poke (fun b => b = L) h (h.setIfInBounds L y) where
 sz:=by simp
 cell b o hb := by
  by_cases e : L = b
  ·subst e
   rw [cellH_not (get_set_same (lt_of_get hx)) hy,cellH_not hx hn]
  ·unfold cellH; rw [get_set_ne e]
 blk b hb hX:=get_set_ne (fun e=>hX e.symm)
 shp b c e f hc := by
  have : L ≠ b := by
   intro e'
   subst e'
   rw [hx] at hc
   injection hc with hc
   subst hc
   simp [notCells] at hn
  exact ⟨c,f,by rw [get_set_ne this]; exact hc,rfl,.refl _ _⟩
theorem push_old {h : Heap} {y : Obj} {b : Nat} (hb : b < h.size) : (h.push y)[b]? = h[b]? := by
 rw [Array.getElem?_push,if_neg (by omega)]
theorem Poke.push (h : Heap) (y : Obj) : Poke (fun _ => False) h (h.push y) where
 sz:=by simp
 cell b o hb:=by unfold cellH; rw [push_old hb]
 blk b hb _:=push_old hb
 shp b c e f hc:=⟨c,f,by rw [push_old (lt_of_get hc)]; exact hc,rfl,.refl _ _⟩

section
variable {X : Nat → Prop} {E : Env} {h h' : Heap} {σ : Store}
theorem Poke.cmap (p : Poke X h h') (bnd : ∀ b o, E.own b o ≠ .ext → b < h.size) : CMap some E h σ E h' σ :=
 ⟨fun b o e => ⟨rfl, p.cell b o (bnd b o (Own.frz_ext e))⟩, fun _ _ _ e => e, fun k k' hl e => by
  simp at e; subst e
  exact ⟨hl,rfl,fun m' hm'=>⟨m',hm',Nat.le_refl _,fun _=>rfl⟩,fun s' hs'=>hs'⟩⟩
theorem OR.poke {k x} (p : Poke X h h') (bnd : ∀ b o, E.own b o ≠ .ext → b < h.size) (hX : ∀ b, X b → ∀ o, E.own b o = .ext) (H : OR E h σ k x) : OR E h' σ k x :=
 H.frame (p.cmap bnd) rfl rfl (fun b o hb ho=>⟨ho,p.cell b o hb⟩) (fun b hb ho=>p.blk b hb fun hx=>by have:=ho 0; rw [hX b hx 0] at this; cases this) p.shp p.sz
theorem Core.poke {nx} (p : Poke X h h') (hX : ∀ b, X b → ∀ o, E.own b o = .ext) (C : Core G E h σ nx) : Core G E h' σ nx where
 objs k:=(C.objs k).poke p C.bnd hX
 bnd b o e:=Nat.lt_of_lt_of_le (C.bnd b o e) p.sz
 sc b o q e := by
  obtain ⟨h1,h2⟩:=C.sc b o q e
  exact ⟨h1.mono p.shp,by rw [p.cell b o (C.bnd b o (by rw [e]; simp))]; exact h2⟩
 nf b o e:=(C.nf b o e).mono p.shp
 dead:=C.dead
 glob g:=(C.glob g).map' (p.cmap C.bnd) p.shp
end

structure GuarX (X : Nat → Prop) (m : Nat) (E : Env) (h : Heap) (σ : Store) (E' : Env) (h' : Heap) (σ' : Store) : Prop where
 sz : h.size ≤ h'.size
 fz : ∀ b o,b < h.size → (E.own b o).frz = true → E'.own b o = E.own b o ∧ cellH h' b o = cellH h b o
 sc : ∀ b o q,b < h.size → E.own b o = .sc q → E'.own b o = .sc q
 sc' : ∀ b o q,b < h.size → E'.own b o = .sc q → E.own b o = .sc q
 ext : ∀ b o,b < h.size → E.own b o = .ext → E'.own b o = .ext ∧ cellH h' b o = cellH h b o
 shp : Shp h h'
 blk : ∀ b,b < h.size → ¬ X b → (∀ o,E.own b o = .ext ∨ (E.own b o).frz = true) → h'[b]? = h[b]?
 ids : ∀ k, k < m → live σ k → live σ' k ∧ E'.φ k = E.φ k ∧
  (∀ m',tlen σ' k = some m' → ∃ m,tlen σ k = some m ∧ m ≤ m' ∧ (m = m' → E'.hdr k = E.hdr k)) ∧
  ∀ s',tstr σ' k = some s' → tstr σ k = some s'
theorem Guar.toX (X : Nat → Prop) {m E h σ E' h' σ'} (g : Guar m E h σ E' h' σ') : GuarX X m E h σ E' h' σ':=⟨g.sz,g.fz,g.sc,g.sc',g.ext,g.shp,fun b hb _=>g.blk b hb,g.ids⟩
theorem GuarX.trans {X m E h σ E1 h1 σ1 E2 h2 σ2} (A : GuarX X m E h σ E1 h1 σ1) (B : GuarX X m E1 h1 σ1 E2 h2 σ2) : GuarX X m E h σ E2 h2 σ2 where
 sz:=Nat.le_trans A.sz B.sz
 fz b o hb hf := by
  obtain ⟨a1,a2⟩:=A.fz b o hb hf
  obtain ⟨b1,b2⟩:=B.fz b o (Nat.lt_of_lt_of_le hb A.sz) (by rw [a1]; exact hf)
  exact ⟨b1.trans a1,b2.trans a2⟩
 sc b o q hb hf:=B.sc b o q (Nat.lt_of_lt_of_le hb A.sz) (A.sc b o q hb hf)
 sc' b o q hb hf:=A.sc' b o q hb (B.sc' b o q (Nat.lt_of_lt_of_le hb A.sz) hf)
 ext b o hb hf := by
  obtain ⟨a1,a2⟩:=A.ext b o hb hf
  obtain ⟨b1,b2⟩:=B.ext b o (Nat.lt_of_lt_of_le hb A.sz) a1
  exact ⟨b1,b2.trans a2⟩
 shp b c e f hb := by
  obtain ⟨c1,f1,h1,s1,t1⟩:=A.shp b c e f hb
  obtain ⟨c2,f2,h2,s2,t2⟩:=B.shp b c1 e f1 h1
  exact ⟨c2,f2,h2,s2.trans s1,t1.trans (by rw [← s1]; exact t2)⟩
 blk b hb hX ho := by
  rw [B.blk b (Nat.lt_of_lt_of_le hb A.sz) hX (fun o=>?_),A.blk b hb hX ho]
  rcases ho o with q|q
  ·exact .inl (A.ext b o hb q).1
  ·exact .inr (by rw [(A.fz b o hb q).1]; exact q)
 ids k hk hl := by
  obtain ⟨a1,a2,a3,a4⟩:=A.ids k hk hl
  obtain ⟨b1,b2,b3,b4⟩:=B.ids k hk a1
  refine ⟨b1,b2.trans a2,fun m2 hm2=>?_,fun s hs=>a4 s (b4 s hs)⟩
  obtain ⟨m1,hm1,l1,e1⟩:=b3 m2 hm2
  obtain ⟨m0,hm0,l0,e0⟩:=a3 m1 hm1
  exact ⟨m0,hm0,Nat.le_trans l0 l1,fun e=>(e1 (by omega)).trans (e0 (by omega))⟩
theorem Poke.guarX {X : Nat → Prop} {m E h h' σ} (p : Poke X h h') : GuarX X m E h σ E h' σ where
 sz:=p.sz
 fz b o hb hf:=⟨rfl,p.cell b o hb⟩
 sc b o q hb hf:=hf
 sc' b o q hb hf:=hf
 ext b o hb hf:=⟨hf,p.cell b o hb⟩
 shp:=p.shp
 blk b hb hX _:=p.blk b hb hX
 ids k _ hl:=⟨hl,rfl,fun m' hm=>⟨m',hm,Nat.le_refl _,fun _=>rfl⟩,fun _ h=>h⟩

def Idg (m : Nat) (E : Env) (σ : Store) (E' : Env) (σ' : Store) : Prop :=
 ∀ k,k < m → live σ k → live σ' k ∧ E'.φ k = E.φ k ∧
  (∀ m',tlen σ' k = some m' → ∃ m,tlen σ k = some m ∧ m ≤ m' ∧ (m = m' → E'.hdr k = E.hdr k)) ∧
  ∀ s',tstr σ' k = some s' → tstr σ k = some s'
theorem Idg.trans {m E σ E1 σ1 E2 σ2} (A : Idg m E σ E1 σ1) (B : Idg m E1 σ1 E2 σ2) : Idg m E σ E2 σ2 := fun k hk hl => by
 obtain ⟨a1,a2,a3,a4⟩:=A k hk hl
 obtain ⟨b1,b2,b3,b4⟩:=B k hk a1
 refine ⟨b1,b2.trans a2,fun m2 hm2=>?_,fun s hs=>a4 s (b4 s hs)⟩
 obtain ⟨m1,hm1,l1,e1⟩:=b3 m2 hm2
 obtain ⟨m0,hm0,l0,e0⟩:=a3 m1 hm1
 exact ⟨m0,hm0,Nat.le_trans l0 l1,fun e=>(e1 (by omega)).trans (e0 (by omega))⟩
theorem Idg.mono {m m' E σ E' σ'} (hm : m' ≤ m) (A : Idg m E σ E' σ') : Idg m' E σ E' σ':=fun k hk=>A k (by omega)
theorem Idg.of_eq {m E σ E'} (h1 : E'.φ = E.φ) (h2 : E'.hdr = E.hdr) : Idg m E σ E' σ:=fun k _ hl=>⟨hl,by rw [h1],fun m' hm=>⟨m',hm,Nat.le_refl _,fun _=>by rw [h2]⟩,fun _ h=>h⟩

def RgR (m : Nat) (E0 : Env) (σ0 : Store) (ρ : Nat → D) (σ : Store) (L Dd : Nat) (rec : Loop) (E : Env) (h : Heap) (k : Nat) : Prop :=
 ∃ E1 : Env,Idg m E0 σ0 E1 σ ∧
  (∀ b o j,E1.own b o = .ob j → E.own b o = .ob k ∧ b < h.size) ∧
  (∀ b o,(E1.own b o).frz = true → E.own b o = E1.own b o) ∧ (∀ b o q,E1.own b o = .sc q → E.own b o = .sc q) ∧
  (∀ j,OR E1 h σ j (σ j)) ∧ (∀ t,VR E1 h σ (ρ t) (rec.tmps.getD t undef)) ∧
  (∀ o,E.own L o = .ob k) ∧ (∀ o,E1.own L o = .ext) ∧ h[L]? = some (.loop rec) ∧
  (∀ o,E.own Dd o = .ob k) ∧ (∀ o,E1.own Dd o = .ext) ∧ h[Dd]? = some (.deferred (some []))

def rgB (m : Nat) (E0 : Env) (σ0 : Store) (ρ : Nat → D) (σ : Store) (L Dd : Nat) (rec : Loop) : Bag where
 R:=RgR m E0 σ0 ρ σ L Dd rec
 st := by
  intro E h k E2 h2 k' B ⟨E1,hi,hl,hz,hs,ho,hv,l1,l2,l3,d1,d2,d3⟩
  have M : CMap some E1 h σ E1 h2 σ:=CMap.same (fun b o e=>⟨rfl,(B.cell b o (by rw [hz b o e]; exact e)).2⟩) (fun _ _ _ e=>e) rfl rfl
  have hL:=lt_of_get l3
  have hD:=lt_of_get d3
  refine ⟨E1,hi,fun b o j e=>?_,fun b o e=>?_,fun b o q e=>B.sc b o q (hs b o q e),fun j=>?_,fun t=>(hv t).keep M,fun o=>(B.own L o hL (l1 o)).1,l2,(B.blk L hL l1).trans l3,fun o=>(B.own Dd o hD (d1 o)).1,d2,(B.blk Dd hD d1).trans d3⟩
  ·obtain ⟨h2, h3⟩ := hl b o j e
   exact ⟨(B.own b o h3 h2).1,Nat.lt_of_lt_of_le h3 B.sz⟩
  ·have h1 := hz b o e
   exact (B.cell b o (by rw [h1]; exact e)).1.trans h1
  ·exact (ho j).frame M rfl rfl (fun b o hb e=>⟨e,(B.own b o hb (hl b o j e).1).2⟩) (fun b hb e=>B.blk b hb fun o=>(hl b o j (e o)).1) B.shp B.sz

structure Opn (E E2 : Env) : Prop where
 frz : ∀ b o,(E.own b o).frz = true → E2.own b o = E.own b o
 sc : ∀ b o q,E2.own b o = .sc q ↔ E.own b o = .sc q
 ext : ∀ b o,E.own b o = .ext → E2.own b o = .ext
theorem Opn.none {E E2 : Env} {h σ σ2} (O : Opn E E2) : CMap (fun _=>none) E h σ E2 h σ2:=⟨fun b o e=>⟨O.frz b o e,rfl⟩,fun b o q e=>(O.sc b o q).2 e,fun k k' _ e=>by simp at e⟩

theorem RgR.opened {m E0 σ0 ρ σ L Dd rec E h σy ny nx} (C : Core G E h σy ny) (hd : ∀ k, nx ≤ k → σ k = .dead) (H : RgR m E0 σ0 ρ σ L Dd rec E h 0) :
  ∃ E2 : Env,Idg m E0 σ0 E2 σ ∧ Core G E2 h σ nx ∧ (∀ t,VR E2 h σ (ρ t) (rec.tmps.getD t undef)) ∧ (∀ o,E2.own L o = .ext) ∧ (∀ o,E2.own Dd o = .ext) ∧ h[L]? = some (.loop rec) ∧ h[Dd]? = some (.deferred (some [])) ∧
   (∀ o,E.own L o = .ob 0) ∧ (∀ o,E.own Dd o = .ob 0) ∧ Opn E E2:=by
 obtain ⟨E1,hi,hl,hz,hs,ho,hv,l1,l2,l3,d1,d2,d3⟩:=H
 have M : CMap some E1 h σ (E.opn E1) h σ := CMap.same (fun b o e => ⟨by
  have h1:=hz b o e
  rw [opn_frz (by rw [h1]; exact e),h1],rfl⟩) (fun b o q e=>opn_sc.2 (hs b o q e)) rfl rfl
 refine ⟨E.opn E1,hi.trans (Idg.of_eq rfl rfl),⟨fun j=>?_,fun b o e=>C.bnd b o (opn_ext e),fun b o q e=>C.sc b o q (opn_sc.1 e),fun b o e=>C.nf b o (opn_fz.1 e),hd,fun g=>?_⟩,fun t=>(hv t).keep M,fun o=>?_,fun o=>?_,l3,d3,l1,d1,⟨fun b o e=>opn_frz e,fun b o q=>opn_sc,fun b o e=>opn_ext' e⟩⟩
 ·exact (ho j).frame M rfl rfl (fun b o hb e=>⟨opn_ob (hl b o j e).1 e,rfl⟩) (fun _ _ _=>rfl) (fun b c e f hb=>⟨c,f,hb,rfl,.refl _ _⟩) (Nat.le_refl _)
 ·exact (C.glob g).map' (r:=fun _=>none) ⟨fun b o e=>⟨opn_frz e,rfl⟩,fun b o q e=>opn_sc.2 e,fun k k' _ e=>by simp at e⟩ (Shp.refl _)
 ·simp [Env.opn,l1 o,l2 o]
 ·simp [Env.opn,d1 o,d2 o]

def cutO (E : Env) (qo : Option Nat) : Env where
 own b o:=match E.own b o with|.ob k=>if qo = some k then .ext else .ob k|y=>y
 φ:=E.φ
 hdr:=E.hdr
def shutR (E : Env) (qo : Option Nat) (L Dd : Nat) (x0 : Nat) (H0 : Option Addr × Nat) : Env where
 own b o:=if b = L ∨ b = Dd then .ob 0 else match E.own b o with|.ob k=>if qo = some k then .ob 1 else .ob 0|y=>y
 φ k:=match k with|1=>E.φ (qo.getD 0)|_=>x0
 hdr k:=match k with|1=>E.hdr (qo.getD 0)|_=>H0
def cutr (qo : Option Nat) (k : Nat) : Option Nat:=if qo = some k then none else some k
def oner (qo : Option Nat) (k : Nat) : Option Nat:=if qo = some k then some 1 else none

section
variable {E : Env} {qo : Option Nat} {L Dd x0 : Nat} {H0 : Option Addr × Nat}
theorem cutO_frz {b o} (h : (E.own b o).frz = true) : (cutO E qo).own b o = E.own b o := by
 cases e : E.own b o <;> simp [e,Own.frz] at h <;> simp [cutO,e]
theorem cutO_frz' {b o} (h : ((cutO E qo).own b o).frz = true) : (E.own b o).frz = true := by
 cases e : E.own b o with
 | ob j =>
  exfalso
  simp only [cutO,e] at h
  split at h <;> simp [Own.frz] at h
 | _=>simpa [cutO,e] using h
theorem cutO_sc {b o q} : (cutO E qo).own b o = .sc q ↔ E.own b o = .sc q := by
 cases e : E.own b o <;> simp [cutO,e]
 split <;> simp
theorem cutO_ob {b o j} (h : (cutO E qo).own b o = .ob j) : E.own b o = .ob j ∧ qo ≠ some j := by
 cases e : E.own b o <;> simp [cutO,e] at h
 split at h
 ·simp at h
 ·rename_i hj; simp at h; subst h; exact ⟨rfl,hj⟩
theorem cutO_ext {b o} (h : E.own b o = .ext) : (cutO E qo).own b o = .ext:=by simp [cutO,h]
theorem shutR_at {b o} (hL : b ≠ L) (hD : b ≠ Dd) : (shutR E qo L Dd x0 H0).own b o = match E.own b o with | .ob k => if qo = some k then .ob 1 else .ob 0 | y => y := by
 simp [shutR,hL,hD]
theorem shutR_opn (hL : ∀ o, E.own L o = .ext) (hD : ∀ o, E.own Dd o = .ext) : Opn (shutR E qo L Dd x0 H0) E ∧ (∀ b o, (E.own b o).frz = true → (shutR E qo L Dd x0 H0).own b o = E.own b o) ∧
  ∀ b o,E.own b o = .ext → b ≠ L → b ≠ Dd → (shutR E qo L Dd x0 H0).own b o = .ext:=by
 have key : ∀ b : Nat, b = L ∨ b = Dd ∨ (b ≠ L ∧ b ≠ Dd) := fun b => by
  by_cases h1 : b = L
  ·exact .inl h1
  ·by_cases h2 : b = Dd
   ·exact .inr (.inl h2)
   ·exact .inr (.inr ⟨h1,h2⟩)
 refine ⟨⟨fun b o e=>?_,fun b o q=>?_,fun b o e=>?_⟩,?_,fun b o e h1 h2=>by rw [shutR_at h1 h2,e]⟩
 ·rcases key b with h1 | h1 | ⟨h1, h2⟩
  ·simp [shutR,h1,Own.frz] at e
  ·simp [shutR,h1,Own.frz] at e
  ·rw [shutR_at h1 h2] at e ⊢
   cases e1 : E.own b o with
   | ob k=>rw [e1] at e; simp only [] at e; split at e <;> simp [Own.frz] at e
   | _=>rfl
 ·rcases key b with h1 | h1 | ⟨h1, h2⟩
  ·subst h1; simp [shutR,hL o]
  ·subst h1; simp [shutR,hD o]
  ·rw [shutR_at h1 h2]
   cases e1 : E.own b o with
   | ob k=>simp only []; split <;> simp
   | _=>rfl
 ·rcases key b with h1 | h1 | ⟨h1, h2⟩
  ·simp [shutR,h1] at e
  ·simp [shutR,h1] at e
  ·rw [shutR_at h1 h2] at e
   cases e1 : E.own b o with
   | ob k=>rw [e1] at e; simp only [] at e; split at e <;> simp at e
   | _=>first|rfl|(rw [e1] at e; cases e)
 ·intro b o e
  rcases key b with h1|h1|⟨h1,h2⟩
  ·subst h1; rw [hL o] at e; simp [Own.frz] at e
  ·subst h1; rw [hD o] at e; simp [Own.frz] at e
  ·rw [shutR_at h1 h2]
   cases e1 : E.own b o with
   | ob k=>rw [e1] at e; simp [Own.frz] at e
   | _=>rfl
end

theorem Core.shutR {m : Nat} {E0 : Env} {σ0 : Store} {ρ ρ' : Nat → D} {E : Env} {h : Heap} {σ σ1 : Store} {nx L Dd x0 : Nat} {H0 : Option Addr × Nat} {rec : Loop} (qo : Option Nat) (C : Core G E h σ nx)
  (hσ : ∀ k,qo ≠ some k → σ1 k = σ k) (hq : ∀ q,qo = some q → σ1 q = .dead) (hr : ∀ k,AObj.ren (cutr qo) (σ1 k) = some (σ1 k)) (hρ : ∀ t,D.ren (cutr qo) (ρ' t) = some (ρ t))
  (hv : ∀ t,VR E h σ (ρ' t) (rec.tmps.getD t undef)) (hi : Idg m E0 σ0 E σ1) (hL : ∀ o,E.own L o = .ext) (hD : ∀ o,E.own Dd o = .ext) (hL' : h[L]? = some (.loop rec)) (hD' : h[Dd]? = some (.deferred (some [])))
  (ex : List AObj) (hex : match qo with|none=>ex = []|some q=>∃ co,ex = [co] ∧ σ q = co ∧ AObj.ren (oner qo) co = some co) :
  Core G (AL.shutR E qo L Dd x0 H0) h (sto (.bag (rgB m E0 σ0 ρ σ1 L Dd rec) :: ex)) (ex.length + 1):=by
 obtain ⟨O,Oz,Oe⟩:=shutR_opn (E:=E) (qo:=qo) (L:=L) (Dd:=Dd) (x0:=x0) (H0:=H0) hL hD
 have M : CMap (cutr qo) E h σ (cutO E qo) h σ1 := by
  refine ⟨fun b o e=>⟨cutO_frz e,rfl⟩,fun b o q e=>cutO_sc.2 e,fun k k' hl e=>?_⟩
  unfold cutr at e
  split at e
  ·simp at e
  ·rename_i hne
   simp at e; subst e
   refine ⟨by unfold live; rw [hσ k hne]; exact hl,rfl,fun m' hm'=>⟨m',?_,Nat.le_refl _,fun _=>rfl⟩,fun s' hs'=>?_⟩
   ·unfold tlen at hm' ⊢; rw [hσ k hne] at hm'; exact hm'
   ·unfold tstr at hs' ⊢; rw [hσ k hne] at hs'; exact hs'
 have hnL : ∀ b o,(E.own b o ≠ .ext) → b ≠ L ∧ b ≠ Dd:=fun b o e=>⟨fun e'=>e (by rw [e']; exact hL o),fun e'=>e (by rw [e']; exact hD o)⟩
 have hown : ∀ b o j, (cutO E qo).own b o = .ob j → (AL.shutR E qo L Dd x0 H0).own b o = .ob 0 := by
  intro b o j e
  obtain ⟨e1,e2⟩:=cutO_ob e
  obtain ⟨n1,n2⟩:=hnL b o (by rw [e1]; simp)
  rw [shutR_at n1 n2,e1]
  simp [e2]
 have h0 : RgR m E0 σ0 ρ σ1 L Dd rec (AL.shutR E qo L Dd x0 H0) h 0 := by
  refine ⟨cutO E qo,hi.trans (Idg.of_eq rfl rfl),fun b o j e=>⟨hown b o j e,C.bnd b o (by rw [(cutO_ob e).1]; simp)⟩,fun b o e=>?_,fun b o q e=>(O.sc b o q).1 (cutO_sc.1 e),fun j=>?_,fun t=>(hv t).map' M (hρ t),fun o=>by simp [AL.shutR],fun o=>cutO_ext (hL o),hL',fun o=>by simp [AL.shutR],fun o=>cutO_ext (hD o),hD'⟩
  ·have e1 := cutO_frz' e
   rw [Oz b o e1,cutO_frz e1]
  ·by_cases hj : qo = some j
   ·rw [hq j hj]; trivial
   ·have h1 := C.objs j
    rw [← hσ j hj] at h1
    refine h1.ren' M rfl rfl (fun b o e=>?_) (hr j)
    simp [cutO,e,hj]
 refine ⟨fun k=>?_,fun b o e=>?_,fun b o q e=>C.sc b o q ((O.sc b o q).2 e),fun b o e=>C.nf b o ?_,fun k hk=>sto_out (by simpa using hk),fun g=>(C.glob g).map' (r:=fun _=>none) ⟨fun b o e=>⟨Oz b o e,rfl⟩,fun b o q e=>(O.sc b o q).1 e,fun k k' _ e=>by simp at e⟩ (Shp.refl _)⟩
 ·cases k with
  | zero=>exact h0
  | succ i =>
   show OR _ h _ (i + 1) (sto ex i)
   cases qo with
   | none=>rw [show ex = [] from hex,sto_out (by simp)]; trivial
   | some q =>
    obtain ⟨co,rfl,hco,hrc⟩:=hex
    cases i with
    | succ i=>rw [sto_out (by simp)]; trivial
    | zero =>
     have h1:=C.objs q
     rw [hco] at h1
     refine h1.ren' (r:=oner (some q)) ⟨fun b o e=>⟨Oz b o e,rfl⟩,fun b o x e=>(O.sc b o x).1 e,fun k k' hl e=>?_⟩ rfl rfl (fun b o e=>?_) hrc
     ·unfold oner at e
      split at e
      ·rename_i hk
       simp at hk e; subst hk; subst e
       refine ⟨by show sto [_,co] 1 ≠ _; unfold live at hl; rw [hco] at hl; exact hl,rfl,fun m' hm'=>⟨m',?_,Nat.le_refl _,fun _=>rfl⟩,fun s' hs'=>?_⟩
       ·unfold tlen at hm' ⊢; rw [hco]; exact hm'
       ·unfold tstr at hs' ⊢; rw [hco]; exact hs'
      ·simp at e
     ·obtain ⟨n1, n2⟩ := hnL b o (by rw [e]; simp)
      rw [shutR_at n1 n2,e]
      simp
 ·by_cases h1 : b = L
  ·subst h1; exact lt_of_get hL'
  ·by_cases h2 : b = Dd
   ·subst h2; exact lt_of_get hD'
   ·refine C.bnd b o fun e' => e ?_
    exact Oe b o e' h1 h2
 ·have : ((AL.shutR E qo L Dd x0 H0).own b o).frz = true := by rw [e]; rfl
  rw [O.frz b o this,e]
end Go.AL

namespace Go.AL
open Go
variable {P : Program} {T : Tab} {G : Glob}

structure YCall (P : Program) (G : Glob) (l : Nat) (args : List D) (pre : List AObj) (d : D) (post : List AObj) : Prop where
 run : ∀ E (w : World) vs, Core G E w.heap (sto pre) pre.length → VRs E w.heap (sto pre) args vs →
  YRun P l vs.toArray w (fun e w' => ∃ E' v, e = .returned v ∧ VR E' w'.heap (sto post) d v ∧ Core G E' w'.heap (sto post) post.length ∧
   Guar pre.length E w.heap (sto pre) E' w'.heap (sto post) ∧ WSame w w')

def jcode : Exit → Option Code
 | .ret=>some .ret
 | .exit id=>some (.exit id)
 | .goto t=>some (.goto t)
 | _=>none
def jok : Exit → Bool
 | .normal=>true
 | .ret=>true
 | .exit _=>true
 | .goto _=>true
 | _=>false
theorem jcode_none {e : Exit} (h : jok e = true) (hj : jcode e = none) : e = .normal := by
 cases e <;> simp [jok,jcode] at h hj ⊢
abbrev rcd (fn : FuncId) (tmps : Array Value) (ps : Array Tmp) (assign body : Code) (Dd : Nat) (e : Exit) : Loop :=
 { state:=if (jcode e).isNone then .ready else .done,pending:=jcode e,fn,tmps,params:=ps,assign,body,defers:=Dd }

def parL : List Tmp → List D → Sl → Sl
 | p :: ps,d :: ds,l=>parL ps ds ((p,d) :: l)
 | _,_,l=>l
theorem up_mkρ (l : Sl) (t : Nat) (d : D) : up (mkρ l) t d = mkρ ((t, d) :: l) := by
 funext j
 simp only [up,mkρ]
 cases Nat.beq j t <;> rfl
theorem Rel.params {E : Env} {w : World} {σ : Store} {nx n : Nat} {dl : List Deferred} : ∀ (ps : List Tmp) (ds : List D) (vs : List Value) (l : Sl) (tm : Array Value), ds.length = ps.length → VRs E w.heap σ ds vs → (∀ p ∈ ps, p < n) →
  Rel G E w ⟨mkρ l,σ,nx,n⟩ { tmps:=tm,defers:=dl } →
  Rel G E w ⟨mkρ (parL ps ds l),σ,nx,n⟩ { tmps:=(ps.zip vs).foldl (fun t p=>t.setIfInBounds p.1 p.2) tm,defers:=dl }
 | [],ds,vs,l,tm,h1,h2,h3,R=>by simpa [parL] using R
 | p :: ps,[],vs,l,tm,h1,h2,h3,R=>by simp at h1
 | p :: ps, d :: ds, vs, l, tm, h1, h2, h3, R => by
  obtain ⟨v,vs',rfl,a1,a2⟩:=VRs_cons_inv h2
  have R1:=R.put (t:=p) (d:=d) (v:=v) a1 (h3 p (by simp))
  have R2 : Rel G E w ⟨mkρ ((p, d) :: l), σ, nx, n⟩ { tmps := tm.setIfInBounds p v, defers := dl } := by
   rw [← up_mkρ]
   exact R1
  simpa [parL] using Rel.params ps ds vs' ((p,d) :: l) (tm.setIfInBounds p v) (by simpa using h1) a2 (fun q hq=>h3 q (by simp [hq])) R2

theorem renH_id : ∀ hs : List (Nat × Nat × D), renH some hs = some hs
 | []=>rfl
 | (i,j,d) :: t=>by simp [renH,D.ren_id,renH_id t]
theorem AObj.ren_id (x : AObj) : AObj.ren some x = some x := by
 cases x <;> simp [AObj.ren,D.renL_id,renH_id]
theorem cutr_none : cutr none = some := by
 funext k
 simp [cutr]

theorem foldl_zip (ps : Array Tmp) (vs : List Value) (tm : Array Value) :
  (ps.zip vs.toArray).foldl (fun tmps (t,a)=>tmps.setIfInBounds t a) tm = (ps.toList.zip vs).foldl (fun t p=>t.setIfInBounds p.1 p.2) tm:=by
 rw [← Array.foldl_toList]
 simp

theorem YCall.round {m mr : Nat} {E0 : Env} {σ0 : Store} {nx n L Dd : Nat} {fn : FuncId} {tmps : Array Value} {ps : Array Tmp} {assign body : Code} {l : Sl} {σ1 σ2 : Store} {e1 e2 : Exit} {encs : List D}
  (he1 : jcode e1 = none) (he2 : jok e2 = true) (hm : m ≤ mr) (hmr : mr ≤ nx) (hlen : encs.length = ps.size) (hps : ∀ p ∈ ps.toList,p < n) (htm : tmps.size = n)
  (henc : D.renL (fun _=>none) encs = some encs) (hk1 : ∀ k,mr ≤ k → σ1 k = .dead) (hLD : L ≠ Dd) (hn1 : Code.nodef assign = true) (hn2 : Code.nodef body = true)
  (hw : AWp P { g:=G.g } mr assign (fun e st=>match e with|.normal=>AWp P { g:=G.g } mr body (fun e st'=>e = e2 ∧ StWk { g:=G.g } mr st' ⟨fun _=>.junk,σ2,nx,n⟩) st|_=>False) ⟨mkρ (parL ps.toList encs l),σ1,nx,n⟩) :
  YCall P G L encs [.bag (rgB m E0 σ0 (mkρ l) σ1 L Dd (rcd fn tmps ps assign body Dd e1))] (vB (jcode e2).isNone) [.bag (rgB m E0 σ0 (mkρ l) σ2 L Dd (rcd fn tmps ps assign body Dd e2))]:=by
 refine ⟨fun E w vs C hv=>?_⟩
 have H : RgR m E0 σ0 (mkρ l) σ1 L Dd (rcd fn tmps ps assign body Dd e1) E w.heap 0:=C.objs 0
 obtain ⟨E2,hi,C2,hslots,hL2,hD2,hL,hD,hLo,hDo,O⟩:=RgR.opened (nx:=nx) C (fun k hk=>hk1 k (by omega)) H
 have hLlt:=lt_of_get hL
 have hDlt:=lt_of_get hD
 have R0 : Rel { g:=G.g } E2 w ⟨mkρ l,σ1,nx,n⟩ { tmps:=tmps,defers:=[] }:=⟨Core.congr (G:=G) (G':={ g:=G.g }) rfl C2,htm,hslots,Dfs.of_eq rfl rfl⟩
 have hv2 : VRs E2 w.heap σ1 encs vs:=hv.map' O.none henc
 have R1:=Rel.params ps.toList encs vs l tmps (by simpa using hlen) hv2 hps R0
 have hvl : vs.length = encs.length:=hv.1
 refine ⟨fn,_,assign,body,run_yield hL (by simp [hvl,hlen]),roundIn_of_wpIn (F:=Fence.wide) trivial ?_⟩
 rw [foldl_zip]
 have h1:=hw.semR hmr E2 _ w R1 (some L) (.inr hn1)
 refine wpIn_mono h1 fun e a1 w1 hp=>?_
 rcases hp with ⟨Ea,sta,q,hma,Ra,ga,sa⟩|⟨_,_,_,_,_,hq,_⟩
 case inr=>exact hq.elim
 cases e with
 | normal =>
  have hLa : ∀ o,Ea.own L o = .ext:=fun o=>(ga.ext L o hLlt (hL2 o)).1
  have hLh : w1.heap[L]? = some (.loop (rcd fn tmps ps assign body Dd e1)):=(ga.blk L hLlt fun o=>.inl (hL2 o)).trans hL
  have hst : (rcd fn tmps ps assign body Dd e1).state = .ready:=by simp [he1]
  refine ⟨_,run_beginRound hLh hst,?_⟩
  have p1:=Poke.set (y:=.loop { rcd fn tmps ps assign body Dd e1 with state:=.busy }) hLh rfl rfl
  have hX1 : ∀ b,b = L → ∀ o,Ea.own b o = .ext:=fun b e o=>by rw [e]; exact hLa o
  have Rb : Rel { g := G.g } Ea (w1.putObj L (.loop { rcd fn tmps ps assign body Dd e1 with state := .busy })) sta a1 :=
   ⟨Ra.core.poke p1 hX1,Ra.n,fun t=>(Ra.slots t).keep (p1.cmap Ra.core.bnd),Dfs.of_eq rfl (Ra.defers.eq rfl)⟩
  have h2:=AWp.semR q hma Ea a1 _ Rb (some L) (.inr hn2)
  refine wpIn_mono h2 fun e a2 w2 hp=>?_
  rcases hp with ⟨Eb,stb,⟨he,hwk⟩,hmb,Rb',gb,sb⟩|⟨_,_,_,_,_,hq,_⟩
  case inr=>exact hq.elim
  obtain ⟨Ec,Rc,hmc,gc⟩:=hwk Eb w2 a2 hmb Rb'
  have gbc:=gb.trans gc
  have hlt1 : L < (w1.putObj L (.loop { rcd fn tmps ps assign body Dd e1 with state := .busy })).heap.size := by
   rw [World.putObj_size]; exact lt_of_get hLh
  have hLc : ∀ o,Ec.own L o = .ext:=fun o=>(gbc.ext L o hlt1 (hLa o)).1
  have hLh2 : w2.heap[L]? = some (.loop { rcd fn tmps ps assign body Dd e1 with state:=.busy }):=(gbc.blk L hlt1 fun o=>.inl (hLa o)).trans (World.putObj_heap_same (lt_of_get hLh))
  have gX : GuarX (fun b=>b = L) mr E2 w.heap σ1 Ec w2.heap σ2:=((ga.toX _).trans p1.guarX).trans (gbc.toX _)
  have p2:=Poke.set (y:=.loop (rcd fn tmps ps assign body Dd e2)) hLh2 rfl rfl
  have hX2 : ∀ b,b = L → ∀ o,Ec.own b o = .ext:=fun b e o=>by rw [e]; exact hLc o
  have gX3 : GuarX (fun b=>b = L) mr E2 w.heap σ1 Ec (w2.putObj L (.loop (rcd fn tmps ps assign body Dd e2))).heap σ2:=gX.trans p2.guarX
  have hDc : ∀ o,Ec.own Dd o = .ext:=fun o=>(gX3.ext Dd o hDlt (hD2 o)).1
  have hDh : (w2.putObj L (.loop (rcd fn tmps ps assign body Dd e2))).heap[Dd]? = some (.deferred (some [])):=(gX3.blk Dd hDlt (fun e=>hLD e.symm) fun o=>.inl (hD2 o)).trans hD
  have hLh3 : (w2.putObj L (.loop (rcd fn tmps ps assign body Dd e2))).heap[L]? = some (.loop (rcd fn tmps ps assign body Dd e2)):=World.putObj_heap_same (lt_of_get hLh2)
  have C3 : Core G Ec (w2.putObj L (.loop (rcd fn tmps ps assign body Dd e2))).heap σ2 nx:=(Core.congr (G:={ g:=G.g }) (G':=G) rfl Rc.core).poke p2 hX2
  have M : CMap some E2 w.heap σ1 Ec (w2.putObj L (.loop (rcd fn tmps ps assign body Dd e2))).heap σ2 := by
   refine ⟨fun b o e=>gX3.fz b o (C2.bnd b o (Own.frz_ext e)) e,fun b o q e=>gX3.sc b o q (C2.bnd b o (by rw [e]; simp)) e,fun k k' hl e=>?_⟩
   simp at e; subst e
   refine gX3.ids k ?_ hl
   rcases Nat.lt_or_ge k mr with h|h
   ·exact h
   ·exact absurd (hk1 k h) hl
  have CS := Core.shutR (m := m) (E0 := E0) (σ0 := σ0) (ρ := mkρ l) (ρ' := mkρ l) (L := L) (Dd := Dd) (x0 := E.φ 0) (H0 := E.hdr 0) (rec := rcd fn tmps ps assign body Dd e2) none C3 (σ1 := σ2) (fun _ _ => rfl) (fun q e => by simp at e)
   (fun k=>by rw [cutr_none]; exact AObj.ren_id _) (fun t=>by rw [cutr_none]; exact D.ren_id _) (fun t=>(hslots t).keep M) (hi.trans (Idg.mono hm gX3.ids)) hLc hDc hLh3 hDh [] rfl
  obtain ⟨O2,Oz,Oe⟩:=shutR_opn (E:=Ec) (qo:=none) (L:=L) (Dd:=Dd) (x0:=E.φ 0) (H0:=E.hdr 0) hLc hDc
  have hbL : ∀ b o, (E.own b o = .ext ∨ (E.own b o).frz = true) → b ≠ L ∧ b ≠ Dd := by
   intro b o e
   refine ⟨fun e'=>?_,fun e'=>?_⟩
   ·subst e'; rw [hLo o] at e; simp [Own.frz] at e
   ·subst e'; rw [hDo o] at e; simp [Own.frz] at e
  have gf : Guar 1 E w.heap (sto [.bag (rgB m E0 σ0 (mkρ l) σ1 L Dd (rcd fn tmps ps assign body Dd e1))]) (AL.shutR Ec none L Dd (E.φ 0) (E.hdr 0)) (w2.putObj L (.loop (rcd fn tmps ps assign body Dd e2))).heap (sto [.bag (rgB m E0 σ0 (mkρ l) σ2 L Dd (rcd fn tmps ps assign body Dd e2))]) := by
   refine ⟨gX3.sz,fun b o hb e=>?_,fun b o q hb e=>(O2.sc b o q).1 (gX3.sc b o q hb ((O.sc b o q).2 e)),fun b o q hb e=>(O.sc b o q).1 (gX3.sc' b o q hb ((O2.sc b o q).2 e)),fun b o hb e=>?_,gX3.shp,fun b hb e=>?_,fun k hk hl=>?_⟩
   ·have f1 := O.frz b o e
    obtain ⟨f2,f3⟩:=gX3.fz b o hb (by rw [f1]; exact e)
    exact ⟨by rw [Oz b o (by rw [f2,f1]; exact e),f2,f1],f3⟩
   ·obtain ⟨f2, f3⟩ := gX3.ext b o hb (O.ext b o e)
    obtain ⟨n1,n2⟩:=hbL b o (.inl e)
    exact ⟨Oe b o f2 n1 n2,f3⟩
   ·refine gX3.blk b hb (hbL b 0 (e 0)).1 fun o => ?_
    rcases e o with e|e
    ·exact .inl (O.ext b o e)
    ·exact .inr (by rw [O.frz b o e]; exact e)
   ·have hk0 : k = 0 := by omega
    subst hk0
    exact ⟨by simp [live,sto],rfl,fun m' hm'=>by simp [tlen,sto] at hm',fun s' hs'=>by simp [tstr,sto] at hs'⟩
  have key : ∀ jc, jc = jcode e2 → ∃ v w', (Instr.endRound L jc).run P w2 = .ok v w' ∧ (∃ E' v', Ending.returned v = .returned v' ∧ VR E' w'.heap (sto [.bag (rgB m E0 σ0 (mkρ l) σ2 L Dd (rcd fn tmps ps assign body Dd e2))]) (vB (jcode e2).isNone) v' ∧
    Core G E' w'.heap (sto [.bag (rgB m E0 σ0 (mkρ l) σ2 L Dd (rcd fn tmps ps assign body Dd e2))]) 1 ∧
    Guar 1 E w.heap (sto [.bag (rgB m E0 σ0 (mkρ l) σ1 L Dd (rcd fn tmps ps assign body Dd e1))]) E' w'.heap (sto [.bag (rgB m E0 σ0 (mkρ l) σ2 L Dd (rcd fn tmps ps assign body Dd e2))]) ∧ WSame w w'):=by
   intro jc hjc
   subst hjc
   exact ⟨_,_,run_endRound (jcode e2) hLh2,_,_,rfl,.v _,CS,gf,⟨sb.os.trans sa.os,sb.tape.trans sa.tape,sb.output.trans sa.output⟩⟩
  subst he
  cases e with
  | normal=>exact key none rfl
  | ret=>exact key (some .ret) rfl
  | exit id=>exact key (some (.exit id)) rfl
  | goto t=>exact key (some (.goto t)) rfl
  | panic c=>simp [jok] at he2
  | outgrown=>simp [jok] at he2
 | _=>exact q.elim
end Go.AL

namespace Go.AL
open Go
variable {P : Program} {T : Tab} {G : Glob}

def visitR {α : Type} (ok : List α → Bool) : List α → List α → List α
 | pre,[]=>pre
 | pre,x :: r=>match ok (pre ++ [x]) with|true=>visitR ok (pre ++ [x]) r|false=>pre ++ [x]

def IterSpec (P : Program) (G : Glob) (f : FuncId) (cob : AObj) {α : Type} (encs : α → List D) (xs : List α) : Prop :=
 IsFn P f ∧ ∀ (l : Nat) (B : List α → Bag) (ok : List α → Bool),
  (∀ pre x r,xs = pre ++ x :: r → (∀ p y s,pre = p ++ y :: s → ok (p ++ [y]) = true) → YCall P G l (encs x) [.bag (B pre)] (vB (ok (pre ++ [x]))) [.bag (B (pre ++ [x]))]) →
  FCall P G f [.func (.yield l) [] [],.ptr 1 0] [.bag (B []),cob] (.tuple []) [.bag (B (visitR ok [] xs)),cob]

theorem AWp.rangeFunc {base : Nat} (hmks : G.mks = some base) {m mr : Nat} {g : Operand} {ps : Array Tmp} {assign body : Code} {Q : Exit → St → Prop} {st : St} {f : FuncId} {q : Nat} {cob : AObj} {ks : Sl} {α : Type} {encs : α → List D} {xs : List α} {σ : List α → Store} {jump : List α → Exit}
  (hg : ev G st.ρ g = .func (.func f) [] [.ptr q 0]) (hq : st.σ q = cob) (hqd : cob ≠ .dead) (hqm : m ≤ q) (hcob : AObj.ren (oner (some q)) cob = some cob)
  (hσ : ∀ k,k ≠ q → σ [] k = st.σ k) (hσq : σ [] q = .dead) (hr : ∀ k,AObj.ren (cutr (some q)) (σ [] k) = some (σ [] k))
  (hks : ∀ t,mkρ ks t = st.ρ t ∨ mkρ ks t = .junk) (hkr : ∀ t,D.ren (cutr (some q)) (mkρ ks t) = some (mkρ ks t))
  (hkeys : ∀ p k,mr ≤ k → σ p k = .dead) (hmr0 : m ≤ mr) (hmr : mr ≤ st.nx)
  (hlen : ∀ x,(encs x).length = ps.size) (hps : ∀ p ∈ ps.toList,p < st.n) (henc : ∀ x,D.renL (fun _=>none) (encs x) = some (encs x))
  (hn1 : Code.nodef assign = true) (hn2 : Code.nodef body = true) (hj0 : jump [] = .normal) (hjok : ∀ p,jok (jump p) = true)
  (hspec : IterSpec P G f cob encs xs)
  (hround : ∀ pre x r, xs = pre ++ x :: r → (∀ p y s, pre = p ++ y :: s → jump (p ++ [y]) = .normal) →
   AWp P { g:=G.g } mr assign (fun e s=>match e with|.normal=>AWp P { g:=G.g } mr body (fun e s'=>e = jump (pre ++ [x]) ∧ StWk { g:=G.g } mr s' ⟨fun _=>.junk,σ (pre ++ [x]),st.nx,st.n⟩) s|_=>False) ⟨mkρ (parL ps.toList (encs x) ks),σ pre,st.nx,st.n⟩)
  (hfin : ∀ v,v = visitR (fun p=>(jcode (jump p)).isNone) [] xs → Q (jump v) ⟨mkρ ks,σ v,st.nx,st.n⟩) :
  AWp P G m (.rangeFunc g ps assign body) Q st:=by
 refine ⟨fun hm E a w R r hr0=>?_⟩
 obtain rfl : r = none:=hr0.elim id (fun h=>by simp [Code.nodef] at h)
 refine wpIn_rangeFunc (F:=Fence.wide) fun fn _=>?_
 have hgv:=R.evl g
 rw [hg] at hgv
 obtain ⟨pv, hgv1, hpv⟩ : ∃ pv : Value, a.eval g = .func (.func f) #[] #[pv] ∧ VR E w.heap st.σ (.ptr q 0) pv := by
  revert hgv
  generalize a.eval g = gv
  intro hgv
  cases hgv with
  | func _ _ _ us vs l1 l2 f1 f2 =>
   obtain rfl : us = []:=List.eq_nil_of_length_eq_zero l1
   match vs,l2,f2 with
   | [v],l2,f2=>exact ⟨v,rfl,f2 0 (by simp) (by simp)⟩
 obtain ⟨Dd,hDd⟩ : ∃ Dd,Dd = w.heap.size:=⟨_,rfl⟩
 obtain ⟨L,hLe⟩ : ∃ L,L = w.heap.size + 1:=⟨_,rfl⟩
 have hLD : L ≠ Dd:=by omega
 obtain ⟨W1,hW1⟩ : ∃ W1,(w.alloc (.deferred (some []))).alloc (.loop (rcd fn a.tmps ps assign body Dd .normal)) = W1:=⟨_,rfl⟩
 have hheap : W1.heap = (w.heap.push (.deferred (some []))).push (.loop (rcd fn a.tmps ps assign body Dd .normal)):=by rw [← hW1]; rfl
 have hws : WSame w W1:=by rw [← hW1]; exact ⟨rfl,rfl,rfl⟩
 have hL1 : W1.heap[L]? = some (.loop (rcd fn a.tmps ps assign body Dd .normal)) := by
  rw [hheap,Array.getElem?_push,if_pos (by simp [hLe])]
 have hD1 : W1.heap[Dd]? = some (.deferred (some [])) := by
  rw [hheap,push_old (by simp [hDd]),Array.getElem?_push,if_pos hDd]
 have pk : Poke (fun _=>False) w.heap W1.heap:=by rw [hheap]; exact (Poke.push _ _).trans (Poke.push _ _)
 have hEL : ∀ b o, w.heap.size ≤ b → E.own b o = .ext := fun b o hb => by
  cases h : E.own b o with
  | ext=>rfl
  | _=>have:=R.core.bnd b o (by rw [h]; simp); omega
 have C1 : Core G E W1.heap st.σ st.nx:=R.core.poke pk (fun b h=>h.elim)
 have hv1 : ∀ t, VR E W1.heap st.σ (mkρ ks t) ((rcd fn a.tmps ps assign body Dd .normal).tmps.getD t undef) := by
  intro t
  rcases hks t with h|h
  ·rw [h]; exact (R.slots t).keep (pk.cmap R.core.bnd)
  ·rw [h]; exact .junk _
 have hi0 : Idg m E st.σ E (σ []) := fun k hk hl => by
  have hne : k ≠ q:=by omega
  have e:=hσ k hne
  refine ⟨by unfold live; rw [e]; exact hl,rfl,fun m' hm'=>⟨m',?_,Nat.le_refl _,fun _=>rfl⟩,fun s' hs'=>?_⟩
  ·unfold tlen at hm' ⊢; rw [e] at hm'; exact hm'
  ·unfold tstr at hs' ⊢; rw [e] at hs'; exact hs'
 have CS := Core.shutR (m := m) (E0 := E) (σ0 := st.σ) (ρ := mkρ ks) (ρ' := mkρ ks) (L := L) (Dd := Dd) (x0 := 0) (H0 := (none, 0)) (rec := rcd fn a.tmps ps assign body Dd .normal) (some q) C1 (σ1 := σ [])
  (fun k hk=>hσ k fun e=>hk (by rw [e])) (fun q' e=>by simp at e; subst e; exact hσq) hr hkr hv1 hi0 (fun o=>hEL L o (by omega)) (fun o=>hEL Dd o (by omega)) hL1 hD1 [cob] ⟨cob,rfl,hq,hcob⟩
 obtain ⟨O2,Oz,Oe⟩:=shutR_opn (E:=E) (qo:=some q) (L:=L) (Dd:=Dd) (x0:=0) (H0:=(none,0)) (fun o=>hEL L o (by omega)) (fun o=>hEL Dd o (by omega))
 obtain ⟨hpe,hpl⟩:=hpv.ptr_inv
 obtain ⟨B,hB⟩ : ∃ B : List α → Bag,B = fun p=>rgB m E st.σ (mkρ ks) (σ p) L Dd (rcd fn a.tmps ps assign body Dd (jump p)):=⟨_,rfl⟩
 have hargs : VRs (AL.shutR E (some q) L Dd 0 (none, 0)) W1.heap (sto [.bag (B []), cob]) [.func (.yield L) [] [], .ptr 1 0] [.func (.yield L) #[] #[], pv] := by
  refine VRs_cons.2 ⟨VR.func _ [] [] [] [] rfl rfl (fun i a=>by simp at a) (fun i a=>by simp at a),VRs_cons.2 ⟨?_,VRs_nil.2 rfl⟩⟩
  rw [hpe]
  exact VR.ptr (E:=AL.shutR E (some q) L Dd 0 (none,0)) 1 0 (by unfold live; simpa [sto] using hqd)
 have hB0 : B [] = rgB m E st.σ (mkρ ks) (σ []) L Dd (rcd fn a.tmps ps assign body Dd .normal):=by rw [hB]; simp only [hj0]
 rw [← hB0] at CS
 have hcall := (hspec.2 L B (fun p => (jcode (jump p)).isNone) (fun pre x r he hok => by
  rw [hB]
  refine YCall.round (e1:=jump pre) (e2:=jump (pre ++ [x])) ?_ (hjok _) hmr0 hmr (hlen x) hps R.n (henc x) (hkeys pre) hLD hn1 hn2 (hround pre x r he fun p y s hp=>jcode_none (hjok _) (by simpa using hok p y s hp))
  rcases List.eq_nil_or_concat pre with rfl|⟨p,y,rfl⟩
  ·rw [hj0]; rfl
  ·have := hok p y [] (by simp)
   simpa using this)).run _ W1 _ CS hargs
 refine ⟨L,[{ target:=.collected Dd,args:=#[] }],W1,{ target:=.fn (.func f) #[pv],args:=#[.func (.yield L) #[] #[]] },W1,f,#[.func (.yield L) #[] #[],pv],W1,?_,?_,fun _ _=>trivial,?_,fun h=>by simp [Fence.wide] at h,?_⟩
 ·rw [hLe, hDd, ← hW1, hDd]
  exact run_enterLoop_outer _ _ _ _ _
 ·simp only [resolve, hgv1]
  simp [go_sem]
 ·have := run_callFunc hspec.1 #[Value.func (.yield L) #[] #[], pv] W1
  simp only [invoke]
  simpa using this
 refine callsIn_wide.2 (Calls.mono hcall fun e w' he=>?_)
 obtain ⟨Ec,v,rfl,_,Cc,gc,sc⟩:=he
 obtain ⟨vv,hvv⟩ : ∃ vv,vv = visitR (fun p=>(jcode (jump p)).isNone) [] xs:=⟨_,rfl⟩
 rw [← hvv] at Cc gc
 have H : RgR m E st.σ (mkρ ks) (σ vv) L Dd (rcd fn a.tmps ps assign body Dd (jump vv)) Ec w'.heap 0 := by
  have:=Cc.objs 0
  rw [hB] at this
  exact this
 obtain ⟨E2,hi,C2,hslots,hL2,hD2,hL,hDh,hLo,hDo,O⟩:=RgR.opened (nx:=st.nx) Cc (fun k hk=>hkeys vv k (by omega)) H
 have hend:=run_endLoop (P:=P) hL (by simp only []; split <;> simp)
 refine ⟨_,_,hend,?_⟩
 have p2:=Poke.set (y:=.loop { rcd fn a.tmps ps assign body Dd (jump vv) with state:=.exhausted }) hL rfl rfl
 have hX2 : ∀ b,b = L → ∀ o,E2.own b o = .ext:=fun b e o=>by rw [e]; exact hL2 o
 obtain ⟨W4,hW4⟩ : ∃ W4,w'.putObj L (.loop { rcd fn a.tmps ps assign body Dd (jump vv) with state:=.exhausted }) = W4:=⟨_,rfl⟩
 have hh4 : W4.heap = w'.heap.setIfInBounds L (.loop { rcd fn a.tmps ps assign body Dd (jump vv) with state:=.exhausted }):=by rw [← hW4]; rfl
 rw [← hh4] at p2
 have hs4 : WSame w' W4:=by rw [← hW4]; exact ⟨rfl,rfl,rfl⟩
 rw [hW4]
 have hold : ∀ b,b < w.heap.size → b ≠ L ∧ b ≠ Dd:=fun b hb=>⟨by omega,by omega⟩
 have hlt1 : ∀ b,b < w.heap.size → b < W1.heap.size:=fun b hb=>Nat.lt_of_lt_of_le hb pk.sz
 have hlt2 : ∀ b,b < w.heap.size → b < w'.heap.size:=fun b hb=>Nat.lt_of_lt_of_le (hlt1 b hb) gc.sz
 have gf : Guar m E w.heap st.σ E2 W4.heap (σ vv) := by
  refine ⟨Nat.le_trans pk.sz (Nat.le_trans gc.sz p2.sz),fun b o hb e=>?_,fun b o x hb e=>?_,fun b o x hb e=>?_,fun b o hb e=>?_,?_,fun b hb e=>?_,hi⟩
  ·have f1 := Oz b o e
   obtain ⟨f2,f3⟩:=gc.fz b o (hlt1 b hb) (by rw [f1]; exact e)
   exact ⟨by rw [O.frz b o (by rw [f2,f1]; exact e),f2,f1],(p2.cell b o (hlt2 b hb)).trans (f3.trans (pk.cell b o hb))⟩
  ·exact (O.sc b o x).2 (gc.sc b o x (hlt1 b hb) ((O2.sc b o x).1 e))
  ·exact (O2.sc b o x).2 (gc.sc' b o x (hlt1 b hb) ((O.sc b o x).1 e))
  ·obtain ⟨f2, f3⟩ := gc.ext b o (hlt1 b hb) (Oe b o e (hold b hb).1 (hold b hb).2)
   exact ⟨O.ext b o f2,(p2.cell b o (hlt2 b hb)).trans (f3.trans (pk.cell b o hb))⟩
  ·intro b c e f hb
   obtain ⟨c1,f1,h1,s1,t1⟩:=pk.shp b c e f hb
   obtain ⟨c2,f2,h2,s2,t2⟩:=gc.shp b c1 e f1 h1
   obtain ⟨c3,f3,h3,s3,t3⟩:=p2.shp b c2 e f2 h2
   refine ⟨c3,f3,h3,s3.trans (s2.trans s1),t1.trans ?_⟩
   rw [← s1]
   refine t2.trans ?_
   rw [← s2]; exact t3
  ·rw [p2.blk b (hlt2 b hb) (hold b hb).1, gc.blk b (hlt1 b hb) (fun o => ?_), pk.blk b hb (fun h => h)]
   rcases e o with e|e
   ·exact .inl (Oe b o e (hold b hb).1 (hold b hb).2)
   ·exact .inr (by rw [Oz b o e]; exact e)
 have hdf : Dfs G E2 W4.heap (markOf Dd :: a.defers) := by
  have hd0:=R.defers
  unfold Dfs at hd0 ⊢
  rw [hmks] at hd0 ⊢
  obtain ⟨b0,Ds,b1,b2,b3⟩:=hd0
  have hDs : ∀ D ∈ Ds,D < w.heap.size:=fun D hD=>lt_of_get (b3 D hD).2.1
  refine ⟨Nat.le_trans b0 gf.sz,Dd :: Ds,by rw [b1]; rfl,List.nodup_cons.2 ⟨fun h=>by have:=hDs Dd h; omega,b2⟩,fun D hD=>?_⟩
  rcases List.mem_cons.1 hD with e|e
  ·rw [e]
   refine ⟨by rw [hDd]; exact b0,?_,hD2⟩
   rw [p2.blk Dd (lt_of_get hDh) (fun e=>hLD e.symm)]; exact hDh
  ·obtain ⟨c1, c2, c3⟩ := b3 D e
   exact ⟨c1,(gf.blk D (hDs D e) fun o=>.inl (c3 o)).trans c2,fun o=>(gf.ext D o (hDs D e) (c3 o)).1⟩
 have Rf : Rel G E2 W4 ⟨mkρ ks, σ vv, st.nx, st.n⟩ { a with defers := [{ target := .collected Dd, args := #[] }] ++ a.defers } :=
  ⟨C2.poke p2 hX2,R.n,fun t=>(hslots t).keep (p2.cmap C2.bnd),hdf⟩
 have hQ:=hfin vv hvv
 have hpost : PostE G m E w st Q (jump vv) { a with defers := [{ target := .collected Dd, args := #[] }] ++ a.defers } W4 :=
  .inl ⟨E2,_,hQ,hm,Rf,gf,hws.trans (sc.trans hs4)⟩
 have hjv:=hjok vv
 revert hpost hjv
 generalize jump vv = ee
 intro hpost hjv
 cases ee with
 | normal=>exact hpost
 | ret=>exact wpIn_ret hpost
 | exit id=>exact wpIn_exit hpost
 | goto t=>exact wpIn_goto hpost
 | panic c=>simp [jok] at hjv
 | outgrown=>simp [jok] at hjv
end Go.AL

namespace Go.AL
open Go
variable {P : Program} {T : Tab} {G : Glob}

theorem YRun.mono {l : Nat} {vs : Array Value} {w : World} {Q Q' : Ending → World → Prop} (h : YRun P l vs w Q) (hq : ∀ e w', Q e w' → Q' e w') : YRun P l vs w Q' := by
 obtain ⟨fn,tmps,assign,body,h1,h2⟩:=h
 exact ⟨fn,tmps,assign,body,h1,RoundIn.mono h2 hq⟩
theorem YCall.congr {G' : Glob} {l : Nat} {args : List D} {pre : List AObj} {d : D} {post : List AObj} (hg : G'.g = G.g) (h : YCall P G' l args pre d post) : YCall P G l args pre d post :=
 ⟨fun E w vs C hv=>YRun.mono (h.run E w vs (C.congr hg) hv) fun e w' ⟨E',v,h1,h2,h3,h4,h5⟩=>⟨E',v,h1,h2,h3.congr hg.symm,h4,h5⟩⟩
theorem YOk.of2 {l : Nat} {args args' : List D} {pre post : List AObj} {d d' : D} {σ : Store} {id : Nat} {q : Nat → Nat} {qi : Nat → Option Nat} {ups : List (Nat × AObj)} {rds : List Nat}
  (h : YCall P G l args' pre d post)
  (L : ∀ σ0 : Store,(∀ k,k ∈ rds ∨ k ∈ keysOf ups → σ0 k = σ k) → Link q qi pre.length post.length σ0 pre post (updAll σ0 ups))
  (hr : ArgsTo (fun k=>(qi k).bind fun i=>if i < pre.length then some i else none) args args')
  (hd : D.ren (fun i=>if i < post.length then some (q i) else none) d = some d')
  (hq : ∀ i,i < post.length → σ (q i) ≠ .dead ∧ q i ∈ rds ∨ q i < id + 8) : YOk P G l args σ id d' ups rds:=by
 refine ⟨fun E w st a vs R hv hk h0=>?_⟩
 have L1:=L st.σ hk
 have hv1:=hr.sem (L1.pull.cmap (E:=E) (h:=w.heap)) hv
 refine YRun.mono (h.run (E.pull _ q) w vs (L1.pull.core R.core |> fun C=>by simpa using C) hv1) fun e w' he=>?_
 obtain ⟨Ec,v,rfl,hvd,Cc,g,s⟩:=he
 have hqn : ∀ i, i < post.length → q i < st.nx := by
  intro i hi
  rcases hq i hi with ⟨h1,h2⟩|h1
  ·rcases Nat.lt_or_ge (q i) st.nx with hx | hx
   ·exact hx
   ·have := R.core.dead _ hx
    rw [hk _ (.inl h2)] at this
    exact absurd this h1
  ·omega
 obtain ⟨C',g',M,Mq⟩:=L1.step R.core hqn Cc g
 exact ⟨_,v,rfl,hvd.map' Mq hd,⟨C',R.n,fun t=>(R.slots t).keep M,R.defers.keep g'⟩,g',s⟩

theorem YLeaf.o {G' : Glob} {l : Nat} {args args' : List D} {pre post : List AObj} {d d' : D} {σ : Store} {id : Nat} {K : KD} {ups : List (Nat × AObj)} (qs : List Nat)
  (hr : ArgsTo (idxN pre.length qs) args args') (h : YCall P G' l args' pre d post) (hn : nodupN qs = true) (hle : Nat.ble pre.length post.length = true)
  (hp : preOk σ (idxN pre.length qs) qs pre) (hl : liveAll σ (qs.take pre.length)) (hnew : newOk σ id (qs.drop pre.length) 0)
  (hu : upsOf (atN qs) qs post = some ups) (hd : D.ren (atN qs) d = some d') (hk : K d' ups (qs.take pre.length)) (hg : G'.g = G.g:=by rfl) : YLeaf P G l args σ id K:=by
 replace h:=h.congr hg
 have hle:=Nat.le_of_ble_eq_true hle
 obtain ⟨u1,u2,u3⟩:=upsOf_spec hu
 have hat : ∀ i, i < post.length → atN qs i = some (qs.getD i 0) := by
  intro i hi
  simp [atN,List.getD,show i < qs.length by omega]
 have hidx : ∀ i,i < post.length → idx qs (qs.getD i 0) = some i:=fun i hi=>idx_get hn (hat i hi)
 have hrn : (fun k => (idx qs k).bind fun i => if i < pre.length then some i else none) = idxN pre.length qs := by
  funext k
  unfold idxN
  cases idx qs k with
  | none=>rfl
  | some j =>
   simp only [Option.bind_some]
   by_cases hj : j < pre.length
   ·have : Nat.blt j pre.length = true := by simpa [Nat.blt_eq] using hj
    rw [this]; simp [hj]
   ·have : Nat.blt j pre.length = false := by
     cases hb : Nat.blt j pre.length with
     | false=>rfl
     | true=>exact absurd (by simpa [Nat.blt_eq] using hb) hj
    rw [this]; simp [hj]
 have hrd : (fun i => if i < post.length then some (qs.getD i 0) else none) = atN qs := by
  funext i
  by_cases hi : i < post.length
  ·rw [if_pos hi,hat i hi]
  ·rw [if_neg hi,atN,List.getElem?_eq_none (by omega)]
 refine ⟨d',ups,qs.take pre.length,?_,hk⟩
 refine YOk.of2 (q:=fun i=>qs.getD i 0) (qi:=idx qs) h (fun σ0 hσ=>?_) (by rw [hrn]; exact hr) (by rw [hrd]; exact hd) (fun i hi=>?_)
 ·have hin : ∀ k, k ∈ qs → σ0 k = σ k := fun k hk => hσ k (.inr (by rw [u1]; exact hk))
  refine ⟨fun k i e=>?_,hidx,hle,rfl,rfl,fun i hi=>?_,fun i hi=>?_,fun k e=>?_,fun i h1 h2=>?_⟩
  ·have h1 := idx_some e
   refine ⟨by simp [List.getD,h1],?_⟩
   rcases Nat.lt_or_ge i qs.length with h2|h2
   ·omega
   ·rw [List.getElem?_eq_none h2] at h1; simp at h1
  ·have e2 : pre[i]? = some pre[i] := by simp
   obtain ⟨s,e3,e4⟩:=preOk_get hp i _ e2
   have e5 : qs.getD i 0 = s:=by simp [List.getD,e3]
   show AObj.ren _ (σ0 (qs.getD i 0)) = _
   rw [hrn,e5,hin s (List.mem_of_getElem? e3),e4]
   simp [sto,List.getD,e2]
  ·have e2 : post[i]? = some post[i] := by simp
   have e1 : qs[i]? = some (qs.getD i 0):=hat i hi
   obtain ⟨y,e3,e4⟩:=u3 i _ _ e1 e2
   rw [hrd]
   show AObj.ren _ (sto post i) = some (updAll σ0 ups (qs.getD i 0))
   rw [updAll_get (by rw [u1]; exact hn) e4]
   have : sto post i = post[i]:=by simp [sto,List.getD,hi]
   rw [this,e3]
  ·refine updAll_not_mem _ _ _ (fun hm => ?_)
   rw [u1] at hm
   obtain ⟨j,hj,e2⟩:=List.getElem_of_mem hm
   have : idx qs k = some j:=idx_get hn (by simp [hj,e2])
   rw [this] at e; simp at e
  ·have e1 : qs[i]? = some (qs.getD i 0) := hat i h2
   rw [hin _ (List.mem_of_getElem? e1)]
   refine (newOk_get hnew _ ?_).2
   have : (qs.drop pre.length)[i - pre.length]? = some (qs.getD i 0) := by
    rw [List.getElem?_drop,show pre.length + (i - pre.length) = i by omega]; exact e1
   exact List.mem_of_getElem? this
 ·have e1 : qs[i]? = some (qs.getD i 0) := hat i hi
  by_cases h1 : i < pre.length
  ·have hm : qs.getD i 0 ∈ qs.take pre.length := by
    have : (qs.take pre.length)[i]? = some (qs.getD i 0):=by rw [List.getElem?_take,if_pos h1]; exact e1
    exact List.mem_of_getElem? this
   exact .inl ⟨liveAll_get hl _ hm,hm⟩
  ·refine .inr (newOk_get hnew _ ?_).1
   have : (qs.drop pre.length)[i - pre.length]? = some (qs.getD i 0) := by
    rw [List.getElem?_drop,show pre.length + (i - pre.length) = i by omega]; exact e1
   exact List.mem_of_getElem? this


theorem leavesM {fn : Func} {tm : Array Value} {R : Ending → World → Prop} : ∀ (Ds : List Nat) (w : World), Ds.Nodup → (∀ D ∈ Ds, w.heap[D]? = some (.deferred (some []))) →
  (∀ w2 : World,Poke (fun b=>b ∈ Ds) w.heap w2.heap → WSame w w2 → ∃ v,(results fn tm).run P w2 = .ok v w2 ∧ R (.returned v) w2) → LeavesInM Fence.wide 0 P fn tm R (Ds.map markOf) .returning w
 | [],w,hn,hd,h=>by
  obtain ⟨v,h1,h2⟩:=h w (Poke.refl _ _) (WSame.refl _)
  exact ⟨v,h1,h2⟩
 | D :: Ds,w,hn,hd,h=>by
  obtain ⟨hn1,hn2⟩:=List.nodup_cons.1 hn
  have h0:=hd D (by simp)
  have p:=Poke.set (y:=.deferred none) h0 rfl rfl
  refine ⟨by simp,.inl ⟨D,_,rfl,run_takeDeferred h0,leavesM Ds _ hn2 (fun D' hD'=>?_) (fun w2 p2 ws=>h w2 ((p.mono (fun b e=>by simp [e])).trans (p2.mono (fun b e=>by simp [e]))) ⟨ws.os,ws.tape,ws.output⟩)⟩⟩
  have hne : D' ≠ D:=fun e=>hn1 (by rw [← e]; exact hD')
  rw [World.putObj_heap_other hne]
  exact hd D' (by simp [hD'])

theorem FCall.enterM (hT : TOk P T) (hmix : P.follows .mixedOrders = true) {f : FuncId} {fn : Func} {c : Code} {args : List D} {pre : List AObj} {d : D} {post : List AObj} (S : List Nat)
  (hf : P.funcs[f]? = some fn) (hn : (fn.name == "runtime.NumGoroutine") = false) (hb : fn.body = some c) (ha : Nat.ble args.length fn.ntmps = true)
  (h : bds args → ∀ base,forceS (initS args 0) fun l=>wpc P T { G with mks:=some base } pre.length (pre.length + 1048576) fn.ntmps S c (retK T (pre.length + 1048576) fn.ntmps fn.results.toList (FinO pre.length post d)) l (initO pre 0))
  (hdf : G.df = []:=by rfl) (hpk : ∀ q ρ σ,¬ G.pk q ρ σ:=by exact fun _ _ _ h=>h) : FCall P G f args pre d post:=by
 refine FCall.bound ⟨fn,hf,hn,by simp [hb]⟩ fun hbd=>?_
 replace h:=h hbd
 refine ⟨⟨fn,hf,hn,by simp [hb]⟩,fun E w vs C hv=>(callsIn_wide (n:=0)).1 (callsIn_of_wp_marks hf hb trivial ?_)⟩
 replace h:=h w.heap.size
 rw [forceS_eq] at h
 obtain ⟨G2,hG2⟩ : ∃ G2 : Glob,G2 = { G with mks:=some w.heap.size }:=⟨_,rfl⟩
 have hg : G2.g = G.g:=by rw [hG2]
 have hm2 : G2.mks = some w.heap.size:=by rw [hG2]
 have hd2 : G2.df = []:=by rw [hG2]; exact hdf
 have hp2 : ∀ q ρ σ,¬ G2.pk q ρ σ:=by rw [hG2]; exact hpk
 rw [← hG2] at h
 have hvl : vs.length = args.length:=hv.1
 have ha':=Nat.le_of_ble_eq_true ha
 have e1 : mkρ (initS args 0) = fun t=>args.getD t .junk:=by funext t; rw [mkρ_initS]; simp
 have e2 : mkσ (initO pre 0) = sto pre:=by funext t; rw [mkσ_initO]; simp [sto]
 have R : Rel G2 E w (stOf (pre.length + 1048576) fn.ntmps (initS args 0) (initO pre 0))
   { tmps:=vs.toArray ++ Array.replicate (fn.ntmps - vs.toArray.size) undef,defers:=[] }:=by
  rw [stOf,e1,e2]
  have C:=Core.congr (G:=G) (G':=G2) hg C
  refine ⟨⟨C.objs,C.bnd,C.sc,C.nf,fun k hk=>C.dead k (by simp at hk; omega),C.glob⟩,by simp; omega,fun t=>?_,Dfs.of_eqS hm2 (Nat.le_refl _) hd2.symm⟩
  show VR E w.heap (sto pre) (args.getD t .junk) _
  by_cases ht : t < args.length
  ·have := hv.2 t ht (by omega)
   have e1 : args.getD t .junk = args[t]:=by simp [List.getD,ht]
   have e2 : (vs.toArray ++ Array.replicate (fn.ntmps - vs.toArray.size) undef).getD t undef = vs[t]'(by omega) := by
    simp [Array.getElem?_append,show t < vs.length by omega]
   rw [e1,e2]; exact this
  ·have e1 : args.getD t .junk = .junk := by simp [List.getD, List.getElem?_eq_none (Nat.le_of_not_lt ht)]
   rw [e1]; exact .junk _
 refine wpIn_mono ((wpc_sound hT hmix c _ _ _ h).sem.semR (by simp) E _ w R none (.inl rfl)) fun e a' w' hp=>?_
 rcases hp with ⟨E',st',⟨l',o',rfl,q⟩,hm,R',g,s⟩|⟨q,_,_,st',_,hq,_⟩
 case inr=>exact absurd hq (hp2 _ _ _)
 rw [stOf,e2] at g
 have fin : resK T (stOf (pre.length + 1048576) fn.ntmps l' o') fn.results.toList (FinO pre.length post d o') → LeavesInM Fence.wide 0 P fn a'.tmps (fun e w' => ∃ E' v, e = .returned v ∧ VR E' w'.heap (sto post) d v ∧ Core G E' w'.heap (sto post) post.length ∧
   Guar pre.length E w.heap (sto pre) E' w'.heap (sto post) ∧ WSame w w') a'.defers .returning w':=by
  intro hq
  unfold resK at hq
  split at hq
  case h_2=>exact hq.elim
  rename_i ds hds
  rw [forceL_eq] at hq
  obtain ⟨srcs,hs,hp,hd⟩:=hq
  have hdf':=R'.defers
  unfold Dfs at hdf'
  rw [hm2] at hdf'
  obtain ⟨b0,Ds,b1,b2,b3⟩:=hdf'
  rw [b1,hd2,List.append_nil]
  refine leavesM Ds w' b2 (fun D hD=>(b3 D hD).2.1) fun w2 p ws=>?_
  have hX : ∀ b,b ∈ Ds → ∀ o,E'.own b o = .ext:=fun b hb=>(b3 b hb).2.2
  have C2:=R'.core.poke p hX
  have R2 : Rel ({ g := G.g } : Glob) E' w2 (stOf (pre.length + 1048576) fn.ntmps l' o') { tmps := a'.tmps, defers := [] } :=
   ⟨Core.congr (G:=G2) (G':={ g:=G.g }) hg.symm C2,R'.n,fun t=>(R'.slots t).keep (p.cmap R'.core.bnd),Dfs.of_eq rfl rfl⟩
  obtain ⟨v,hr,hv'⟩:=results_sound hT R2 hds
  have gX : GuarX (fun b=>b ∈ Ds) pre.length E w.heap (sto pre) E' w2.heap (mkσ o'):=(g.toX _).trans p.guarX
  have g2 : Guar pre.length E w.heap (sto pre) E' w2.heap (mkσ o') :=
   ⟨gX.sz,gX.fz,gX.sc,gX.sc',gX.ext,gX.shp,fun b hb e=>gX.blk b hb (fun hx=>by have:=(b3 b hx).1; omega) e,gX.ids⟩
  obtain ⟨E2,o1,o2,o3⟩:=FinS.out ⟨srcs,hs,hp,hd⟩ R2.core hv' g2
  exact ⟨v,hr,E2,v,rfl,o1,Core.congr (G:={ g:=G.g }) (G':=G) rfl o2,o3,s.trans ws⟩
 cases e with
 | normal=>exact fin q
 | ret=>exact fin q
 | _=>exact q.elim

theorem IterSpec.congr {G' : Glob} {f : FuncId} {cob : AObj} {α : Type} {encs : α → List D} {xs : List α} (hg : G'.g = G.g) (h : IterSpec P G' f cob encs xs) : IterSpec P G f cob encs xs :=
 ⟨h.1,fun l B ok HY=>(h.2 l B ok fun pre x r e1 e2=>(HY pre x r e1 e2).congr hg.symm).congr hg⟩
def cutN (q k : Nat) : Option Nat:=match Nat.beq k q with|true=>none|false=>some k
theorem cutN_eq (q : Nat) : cutN q = cutr (some q) := by
 funext k
 unfold cutN cutr
 cases hb : Nat.beq k q with
 | true=>have:=Nat.eq_of_beq_eq_true hb; simp [this]
 | false =>
  have : q ≠ k:=fun e=>by subst e; simp at hb
  simp [this]
def slOk (g q : Nat) : Sl → Prop
 | []=>True
 | (t,d) :: r=>Nat.beq t g = false ∧ D.ren (cutN q) d = some d ∧ slOk g q r
def soOk (q mr : Nat) : So → Prop
 | []=>True
 | (k,x) :: r=>Nat.beq k q = false ∧ Nat.blt k mr = true ∧ AObj.ren (cutN q) x = some x ∧ soOk q mr r
theorem soOk_app {q mr : Nat} : ∀ {a b : So}, soOk q mr a → soOk q mr b → soOk q mr (a ++ b)
 | [],b,_,h=>h
 | (k,x) :: r,b,⟨h1,h2,h3,h4⟩,h=>⟨h1,h2,h3,soOk_app h4 h⟩
theorem soOk_get {q mr : Nat} : ∀ {a : So}, soOk q mr a → ∀ k, mkσ a k = .dead ∨ (k ≠ q ∧ k < mr ∧ AObj.ren (cutN q) (mkσ a k) = some (mkσ a k))
 | [],_,k=>.inl rfl
 | (j, x) :: r, ⟨h1, h2, h3, h4⟩, k => by
  unfold mkσ
  cases hb : Nat.beq k j with
  | true =>
   have:=Nat.eq_of_beq_eq_true hb
   subst this
   exact .inr ⟨fun e=>by subst e; simp at h1,by simpa [Nat.blt_eq] using h2,h3⟩
  | false=>exact soOk_get h4 k
theorem slOk_get {g q : Nat} : ∀ {a : Sl}, slOk g q a → ∀ k, mkρ a k = .junk ∨ (k ≠ g ∧ D.ren (cutN q) (mkρ a k) = some (mkρ a k))
 | [],_,k=>.inl rfl
 | (j, x) :: r, ⟨h1, h3, h4⟩, k => by
  unfold mkρ
  cases hb : Nat.beq k j with
  | true =>
   have:=Nat.eq_of_beq_eq_true hb
   subst this
   exact .inr ⟨fun e=>by subst e; simp at h1,h3⟩
  | false=>exact slOk_get h4 k

def liveKs (m : Nat) (σ' : Store) : So → Prop
 | []=>True
 | (k,_) :: r=>(match Nat.blt k m with|false=>True|true=>match σ' k with|.dead=>False|_=>True) ∧ liveKs m σ' r
theorem liveKs_get {m : Nat} {σ' : Store} : ∀ {o : So}, liveKs m σ' o → ∀ k, k < m → mkσ o k ≠ .dead → σ' k ≠ .dead
 | [],_,k,_,h=>absurd rfl h
 | (j, x) :: r, ⟨h1, h2⟩, k, hk, h => by
  unfold mkσ at h
  cases hb : Nat.beq k j with
  | true =>
   have:=Nat.eq_of_beq_eq_true hb
   subst this
   rw [show Nat.blt k m = true by simpa [Nat.blt_eq] using hk] at h1
   simp only [] at h1
   intro e
   rw [e] at h1
   exact h1
  | false =>
   rw [hb] at h
   exact liveKs_get h2 k hk h
def okToR (m nx : Nat) (l : Sl) (o : So) (L : Sl) (O : So) : Prop :=
 liveKs m (mkσ O) o ∧ okO nx (mkσ o) (mkσ O) O ∧ okS (mkρ l) (mkσ o) (mkσ O) L
theorem okToR.wk {m nx n l o L O} (h : okToR m nx l o L O) : StWk G m (stOf nx n l o) (stOf nx n L O) :=
 To.wk (m:=m) (lv:=L) (lo:=O) ⟨rfl,rfl,fun k hk hl=>liveKs_get h.1 k hk hl,okO_to h.2.1,okS_to h.2.2⟩

def RangeK (P : Program) (T : Tab) (G : Glob) (m nx n : Nat) (S S' : List Nat) (mr q g : Nat) (ps : List Tmp) (assign body : Code) (Q : Exit → Sl → So → Prop) (f : FuncId) (cob : AObj) {α : Type} (encs : α → List D) (xs : List α) (co : List α → So) (jump : List α → Exit) (l : Sl) (o : So) (ks : Sl) (ko : So) : Prop :=
 okTo m nx l o ((g,.func (.func f) [] [.ptr q 0]) :: ks) ((q,cob) :: (co [] ++ ko)) ∧ slOk g q ks ∧ soOk q mr ko ∧
 (∀ pre x r, xs = pre ++ x :: r → (∀ p y s, pre = p ++ y :: s → jump (p ++ [y]) = .normal) →
  wpc P T { g := G.g } mr nx n S assign (fun e l' o' => match e with
   | .normal=>wpc P T { g:=G.g } mr nx n S' body (fun e l2 o2=>e = jump (pre ++ [x]) ∧ okToR mr nx l2 o2 [] (co (pre ++ [x]) ++ ko)) l' o'
   | _=>False) (parL ps (encs x) ks) (co pre ++ ko)) ∧
 (∀ v,v = visitR (fun p=>(jcode (jump p)).isNone) [] xs → Q (jump v) ks (co v ++ ko))

theorem LWp.rangeFunc {G' : Glob} (hT : TOk P T) (hmix : P.follows .mixedOrders = true) {base : Nat} (hmks : G.mks = some base) {m nx n : Nat} {g : Nat} {ps : Array Tmp} {assign body : Code} {Q : Exit → Sl → So → Prop} {l : Sl} {o : So} (S S' : List Nat) (mr q : Nat) (drop : List Nat)
  {α : Type} {f : FuncId} {cob : AObj} {encs : α → List D} {xs : List α} (co : List α → So) (jump : List α → Exit)
  (hspec : IterSpec P G' f cob encs xs) (hlen : ∀ x,(encs x).length = ps.size) (henc : ∀ x,D.renL (fun _=>none) (encs x) = some (encs x)) (hj0 : jump [] = .normal) (hjok : ∀ p,jok (jump p) = true)
  (hn1 : Code.nodef assign = true) (hn2 : Code.nodef body = true) (hmr : (Nat.ble m mr && (Nat.ble mr nx && Nat.ble m q)) = true) (hps : (ps.toList.all fun p=>Nat.blt p n) = true) (hqd : cob ≠ .dead) (hcob : AObj.ren (oner (some q)) cob = some cob) (hco : ∀ p,soOk q mr (co p))
  (h : keepS (fun t=>memN t drop) l [] fun ks=>keepO (q :: keysOf (co [])) o [] fun ko=>RangeK P T G m nx n S S' mr q g ps.toList assign body Q f cob encs xs co jump l o ks ko) (hg : G'.g = G.g:=by rfl) : LWp P G m nx n (.rangeFunc (.tmp g) ps assign body) Q l o:=by
 obtain ⟨ks,h⟩:=keepS_ex _ _ _ _ h
 obtain ⟨ko,h1,h2,h3,h4,h5⟩:=keepO_ex _ _ _ _ h
 simp only [Bool.and_eq_true] at hmr
 obtain ⟨m1,m2,m3⟩:=hmr
 have m1:=Nat.le_of_ble_eq_true m1
 have m2:=Nat.le_of_ble_eq_true m2
 have m3:=Nat.le_of_ble_eq_true m3
 refine LWp.wk h1 ⟨?_⟩
 have hso : ∀ p,soOk q mr (co p ++ ko):=fun p=>soOk_app (hco p) h3
 refine AWp.rangeFunc (σ:=fun p=>mkσ (co p ++ ko)) (jump:=jump) (ks:=ks) hmks (mr:=mr) (q:=q) (cob:=cob) (encs:=encs) (xs:=xs) (f:=f) ?_ ?_ hqd m3 hcob ?_ ?_ ?_ ?_ ?_ ?_ m1 m2 hlen ?_ henc hn1 hn2 hj0 hjok (hspec.congr hg) ?_ ?_
 ·show mkρ ((g, _) :: ks) g = _
  simp [mkρ]
 ·show mkσ ((q, cob) :: _) q = _
  simp [mkσ]
 ·intro k hk
  show _ = mkσ ((q,cob) :: _) k
  have hb : Nat.beq k q = false := by
   cases hb : Nat.beq k q with
   | false=>rfl
   | true=>exact absurd (Nat.eq_of_beq_eq_true hb) hk
  simp only [mkσ,hb]
 ·rcases soOk_get (hso []) q with h | h
  ·exact h
  ·exact absurd rfl h.1
 ·intro k
  rw [← cutN_eq]
  rcases soOk_get (hso []) k with h|h
  ·show AObj.ren _ (mkσ (co [] ++ ko) k) = some (mkσ (co [] ++ ko) k)
   rw [h]; rfl
  ·exact h.2.2
 ·intro t
  rcases slOk_get h2 t with h|h
  ·exact .inr h
  ·left
   show _ = mkρ ((g,_) :: ks) t
   have hb : Nat.beq t g = false := by
    cases hb : Nat.beq t g with
    | false=>rfl
    | true=>exact absurd (Nat.eq_of_beq_eq_true hb) h.1
   simp only [mkρ,hb]
 ·intro t
  rw [← cutN_eq]
  rcases slOk_get h2 t with h|h
  ·rw [h]; rfl
  ·exact h.2
 ·intro p k hk
  rcases soOk_get (hso p) k with h|h
  ·exact h
  ·omega
 ·intro p hp
  have:=List.all_eq_true.1 hps p hp
  simpa [Nat.blt_eq] using this
 ·intro pre x r he hn
  have:=(wpc_sound (P:=P) hT hmix assign _ _ _ (h4 pre x r he hn)).sem
  refine this.mono fun e st ⟨l',o',e1,q1⟩=>?_
  subst e1
  cases e with
  | normal =>
   refine ((wpc_sound (P:=P) hT hmix body _ _ _ q1).sem).mono fun e st ⟨l2,o2,e2,he2,hk2⟩=>?_
   subst e2
   exact ⟨he2,hk2.wk⟩
  | _=>exact q1
 ·intro v hv
  exact ⟨ks,co v ++ ko,rfl,h5 v hv⟩
end Go.AL

namespace Go.AL
open Go
variable {P : Program} {G : Glob}
theorem VR.ro_cells {E h σ cs b o} (hv : VR E h σ (.ro cs) (.pointer (some ⟨b, o, none⟩))) : ∀ j (hj : j < cs.length), ∃ u, cellH h b (o + j) = some u ∧ VR E h σ cs[j] u := by
 cases hv with
 | ro _ _ _ u hr hv hf=>exact fun j hj=>⟨u j,(hr j hj).2,hv j hj⟩
theorem GV.cell {E} {w : World} {σ g} {x : Value} {r : List D} (H : GV G E w.heap σ g) (hG : G g = D.v x :: r) : w.cell? ⟨g, 0, none⟩ = some x := by
 have h1:=H.1
 rw [hG] at h1
 obtain ⟨u,hu,hv⟩:=h1.ro_cells 0 (by simp)
 simp at hv
 rw [cell?_eq]
 rw [hv.v_inv] at hu
 simpa using hu
theorem VR.bytes {E : Env} {w : World} {σ : Store} {t : Tg} {l : List UInt8} {v : Value} (h : VR E w.heap σ (.list t (l.map byteD)) v) :
  ∃ A c,v = .slice A l.length c ∧ l.length ≤ c ∧ l.length ≤ 140737488355328 ∧ (A = none → l = []) ∧ (A = none → c = 0) ∧ ∀ a,A = some a → ∀ i,i < l.length → w.cell? (a.add i) = some (.int .u8 ((l.map fun x=>(x.toNat : Int)).getD i 0)):=by
 cases h with
 | list _ _ A c s u hc hb hs hn ha hv hf ht =>
  have hlen : (l.map byteD).length = l.length:=by simp
  refine ⟨A,c,by rw [hlen],by rw [← hlen]; exact hc,by rw [← hlen]; exact hb,fun e=>by simpa using (hn e).1,fun e=>(hn e).2,fun a e i hi=>?_⟩
  obtain ⟨h3,h4⟩:=ha a e
  have hsp : a.spot = none:=h3 (by intro e; simp at e; subst e; simp at hi)
  have hi' : i < (l.map byteD).length:=by simpa using hi
  have hs1 : s = 1 := by
   have:=hs i hi'
   simp [byteD] at this; omega
  subst hs1
  obtain ⟨_,h5⟩:=h4 i 0 hi' (by omega)
  have h6:=hv i 0 hi' (by simp [byteD])
  simp only [List.getElem_map,byteD,List.getElem_cons_zero] at h6
  rw [h6.v_inv] at h5
  simp only [Nat.mul_one,Nat.add_zero] at h5
  obtain ⟨ab,ao,asp⟩:=a
  simp only at hsp; subst hsp
  have ea : (⟨ab,ao,none⟩ : Addr).add i = ⟨ab,ao + i,none⟩:=by unfold Addr.add; split <;> simp_all
  rw [ea,cell?_eq,h5]
  simp [hi]
theorem below_drewN (w : World) (q : Nat) : RowKit.Below w.heap.size w (w.drewN q):=⟨rfl,rfl,rfl,Nat.le_refl _,fun _ _=>rfl⟩
end Go.AL
