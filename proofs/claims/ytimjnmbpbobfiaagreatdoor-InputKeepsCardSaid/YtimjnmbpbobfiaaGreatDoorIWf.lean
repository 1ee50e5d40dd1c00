/- Archives checked and opened. No condition. -/
import Derived.Test.YtimjnmbpbobfiaaGreatDoorIAc
import Derived.Test.YtimjnmbpbobfiaaGreatDoorIWe
import Derived.Test.YtimjnmbpbobfiaaGreatDoorIPa
import Derived.Test.YtimjnmbpbobfiaaGreatDoorIWa
set_option linter.unusedVariables false
set_option linter.unusedSimpArgs false
namespace Go.Proofs.YtimjnmbpbobfiaaGreatDoor.H
open Go Go.AL Go.AL.Hd Go.AL.Ln Go.AL.Ar Go.AL.Sc Go.AL.Cn
set_option maxRecDepth 100000
set_option maxHeartbeats 8000000
theorem decE_eq (b : Str) : O.decR b = decE b := by
 unfold O.decR decE
 cases Ap.dec b <;> rfl
theorem ccheck_ [Go.AL.MX] (a : Arc) (ha : OkA a) : FCall Tryz.prog Gl 59 [.agg (eArcM a)] [] (vI (chkP a)) [] := by
 have CI:=cidx_ a ha
 have D:=O.decode_ a.map ha.m
 rw [decE_eq] at D
 have e:=chkP.eq_1 a
 revert e D CI
 generalize idxP a.ms a.os = idx
 generalize decE a.map = q
 generalize chkP a = r
 obtain ⟨hm,mp,l,os⟩:=a
 obtain ⟨q,z⟩:=q
 intro CI D e
 replace CI : FCall Tryz.prog Gl 80 [.agg [vB hm,LB mp,.list .any (l.map eMn),.list .any (os.map eO)]] [] (O.LEn idx) []:=CI
 replace D : FCall Tryz.prog Gl 78 [LB mp] [] (.tuple [O.LEn q,vI z]) []:=D
 show FCall Tryz.prog Gl 59 [.agg [vB hm,LB mp,.list .any (l.map eMn),.list .any (os.map eO)]] [] (vI r) []
 cases hm with
 | true =>
  rw [if_pos rfl] at e
  refine FCall.enterL hT hmix [] Tryz.func59 rfl rfl rfl fun hbd=>?_
  (conv=>whnf)
  refine CallLeaf.wa (D) rfl ?_
  (conv=>whnf)
  refine split_intro (fun h=>?_) (fun h=>?_)
  ·have h' : ¬ z = 0 := by simpa using h
   rw [if_pos h'] at e
   (conv=>whnf)
   exact Wk.int e.symm
  ·have h' : z = 0 := by simpa using h
   rw [if_neg (fun h2=>h2 h')] at e
   (conv=>whnf)
   refine CallLeaf.wa (CI) rfl ?_
   (conv=>whnf)
   refine CallLeaf.wa (eeq_ q idx) rfl ?_
   (conv=>whnf)
   refine split_intro (fun h2=>?_) (fun h2=>?_)
   ·have h2' : ¬ q = idx := by simpa using h2
    replace e : r = if q = idx then 0 else 16:=e
    rw [if_neg h2'] at e
    (conv=>whnf)
    exact Wk.int e.symm
   ·have h2' : q = idx := by simpa using h2
    replace e : r = if q = idx then 0 else 16:=e
    rw [if_pos h2'] at e
    (conv=>whnf)
    exact Wk.int e.symm
 | false =>
  rw [if_neg (by simp)] at e
  have EE:=eeq_ [] idx
  refine FCall.enterL hT hmix [] Tryz.func59 rfl rfl rfl fun hbd=>?_
  (conv=>whnf)
  refine CallLeaf.wa (CI) rfl ?_
  (conv=>whnf)
  refine CallLeaf.wa (EE) rfl ?_
  (conv=>whnf)
  refine split_intro (fun h2=>?_) (fun h2=>?_)
  ·have h2' : ¬ [] = idx := by simpa using h2
   rw [if_neg (fun h=>h2' h.symm)] at e
   (conv=>whnf)
   exact Wk.int e.symm
  ·have h2' : [] = idx := by simpa using h2
   rw [if_pos h2'.symm] at e
   (conv=>whnf)
   exact Wk.int e.symm
theorem rcheck_ [Go.AL.MX] (a : Arc) (ha : OkA a) : FCall Tryz.prog Gl 51 [.agg (eArcM a)] [] (vI (chkP a)) [] := by
 have CI:=ridx_ a ha
 have D:=O.rdecode_ a.map ha.m
 rw [decE_eq] at D
 have e:=chkP.eq_1 a
 revert e D CI
 generalize idxP a.ms a.os = idx
 generalize decE a.map = q
 generalize chkP a = r
 obtain ⟨hm,mp,l,os⟩:=a
 obtain ⟨q,z⟩:=q
 intro CI D e
 replace CI : FCall Tryz.prog Gl 70 [.agg [vB hm,LB mp,.list .any (l.map eMn),.list .any (os.map eO)]] [] (O.LEn idx) []:=CI
 replace D : FCall Tryz.prog Gl 71 [LB mp] [] (.tuple [O.LEn q,vI z]) []:=D
 show FCall Tryz.prog Gl 51 [.agg [vB hm,LB mp,.list .any (l.map eMn),.list .any (os.map eO)]] [] (vI r) []
 cases hm with
 | true =>
  rw [if_pos rfl] at e
  refine FCall.enterL hT hmix [] Tryz.func51 rfl rfl rfl fun hbd=>?_
  (conv=>whnf)
  refine CallLeaf.wa (D) rfl ?_
  (conv=>whnf)
  refine split_intro (fun h=>?_) (fun h=>?_)
  ·have h' : ¬ z = 0 := by simpa using h
   rw [if_pos h'] at e
   (conv=>whnf)
   exact Wk.int e.symm
  ·have h' : z = 0 := by simpa using h
   rw [if_neg (fun h2=>h2 h')] at e
   (conv=>whnf)
   refine CallLeaf.wa (CI) rfl ?_
   (conv=>whnf)
   refine CallLeaf.wa (O.rsame_ q idx) rfl ?_
   (conv=>whnf)
   refine split_intro (fun h2=>?_) (fun h2=>?_)
   ·have h2' : ¬ q = idx := by simpa using h2
    replace e : r = if q = idx then 0 else 16:=e
    rw [if_neg h2'] at e
    (conv=>whnf)
    exact Wk.int e.symm
   ·have h2' : q = idx := by simpa using h2
    replace e : r = if q = idx then 0 else 16:=e
    rw [if_pos h2'] at e
    (conv=>whnf)
    exact Wk.int e.symm
 | false =>
  rw [if_neg (by simp)] at e
  refine FCall.enterL hT hmix [] Tryz.func51 rfl rfl rfl fun hbd=>?_
  (conv=>whnf)
  refine CallLeaf.wa (CI) rfl ?_
  (conv=>whnf)
  refine split_intro (fun h2=>?_) (fun h2=>?_)
  ·have h2' : idx = [] := by simpa using h2
   rw [if_pos h2'] at e
   (conv=>whnf)
   exact Wk.int e.symm
  ·have h2' : ¬ idx = [] := by simpa using h2
   rw [if_neg h2'] at e
   (conv=>whnf)
   exact Wk.int e.symm
end Go.Proofs.YtimjnmbpbobfiaaGreatDoor.H

namespace Go.Proofs.YtimjnmbpbobfiaaGreatDoor.H
open Go Go.AL Go.AL.Hd Go.AL.Ln Go.AL.Ar Go.AL.Sc Go.AL.Cn
set_option maxRecDepth 100000
set_option maxHeartbeats 8000000
abbrev eDn (m : Mem) : List D:=[LSn (defsOf m.data)]
abbrev opC (b : Str) (a : Arc) (n e : Int) (v d : D) : AObj:=.cells [LB b,vB a.hm,LBn a.map,.list .nat (a.ms.map eMn),.list .nat (a.os.map eO),vI n,vI e,v,d]
abbrev op0 (b : Str) : AObj:=.cells [LB b,vB false,.nil,.nil,.nil,vI 0,vI 0,.nil,.nil]
theorem oparse_ [Go.AL.MX] (b : Str) (hb : b.length < 4294967280) : FCall Tryz.prog Gl 45 [.ptr 0 0] [op0 b] (.tuple []) [opC b (arcP b).1 (arcP b).2.1 (arcP b).2.2 .nil .nil] := by
 refine FCall.enterO hT hmix [] Tryz.func45 rfl rfl rfl fun hbd=>?_
 (conv=>whnf)
 refine CallLeaf.wa (aparse_ b hb) rfl ?_
 (conv=>whnf)
 refine ⟨[0],rfl,finT,?_⟩
 (conv=>whnf)
 exact Wk.refl _
theorem ocheck_ [Go.AL.MX] (b : Str) (a : Arc) (ha : OkA a) (n : Int) : FCall Tryz.prog Gl 46 [.ptr 0 0] [opC b a n 0 .nil .nil] (.tuple []) [opC b a (if chkP a = 0 then n else 8) (chkP a) .nil .nil] := by
 have C:=ccheck_ a ha
 revert C
 generalize chkP a = r
 obtain ⟨hm,mp,l,os⟩:=a
 intro C
 refine FCall.enterO hT hmix [] Tryz.func46 rfl rfl rfl fun hbd=>?_
 (conv=>whnf)
 refine CallLeaf.wa (C) rfl ?_
 (conv=>whnf)
 by_cases hr : r = 0
 ·subst hr
  (conv=>whnf)
  refine ⟨[0],rfl,finT,?_⟩
  (conv=>whnf)
  exact Wk.refl _
 ·refine split_intro (fun _ => ?_) (fun h => absurd h (by simpa using hr))
  rw [if_neg hr]
  (conv=>whnf)
  refine ⟨[0],rfl,finT,?_⟩
  (conv=>whnf)
  exact Wk.refl _
theorem olook_ [Go.AL.MX] (b : Str) (a : Arc) (ha : OkA a) (n : Int) : FCall Tryz.prog Gl 47 [.ptr 0 0] [opC b a n 0 .nil .nil] (.tuple []) [opC b a n 0 (.list .nat (a.ms.map eMn)) (.list .nat (a.ms.map eDn))] := by
 obtain ⟨hm,mp,l,os⟩:=a
 have hlb : l.length ≤ 1000000000000:=ha.l
 obtain ⟨_,h2,_,_,_⟩:=ha
 replace h2 : ∀ m ∈ l,m.data.length ≤ 1000000000:=h2
 refine FCall.enterO hT hmix [] Tryz.func47 rfl rfl rfl fun hbd=>?_
 (conv=>whnf)
 refine LWp.loop hT hmix [] (fun k : Nat=>[(19,vI k)]) (fun k=>[(0,.cells [LB b,vB hm,LBn mp,.list .nat (l.map eMn),.list .nat (os.map eO),vI n,vI 0,.list .nat (l.map eMn),.list (.tok 403) ((l.take k).map eDn)]),(403,.tok ((l.take k).map eDn).length 1)]) (fun k=>k ≤ l.length) (fun k=>l.length - k) 0 (Nat.zero_le _) ?_
 (conv=>whnf)
 refine ⟨?_,fun k hk=>?_⟩
 ·exact okT
 ·replace hk : k ≤ l.length := hk
  (conv=>whnf)
  refine split_intro (fun h=>?_) (fun h=>?_)
  ·have hlt : k < l.length := by have := of_decide_eq_true h; simp only [List.length_map] at this; omega
   obtain ⟨m,hm'⟩:=exI hlt
   have hz : (l.take (k + 1)).length ≤ k + 1:=List.length_take_le _ _
   (conv=>whnf)
   refine ⟨_,⟨by omega,getMap hm'⟩,?_⟩
   (conv=>whnf)
   refine CallLeaf.wa (sdefs_ m.data (h2 m (List.mem_of_getElem? hm'))) rfl ?_
   (conv=>whnf)
   refine ⟨_,appL (f:=eDn) (xs:=l.take k) (ys:=[m]) (zs:=l.take (k + 1)) rfl rfl (fun _=>rfl) (by rw [List.take_add_one,hm']; rfl) (by show _ * 24 ≤ _; omega),?_⟩
   (conv=>whnf)
   refine ⟨_,add64 (c:=((k + 1 : Nat) : Int)) (by (try simp only []); omega) (by omega),?_⟩
   (conv=>whnf)
   refine ⟨k + 1,⟨hlt,by show l.length - (k + 1) < l.length - k; omega⟩,?_⟩
   exact okT
  ·have hge : l.length ≤ k := by have := of_decide_eq_false h; simp only [List.length_map] at this; omega
   (conv=>whnf)
   simp only [List.take_of_length_le hge]
   refine ⟨[0],rfl,finT,?_⟩
   (conv=>whnf)
   exact Wk.refl _
theorem okA_arc {b : Str} (h : b.length ≤ 1100000) (he : (arcP b).2.2 = 0) : OkA (arcP b).1 := by
 obtain ⟨a1,_,s,a3,a4⟩:=arc_ok he
 obtain ⟨C,hol⟩:=chain_ok a1 a3
 obtain ⟨B1,B2,B3⟩:=arc_bd b
 have hi:=idx_le (arcP b).1.ms (arcP b).1.os B2
 have hi2 : (arcP b).1.ms.length * b.length ≤ 1100060 * 1100000:=Nat.mul_le_mul (by omega) h
 refine ⟨?_,fun m hm=>by have:=B2 m hm; omega,by omega,by omega,by omega⟩
 rw [a4]
 exact Nat.le_of_eq hol.symm
theorem aE_of {b : Str} {a : Arc} {n : Nat} {e : Int} (h : arcP b = (a, n, e)) : (e ≠ 0 → openP b = (View0, n, e)) ∧ (e = 0 → openP b = if chkP a ≠ 0 then (View0, 8, chkP a) else (viewP a.ms, 0, 0)) := by
 unfold openP
 rw [h]
 exact ⟨fun h=>if_pos h,fun h=>by rw [if_neg (fun h2=>h2 h)]⟩
abbrev Vn (v : View) : D:=.agg [.list .nat (v.members.map eMn),.list .nat (v.defs.map fun d=>[LSn d])]
theorem vn_view (l : List Mem) : Vn (viewP l) = .agg [.list .nat (l.map eMn), .list .nat (l.map eDn)] := by
 simp [Vn,viewP]
abbrev opS (b : Str) (a : Arc) (n : Nat) (e : Int) : Nat → AObj
 | 0=>op0 b
 | 1=>opC b a n e .nil .nil
 | 2=>opC b a n 0 .nil .nil
 | _=>opC b a n 0 (.list .nat (a.ms.map eMn)) (.list .nat (a.ms.map eDn))
theorem copen_ [Go.AL.MX] (b : Str) (hb : b.length ≤ 1100000) : FCall Tryz.prog Gl 28 [LB b] [] (.tuple [Vn (openP b).1, vI (openP b).2.1, vI (openP b).2.2]) [] := by
 have P:=oparse_ b (by omega)
 have hA:=okA_arc hb
 obtain ⟨⟨a,n,e⟩,hq⟩ : ∃ q,q = arcP b:=⟨_,rfl⟩
 rw [← hq] at P hA
 obtain ⟨E1,E2⟩:=aE_of hq.symm
 replace hA : e = 0 → OkA a:=hA
 refine FCall.enterL hT hmix [] Tryz.func28 rfl rfl rfl fun hbd=>?_
 (conv=>whnf)
 refine LWp.loop hT hmix [] (fun k : Nat=>[(12,vI k)]) (fun k=>[(528,opS b a n e k)]) (fun k=>k ≤ 3 ∧ (1 ≤ k → e = 0) ∧ (2 ≤ k → chkP a = 0)) (fun k=>3 - k) 0 ⟨by omega,by omega,by omega⟩ ?_
 (conv=>whnf)
 refine ⟨?_,fun k ⟨hk,hk1,hk2⟩=>?_⟩
 ·exact okT
 ·match k, hk, hk1, hk2 with
  | 0, _, _, _ =>
   (conv=>whnf)
   refine ⟨_,⟨by decide,by decide,rfl⟩,?_⟩
   (conv=>whnf)
   refine CallLeaf.oa [528] (P) rfl rfl rfl rfl ?_
   (conv=>whnf)
   refine split_intro (fun h=>?_) (fun h=>?_)
   ·have h' : ¬ e = 0 := by simpa using h
    rw [E1 h']
    (conv=>whnf)
    exact Wk.tuple (Wks.cons (Wk.agg (Wks.cons (Wk.natN rfl) (Wks.cons (Wk.natN rfl) Wks.nil))) (Wks.cons (Wk.refl _) (Wks.cons (Wk.refl _) Wks.nil)))
   ·have h' : e = 0 := by simpa using h
    (conv=>whnf)
    refine ⟨_,add64 (c:=((1 : Nat) : Int)) rfl (by omega),?_⟩
    (conv=>whnf)
    refine ⟨1,⟨⟨by omega,fun _=>h',by omega⟩,by show 3 - 1 < 3 - 0; omega⟩,?_⟩
    exact okT
  | 1, _, h1, _ =>
   have h1' : e = 0:=h1 (by omega)
   subst h1'
   have C:=ocheck_ b a (hA rfl) n
   (conv=>whnf)
   refine ⟨_,⟨by decide,by decide,rfl⟩,?_⟩
   (conv=>whnf)
   refine CallLeaf.oa [528] (C) rfl rfl rfl rfl ?_
   (conv=>whnf)
   refine split_intro (fun h=>?_) (fun h=>?_)
   ·have h' : ¬ chkP a = 0 := by simpa using h
    rw [E2 rfl,if_pos h',if_neg h']
    (conv=>whnf)
    exact Wk.tuple (Wks.cons (Wk.agg (Wks.cons (Wk.natN rfl) (Wks.cons (Wk.natN rfl) Wks.nil))) (Wks.cons (Wk.refl _) (Wks.cons (Wk.refl _) Wks.nil)))
   ·have h' : chkP a = 0 := by simpa using h
    simp only [if_pos h',h']
    (conv=>whnf)
    refine ⟨_,add64 (c:=((2 : Nat) : Int)) rfl (by omega),?_⟩
    (conv=>whnf)
    refine ⟨2,⟨⟨by omega,fun _=>trivial,fun _=>trivial⟩,by show 3 - 2 < 3 - 1; omega⟩,?_⟩
    exact okT
  | 2,_,h1,h2 =>
   have h1' : e = 0:=h1 (by omega)
   have h2' : chkP a = 0:=h2 (by omega)
   subst h1'
   have L:=olook_ b a (hA rfl) n
   (conv=>whnf)
   refine ⟨_,⟨by decide,by decide,rfl⟩,?_⟩
   (conv=>whnf)
   refine CallLeaf.oa [528] (L) rfl rfl rfl rfl ?_
   (conv=>whnf)
   refine ⟨_,add64 (c:=((3 : Nat) : Int)) rfl (by omega),?_⟩
   (conv=>whnf)
   refine ⟨3,⟨⟨by omega,fun _=>rfl,fun _=>h2'⟩,by show 3 - 3 < 3 - 2; omega⟩,?_⟩
   exact okT
  | 3,_,h1,h2 =>
   have h1' : e = 0:=h1 (by omega)
   have h2' : chkP a = 0:=h2 (by omega)
   rw [E2 h1',if_neg (fun h=>h h2'),vn_view]
   (conv=>whnf)
   exact Wk.refl _
end Go.Proofs.YtimjnmbpbobfiaaGreatDoor.H

namespace Go.Proofs.YtimjnmbpbobfiaaGreatDoor.H
open Go Go.AL Go.AL.In
set_option maxRecDepth 100000
set_option maxHeartbeats 8000000
def idxS (l : List Str) (w : Str) : Int:=match l.findIdx? (fun x=>decide (w = x)) with|some i=>(i : Int)|none=>-1
theorem sindexL_ [Go.AL.MX] (l : List Str) (w : Str) (hl : l.length ≤ 1000) : FCall Tryz.prog Gl 91 [LS l, sD w] [] (vI (idxS l w)) [] := by
 refine FCall.enterL hT hmix [] Tryz.func91 rfl rfl rfl fun hbd=>?_
 (conv=>whnf)
 refine LWp.loop hT hmix [] (fun k : Nat=>[(8,vI k)]) (fun _=>[]) (fun k=>k ≤ l.length ∧ ∀ x ∈ l.take k,¬ w = x) (fun k=>l.length - k) 0 ⟨Nat.zero_le _,by simp⟩ ?_
 (conv=>whnf)
 refine ⟨?_,fun k ⟨hk,hkk⟩=>?_⟩
 ·exact okT
 ·replace hk : k ≤ l.length := hk
  (conv=>whnf)
  refine split_intro (fun h=>?_) (fun h=>?_)
  ·have hlt : k < l.length := by have := of_decide_eq_true h; simp only [List.length_map] at this; omega
   obtain ⟨x,hx⟩:=exI hlt
   (conv=>whnf)
   refine ⟨_,⟨by omega,getMap hx⟩,?_⟩
   (conv=>whnf)
   by_cases hw : w = x
   ·refine split_intro (fun _ => ?_) (fun h => absurd h (by simp [hw]))
    have e : idxS l w = (k : Int) := by
     unfold idxS
     have : l.findIdx? (fun x => decide (w = x)) = some k := by
      rw [List.findIdx?_eq_some_iff_getElem]
      refine ⟨hlt,?_,fun j hj=>?_⟩
      ·rw [List.getElem?_eq_getElem hlt] at hx; injection hx with hx; rw [hx]; simp [hw]
      ·have hjl : j < l.length := by omega
       have:=hkk l[j] (List.mem_iff_getElem.2 ⟨j,by simp; omega,by simp⟩)
       simpa using this
     rw [this]
    rw [e]
    (conv=>whnf)
    exact Wk.refl _
   ·refine split_intro (fun h => absurd h (by simpa [sB] using hw)) (fun _ => ?_)
    (conv=>whnf)
    refine ⟨_,add64 (c:=((k + 1 : Nat) : Int)) (by (try simp only []); omega) (by omega),?_⟩
    (conv=>whnf)
    refine ⟨k + 1,⟨⟨hlt,fun y hy=>?_⟩,by show l.length - (k + 1) < l.length - k; omega⟩,?_⟩
    ·rw [List.take_add_one, hx] at hy
     rcases List.mem_append.1 hy with hy|hy
     ·exact hkk y hy
     ·simp at hy; rw [hy]; exact hw
    ·exact okT
  ·have hge : l.length ≤ k := by have := of_decide_eq_false h; simp only [List.length_map] at this; omega
   rw [List.take_of_length_le hge] at hkk
   have e : idxS l w = -1 := by
    unfold idxS
    have : l.findIdx? (fun x => decide (w = x)) = none := by
     rw [List.findIdx?_eq_none_iff]
     intro x hx
     have:=hkk x hx
     simpa using this
    rw [this]
   rw [e]
   (conv=>whnf)
   exact Wk.refl _
theorem idxS_ge (l : List Str) (w : Str) : decide ((0 : Int) ≤ idxS l w) = l.any (fun x => decide (w = x)) := by
 unfold idxS
 cases h : l.findIdx? (fun x=>decide (w = x)) with
 | none =>
  rw [List.findIdx?_eq_none_iff] at h
  symm
  simp only [show decide ((0 : Int) ≤ -1) = false by decide]
  rw [List.any_eq_false]
  intro x hx; have:=h x hx; simp at this; simpa using this
 | some i =>
  rw [List.findIdx?_eq_some_iff_getElem] at h
  obtain ⟨h1,h2,_⟩:=h
  symm
  simp only [show decide ((0 : Int) ≤ (i : Int)) = true by simp]
  rw [List.any_eq_true]
  exact ⟨_,List.getElem_mem h1,h2⟩
theorem containsL_ [Go.AL.MX] (l : List Str) (w : Str) (hl : l.length ≤ 1000) : FCall Tryz.prog Gl 73 [LS l, sD w] [] (vB (l.any (fun x => decide (w = x)))) [] := by
 have I:=sindexL_ l w hl
 have e:=idxS_ge l w
 revert I e
 generalize idxS l w = i
 intro I e
 refine FCall.enterL hT hmix [] Tryz.func73 rfl rfl rfl fun hbd=>?_
 (conv=>whnf)
 refine CallLeaf.wa (I) rfl ?_
 (conv=>whnf)
 exact Wk.bool e
theorem contB_ [Go.AL.MX] (w : Str) : FCall Tryz.prog Gl 73 [LS [wB1, wB2], sD w] [] (vB (isB w)) [] := by
 have:=containsL_ [wB1,wB2] w (by simp)
 simpa using this
theorem contE_ [Go.AL.MX] (w : Str) : FCall Tryz.prog Gl 73 [LS [wE1, wE2], sD w] [] (vB (isE w)) [] := by
 have:=containsL_ [wE1,wE2] w (by simp)
 simpa using this
abbrev fOut : D:=.func (.func 53) [.ptr 0 0] []
abbrev fIn : D:=.func (.func 74) [.ptr 0 0] []
abbrev pO (f : D) (n : Nat) (k : Int) : AObj:=.cells [f,.sl 1 n 0 n,vI k]
theorem outB_ [Go.AL.MX] (X : List (List D)) (w : Str) (i : Nat) (hb : isB w = true) (hX : X.length ≤ 1000000) : FCall Tryz.prog Gl 53 [.ptr 0 0, sD w, vI i] [pO fOut X.length (-1), .arr X.length 3 X] (vI 0) [pO fIn (X.length + 1) i, .arr (X.length + 1) 3 (X ++ [[vB true, .nil, .nil]])] := by
 have C:=contB_ w
 rw [hb] at C
 refine FCall.enterO hT hmix [] Tryz.func53 rfl rfl rfl fun hbd=>?_
 (conv=>whnf)
 refine CallLeaf.wa (C) rfl ?_
 (conv=>whnf)
 refine ⟨X ++ [[vB true,.nil,.nil]],⟨rfl,rfl,by omega,(by rw [List.drop_zero,List.take_of_length_le (Nat.le_refl _)]; try rfl),fun c hc=>(by simp at hc; subst hc; rfl),by show (X.length + 1) * 56 ≤ _; omega⟩,?_⟩
 (conv=>whnf)
 refine ⟨[0,1],rfl,finT,?_⟩
 (conv=>whnf)
 exact Wk.refl _
theorem outE_ [Go.AL.MX] (X : List (List D)) (w : Str) (i : Nat) (hb : isB w = false) (he : isE w = true) : FCall Tryz.prog Gl 53 [.ptr 0 0, sD w, vI i] [pO fOut X.length (-1), .arr X.length 3 X] (vI 14) [pO fOut X.length (-1), .arr X.length 3 X] := by
 have C:=contB_ w
 rw [hb] at C
 have C2:=contE_ w
 rw [he] at C2
 refine FCall.enterO hT hmix [] Tryz.func53 rfl rfl rfl fun hbd=>?_
 (conv=>whnf)
 refine CallLeaf.wa (C) rfl ?_
 (conv=>whnf)
 refine CallLeaf.wa (C2) rfl ?_
 (conv=>whnf)
 refine ⟨[0,1],rfl,finT,?_⟩
 (conv=>whnf)
 exact Wk.refl _
theorem outF_ [Go.AL.MX] (X : List (List D)) (w : Str) (i : Nat) (hb : isB w = false) (he : isE w = false) (hX : X.length ≤ 1000000) : FCall Tryz.prog Gl 53 [.ptr 0 0, sD w, vI i] [pO fOut X.length (-1), .arr X.length 3 X] (vI 0) [pO fOut (X.length + 1) (-1), .arr (X.length + 1) 3 (X ++ [encX ⟨false, [w], [i]⟩])] := by
 have C:=contB_ w
 rw [hb] at C
 have C2:=contE_ w
 rw [he] at C2
 refine FCall.enterO hT hmix [] Tryz.func53 rfl rfl rfl fun hbd=>?_
 (conv=>whnf)
 refine CallLeaf.wa (C) rfl ?_
 (conv=>whnf)
 refine CallLeaf.wa (C2) rfl ?_
 (conv=>whnf)
 refine ⟨X ++ [encX ⟨false,[w],[i]⟩],⟨rfl,rfl,by omega,(by rw [List.drop_zero,List.take_of_length_le (Nat.le_refl _)]; try rfl),fun c hc=>(by simp at hc; subst hc; rfl),by show (X.length + 1) * 56 ≤ _; omega⟩,?_⟩
 (conv=>whnf)
 refine ⟨[0,1],rfl,finT,?_⟩
 (conv=>whnf)
 exact Wk.refl _
end Go.Proofs.YtimjnmbpbobfiaaGreatDoor.H

namespace Go.Proofs.YtimjnmbpbobfiaaGreatDoor.H
open Go Go.AL Go.AL.In
set_option maxRecDepth 100000
set_option maxHeartbeats 8000000
abbrev elX : List D:=[vB true,.nil,.nil]
abbrev hoX (n : Nat) (a b : Nat) (fs : List Str) (ats : List Nat) : List (Nat × Nat × D):=[(n,1,.list (.tok a) (fs.map eS)),(n,2,.list (.tok b) (ats.map In.eO))]
abbrev obX (X : List (List D)) (fs : List Str) (ats : List Nat) : List AObj:=[.arx (X.length + 1) 3 (X ++ [elX]) (hoX X.length 2 3 fs ats),.tok (fs.map eS).length 1,.tok (ats.map In.eO).length 1]
theorem inB0_ [Go.AL.MX] (Y : List (List D)) (w : Str) (i : Nat) (m : Nat) (k : Int) (hb : isB w = true) : FCall Tryz.prog Gl 74 [.ptr 0 0, sD w, vI i] [pO fIn m k, .arr m 3 Y] (vI 14) [pO fIn m k, .arr m 3 Y] := by
 have C:=contB_ w
 rw [hb] at C
 refine FCall.enterO hT hmix [] Tryz.func74 rfl rfl rfl fun hbd=>?_
 (conv=>whnf)
 refine CallLeaf.wa (C) rfl ?_
 (conv=>whnf)
 refine ⟨[0,1],rfl,finT,?_⟩
 (conv=>whnf)
 exact Wk.refl _
theorem inB1_ [Go.AL.MX] (X : List (List D)) (fs : List Str) (ats : List Nat) (w : Str) (i : Nat) (m : Nat) (k : Int) (hb : isB w = true) : FCall Tryz.prog Gl 74 [.ptr 0 0, sD w, vI i] ([pO fIn m k] ++ obX X fs ats) (vI 14) ([pO fIn m k] ++ obX X fs ats) := by
 have C:=contB_ w
 rw [hb] at C
 refine FCall.enterO hT hmix [] Tryz.func74 rfl rfl rfl fun hbd=>?_
 (conv=>whnf)
 refine CallLeaf.wa (C) rfl ?_
 (conv=>whnf)
 refine ⟨[0,1,2,3],rfl,finT,?_⟩
 (conv=>whnf)
 exact Wk.refl _
theorem inE0_ [Go.AL.MX] (Y : List (List D)) (w : Str) (i : Nat) (m : Nat) (k : Int) (hb : isB w = false) (he : isE w = true) : FCall Tryz.prog Gl 74 [.ptr 0 0, sD w, vI i] [pO fIn m k, .arr m 3 Y] (vI 0) [pO fOut m (-1), .arr m 3 Y] := by
 have C:=contB_ w
 rw [hb] at C
 have C2:=contE_ w
 rw [he] at C2
 refine FCall.enterO hT hmix [] Tryz.func74 rfl rfl rfl fun hbd=>?_
 (conv=>whnf)
 refine CallLeaf.wa (C) rfl ?_
 (conv=>whnf)
 refine CallLeaf.wa (C2) rfl ?_
 (conv=>whnf)
 refine ⟨[0,1],rfl,finT,?_⟩
 (conv=>whnf)
 exact Wk.refl _
theorem inE1_ [Go.AL.MX] (X : List (List D)) (fs : List Str) (ats : List Nat) (w : Str) (i : Nat) (m : Nat) (k : Int) (hb : isB w = false) (he : isE w = true) : FCall Tryz.prog Gl 74 [.ptr 0 0, sD w, vI i] ([pO fIn m k] ++ obX X fs ats) (vI 0) ([pO fOut m (-1)] ++ obX X fs ats) := by
 have C:=contB_ w
 rw [hb] at C
 have C2:=contE_ w
 rw [he] at C2
 refine FCall.enterO hT hmix [] Tryz.func74 rfl rfl rfl fun hbd=>?_
 (conv=>whnf)
 refine CallLeaf.wa (C) rfl ?_
 (conv=>whnf)
 refine CallLeaf.wa (C2) rfl ?_
 (conv=>whnf)
 refine ⟨[0,1,2,3],rfl,finT,?_⟩
 (conv=>whnf)
 exact Wk.refl _
theorem inF0_ [Go.AL.MX] (X : List (List D)) (w : Str) (i : Nat) (k : Int) (hb : isB w = false) (he : isE w = false) (hX : X.length ≤ 1000000) : FCall Tryz.prog Gl 74 [.ptr 0 0, sD w, vI i] [pO fIn (X.length + 1) k, .arr (X.length + 1) 3 (X ++ [elX])] (vI 0) ([pO fIn (X.length + 1) k] ++ obX X [w] [i]) := by
 have C:=contB_ w
 rw [hb] at C
 have C2:=contE_ w
 rw [he] at C2
 have hl : (X ++ [elX]).length = X.length + 1:=by simp
 have hg : (X ++ [elX])[0 + ((X.length : Int)).toNat]? = some elX:=by simp
 refine FCall.enterO hT hmix [] Tryz.func74 rfl rfl rfl fun hbd=>?_
 (conv=>whnf)
 refine CallLeaf.wa (C) rfl ?_
 (conv=>whnf)
 refine CallLeaf.wa (C2) rfl ?_
 (conv=>whnf)
 refine ⟨_,sub64 (c:=(X.length : Int)) (by omega) (by omega),?_⟩
 (conv=>whnf)
 refine ⟨⟨rfl,rfl,by omega,by omega,by omega⟩,?_⟩
 (conv=>whnf)
 refine ⟨rfl,?_⟩
 (conv=>whnf)
 refine ⟨rfl,?_⟩
 (conv=>whnf)
 refine ⟨elX,⟨rfl,rfl,hg⟩,?_⟩
 (conv=>whnf)
 refine ⟨_,appN (f:=eS) (ys:=[w]) (fun _=>rfl) (by show 1 * 16 ≤ _; omega),?_⟩
 (conv=>whnf)
 refine ⟨rfl,?_⟩
 (conv=>whnf)
 refine ⟨rfl,?_⟩
 (conv=>whnf)
 refine ⟨elX,⟨rfl,rfl,hg⟩,?_⟩
 (conv=>whnf)
 refine ⟨_,appN (f:=In.eO) (ys:=[i]) (fun _=>rfl) (by show 1 * 8 ≤ _; omega),?_⟩
 (conv=>whnf)
 refine ⟨rfl,?_⟩
 (conv=>whnf)
 refine ⟨rfl,?_⟩
 (conv=>whnf)
 refine ⟨⟨rfl,rfl,by simp,by decide⟩,?_⟩
 (conv=>whnf)
 refine ⟨rfl,?_⟩
 (conv=>whnf)
 refine ⟨rfl,?_⟩
 (conv=>whnf)
 refine ⟨hoX X.length 1090 1146 [w] [i],⟨rfl,rfl,by simp,by decide⟩,⟨fun p hp=>?_,?_,fun i' j' d' hd=>?_⟩,?_⟩
 ·simp at hp
  rcases hp with rfl|rfl
  ·right; simp
  ·left; simp
 ·simp
 ·simp at hd
  obtain ⟨rfl,rfl,rfl⟩:=hd
  exact ⟨_,List.mem_cons_self⟩
 ·(conv => whnf)
  refine ⟨[0,1,1090,1146],rfl,finT,?_⟩
  (conv=>whnf)
  exact Wk.refl _
theorem inF1_ [Go.AL.MX] (X : List (List D)) (fs : List Str) (ats : List Nat) (w : Str) (i : Nat) (k : Int) (hb : isB w = false) (he : isE w = false) (hX : X.length ≤ 1000000) (hf : fs.length ≤ 1000000) (ha : ats.length ≤ 1000000) :
  FCall Tryz.prog Gl 74 [.ptr 0 0,sD w,vI i] ([pO fIn (X.length + 1) k] ++ obX X fs ats) (vI 0) ([pO fIn (X.length + 1) k] ++ obX X (fs ++ [w]) (ats ++ [i])):=by
 have C:=contB_ w
 rw [hb] at C
 have C2:=contE_ w
 rw [he] at C2
 have hl : (X ++ [elX]).length = X.length + 1:=by simp
 refine FCall.enterO hT hmix [] Tryz.func74 rfl rfl rfl fun hbd=>?_
 (conv=>whnf)
 refine CallLeaf.wa (C) rfl ?_
 (conv=>whnf)
 refine CallLeaf.wa (C2) rfl ?_
 (conv=>whnf)
 refine ⟨_,sub64 (c:=(X.length : Int)) (by omega) (by omega),?_⟩
 (conv=>whnf)
 refine ⟨⟨rfl,rfl,by omega,by omega,by omega⟩,?_⟩
 (conv=>whnf)
 refine ⟨rfl,?_⟩
 (conv=>whnf)
 refine ⟨rfl,?_⟩
 (conv=>whnf)
 refine ⟨0,.list (.tok 2) (fs.map eS),⟨rfl,rfl,by simp⟩,?_⟩
 (conv=>whnf)
 refine ⟨_,appL (f:=eS) (xs:=fs) (ys:=[w]) (zs:=fs ++ [w]) rfl rfl (fun _=>rfl) rfl (by rw [List.length_append]; show (_ + 1) * 16 ≤ _; omega),?_⟩
 (conv=>whnf)
 refine ⟨rfl,?_⟩
 (conv=>whnf)
 refine ⟨rfl,?_⟩
 (conv=>whnf)
 refine ⟨1,.list (.tok 3) (ats.map In.eO),⟨rfl,rfl,by simp⟩,?_⟩
 (conv=>whnf)
 refine ⟨_,appL (f:=In.eO) (xs:=ats) (ys:=[i]) (zs:=ats ++ [i]) rfl rfl (fun _=>rfl) rfl (by rw [List.length_append]; show (_ + 1) * 8 ≤ _; omega),?_⟩
 (conv=>whnf)
 refine ⟨rfl,?_⟩
 (conv=>whnf)
 refine ⟨rfl,?_⟩
 (conv=>whnf)
 refine ⟨[(X.length,1,.list (.tok 2) ((fs ++ [w]).map eS)),(X.length,2,.list (.tok 3) (ats.map In.eO))],⟨rfl,rfl,by simp,by decide⟩,⟨fun p hp=>?_,?_,fun i' j' d' hd=>?_⟩,?_⟩
 ·simp at hp
  rcases hp with rfl|rfl
  ·left; simp
  ·right; simp
 ·simp
 ·simp at hd
  rcases hd with ⟨rfl,rfl,rfl⟩|⟨rfl,rfl,rfl⟩
  ·exact ⟨_,List.mem_cons_self⟩
  ·exact ⟨_,List.mem_cons_of_mem _ List.mem_cons_self⟩
 ·(conv => whnf)
  refine ⟨rfl,?_⟩
  (conv=>whnf)
  refine ⟨rfl,?_⟩
  (conv=>whnf)
  refine ⟨hoX X.length 2 3 (fs ++ [w]) (ats ++ [i]),⟨rfl,rfl,by simp,by decide⟩,⟨fun p hp=>?_,?_,fun i' j' d' hd=>?_⟩,?_⟩
  ·simp at hp
   rcases hp with rfl|rfl
   ·right; simp
   ·left; simp
  ·simp
  ·simp at hd
   rcases hd with ⟨rfl,rfl,rfl⟩|⟨rfl,rfl,rfl⟩
   ·exact ⟨_,List.mem_cons_self⟩
   ·exact ⟨_,List.mem_cons_of_mem _ List.mem_cons_self⟩
  ·(conv => whnf)
   refine ⟨[0,1,2,3],rfl,finT,?_⟩
   (conv=>whnf)
   exact Wk.refl _
end Go.Proofs.YtimjnmbpbobfiaaGreatDoor.H

namespace Go.Proofs.YtimjnmbpbobfiaaGreatDoor.H
open Go Go.AL Go.AL.In
set_option maxRecDepth 100000
set_option maxHeartbeats 8000000
abbrev gOut : D:=.func (.func 53) [.ptr 520 0] []
abbrev gIn : D:=.func (.func 74) [.ptr 520 0] []
abbrev pG (f : D) (n : Nat) (k : Int) : AObj:=.cells [f,.sl 403 n 0 n,vI k]
abbrev qO (X : List (List D)) : So:=[(520,pG gOut X.length (-1)),(403,.arr X.length 3 X)]
abbrev qE (X : List (List D)) (k : Nat) : So:=[(520,pG gIn (X.length + 1) k),(403,.arr (X.length + 1) 3 (X ++ [elX]))]
abbrev qF (X : List (List D)) (k : Nat) (fs : List Str) (ats : List Nat) : So:=[(520,pG gIn (X.length + 1) k),(403,.arx (X.length + 1) 3 (X ++ [elX]) (hoX X.length 4144 4145 fs ats)),(4144,.tok (fs.map eS).length 1),(4145,.tok (ats.map In.eO).length 1)]
def qC (S : PC) : So :=
 match S.cur with
 | none=>qO (S.items.map encX)
 | some (k,fs,ats)=>match fs with
  | []=>qE (S.items.map encX) k
  | f :: fs=>qF (S.items.map encX) k (f :: fs) ats
theorem items_wk (l : List It) (t : Tg) : Wk (.list t (l.map encX)) (.list .any (l.map It.enc)) :=
 Wk.listE t l (fun _ => rfl) (fun a i h1 h2 => by
  have hi : i < 3:=h1
  have : i = 0 ∨ i = 1 ∨ i = 2:=by omega
  rcases this with rfl|rfl|rfl
  ·exact Wk.refl _
  ·exact nl_wk eS a.files
  ·exact nl_wk In.eO a.ats) (fun a d hd=>by simp at hd; rcases hd with rfl|rfl|rfl <;> rfl)
theorem cparse_ [Go.AL.MX] (ws : List Str) (hl : ws.length ≤ 100000) : FCall Tryz.prog Gl 33 [LS ws] [] (.tuple [.list .any ((parseC ws).1.map It.enc), vI (parseC ws).2.1, vI (parseC ws).2.2]) [] := by
 refine FCall.enterL hT hmix [12] Tryz.func33 rfl rfl rfl fun hbd=>?_
 (conv=>whnf)
 refine LWp.loop hT hmix [] (fun x : Nat × PC=>[(18,vI x.1)]) (fun x=>qC x.2) (fun x=>x.1 ≤ ws.length ∧ OkC x.2 x.1 ∧ runC PC0 0 ws = runC x.2 x.1 (ws.drop x.1)) (fun x=>ws.length - x.1) (0,PC0) ⟨Nat.zero_le _,OkC.zero,rfl⟩ ?_
 (conv=>whnf)
 refine ⟨?_,fun ⟨i,S⟩ ⟨hi,hS,hr⟩=>?_⟩
 ·exact okT
 ·replace hi : i ≤ ws.length := hi
  replace hS : OkC S i:=hS
  replace hr : runC PC0 0 ws = runC S i (ws.drop i):=hr
  have hSn:=hS.n
  have hSc:=hS.c
  by_cases hlt : i < ws.length
  ·obtain ⟨w, hw⟩ := exI hlt
   rw [runC_step hw] at hr
   by_cases h0 : w = []
   ·have es : stepC S w i = (S, 13) := by unfold stepC; rw [if_pos h0]
    rw [es,if_neg (by simp)] at hr
    have ep : parseC ws = ([],i,13):=by unfold parseC; rw [hr]
    rw [ep]
    obtain ⟨it,cur⟩:=S
    rcases cur with _|⟨k,fs,ats⟩
    ·(conv => whnf)
     refine split_intro (fun _=>?_) (fun h=>absurd h (by simp; omega))
     (conv=>whnf)
     refine ⟨_,⟨by omega,getMap hw⟩,?_⟩
     (conv=>whnf)
     refine split_intro (fun h=>absurd h (by simp [h0,sB])) (fun _=>?_)
     ((conv=>whnf); exact Wk.tuple (Wks.cons Wk.nilm (Wks.cons (Wk.refl _) (Wks.cons (Wk.refl _) Wks.nil))))
    ·rcases fs with _ | ⟨f, fs⟩
     ·(conv => whnf)
      refine split_intro (fun _=>?_) (fun h=>absurd h (by simp; omega))
      (conv=>whnf)
      refine ⟨_,⟨by omega,getMap hw⟩,?_⟩
      (conv=>whnf)
      refine split_intro (fun h=>absurd h (by simp [h0,sB])) (fun _=>?_)
      ((conv=>whnf); exact Wk.tuple (Wks.cons Wk.nilm (Wks.cons (Wk.refl _) (Wks.cons (Wk.refl _) Wks.nil))))
     ·(conv => whnf)
      refine split_intro (fun _=>?_) (fun h=>absurd h (by simp; omega))
      (conv=>whnf)
      refine ⟨_,⟨by omega,getMap hw⟩,?_⟩
      (conv=>whnf)
      refine split_intro (fun h=>absurd h (by simp [h0,sB])) (fun _=>?_)
      ((conv=>whnf); exact Wk.tuple (Wks.cons Wk.nilm (Wks.cons (Wk.refl _) (Wks.cons (Wk.refl _) Wks.nil))))
   ·obtain ⟨it, cur⟩ := S
    have hXl : (it.map encX).length ≤ 100000:=by rw [List.length_map]; have : it.length ≤ i:=hSn; omega
    rcases cur with _|⟨k,fs,ats⟩
    ·cases hb : isB w with
     | true =>
      have es : stepC ⟨it,none⟩ w i = (⟨it,some (i,[],[])⟩,0):=by unfold stepC; rw [if_neg h0]; simp only [hb]; rfl
      have ho:=hS.step (w:=w) (by rw [es])
      rw [es] at hr ho
      rw [if_pos rfl] at hr
      (conv=>whnf)
      refine split_intro (fun _=>?_) (fun h=>absurd h (by simp; omega))
      (conv=>whnf)
      refine ⟨_,⟨by omega,getMap hw⟩,?_⟩
      (conv=>whnf)
      refine split_intro (fun _=>?_) (fun h=>absurd h (by simpa [sB] using h0))
      (conv=>whnf)
      refine CallLeaf.oa [520,403] (outB_ (it.map encX) w i hb (by omega)) rfl rfl rfl rfl ?_
      (conv=>whnf)
      refine ⟨_,add64 (c:=((i + 1 : Nat) : Int)) (by (try simp only []); omega) (by omega),?_⟩
      (conv=>whnf)
      refine ⟨(i + 1,⟨it,some (i,[],[])⟩),⟨⟨hlt,ho,hr⟩,by show ws.length - (i + 1) < ws.length - i; omega⟩,?_⟩
      exact okT
     | false =>
      cases he : isE w with
      | true =>
       have es : stepC ⟨it,none⟩ w i = (⟨it,none⟩,14):=by unfold stepC; rw [if_neg h0]; simp only [hb,he]; rfl
       rw [es,if_neg (by simp)] at hr
       have ep : parseC ws = ([],i,14):=by unfold parseC; rw [hr]
       rw [ep]
       (conv=>whnf)
       refine split_intro (fun _=>?_) (fun h=>absurd h (by simp; omega))
       (conv=>whnf)
       refine ⟨_,⟨by omega,getMap hw⟩,?_⟩
       (conv=>whnf)
       refine split_intro (fun _=>?_) (fun h=>absurd h (by simpa [sB] using h0))
       (conv=>whnf)
       refine CallLeaf.oa [520,403] (outE_ (it.map encX) w i hb he) rfl rfl rfl rfl ?_
       ((conv=>whnf); exact Wk.tuple (Wks.cons Wk.nilm (Wks.cons (Wk.refl _) (Wks.cons (Wk.refl _) Wks.nil))))
      | false =>
       have es : stepC ⟨it,none⟩ w i = (⟨it ++ [⟨false,[w],[i]⟩],none⟩,0):=by unfold stepC; rw [if_neg h0]; simp only [hb,he]; rfl
       have ho:=hS.step (w:=w) (by rw [es])
       rw [es] at hr ho
       rw [if_pos rfl] at hr
       have em : (it ++ [(⟨false,[w],[i]⟩ : It)]).map encX = it.map encX ++ [encX ⟨false,[w],[i]⟩]:=by simp
       have el : ((it ++ [(⟨false,[w],[i]⟩ : It)]).map encX).length = (it.map encX).length + 1:=by simp
       (conv=>whnf)
       refine split_intro (fun _=>?_) (fun h=>absurd h (by simp; omega))
       (conv=>whnf)
       refine ⟨_,⟨by omega,getMap hw⟩,?_⟩
       (conv=>whnf)
       refine split_intro (fun _=>?_) (fun h=>absurd h (by simpa [sB] using h0))
       (conv=>whnf)
       refine CallLeaf.oa [520,403] (outF_ (it.map encX) w i hb he (by omega)) rfl rfl rfl rfl ?_
       (conv=>whnf)
       refine ⟨_,add64 (c:=((i + 1 : Nat) : Int)) (by (try simp only []); omega) (by omega),?_⟩
       (conv=>whnf)
       refine ⟨(i + 1,⟨it ++ [⟨false,[w],[i]⟩],none⟩),⟨⟨hlt,ho,hr⟩,by show ws.length - (i + 1) < ws.length - i; omega⟩,?_⟩
       simp only [qC,qO,em,List.length_append,List.length_singleton]
       exact okT
    ·obtain ⟨c1, c2, c3, c4⟩ := hSc k fs ats rfl
     cases hb : isB w with
     | true =>
      have es : stepC ⟨it,some (k,fs,ats)⟩ w i = (⟨it,some (k,fs,ats)⟩,14):=by unfold stepC; rw [if_neg h0]; simp only [hb]; rfl
      rw [es,if_neg (by simp)] at hr
      have ep : parseC ws = ([],i,14):=by unfold parseC; rw [hr]
      rw [ep]
      rcases fs with _|⟨f,fs⟩
      ·(conv => whnf)
       refine split_intro (fun _=>?_) (fun h=>absurd h (by simp; omega))
       (conv=>whnf)
       refine ⟨_,⟨by omega,getMap hw⟩,?_⟩
       (conv=>whnf)
       refine split_intro (fun _=>?_) (fun h=>absurd h (by simpa [sB] using h0))
       (conv=>whnf)
       refine CallLeaf.oa [520,403] (inB0_ (it.map encX ++ [elX]) w i ((it.map encX).length + 1) k hb) rfl rfl rfl rfl ?_
       ((conv=>whnf); exact Wk.tuple (Wks.cons Wk.nilm (Wks.cons (Wk.refl _) (Wks.cons (Wk.refl _) Wks.nil))))
      ·(conv => whnf)
       refine split_intro (fun _=>?_) (fun h=>absurd h (by simp; omega))
       (conv=>whnf)
       refine ⟨_,⟨by omega,getMap hw⟩,?_⟩
       (conv=>whnf)
       refine split_intro (fun _=>?_) (fun h=>absurd h (by simpa [sB] using h0))
       (conv=>whnf)
       refine CallLeaf.oa [520,403,4144,4145] (inB1_ (it.map encX) (f :: fs) ats w i ((it.map encX).length + 1) k hb) rfl rfl rfl rfl ?_
       ((conv=>whnf); exact Wk.tuple (Wks.cons Wk.nilm (Wks.cons (Wk.refl _) (Wks.cons (Wk.refl _) Wks.nil))))
     | false =>
      cases he : isE w with
      | true =>
       have es : stepC ⟨it,some (k,fs,ats)⟩ w i = (⟨it ++ [⟨true,fs,ats⟩],none⟩,0):=by unfold stepC; rw [if_neg h0]; simp only [hb,he]; rfl
       have ho:=hS.step (w:=w) (by rw [es])
       rw [es] at hr ho
       rw [if_pos rfl] at hr
       have em : (it ++ [(⟨true,fs,ats⟩ : It)]).map encX = it.map encX ++ [encX ⟨true,fs,ats⟩]:=by simp
       have el : ((it ++ [(⟨true,fs,ats⟩ : It)]).map encX).length = (it.map encX).length + 1:=by simp
       rcases fs with _|⟨f,fs⟩
       ·obtain rfl : ats = [] := List.eq_nil_of_length_eq_zero (by rw [c2]; rfl)
        (conv=>whnf)
        refine split_intro (fun _=>?_) (fun h=>absurd h (by simp; omega))
        (conv=>whnf)
        refine ⟨_,⟨by omega,getMap hw⟩,?_⟩
        (conv=>whnf)
        refine split_intro (fun _=>?_) (fun h=>absurd h (by simpa [sB] using h0))
        (conv=>whnf)
        refine CallLeaf.oa [520,403] (inE0_ (it.map encX ++ [elX]) w i ((it.map encX).length + 1) k hb he) rfl rfl rfl rfl ?_
        (conv=>whnf)
        refine ⟨_,add64 (c:=((i + 1 : Nat) : Int)) (by (try simp only []); omega) (by omega),?_⟩
        (conv=>whnf)
        refine ⟨(i + 1,⟨it ++ [⟨true,[],[]⟩],none⟩),⟨⟨hlt,ho,hr⟩,by show ws.length - (i + 1) < ws.length - i; omega⟩,?_⟩
        simp only [qC,qO,em,List.length_append,List.length_singleton]
        exact okT
       ·obtain ⟨a, ats, rfl⟩ : ∃ a r, ats = a :: r := by
         cases ats with
         | nil=>simp at c2
         | cons a r=>exact ⟨a,r,rfl⟩
        have hXX : ∀ x ∈ it.map encX,x.length = 3:=fun x hx=>by obtain ⟨y,_,rfl⟩:=List.mem_map.1 hx; rfl
        have hF:=fill2 (a:=vB true) (b:=.nil) (c:=.nil) (b':=LSn (f :: fs)) (c':=.list .nat ((a :: ats).map In.eO)) hXX
        (conv=>whnf)
        refine split_intro (fun _=>?_) (fun h=>absurd h (by simp; omega))
        (conv=>whnf)
        refine ⟨_,⟨by omega,getMap hw⟩,?_⟩
        (conv=>whnf)
        refine split_intro (fun _=>?_) (fun h=>absurd h (by simpa [sB] using h0))
        (conv=>whnf)
        refine CallLeaf.oa [520,403,4144,4145] (inE1_ (it.map encX) (f :: fs) (a :: ats) w i ((it.map encX).length + 1) k hb he) rfl rfl rfl rfl ?_
        (conv=>whnf)
        refine ⟨_,add64 (c:=((i + 1 : Nat) : Int)) (by (try simp only []); omega) (by omega),?_⟩
        (conv=>whnf)
        refine ⟨(i + 1,⟨it ++ [⟨true,f :: fs,a :: ats⟩],none⟩),⟨⟨hlt,ho,hr⟩,by show ws.length - (i + 1) < ws.length - i; omega⟩,?_⟩
        simp only [qC,qO,em,List.length_append,List.length_singleton]
        (repeat' (first|exact trivial|exact Wk.refl _|exact ObWk.refl _|exact rfl|exact ⟨_,rfl⟩|exact Nat.zero_lt_one|refine And.intro ?_ ?_|unfold okTo|(unfold okO; conv=>whnf)|(unfold okS; conv=>whnf)|(unfold SlotOk; conv=>whnf)|(unfold ObjOk; conv=>whnf)|(unfold okCells; conv=>whnf)|(unfold liveTo; conv=>whnf)|exact Nat.zero_lt_succ _))
        refine ⟨[((it.map encX).length,1,LSn (f :: fs)),((it.map encX).length,2,.list .nat ((a :: ats).map In.eO))],⟨rfl,rfl⟩,⟨⟨rfl,rfl,rfl⟩,?_,⟨rfl,rfl,rfl⟩,?_,trivial⟩,hF⟩
        ·exact okT
        ·exact okT
      | false =>
       have es : stepC ⟨it,some (k,fs,ats)⟩ w i = (⟨it,some (k,fs ++ [w],ats ++ [i])⟩,0):=by unfold stepC; rw [if_neg h0]; simp only [hb,he]; rfl
       have ho:=hS.step (w:=w) (by rw [es])
       rw [es] at hr ho
       rw [if_pos rfl] at hr
       rcases fs with _|⟨f,fs⟩
       ·obtain rfl : ats = [] := List.eq_nil_of_length_eq_zero (by rw [c2]; rfl)
        (conv=>whnf)
        refine split_intro (fun _=>?_) (fun h=>absurd h (by simp; omega))
        (conv=>whnf)
        refine ⟨_,⟨by omega,getMap hw⟩,?_⟩
        (conv=>whnf)
        refine split_intro (fun _=>?_) (fun h=>absurd h (by simpa [sB] using h0))
        (conv=>whnf)
        refine CallLeaf.oa [520,403,4144,4145] (inF0_ (it.map encX) w i k hb he (by omega)) rfl rfl rfl rfl ?_
        (conv=>whnf)
        refine ⟨_,add64 (c:=((i + 1 : Nat) : Int)) (by (try simp only []); omega) (by omega),?_⟩
        (conv=>whnf)
        refine ⟨(i + 1,⟨it,some (k,[w],[i])⟩),⟨⟨hlt,ho,hr⟩,by show ws.length - (i + 1) < ws.length - i; omega⟩,?_⟩
        exact okT
       ·(conv => whnf)
        refine split_intro (fun _=>?_) (fun h=>absurd h (by simp; omega))
        (conv=>whnf)
        refine ⟨_,⟨by omega,getMap hw⟩,?_⟩
        (conv=>whnf)
        refine split_intro (fun _=>?_) (fun h=>absurd h (by simpa [sB] using h0))
        (conv=>whnf)
        refine CallLeaf.oa [520,403,4144,4145] (inF1_ (it.map encX) (f :: fs) ats w i k hb he (by omega) (by omega) (by omega)) rfl rfl rfl rfl ?_
        (conv=>whnf)
        refine ⟨_,add64 (c:=((i + 1 : Nat) : Int)) (by (try simp only []); omega) (by omega),?_⟩
        (conv=>whnf)
        refine ⟨(i + 1,⟨it,some (k,f :: fs ++ [w],ats ++ [i])⟩),⟨⟨hlt,ho,hr⟩,by show ws.length - (i + 1) < ws.length - i; omega⟩,?_⟩
        exact okT
  ·obtain rfl : i = ws.length := by omega
   rw [List.drop_length,runC] at hr
   obtain ⟨it,cur⟩:=S
   rcases cur with _|⟨k,fs,ats⟩
   ·have ep : parseC ws = (it, 0, 0) := by unfold parseC; rw [hr]
    rw [ep]
    have hXl : (it.map encX).length ≤ 100000:=by rw [List.length_map]; have : it.length ≤ ws.length:=hSn; omega
    (conv=>whnf)
    refine split_intro (fun h=>absurd h (by simp)) (fun _=>?_)
    (conv=>whnf)
    refine LWp.wk (L:=[(5,.ptr 520 0)]) (O:=[(520,.cells [gOut,.list .nat (it.map encX),vI (-1)])]) ?_ (wpc_sound hT hmix (S:=[]) _ _ _ _ ?_)
    ·(repeat' (first | exact trivial | exact Wk.refl _ | exact ObWk.refl _ | exact rfl | exact ⟨_, rfl⟩ | exact Nat.zero_lt_one | refine And.intro ?_ ?_ | unfold okTo | (unfold okO; conv => whnf) | (unfold okS; conv => whnf) | (unfold SlotOk; conv => whnf) | (unfold ObjOk; conv => whnf) | (unfold okCells; conv => whnf) | (unfold liveTo; conv => whnf) | exact Nat.zero_lt_succ _))
     ·show 0 + (it.map encX).length ≤ (it.map encX).length; omega
     ·show (it.map encX).length ≤ 140737488355328; omega
     ·exact Wk.of_eq (by rw [List.drop_zero,List.take_of_length_le (Nat.le_refl _)])
    ·(conv => whnf)
     exact Wk.tuple (Wks.cons (items_wk it .nat) (Wks.cons (Wk.refl _) (Wks.cons (Wk.refl _) Wks.nil)))
   ·have ep : parseC ws = ([], k, 14) := by unfold parseC; rw [hr]
    rw [ep]
    rcases fs with _|⟨f,fs⟩
    ·(conv => whnf)
     refine split_intro (fun h=>absurd h (by simp)) (fun _=>?_)
     (conv=>whnf)
     refine wpc_sound hT hmix (S:=[]) _ _ _ _ ?_
     ((conv=>whnf); exact Wk.tuple (Wks.cons Wk.nilm (Wks.cons (Wk.refl _) (Wks.cons (Wk.refl _) Wks.nil))))
    ·(conv => whnf)
     refine split_intro (fun h=>absurd h (by simp)) (fun _=>?_)
     (conv=>whnf)
     refine wpc_sound hT hmix (S:=[]) _ _ _ _ ?_
     ((conv=>whnf); exact Wk.tuple (Wks.cons Wk.nilm (Wks.cons (Wk.refl _) (Wks.cons (Wk.refl _) Wks.nil))))
end Go.Proofs.YtimjnmbpbobfiaaGreatDoor.H

namespace Go.Proofs.YtimjnmbpbobfiaaGreatDoor.H
open Go Go.AL Go.AL.In
set_option maxRecDepth 100000
set_option maxHeartbeats 8000000
def kindR (w : Str) : Int:=if isB w = true then 1 else if isE w = true then 2 else if w = [] then 3 else 0
theorem rkind_ [Go.AL.MX] (w : Str) : FCall Tryz.prog Gl 38 [sD w] [] (vI (kindR w)) [] := by
 unfold kindR
 refine FCall.enterL hT hmix [] Tryz.func38 rfl rfl rfl fun hbd=>?_
 (conv=>whnf)
 by_cases h1 : w = wB1
 ·rw [if_pos (by simp [h1])]
  refine split_intro (fun _=>?_) (fun h=>absurd h (by simp [h1]))
  (conv=>whnf)
  exact Wk.refl _
 ·refine split_intro (fun h => absurd h (by intro hh; exact h1 (of_decide_eq_true hh))) (fun _ => ?_)
  (conv=>whnf)
  by_cases h2 : w = wB2
  ·rw [if_pos (by simp [h2])]
   refine split_intro (fun _=>?_) (fun h=>absurd h (by simp [h2]))
   (conv=>whnf)
   exact Wk.refl _
  ·rw [if_neg (by simp [h1, h2])]
   refine split_intro (fun h=>absurd h (by intro hh; exact h2 (of_decide_eq_true hh))) (fun _=>?_)
   (conv=>whnf)
   by_cases h3 : w = wE1
   ·rw [if_pos (by simp [h3])]
    refine split_intro (fun _=>?_) (fun h=>absurd h (by simp [h3]))
    (conv=>whnf)
    exact Wk.refl _
   ·refine split_intro (fun h => absurd h (by intro hh; exact h3 (of_decide_eq_true hh))) (fun _ => ?_)
    (conv=>whnf)
    by_cases h4 : w = wE2
    ·rw [if_pos (by simp [h4])]
     refine split_intro (fun _=>?_) (fun h=>absurd h (by simp [h4]))
     (conv=>whnf)
     exact Wk.refl _
    ·rw [if_neg (by simp [h3, h4])]
     refine split_intro (fun h=>absurd h (by intro hh; exact h4 (of_decide_eq_true hh))) (fun _=>?_)
     (conv=>whnf)
     by_cases h5 : w = []
     ·rw [if_pos h5]
      refine split_intro (fun _=>?_) (fun h=>absurd h (by simp [h5]))
      (conv=>whnf)
      exact Wk.refl _
     ·rw [if_neg h5]
      refine split_intro (fun h=>absurd h (by intro hh; exact h5 (of_decide_eq_true hh))) (fun _=>?_)
      (conv=>whnf)
      exact Wk.refl _
theorem kind_0 {w : Str} (h : isB w = false) (h2 : isE w = false) (h3 : w ≠ []) : kindR w = 0 := by
 unfold kindR; rw [h,h2,if_neg (by simp),if_neg (by simp),if_neg h3]
theorem kind_1 {w : Str} (h : isB w = true) : kindR w = 1:=by unfold kindR; rw [if_pos h]
theorem kind_2 {w : Str} (h : isB w = false) (h2 : isE w = true) : kindR w = 2:=by unfold kindR; rw [h,if_neg (by simp),if_pos h2]
theorem kind_3 {w : Str} (h : w = []) : kindR w = 3:=by subst h; decide
abbrev encN (x : It) : List D:=[vB x.group,LSn x.files,.list .nat (x.ats.map In.eO)]
theorem itemsN_wk (l : List It) (t : Tg) : Wk (.list t (l.map encN)) (.list .any (l.map It.enc)) :=
 Wk.listE t l (fun _ => rfl) (fun a i h1 h2 => by
  have hi : i < 3:=h1
  have : i = 0 ∨ i = 1 ∨ i = 2:=by omega
  rcases this with rfl|rfl|rfl
  ·exact Wk.refl _
  ·exact Wk.list _ _
  ·exact Wk.list _ _) (fun a d hd=>by simp at hd; rcases hd with rfl|rfl|rfl <;> rfl)
theorem rparse17_ [Go.AL.MX] (ws : List Str) (hl : ws.length ≤ 100000) : FCall Tryz.prog Gl 18 [LS ws] [] (.tuple [.list .any ((parseC ws).1.map It.enc), vI (parseC ws).2.1, vI (parseC ws).2.2]) [] := by
 refine FCall.enterL hT hmix [] Tryz.func18 rfl rfl rfl fun hbd=>?_
 (conv=>whnf)
 refine LWp.loop hT hmix [] (fun x : Nat × List It=>[(6,vI x.1),(5,.list (.tok 403) (x.2.map encN))]) (fun x=>[(403,.tok (x.2.map encN).length 3)]) (fun x=>x.1 ≤ ws.length ∧ x.2.length ≤ x.1 ∧ runC PC0 0 ws = runC ⟨x.2,none⟩ x.1 (ws.drop x.1)) (fun x=>ws.length - x.1) (0,[]) ⟨Nat.zero_le _,Nat.le_refl _,rfl⟩ ?_
 (conv=>whnf)
 refine ⟨?_,fun ⟨i,it⟩ ⟨hi,hn,hr⟩=>?_⟩
 ·exact okT
 ·replace hi : i ≤ ws.length := hi
  replace hn : it.length ≤ i:=hn
  replace hr : runC PC0 0 ws = runC ⟨it,none⟩ i (ws.drop i):=hr
  (conv=>whnf)
  refine split_intro (fun h=>?_) (fun h=>?_)
  ·have hlt : i < ws.length := by have := of_decide_eq_true h; simp only [List.length_map] at this; omega
   obtain ⟨w,hw⟩:=exI hlt
   rw [runC_step hw] at hr
   (conv=>whnf)
   refine ⟨_,⟨by omega,getMap hw⟩,?_⟩
   (conv=>whnf)
   refine CallLeaf.wa (rkind_ w) rfl ?_
   by_cases h0 : w = []
   ·have es : stepC ⟨it, none⟩ w i = (⟨it, none⟩, 13) := by unfold stepC; rw [if_pos h0]
    rw [es,if_neg (by simp)] at hr
    have ep : parseC ws = ([],i,13):=by unfold parseC; rw [hr]
    rw [ep,kind_3 h0]
    ((conv=>whnf); exact Wk.tuple (Wks.cons Wk.nilm (Wks.cons (Wk.refl _) (Wks.cons (Wk.refl _) Wks.nil))))
   ·cases hb : isB w with
    | false =>
     cases he : isE w with
     | true =>
      have es : stepC ⟨it,none⟩ w i = (⟨it,none⟩,14):=by unfold stepC; rw [if_neg h0]; simp only [hb,he]; rfl
      rw [es,if_neg (by simp)] at hr
      have ep : parseC ws = ([],i,14):=by unfold parseC; rw [hr]
      rw [ep,kind_2 hb he]
      ((conv=>whnf); exact Wk.tuple (Wks.cons Wk.nilm (Wks.cons (Wk.refl _) (Wks.cons (Wk.refl _) Wks.nil))))
     | false =>
      have es : stepC ⟨it,none⟩ w i = (⟨it ++ [⟨false,[w],[i]⟩],none⟩,0):=by unfold stepC; rw [if_neg h0]; simp only [hb,he]; rfl
      rw [es,if_pos rfl] at hr
      rw [kind_0 hb he h0]
      (conv=>whnf)
      refine ⟨_,⟨by omega,getMap hw⟩,?_⟩
      (conv=>whnf)
      refine ⟨_,appL (f:=encN) (xs:=it) (ys:=[⟨false,[w],[i]⟩]) (zs:=it ++ [⟨false,[w],[i]⟩]) rfl rfl (fun _=>rfl) rfl (by rw [List.length_append]; show (_ + 1) * 56 ≤ _; omega),?_⟩
      (conv=>whnf)
      refine ⟨_,add64 (c:=((i + 1 : Nat) : Int)) (by (try simp only []); omega) (by omega),?_⟩
      (conv=>whnf)
      refine ⟨(i + 1,it ++ [⟨false,[w],[i]⟩]),⟨⟨hlt,by show (it ++ _).length ≤ i + 1; simp; omega,hr⟩,by show ws.length - (i + 1) < ws.length - i; omega⟩,?_⟩
      exact okT
    | true =>
     have es : stepC ⟨it,none⟩ w i = (⟨it,some (i,[],[])⟩,0):=by unfold stepC; rw [if_neg h0]; simp only [hb]; rfl
     rw [es,if_pos rfl] at hr
     rw [kind_1 hb]
     (conv=>whnf)
     refine ⟨_,add64 (c:=((i + 1 : Nat) : Int)) (by (try simp only []); omega) (by omega),?_⟩
     (conv=>whnf)
     refine LWp.loop hT hmix [] (fun y : Nat × List Str × List Nat=>[(6,vI y.1)]) (fun y=>[(6152,.cells [vB true,.list (.tok 404) (y.2.1.map eS),.list (.tok 405) (y.2.2.map In.eO)]),(404,.tok (y.2.1.map eS).length 1),(405,.tok (y.2.2.map In.eO).length 1)]) (fun y=>i + 1 ≤ y.1 ∧ y.1 ≤ ws.length ∧ y.2.1.length ≤ y.1 ∧ y.2.2.length = y.2.1.length ∧ runC PC0 0 ws = runC ⟨it,some (i,y.2.1,y.2.2)⟩ y.1 (ws.drop y.1)) (fun y=>ws.length - y.1) (i + 1,[],[]) ⟨Nat.le_refl _,hlt,Nat.zero_le _,rfl,hr⟩ ?_
     (conv=>whnf)
     refine ⟨?_,fun ⟨j,fs,ats⟩ ⟨hj,hj2,hf,ha,hr2⟩=>?_⟩
     ·exact okT
     ·replace hj : i + 1 ≤ j := hj
      replace hj2 : j ≤ ws.length:=hj2
      replace hf : fs.length ≤ j:=hf
      replace ha : ats.length = fs.length:=ha
      replace hr2 : runC PC0 0 ws = runC ⟨it,some (i,fs,ats)⟩ j (ws.drop j):=hr2
      (conv=>whnf)
      refine split_intro (fun h2=>?_) (fun h2=>?_)
      ·have hlt2 : j < ws.length := by have := of_decide_eq_true h2; simp only [List.length_map] at this; omega
       obtain ⟨v,hv⟩:=exI hlt2
       rw [runC_step hv] at hr2
       (conv=>whnf)
       refine ⟨_,⟨by omega,getMap hv⟩,?_⟩
       (conv=>whnf)
       refine CallLeaf.wa (rkind_ v) rfl ?_
       by_cases h3 : v = []
       ·have es : stepC ⟨it, some (i, fs, ats)⟩ v j = (⟨it, some (i, fs, ats)⟩, 13) := by unfold stepC; rw [if_pos h3]
        rw [es,if_neg (by simp)] at hr2
        have ep : parseC ws = ([],j,13):=by unfold parseC; rw [hr2]
        have hK:=rkind_ v
        rw [kind_3 h3] at hK
        rw [ep,kind_3 h3]
        (conv=>whnf)
        refine split_intro (fun h=>absurd h (by simp; omega)) (fun _=>?_)
        (conv=>whnf)
        refine ⟨_,⟨by omega,getMap hv⟩,?_⟩
        (conv=>whnf)
        refine CallLeaf.wa (hK) rfl ?_
        ((conv=>whnf); exact Wk.tuple (Wks.cons Wk.nilm (Wks.cons (Wk.refl _) (Wks.cons (Wk.refl _) Wks.nil))))
       ·cases hb2 : isB v with
        | true =>
         have es : stepC ⟨it,some (i,fs,ats)⟩ v j = (⟨it,some (i,fs,ats)⟩,14):=by unfold stepC; rw [if_neg h3]; simp only [hb2]; rfl
         rw [es,if_neg (by simp)] at hr2
         have ep : parseC ws = ([],j,14):=by unfold parseC; rw [hr2]
         have hK:=rkind_ v
         rw [kind_1 hb2] at hK
         rw [ep,kind_1 hb2]
         (conv=>whnf)
         refine split_intro (fun h=>absurd h (by simp; omega)) (fun _=>?_)
         (conv=>whnf)
         refine ⟨_,⟨by omega,getMap hv⟩,?_⟩
         (conv=>whnf)
         refine CallLeaf.wa (hK) rfl ?_
         (conv=>whnf)
         refine ⟨_,⟨by omega,getMap hv⟩,?_⟩
         (conv=>whnf)
         refine CallLeaf.wa (hK) rfl ?_
         ((conv=>whnf); exact Wk.tuple (Wks.cons Wk.nilm (Wks.cons (Wk.refl _) (Wks.cons (Wk.refl _) Wks.nil))))
        | false =>
         cases he2 : isE v with
         | true =>
          have es : stepC ⟨it,some (i,fs,ats)⟩ v j = (⟨it ++ [⟨true,fs,ats⟩],none⟩,0):=by unfold stepC; rw [if_neg h3]; simp only [hb2,he2]; rfl
          rw [es,if_pos rfl] at hr2
          have hK:=rkind_ v
          rw [kind_2 hb2 he2] at hK
          rw [kind_2 hb2 he2]
          (conv=>whnf)
          refine split_intro (fun h=>absurd h (by simp; omega)) (fun _=>?_)
          (conv=>whnf)
          refine ⟨_,⟨by omega,getMap hv⟩,?_⟩
          (conv=>whnf)
          refine CallLeaf.wa (hK) rfl ?_
          (conv=>whnf)
          refine ⟨_,⟨by omega,getMap hv⟩,?_⟩
          (conv=>whnf)
          refine CallLeaf.wa (hK) rfl ?_
          (conv=>whnf)
          refine ⟨_,appL (f:=encN) (xs:=it) (ys:=[⟨true,fs,ats⟩]) (zs:=it ++ [⟨true,fs,ats⟩]) rfl rfl (fun _=>rfl) rfl (by rw [List.length_append]; show (_ + 1) * 56 ≤ _; omega),?_⟩
          (conv=>whnf)
          refine ⟨_,add64 (c:=((j + 1 : Nat) : Int)) (by (try simp only []); omega) (by omega),?_⟩
          (conv=>whnf)
          refine ⟨(j + 1,it ++ [⟨true,fs,ats⟩]),⟨⟨hlt2,by show (it ++ _).length ≤ j + 1; simp; omega,hr2⟩,by show ws.length - (j + 1) < ws.length - i; omega⟩,?_⟩
          exact okT
         | false =>
          have es : stepC ⟨it,some (i,fs,ats)⟩ v j = (⟨it,some (i,fs ++ [v],ats ++ [j])⟩,0):=by unfold stepC; rw [if_neg h3]; simp only [hb2,he2]; rfl
          rw [es,if_pos rfl] at hr2
          rw [kind_0 hb2 he2 h3]
          (conv=>whnf)
          refine ⟨_,⟨by omega,getMap hv⟩,?_⟩
          (conv=>whnf)
          refine ⟨_,appL (f:=eS) (xs:=fs) (ys:=[v]) (zs:=fs ++ [v]) rfl rfl (fun _=>rfl) rfl (by rw [List.length_append]; show (_ + 1) * 16 ≤ _; omega),?_⟩
          (conv=>whnf)
          refine ⟨_,appL (f:=In.eO) (xs:=ats) (ys:=[j]) (zs:=ats ++ [j]) rfl rfl (fun _=>rfl) rfl (by rw [List.length_append]; show (_ + 1) * 8 ≤ _; omega),?_⟩
          (conv=>whnf)
          refine ⟨_,add64 (c:=((j + 1 : Nat) : Int)) (by (try simp only []); omega) (by omega),?_⟩
          (conv=>whnf)
          refine ⟨(j + 1,fs ++ [v],ats ++ [j]),⟨⟨by show i + 1 ≤ j + 1; omega,hlt2,by show (fs ++ _).length ≤ j + 1; simp; omega,by show (ats ++ _).length = (fs ++ _).length; simp; omega,hr2⟩,by show ws.length - (j + 1) < ws.length - j; omega⟩,?_⟩
          exact okT
      ·have hge2 : ws.length ≤ j := by have := of_decide_eq_false h2; simp only [List.length_map] at this; omega
       obtain rfl : j = ws.length:=by omega
       rw [List.drop_length,runC] at hr2
       have ep : parseC ws = ([],i,14):=by unfold parseC; rw [hr2]
       rw [ep]
       (conv=>whnf)
       refine split_intro (fun _=>?_) (fun h=>absurd h (by simp))
       ((conv=>whnf); exact Wk.tuple (Wks.cons Wk.nilm (Wks.cons (Wk.refl _) (Wks.cons (Wk.refl _) Wks.nil))))
  ·have hge : ws.length ≤ i := by have := of_decide_eq_false h; simp only [List.length_map] at this; omega
   obtain rfl : i = ws.length:=by omega
   rw [List.drop_length,runC] at hr
   have ep : parseC ws = (it,0,0):=by unfold parseC; rw [hr]
   rw [ep]
   (conv=>whnf)
   exact Wk.tuple (Wks.cons (itemsN_wk it .nat) (Wks.cons (Wk.refl _) (Wks.cons (Wk.refl _) Wks.nil)))
end Go.Proofs.YtimjnmbpbobfiaaGreatDoor.H

namespace Go.Proofs.YtimjnmbpbobfiaaGreatDoor.H
open Go Go.AL Go.AL.Hd Go.AL.Ln Go.AL.Ar Go.AL.Sc
set_option maxRecDepth 100000
set_option maxHeartbeats 8000000
theorem runM : runP PS0 (partsP 8 (magic.drop 8)) = (PS0, none) := by
 rw [show magic.drop 8 = [] from rfl,partsP_nil]; rfl
theorem arcM : arcP magic = (Arc0, 0, 0) := by
 rw [arc_run (by decide) rfl,runM]
end Go.Proofs.YtimjnmbpbobfiaaGreatDoor.H

namespace Go.Proofs.YtimjnmbpbobfiaaGreatDoor.H
open Go Go.AL Go.AL.Hd Go.AL.Ln Go.AL.Ar Go.AL.Sc Go.AL.Cn
set_option maxRecDepth 100000
set_option maxHeartbeats 8000000
abbrev Va (v : View) : D:=.agg [.list .any (v.members.map eMn),.list .nat (v.defs.map fun d=>[LSn d])]
theorem va_view (l : List Mem) : Va (viewP l) = .agg [.list .any (l.map eMn), .list .nat (l.map eDn)] := by
 simp [Va,viewP]
theorem ropen_ [Go.AL.MX] (b : Str) (hb : b.length ≤ 100000) : FCall Tryz.prog Gl 32 [LB b] [] (.tuple [Va (openP b).1, vI (openP b).2.1, vI (openP b).2.2]) [] := by
 have P:=rparse4_ b hb
 have hA:=okA_arc (b:=b) (by omega)
 obtain ⟨⟨a,n,e⟩,hq⟩ : ∃ q,q = arcP b:=⟨_,rfl⟩
 rw [← hq] at P hA
 obtain ⟨E1,E2⟩:=aE_of hq.symm
 replace hA : e = 0 → OkA a:=hA
 refine FCall.enterL hT hmix [] Tryz.func32 rfl rfl rfl fun hbd=>?_
 (conv=>whnf)
 refine CallLeaf.wa (P) rfl ?_
 (conv=>whnf)
 refine split_intro (fun h=>?_) (fun h=>?_)
 ·have h' : ¬ e = 0 := by simpa using h
  rw [E1 h']
  (conv=>whnf)
  exact Wk.tuple (Wks.cons (Wk.agg (Wks.cons Wk.nil (Wks.cons (Wk.natN rfl) Wks.nil))) (Wks.cons (Wk.refl _) (Wks.cons (Wk.refl _) Wks.nil)))
 ·have h' : e = 0 := by simpa using h
  subst h'
  have C:=rcheck_ a (hA rfl)
  have h2:=(hA rfl).d
  have hlb:=(hA rfl).l
  replace E2:=E2 rfl
  revert C E2
  generalize chkP a = r
  obtain ⟨hm,mp,l,os⟩:=a
  intro C E2
  replace h2 : ∀ m ∈ l,m.data.length ≤ 1000000000:=h2
  replace hlb : l.length ≤ 1000000000000:=hlb
  replace E2 : openP b = if r ≠ 0 then (View0,8,r) else (viewP l,0,0):=E2
  (conv=>whnf)
  refine CallLeaf.wa (C) rfl ?_
  (conv=>whnf)
  refine split_intro (fun h3=>?_) (fun h3=>?_)
  ·have h3' : ¬ r = 0 := by simpa using h3
   rw [E2,if_pos h3']
   (conv=>whnf)
   exact Wk.tuple (Wks.cons (Wk.agg (Wks.cons Wk.nil (Wks.cons (Wk.natN rfl) Wks.nil))) (Wks.cons (Wk.refl _) (Wks.cons (Wk.refl _) Wks.nil)))
  ·have h3' : r = 0 := by simpa using h3
   rw [E2,if_neg (fun h=>h h3'),va_view]
   (conv=>whnf)
   refine LWp.loop hT hmix [] (fun k : Nat=>[(10,vI k)]) (fun k=>[(3608,.cells [.list .any (l.map eMn),.list (.tok 403) ((l.take k).map eDn)]),(403,.tok ((l.take k).map eDn).length 1)]) (fun k=>k ≤ l.length) (fun k=>l.length - k) 0 (Nat.zero_le _) ?_
   (conv=>whnf)
   refine ⟨?_,fun k hk=>?_⟩
   ·exact okT
   ·replace hk : k ≤ l.length := hk
    (conv=>whnf)
    refine split_intro (fun h=>?_) (fun h=>?_)
    ·have hlt : k < l.length := by have := of_decide_eq_true h; simp only [List.length_map] at this; omega
     obtain ⟨m,hm'⟩:=exI hlt
     have hz : (l.take (k + 1)).length ≤ k + 1:=List.length_take_le _ _
     (conv=>whnf)
     refine ⟨_,⟨by omega,getMap hm'⟩,?_⟩
     (conv=>whnf)
     refine CallLeaf.wa (rdefs_ m.data (h2 m (List.mem_of_getElem? hm'))) rfl ?_
     (conv=>whnf)
     refine ⟨_,appL (f:=eDn) (xs:=l.take k) (ys:=[m]) (zs:=l.take (k + 1)) rfl rfl (fun _=>rfl) (by rw [List.take_add_one,hm']; rfl) (by show _ * 24 ≤ _; omega),?_⟩
     (conv=>whnf)
     refine ⟨_,add64 (c:=((k + 1 : Nat) : Int)) (by (try simp only []); omega) (by omega),?_⟩
     (conv=>whnf)
     refine ⟨k + 1,⟨hlt,by show l.length - (k + 1) < l.length - k; omega⟩,?_⟩
     exact okT
    ·have hge : l.length ≤ k := by have := of_decide_eq_false h; simp only [List.length_map] at this; omega
     (conv=>whnf)
     simp only [List.take_of_length_le hge]
     exact Wk.tuple (Wks.cons (Wk.agg (Wks.cons (Wk.refl _) (Wks.cons (Wk.refl _) Wks.nil))) (Wks.cons (Wk.refl _) (Wks.cons (Wk.refl _) Wks.nil)))
theorem lds_wk (l : List (List Str)) (t : Tg) : Wk (.list t (l.map fun d => [LSn d])) (LD l) :=
 Wk.listE1 (f:=fun d : List Str=>LSn d) (g:=fun d : List Str=>LS d) t l (fun a=>Wk.list _ _) (fun _=>rfl)
theorem rfew4_ [Go.AL.MX] (l : List Mem) : FCall Tryz.prog Gl 19 [LM l] [] (vB (fewL4 l)) [] := by
 refine FCall.enterL hT hmix [] Tryz.func19 rfl rfl rfl fun hbd=>?_
 (conv=>whnf)
 refine LWp.loop hT hmix [] (fun k : Nat=>[(4,vI k),(3,vI (sumD (l.take k) : Nat))]) (fun _=>[]) (fun k=>k ≤ l.length ∧ k ≤ 21 ∧ (l.take k).all fewE = true) (fun k=>l.length - k) 0 ⟨Nat.zero_le _,by omega,rfl⟩ ?_
 (conv=>whnf)
 refine ⟨?_,fun k ⟨hk,hk2,hal⟩=>?_⟩
 ·exact okT
 ·replace hk : k ≤ l.length := hk
  replace hk2 : k ≤ 21:=hk2
  have hsl:=sumD_le hal
  have hkl : (l.take k).length ≤ k:=List.length_take_le _ _
  (conv=>whnf)
  refine split_intro (fun h=>?_) (fun h=>?_)
  ·have hlt : k < l.length := by have := of_decide_eq_true h; simp only [List.length_map] at this; omega
   obtain ⟨m,hx⟩:=exI hlt
   (conv=>whnf)
   refine split_intro (fun h5=>?_) (fun h5=>?_)
   ·have h5' : k ≤ 20 := by have := of_decide_eq_true h5; omega
    (conv=>whnf)
    refine ⟨_,⟨by omega,getMap hx⟩,?_⟩
    (conv=>whnf)
    refine split_intro (fun h6=>?_) (fun h6=>?_)
    ·have h6' : 300 < m.name.length := by have := of_decide_eq_true h6; rw [sB_sz] at this; omega
     rw [fewL4_false hx (by simp; omega)]
     (conv=>whnf)
     exact Wk.refl _
    ·have h6' : ¬ 300 < m.name.length := by have := of_decide_eq_false h6; rw [sB_sz] at this; omega
     (conv=>whnf)
     refine ⟨_,⟨by omega,getMap hx⟩,?_⟩
     (conv=>whnf)
     refine split_intro (fun h7=>?_) (fun h7=>?_)
     ·have h7' : 1000 < m.data.length := by have := of_decide_eq_true h7; simp only [List.length_map] at this; omega
      rw [fewL4_false hx (by simp; omega)]
      (conv=>whnf)
      exact Wk.refl _
     ·have h7' : ¬ 1000 < m.data.length := by have := of_decide_eq_false h7; simp only [List.length_map] at this; omega
      have hsn:=sumD_snoc hx
      have hal2:=fewL4_snoc hx (by simp; omega) hal
      (conv=>whnf)
      refine ⟨_,⟨by omega,getMap hx⟩,?_⟩
      (conv=>whnf)
      refine ⟨_,add64 (c:=((sumD (l.take (k + 1)) : Nat) : Int)) (by rw [hsn]; simp) (by omega),?_⟩
      (conv=>whnf)
      refine ⟨_,add64 (c:=((k + 1 : Nat) : Int)) (by (try simp only []); omega) (by omega),?_⟩
      (conv=>whnf)
      refine ⟨k + 1,⟨⟨hlt,by show k + 1 ≤ 21; omega,hal2⟩,by show l.length - (k + 1) < l.length - k; omega⟩,?_⟩
      exact okT
   ·have h5' : ¬ k ≤ 20 := by have := of_decide_eq_false h5; omega
    have e : fewL4 l = false:=by unfold fewL4; rw [decide_eq_false (by omega)]; rfl
    rw [e]
    (conv=>whnf)
    refine split_intro (fun h=>absurd h (by simp; omega)) (fun _=>?_)
    (conv=>whnf)
    exact Wk.refl _
  ·have hge : l.length ≤ k := by have := of_decide_eq_false h; simp only [List.length_map] at this; omega
   rw [List.take_of_length_le hge] at hal hsl
   (conv=>whnf)
   simp only [List.take_of_length_le hge]
   refine split_intro (fun h8=>?_) (fun h8=>?_)
   ·have h8' : l.length ≤ 20 := by have := of_decide_eq_true h8; simp only [List.length_map] at this; omega
    (conv=>whnf)
    exact Wk.bool (by unfold fewL4; rw [hal,decide_eq_true h8']; simp; omega)
   ·have h8' : ¬ l.length ≤ 20 := by have := of_decide_eq_false h8; simp only [List.length_map] at this; omega
    (conv=>whnf)
    exact Wk.bool (by unfold fewL4; rw [decide_eq_false h8']; rfl)
end Go.Proofs.YtimjnmbpbobfiaaGreatDoor.H

namespace Go.Proofs.YtimjnmbpbobfiaaGreatDoor.H
open Go Go.AL Go.AL.In
set_option maxRecDepth 100000
set_option maxHeartbeats 8000000
theorem iopen1_ [Go.AL.MX] (f : Fe) (n : Str) : FCall Tryz.prog Gl 26 [.agg f.enc, .ptr 0 0] [.cells [sD n]] (vB (decide (f.name = n))) [.cells [sD n]] := by
 refine FCall.enterO hT hmix [] Tryz.func26 rfl rfl rfl fun hbd=>?_
 (conv=>whnf)
 refine ⟨[0],rfl,finT,?_⟩
 exact Wk.bool (by simp)
theorem iindex_ [Go.AL.MX] (fs : List Fe) (n : Str) (hl : fs.length ≤ 1000000000) : FCall Tryz.prog Gl 25 [LFe fs, .func (.func 26) [] [.ptr 0 0]] [.cells [sD n]] (vI (ixF fs n)) [.cells [sD n]] := by
 refine FCall.enterO hT hmix [] Tryz.func25 rfl rfl rfl fun hbd=>?_
 (conv=>whnf)
 refine LWp.loop hT hmix [] (fun k : Nat=>[(8,vI k)]) (fun _=>[]) (fun k=>k ≤ fs.length ∧ ∀ g ∈ fs.take k,g.name ≠ n) (fun k=>fs.length - k) 0 ⟨Nat.zero_le _,fun g h=>absurd h (by simp)⟩ ?_
 (conv=>whnf)
 refine ⟨?_,fun k ⟨hk,hb⟩=>?_⟩
 ·exact okT
 ·(conv => whnf)
  refine split_intro (fun h=>?_) (fun h=>?_)
  ·have hlt : k < fs.length := by have := of_decide_eq_true h; simp only [List.length_map] at this; omega
   obtain ⟨f,hf⟩:=exI hlt
   (conv=>whnf)
   refine ⟨_,⟨by omega,getMap hf⟩,?_⟩
   (conv=>whnf)
   refine CallLeaf.oa [0] (iopen1_ f n) rfl rfl rfl rfl ?_
   (conv=>whnf)
   refine split_intro (fun h2=>?_) (fun h2=>?_)
   ·have h2' : f.name = n := of_decide_eq_true h2
    rw [ixF_at hf h2' hb]
    (conv=>whnf)
    refine ⟨[0],rfl,finT,?_⟩
    exact Wk.refl _
   ·have h2' : ¬ f.name = n := of_decide_eq_false h2
    (conv=>whnf)
    refine ⟨_,add64 (c:=((k + 1 : Nat) : Int)) (by (try simp only []); omega) (by omega),?_⟩
    (conv=>whnf)
    refine ⟨k + 1,⟨⟨by omega,fun g hg=>?_⟩,by show fs.length - (k + 1) < fs.length - k; omega⟩,?_⟩
    ·rw [List.take_add_one, hf] at hg
     rcases List.mem_append.1 hg with hg|hg
     ·exact hb g hg
     ·simp at hg; subst hg; exact h2'
    ·exact okT
  ·have hge : fs.length ≤ k := by have := of_decide_eq_false h; simp only [List.length_map] at this; omega
   rw [List.take_of_length_le hge] at hb
   rw [ixF_none hb]
   (conv=>whnf)
   refine ⟨[0],rfl,finT,?_⟩
   exact Wk.refl _
theorem rfile_ [Go.AL.MX] (fs : List Fe) (n : Str) (hl : fs.length ≤ 1000000000) : FCall Tryz.prog Gl 30 [LFe fs, sD n] [] (vI (ixF fs n)) [] := by
 refine FCall.enterL hT hmix [] Tryz.func30 rfl rfl rfl fun hbd=>?_
 (conv=>whnf)
 refine LWp.loop hT hmix [] (fun k : Nat=>[(5,vI k)]) (fun _=>[]) (fun k=>k ≤ fs.length ∧ ∀ g ∈ fs.take k,g.name ≠ n) (fun k=>fs.length - k) 0 ⟨Nat.zero_le _,fun g h=>absurd h (by simp)⟩ ?_
 (conv=>whnf)
 refine ⟨?_,fun k ⟨hk,hb⟩=>?_⟩
 ·exact okT
 ·(conv => whnf)
  refine split_intro (fun h=>?_) (fun h=>?_)
  ·have hlt : k < fs.length := by have := of_decide_eq_true h; simp only [List.length_map] at this; omega
   obtain ⟨f,hf⟩:=exI hlt
   (conv=>whnf)
   refine ⟨_,⟨by omega,getMap hf⟩,?_⟩
   (conv=>whnf)
   refine split_intro (fun h2=>?_) (fun h2=>?_)
   ·have h2' : f.name = n := by simpa using h2
    rw [ixF_at hf h2' hb]
    (conv=>whnf)
    exact Wk.refl _
   ·have h2' : ¬ f.name = n := by simpa using h2
    (conv=>whnf)
    refine ⟨_,add64 (c:=((k + 1 : Nat) : Int)) (by (try simp only []); omega) (by omega),?_⟩
    (conv=>whnf)
    refine ⟨k + 1,⟨⟨by omega,fun g hg=>?_⟩,by show fs.length - (k + 1) < fs.length - k; omega⟩,?_⟩
    ·rw [List.take_add_one, hf] at hg
     rcases List.mem_append.1 hg with hg|hg
     ·exact hb g hg
     ·simp at hg; subst hg; exact h2'
    ·exact okT
  ·have hge : fs.length ≤ k := by have := of_decide_eq_false h; simp only [List.length_map] at this; omega
   rw [List.take_of_length_le hge] at hb
   rw [ixF_none hb]
   (conv=>whnf)
   exact Wk.refl _
end Go.Proofs.YtimjnmbpbobfiaaGreatDoor.H
