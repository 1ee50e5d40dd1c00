/- The reference of objects: decoding. No condition. -/
import Derived.Test.YtimjnmbpbobfiaaGreatDoorIAc
import Derived.Test.YtimjnmbpbobfiaaGreatDoorIWd
import Derived.Test.YtimjnmbpbobfiaaGreatDoorIPa
import Derived.Test.YtimjnmbpbobfiaaGreatDoorIWa
set_option linter.unusedVariables false
set_option linter.unusedSimpArgs false
namespace Go.Proofs.YtimjnmbpbobfiaaGreatDoor.O
open Go Go.AL Go.AL.Ap Go.AL.Ob
set_option maxRecDepth 100000
set_option maxHeartbeats 4000000
theorem nextS_short {r : List UInt8} {p : Nat} (h : r.length < p + 10) : nextS (r.drop p) = none := by
 unfold nextS
 rw [if_pos (by simp; omega)]
theorem nextS_at {r : List UInt8} {p : Nat} {u v : UInt8} (hu : r[p + 9]? = some u) (hv : r[p]? = some v) : nextS (r.drop p) = if r.length < p + 10 + u.toNat then none else
  some (⟨(r.drop (p + 10)).take u.toNat,(v.toNat : Int),(num ((r.drop (p + 1)).take 4) : Int),(num ((r.drop (p + 5)).take 4) : Int)⟩,r.drop (p + 10 + u.toNat)):=by
 have hl : p + 9 < r.length:=(List.getElem?_eq_some_iff.1 hu).1
 have e9 : (r.drop p).getD 9 0 = u:=by simp [List.getD,List.getElem?_drop,hu]
 have e0 : (r.drop p).getD 0 0 = v:=by simp [List.getD,List.getElem?_drop,hv]
 unfold nextS
 rw [e9,e0,num_take (by simp; omega),num_take (by simp; omega)]
 simp only [List.drop_drop,List.length_drop]
 by_cases c : r.length < p + 10 + u.toNat
 ·rw [if_pos c,if_pos (by omega)]
 ·rw [if_neg c,if_neg (by omega),show p + (10 + u.toNat) = p + 10 + u.toNat by omega]
theorem ordecode_ [Go.AL.MX] (r : List UInt8) (hr : r.length ≤ 1000000000) : FCall Tryz.prog Gl 20 [LB r] [] (.tuple [oDn (encRO (decO r)).1, vI (encRO (decO r)).2]) [] := by
 generalize hR : decO r = R
 unfold decO at hR
 refine FCall.enterL hT hmix [] Tryz.func20 rfl rfl rfl fun hbd=>?_
 (conv=>whnf)
 refine split_intro (fun h4=>?_) (fun h4=>?_)
 ·have h4' : r.length < 4 := by have := of_decide_eq_true h4; simp at this; omega
  rw [if_pos h4'] at hR; subst hR
  (conv=>whnf)
  (exact Wk.tuple (Wks.cons (Wk.agg (Wks.cons (Wk.natN rfl) (Wks.cons (Wk.natN rfl) Wks.nil))) (Wks.cons (Wk.refl _) Wks.nil)))
 have h4' : ¬ r.length < 4:=by have:=of_decide_eq_false h4; simp at this; omega
 rw [if_neg h4'] at hR
 (conv=>whnf)
 refine ⟨_,slTake (f:=byteD) (l:=r) (b:=4) (r:=r.take 4) rfl (by omega) (fun _=>rfl) rfl,?_⟩
 (conv=>whnf)
 refine ⟨r.take 4,rfl,?_⟩
 (conv=>whnf)
 refine split_intro (fun hm=>?_) (fun hm=>?_)
 ·have hm' : r.take 4 ≠ magic := by simpa [magic] using hm
  rw [if_pos hm'] at hR; subst hR
  (conv=>whnf)
  (exact Wk.tuple (Wks.cons (Wk.agg (Wks.cons (Wk.natN rfl) (Wks.cons (Wk.natN rfl) Wks.nil))) (Wks.cons (Wk.refl _) Wks.nil)))
 have hm' : r.take 4 = magic:=by simpa [magic] using hm
 rw [if_neg (by simp [hm'])] at hR
 (conv=>whnf)
 refine split_intro (fun h8=>?_) (fun h8=>?_)
 ·have h8' : r.length < 8 := by have := of_decide_eq_true h8; simp at this; omega
  rw [if_pos h8'] at hR; subst hR
  (conv=>whnf)
  (exact Wk.tuple (Wks.cons (Wk.agg (Wks.cons (Wk.natN rfl) (Wks.cons (Wk.natN rfl) Wks.nil))) (Wks.cons (Wk.refl _) Wks.nil)))
 have h8' : ¬ r.length < 8:=by have:=of_decide_eq_false h8; simp at this; omega
 rw [if_neg h8'] at hR
 (conv=>whnf)
 refine ⟨_,slN (f:=byteD) (l:=r) (a:=4) (b:=8) (r:=(r.drop 4).take 4) rfl rfl (by omega) (by omega) (fun _=>rfl) (by rw [List.drop_take]),?_⟩
 (conv=>whnf)
 have N1:=number_ ((r.drop 4).take 4) (by simp; omega)
 rw [num_take (by simp; omega)] at N1
 have hn32:=num_lt (r.drop 4)
 generalize hnn : num (r.drop 4) = n at *
 refine CallLeaf.wa (N1) rfl ?_
 (conv=>whnf)
 refine split_intro (fun hn=>?_) (fun hn=>?_)
 ·have hn' : 65536 < n := by have := of_decide_eq_true hn; omega
  rw [if_pos hn'] at hR; subst hR
  (conv=>whnf)
  (exact Wk.tuple (Wks.cons (Wk.agg (Wks.cons (Wk.natN rfl) (Wks.cons (Wk.natN rfl) Wks.nil))) (Wks.cons (Wk.refl _) Wks.nil)))
 have hn' : ¬ 65536 < n:=by have:=of_decide_eq_false hn; omega
 rw [if_neg hn'] at hR
 (conv=>whnf)
 refine LWp.loop hT hmix [] (fun x : Nat × Nat × List Ob.Sym=>[(7,vI x.1),(6,vI x.2.1)]) (fun x=>[(5120,.cells [.list (.tok 403) (SE x.2.2),.nil]),(403,.tok (SE x.2.2).length 4)]) (fun y=>y.1 ≤ n ∧ y.2.1 ≤ r.length ∧ y.2.2.length = y.1 ∧ Ob.decL (n - y.1) (r.drop y.2.1) y.2.2 = R) (fun x=>n - x.1) (0,8,[]) ⟨Nat.zero_le _,by show 8 ≤ r.length; omega,rfl,hR⟩ ?_
 (conv=>whnf)
 refine ⟨?_,fun ⟨k,p,acc⟩ ⟨hk,hp,ha,hd⟩=>?_⟩
 ·exact okT
 ·replace hk : k ≤ n := hk
  replace hp : p ≤ r.length:=hp
  replace ha : acc.length = k:=ha
  replace hd : Ob.decL (n - k) (r.drop p) acc = R:=hd
  (conv=>whnf)
  refine split_intro (fun hl=>?_) (fun hl=>?_)
  ·have hlt : k < n := by have := of_decide_eq_true hl; omega
   obtain ⟨m,hmm⟩ : ∃ m,n - k = m + 1:=⟨n - k - 1,by omega⟩
   rw [hmm,Ob.decL] at hd
   (conv=>whnf)
   refine ⟨_,add64 (c:=((p + 10 : Nat) : Int)) (by (try simp only []); omega) (by omega),?_⟩
   (conv=>whnf)
   refine split_intro (fun h1=>?_) (fun h1=>?_)
   ·have h1' : r.length < p + 10 := by have := of_decide_eq_true h1; simp at this; omega
    rw [nextS_short h1'] at hd
    subst hd
    (conv=>whnf)
    (exact Wk.tuple (Wks.cons (Wk.agg (Wks.cons (Wk.natN rfl) (Wks.cons (Wk.natN rfl) Wks.nil))) (Wks.cons (Wk.refl _) Wks.nil)))
   ·have h1' : ¬ r.length < p + 10 := by have := of_decide_eq_false h1; simp at this; omega
    obtain ⟨u,hu⟩:=exI (l:=r) (k:=p + 9) (by omega)
    obtain ⟨v,hv⟩:=exI (l:=r) (k:=p) (by omega)
    have hu8:=u.toNat_lt
    have hv8:=v.toNat_lt
    (conv=>whnf)
    refine ⟨_,add64 (c:=((p + 10 : Nat) : Int)) (by (try simp only []); omega) (by omega),?_⟩
    (conv=>whnf)
    refine ⟨_,add64 (c:=((p + 9 : Nat) : Int)) (by (try simp only []); omega) (by omega),?_⟩
    (conv=>whnf)
    refine ⟨_,⟨by omega,getMap hu⟩,?_⟩
    (conv=>whnf)
    refine ⟨_,wrap64 (by omega),?_⟩
    (conv=>whnf)
    refine ⟨_,add64 (c:=((p + 10 + u.toNat : Nat) : Int)) (by (try simp only []); omega) (by omega),?_⟩
    (conv=>whnf)
    refine split_intro (fun h2=>?_) (fun h2=>?_)
    ·have h2' : r.length < p + 10 + u.toNat := by have := of_decide_eq_true h2; simp at this; omega
     rw [nextS_at hu hv,if_pos h2'] at hd
     subst hd
     (conv=>whnf)
     (exact Wk.tuple (Wks.cons (Wk.agg (Wks.cons (Wk.natN rfl) (Wks.cons (Wk.natN rfl) Wks.nil))) (Wks.cons (Wk.refl _) Wks.nil)))
    ·have h2' : ¬ r.length < p + 10 + u.toNat := by have := of_decide_eq_false h2; simp at this; omega
     obtain ⟨s,hS⟩ : ∃ s,(⟨(r.drop (p + 10)).take u.toNat,(v.toNat : Int),(num ((r.drop (p + 1)).take 4) : Int),(num ((r.drop (p + 5)).take 4) : Int)⟩ : Ob.Sym) = s:=⟨_,rfl⟩
     rw [nextS_at hu hv,if_neg h2',hS] at hd
     simp only at hd
     (conv=>whnf)
     refine ⟨_,add64 (c:=((p + 10 : Nat) : Int)) (by (try simp only []); omega) (by omega),?_⟩
     (conv=>whnf)
     refine ⟨_,add64 (c:=((p + 9 : Nat) : Int)) (by (try simp only []); omega) (by omega),?_⟩
     (conv=>whnf)
     refine ⟨_,⟨by omega,getMap hu⟩,?_⟩
     (conv=>whnf)
     refine ⟨_,wrap64 (by omega),?_⟩
     (conv=>whnf)
     refine ⟨_,add64 (c:=((p + 10 + u.toNat : Nat) : Int)) (by (try simp only []); omega) (by omega),?_⟩
     (conv=>whnf)
     refine ⟨_,add64 (c:=((p + 10 : Nat) : Int)) (by (try simp only []); omega) (by omega),?_⟩
     (conv=>whnf)
     refine ⟨_,slN (f:=byteD) (l:=r) (a:=p + 10) (b:=p + 10 + u.toNat) (r:=(r.drop (p + 10)).take u.toNat) rfl rfl (by omega) (by omega) (fun _=>rfl) (by rw [List.drop_take]; congr 1; omega),?_⟩
     (conv=>whnf)
     refine ⟨(r.drop (p + 10)).take u.toNat,rfl,?_⟩
     (conv=>whnf)
     refine ⟨_,⟨by omega,getMap hv⟩,?_⟩
     (conv=>whnf)
     refine ⟨_,wrap64 (by omega),?_⟩
     (conv=>whnf)
     refine ⟨_,add64 (c:=((p + 1 : Nat) : Int)) (by (try simp only []); omega) (by omega),?_⟩
     (conv=>whnf)
     refine ⟨_,add64 (c:=((p + 5 : Nat) : Int)) (by (try simp only []); omega) (by omega),?_⟩
     (conv=>whnf)
     refine ⟨_,slN (f:=byteD) (l:=r) (a:=p + 1) (b:=p + 5) (r:=(r.drop (p + 1)).take 4) rfl rfl (by omega) (by omega) (fun _=>rfl) (by rw [List.drop_take]; congr 1; omega),?_⟩
     (conv=>whnf)
     refine CallLeaf.wa (number_ ((r.drop (p + 1)).take 4) (by simp; omega)) rfl ?_
     (conv=>whnf)
     refine ⟨_,add64 (c:=((p + 5 : Nat) : Int)) (by (try simp only []); omega) (by omega),?_⟩
     (conv=>whnf)
     refine ⟨_,add64 (c:=((p + 9 : Nat) : Int)) (by (try simp only []); omega) (by omega),?_⟩
     (conv=>whnf)
     refine ⟨_,slN (f:=byteD) (l:=r) (a:=p + 5) (b:=p + 9) (r:=(r.drop (p + 5)).take 4) rfl rfl (by omega) (by omega) (fun _=>rfl) (by rw [List.drop_take]; congr 1; omega),?_⟩
     (conv=>whnf)
     refine CallLeaf.wa (number_ ((r.drop (p + 5)).take 4) (by simp; omega)) rfl ?_
     (conv=>whnf)
     have hC:=rsym_ s (by rw [← hS]; simp only [List.length_take,List.length_drop]; omega)
     have eN : s.name = (r.drop (p + 10)).take u.toNat:=by rw [← hS]
     have hH:=rhas_ acc s.name (by omega)
     rw [← hS] at hC
     rw [eN] at hH
     refine CallLeaf.wa (hC) rfl ?_
     (conv=>whnf)
     refine split_intro (fun hv1=>?_) (fun hv1=>?_)
     ·have hv' : valid s = false := by rw [hS] at hv1; simpa using hv1
      rw [hv'] at hd
      simp only [Bool.false_and,Bool.false_eq_true,if_false] at hd
      subst hd
      (conv=>whnf)
      (exact Wk.tuple (Wks.cons (Wk.agg (Wks.cons (Wk.natN rfl) (Wks.cons (Wk.natN rfl) Wks.nil))) (Wks.cons (Wk.refl _) Wks.nil)))
     ·have hv' : valid s = true := by rw [hS] at hv1; simpa using hv1
      (conv=>whnf)
      refine CallLeaf.wa (hH) rfl ?_
      (conv=>whnf)
      rw [← eN]
      refine split_intro (fun hh=>?_) (fun hh=>?_)
      ·rw [hv', hh] at hd
       simp only [Bool.not_true,Bool.and_false,Bool.false_eq_true,if_false] at hd
       subst hd
       (conv=>whnf)
       (exact Wk.tuple (Wks.cons (Wk.agg (Wks.cons (Wk.natN rfl) (Wks.cons (Wk.natN rfl) Wks.nil))) (Wks.cons (Wk.refl _) Wks.nil)))
      ·rw [hv', hh] at hd
       simp only [Bool.not_false,Bool.and_self,if_true] at hd
       (conv=>whnf)
       subst hS
       refine ⟨_,appL (f:=Ob.Sym.enc) (xs:=acc) (ys:=[(⟨(r.drop (p + 10)).take u.toNat,(v.toNat : Int),(num ((r.drop (p + 1)).take 4) : Int),(num ((r.drop (p + 5)).take 4) : Int)⟩ : Ob.Sym)]) (zs:=acc ++ [(⟨(r.drop (p + 10)).take u.toNat,(v.toNat : Int),(num ((r.drop (p + 1)).take 4) : Int),(num ((r.drop (p + 5)).take 4) : Int)⟩ : Ob.Sym)]) rfl rfl (fun _=>rfl) rfl (by rw [List.length_append]; show (_ + 1) * 40 ≤ _; omega),?_⟩
       (conv=>whnf)
       refine ⟨_,add64 (c:=((k + 1 : Nat) : Int)) (by omega) (by omega),?_⟩
       (conv=>whnf)
       refine ⟨(k + 1,p + 10 + u.toNat,acc ++ [(⟨(r.drop (p + 10)).take u.toNat,(v.toNat : Int),(num ((r.drop (p + 1)).take 4) : Int),(num ((r.drop (p + 5)).take 4) : Int)⟩ : Ob.Sym)]),⟨⟨by show k + 1 ≤ n; omega,by show p + 10 + u.toNat ≤ r.length; omega,by simp [ha],?_⟩,by show n - (k + 1) < n - k; omega⟩,?_⟩
       ·show Ob.decL (n - (k + 1)) (r.drop (p + 10 + u.toNat)) (acc ++ [(⟨(r.drop (p + 10)).take u.toNat, (v.toNat : Int), (num ((r.drop (p + 1)).take 4) : Int), (num ((r.drop (p + 5)).take 4) : Int)⟩ : Ob.Sym)]) = R
        rw [show n - (k + 1) = m by omega]; exact hd
       ·exact okT
  ·have hge : n - k = 0 := by have := of_decide_eq_false hl; omega
   rw [hge,Ob.decL] at hd
   subst hd
   (conv=>whnf)
   refine ⟨_,slDrop (f:=byteD) (l:=r) (a:=p) (r:=r.drop p) rfl hp (fun _=>rfl) rfl,?_⟩
   (conv=>whnf)
   refine ⟨_,appL (f:=byteD) (xs:=[]) (ys:=r.drop p) (zs:=r.drop p) rfl rfl (fun _=>rfl) rfl (by rw [List.length_drop]; show _ * 1 ≤ _; omega),?_⟩
   (conv=>whnf)
   exact Wk.tuple (Wks.cons (Wk.agg (Wks.cons (Wk.nat' rfl) (Wks.cons (Wk.nat' rfl) Wks.nil))) (Wks.cons (Wk.refl _) Wks.nil))
end Go.Proofs.YtimjnmbpbobfiaaGreatDoor.O

namespace Go.Proofs.YtimjnmbpbobfiaaGreatDoor.H
open Go Go.AL Go.AL.Hd Go.AL.Ln Go.AL.Ar Go.AL.Sc Go.AL.Cn
set_option maxRecDepth 100000
set_option maxHeartbeats 8000000
abbrev dnm (l : List Ob.Sym) : List Str:=(l.filter isDef).map (·.name)
theorem dnm_snoc {l : List Ob.Sym} {k : Nat} {s : Ob.Sym} (h : l[k]? = some s) : dnm (l.take (k + 1)) = dnm (l.take k) ++ dnm [s] := by
 unfold dnm
 rw [List.take_add_one,h]
 simp
theorem dnm_one (s : Ob.Sym) : dnm [s] = if isDef s = true then [s.name] else [] := by
 unfold dnm
 cases h : isDef s <;> simp [h]
theorem dnm_len (l : List Ob.Sym) : (dnm l).length ≤ l.length := by
 unfold dnm; rw [List.length_map]; exact List.length_filter_le _ _
theorem dec_eq (b : Str) : O.encRO (Ob.decO b) = dec b := by
 unfold O.encRO dec
 cases Ob.decO b <;> rfl
theorem defs_eq (b : Str) : dnm (dec b).1.syms = defsOf b:=rfl
theorem syms_le (b : Str) : (dec b).1.syms.length ≤ b.length := by
 unfold dec
 cases hd : Ob.decO b with
 | error e=>simp
 | ok x =>
  obtain ⟨l,y⟩:=x
  have he:=congrArg List.length (Ob.enc_dec hd).2
  unfold Ob.encO at he
  simp only [List.length_append] at he
  have : l.length ≤ (Ob.encL l).length := by
   clear hd he
   induction l with
   | nil=>exact Nat.zero_le _
   | cons s l ih =>
    have e : (Ob.encL (s :: l)).length = 10 + s.name.length + (Ob.encL l).length := by
     show (Ob.encS s ++ Ob.encL l).length = _
     rw [List.length_append]
     simp [Ob.encS,Ap.W4]
     omega
    simp only [List.length_cons,e]
    omega
  show l.length ≤ b.length
  omega
theorem sdef1_ [Go.AL.MX] (i : Int) (s : Ob.Sym) : FCall Tryz.prog Gl 82 [vI i, .agg s.enc] [] (LSn (dnm [s])) [] := by
 rw [dnm_one]
 obtain ⟨n,b,z,a⟩:=s
 refine FCall.enterL hT hmix [] Tryz.func82 rfl rfl rfl fun hbd=>?_
 (conv=>whnf)
 refine split_intro (fun h1=>?_) (fun h1=>?_)
 ·have h1' : b = 1 := by simpa using h1
  rw [if_pos (by simp [isDef,h1'])]
  (conv=>whnf)
  exact Wk.refl _
 ·have h1' : ¬ b = 1 := by simpa using h1
  (conv=>whnf)
  refine split_intro (fun h2=>?_) (fun h2=>?_)
  ·have h2' : b = 2 := by simpa using h2
   rw [if_pos (by simp [isDef,h2'])]
   (conv=>whnf)
   exact Wk.refl _
  ·have h2' : ¬ b = 2 := by simpa using h2
   rw [if_neg (by simp [isDef,h1',h2'])]
   (conv=>whnf)
   exact Wk.natN rfl
theorem scollect_ [Go.AL.MX] (l : List Ob.Sym) (hl : l.length ≤ 1000000000) : FCall Tryz.prog Gl 81 [.list .any (l.map Ob.Sym.enc), .func (.func 82) [] []] [] (LSn (dnm l)) [] := by
 refine FCall.enterL hT hmix [] Tryz.func81 rfl rfl rfl fun hbd=>?_
 (conv=>whnf)
 refine LWp.loop hT hmix [] (fun k : Nat=>[(10,vI k),(5,.list (.tok 403) ((dnm (l.take k)).map eS))]) (fun k=>[(403,.tok ((dnm (l.take k)).map eS).length 1)]) (fun k=>k ≤ l.length) (fun k=>l.length - k) 0 (Nat.zero_le _) ?_
 (conv=>whnf)
 refine ⟨?_,fun k hk=>?_⟩
 ·exact okT
 ·replace hk : k ≤ l.length := hk
  (conv=>whnf)
  refine split_intro (fun h=>?_) (fun h=>?_)
  ·have hlt : k < l.length := by have := of_decide_eq_true h; simp only [List.length_map] at this; omega
   obtain ⟨s,hs⟩:=exI hlt
   have hz:=dnm_len (l.take (k + 1))
   have hz2 : (l.take (k + 1)).length ≤ k + 1:=List.length_take_le _ _
   (conv=>whnf)
   refine ⟨_,⟨by omega,getMap hs⟩,?_⟩
   (conv=>whnf)
   refine CallLeaf.wa (sdef1_ k s) rfl ?_
   (conv=>whnf)
   refine ⟨_,appL (f:=eS) (xs:=dnm (l.take k)) (ys:=dnm [s]) (zs:=dnm (l.take (k + 1))) rfl rfl (fun _=>rfl) (dnm_snoc hs).symm (by show _ * 16 ≤ _; omega),?_⟩
   (conv=>whnf)
   refine ⟨_,add64 (c:=((k + 1 : Nat) : Int)) (by (try simp only []); omega) (by omega),?_⟩
   (conv=>whnf)
   refine ⟨k + 1,⟨hlt,by show l.length - (k + 1) < l.length - k; omega⟩,?_⟩
   exact okT
  ·have hge : l.length ≤ k := by have := of_decide_eq_false h; simp only [List.length_map] at this; omega
   (conv=>whnf)
   rw [List.take_of_length_le hge]
   exact Wk.refl _
theorem sdefs_ [Go.AL.MX] (b : Str) (hb : b.length ≤ 1000000000) : FCall Tryz.prog Gl 60 [LB b] [] (LSn (defsOf b)) [] := by
 have D:=O.odecode_ b hb
 rw [dec_eq] at D
 have C:=scollect_ (dec b).1.syms (by have:=syms_le b; omega)
 rw [defs_eq] at C
 refine FCall.enterL hT hmix [] Tryz.func60 rfl rfl rfl fun hbd=>?_
 (conv=>whnf)
 refine CallLeaf.wa (D) rfl ?_
 (conv=>whnf)
 refine CallLeaf.wa (C) rfl ?_
 (conv=>whnf)
 exact Wk.refl _
theorem rdefs_ [Go.AL.MX] (b : Str) (hb : b.length ≤ 1000000000) : FCall Tryz.prog Gl 52 [LB b] [] (LSn (defsOf b)) [] := by
 have D:=O.ordecode_ b hb
 rw [dec_eq] at D
 have hl:=syms_le b
 rw [← defs_eq]
 revert D hl
 generalize dec b = p
 obtain ⟨⟨l,x⟩,e⟩:=p
 intro D hl
 replace hl : l.length ≤ b.length:=hl
 refine FCall.enterL hT hmix [] Tryz.func52 rfl rfl rfl fun hbd=>?_
 (conv=>whnf)
 refine CallLeaf.wa (D) rfl ?_
 (conv=>whnf)
 refine LWp.loop hT hmix [] (fun k : Nat=>[(6,vI k),(3,.list (.tok 403) ((dnm (l.take k)).map eS))]) (fun k=>[(403,.tok ((dnm (l.take k)).map eS).length 1)]) (fun k=>k ≤ l.length) (fun k=>l.length - k) 0 (Nat.zero_le _) ?_
 (conv=>whnf)
 refine ⟨?_,fun k hk=>?_⟩
 ·exact okT
 ·replace hk : k ≤ l.length := hk
  (conv=>whnf)
  refine split_intro (fun h=>?_) (fun h=>?_)
  ·have hlt : k < l.length := by have := of_decide_eq_true h; simp only [List.length_map] at this; omega
   obtain ⟨s,hs⟩:=exI hlt
   have hz:=dnm_len (l.take (k + 1))
   have hz2 : (l.take (k + 1)).length ≤ k + 1:=List.length_take_le _ _
   have hsn:=dnm_snoc hs
   rw [dnm_one] at hsn
   obtain ⟨n,bd,z,a⟩:=s
   (conv=>whnf)
   refine ⟨_,⟨by omega,getMap hs⟩,?_⟩
   (conv=>whnf)
   refine split_intro (fun h1=>?_) (fun h1=>?_)
   ·have h1' : bd = 1 := by simpa using h1
    rw [if_pos (by simp [isDef,h1'])] at hsn
    (conv=>whnf)
    refine ⟨_,⟨by omega,getMap hs⟩,?_⟩
    (conv=>whnf)
    refine ⟨_,appL (f:=eS) (xs:=dnm (l.take k)) (ys:=[n]) (zs:=dnm (l.take (k + 1))) rfl rfl (fun _=>rfl) hsn.symm (by show _ * 16 ≤ _; omega),?_⟩
    (conv=>whnf)
    refine ⟨_,add64 (c:=((k + 1 : Nat) : Int)) (by (try simp only []); omega) (by omega),?_⟩
    (conv=>whnf)
    refine ⟨k + 1,⟨hlt,by show l.length - (k + 1) < l.length - k; omega⟩,?_⟩
    exact okT
   ·have h1' : ¬ bd = 1 := by simpa using h1
    (conv=>whnf)
    refine ⟨_,⟨by omega,getMap hs⟩,?_⟩
    (conv=>whnf)
    refine split_intro (fun h2=>?_) (fun h2=>?_)
    ·have h2' : bd = 2 := by simpa using h2
     rw [if_pos (by simp [isDef,h2'])] at hsn
     (conv=>whnf)
     refine ⟨_,⟨by omega,getMap hs⟩,?_⟩
     (conv=>whnf)
     refine ⟨_,appL (f:=eS) (xs:=dnm (l.take k)) (ys:=[n]) (zs:=dnm (l.take (k + 1))) rfl rfl (fun _=>rfl) hsn.symm (by show _ * 16 ≤ _; omega),?_⟩
     (conv=>whnf)
     refine ⟨_,add64 (c:=((k + 1 : Nat) : Int)) (by (try simp only []); omega) (by omega),?_⟩
     (conv=>whnf)
     refine ⟨k + 1,⟨hlt,by show l.length - (k + 1) < l.length - k; omega⟩,?_⟩
     exact okT
    ·have h2' : ¬ bd = 2 := by simpa using h2
     rw [if_neg (by simp [isDef,h1',h2']),List.append_nil] at hsn
     (conv=>whnf)
     refine ⟨_,add64 (c:=((k + 1 : Nat) : Int)) (by (try simp only []); omega) (by omega),?_⟩
     (conv=>whnf)
     refine ⟨k + 1,⟨hlt,by show l.length - (k + 1) < l.length - k; omega⟩,?_⟩
     show okTo _ _ _ _ _ _
     simp only [hsn]
     exact okT
  ·have hge : l.length ≤ k := by have := of_decide_eq_false h; simp only [List.length_map] at this; omega
   (conv=>whnf)
   rw [List.take_of_length_le hge]
   exact Wk.refl _
theorem eeq_ [Go.AL.MX] (a b : List Cn.Ent) : FCall Tryz.prog Gl 79 [O.LE a, O.LE b] [] (vB (decide (a = b))) [] := by
 refine FCall.enterL hT hmix [] Tryz.func79 rfl rfl rfl fun hbd=>?_
 have ha:=bds_list hbd (.head _)
 (conv=>whnf)
 refine split_intro (fun h=>?_) (fun h=>?_)
 ·have hne : a.length ≠ b.length := by have := O.len_ne h; simpa using this
  (conv=>whnf)
  exact Wk.bool (by symm; simp; intro e; subst e; exact hne rfl)
 ·have hl : a.length = b.length := by have := O.len_eq h; simpa using this
  (conv=>whnf)
  refine LWp.loop hT hmix [] (fun k : Nat=>[(13,vI k)]) (fun _=>[]) (fun k=>k ≤ a.length ∧ a.take k = b.take k) (fun k=>a.length - k) 0 ⟨Nat.zero_le _,rfl⟩ ?_
  (conv=>whnf)
  refine ⟨?_,fun k ⟨hk,hkk⟩=>?_⟩
  ·exact okT
  ·replace hk : k ≤ a.length := hk
   replace hkk : a.take k = b.take k:=hkk
   (conv=>whnf)
   refine split_intro (fun h1=>?_) (fun h1=>?_)
   ·have hlt : k < a.length := by have := of_decide_eq_true h1; simp only [List.length_map] at this; omega
    obtain ⟨x,hx⟩:=exI hlt
    obtain ⟨y,hy⟩:=exI (l:=b) (k:=k) (by omega)
    (conv=>whnf)
    refine ⟨_,⟨by omega,getMap hx⟩,?_⟩
    (conv=>whnf)
    refine ⟨_,⟨by omega,getMap hy⟩,?_⟩
    (conv=>whnf)
    refine ⟨O.plainE x,?_⟩
    (conv=>whnf)
    by_cases hxy : x = y
    ·refine split_intro (fun h => absurd h (by rw [O.eqE' x y, decide_eq_true hxy]; decide)) (fun _ => ?_)
     (conv=>whnf)
     refine ⟨_,add64 (c:=((k + 1 : Nat) : Int)) (by (try simp only []); omega) (by omega),?_⟩
     (conv=>whnf)
     refine ⟨k + 1,⟨⟨hlt,by show a.take (k + 1) = b.take (k + 1); rw [List.take_add_one,List.take_add_one,hx,hy,hkk,hxy]⟩,by show a.length - (k + 1) < a.length - k; omega⟩,?_⟩
     exact okT
    ·refine split_intro (fun _ => ?_) (fun h => absurd h (by rw [O.eqE' x y, decide_eq_false hxy]; decide))
     (conv=>whnf)
     exact Wk.bool (by symm; simp; intro e; subst e; rw [hx] at hy; injection hy with hy; exact hxy hy)
   ·have hge : a.length ≤ k := by have := of_decide_eq_false h1; simp only [List.length_map] at this; omega
    rw [List.take_of_length_le hge,List.take_of_length_le (by omega)] at hkk
    (conv=>whnf)
    exact Wk.bool (by simp [hkk])
end Go.Proofs.YtimjnmbpbobfiaaGreatDoor.H

namespace Go.Proofs.YtimjnmbpbobfiaaGreatDoor.H
open Go Go.AL Go.AL.Hd Go.AL.Ln Go.AL.Ar Go.AL.Sc
set_option maxRecDepth 100000
set_option maxHeartbeats 8000000
abbrev eArcM (a : Arc) : List D:=[vB a.hm,LB a.map,.list .any (a.ms.map eMn),.list .any (a.os.map eO)]
theorem rparse4_ [Go.AL.MX] (b : Str) (hb : b.length ≤ 100000) : FCall Tryz.prog Gl 50 [LB b] [] (.tuple [.agg (eArcM (arcP b).1), vI (arcP b).2.1, vI (arcP b).2.2]) [] := by
 refine FCall.enterL hT hmix [] Tryz.func50 rfl rfl rfl fun hbd=>?_
 (conv=>whnf)
 refine split_intro (fun h1=>?_) (fun h1=>?_)
 ·have h1' : b.length < 8 := by have := of_decide_eq_true h1; simp only [List.length_map] at this; omega
  have e : arcP b = (Arc0,0,2):=by unfold arcP; rw [if_pos h1']
  rw [e]
  (conv=>whnf)
  exact Wk.tuple (Wks.cons (Wk.agg (Wks.cons (Wk.refl _) (Wks.cons (Wk.nil' rfl) (Wks.cons (Wk.nil' rfl) (Wks.cons (Wk.nil' rfl) Wks.nil))))) (Wks.cons (Wk.refl _) (Wks.cons (Wk.refl _) Wks.nil)))
 ·have h1' : ¬ b.length < 8 := by have := of_decide_eq_false h1; simp only [List.length_map] at this; omega
  (conv=>whnf)
  refine CallLeaf.wa (ris_ b) rfl ?_
  (conv=>whnf)
  cases his : isP b with
  | false =>
   have h2' : b.take 8 ≠ magic:=by intro h; rw [isP,h] at his; simp at his; omega
   have e : arcP b = (Arc0,0,1):=by unfold arcP; rw [if_neg h1',if_pos h2']
   rw [e]
   (conv=>whnf)
   exact Wk.tuple (Wks.cons (Wk.agg (Wks.cons (Wk.refl _) (Wks.cons (Wk.nil' rfl) (Wks.cons (Wk.nil' rfl) (Wks.cons (Wk.nil' rfl) Wks.nil))))) (Wks.cons (Wk.refl _) (Wks.cons (Wk.refl _) Wks.nil)))
  | true =>
   have h2' : b.take 8 = magic:=by simp only [isP,Bool.and_eq_true,decide_eq_true_eq] at his; exact his.2
   (conv=>whnf)
   refine LWp.loop hT hmix [] (fun x : PS × Nat=>[(8,vI x.2),(7,vB x.1.ht),(6,LBn x.1.names)]) (fun x=>[(2560,.cells [vB x.1.hm,LBn x.1.map,.list (.tok 301) (x.1.ms.map eMn),.list (.tok 302) (x.1.os.map eO)]),(301,.tok (x.1.ms.map eMn).length 6),(302,.tok (x.1.os.map eO).length 1)]) (At b) (fun x=>b.length - x.2) (PS0,8) (At.start (by omega)) ?_
   (conv=>whnf)
   refine ⟨?_,fun ⟨s,k⟩ A=>?_⟩
   ·(repeat' (first | exact trivial | exact Wk.refl _ | exact ObWk.refl _ | exact rfl | exact ⟨_, rfl⟩ | exact Nat.zero_lt_one | refine And.intro ?_ ?_ | unfold okTo | (unfold okO; conv => whnf) | (unfold okS; conv => whnf) | (unfold SlotOk; conv => whnf) | (unfold ObjOk; conv => whnf) | (unfold okCells; conv => whnf) | (unfold liveTo; conv => whnf) | exact Nat.zero_lt_succ _))
    all_goals exact Wk.natN rfl
   ·have hlo : 8 ≤ k := A.lo
    have hhi : k ≤ b.length:=A.hi
    (conv=>whnf)
    refine split_intro (fun hk=>?_) (fun hk=>?_)
    ·have hk' : k < b.length := by have := of_decide_eq_true hk; simp only [List.length_map] at this; omega
     have hdl : (b.drop k).length = b.length - k:=by simp
     (conv=>whnf)
     refine ⟨(b.drop k).map byteD,slL (by show 0 ≤ (k : Int); omega) (by simp; omega) (by simp) (fun _=>rfl) (by simp),?_⟩
     (conv=>whnf)
     refine CallLeaf.wa (rhdecode_ (b.drop k)) rfl ?_
     (conv=>whnf)
     by_cases hz : (decR (b.drop k)).2 = 0
     ·refine split_intro (fun h => absurd h (by simp [hz])) (fun _ => ?_)
      obtain ⟨hsz,hsl⟩:=dec_size hz
      obtain ⟨n,hn⟩ : ∃ n,n = szN (b.drop k):=⟨_,rfl⟩
      rw [← hn] at hsz hsl
      (conv=>whnf)
      refine ⟨_,add64 (c:=((k + 60 : Nat) : Int)) rfl (by omega),?_⟩
      (conv=>whnf)
      refine ⟨_,add64 (c:=((k + 60 + n : Nat) : Int)) (by rw [hsz]; omega) (by omega),?_⟩
      (conv=>whnf)
      have hn1 : ¬ (decR (b.drop k)).2 ≠ 0:=fun h=>h hz
      by_cases h3 : b.length < k + 60 + n
      ·have hw : nextP (b.drop k) = (⟨hdr0, [], 2⟩, 0) := by unfold nextP; rw [if_neg hn1, ← hn, if_pos (by omega)]
       have e:=A.bad hk' h1' h2' (by rw [hw]; decide)
       rw [e,hw]
       refine split_intro (fun _=>?_) (fun h=>absurd h (by simp; omega))
       (conv=>whnf)
       exact Wk.tuple (Wks.cons (Wk.agg (Wks.cons (Wk.refl _) (Wks.cons (Wk.nil' rfl) (Wks.cons (Wk.nil' rfl) (Wks.cons (Wk.nil' rfl) Wks.nil))))) (Wks.cons (Wk.refl _) (Wks.cons (Wk.refl _) Wks.nil)))
      ·refine split_intro (fun h => absurd h (by simp; omega)) (fun _ => ?_)
       (conv=>whnf)
       refine ⟨(prt b (k + 60) (k + 60 + n)).map byteD,slL (by omega) (by omega) (by simp; omega) (fun _=>rfl) (by show (b.take (k + 60 + n)).drop (k + 60) = _; rfl),?_⟩
       (conv=>whnf)
       refine ⟨_,appL (f:=byteD) (xs:=[]) (ys:=prt b (k + 60) (k + 60 + n)) (zs:=prt b (k + 60) (k + 60 + n)) rfl rfl (fun _=>rfl) rfl (by show _ * 1 ≤ _; simp [prt]; omega),?_⟩
       (conv=>whnf)
       refine ⟨_,rem64 (c:=((n % 2 : Nat) : Int)) (by rw [hsz]; rfl) (by omega),?_⟩
       (conv=>whnf)
       by_cases h4 : n % 2 = 1
       ·refine split_intro (fun _ => ?_) (fun h => absurd h (by simp; omega))
        (conv=>whnf)
        refine ⟨_,add64 (c:=((k + 60 + n + 1 : Nat) : Int)) rfl (by omega),?_⟩
        (conv=>whnf)
        by_cases h5 : b.length < k + 60 + n + 1
        ·have hw : nextP (b.drop k) = (⟨hdr0, [], 2⟩, 0) := by unfold nextP; rw [if_neg hn1, ← hn, if_pos (by omega)]
         have e:=A.bad hk' h1' h2' (by rw [hw]; decide)
         rw [e,hw]
         refine split_intro (fun _=>?_) (fun h=>absurd h (by simp; omega))
         (conv=>whnf)
         exact Wk.tuple (Wks.cons (Wk.agg (Wks.cons (Wk.refl _) (Wks.cons (Wk.nil' rfl) (Wks.cons (Wk.nil' rfl) (Wks.cons (Wk.nil' rfl) Wks.nil))))) (Wks.cons (Wk.refl _) (Wks.cons (Wk.refl _) Wks.nil)))
        ·refine split_intro (fun h => absurd h (by simp; omega)) (fun _ => ?_)
         obtain ⟨c,hc⟩:=exI (l:=b) (k:=k + 60 + n) (by omega)
         have hc' : (b.drop k)[60 + n]? = some c:=by rw [List.getElem?_drop,← Nat.add_assoc]; exact hc
         (conv=>whnf)
         refine ⟨_,⟨by omega,getMap hc⟩,?_⟩
         (conv=>whnf)
         refine split_intro (fun h6=>?_) (fun h6=>?_)
         ·have h6' : c ≠ 10 := O.u8_ne (y := 10) h6
          have hw : nextP (b.drop k) = (⟨hdr0,[],5⟩,0):=by unfold nextP; rw [if_neg hn1,← hn,if_neg (by omega),if_pos ⟨by omega,by rw [hc']; simpa using h6'⟩]
          have e:=A.bad hk' h1' h2' (by rw [hw]; decide)
          rw [e,hw]
          (conv=>whnf)
          exact Wk.tuple (Wks.cons (Wk.agg (Wks.cons (Wk.refl _) (Wks.cons (Wk.nil' rfl) (Wks.cons (Wk.nil' rfl) (Wks.cons (Wk.nil' rfl) Wks.nil))))) (Wks.cons (Wk.refl _) (Wks.cons (Wk.refl _) Wks.nil)))
         ·obtain rfl : c = 10 := O.u8_eq (y := 10) h6
          have hN : nextP (b.drop k) = (⟨(decR (b.drop k)).1, prt (b.drop k) 60 (60 + n), 0⟩, 60 + n + 1) := by
           unfold nextP; rw [if_neg hn1,← hn,if_neg (by omega),if_neg (fun h=>h.2 hc'),h4]
          have hw : (nextP (b.drop k)).1.why = 0:=by rw [hN]
          have hdat : (prt b (k + 60) (k + 60 + n)).length = n:=by simp [prt]; omega
          have hpd : prt (b.drop k) 60 (60 + n) = prt b (k + 60) (k + 60 + n):=by simp only [prt]; rw [List.take_drop,List.drop_drop,Nat.add_assoc]
          rw [hpd] at hN
          obtain ⟨⟨nm,dt,ui,gi,mo,si⟩,hhd⟩ : ∃ x,x = (decR (b.drop k)).1:=⟨_,rfl⟩
          rw [← hhd] at hN ⊢
          have hnm:=(part_bd (b:=b.drop k)).2
          rw [hN] at hnm
          replace hnm : nm.length ≤ 16:=hnm
          have hstep:=A.step hk' hw
          have hbad:=fun {e : Int}=>A.addbad hk' h1' h2' hw (e:=e)
          rw [hN] at hstep hbad
          simp only [← Nat.add_assoc] at hstep hbad
          have hml:=A.ms
          have hol:=A.os
          have hen:=A.ent
          have hnl:=A.nml
          have hus:=A.use
          replace hus : usedP s = decide (k ≠ 8):=hus
          simp only [] at hml hol hen hnl
          (conv=>whnf)
          by_cases hA : nm = [47]
          ·subst hA
           (conv=>whnf)
           by_cases h8 : k = 8
           ·subst h8
            have ha : addP s 8 ⟨⟨[47], dt, ui, gi, mo, si⟩, prt b (8 + 60) (8 + 60 + n), 0⟩ = (⟨true, prt b (8 + 60) (8 + 60 + n), s.ms, s.os, s.names, s.ht⟩, 0) := by
             unfold addP; rw [if_pos rfl,if_neg (by show ¬ usedP s = true; rw [hus]; simp)]
            rw [ha] at hstep
            (conv=>whnf)
            refine ⟨_,⟨hstep rfl,by show b.length - _ < b.length - _; simp only []; omega⟩,?_⟩
            exact okT
           ·have ha : addP s k ⟨⟨[47], dt, ui, gi, mo, si⟩, prt b (k + 60) (k + 60 + n), 0⟩ = (s, 8) := by
             unfold addP; rw [if_pos rfl,if_pos (by show usedP s = true; rw [hus]; simp [h8])]
            rw [ha] at hbad
            rw [hbad rfl (by show (8 : Int) ≠ 0; decide)]
            (conv=>whnf)
            refine split_intro (fun _=>?_) (fun h=>absurd h (by simp; omega))
            (conv=>whnf)
            exact Wk.tuple (Wks.cons (Wk.agg (Wks.cons (Wk.refl _) (Wks.cons (Wk.nil' rfl) (Wks.cons (Wk.nil' rfl) (Wks.cons (Wk.nil' rfl) Wks.nil))))) (Wks.cons (Wk.refl _) (Wks.cons (Wk.refl _) Wks.nil)))
          ·refine split_intro (fun h => absurd h (by simpa [sB] using hA)) (fun _ => ?_)
           (conv=>whnf)
           by_cases hB : nm = [47,47]
           ·subst hB
            (conv=>whnf)
            refine CallLeaf.wa (rentries_ (prt b (k + 60) (k + 60 + n)) (by omega)) rfl ?_
            (conv=>whnf)
            by_cases hC : (entR (prt b (k + 60) (k + 60 + n))).2 = 0
            ·refine split_intro (fun h => absurd h (by simpa using hC)) (fun _ => ?_)
             (conv=>whnf)
             cases hht : s.ht with
             | true =>
              have ha : addP s k ⟨⟨[47, 47], dt, ui, gi, mo, si⟩, prt b (k + 60) (k + 60 + n), 0⟩ = (s, 7) := by
               unfold addP; rw [if_neg (by simp),if_pos rfl,if_pos (.inr (by simp [PS.first,hht]))]
              rw [ha] at hbad
              rw [hbad rfl (by show (7 : Int) ≠ 0; decide)]
              (conv=>whnf)
              exact Wk.tuple (Wks.cons (Wk.agg (Wks.cons (Wk.refl _) (Wks.cons (Wk.nil' rfl) (Wks.cons (Wk.nil' rfl) (Wks.cons (Wk.nil' rfl) Wks.nil))))) (Wks.cons (Wk.refl _) (Wks.cons (Wk.refl _) Wks.nil)))
             | false =>
              (conv=>whnf)
              by_cases hM : s.ms.length = 0
              ·have ha : addP s k ⟨⟨[47, 47], dt, ui, gi, mo, si⟩, prt b (k + 60) (k + 60 + n), 0⟩ = (⟨s.hm, s.map, s.ms, s.os, prt b (k + 60) (k + 60 + n), true⟩, 0) := by
                unfold addP; rw [if_neg (by simp),if_pos rfl,if_neg (by rintro (h|h); exact h hC; simp [PS.first,hht,hM] at h)]
               rw [ha] at hstep
               refine split_intro (fun h=>absurd h (by simp [hM])) (fun _=>?_)
               (conv=>whnf)
               refine ⟨_,⟨hstep rfl,by show b.length - _ < b.length - _; simp only []; omega⟩,?_⟩
               exact okT
              ·have ha : addP s k ⟨⟨[47, 47], dt, ui, gi, mo, si⟩, prt b (k + 60) (k + 60 + n), 0⟩ = (s, 7) := by
                unfold addP; rw [if_neg (by simp),if_pos rfl,if_pos (.inr (by simp [PS.first]; intro h; exact absurd (by simp [h]) hM))]
               rw [ha] at hbad
               rw [hbad rfl (by show (7 : Int) ≠ 0; decide)]
               refine split_intro (fun _=>?_) (fun h=>absurd h (by simp; intro h; exact hM (by rw [h]; rfl)))
               (conv=>whnf)
               exact Wk.tuple (Wks.cons (Wk.agg (Wks.cons (Wk.refl _) (Wks.cons (Wk.nil' rfl) (Wks.cons (Wk.nil' rfl) (Wks.cons (Wk.nil' rfl) Wks.nil))))) (Wks.cons (Wk.refl _) (Wks.cons (Wk.refl _) Wks.nil)))
            ·have ha : addP s k ⟨⟨[47, 47], dt, ui, gi, mo, si⟩, prt b (k + 60) (k + 60 + n), 0⟩ = (s, 7) := by
              unfold addP; rw [if_neg (by simp),if_pos rfl,if_pos (.inl hC)]
             rw [ha] at hbad
             rw [hbad rfl (by show (7 : Int) ≠ 0; decide)]
             refine split_intro (fun _=>?_) (fun h=>absurd h (by simpa using hC))
             (conv=>whnf)
             exact Wk.tuple (Wks.cons (Wk.agg (Wks.cons (Wk.refl _) (Wks.cons (Wk.nil' rfl) (Wks.cons (Wk.nil' rfl) (Wks.cons (Wk.nil' rfl) Wks.nil))))) (Wks.cons (Wk.refl _) (Wks.cons (Wk.refl _) Wks.nil)))
           ·refine split_intro (fun h => absurd h (by simpa [sB] using hB)) (fun _ => ?_)
            (conv=>whnf)
            refine CallLeaf.wa (rresolve_ nm s.names (by omega) (by omega)) rfl ?_
            (conv=>whnf)
            rw [← res_eq nm hen]
            by_cases hC : (resP nm s.names).2 = 0
            ·have ha : addP s k ⟨⟨nm, dt, ui, gi, mo, si⟩, prt b (k + 60) (k + 60 + n), 0⟩ = (⟨s.hm, s.map, s.ms ++ [⟨(resP nm s.names).1, dt, ui, gi, mo, prt b (k + 60) (k + 60 + n)⟩], s.os ++ [k], s.names, s.ht⟩, 0) := by
              unfold addP; rw [if_neg hA,if_neg hB,if_neg (fun h=>h hC)]
             rw [ha] at hstep
             refine split_intro (fun h=>absurd h (by simpa using hC)) (fun _=>?_)
             (conv=>whnf)
             refine ⟨_,appL (f:=eMn) (xs:=s.ms) (ys:=[⟨(resP nm s.names).1,dt,ui,gi,mo,prt b (k + 60) (k + 60 + n)⟩]) (zs:=s.ms ++ [⟨(resP nm s.names).1,dt,ui,gi,mo,prt b (k + 60) (k + 60 + n)⟩]) rfl rfl (fun _=>rfl) rfl (by show _ * 72 ≤ _; simp; omega),?_⟩
             (conv=>whnf)
             refine ⟨_,appL (f:=eO) (xs:=s.os) (ys:=[k]) (zs:=s.os ++ [k]) rfl rfl (fun _=>rfl) rfl (by show _ * 8 ≤ _; simp; omega),?_⟩
             (conv=>whnf)
             refine ⟨_,⟨hstep rfl,by show b.length - _ < b.length - _; simp only []; omega⟩,?_⟩
             exact okT
            ·have ha : addP s k ⟨⟨nm, dt, ui, gi, mo, si⟩, prt b (k + 60) (k + 60 + n), 0⟩ = (s, (resP nm s.names).2) := by
              unfold addP; rw [if_neg hA,if_neg hB,if_pos hC]
             rw [ha] at hbad
             rw [hbad rfl hC]
             refine split_intro (fun _=>?_) (fun h=>absurd h (by simpa using hC))
             (conv=>whnf)
             exact Wk.tuple (Wks.cons (Wk.agg (Wks.cons (Wk.refl _) (Wks.cons (Wk.nil' rfl) (Wks.cons (Wk.nil' rfl) (Wks.cons (Wk.nil' rfl) Wks.nil))))) (Wks.cons (Wk.refl _) (Wks.cons (Wk.refl _) Wks.nil)))
       ·refine split_intro (fun h => absurd h (by simp; omega)) (fun _ => ?_)
        have hN : nextP (b.drop k) = (⟨(decR (b.drop k)).1, prt (b.drop k) 60 (60 + n), 0⟩, 60 + n) := by
         unfold nextP; rw [if_neg hn1,← hn,if_neg (by omega),if_neg (fun h=>h.1 (by omega)),show n % 2 = 0 by omega]; rfl
        have hw : (nextP (b.drop k)).1.why = 0:=by rw [hN]
        have hdat : (prt b (k + 60) (k + 60 + n)).length = n:=by simp [prt]; omega
        have hpd : prt (b.drop k) 60 (60 + n) = prt b (k + 60) (k + 60 + n):=by simp only [prt]; rw [List.take_drop,List.drop_drop,Nat.add_assoc]
        rw [hpd] at hN
        obtain ⟨⟨nm,dt,ui,gi,mo,si⟩,hhd⟩ : ∃ x,x = (decR (b.drop k)).1:=⟨_,rfl⟩
        rw [← hhd] at hN ⊢
        have hnm:=(part_bd (b:=b.drop k)).2
        rw [hN] at hnm
        replace hnm : nm.length ≤ 16:=hnm
        have hstep:=A.step hk' hw
        have hbad:=fun {e : Int}=>A.addbad hk' h1' h2' hw (e:=e)
        rw [hN] at hstep hbad
        simp only [← Nat.add_assoc] at hstep hbad
        have hml:=A.ms
        have hol:=A.os
        have hen:=A.ent
        have hnl:=A.nml
        have hus:=A.use
        replace hus : usedP s = decide (k ≠ 8):=hus
        simp only [] at hml hol hen hnl
        (conv=>whnf)
        by_cases hA : nm = [47]
        ·subst hA
         (conv=>whnf)
         by_cases h8 : k = 8
         ·subst h8
          have ha : addP s 8 ⟨⟨[47], dt, ui, gi, mo, si⟩, prt b (8 + 60) (8 + 60 + n), 0⟩ = (⟨true, prt b (8 + 60) (8 + 60 + n), s.ms, s.os, s.names, s.ht⟩, 0) := by
           unfold addP; rw [if_pos rfl,if_neg (by show ¬ usedP s = true; rw [hus]; simp)]
          rw [ha] at hstep
          (conv=>whnf)
          refine ⟨_,⟨hstep rfl,by show b.length - _ < b.length - _; simp only []; omega⟩,?_⟩
          exact okT
         ·have ha : addP s k ⟨⟨[47], dt, ui, gi, mo, si⟩, prt b (k + 60) (k + 60 + n), 0⟩ = (s, 8) := by
           unfold addP; rw [if_pos rfl,if_pos (by show usedP s = true; rw [hus]; simp [h8])]
          rw [ha] at hbad
          rw [hbad rfl (by show (8 : Int) ≠ 0; decide)]
          (conv=>whnf)
          refine split_intro (fun _=>?_) (fun h=>absurd h (by simp; omega))
          (conv=>whnf)
          exact Wk.tuple (Wks.cons (Wk.agg (Wks.cons (Wk.refl _) (Wks.cons (Wk.nil' rfl) (Wks.cons (Wk.nil' rfl) (Wks.cons (Wk.nil' rfl) Wks.nil))))) (Wks.cons (Wk.refl _) (Wks.cons (Wk.refl _) Wks.nil)))
        ·refine split_intro (fun h => absurd h (by simpa [sB] using hA)) (fun _ => ?_)
         (conv=>whnf)
         by_cases hB : nm = [47,47]
         ·subst hB
          (conv=>whnf)
          refine CallLeaf.wa (rentries_ (prt b (k + 60) (k + 60 + n)) (by omega)) rfl ?_
          (conv=>whnf)
          by_cases hC : (entR (prt b (k + 60) (k + 60 + n))).2 = 0
          ·refine split_intro (fun h => absurd h (by simpa using hC)) (fun _ => ?_)
           (conv=>whnf)
           cases hht : s.ht with
           | true =>
            have ha : addP s k ⟨⟨[47, 47], dt, ui, gi, mo, si⟩, prt b (k + 60) (k + 60 + n), 0⟩ = (s, 7) := by
             unfold addP; rw [if_neg (by simp),if_pos rfl,if_pos (.inr (by simp [PS.first,hht]))]
            rw [ha] at hbad
            rw [hbad rfl (by show (7 : Int) ≠ 0; decide)]
            (conv=>whnf)
            exact Wk.tuple (Wks.cons (Wk.agg (Wks.cons (Wk.refl _) (Wks.cons (Wk.nil' rfl) (Wks.cons (Wk.nil' rfl) (Wks.cons (Wk.nil' rfl) Wks.nil))))) (Wks.cons (Wk.refl _) (Wks.cons (Wk.refl _) Wks.nil)))
           | false =>
            (conv=>whnf)
            by_cases hM : s.ms.length = 0
            ·have ha : addP s k ⟨⟨[47, 47], dt, ui, gi, mo, si⟩, prt b (k + 60) (k + 60 + n), 0⟩ = (⟨s.hm, s.map, s.ms, s.os, prt b (k + 60) (k + 60 + n), true⟩, 0) := by
              unfold addP; rw [if_neg (by simp),if_pos rfl,if_neg (by rintro (h|h); exact h hC; simp [PS.first,hht,hM] at h)]
             rw [ha] at hstep
             refine split_intro (fun h=>absurd h (by simp [hM])) (fun _=>?_)
             (conv=>whnf)
             refine ⟨_,⟨hstep rfl,by show b.length - _ < b.length - _; simp only []; omega⟩,?_⟩
             exact okT
            ·have ha : addP s k ⟨⟨[47, 47], dt, ui, gi, mo, si⟩, prt b (k + 60) (k + 60 + n), 0⟩ = (s, 7) := by
              unfold addP; rw [if_neg (by simp),if_pos rfl,if_pos (.inr (by simp [PS.first]; intro h; exact absurd (by simp [h]) hM))]
             rw [ha] at hbad
             rw [hbad rfl (by show (7 : Int) ≠ 0; decide)]
             refine split_intro (fun _=>?_) (fun h=>absurd h (by simp; intro h; exact hM (by rw [h]; rfl)))
             (conv=>whnf)
             exact Wk.tuple (Wks.cons (Wk.agg (Wks.cons (Wk.refl _) (Wks.cons (Wk.nil' rfl) (Wks.cons (Wk.nil' rfl) (Wks.cons (Wk.nil' rfl) Wks.nil))))) (Wks.cons (Wk.refl _) (Wks.cons (Wk.refl _) Wks.nil)))
          ·have ha : addP s k ⟨⟨[47, 47], dt, ui, gi, mo, si⟩, prt b (k + 60) (k + 60 + n), 0⟩ = (s, 7) := by
            unfold addP; rw [if_neg (by simp),if_pos rfl,if_pos (.inl hC)]
           rw [ha] at hbad
           rw [hbad rfl (by show (7 : Int) ≠ 0; decide)]
           refine split_intro (fun _=>?_) (fun h=>absurd h (by simpa using hC))
           (conv=>whnf)
           exact Wk.tuple (Wks.cons (Wk.agg (Wks.cons (Wk.refl _) (Wks.cons (Wk.nil' rfl) (Wks.cons (Wk.nil' rfl) (Wks.cons (Wk.nil' rfl) Wks.nil))))) (Wks.cons (Wk.refl _) (Wks.cons (Wk.refl _) Wks.nil)))
         ·refine split_intro (fun h => absurd h (by simpa [sB] using hB)) (fun _ => ?_)
          (conv=>whnf)
          refine CallLeaf.wa (rresolve_ nm s.names (by omega) (by omega)) rfl ?_
          (conv=>whnf)
          rw [← res_eq nm hen]
          by_cases hC : (resP nm s.names).2 = 0
          ·have ha : addP s k ⟨⟨nm, dt, ui, gi, mo, si⟩, prt b (k + 60) (k + 60 + n), 0⟩ = (⟨s.hm, s.map, s.ms ++ [⟨(resP nm s.names).1, dt, ui, gi, mo, prt b (k + 60) (k + 60 + n)⟩], s.os ++ [k], s.names, s.ht⟩, 0) := by
            unfold addP; rw [if_neg hA,if_neg hB,if_neg (fun h=>h hC)]
           rw [ha] at hstep
           refine split_intro (fun h=>absurd h (by simpa using hC)) (fun _=>?_)
           (conv=>whnf)
           refine ⟨_,appL (f:=eMn) (xs:=s.ms) (ys:=[⟨(resP nm s.names).1,dt,ui,gi,mo,prt b (k + 60) (k + 60 + n)⟩]) (zs:=s.ms ++ [⟨(resP nm s.names).1,dt,ui,gi,mo,prt b (k + 60) (k + 60 + n)⟩]) rfl rfl (fun _=>rfl) rfl (by show _ * 72 ≤ _; simp; omega),?_⟩
           (conv=>whnf)
           refine ⟨_,appL (f:=eO) (xs:=s.os) (ys:=[k]) (zs:=s.os ++ [k]) rfl rfl (fun _=>rfl) rfl (by show _ * 8 ≤ _; simp; omega),?_⟩
           (conv=>whnf)
           refine ⟨_,⟨hstep rfl,by show b.length - _ < b.length - _; simp only []; omega⟩,?_⟩
           exact okT
          ·have ha : addP s k ⟨⟨nm, dt, ui, gi, mo, si⟩, prt b (k + 60) (k + 60 + n), 0⟩ = (s, (resP nm s.names).2) := by
            unfold addP; rw [if_neg hA,if_neg hB,if_pos hC]
           rw [ha] at hbad
           rw [hbad rfl hC]
           refine split_intro (fun _=>?_) (fun h=>absurd h (by simpa using hC))
           (conv=>whnf)
           exact Wk.tuple (Wks.cons (Wk.agg (Wks.cons (Wk.refl _) (Wks.cons (Wk.nil' rfl) (Wks.cons (Wk.nil' rfl) (Wks.cons (Wk.nil' rfl) Wks.nil))))) (Wks.cons (Wk.refl _) (Wks.cons (Wk.refl _) Wks.nil)))
     ·have hw : (nextP (b.drop k)).1.why = (decR (b.drop k)).2 := by unfold nextP; rw [if_pos hz]
      have e:=A.bad hk' h1' h2' (by rw [hw]; exact hz)
      rw [e,hw]
      refine split_intro (fun _=>?_) (fun h=>absurd h (by simpa using hz))
      (conv=>whnf)
      exact Wk.tuple (Wks.cons (Wk.agg (Wks.cons (Wk.refl _) (Wks.cons (Wk.nil' rfl) (Wks.cons (Wk.nil' rfl) (Wks.cons (Wk.nil' rfl) Wks.nil))))) (Wks.cons (Wk.refl _) (Wks.cons (Wk.refl _) Wks.nil)))
    ·have hk' : ¬ k < b.length := by have := of_decide_eq_false hk; simp only [List.length_map] at this; omega
     have e:=A.fin hk' h1' h2'
     rw [e]
     (conv=>whnf)
     exact Wk.tuple (Wks.cons (Wk.agg (Wks.cons (Wk.refl _) (Wks.cons (Wk.list _ _) (Wks.cons (Wk.list _ _) (Wks.cons (Wk.list _ _) Wks.nil))))) (Wks.cons (Wk.refl _) (Wks.cons (Wk.refl _) Wks.nil)))
end Go.Proofs.YtimjnmbpbobfiaaGreatDoor.H

namespace Go.Proofs.YtimjnmbpbobfiaaGreatDoor.H
open Go Go.AL Go.AL.Hd Go.AL.Ln Go.AL.Ar Go.AL.Sc Go.AL.Cn
set_option maxRecDepth 100000
set_option maxHeartbeats 8000000
abbrev LEs (l : List Cn.Ent) : D:=.list (.tok 403) (l.map Ap.Ent.enc)
structure OkA (a : Arc) : Prop where
 n : a.ms.length ≤ a.os.length
 d : ∀ m ∈ a.ms,m.data.length ≤ 1000000000
 i : (idxP a.ms a.os).length ≤ 4000000000000
 m : a.map.length ≤ 1000000000
 l : a.ms.length ≤ 1000000000000
theorem inr_take {α β : Type} {f : α → β} {l : List α} {j : Nat} {x : α} (h : l[j]? = some x) (b : List β) : (b ++ (l.take j).map f) ++ [f x] = b ++ (l.take (j + 1)).map f := by
 rw [List.take_add_one,h]; simp
theorem cidx_ [Go.AL.MX] (a : Arc) (ha : OkA a) : FCall Tryz.prog Gl 80 [.agg (eArcM a)] [] (O.LEn (idxP a.ms a.os)) [] := by
 obtain ⟨hm,mp,l,os⟩:=a
 obtain ⟨h1,h2,h3,_,_⟩:=ha
 replace h1 : l.length ≤ os.length:=h1
 replace h2 : ∀ m ∈ l,m.data.length ≤ 1000000000:=h2
 replace h3 : (idxP l os).length ≤ 4000000000000:=h3
 show FCall Tryz.prog Gl 80 [.agg [vB hm,LB mp,.list .any (l.map eMn),.list .any (os.map eO)]] [] (O.LEn (idxP l os)) []
 have hll : l.length ≤ 140737488355328 → True:=fun _=>trivial
 refine FCall.enterL hT hmix [] Tryz.func80 rfl rfl rfl fun hbd=>?_
 have hlb : l.length ≤ 140737488355328 := by
  have:=(hbd _ (.head _) (.list .any (l.map eMn)) (.tail _ (.tail _ (.head _)))).1
  simpa using this
 (conv=>whnf)
 refine LWp.loop hT hmix [] (fun k : Nat=>[(11,vI k),(3,LEs (idxP (l.take k) os))]) (fun k=>[(403,.tok ((idxP (l.take k) os).map Ap.Ent.enc).length 2)]) (fun k=>k ≤ l.length) (fun k=>l.length - k) 0 (Nat.zero_le _) ?_
 (conv=>whnf)
 refine ⟨?_,fun k hk=>?_⟩
 ·cases os <;> exact okT
 ·replace hk : k ≤ l.length := hk
  (conv=>whnf)
  refine split_intro (fun h=>?_) (fun h=>?_)
  ·have hlt : k < l.length := by have := of_decide_eq_true h; simp only [List.length_map] at this; omega
   obtain ⟨m,hm'⟩:=exI hlt
   obtain ⟨o,ho⟩:=exI (l:=os) (k:=k) (by omega)
   have hsn:=idx_snoc l os k hm' ho
   have htk:=idx_take_le l os (k + 1)
   rw [hsn] at htk
   simp only [List.length_append,List.length_map] at htk
   obtain ⟨ds,hds⟩ : ∃ ds,ds = defsOf m.data:=⟨_,rfl⟩
   have SD:=sdefs_ m.data (h2 m (List.mem_of_getElem? hm'))
   rw [← hds] at SD hsn htk
   (conv=>whnf)
   refine ⟨_,⟨by omega,getMap hm'⟩,?_⟩
   (conv=>whnf)
   refine CallLeaf.wa (SD) rfl ?_
   (conv=>whnf)
   refine LWp.loop hT hmix [] (fun x : Nat × List Cn.Ent=>[(20,vI x.1),(3,LEs x.2)]) (fun x=>[(403,.tok (x.2.map Ap.Ent.enc).length 2)]) (fun x=>x.1 ≤ ds.length ∧ x.2 = idxP (l.take k) os ++ (ds.take x.1).map (atO o)) (fun x=>ds.length - x.1) (0,idxP (l.take k) os) ⟨Nat.zero_le _,by simp⟩ ?_
   (conv=>whnf)
   refine ⟨?_,fun ⟨j,acc⟩ ⟨hj,hacc⟩=>?_⟩
   ·exact okT
   ·replace hj : j ≤ ds.length := hj
    replace hacc : acc = idxP (l.take k) os ++ (ds.take j).map (atO o):=hacc
    (conv=>whnf)
    refine split_intro (fun h4=>?_) (fun h4=>?_)
    ·have hlt4 : j < ds.length := by have := of_decide_eq_true h4; simp only [List.length_map] at this; omega
     obtain ⟨s,hs⟩:=exI hlt4
     have e1:=inr_take (f:=atO o) hs (idxP (l.take k) os)
     rw [← hacc] at e1
     have hal : acc.length + 1 ≤ 4000000000000 := by
      have:=congrArg List.length hacc
      simp only [List.length_append,List.length_map,List.length_take] at this
      omega
     (conv=>whnf)
     refine ⟨_,⟨by omega,getMap hs⟩,?_⟩
     (conv=>whnf)
     refine ⟨_,⟨by omega,getMap ho⟩,?_⟩
     (conv=>whnf)
     refine ⟨_,appL (f:=Ap.Ent.enc) (xs:=acc) (ys:=[atO o s]) (zs:=acc ++ [atO o s]) rfl rfl (fun _=>rfl) rfl (by rw [List.length_append]; show (_ + 1) * 24 ≤ _; omega),?_⟩
     (conv=>whnf)
     refine ⟨_,add64 (c:=((j + 1 : Nat) : Int)) (by (try simp only []); omega) (by omega),?_⟩
     (conv=>whnf)
     refine ⟨(j + 1,acc ++ [atO o s]),⟨⟨hlt4,e1⟩,by show ds.length - (j + 1) < ds.length - j; omega⟩,?_⟩
     exact okT
    ·have hge : ds.length ≤ j := by have := of_decide_eq_false h4; simp only [List.length_map] at this; omega
     rw [List.take_of_length_le hge,← hsn] at hacc
     (conv=>whnf)
     refine ⟨_,add64 (c:=((k + 1 : Nat) : Int)) (by (try simp only []); omega) (by omega),?_⟩
     (conv=>whnf)
     refine ⟨k + 1,⟨hlt,by show l.length - (k + 1) < l.length - k; omega⟩,?_⟩
     rw [hacc]
     exact okT
  ·have hge : l.length ≤ k := by have := of_decide_eq_false h; simp only [List.length_map] at this; omega
   (conv=>whnf)
   rw [List.take_of_length_le hge]
   exact Wk.refl _
theorem ridx_ [Go.AL.MX] (a : Arc) (ha : OkA a) : FCall Tryz.prog Gl 70 [.agg (eArcM a)] [] (O.LEn (idxP a.ms a.os)) [] := by
 obtain ⟨hm,mp,l,os⟩:=a
 obtain ⟨h1,h2,h3,_,_⟩:=ha
 replace h1 : l.length ≤ os.length:=h1
 replace h2 : ∀ m ∈ l,m.data.length ≤ 1000000000:=h2
 replace h3 : (idxP l os).length ≤ 4000000000000:=h3
 show FCall Tryz.prog Gl 70 [.agg [vB hm,LB mp,.list .any (l.map eMn),.list .any (os.map eO)]] [] (O.LEn (idxP l os)) []
 refine FCall.enterL hT hmix [] Tryz.func70 rfl rfl rfl fun hbd=>?_
 have hlb : l.length ≤ 140737488355328 := by
  have:=(hbd _ (.head _) (.list .any (l.map eMn)) (.tail _ (.tail _ (.head _)))).1
  simpa using this
 (conv=>whnf)
 refine LWp.loop hT hmix [] (fun k : Nat=>[(4,vI k),(3,LEs (idxP (l.take k) os))]) (fun k=>[(403,.tok ((idxP (l.take k) os).map Ap.Ent.enc).length 2)]) (fun k=>k ≤ l.length) (fun k=>l.length - k) 0 (Nat.zero_le _) ?_
 (conv=>whnf)
 refine ⟨?_,fun k hk=>?_⟩
 ·cases os <;> exact okT
 ·replace hk : k ≤ l.length := hk
  (conv=>whnf)
  refine split_intro (fun h=>?_) (fun h=>?_)
  ·have hlt : k < l.length := by have := of_decide_eq_true h; simp only [List.length_map] at this; omega
   obtain ⟨m,hm'⟩:=exI hlt
   obtain ⟨o,ho⟩:=exI (l:=os) (k:=k) (by omega)
   have hsn:=idx_snoc l os k hm' ho
   have htk:=idx_take_le l os (k + 1)
   rw [hsn] at htk
   simp only [List.length_append,List.length_map] at htk
   obtain ⟨ds,hds⟩ : ∃ ds,ds = defsOf m.data:=⟨_,rfl⟩
   have SD:=rdefs_ m.data (h2 m (List.mem_of_getElem? hm'))
   rw [← hds] at SD hsn htk
   (conv=>whnf)
   refine ⟨_,⟨by omega,getMap hm'⟩,?_⟩
   (conv=>whnf)
   refine CallLeaf.wa (SD) rfl ?_
   (conv=>whnf)
   refine LWp.loop hT hmix [] (fun x : Nat × List Cn.Ent=>[(6,vI x.1),(3,LEs x.2)]) (fun x=>[(403,.tok (x.2.map Ap.Ent.enc).length 2)]) (fun x=>x.1 ≤ ds.length ∧ x.2 = idxP (l.take k) os ++ (ds.take x.1).map (atO o)) (fun x=>ds.length - x.1) (0,idxP (l.take k) os) ⟨Nat.zero_le _,by simp⟩ ?_
   (conv=>whnf)
   refine ⟨?_,fun ⟨j,acc⟩ ⟨hj,hacc⟩=>?_⟩
   ·exact okT
   ·replace hj : j ≤ ds.length := hj
    replace hacc : acc = idxP (l.take k) os ++ (ds.take j).map (atO o):=hacc
    (conv=>whnf)
    refine split_intro (fun h4=>?_) (fun h4=>?_)
    ·have hlt4 : j < ds.length := by have := of_decide_eq_true h4; simp only [List.length_map] at this; omega
     obtain ⟨s,hs⟩:=exI hlt4
     have e1:=inr_take (f:=atO o) hs (idxP (l.take k) os)
     rw [← hacc] at e1
     have hal : acc.length + 1 ≤ 4000000000000 := by
      have:=congrArg List.length hacc
      simp only [List.length_append,List.length_map,List.length_take] at this
      omega
     (conv=>whnf)
     refine ⟨_,⟨by omega,getMap hs⟩,?_⟩
     (conv=>whnf)
     refine ⟨_,⟨by omega,getMap ho⟩,?_⟩
     (conv=>whnf)
     refine ⟨_,appL (f:=Ap.Ent.enc) (xs:=acc) (ys:=[atO o s]) (zs:=acc ++ [atO o s]) rfl rfl (fun _=>rfl) rfl (by rw [List.length_append]; show (_ + 1) * 24 ≤ _; omega),?_⟩
     (conv=>whnf)
     refine ⟨_,add64 (c:=((j + 1 : Nat) : Int)) (by (try simp only []); omega) (by omega),?_⟩
     (conv=>whnf)
     refine ⟨(j + 1,acc ++ [atO o s]),⟨⟨hlt4,e1⟩,by show ds.length - (j + 1) < ds.length - j; omega⟩,?_⟩
     exact okT
    ·have hge : ds.length ≤ j := by have := of_decide_eq_false h4; simp only [List.length_map] at this; omega
     rw [List.take_of_length_le hge,← hsn] at hacc
     (conv=>whnf)
     refine ⟨_,add64 (c:=((k + 1 : Nat) : Int)) (by (try simp only []); omega) (by omega),?_⟩
     (conv=>whnf)
     refine ⟨k + 1,⟨hlt,by show l.length - (k + 1) < l.length - k; omega⟩,?_⟩
     rw [hacc]
     exact okT
  ·have hge : l.length ≤ k := by have := of_decide_eq_false h; simp only [List.length_map] at this; omega
   (conv=>whnf)
   rw [List.take_of_length_le hge]
   exact Wk.refl _
end Go.Proofs.YtimjnmbpbobfiaaGreatDoor.H









namespace Go.Proofs.YtimjnmbpbobfiaaGreatDoor
open Go Go.AL Go.AL.Ap Go.AL.Ob Go.AL.Tb
set_option maxRecDepth 100000
set_option maxHeartbeats 4000000
theorem sB_sz (s : Str) : (sB s).size = s.length:=by simp [sB,ByteArray.size]
abbrev oD (o : Ob.Obj) : D:=.agg [.list .any (SE o.syms),LB o.body]
theorem not_t {b : Bool} (h : (!b) = true) : b = false:=by cases b <;> simp_all
theorem not_f {b : Bool} (h : (!b) = false) : b = true:=by cases b <;> simp_all
theorem len_ne {a b : Nat} (h : ((a : Int) != (b : Int)) = true) : a ≠ b:=by intro e; subst e; simp at h
theorem len_eq {a b : Nat} (h : ((a : Int) != (b : Int)) = false) : a = b := by
 by_cases e : a = b
 ·exact e
 ·have : ((a : Int) != (b : Int)) = true := by simp; omega
  rw [this] at h; exact absurd h (by decide)
theorem vbad {s : Ob.Sym} (h : ¬ (1 ≤ s.name.length ∧ s.name.length ≤ 255 ∧ (0 : UInt8) ∉ s.name ∧ 0 ≤ s.size ∧ s.size ≤ 4294967295)) : valid s = false := by
 cases hv : valid s with
 | false=>rfl
 | true =>
  obtain ⟨h1,h2,h3,h4,h5,_⟩:=valid_iff.1 hv
  exact absurd ⟨h1,h2,h3,h4,h5⟩ h
theorem vgood {s : Ob.Sym} (h1 : 1 ≤ s.name.length) (h2 : s.name.length ≤ 255) (h3 : (0 : UInt8) ∉ s.name) (h4 : 0 ≤ s.size) (h5 : s.size ≤ 4294967295) : valid s = bindOk s := by
 simp [valid,h1,h2,h3,h4,h5]
theorem has_mem (l : List Ob.Sym) (n : Str) : Ob.has l n = decide (n ∈ l.map Ob.Sym.name) := by
 rw [Bool.eq_iff_iff,Ob.has_iff]; simp
theorem okL_step {l : List Ob.Sym} {k : Nat} {s : Ob.Sym} (h : l[k]? = some s) : okL [] (l.take (k + 1)) = (okL [] (l.take k) && (valid s && !Ob.has (l.take k) s.name)) := by
 rw [List.take_add_one,h,Option.toList_some,okL_app]
 simp [okL]
theorem okL_bad {l : List Ob.Sym} {k : Nat} {s : Ob.Sym} (h : l[k]? = some s) (hb : (valid s && !Ob.has (l.take k) s.name) = false) : validO l = false := by
 have h1:=okL_step h
 rw [hb,Bool.and_false] at h1
 have h2:=okL_app (l.take (k + 1)) (l.drop (k + 1)) []
 rw [List.take_append_drop,h1,Bool.false_and] at h2
 simp [validO,h2]
theorem pows_at : ∀ i < 17,pows[i]? = some ((2 ^ i : Nat) : Int):=by decide
theorem pow_le16 {j : Nat} (h : (2 ^ j : Nat) ≤ 65536) : j ≤ 16 := by
 rcases Nat.lt_or_ge 16 j with hj|hj
 ·have : 2 ^ 17 ≤ 2 ^ j := Nat.pow_le_pow_right (by decide) hj
  omega
 ·exact hj
theorem two_step {j : Nat} (h : (2 ^ j : Nat) ≤ 65536) : intBin .mul .i64 2 ((2 ^ j : Nat) : Int) = some ((2 ^ (j + 1) : Nat) : Int) := by
 rw [Nat.pow_succ]
 generalize 2 ^ j = m at *
 exact mul64 (by push_cast; omega) (by push_cast; omega)
theorem power_ [Go.AL.MX] (n : Int) : FCall Tryz.prog Gl 56 [vI n] [] (vB (power n)) [] := by
 refine FCall.enterL hT hmix [] Tryz.func56 rfl rfl rfl fun hbd=>?_
 (conv=>whnf)
 refine LWp.loop hT hmix [] (fun j : Nat=>[(3,vI ((2 ^ j : Nat) : Int))]) (fun _=>[]) (fun j=>j ≤ 17 ∧ n ∉ pows.take j) (fun j=>17 - j) 0 ⟨Nat.zero_le _,(List.not_mem_nil : n ∉ ([] : List Int))⟩ ?_
 (conv=>whnf)
 refine ⟨?_,fun j ⟨hj,hn⟩=>?_⟩
 ·exact okT
 ·(conv => whnf)
  refine split_intro (fun h=>?_) (fun h=>?_)
  ·have h' : (2 ^ j : Nat) ≤ 65536 := Int.ofNat_le.1 (show ((2 ^ j : Nat) : Int) ≤ ((65536 : Nat) : Int) from of_decide_eq_true h)
   have hj16:=pow_le16 h'
   have hp:=pows_at j (by omega)
   (conv=>whnf)
   refine split_intro (fun h2=>?_) (fun h2=>?_)
   ·have e : ((2 ^ j : Nat) : Int) = n := eq_of_beq h2
    (conv=>whnf)
    exact Wk.bool (by
     symm; unfold power; rw [decide_eq_true_eq,← e]
     exact List.mem_of_getElem? hp)
   ·have e : ¬ ((2 ^ j : Nat) : Int) = n := fun e => by rw [e] at h2; simp at h2
    (conv=>whnf)
    refine ⟨_,two_step h',?_⟩
    (conv=>whnf)
    refine ⟨j + 1,⟨⟨by omega,?_⟩,by simp only []; omega⟩,?_⟩
    ·rw [List.take_add_one, hp]
     simp only [Option.toList_some,List.mem_append,List.mem_singleton,not_or]
     exact ⟨hn,fun h=>e h.symm⟩
    ·exact okT
  ·have h' : ¬ ((2 ^ j : Nat) : Int) ≤ 65536 := of_decide_eq_false h
   have hj17 : j = 17 := by
    rcases Nat.lt_or_ge j 17 with hlt|hge
    ·have : 2 ^ j ≤ 65536 := Nat.pow_le_pow_right (j := 16) (by decide) (by omega)
     exact absurd (show ((2 ^ j : Nat) : Int) ≤ ((65536 : Nat) : Int) from Int.ofNat_le.2 this) h'
    ·omega
   subst hj17
   (conv=>whnf)
   exact Wk.bool (by symm; unfold power; rw [decide_eq_false_iff_not]; exact hn)
theorem rsym_ [Go.AL.MX] (s : Ob.Sym) (hb : s.name.length ≤ 1000000000) : FCall Tryz.prog Gl 40 [.agg s.enc] [] (vB (valid s)) [] := by
 obtain ⟨nm,bd,sz,al⟩:=s
 have hsz:=sB_sz nm
 replace hb : nm.length ≤ 1000000000:=hb
 refine FCall.enterL hT hmix [] Tryz.func40 rfl rfl rfl fun hbd=>?_
 (conv=>whnf)
 refine split_intro (fun h1=>?_) (fun h1=>?_)
 ·have h1' : ((sB nm).size : Int) = 0 := eq_of_beq h1
  (conv=>whnf)
  exact Wk.bool (vbad (by simp only; omega)).symm
 ·have h1' : ¬ ((sB nm).size : Int) = 0 := by simpa using h1
  (conv=>whnf)
  refine split_intro (fun h2=>?_) (fun h2=>?_)
  ·have h2' : (255 : Int) < (sB nm).size := of_decide_eq_true h2
   (conv=>whnf)
   exact Wk.bool (vbad (by simp only; omega)).symm
  ·have h2' : ¬ ((255 : Int) < (sB nm).size) := of_decide_eq_false h2
   (conv=>whnf)
   refine split_intro (fun h4=>?_) (fun h4=>?_)
   ·have h4' : sz < 0 := of_decide_eq_true h4
    (conv=>whnf)
    exact Wk.bool (vbad (by simp only; omega)).symm
   ·have h4' : ¬ (sz < 0) := of_decide_eq_false h4
    (conv=>whnf)
    refine split_intro (fun h5=>?_) (fun h5=>?_)
    ·have h5' : (4294967295 : Int) < sz := of_decide_eq_true h5
     (conv=>whnf)
     exact Wk.bool (vbad (by simp only; omega)).symm
    ·have h5' : ¬ ((4294967295 : Int) < sz) := of_decide_eq_false h5
     (conv=>whnf)
     refine LWp.loop hT hmix [] (fun k : Nat=>[(3,vI k)]) (fun _=>[]) (fun k=>k ≤ nm.length ∧ (0 : UInt8) ∉ nm.take k) (fun k=>nm.length - k) 0 ⟨Nat.zero_le _,by simp⟩ ?_
     (conv=>whnf)
     refine ⟨?_,fun k ⟨hk,hkk⟩=>?_⟩
     ·exact okT
     ·(conv => whnf)
      refine split_intro (fun h=>?_) (fun h=>?_)
      ·have hlt : k < nm.length := by have := of_decide_eq_true h; simp only at this; omega
       obtain ⟨x,hx⟩:=exI hlt
       (conv=>whnf)
       refine ⟨x,⟨by omega,by simpa using hx⟩,?_⟩
       (conv=>whnf)
       refine split_intro (fun h6=>?_) (fun h6=>?_)
       ·have hx0 : x = 0 := by
         have : (x.toNat : Int) = 0:=by simpa using h6
         exact UInt8.toNat_inj.1 (by simpa using this)
        (conv=>whnf)
        exact Wk.bool (vbad (fun h=>h.2.2.1 (by rw [← hx0]; exact List.mem_of_getElem? hx))).symm
       ·have hx0 : ¬ 0 = x := by
         intro e; subst e; simp at h6
        (conv=>whnf)
        refine ⟨_,add64 (c:=((k + 1 : Nat) : Int)) (by (try simp only []); omega) (by omega),?_⟩
        (conv=>whnf)
        refine ⟨k + 1,⟨⟨by omega,?_⟩,by simp only []; omega⟩,?_⟩
        ·rw [List.take_add_one,hx]; simp [hkk,hx0]
        ·exact okT
      ·have hge : nm.length ≤ k := by have := of_decide_eq_false h; simp only at this; omega
       rw [List.take_of_length_le hge] at hkk
       rw [vgood (s:=⟨nm,bd,sz,al⟩) (by simp only; omega) (by simp only; omega) hkk (by simp only; omega) (by simp only; omega)]
       (conv=>whnf)
       refine split_intro (fun b3=>?_) (fun b3=>?_)
       ·have b3' : bd = 3 := eq_of_beq b3
        (conv=>whnf)
        refine CallLeaf.wa (power_ al) rfl ?_
        (conv=>whnf)
        exact Wk.bool (by simp [bindOk,b3'])
       ·have b3' : ¬ bd = 3 := by simpa using b3
        (conv=>whnf)
        refine split_intro (fun b4=>?_) (fun b4=>?_)
        ·have b4' : bd = 4 := eq_of_beq b4
         (conv=>whnf)
         refine split_intro (fun z=>?_) (fun z=>?_)
         ·have z' : sz = 0 := eq_of_beq z
          (conv=>whnf)
          exact Wk.bool (by rw [Bool.eq_iff_iff]; simp [bindOk,b4',z'])
         ·have z' : ¬ sz = 0 := by simpa using z
          (conv=>whnf)
          exact Wk.bool (by simp [bindOk,b4',z'])
        ·have b4' : ¬ bd = 4 := by simpa using b4
         (conv=>whnf)
         refine split_intro (fun b5=>?_) (fun b5=>?_)
         ·have b5' : bd = 5 := eq_of_beq b5
          (conv=>whnf)
          refine split_intro (fun z=>?_) (fun z=>?_)
          ·have z' : sz = 0 := eq_of_beq z
           (conv=>whnf)
           exact Wk.bool (by rw [Bool.eq_iff_iff]; simp [bindOk,b5',z'])
          ·have z' : ¬ sz = 0 := by simpa using z
           (conv=>whnf)
           exact Wk.bool (by simp [bindOk,b5',z'])
         ·have b5' : ¬ bd = 5 := by simpa using b5
          (conv=>whnf)
          refine split_intro (fun b1=>?_) (fun b1=>?_)
          ·have b1' : bd = 1 := eq_of_beq b1
           (conv=>whnf)
           exact Wk.bool (by rw [Bool.eq_iff_iff]; simp [bindOk,b1'])
          ·have b1' : ¬ bd = 1 := by simpa using b1
           (conv=>whnf)
           refine split_intro (fun b2=>?_) (fun b2=>?_)
           ·have b2' : bd = 2 := eq_of_beq b2
            (conv=>whnf)
            exact Wk.bool (by rw [Bool.eq_iff_iff]; simp [bindOk,b2'])
           ·have b2' : ¬ bd = 2 := by simpa using b2
            (conv=>whnf)
            exact Wk.bool (by simp [bindOk,b1',b2',b3',b4',b5'])
theorem rhas_ [Go.AL.MX] (l : List Ob.Sym) (n : Str) (hl : l.length ≤ 1000000000) : FCall Tryz.prog Gl 41 [.list .any (SE l), sD n] [] (vB (Ob.has l n)) [] := by
 refine FCall.enterL hT hmix [] Tryz.func41 rfl rfl rfl fun hbd=>?_
 (conv=>whnf)
 refine LWp.loop hT hmix [] (fun k : Nat=>[(5,vI k)]) (fun _=>[]) (fun k=>k ≤ l.length ∧ Ob.has (l.take k) n = false) (fun k=>l.length - k) 0 ⟨Nat.zero_le _,rfl⟩ ?_
 (conv=>whnf)
 refine ⟨?_,fun k ⟨hk,hkk⟩=>?_⟩
 ·exact okT
 ·(conv => whnf)
  refine split_intro (fun h=>?_) (fun h=>?_)
  ·have hlt : k < l.length := by simpa using h
   obtain ⟨s,hs⟩:=exI hlt
   (conv=>whnf)
   refine ⟨_,⟨by omega,getMap hs⟩,?_⟩
   (conv=>whnf)
   refine split_intro (fun hc=>?_) (fun hc=>?_)
   ·have hc' : s.name = n := of_decide_eq_true hc
    (conv=>whnf)
    exact Wk.bool (Ob.has_iff.2 ⟨s,List.mem_of_getElem? hs,hc'⟩).symm
   ·have hc' : ¬ s.name = n := of_decide_eq_false hc
    (conv=>whnf)
    refine ⟨_,add64 (c:=((k + 1 : Nat) : Int)) (by (try simp only []); omega) (by omega),?_⟩
    (conv=>whnf)
    refine ⟨k + 1,⟨⟨by omega,?_⟩,by simp only []; omega⟩,?_⟩
    ·rw [List.take_add_one, hs]
     unfold Ob.has at *
     rw [List.any_append,hkk]; simp [hc']
    ·exact okT
  ·have hge : l.length ≤ k := by simpa using h
   rw [List.take_of_length_le hge] at hkk
   (conv=>whnf)
   exact Wk.bool hkk.symm
theorem plainS (s : Ob.Sym) : plainEq Tryz.prog 78 s.enc = true := by
 obtain ⟨a,b,c,d⟩:=s
 kernel_rfl
theorem eqS' (a b : Ob.Sym) : (decide (a.name = b.name) && (a.bind == b.bind && (a.size == b.size && (a.align == b.align && true)))) = decide (a = b) := by
 obtain ⟨a1,a2,a3,a4⟩:=a
 obtain ⟨b1,b2,b3,b4⟩:=b
 rw [Bool.eq_iff_iff]; simp
theorem orvalid_ [Go.AL.MX] (l : List Ob.Sym) (x : List UInt8) (hl : l.length ≤ 1000000000) (hn : ∀ s ∈ l, s.name.length ≤ 1000000000) : FCall Tryz.prog Gl 42 [oD ⟨l, x⟩] [] (vB (validO l)) [] := by
 refine FCall.enterL hT hmix [] Tryz.func42 rfl rfl rfl fun hbd=>?_
 (conv=>whnf)
 refine LWp.loop hT hmix [] (fun k : Nat=>[(3,vI k)]) (fun _=>[]) (fun k=>k ≤ l.length ∧ okL [] (l.take k) = true) (fun k=>l.length - k) 0 ⟨Nat.zero_le _,rfl⟩ ?_
 (conv=>whnf)
 refine ⟨?_,fun k ⟨hk,hkk⟩=>?_⟩
 ·exact okT
 ·(conv => whnf)
  refine split_intro (fun h=>?_) (fun h=>?_)
  ·have hlt : k < l.length := by have := of_decide_eq_true h; simp at this; omega
   obtain ⟨s,hs⟩:=exI hlt
   (conv=>whnf)
   refine ⟨_,⟨by omega,getMap hs⟩,?_⟩
   (conv=>whnf)
   refine CallLeaf.wa (rsym_ s (hn s (List.mem_of_getElem? hs))) rfl ?_
   (conv=>whnf)
   refine split_intro (fun hv=>?_) (fun hv=>?_)
   ·have hv' : valid s = false := by simpa using hv
    (conv=>whnf)
    exact Wk.bool (okL_bad hs (by simp [hv'])).symm
   ·have hv' : valid s = true := by simpa using hv
    (conv=>whnf)
    refine ⟨_,slTake (f:=Ob.Sym.enc) (l:=l) (b:=k) (r:=l.take k) rfl (by omega) (fun _=>rfl) rfl,?_⟩
    (conv=>whnf)
    refine ⟨_,⟨by omega,getMap hs⟩,?_⟩
    (conv=>whnf)
    refine CallLeaf.wa (rhas_ (l.take k) s.name (by simp; omega)) rfl ?_
    (conv=>whnf)
    refine split_intro (fun hh=>?_) (fun hh=>?_)
    ·have hh' : Ob.has (l.take k) s.name = true := hh
     (conv=>whnf)
     exact Wk.bool (okL_bad hs (by simp [hh'])).symm
    ·have hh' : Ob.has (l.take k) s.name = false := hh
     (conv=>whnf)
     refine ⟨_,add64 (c:=((k + 1 : Nat) : Int)) (by (try simp only []); omega) (by omega),?_⟩
     (conv=>whnf)
     refine ⟨k + 1,⟨⟨by omega,by rw [okL_step hs,hkk,hv',hh']; rfl⟩,by simp only []; omega⟩,?_⟩
     exact okT
  ·have hge : l.length ≤ k := by have := of_decide_eq_false h; simp at this; omega
   rw [List.take_of_length_le hge] at hkk
   (conv=>whnf)
   exact Wk.bool (by simp only [validO,hkk,Bool.true_and]; congr 1; simp; omega)
end Go.Proofs.YtimjnmbpbobfiaaGreatDoor



namespace Go.Proofs.YtimjnmbpbobfiaaGreatDoor
open Go Go.AL Go.AL.Bd Go.AL.Tb
set_option maxRecDepth 100000
set_option maxHeartbeats 4000000
theorem texts_ [Go.AL.MX] (a b : List Str) : FCall Tryz.prog Gl 55 [LS a, LS b] [] (vB (decide (a = b))) [] := by
 refine FCall.enterL hT hmix [] Tryz.func55 rfl rfl rfl fun hbd=>?_
 have ha:=bds_list hbd (.head _)
 (conv=>whnf)
 refine split_intro (fun h=>?_) (fun h=>?_)
 ·have h' := len_ne h
  simp at h'
  (conv=>whnf)
  exact Wk.bool (by symm; simp; intro e; subst e; exact h' rfl)
 ·have hab : a.length = b.length := by have := len_eq h; simpa using this
  (conv=>whnf)
  refine LWp.loop hT hmix [] (fun k : Nat=>[(5,vI k)]) (fun _=>[]) (fun k=>k ≤ a.length ∧ a.take k = b.take k) (fun k=>a.length - k) 0 ⟨Nat.zero_le _,rfl⟩ ?_
  (conv=>whnf)
  refine ⟨?_,fun k ⟨hk,hkk⟩=>?_⟩
  ·exact okT
  ·(conv => whnf)
   refine split_intro (fun h=>?_) (fun h=>?_)
   ·have hlt : k < a.length := by simpa using h
    obtain ⟨x,hx⟩:=exI hlt
    obtain ⟨y,hy⟩:=exI (hab ▸ hlt : k < b.length)
    (conv=>whnf)
    refine ⟨_,⟨by omega,getMap hx⟩,?_⟩
    (conv=>whnf)
    refine ⟨_,⟨by omega,getMap hy⟩,?_⟩
    (conv=>whnf)
    refine split_intro (fun hxy=>?_) (fun hxy=>?_)
    ·(conv => whnf)
     exact Wk.bool (by
      symm; simp; intro e; subst e
      simp [hx] at hy; simp [hy] at hxy)
    ·(conv => whnf)
     refine ⟨_,add64 (c:=((k + 1 : Nat) : Int)) (by (try simp only []); omega) (by omega),?_⟩
     (conv=>whnf)
     refine ⟨k + 1,⟨⟨by omega,?_⟩,by simp only []; omega⟩,?_⟩
     ·have : x = y := by simpa using hxy
      subst this
      rw [List.take_add_one,List.take_add_one,hx,hy,hkk]
     ·exact okT
   ·(conv => whnf)
    exact Wk.bool (by
     have hge : a.length ≤ k:=by simpa using h
     symm; simp
     rwa [List.take_of_length_le hge,List.take_of_length_le (by omega)] at hkk)
end Go.Proofs.YtimjnmbpbobfiaaGreatDoor

namespace Go.Proofs.YtimjnmbpbobfiaaGreatDoor
open Go Go.AL Go.AL.Bd Go.AL.Tb Go.AL.Sc
set_option maxRecDepth 100000
set_option maxHeartbeats 4000000
theorem sameM_ [Go.AL.MX] (a b : Mem) : FCall Tryz.prog Gl 75 [.agg a.enc, .agg b.enc] [] (vB (decide (a = b))) [] := by
 obtain ⟨a1,a2,a3,a4,a5,a6⟩:=a
 obtain ⟨b1,b2,b3,b4,b5,b6⟩:=b
 have S:=O.same_ a6 b6
 refine FCall.enterL hT hmix [] Tryz.func75 rfl rfl rfl fun hbd=>?_
 (conv=>whnf)
 refine split_intro (fun h1=>?_) (fun h1=>?_)
 ·(conv => whnf)
  refine split_intro (fun h2=>?_) (fun h2=>?_)
  ·(conv => whnf)
   refine split_intro (fun h3=>?_) (fun h3=>?_)
   ·(conv => whnf)
    refine split_intro (fun h4=>?_) (fun h4=>?_)
    ·(conv => whnf)
     refine split_intro (fun h5=>?_) (fun h5=>?_)
     ·(conv => whnf)
      refine CallLeaf.wa (S) rfl ?_
      (conv=>whnf)
      exact Wk.bool (by simp at h1 h2 h3 h4 h5; rw [decide_eq_decide]; simp [h1,h2,h3,h4,h5])
     ·(conv => whnf)
      exact Wk.bool (by simp at h1 h2 h3 h4 h5; simp [h1,h2,h3,h4,h5])
    ·(conv => whnf)
     exact Wk.bool (by simp at h1 h2 h3 h4; simp [h1,h2,h3,h4])
   ·(conv => whnf)
    exact Wk.bool (by simp at h1 h2 h3; simp [h1,h2,h3])
  ·(conv => whnf)
   exact Wk.bool (by simp at h1 h2; simp [h1,h2])
 ·(conv => whnf)
  exact Wk.bool (by simp at h1; simp [h1])
theorem sameMs_ [Go.AL.MX] (a b : List Mem) : FCall Tryz.prog Gl 54 [LM a, LM b] [] (vB (decide (a = b))) [] := by
 refine FCall.enterL hT hmix [] Tryz.func54 rfl rfl rfl fun hbd=>?_
 have ha:=bds_list hbd (.head _)
 (conv=>whnf)
 refine split_intro (fun h=>?_) (fun h=>?_)
 ·have h' := len_ne h
  simp at h'
  (conv=>whnf)
  exact Wk.bool (by symm; simp; intro e; subst e; exact h' rfl)
 ·have hab : a.length = b.length := by have := len_eq h; simpa using this
  (conv=>whnf)
  refine LWp.loop hT hmix [] (fun k : Nat=>[(5,vI k)]) (fun _=>[]) (fun k=>k ≤ a.length ∧ a.take k = b.take k) (fun k=>a.length - k) 0 ⟨Nat.zero_le _,rfl⟩ ?_
  (conv=>whnf)
  refine ⟨?_,fun k ⟨hk,hkk⟩=>?_⟩
  ·exact okT
  ·(conv => whnf)
   refine split_intro (fun h=>?_) (fun h=>?_)
   ·have hlt : k < a.length := by simpa using h
    obtain ⟨x,hx⟩:=exI hlt
    obtain ⟨y,hy⟩:=exI (hab ▸ hlt : k < b.length)
    (conv=>whnf)
    refine ⟨_,⟨by omega,getMap hx⟩,?_⟩
    (conv=>whnf)
    refine ⟨_,⟨by omega,getMap hy⟩,?_⟩
    (conv=>whnf)
    refine CallLeaf.wa (sameM_ x y) rfl ?_
    (conv=>whnf)
    refine split_intro (fun hxy=>?_) (fun hxy=>?_)
    ·have hne : ¬ x = y := by simpa using hxy
     (conv=>whnf)
     exact Wk.bool (by
      symm; rw [decide_eq_false_iff_not]; intro e; subst e
      rw [hx] at hy; injection hy with hy; exact hne hy)
    ·have he : x = y := by simpa using hxy
     (conv=>whnf)
     refine ⟨_,add64 (c:=((k + 1 : Nat) : Int)) (by (try simp only []); omega) (by omega),?_⟩
     (conv=>whnf)
     refine ⟨k + 1,⟨⟨by omega,?_⟩,by simp only []; omega⟩,?_⟩
     ·subst he
      rw [List.take_add_one,List.take_add_one,hx,hy,hkk]
     ·exact okT
   ·(conv => whnf)
    exact Wk.bool (by
     have hge : a.length ≤ k:=by simpa using h
     symm; simp
     rwa [List.take_of_length_le hge,List.take_of_length_le (by omega)] at hkk)
theorem sameV_ [Go.AL.MX] (a b : View) : FCall Tryz.prog Gl 37 [.agg a.enc, .agg b.enc] [] (vB (decide (a.members = b.members) && decide (a.defs = b.defs))) [] := by
 obtain ⟨am,a⟩:=a
 obtain ⟨bm,b⟩:=b
 refine FCall.enterL hT hmix [] Tryz.func37 rfl rfl rfl fun hbd=>?_
 have ha : a.length ≤ 140737488355328 := by
  have:=(hbd _ (.head _) (LD a) (.tail _ (.head _))).1
  simpa using this
 (conv=>whnf)
 refine CallLeaf.wa (sameMs_ am bm) rfl ?_
 (conv=>whnf)
 refine split_intro (fun h1=>?_) (fun h1=>?_)
 ·(conv => whnf)
  exact Wk.bool (by simp at h1; simp [h1])
 ·have hm : am = bm := by simpa using h1
  (conv=>whnf)
  refine split_intro (fun h=>?_) (fun h=>?_)
  ·have h' := len_ne h
   simp at h'
   (conv=>whnf)
   exact Wk.bool (by symm; simp; intro _ e; subst e; exact h' rfl)
  ·have hab : a.length = b.length := by have := len_eq h; simpa using this
   (conv=>whnf)
   refine LWp.loop hT hmix [] (fun k : Nat=>[(5,vI k)]) (fun _=>[]) (fun k=>k ≤ a.length ∧ a.take k = b.take k) (fun k=>a.length - k) 0 ⟨Nat.zero_le _,rfl⟩ ?_
   (conv=>whnf)
   refine ⟨?_,fun k ⟨hk,hkk⟩=>?_⟩
   ·exact okT
   ·(conv => whnf)
    refine split_intro (fun h=>?_) (fun h=>?_)
    ·have hlt : k < a.length := by simpa using h
     obtain ⟨x,hx⟩:=exI hlt
     obtain ⟨y,hy⟩:=exI (hab ▸ hlt : k < b.length)
     (conv=>whnf)
     refine ⟨_,⟨by omega,getMap hx⟩,?_⟩
     (conv=>whnf)
     refine ⟨_,⟨by omega,getMap hy⟩,?_⟩
     (conv=>whnf)
     refine CallLeaf.wa (texts_ x y) rfl ?_
     (conv=>whnf)
     refine split_intro (fun hxy=>?_) (fun hxy=>?_)
     ·have hne : ¬ x = y := by simpa using hxy
      (conv=>whnf)
      exact Wk.bool (by
       symm; rw [Bool.and_eq_false_iff]; right; rw [decide_eq_false_iff_not]; intro e
       have e' : a = b:=e
       subst e'
       rw [hx] at hy; injection hy with hy; exact hne hy)
     ·have he : x = y := by simpa using hxy
      (conv=>whnf)
      refine ⟨_,add64 (c:=((k + 1 : Nat) : Int)) (by (try simp only []); omega) (by omega),?_⟩
      (conv=>whnf)
      refine ⟨k + 1,⟨⟨by omega,?_⟩,by simp only []; omega⟩,?_⟩
      ·subst he
       rw [List.take_add_one,List.take_add_one,hx,hy,hkk]
      ·exact okT
    ·(conv => whnf)
     exact Wk.bool (by
      have hge : a.length ≤ k:=by simpa using h
      rw [List.take_of_length_le hge,List.take_of_length_le (by omega)] at hkk
      symm; simp [hm,hkk])
abbrev Mem_encN (m : Mem) : List D:=[sD m.name,vI m.time,vI m.uid,vI m.gid,vI m.mode,LBn m.data]
theorem mem_wk (t : Tg) (l : List Mem) : Wk (.list t (l.map Mem_encN)) (LM l) :=
 Wk.listE t l (fun _ => rfl) (fun a i h1 h2 => by
  have hi : i < 6:=h1
  have : i = 0 ∨ i = 1 ∨ i = 2 ∨ i = 3 ∨ i = 4 ∨ i = 5:=by omega
  rcases this with rfl|rfl|rfl|rfl|rfl|rfl
  ·exact Wk.refl _
  ·exact Wk.refl _
  ·exact Wk.refl _
  ·exact Wk.refl _
  ·exact Wk.refl _
  ·exact Wk.list _ _) (fun a d hd=>by simp at hd; rcases hd with rfl|rfl|rfl|rfl|rfl|rfl <;> rfl)
end Go.Proofs.YtimjnmbpbobfiaaGreatDoor
