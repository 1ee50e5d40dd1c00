/- Names of members: the lines of a table. No condition. -/
import Derived.Test.YtimjnmbpbobfiaaGreatDoorIAc
import Derived.Test.YtimjnmbpbobfiaaGreatDoorIWb
import Derived.Test.YtimjnmbpbobfiaaGreatDoorIPa
set_option linter.unusedVariables false
set_option linter.unusedSimpArgs false
namespace Go.Proofs.YtimjnmbpbobfiaaGreatDoor.H
open Go Go.AL Go.AL.Hd Go.AL.Ln
set_option maxRecDepth 100000
set_option maxHeartbeats 8000000
abbrev eLn (p : Nat × Str) : List D:=[vI p.1,sD p.2]
theorem lines_ [Go.AL.MX] (t : Str) : FCall Tryz.prog Gl 102 [LB t] [] (.func (.func 118) [] [.ptr 0 0]) [.cells [LB t]] := by
 refine FCall.enterO hT hmix [] Tryz.func102 rfl rfl rfl fun hbd=>?_
 (conv=>whnf)
 refine ⟨[0],rfl,finT,?_⟩
 (conv=>whnf)
 exact Wk.refl _
theorem cutI_none {t : Str} (h : cut2 t = none) : cutI t = -1:=by unfold cutI; rw [h]
theorem cutI_some {t a b : Str} (h : cut2 t = some (a,b)) : cutI t = (a.length : Int):=by unfold cutI; rw [h]
theorem cut_drop {t a b : Str} {k : Nat} (h : cut2 (t.drop k) = some (a, b)) : b = t.drop (k + a.length + 2) ∧ k + a.length + 2 ≤ t.length ∧ prt t k (k + a.length) = a := by
 have h1:=cut2_some h
 have h2:=congrArg List.length h1
 simp only [List.length_drop,List.length_append,List.length_cons] at h2
 have h3 : k + a.length + 2 ≤ t.length:=by omega
 have h4 : List.drop (a.length + 2) (a ++ 47 :: 10 :: b) = b:=by rw [List.drop_append]; simp
 refine ⟨?_,h3,?_⟩
 ·have := congrArg (List.drop (a.length + 2)) h1
  rw [List.drop_drop,h4] at this
  rw [Nat.add_assoc]
  exact this.symm
 ·unfold prt
  rw [List.drop_take,h1]
  simp
theorem iter_ [Go.AL.MX] (t : Str) (hl : t.length < 4294967281) : IterSpec Tryz.prog Gl 118 (.cells [LB t]) eLn (linesP 0 t) := by
 refine ⟨⟨_,Tryz.func118,by kernel_rfl,by kernel_rfl⟩,fun l B ok HY=>?_⟩
 refine FCall.enterO hT hmix [] Tryz.func118 rfl rfl rfl fun hbd=>?_
 (conv=>whnf)
 refine LWp.loop hT hmix [] (fun x : List (Nat × Str) × Nat=>[(3,vI x.2)]) (fun x=>[(0,.bag (B x.1))]) (fun x=>x.2 ≤ t.length ∧ linesP 0 t = x.1 ++ linesP x.2 (t.drop x.2) ∧ (∀ p y s,x.1 = p ++ y :: s → ok (p ++ [y]) = true) ∧ visitR ok [] (linesP 0 t) = visitR ok x.1 (linesP x.2 (t.drop x.2))) (fun x=>t.length - x.2) ([],0) ⟨Nat.zero_le _,rfl,(fun p y s h=>by simp at h),rfl⟩ ?_
 (conv=>whnf)
 refine ⟨?_,fun ⟨pre,k⟩ ⟨hk,hx,hok,hv⟩=>?_⟩
 ·exact okT
 ·(conv => whnf)
  refine split_intro (fun h=>?_) (fun h=>?_)
  ·have hlt : k < t.length := by have := of_decide_eq_true h; simp only [List.length_map] at this; omega
   have hne : t.drop k ≠ []:=fun e=>by have:=congrArg List.length e; simp at this; omega
   have hdl : (t.drop k).length < 4294967281:=by simp; omega
   (conv=>whnf)
   refine ⟨(t.drop k).map byteD,slL (by omega) (by simp; omega) (by simp) (fun _=>rfl) (by simp),?_⟩
   (conv=>whnf)
   refine CallLeaf.wa (bindex_ (t.drop k) .any .any hdl) rfl ?_
   cases hc : cut2 (t.drop k) with
   | none =>
    have hxs:=linesP_none (k:=k) hc
    rw [if_neg hne] at hxs
    have HYx:=HY pre (k,t.drop k ++ [47]) [] (by rw [hx,hxs]) hok
    have hvv : visitR ok pre (linesP k (t.drop k)) = pre ++ [(k, t.drop k ++ [47])] := by
     rw [hxs]; simp only [visitR]; cases ok (pre ++ [(k,t.drop k ++ [47])]) <;> rfl
    rw [hv,hvv,cutI_none hc]
    (conv=>whnf)
    refine ⟨(t.drop k).map byteD,slL (by omega) (by simp; omega) (by simp) (fun _=>rfl) (by simp),?_⟩
    (conv=>whnf)
    refine ⟨t.drop k,rfl,?_⟩
    (conv=>whnf)
    refine ⟨sB (t.drop k ++ [47]),⟨by rw [sB_sz]; show (t.drop k).length + 1 ≤ _; omega,sB_ap _ _⟩,?_⟩
    (conv=>whnf)
    refine YLeaf.o [0] argT (HYx) rfl rfl triT triT triT rfl rfl ?_
    (conv=>whnf)
    refine ⟨[0,1],rfl,finT,?_⟩
    exact Wk.refl _
   | some q =>
    obtain ⟨a,b⟩:=q
    obtain ⟨hb,hkb,ha⟩:=cut_drop hc
    have hxs:=linesP_some (k:=k) hc
    have HYx:=HY pre (k,a) (linesP (k + a.length + 2) b) (by rw [hx,hxs]) hok
    rw [cutI_some hc]
    (conv=>whnf)
    refine ⟨_,add64 (c:=((k + a.length : Nat) : Int)) (by show (k : Int) + (a.length : Int) = _; omega) (by omega),?_⟩
    (conv=>whnf)
    refine ⟨a.map byteD,slL (by show 0 ≤ (k : Int); omega) (by show (k : Int) ≤ _; omega) (by simp; omega) (fun _=>rfl) (by show (t.take (k + a.length)).drop k = a; exact ha),?_⟩
    (conv=>whnf)
    refine ⟨a,rfl,?_⟩
    (conv=>whnf)
    refine YLeaf.o [0] argT (HYx) rfl rfl triT triT triT rfl rfl ?_
    (conv=>whnf)
    have hvv : visitR ok [] (linesP 0 t) = match ok (pre ++ [(k,a)]) with|true=>visitR ok (pre ++ [(k,a)]) (linesP (k + a.length + 2) b)|false=>pre ++ [(k,a)]:=by rw [hv,hxs]; rfl
    cases ho : ok (pre ++ [(k,a)]) with
    | true =>
     rw [ho] at hvv
     (conv=>whnf)
     refine ⟨_,add64 (c:=((a.length + 2 : Nat) : Int)) (by omega) (by omega),?_⟩
     (conv=>whnf)
     refine ⟨_,add64 (c:=((k + a.length + 2 : Nat) : Int)) (by show (k : Int) + _ = _; omega) (by omega),?_⟩
     (conv=>whnf)
     refine ⟨(pre ++ [(k,a)],k + a.length + 2),⟨⟨by omega,by rw [hx,hxs,← hb]; simp,?_,by rw [hvv,← hb]⟩,by show t.length - (k + a.length + 2) < t.length - k; omega⟩,?_⟩
     ·intro p y s h
      replace h : pre ++ [(k,a)] = p ++ y :: s:=h
      rcases List.eq_nil_or_concat s with rfl|⟨s',z,rfl⟩
      ·have := List.append_inj' h rfl
       obtain ⟨e1,e2⟩:=this
       simp at e2
       rw [← e1,← e2]; exact ho
      ·have e3 : pre ++ [(k, a)] = (p ++ y :: s') ++ [z] := by rw [h]; simp
       exact hok p y s' (List.append_inj' e3 rfl).1
     ·exact okT
    | false =>
     rw [ho] at hvv
     rw [hvv]
     (conv=>whnf)
     refine ⟨[0,1],rfl,finT,?_⟩
     exact Wk.refl _
  ·have hk' : k = t.length := by have := of_decide_eq_false h; simp only [List.length_map] at this; omega
   subst hk'
   have e0 : linesP t.length (t.drop t.length) = []:=by rw [List.drop_length]; exact linesP_none rfl
   rw [hv,e0]
   (conv=>whnf)
   refine ⟨[0,1],rfl,finT,?_⟩
   exact Wk.refl _
end Go.Proofs.YtimjnmbpbobfiaaGreatDoor.H

namespace Go.Proofs.YtimjnmbpbobfiaaGreatDoor.H
open Go Go.AL Go.AL.Hd Go.AL.Ln
set_option maxRecDepth 100000
set_option maxHeartbeats 8000000
abbrev okL (p : List (Nat × Str)) : Bool:=p.all fun x=>validN x.2
abbrev pvL (p : List (Nat × Str)) : List Str:=(p.map (·.2)).takeWhile validN
theorem pvL_ok : ∀ {p : List (Nat × Str)}, okL p = true → pvL p = p.map (·.2)
 | [],_=>rfl
 | x :: p,h=>by
  simp only [okL,List.all_cons,Bool.and_eq_true] at h
  have:=pvL_ok (p:=p) h.2
  simp only [pvL,List.map_cons,List.takeWhile_cons,h.1,if_true] at this ⊢
  rw [this]
theorem pvL_bad {p : List (Nat × Str)} {x : Nat × Str} (h : okL p = true) (hx : validN x.2 = false) : pvL (p ++ [x]) = p.map (·.2) := by
 have:=pvL_ok h
 simp only [pvL,List.map_append,List.map_cons,List.map_nil] at this ⊢
 rw [List.takeWhile_append,this]
 simp [hx]
theorem okL_snoc (p : List (Nat × Str)) (x : Nat × Str) : okL (p ++ [x]) = (okL p && validN x.2):=by simp [okL]
abbrev coE (p : List (Nat × Str)) : So:=[(0,.cells [.nil]),(8,.cells [vI (if okL p then 0 else 7)]),(512,.cells [.list (.tok 403) ((pvL p).map eS)]),(403,.tok ((pvL p).map eS).length 1)]
abbrev juE (p : List (Nat × Str)) : Exit:=if okL p then .normal else .ret
theorem pre_ok {p : List (Nat × Str)} (h : ∀ a y s, p = a ++ y :: s → juE (a ++ [y]) = .normal) : okL p = true := by
 rcases List.eq_nil_or_concat p with rfl|⟨a,y,rfl⟩
 ·rfl
 ·have := h a y [] (by simp)
  cases ho : okL (a ++ [y]) with
  | true=>simpa using ho
  | false=>rw [juE,ho] at this; simp at this
theorem visitE : ∀ (r pre : List (Nat × Str)), okL pre = true → (okL (visitR (fun p => (jcode (juE p)).isNone) pre r) = true → visitR (fun p => (jcode (juE p)).isNone) pre r = pre ++ r) ∧
  (okL (visitR (fun p=>(jcode (juE p)).isNone) pre r) = false → okL (pre ++ r) = false)
 | [],pre,h=>by simp [visitR,h]
 | x :: r, pre, h => by
  have e : (jcode (juE (pre ++ [x]))).isNone = okL (pre ++ [x]):=by cases ho : okL (pre ++ [x]) <;> simp only [juE,ho] <;> rfl
  simp only [visitR,e]
  cases ho : okL (pre ++ [x]) with
  | true =>
   have:=visitE r (pre ++ [x]) ho
   simpa using this
  | false =>
   simp only []
   refine ⟨fun h2=>by rw [ho] at h2; simp at h2,fun _=>?_⟩
   have:=ho
   simp only [okL,List.all_append,List.all_cons,List.all_nil,Bool.and_true,Bool.and_eq_false_iff] at this ⊢
   rcases this with h|h
   ·exact .inl h
   ·exact .inr (.inl h)
theorem ent_ok {t : Str} (h : okL (linesP 0 t) = true) : entR t = ((linesP 0 t).map (·.2), 0) := by
 unfold entR; rw [ent_lines _ 0 (Nat.le_refl _),if_pos h]
theorem ent_bad {t : Str} (h : okL (linesP 0 t) = false) : entR t = ([], 7) := by
 unfold entR; rw [ent_lines _ 0 (Nat.le_refl _),if_neg (by have h' : ((linesP 0 t).all fun p=>validN p.snd) = false:=h; rw [h']; simp)]
theorem entries_ [Go.AL.MX] (t : Str) (hl : t.length < 4294967280) : FCall Tryz.prog Gl 94 [LB t] [] (.tuple [LSn (entR t).1, vI (entR t).2]) [] := by
 refine FCall.enterM hT hmix [] Tryz.func94 rfl rfl rfl fun hbd base=>?_
 (conv=>whnf)
 refine CallLeaf.oa [1032] (lines_ t) rfl rfl rfl rfl ?_
 (conv=>whnf)
 have hL:=lines_len _ 0 (Nat.le_refl t.length)
 refine LWp.rangeFunc hT hmix rfl [] [] 400000 1032 [8] coE juE (iter_ t (by omega)) (fun _=>rfl) (fun _=>rfl) rfl (fun p=>by cases h : okL p <;> simp [juE,h,jok]) rfl rfl rfl rfl (by simp) rfl (fun p=>?_) ?_
 ·(repeat' (first|exact trivial|exact rfl|refine And.intro ?_ ?_|(conv=>whnf)))
 ·(conv => whnf)
  refine ⟨?_,?_,?_,fun pre x r he hn=>?_,fun v hv=>?_⟩
  ·exact okT
  ·(repeat' (first|exact trivial|exact rfl|refine And.intro ?_ ?_|(conv=>whnf)))
  ·(repeat' (first|exact trivial|exact rfl|refine And.intro ?_ ?_|(conv=>whnf)))
  ·have hok := pre_ok hn
   have hmem : x ∈ linesP 0 t:=by rw [he]; simp
   have hval : x.2.length < 4294967281:=by have:=(hL.2 x hmem).1; omega
   have hpl : pre.length + 1 ≤ t.length:=by have:=hL.1; rw [he] at this; simp at this; omega
   (conv=>whnf)
   refine CallLeaf.wa (lvalid_ x.2 hval) rfl ?_
   (conv=>whnf)
   cases hx : validN x.2 with
   | false =>
    have e1 : okL (pre ++ [x]) = false:=by rw [okL_snoc,hx]; simp
    have e2:=pvL_bad hok hx
    have eC : coE (pre ++ [x]) = [(0,.cells [.nil]),(8,.cells [vI 7]),(512,.cells [.list (.tok 403) ((pvL pre).map eS)]),(403,.tok ((pvL pre).map eS).length 1)]:=by simp only [coE,e1,e2,pvL_ok hok]; rfl
    (conv=>whnf)
    refine ⟨by simp only [juE,e1]; rfl,?_⟩
    rw [eC]
    (repeat' (first|exact trivial|exact Wk.refl _|exact ObWk.refl _|exact rfl|exact ⟨_,rfl⟩|exact Nat.zero_lt_one|refine And.intro ?_ ?_|unfold okToR|(unfold liveKs; conv=>whnf)|(unfold okO; conv=>whnf)|(unfold okS; conv=>whnf)|(unfold SlotOk; conv=>whnf)|(unfold ObjOk; conv=>whnf)|(unfold okCells; conv=>whnf)|exact Nat.zero_lt_succ _))
   | true =>
    have e1 : okL (pre ++ [x]) = true:=by rw [okL_snoc,hx,hok]; rfl
    have e2:=pvL_ok e1
    have eC : coE (pre ++ [x]) = [(0,.cells [.nil]),(8,.cells [vI 0]),(512,.cells [.list (.tok 403) ((pvL pre ++ [x.2]).map eS)]),(403,.tok ((pvL pre ++ [x.2]).map eS).length 1)]:=by simp only [coE,e1,e2,pvL_ok hok,List.map_append,List.map_cons,List.map_nil]; rfl
    have eD : coE pre = [(0,.cells [.nil]),(8,.cells [vI 0]),(512,.cells [.list (.tok 403) ((pvL pre).map eS)]),(403,.tok ((pvL pre).map eS).length 1)]:=by simp only [coE,hok]; rfl
    (conv=>whnf)
    refine ⟨_,appL (f:=eS) (xs:=pvL pre) (ys:=[x.2]) (zs:=pvL pre ++ [x.2]) (by simp) rfl (fun _=>rfl) rfl (by rw [pvL_ok hok]; show _ * 16 ≤ _; simp; omega),?_⟩
    (conv=>whnf)
    refine ⟨by simp only [juE,e1]; rfl,?_⟩
    rw [eC,eD]
    (repeat' (first|exact trivial|exact Wk.refl _|exact ObWk.refl _|exact rfl|exact ⟨_,rfl⟩|exact Nat.zero_lt_one|refine And.intro ?_ ?_|unfold okToR|(unfold liveKs; conv=>whnf)|(unfold okO; conv=>whnf)|(unfold okS; conv=>whnf)|(unfold SlotOk; conv=>whnf)|(unfold ObjOk; conv=>whnf)|(unfold okCells; conv=>whnf)|exact Nat.zero_lt_succ _))
  ·obtain ⟨hv1, hv2⟩ := visitE (linesP 0 t) [] rfl
   rw [← hv] at hv1 hv2
   have hok : okL v = true ∨ okL v = false:=by cases okL v <;> simp
   rcases hok with hok|hok
   ·have e3 := hv1 hok
    simp only [List.nil_append] at e3
    rw [show juE v = .normal by simp [juE,hok]]
    have e4:=pvL_ok hok
    rw [ent_ok (by rw [← e3]; exact hok),← e3,← e4]
    (conv=>whnf)
    refine ⟨[],rfl,finT,?_⟩
    (conv=>whnf)
    exact Wk.tuple (Wks.cons (Wk.refl _) (Wks.cons (Wk.refl _) Wks.nil))
   ·have e3 := hv2 hok
    rw [show juE v = .ret by simp [juE,hok],ent_bad (by simpa using e3)]
    (conv=>whnf)
    refine ⟨[],rfl,finT,?_⟩
    rw [hok]
    (conv=>whnf)
    exact Wk.tuple (Wks.cons (Wk.natN rfl) (Wks.cons (Wk.refl _) Wks.nil))
end Go.Proofs.YtimjnmbpbobfiaaGreatDoor.H

namespace Go.Proofs.YtimjnmbpbobfiaaGreatDoor.H
open Go Go.AL Go.AL.Hd Go.AL.Ln
set_option maxRecDepth 100000
set_option maxHeartbeats 8000000
abbrev Few (ns : List Str) : Prop:=ns.length ≤ 100000 ∧ ∀ n ∈ ns,n.length ≤ 100000
theorem take_snoc {α : Type} {l : List α} {k : Nat} {x : α} (h : l[k]? = some x) : l.take (k + 1) = l.take k ++ [x] := by
 rw [List.take_add_one,h]; rfl
end Go.Proofs.YtimjnmbpbobfiaaGreatDoor.H

namespace Go.Proofs.YtimjnmbpbobfiaaGreatDoor.H
open Go Go.AL Go.AL.Hd Go.AL.Ln
set_option maxRecDepth 100000
set_option maxHeartbeats 8000000
theorem rshort_ [Go.AL.MX] (l : Str) (hl : l.length < 4294967281) : FCall Tryz.prog Gl 88 [sD l] [] (vB (shortN l)) [] := by
 have hs:=sB_sz l
 have CA:=nvalid_ l (by omega)
 refine FCall.enterL hT hmix [] Tryz.func88 rfl rfl rfl fun hbd=>?_
 (conv=>whnf)
 refine CallLeaf.wa (CA) rfl ?_
 cases hv : validN l with
 | false =>
  have e : shortN l = false:=by unfold shortN; rw [hv]; rfl
  rw [e]
  (conv=>whnf)
  exact Wk.refl _
 | true =>
  have hlen:=valid_not hv
  (conv=>whnf)
  refine split_intro (fun h2=>?_) (fun h2=>?_)
  ·have h2' := of_decide_eq_true h2
   obtain ⟨x,hx,hg⟩:=last_at (l:=l) (by omega)
   (conv=>whnf)
   refine ⟨_,sub64 (c:=(l.length : Int) - 1) (by omega) (by omega),?_⟩
   (conv=>whnf)
   refine ⟨x,⟨by omega,hx⟩,?_⟩
   (conv=>whnf)
   cases hq : ((x.toNat : Int) != 32) with
   | true =>
    have hx2 : x ≠ 32:=fun e=>by subst e; simp at hq
    have e : shortN l = true:=by unfold shortN; rw [hv,hg]; simp [hx2]; omega
    rw [e]
    exact Wk.bool rfl
   | false =>
    obtain rfl : x = 32:=O.u8_eq (y:=32) hq
    have e : shortN l = false:=by unfold shortN; rw [hg]; simp
    rw [e]
    exact Wk.bool rfl
  ·have h2' := of_decide_eq_false h2
   have e : shortN l = false:=by unfold shortN; rw [decide_eq_false (show ¬ l.length ≤ 15 by omega)]; simp
   rw [e]
   (conv=>whnf)
   exact Wk.refl _
theorem tab_len {ns : List Str} (hf : Few ns) (k : Nat) : (tabP (ns.take k)).length ≤ 10000200000 := by
 have h1:=tabP_len (l:=ns.take k) (c:=100000) fun n hn=>hf.2 n (List.mem_of_mem_take hn)
 have h3 : (ns.take k).length ≤ 100000:=by have:=hf.1; rw [List.length_take]; omega
 have:=Nat.mul_le_mul_right 100002 h3
 omega
theorem rtable_ [Go.AL.MX] (ns : List Str) (hf : Few ns) : FCall Tryz.prog Gl 90 [LS ns] [] (LBn (tabP ns)) [] := by
 refine FCall.enterL hT hmix [] Tryz.func90 rfl rfl rfl fun hbd=>?_
 have hcl:=hf.1
 (conv=>whnf)
 refine LWp.loop hT hmix [] (fun k : Nat=>[(4,vI k),(3,.list (.tok 403) ((tabP (ns.take k)).map byteD))]) (fun k=>[(403,.tok ((tabP (ns.take k)).map byteD).length 1)]) (fun k=>k ≤ ns.length) (fun k=>ns.length - k) 0 (Nat.zero_le _) ?_
 (conv=>whnf)
 refine ⟨?_,fun k hk=>?_⟩
 ·exact okT
 ·have ht := tab_len hf k
  have ht2:=tab_len hf (k + 1)
  replace hk : k ≤ ns.length:=hk
  (conv=>whnf)
  refine split_intro (fun h=>?_) (fun h=>?_)
  ·have hlt : k < ns.length := by have := of_decide_eq_true h; simp only [List.length_map] at this; omega
   obtain ⟨n,hx⟩:=exI hlt
   have hnl:=hf.2 n (List.mem_of_getElem? hx)
   have htn : tabP (ns.take (k + 1)) = tabP (ns.take k) ++ n ++ [47,10]:=by rw [take_snoc hx,tabP_app,tabP_cons,tabP_nil]; simp
   (conv=>whnf)
   refine ⟨_,⟨by omega,getMap hx⟩,?_⟩
   (conv=>whnf)
   refine ⟨_,appL (f:=byteD) (xs:=tabP (ns.take k)) (ys:=n) (zs:=tabP (ns.take k) ++ n) (by simp) rfl (fun _=>rfl) rfl (by show _ * 1 ≤ _; simp; omega),?_⟩
   (conv=>whnf)
   refine ⟨_,appL (f:=byteD) (xs:=tabP (ns.take k) ++ n) (ys:=[47,10]) (zs:=tabP (ns.take (k + 1))) (by simp) rfl (fun _=>rfl) htn.symm (by show _ * 1 ≤ _; omega),?_⟩
   (conv=>whnf)
   refine ⟨_,add64 (c:=((k + 1 : Nat) : Int)) (by (try simp only []); omega) (by omega),?_⟩
   (conv=>whnf)
   refine ⟨k + 1,⟨hlt,by show ns.length - (k + 1) < ns.length - k; omega⟩,?_⟩
   exact okT
  ·have hk' : k = ns.length := by have := of_decide_eq_false h; simp only [List.length_map] at this; omega
   subst hk'
   (conv=>whnf)
   exact Wk.of_eq (by simp only [List.take_length]; rfl)
theorem few_take {ns : List Str} (hf : Few ns) (k : Nat) : Few (ns.take k):=⟨by have:=hf.1; rw [List.length_take]; omega,fun n hn=>hf.2 n (List.mem_of_mem_take hn)⟩
end Go.Proofs.YtimjnmbpbobfiaaGreatDoor.H

namespace Go.Proofs.YtimjnmbpbobfiaaGreatDoor.H
open Go Go.AL Go.AL.Hd Go.AL.Ln
set_option maxRecDepth 100000
set_option maxHeartbeats 8000000
theorem rentries_ [Go.AL.MX] (t : Str) (hl : t.length < 4294967280) : FCall Tryz.prog Gl 68 [LB t] [] (.tuple [LSn (entR t).1, vI (entR t).2]) [] := by
 refine FCall.enterL hT hmix [] Tryz.func68 rfl rfl rfl fun hbd=>?_
 (conv=>whnf)
 refine LWp.loop hT hmix [] (fun x : Nat × Nat × List Str=>[(6,vI x.1),(5,vI x.2.1),(4,.list (.tok 403) (x.2.2.map eS))]) (fun x=>[(403,.tok (x.2.2.map eS).length 1)]) (fun x=>RdT t x.2.2 x.2.1 x.1 ∧ x.2.2.length ≤ x.1) (fun x=>t.length - x.1) (0,0,[]) ⟨⟨Nat.le_refl _,Nat.zero_le _,rfl,fun n hn=>by simp at hn,fun q h1 h2=>by omega⟩,Nat.le_refl _⟩ ?_
 (conv=>whnf)
 refine ⟨?_,fun ⟨k,fr,out⟩ ⟨hR,hol⟩=>?_⟩
 ·exact okT
 ·have hle := hR.le
  have hli:=hR.li
  simp only at hle hli hol hR
  (conv=>whnf)
  refine split_intro (fun h=>?_) (fun h=>?_)
  ·have hlt : k < t.length := by have := of_decide_eq_true h; simp only [List.length_map] at this; omega
   obtain ⟨c,hx⟩:=exI hlt
   (conv=>whnf)
   refine ⟨_,⟨by omega,getMap hx⟩,?_⟩
   (conv=>whnf)
   refine split_intro (fun h2=>?_) (fun h2=>?_)
   ·have h2' : c ≠ 10 := O.u8_ne (y := 10) h2
    (conv=>whnf)
    refine ⟨_,add64 (c:=((k + 1 : Nat) : Int)) (by (try simp only []); omega) (by omega),?_⟩
    (conv=>whnf)
    refine ⟨(k + 1,fr,out),⟨⟨hR.skip hlt (by rw [hx]; simpa using h2'),by show out.length ≤ k + 1; omega⟩,by show t.length - (k + 1) < t.length - k; omega⟩,?_⟩
    exact okT
   ·obtain rfl : c = 10 := O.u8_eq (y := 10) h2
    have bad : ∀ {ns : List Str}, ¬ (fr < k ∧ t[k - 1]? = some 47 ∧ validN (prt t fr (k - 1)) = true) → entR t = ([], 7) := by
     intro ns hn
     unfold entR
     cases he : entO t with
     | none=>rfl
     | some ns=>exact absurd (hR.fail hx he) hn
    (conv=>whnf)
    refine split_intro (fun h3=>?_) (fun h3=>?_)
    ·have h3' : k = fr := by have := h3; simp at this; omega
     rw [bad (ns:=[]) (fun h=>by omega)]
     (conv=>whnf)
     exact Wk.tuple (Wks.cons (Wk.natN rfl) (Wks.cons (Wk.refl _) Wks.nil))
    ·have h3' : fr < k := by have := h3; simp at this; omega
     obtain ⟨c2,hx2⟩:=exI (l:=t) (k:=k - 1) (by omega)
     (conv=>whnf)
     refine ⟨_,sub64 (c:=((k - 1 : Nat) : Int)) (by show (k : Int) - 1 = _; omega) (by omega),?_⟩
     (conv=>whnf)
     refine ⟨_,⟨by omega,getMap hx2⟩,?_⟩
     (conv=>whnf)
     refine split_intro (fun h4=>?_) (fun h4=>?_)
     ·have h4' : c2 ≠ 47 := O.u8_ne (y := 47) h4
      rw [bad (ns:=[]) (fun h=>by rw [hx2] at h; simp at h; exact h4' h.2.1)]
      (conv=>whnf)
      exact Wk.tuple (Wks.cons (Wk.natN rfl) (Wks.cons (Wk.refl _) Wks.nil))
     ·obtain rfl : c2 = 47 := O.u8_eq (y := 47) h4
      have hpl : (prt t fr (k - 1)).length = k - 1 - fr:=prt_len (by omega) (by omega)
      (conv=>whnf)
      refine ⟨_,sub64 (c:=((k - 1 : Nat) : Int)) (by show (k : Int) - 1 = _; omega) (by omega),?_⟩
      (conv=>whnf)
      refine ⟨(prt t fr (k - 1)).map byteD,slL (by show 0 ≤ (fr : Int); omega) (by show (fr : Int) ≤ _; omega) (by simp; omega) (fun _=>rfl) (by show (t.take (k - 1)).drop fr = _; rfl),?_⟩
      (conv=>whnf)
      refine ⟨prt t fr (k - 1),rfl,?_⟩
      (conv=>whnf)
      refine CallLeaf.wa (nvalid_ (prt t fr (k - 1)) (by omega)) rfl ?_
      cases hv : validN (prt t fr (k - 1)) with
      | false =>
       rw [bad (ns:=[]) (fun h=>by rw [hv] at h; simp at h)]
       (conv=>whnf)
       exact Wk.tuple (Wks.cons (Wk.natN rfl) (Wks.cons (Wk.refl _) Wks.nil))
      | true =>
       (conv=>whnf)
       refine ⟨_,sub64 (c:=((k - 1 : Nat) : Int)) (by show (k : Int) - 1 = _; omega) (by omega),?_⟩
       (conv=>whnf)
       refine ⟨(prt t fr (k - 1)).map byteD,slL (by show 0 ≤ (fr : Int); omega) (by show (fr : Int) ≤ _; omega) (by simp; omega) (fun _=>rfl) (by show (t.take (k - 1)).drop fr = _; rfl),?_⟩
       (conv=>whnf)
       refine ⟨prt t fr (k - 1),rfl,?_⟩
       (conv=>whnf)
       refine ⟨_,appL (f:=eS) (xs:=out) (ys:=[prt t fr (k - 1)]) (zs:=out ++ [prt t fr (k - 1)]) (by simp) rfl (fun _=>rfl) rfl (by show _ * 16 ≤ _; simp; omega),?_⟩
       (conv=>whnf)
       refine ⟨_,add64 (c:=((k + 1 : Nat) : Int)) (by (try simp only []); omega) (by omega),?_⟩
       (conv=>whnf)
       refine ⟨_,add64 (c:=((k + 1 : Nat) : Int)) (by (try simp only []); omega) (by omega),?_⟩
       (conv=>whnf)
       refine ⟨(k + 1,k + 1,out ++ [prt t fr (k - 1)]),⟨⟨hR.step hx h3' hx2 hv,by simp; omega⟩,by show t.length - (k + 1) < t.length - k; omega⟩,?_⟩
       exact okT
  ·have hk' : k = t.length := by have := of_decide_eq_false h; simp only [List.length_map] at this; omega
   subst hk'
   obtain ⟨d1,d2⟩:=hR.done
   (conv=>whnf)
   refine split_intro (fun h5=>?_) (fun h5=>?_)
   ·have h5' : fr ≠ t.length := fun e => by subst e; simp at h5
    have e : entR t = ([],7):=by unfold entR; rw [d2 h5']
    rw [e]
    (conv=>whnf)
    exact Wk.tuple (Wks.cons (Wk.natN rfl) (Wks.cons (Wk.refl _) Wks.nil))
   ·have h5' : fr = t.length := by simp at h5; omega
    have e : entR t = (out,0):=by unfold entR; rw [d1 h5']
    rw [e]
    (conv=>whnf)
    exact Wk.tuple (Wks.cons (Wk.refl _) (Wks.cons (Wk.refl _) Wks.nil))
end Go.Proofs.YtimjnmbpbobfiaaGreatDoor.H

namespace Go.Proofs.YtimjnmbpbobfiaaGreatDoor.H
open Go Go.AL Go.AL.Hd Go.AL.Ln
set_option maxRecDepth 100000
set_option maxHeartbeats 8000000
abbrev fnd (n : Nat) (p : List (Nat × Str)) : Option (Nat × Str):=p.find? fun x=>decide (x.1 = n)
abbrev juF (n : Nat) (p : List (Nat × Str)) : Exit:=match fnd n p with|none=>.normal|some _=>.ret
abbrev coF (n : Nat) (p : List (Nat × Str)) : So:=[(0,.cells [sD (match fnd n p with|none=>[]|some x=>x.2)]),(8,.cells [vI 0])]
theorem pre_no {n : Nat} {p : List (Nat × Str)} (h : ∀ a y s, p = a ++ y :: s → juF n (a ++ [y]) = .normal) : fnd n p = none := by
 rcases List.eq_nil_or_concat p with rfl|⟨a,y,rfl⟩
 ·rfl
 ·have := h a y [] (by simp)
  cases ho : fnd n (a ++ [y]) with
  | none=>simpa using ho
  | some z=>rw [juF,ho] at this; simp at this
theorem fnd_snoc {n : Nat} {p : List (Nat × Str)} (h : fnd n p = none) (x : Nat × Str) : fnd n (p ++ [x]) = if x.1 = n then some x else none := by
 have h' : List.find? (fun x : Nat × Str=>decide (x.1 = n)) p = none:=h
 by_cases hx : x.1 = n <;> simp [fnd,List.find?_append,h',List.find?_cons,hx]
theorem visitF (n : Nat) : ∀ (r pre : List (Nat × Str)), fnd n pre = none → fnd n (visitR (fun p => (jcode (juF n p)).isNone) pre r) = fnd n (pre ++ r)
 | [],pre,h=>by simp [visitR,h]
 | x :: r, pre, h => by
  have hs:=fnd_snoc h x
  have e : (jcode (juF n (pre ++ [x]))).isNone = (fnd n (pre ++ [x])).isNone:=by cases ho : fnd n (pre ++ [x]) <;> simp only [juF,ho] <;> rfl
  simp only [visitR,e]
  cases ho : fnd n (pre ++ [x]) with
  | none =>
   have:=visitF n r (pre ++ [x]) ho
   simpa using this
  | some y =>
   simp only [Option.isNone_some]
   rw [show pre ++ x :: r = (pre ++ [x]) ++ r by simp]
   have ho' : List.find? (fun x : Nat × Str=>decide (x.1 = n)) (pre ++ [x]) = some y:=ho
   rw [ho,fnd,List.find?_append,ho']
   rfl
theorem resolve_ [Go.AL.MX] (fl t : Str) (hf : fl.length < 4294967281) (hl : t.length < 4294967280) : FCall Tryz.prog Gl 95 [sD fl, LB t] [] (.tuple [sD (resP fl t).1, vI (resP fl t).2]) [] := by
 have hL:=lines_len _ 0 (Nat.le_refl t.length)
 refine FCall.enterM hT hmix [] Tryz.func95 rfl rfl rfl fun hbd base=>?_
 (conv=>whnf)
 refine CallLeaf.wa (csuf_ fl hf) rfl ?_
 (conv=>whnf)
 cases hS : decide (fl.getLast? = some 47) with
 | true =>
  have hS':=of_decide_eq_true hS
  rw [if_pos hS']
  (conv=>whnf)
  refine CallLeaf.wa (lshort_ fl.dropLast (by simp; omega)) rfl ?_
  cases hA : shortN fl.dropLast with
  | true =>
   have hres : resP fl t = (fl.dropLast,0):=by unfold resP; rw [if_pos ⟨hS',hA⟩]
   rw [hres]
   (conv=>whnf)
   refine ⟨[],rfl,finT,?_⟩
   (conv=>whnf)
   exact Wk.refl _
  | false =>
   have hA' : ¬ (fl.getLast? = some 47 ∧ shortN fl.dropLast = true):=fun h=>by rw [hA] at h; simp at h
   (conv=>whnf)
   refine CallLeaf.wa (cpre_ fl hf) rfl ?_
   (conv=>whnf)
   cases fl with
   | nil =>
    have hres : resP [] t = ([],6):=rfl
    rw [hres]
    (conv=>whnf)
    refine ⟨[],rfl,finT,?_⟩
    (conv=>whnf)
    exact Wk.refl _
   | cons c ds =>
    by_cases hc : c = 47
    ·subst hc
     rw [show (decide ((47 :: ds : Str).head? = some 47)) = true from rfl,if_pos (show (47 :: ds : Str).head? = some 47 from rfl)]
     have hres0 : resP (47 :: ds) t = (if ds.length ≤ 15 ∧ ds.contains 32 = false ∧ (parseR 10 ds).2 = 0 then (match (linesP 0 t).find? (fun p => decide (p.1 = (parseR 10 ds).1)) with | some p => (p.2, 0) | none => ([], 6)) else ([], 6) : Str × Int) := by
      unfold resP
      rw [if_neg hA']
      rfl
     have hdl : ds.length < 4294967281:=by simp at hf; omega
     have hds:=sB_sz ds
     simp only [List.tail_cons]
     (conv=>whnf)
     refine split_intro (fun h1=>?_) (fun h1=>?_)
     ·have h1' := of_decide_eq_true h1
      rw [hres0,if_neg (fun h=>by omega)]
      (conv=>whnf)
      refine ⟨[],rfl,finT,?_⟩
      (conv=>whnf)
      exact Wk.refl _
     ·have h1' := of_decide_eq_false h1
      (conv=>whnf)
      refine CallLeaf.wa (contains_ ds hdl) rfl ?_
      cases h32 : ds.contains 32 with
      | true =>
       rw [hres0,if_neg (fun h=>by rw [h32] at h; simp at h)]
       (conv=>whnf)
       refine ⟨[],rfl,finT,?_⟩
       (conv=>whnf)
       exact Wk.refl _
      | false =>
       (conv=>whnf)
       refine ⟨by show ds.length ≤ _; omega,?_⟩
       (conv=>whnf)
       refine CallLeaf.wa (dparse_ 10 (.inr rfl) ds) rfl ?_
       (conv=>whnf)
       refine split_intro (fun h3=>?_) (fun h3=>?_)
       ·have h3' : ¬ (parseR 10 ds).2 = 0 := by simpa using h3
        rw [hres0,if_neg (fun h=>h3' h.2.2)]
        (conv=>whnf)
        refine ⟨[],rfl,finT,?_⟩
        (conv=>whnf)
        exact Wk.refl _
       ·have h3' : (parseR 10 ds).2 = 0 := by simpa using h3
        rw [hres0,if_pos ⟨by omega,h32,h3'⟩]
        obtain ⟨n,hn⟩ : ∃ n,n = (parseR 10 ds).1:=⟨_,rfl⟩
        rw [← hn]
        (conv=>whnf)
        refine CallLeaf.oa [5128] (lines_ t) rfl rfl rfl rfl ?_
        (conv=>whnf)
        refine LWp.rangeFunc hT hmix rfl [] [] 400000 5128 [50] (coF n) (juF n) (iter_ t (by omega)) (fun _=>rfl) (fun _=>rfl) rfl (fun p=>by cases h : fnd n p <;> simp [juF,h,jok]) rfl rfl rfl rfl (by simp) rfl (fun p=>?_) ?_
        ·(repeat' (first|exact trivial|exact rfl|refine And.intro ?_ ?_|(conv=>whnf)))
        ·(conv => whnf)
         refine ⟨?_,?_,?_,fun pre x r he hno=>?_,fun v hv=>?_⟩
         ·exact okT
         ·(repeat' (first|exact trivial|exact rfl|refine And.intro ?_ ?_|(conv=>whnf)))
         ·(repeat' (first|exact trivial|exact rfl|refine And.intro ?_ ?_|(conv=>whnf)))
         ·have hok := pre_no hno
          have hsn:=fnd_snoc hok x
          have eD : coF n pre = [(0,.cells [sD []]),(8,.cells [vI 0])]:=by simp only [coF,hok]
          (conv=>whnf)
          refine split_intro (fun h4=>?_) (fun h4=>?_)
          ·have h4' : x.1 = n := Int.ofNat_inj.1 (by simpa using h4)
           rw [if_pos h4'] at hsn
           have eC : coF n (pre ++ [x]) = [(0,.cells [sD x.2]),(8,.cells [vI 0])]:=by simp only [coF,hsn]
           (conv=>whnf)
           refine ⟨by simp only [juF,hsn],?_⟩
           rw [eC,eD]
           (repeat' (first|exact trivial|exact Wk.refl _|exact ObWk.refl _|exact rfl|exact ⟨_,rfl⟩|exact Nat.zero_lt_one|refine And.intro ?_ ?_|unfold okToR|(unfold liveKs; conv=>whnf)|(unfold okO; conv=>whnf)|(unfold okS; conv=>whnf)|(unfold SlotOk; conv=>whnf)|(unfold ObjOk; conv=>whnf)|(unfold okCells; conv=>whnf)|exact Nat.zero_lt_succ _))
          ·have h4' : ¬ x.1 = n := fun e => by rw [e] at h4; simp at h4
           rw [if_neg h4'] at hsn
           have eC : coF n (pre ++ [x]) = [(0,.cells [sD []]),(8,.cells [vI 0])]:=by simp only [coF,hsn]
           (conv=>whnf)
           refine ⟨by simp only [juF,hsn],?_⟩
           rw [eC,eD]
           (repeat' (first|exact trivial|exact Wk.refl _|exact ObWk.refl _|exact rfl|exact ⟨_,rfl⟩|exact Nat.zero_lt_one|refine And.intro ?_ ?_|unfold okToR|(unfold liveKs; conv=>whnf)|(unfold okO; conv=>whnf)|(unfold okS; conv=>whnf)|(unfold SlotOk; conv=>whnf)|(unfold ObjOk; conv=>whnf)|(unfold okCells; conv=>whnf)|exact Nat.zero_lt_succ _))
         ·have hvv := visitF n (linesP 0 t) [] rfl
          rw [← hv] at hvv
          simp only [List.nil_append] at hvv
          have hvv' : fnd n v = List.find? (fun p=>decide (p.1 = n)) (linesP 0 t):=hvv
          rw [← hvv']
          cases hx : fnd n v with
          | none =>
           rw [show juF n v = .normal by simp only [juF,hx]]
           (conv=>whnf)
           refine ⟨[],rfl,finT,?_⟩
           (conv=>whnf)
           exact Wk.refl _
          | some x =>
           rw [show juF n v = .ret by simp only [juF,hx],show coF n v = [(0,.cells [sD x.2]),(8,.cells [vI 0])] by simp only [coF,hx]]
           (conv=>whnf)
           refine ⟨[],rfl,finT,?_⟩
           (conv=>whnf)
           exact Wk.refl _
    ·have hd : decide ((c :: ds : Str).head? = some 47) = false := decide_eq_false (by simp [hc])
     have hres : resP (c :: ds) t = ([], 6) := by
      unfold resP
      rw [if_neg hA']
      split
      ·rename_i h; simp at h; exact absurd h.1 hc
      ·rfl
     rw [hd,hres]
     (conv=>whnf)
     refine ⟨[],rfl,finT,?_⟩
     (conv=>whnf)
     exact Wk.refl _
 | false =>
  have hS':=of_decide_eq_false hS
  have hA' : ¬ (fl.getLast? = some 47 ∧ shortN fl.dropLast = true):=fun h=>hS' h.1
  rw [if_neg hS']
  (conv=>whnf)
  refine CallLeaf.wa (cpre_ fl hf) rfl ?_
  (conv=>whnf)
  cases fl with
  | nil =>
   have hres : resP [] t = ([],6):=rfl
   rw [hres]
   (conv=>whnf)
   refine ⟨[],rfl,finT,?_⟩
   (conv=>whnf)
   exact Wk.refl _
  | cons c ds =>
   by_cases hc : c = 47
   ·subst hc
    rw [show (decide ((47 :: ds : Str).head? = some 47)) = true from rfl,if_pos (show (47 :: ds : Str).head? = some 47 from rfl)]
    have hres0 : resP (47 :: ds) t = (if ds.length ≤ 15 ∧ ds.contains 32 = false ∧ (parseR 10 ds).2 = 0 then (match (linesP 0 t).find? (fun p => decide (p.1 = (parseR 10 ds).1)) with | some p => (p.2, 0) | none => ([], 6)) else ([], 6) : Str × Int) := by
     unfold resP
     rw [if_neg hA']
     rfl
    have hdl : ds.length < 4294967281:=by simp at hf; omega
    have hds:=sB_sz ds
    simp only [List.tail_cons]
    (conv=>whnf)
    refine split_intro (fun h1=>?_) (fun h1=>?_)
    ·have h1' := of_decide_eq_true h1
     rw [hres0,if_neg (fun h=>by omega)]
     (conv=>whnf)
     refine ⟨[],rfl,finT,?_⟩
     (conv=>whnf)
     exact Wk.refl _
    ·have h1' := of_decide_eq_false h1
     (conv=>whnf)
     refine CallLeaf.wa (contains_ ds hdl) rfl ?_
     cases h32 : ds.contains 32 with
     | true =>
      rw [hres0,if_neg (fun h=>by rw [h32] at h; simp at h)]
      (conv=>whnf)
      refine ⟨[],rfl,finT,?_⟩
      (conv=>whnf)
      exact Wk.refl _
     | false =>
      (conv=>whnf)
      refine ⟨by show ds.length ≤ _; omega,?_⟩
      (conv=>whnf)
      refine CallLeaf.wa (dparse_ 10 (.inr rfl) ds) rfl ?_
      (conv=>whnf)
      refine split_intro (fun h3=>?_) (fun h3=>?_)
      ·have h3' : ¬ (parseR 10 ds).2 = 0 := by simpa using h3
       rw [hres0,if_neg (fun h=>h3' h.2.2)]
       (conv=>whnf)
       refine ⟨[],rfl,finT,?_⟩
       (conv=>whnf)
       exact Wk.refl _
      ·have h3' : (parseR 10 ds).2 = 0 := by simpa using h3
       rw [hres0,if_pos ⟨by omega,h32,h3'⟩]
       obtain ⟨n,hn⟩ : ∃ n,n = (parseR 10 ds).1:=⟨_,rfl⟩
       rw [← hn]
       (conv=>whnf)
       refine CallLeaf.oa [5128] (lines_ t) rfl rfl rfl rfl ?_
       (conv=>whnf)
       refine LWp.rangeFunc hT hmix rfl [] [] 400000 5128 [50] (coF n) (juF n) (iter_ t (by omega)) (fun _=>rfl) (fun _=>rfl) rfl (fun p=>by cases h : fnd n p <;> simp [juF,h,jok]) rfl rfl rfl rfl (by simp) rfl (fun p=>?_) ?_
       ·(repeat' (first|exact trivial|exact rfl|refine And.intro ?_ ?_|(conv=>whnf)))
       ·(conv => whnf)
        refine ⟨?_,?_,?_,fun pre x r he hno=>?_,fun v hv=>?_⟩
        ·exact okT
        ·(repeat' (first|exact trivial|exact rfl|refine And.intro ?_ ?_|(conv=>whnf)))
        ·(repeat' (first|exact trivial|exact rfl|refine And.intro ?_ ?_|(conv=>whnf)))
        ·have hok := pre_no hno
         have hsn:=fnd_snoc hok x
         have eD : coF n pre = [(0,.cells [sD []]),(8,.cells [vI 0])]:=by simp only [coF,hok]
         (conv=>whnf)
         refine split_intro (fun h4=>?_) (fun h4=>?_)
         ·have h4' : x.1 = n := Int.ofNat_inj.1 (by simpa using h4)
          rw [if_pos h4'] at hsn
          have eC : coF n (pre ++ [x]) = [(0,.cells [sD x.2]),(8,.cells [vI 0])]:=by simp only [coF,hsn]
          (conv=>whnf)
          refine ⟨by simp only [juF,hsn],?_⟩
          rw [eC,eD]
          (repeat' (first|exact trivial|exact Wk.refl _|exact ObWk.refl _|exact rfl|exact ⟨_,rfl⟩|exact Nat.zero_lt_one|refine And.intro ?_ ?_|unfold okToR|(unfold liveKs; conv=>whnf)|(unfold okO; conv=>whnf)|(unfold okS; conv=>whnf)|(unfold SlotOk; conv=>whnf)|(unfold ObjOk; conv=>whnf)|(unfold okCells; conv=>whnf)|exact Nat.zero_lt_succ _))
         ·have h4' : ¬ x.1 = n := fun e => by rw [e] at h4; simp at h4
          rw [if_neg h4'] at hsn
          have eC : coF n (pre ++ [x]) = [(0,.cells [sD []]),(8,.cells [vI 0])]:=by simp only [coF,hsn]
          (conv=>whnf)
          refine ⟨by simp only [juF,hsn],?_⟩
          rw [eC,eD]
          (repeat' (first|exact trivial|exact Wk.refl _|exact ObWk.refl _|exact rfl|exact ⟨_,rfl⟩|exact Nat.zero_lt_one|refine And.intro ?_ ?_|unfold okToR|(unfold liveKs; conv=>whnf)|(unfold okO; conv=>whnf)|(unfold okS; conv=>whnf)|(unfold SlotOk; conv=>whnf)|(unfold ObjOk; conv=>whnf)|(unfold okCells; conv=>whnf)|exact Nat.zero_lt_succ _))
        ·have hvv := visitF n (linesP 0 t) [] rfl
         rw [← hv] at hvv
         simp only [List.nil_append] at hvv
         have hvv' : fnd n v = List.find? (fun p=>decide (p.1 = n)) (linesP 0 t):=hvv
         rw [← hvv']
         cases hx : fnd n v with
         | none =>
          rw [show juF n v = .normal by simp only [juF,hx]]
          (conv=>whnf)
          refine ⟨[],rfl,finT,?_⟩
          (conv=>whnf)
          exact Wk.refl _
         | some x =>
          rw [show juF n v = .ret by simp only [juF,hx],show coF n v = [(0,.cells [sD x.2]),(8,.cells [vI 0])] by simp only [coF,hx]]
          (conv=>whnf)
          refine ⟨[],rfl,finT,?_⟩
          (conv=>whnf)
          exact Wk.refl _
   ·have hd : decide ((c :: ds : Str).head? = some 47) = false := decide_eq_false (by simp [hc])
    have hres : resP (c :: ds) t = ([], 6) := by
     unfold resP
     rw [if_neg hA']
     split
     ·rename_i h; simp at h; exact absurd h.1 hc
     ·rfl
    rw [hd,hres]
    (conv=>whnf)
    refine ⟨[],rfl,finT,?_⟩
    (conv=>whnf)
    exact Wk.refl _
end Go.Proofs.YtimjnmbpbobfiaaGreatDoor.H

namespace Go.Proofs.YtimjnmbpbobfiaaGreatDoor.H
open Go Go.AL Go.AL.Hd Go.AL.Ln
set_option maxRecDepth 100000
set_option maxHeartbeats 8000000
theorem ent_few {t : Str} (hl : t.length ≤ 100000) : Few (entR t).1 := by
 unfold entR
 cases h : entO t with
 | none=>exact ⟨by simp,fun n hn=>by simp at hn⟩
 | some ns =>
  have h1:=ent_lines _ 0 (Nat.le_refl t.length)
  rw [h] at h1
  split at h1
  ·injection h1 with h1
   have hL:=lines_len _ 0 (Nat.le_refl t.length)
   have:=hL.1
   refine ⟨by show ns.length ≤ _; rw [h1]; simp; omega,fun n hn=>?_⟩
   have:=(ent_iff.1 h).2 n hn
   have:=(valid_not this).2.2
   omega
  ·simp at h1
theorem find_step {α : Type} {p : α → Bool} {l : List α} {k : Nat} {x : α} (hx : l[k]? = some x) (h : (l.take k).find? p = none) : (l.take (k + 1)).find? p = if p x = true then some x else none := by
 rw [take_snoc hx,List.find?_append,h]
 cases hp : p x <;> simp [List.find?_cons,hp]
theorem find_at {α : Type} {p : α → Bool} {l : List α} {k : Nat} {x : α} (hx : l[k]? = some x) (h : (l.take k).find? p = none) (hp : p x = true) : l.find? p = some x := by
 have h1:=find_step (p:=p) hx h
 rw [if_pos hp] at h1
 have h2 : l = l.take (k + 1) ++ l.drop (k + 1):=(List.take_append_drop _ _).symm
 rw [h2,List.find?_append,h1]; rfl
theorem rresolve_ [Go.AL.MX] (fl t : Str) (hf : fl.length < 4294967281) (hl : t.length ≤ 100000) : FCall Tryz.prog Gl 69 [sD fl, LB t] [] (.tuple [sD (resR fl t).1, vI (resR fl t).2]) [] := by
 have hs:=sB_sz fl
 have hfew:=ent_few hl
 refine FCall.enterL hT hmix [] Tryz.func69 rfl rfl rfl fun hbd=>?_
 (conv=>whnf)
 cases fl with
 | nil =>
  (conv=>whnf)
  exact Wk.refl _
 | cons c ds =>
  obtain ⟨fl,hfl⟩ : ∃ fl,fl = c :: ds:=⟨_,rfl⟩
  rw [← hfl] at hs hf ⊢
  have hne : fl ≠ []:=by rw [hfl]; simp
  have hp : 1 ≤ fl.length:=by rw [hfl]; simp
  obtain ⟨x,hx,hg⟩:=last_at (l:=fl) hp
  (conv=>whnf)
  have key : ¬ (fl.getLast? = some 47 ∧ shortN fl.dropLast = true) → resR fl t = match (offs 0 (entR t).1).find? (fun p => decide (fl = 47 :: dig 10 p.1) && decide ((dig 10 p.1).length ≤ 15)) with | some p => (p.2, 0) | none => ([], 6) := fun h => by
   unfold resR; rw [if_neg hne,if_neg h]; rfl
  refine split_intro (fun h0=>?_) (fun h0=>?_)
  ·have h0' := h0
   rw [hs] at h0'
   simp at h0'
   exact absurd h0' hne
  ·(conv => whnf)
   refine ⟨_,sub64 (c:=(fl.length : Int) - 1) (by omega) (by omega),?_⟩
   (conv=>whnf)
   refine ⟨x,⟨by omega,hx⟩,?_⟩
   (conv=>whnf)
   refine split_intro (fun h1=>?_) (fun h1=>?_)
   ·obtain rfl : x = 47 := byte_eq (c := 47) h1
    (conv=>whnf)
    refine ⟨_,sub64 (c:=((fl.length - 1 : Nat) : Int)) (by omega) (by omega),?_⟩
    (conv=>whnf)
    refine ⟨sB fl.dropLast,⟨by omega,by omega,by omega,by rw [ext_prt]; congr 1; simp only [prt]; rw [← dropLast_take]; rfl⟩,?_⟩
    (conv=>whnf)
    refine CallLeaf.wa (rshort_ fl.dropLast (by simp; omega)) rfl ?_
    cases hA : shortN fl.dropLast with
    | true =>
     have hres : resR fl t = (fl.dropLast,0):=by unfold resR; rw [if_neg hne,if_pos ⟨hg,hA⟩]
     rw [hres]
     (conv=>whnf)
     refine ⟨_,sub64 (c:=((fl.length - 1 : Nat) : Int)) (by omega) (by omega),?_⟩
     (conv=>whnf)
     refine ⟨sB fl.dropLast,⟨by omega,by omega,by omega,by rw [ext_prt]; congr 1; simp only [prt]; rw [← dropLast_take]; rfl⟩,?_⟩
     (conv=>whnf)
     exact Wk.refl _
    | false =>
     have hno : ¬ (fl.getLast? = some 47 ∧ shortN fl.dropLast = true):=fun h=>by rw [hA] at h; simp at h
     rw [key hno]
     have hcl:=hfew.1
     (conv=>whnf)
     refine CallLeaf.wa (rentries_ t (by omega)) rfl ?_
     (conv=>whnf)
     refine LWp.loop hT hmix [] (fun k : Nat=>[(8,vI k)]) (fun _=>[]) (fun k=>k ≤ (entR t).1.length ∧ ((offs 0 (entR t).1).take k).find? (fun p=>decide (fl = 47 :: dig 10 p.1) && decide ((dig 10 p.1).length ≤ 15)) = none) (fun k=>(entR t).1.length - k) 0 ⟨Nat.zero_le _,rfl⟩ ?_
     (conv=>whnf)
     refine ⟨?_,fun k ⟨hk,hfi⟩=>?_⟩
     ·exact okT
     ·(conv => whnf)
      refine split_intro (fun h=>?_) (fun h=>?_)
      ·have hlt : k < (entR t).1.length := by have := of_decide_eq_true h; simp only [List.length_map] at this; omega
       obtain ⟨n,hxn⟩:=exI hlt
       have ho:=offs_get (entR t).1 0 k hxn
       rw [Nat.zero_add] at ho
       have ht:=tab_len hfew k
       have hd:=dig_le (b:=10) (by omega) (tabP ((entR t).1.take k)).length (by omega)
       have hds:=sB_sz (dig 10 (tabP ((entR t).1.take k)).length)
       (conv=>whnf)
       refine ⟨((entR t).1.take k).map eS,slL (by omega) (by omega) (by simp; omega) (fun _=>rfl) (by simp),?_⟩
       (conv=>whnf)
       refine CallLeaf.wa (rtable_ ((entR t).1.take k) (few_take hfew k)) rfl ?_
       (conv=>whnf)
       refine CallLeaf.wa (text_ 10 (by omega) (by omega) (tabP ((entR t).1.take k)).length (by omega)) rfl ?_
       (conv=>whnf)
       refine ⟨sB (47 :: dig 10 (tabP ((entR t).1.take k)).length),⟨by rw [sB_sz]; show 1 + (dig 10 _).length ≤ _; omega,sB_ap [47] _⟩,?_⟩
       (conv=>whnf)
       have cont : (fun p : Nat × Str => decide (fl = 47 :: dig 10 p.1) && decide ((dig 10 p.1).length ≤ 15)) ((tabP ((entR t).1.take k)).length, n) = false → ((offs 0 (entR t).1).take (k + 1)).find? (fun p => decide (fl = 47 :: dig 10 p.1) && decide ((dig 10 p.1).length ≤ 15)) = none := fun h => by
        rw [find_step ho hfi]; exact if_neg (fun h2=>Bool.noConfusion (h2.symm.trans h))
       refine split_intro (fun h3=>?_) (fun h3=>?_)
       ·have h3' : fl = 47 :: dig 10 (tabP ((entR t).1.take k)).length := sB_inj (by simpa using h3)
        (conv=>whnf)
        refine split_intro (fun h4=>?_) (fun h4=>?_)
        ·have h4' : (dig 10 (tabP ((entR t).1.take k)).length).length ≤ 15 := by have := of_decide_eq_true h4; omega
         rw [find_at ho hfi (by simp only [h3',h4']; simp)]
         (conv=>whnf)
         refine ⟨_,⟨by omega,getMap hxn⟩,?_⟩
         (conv=>whnf)
         exact Wk.refl _
        ·have h4' : ¬ (dig 10 (tabP ((entR t).1.take k)).length).length ≤ 15 := by have := of_decide_eq_false h4; omega
         (conv=>whnf)
         refine ⟨_,add64 (c:=((k + 1 : Nat) : Int)) (by (try simp only []); omega) (by omega),?_⟩
         (conv=>whnf)
         refine ⟨k + 1,⟨⟨hlt,cont (by simp only [h4']; simp)⟩,by show (entR t).1.length - (k + 1) < (entR t).1.length - k; omega⟩,?_⟩
         exact okT
       ·have h3' : ¬ fl = 47 :: dig 10 (tabP ((entR t).1.take k)).length := fun e => by rw [e] at h3; simp at h3
        (conv=>whnf)
        refine ⟨_,add64 (c:=((k + 1 : Nat) : Int)) (by (try simp only []); omega) (by omega),?_⟩
        (conv=>whnf)
        refine ⟨k + 1,⟨⟨hlt,cont (by simp only [h3']; simp)⟩,by show (entR t).1.length - (k + 1) < (entR t).1.length - k; omega⟩,?_⟩
        exact okT
      ·have hk' : k = (entR t).1.length := by have := of_decide_eq_false h; simp only [List.length_map] at this; omega
       rw [List.take_of_length_le (by rw [offs_len]; omega)] at hfi
       rw [hfi]
       (conv=>whnf)
       exact Wk.refl _
   ·have hno : ¬ (fl.getLast? = some 47 ∧ shortN fl.dropLast = true) := fun h => by
     have:=h.1
     rw [hg] at this
     injection this with this
     subst this
     simp at h1
    rw [key hno]
    have hcl:=hfew.1
    (conv=>whnf)
    refine CallLeaf.wa (rentries_ t (by omega)) rfl ?_
    (conv=>whnf)
    refine LWp.loop hT hmix [] (fun k : Nat=>[(8,vI k)]) (fun _=>[]) (fun k=>k ≤ (entR t).1.length ∧ ((offs 0 (entR t).1).take k).find? (fun p=>decide (fl = 47 :: dig 10 p.1) && decide ((dig 10 p.1).length ≤ 15)) = none) (fun k=>(entR t).1.length - k) 0 ⟨Nat.zero_le _,rfl⟩ ?_
    (conv=>whnf)
    refine ⟨?_,fun k ⟨hk,hfi⟩=>?_⟩
    ·exact okT
    ·(conv => whnf)
     refine split_intro (fun h=>?_) (fun h=>?_)
     ·have hlt : k < (entR t).1.length := by have := of_decide_eq_true h; simp only [List.length_map] at this; omega
      obtain ⟨n,hxn⟩:=exI hlt
      have ho:=offs_get (entR t).1 0 k hxn
      rw [Nat.zero_add] at ho
      have ht:=tab_len hfew k
      have hd:=dig_le (b:=10) (by omega) (tabP ((entR t).1.take k)).length (by omega)
      have hds:=sB_sz (dig 10 (tabP ((entR t).1.take k)).length)
      (conv=>whnf)
      refine ⟨((entR t).1.take k).map eS,slL (by omega) (by omega) (by simp; omega) (fun _=>rfl) (by simp),?_⟩
      (conv=>whnf)
      refine CallLeaf.wa (rtable_ ((entR t).1.take k) (few_take hfew k)) rfl ?_
      (conv=>whnf)
      refine CallLeaf.wa (text_ 10 (by omega) (by omega) (tabP ((entR t).1.take k)).length (by omega)) rfl ?_
      (conv=>whnf)
      refine ⟨sB (47 :: dig 10 (tabP ((entR t).1.take k)).length),⟨by rw [sB_sz]; show 1 + (dig 10 _).length ≤ _; omega,sB_ap [47] _⟩,?_⟩
      (conv=>whnf)
      have cont : (fun p : Nat × Str => decide (fl = 47 :: dig 10 p.1) && decide ((dig 10 p.1).length ≤ 15)) ((tabP ((entR t).1.take k)).length, n) = false → ((offs 0 (entR t).1).take (k + 1)).find? (fun p => decide (fl = 47 :: dig 10 p.1) && decide ((dig 10 p.1).length ≤ 15)) = none := fun h => by
       rw [find_step ho hfi]; exact if_neg (fun h2=>Bool.noConfusion (h2.symm.trans h))
      refine split_intro (fun h3=>?_) (fun h3=>?_)
      ·have h3' : fl = 47 :: dig 10 (tabP ((entR t).1.take k)).length := sB_inj (by simpa using h3)
       (conv=>whnf)
       refine split_intro (fun h4=>?_) (fun h4=>?_)
       ·have h4' : (dig 10 (tabP ((entR t).1.take k)).length).length ≤ 15 := by have := of_decide_eq_true h4; omega
        rw [find_at ho hfi (by simp only [h3',h4']; simp)]
        (conv=>whnf)
        refine ⟨_,⟨by omega,getMap hxn⟩,?_⟩
        (conv=>whnf)
        exact Wk.refl _
       ·have h4' : ¬ (dig 10 (tabP ((entR t).1.take k)).length).length ≤ 15 := by have := of_decide_eq_false h4; omega
        (conv=>whnf)
        refine ⟨_,add64 (c:=((k + 1 : Nat) : Int)) (by (try simp only []); omega) (by omega),?_⟩
        (conv=>whnf)
        refine ⟨k + 1,⟨⟨hlt,cont (by simp only [h4']; simp)⟩,by show (entR t).1.length - (k + 1) < (entR t).1.length - k; omega⟩,?_⟩
        exact okT
      ·have h3' : ¬ fl = 47 :: dig 10 (tabP ((entR t).1.take k)).length := fun e => by rw [e] at h3; simp at h3
       (conv=>whnf)
       refine ⟨_,add64 (c:=((k + 1 : Nat) : Int)) (by (try simp only []); omega) (by omega),?_⟩
       (conv=>whnf)
       refine ⟨k + 1,⟨⟨hlt,cont (by simp only [h3']; simp)⟩,by show (entR t).1.length - (k + 1) < (entR t).1.length - k; omega⟩,?_⟩
       exact okT
     ·have hk' : k = (entR t).1.length := by have := of_decide_eq_false h; simp only [List.length_map] at this; omega
      rw [List.take_of_length_le (by rw [offs_len]; omega)] at hfi
      rw [hfi]
      (conv=>whnf)
      exact Wk.refl _
end Go.Proofs.YtimjnmbpbobfiaaGreatDoor.H

namespace Go.Proofs.YtimjnmbpbobfiaaGreatDoor.H
open Go Go.AL Go.AL.Hd Go.AL.Ln Go.AL.Ar
set_option maxRecDepth 100000
set_option maxHeartbeats 8000000
theorem clone_ [Go.AL.MX] (l : Str) : FCall Tryz.prog Gl 66 [LB l] [] (LBn l) [] := by
 refine FCall.enterL hT hmix [] Tryz.func66 rfl rfl rfl fun hbd=>?_
 have hl:=bds_list hbd (.head _)
 (conv=>whnf)
 refine ⟨fun e=>?_,fun e=>?_⟩
 ·have e' : l = [] := by simpa using e
  subst e'
  (conv=>whnf)
  refine ⟨?_,?_⟩
  ·(conv => whnf)
   exact Wk.natN rfl
  ·(conv => whnf)
   refine ⟨_,appL (f:=byteD) (xs:=[]) (ys:=[]) (zs:=[]) rfl rfl (fun _=>rfl) rfl (by simp),?_⟩
   (conv=>whnf)
   exact Wk.nat' rfl
 ·(conv => whnf)
  refine ⟨_,appL (f:=byteD) (xs:=[]) (ys:=l) (zs:=l) rfl rfl (fun _=>rfl) rfl (by show _ * 1 ≤ _; omega),?_⟩
  (conv=>whnf)
  exact Wk.nat' rfl
theorem anext_ [Go.AL.MX] (b : Str) (hb : b.length < 4294967280) : FCall Tryz.prog Gl 93 [LB b] [] (.tuple [.agg (nextP b).1.enc, vI (nextP b).2]) [] := by
 refine FCall.enterL hT hmix [] Tryz.func93 rfl rfl rfl fun hbd=>?_
 (conv=>whnf)
 refine CallLeaf.wa (hdecode_ b) rfl ?_
 (conv=>whnf)
 refine split_intro (fun h1=>?_) (fun h1=>?_)
 ·have h1' : (decR b).2 ≠ 0 := by simpa using h1
  have e : nextP b = (⟨hdr0,[],(decR b).2⟩,0):=by unfold nextP; rw [if_pos h1']
  rw [e]
  (conv=>whnf)
  exact Wk.tuple (Wks.cons (Wk.agg (Wks.cons (Wk.refl _) (Wks.cons (Wk.refl _) (Wks.cons (Wk.refl _) (Wks.cons (Wk.refl _) (Wks.cons (Wk.refl _) (Wks.cons (Wk.refl _) (Wks.cons (Wk.natN rfl) (Wks.cons (Wk.refl _) Wks.nil))))))))) (Wks.cons (Wk.refl _) Wks.nil))
 ·have h1' : (decR b).2 = 0 := by simpa using h1
  have hn1 : ¬ (decR b).2 ≠ 0:=fun h=>h h1'
  obtain ⟨hsz,hsl⟩:=dec_size h1'
  obtain ⟨n,hn⟩ : ∃ n,n = szN b:=⟨_,rfl⟩
  rw [← hn] at hsz hsl
  (conv=>whnf)
  refine ⟨_,add64 (c:=((60 + n : Nat) : Int)) (by rw [hsz]; omega) (by omega),?_⟩
  (conv=>whnf)
  refine ⟨_,rem64 (c:=((n % 2 : Nat) : Int)) (by rw [hsz]; rfl) (by omega),?_⟩
  (conv=>whnf)
  refine ⟨_,add64 (c:=((60 + n + n % 2 : Nat) : Int)) (by omega) (by omega),?_⟩
  (conv=>whnf)
  refine split_intro (fun h2=>?_) (fun h2=>?_)
  ·have h2' : b.length < 60 + n + n % 2 := by have := of_decide_eq_true h2; simp only [List.length_map] at this; omega
   have e : nextP b = (⟨hdr0,[],2⟩,0):=by unfold nextP; rw [if_neg hn1,← hn,if_pos h2']
   rw [e]
   (conv=>whnf)
   exact Wk.tuple (Wks.cons (Wk.agg (Wks.cons (Wk.refl _) (Wks.cons (Wk.refl _) (Wks.cons (Wk.refl _) (Wks.cons (Wk.refl _) (Wks.cons (Wk.refl _) (Wks.cons (Wk.refl _) (Wks.cons (Wk.natN rfl) (Wks.cons (Wk.refl _) Wks.nil))))))))) (Wks.cons (Wk.refl _) Wks.nil))
  ·have h2' : ¬ b.length < 60 + n + n % 2 := by have := of_decide_eq_false h2; simp only [List.length_map] at this; omega
   have fin : ¬ (n % 2 ≠ 0 ∧ b[60 + n]? ≠ some 10) → nextP b = (⟨(decR b).1,prt b 60 (60 + n),0⟩,60 + n + n % 2):=fun h=>by unfold nextP; rw [if_neg hn1,← hn,if_neg h2',if_neg h]
   (conv=>whnf)
   refine ⟨_,rem64 (c:=((n % 2 : Nat) : Int)) (by rw [hsz]; rfl) (by omega),?_⟩
   (conv=>whnf)
   refine split_intro (fun h3=>?_) (fun h3=>?_)
   ·have h3' : n % 2 ≠ 0 := by have := h3; simp at this; omega
    obtain ⟨c,hc⟩:=exI (l:=b) (k:=60 + n) (by omega)
    (conv=>whnf)
    refine ⟨_,⟨by omega,getMap hc⟩,?_⟩
    (conv=>whnf)
    refine split_intro (fun h4=>?_) (fun h4=>?_)
    ·have h4' : c ≠ 10 := O.u8_ne (y := 10) h4
     have e : nextP b = (⟨hdr0,[],5⟩,0):=by unfold nextP; rw [if_neg hn1,← hn,if_neg h2',if_pos ⟨h3',by rw [hc]; simpa using h4'⟩]
     rw [e]
     (conv=>whnf)
     exact Wk.tuple (Wks.cons (Wk.agg (Wks.cons (Wk.refl _) (Wks.cons (Wk.refl _) (Wks.cons (Wk.refl _) (Wks.cons (Wk.refl _) (Wks.cons (Wk.refl _) (Wks.cons (Wk.refl _) (Wks.cons (Wk.natN rfl) (Wks.cons (Wk.refl _) Wks.nil))))))))) (Wks.cons (Wk.refl _) Wks.nil))
    ·obtain rfl : c = 10 := O.u8_eq (y := 10) h4
     rw [fin (fun h=>h.2 hc)]
     (conv=>whnf)
     refine ⟨(prt b 60 (60 + n)).map byteD,slL (by omega) (by omega) (by simp; omega) (fun _=>rfl) (by show (b.take (60 + n)).drop 60 = _; rfl),?_⟩
     (conv=>whnf)
     refine CallLeaf.wa (clone_ (prt b 60 (60 + n))) rfl ?_
     (conv=>whnf)
     refine ⟨_,rem64 (c:=((n % 2 : Nat) : Int)) (by rw [hsz]; rfl) (by omega),?_⟩
     (conv=>whnf)
     refine ⟨_,add64 (c:=((60 + n + n % 2 : Nat) : Int)) (by omega) (by omega),?_⟩
     (conv=>whnf)
     exact Wk.refl _
   ·have h3' : n % 2 = 0 := by have := h3; simp at this; omega
    rw [fin (fun h=>h.1 h3')]
    (conv=>whnf)
    refine ⟨(prt b 60 (60 + n)).map byteD,slL (by omega) (by omega) (by simp; omega) (fun _=>rfl) (by show (b.take (60 + n)).drop 60 = _; rfl),?_⟩
    (conv=>whnf)
    refine CallLeaf.wa (clone_ (prt b 60 (60 + n))) rfl ?_
    (conv=>whnf)
    refine ⟨_,rem64 (c:=((n % 2 : Nat) : Int)) (by rw [hsz]; rfl) (by omega),?_⟩
    (conv=>whnf)
    refine ⟨_,add64 (c:=((60 + n + n % 2 : Nat) : Int)) (by omega) (by omega),?_⟩
    (conv=>whnf)
    exact Wk.refl _
end Go.Proofs.YtimjnmbpbobfiaaGreatDoor.H

namespace Go.Proofs.YtimjnmbpbobfiaaGreatDoor.H
open Go Go.AL Go.AL.Hd Go.AL.Ln Go.AL.Ar
set_option maxRecDepth 100000
set_option maxHeartbeats 8000000
abbrev eAr (x : Nat × Part) : List D:=[vI x.1,.agg x.2.enc]
theorem aparts_ [Go.AL.MX] (t : Str) : FCall Tryz.prog Gl 76 [LB t] [] (.func (.func 92) [] [.ptr 0 0]) [.cells [LB t]] := by
 refine FCall.enterO hT hmix [] Tryz.func76 rfl rfl rfl fun hbd=>?_
 (conv=>whnf)
 refine ⟨[0],rfl,finT,?_⟩
 (conv=>whnf)
 exact Wk.refl _
theorem aiter_ [Go.AL.MX] (b : Str) (hl : b.length < 4294967280) : IterSpec Tryz.prog Gl 92 (.cells [LB b]) eAr (partsP 8 (b.drop 8)) := by
 refine ⟨⟨_,Tryz.func92,by kernel_rfl,by kernel_rfl⟩,fun l B ok HY=>?_⟩
 refine FCall.enterO hT hmix [] Tryz.func92 rfl rfl rfl fun hbd=>?_
 (conv=>whnf)
 refine LWp.loop hT hmix [] (fun x : List (Nat × Part) × Nat=>[(3,vI x.2)]) (fun x=>[(0,.bag (B x.1))]) (fun x=>8 ≤ x.2 ∧ (x.2 ≤ 8 ∨ x.2 ≤ b.length) ∧ partsP 8 (b.drop 8) = x.1 ++ partsP x.2 (b.drop x.2) ∧ (∀ p y s,x.1 = p ++ y :: s → ok (p ++ [y]) = true) ∧ visitR ok [] (partsP 8 (b.drop 8)) = visitR ok x.1 (partsP x.2 (b.drop x.2))) (fun x=>b.length - x.2) ([],8) ⟨Nat.le_refl _,.inl (Nat.le_refl _),rfl,(fun p y s h=>by simp at h),rfl⟩ ?_
 (conv=>whnf)
 refine ⟨?_,fun ⟨pre,k⟩ ⟨hk8,hkb,hx,hok,hv⟩=>?_⟩
 ·exact okT
 ·(conv => whnf)
  refine split_intro (fun h=>?_) (fun h=>?_)
  ·have hlt : k < b.length := by have := of_decide_eq_true h; simp only [List.length_map] at this; omega
   have hne : b.drop k ≠ []:=fun e=>by have:=congrArg List.length e; simp at this; omega
   have hdl : (b.drop k).length < 4294967280:=by simp; omega
   (conv=>whnf)
   refine ⟨(b.drop k).map byteD,slL (by show 0 ≤ (k : Int); omega) (by simp; omega) (by simp) (fun _=>rfl) (by simp),?_⟩
   (conv=>whnf)
   refine CallLeaf.wa (anext_ (b.drop k) hdl) rfl ?_
   (conv=>whnf)
   obtain ⟨x,hxx⟩ : ∃ x,x = (k,(nextP (b.drop k)).1):=⟨_,rfl⟩
   by_cases hw : (nextP (b.drop k)).1.why = 0
   ·have hxs := partsP_ok (k := k) hne hw
    obtain ⟨hn1,hn2,_,_,_,_⟩:=next_ok hw
    have hdl2 : (b.drop k).length = b.length - k:=by simp
    have HYx:=HY pre (k,(nextP (b.drop k)).1) (partsP (k + (nextP (b.drop k)).2) ((b.drop k).drop (nextP (b.drop k)).2)) (by rw [hx,hxs]) hok
    have hvv : visitR ok [] (partsP 8 (b.drop 8)) = match ok (pre ++ [(k,(nextP (b.drop k)).1)]) with|true=>visitR ok (pre ++ [(k,(nextP (b.drop k)).1)]) (partsP (k + (nextP (b.drop k)).2) ((b.drop k).drop (nextP (b.drop k)).2))|false=>pre ++ [(k,(nextP (b.drop k)).1)]:=by rw [hv,hxs]; rfl
    rw [List.drop_drop] at hvv hxs
    refine YLeaf.o [0] argT (HYx) rfl rfl triT triT triT rfl rfl ?_
    (conv=>whnf)
    cases ho : ok (pre ++ [(k,(nextP (b.drop k)).1)]) with
    | true =>
     rw [ho] at hvv
     (conv=>whnf)
     refine split_intro (fun h=>absurd h (by rw [hw]; simp)) (fun _=>?_)
     (conv=>whnf)
     refine ⟨_,add64 (c:=((k + (nextP (b.drop k)).2 : Nat) : Int)) (by show (k : Int) + _ = _; omega) (by omega),?_⟩
     (conv=>whnf)
     refine ⟨(pre ++ [(k,(nextP (b.drop k)).1)],k + (nextP (b.drop k)).2),⟨⟨by show 8 ≤ k + _; omega,.inr (by show k + _ ≤ b.length; omega),by rw [hx,hxs]; simp,?_,hvv⟩,by show b.length - (k + _) < b.length - k; omega⟩,?_⟩
     ·intro p y s h
      replace h : pre ++ [(k,(nextP (b.drop k)).1)] = p ++ y :: s:=h
      rcases List.eq_nil_or_concat s with rfl|⟨s',z,rfl⟩
      ·have := List.append_inj' h rfl
       obtain ⟨e1,e2⟩:=this
       simp at e2
       rw [← e1,← e2]; exact ho
      ·have e3 : pre ++ [(k, (nextP (b.drop k)).1)] = (p ++ y :: s') ++ [z] := by rw [h]; simp
       exact hok p y s' (List.append_inj' e3 rfl).1
     ·exact okT
    | false =>
     rw [ho] at hvv
     rw [hvv]
     (conv=>whnf)
     refine ⟨[0,1],rfl,finT,?_⟩
     exact Wk.refl _
   ·have hxs := partsP_bad (k := k) hne hw
    have HYx:=HY pre (k,(nextP (b.drop k)).1) [] (by rw [hx,hxs]) hok
    have hvv : visitR ok [] (partsP 8 (b.drop 8)) = pre ++ [(k, (nextP (b.drop k)).1)] := by
     rw [hv,hxs]; simp only [visitR]; cases ok (pre ++ [(k,(nextP (b.drop k)).1)]) <;> rfl
    rw [hvv]
    refine YLeaf.o [0] argT (HYx) rfl rfl triT triT triT rfl rfl ?_
    (conv=>whnf)
    cases ho : ok (pre ++ [(k,(nextP (b.drop k)).1)]) with
    | true =>
     (conv=>whnf)
     refine split_intro (fun _=>?_) (fun h=>absurd h (by simp [hw]))
     (conv=>whnf)
     refine ⟨[0,1],rfl,finT,?_⟩
     exact Wk.refl _
    | false =>
     (conv=>whnf)
     refine ⟨[0,1],rfl,finT,?_⟩
     exact Wk.refl _
  ·have hk' : b.length ≤ k := by have := of_decide_eq_false h; simp only [List.length_map] at this; omega
   have e0 : partsP k (b.drop k) = []:=by rw [List.drop_of_length_le hk']; exact partsP_nil k
   rw [hv,e0]
   (conv=>whnf)
   refine ⟨[0,1],rfl,finT,?_⟩
   exact Wk.refl _
end Go.Proofs.YtimjnmbpbobfiaaGreatDoor.H

namespace Go.Proofs.YtimjnmbpbobfiaaGreatDoor.H
open Go Go.AL Go.AL.Hd Go.AL.Ln Go.AL.Ar Go.AL.Sc
set_option maxRecDepth 100000
set_option maxHeartbeats 8000000
abbrev eMn (m : Mem) : List D:=[sD m.name,vI m.time,vI m.uid,vI m.gid,vI m.mode,LBn m.data]
abbrev eO (n : Nat) : List D:=[vI n]
abbrev obA (s : PS) : List AObj:=[.cells [vB s.hm,LBn s.map,.list (.tok 1) (s.ms.map eMn),.list (.tok 2) (s.os.map eO),LBn s.names,vB s.ht],.tok (s.ms.map eMn).length 6,.tok (s.os.map eO).length 1]
structure OkP (s : PS) (p : Part) : Prop where
 d : p.data.length < 4294967280
 n : p.h.name.length < 4294967281
 t : s.names.length < 4294967280
 m : s.ms.length ≤ 1000000000
 o : s.os.length ≤ 1000000000
theorem aadd_ [Go.AL.MX] (s : PS) (k : Nat) (p : Part) (H : OkP s p) : FCall Tryz.prog Gl 77 [.ptr 0 0, vI k, .agg p.enc] (obA s) (vI (addP s k p).2) (obA (addP s k p).1) := by
 obtain ⟨hd,hn,ht,hm,ho⟩:=H
 obtain ⟨⟨nm,dt,ui,gi,mo,si⟩,data,why⟩:=p
 obtain ⟨hm',map,ms,os,names,ht'⟩:=s
 simp only at hd hn ht hm ho
 refine FCall.enterO hT hmix [] Tryz.func77 rfl rfl rfl fun hbd=>?_
 (conv=>whnf)
 refine split_intro (fun h1=>?_) (fun h1=>?_)
 ·have h1' : ms = [] := by simpa using h1
  subst h1'
  cases ht' with
  | true =>
   (conv=>whnf)
   refine split_intro (fun hA=>?_) (fun hA=>?_)
   ·have hA' : nm = [47] := by simpa [sB] using hA
    subst hA'
    (conv=>whnf)
    have e : addP ⟨hm',map,[],os,names,true⟩ k ⟨⟨[47],dt,ui,gi,mo,si⟩,data,why⟩ = (⟨hm',map,[],os,names,true⟩,8):=by simp [addP,PS.first]
    rw [e]
    refine ⟨[0,1,2],rfl,finT,?_⟩
    exact Wk.refl _
   ·have hA' : nm ≠ [47] := by simpa [sB] using hA
    (conv=>whnf)
    refine split_intro (fun hB=>?_) (fun hB=>?_)
    ·have hB' : nm = [47, 47] := by simpa [sB] using hB
     subst hB'
     have e : addP ⟨hm',map,[],os,names,true⟩ k ⟨⟨[47,47],dt,ui,gi,mo,si⟩,data,why⟩ = (⟨hm',map,[],os,names,true⟩,7):=by simp [addP,PS.first]
     rw [e]
     (conv=>whnf)
     refine CallLeaf.wa (entries_ data hd) rfl ?_
     (conv=>whnf)
     refine split_intro (fun hC=>?_) (fun hC=>?_)
     ·(conv => whnf)
      refine ⟨[0,1,2],rfl,finT,?_⟩
      exact Wk.refl _
     ·(conv => whnf)
      refine ⟨[0,1,2],rfl,finT,?_⟩
      exact Wk.refl _
    ·have hB' : nm ≠ [47, 47] := by simpa [sB] using hB
     (conv=>whnf)
     refine CallLeaf.wa (resolve_ nm names hn ht) rfl ?_
     (conv=>whnf)
     refine split_intro (fun hC=>?_) (fun hC=>?_)
     ·have hC' : (resP nm names).2 ≠ 0 := by simpa using hC
      have e : addP ⟨hm',map,[],os,names,true⟩ k ⟨⟨nm,dt,ui,gi,mo,si⟩,data,why⟩ = (⟨hm',map,[],os,names,true⟩,(resP nm names).2):=by unfold addP; rw [if_neg hA',if_neg hB',if_pos hC']
      rw [e]
      (conv=>whnf)
      refine ⟨[0,1,2],rfl,finT,?_⟩
      exact Wk.refl _
     ·have hC' : (resP nm names).2 = 0 := by simpa using hC
      have e : addP ⟨hm',map,[],os,names,true⟩ k ⟨⟨nm,dt,ui,gi,mo,si⟩,data,why⟩ = (⟨hm',map,[] ++ [⟨(resP nm names).1,dt,ui,gi,mo,data⟩],os ++ [k],names,true⟩,0):=by unfold addP; rw [if_neg hA',if_neg hB',if_neg (fun h=>h hC')]
      rw [e]
      (conv=>whnf)
      refine ⟨_,appL (f:=eMn) (xs:=[]) (ys:=[⟨(resP nm names).1,dt,ui,gi,mo,data⟩]) (zs:=[] ++ [⟨(resP nm names).1,dt,ui,gi,mo,data⟩]) rfl rfl (fun _=>rfl) rfl (by show _ * 72 ≤ _; simp <;> omega),?_⟩
      (conv=>whnf)
      refine ⟨_,appL (f:=eO) (xs:=os) (ys:=[k]) (zs:=os ++ [k]) rfl rfl (fun _=>rfl) rfl (by show _ * 8 ≤ _; simp; omega),?_⟩
      (conv=>whnf)
      refine ⟨[0,1,2],rfl,finT,?_⟩
      exact Wk.refl _
  | false =>
   (conv=>whnf)
   refine split_intro (fun hA=>?_) (fun hA=>?_)
   ·have hA' : nm = [47] := by simpa [sB] using hA
    subst hA'
    cases hm' with
    | true =>
     have e : addP ⟨true,map,[],os,names,false⟩ k ⟨⟨[47],dt,ui,gi,mo,si⟩,data,why⟩ = (⟨true,map,[],os,names,false⟩,8):=by simp [addP,PS.first]
     rw [e]
     (conv=>whnf)
     refine ⟨[0,1,2],rfl,finT,?_⟩
     exact Wk.refl _
    | false =>
     have e : addP ⟨false,map,[],os,names,false⟩ k ⟨⟨[47],dt,ui,gi,mo,si⟩,data,why⟩ = (⟨true,data,[],os,names,false⟩,0):=by simp [addP,PS.first]
     rw [e]
     (conv=>whnf)
     refine ⟨[0,1,2],rfl,finT,?_⟩
     exact Wk.refl _
   ·have hA' : nm ≠ [47] := by simpa [sB] using hA
    (conv=>whnf)
    refine split_intro (fun hB=>?_) (fun hB=>?_)
    ·have hB' : nm = [47, 47] := by simpa [sB] using hB
     subst hB'
     (conv=>whnf)
     refine CallLeaf.wa (entries_ data hd) rfl ?_
     (conv=>whnf)
     refine split_intro (fun hC=>?_) (fun hC=>?_)
     ·have hC' : (entR data).2 ≠ 0 := by simpa using hC
      have e : addP ⟨hm',map,[],os,names,false⟩ k ⟨⟨[47,47],dt,ui,gi,mo,si⟩,data,why⟩ = (⟨hm',map,[],os,names,false⟩,7):=by unfold addP; rw [if_neg (by simp),if_pos rfl,if_pos (.inl hC')]
      rw [e]
      (conv=>whnf)
      refine ⟨[0,1,2],rfl,finT,?_⟩
      exact Wk.refl _
     ·have hC' : (entR data).2 = 0 := by simpa using hC
      have e : addP ⟨hm',map,[],os,names,false⟩ k ⟨⟨[47,47],dt,ui,gi,mo,si⟩,data,why⟩ = (⟨hm',map,[],os,data,true⟩,0):=by unfold addP; rw [if_neg (by simp),if_pos rfl,if_neg (by rintro (h|h); exact h hC'; simp [PS.first] at h)]
      rw [e]
      (conv=>whnf)
      refine ⟨[0,1,2],rfl,finT,?_⟩
      exact Wk.refl _
    ·have hB' : nm ≠ [47, 47] := by simpa [sB] using hB
     (conv=>whnf)
     refine CallLeaf.wa (resolve_ nm names hn ht) rfl ?_
     (conv=>whnf)
     refine split_intro (fun hC=>?_) (fun hC=>?_)
     ·have hC' : (resP nm names).2 ≠ 0 := by simpa using hC
      have e : addP ⟨hm',map,[],os,names,false⟩ k ⟨⟨nm,dt,ui,gi,mo,si⟩,data,why⟩ = (⟨hm',map,[],os,names,false⟩,(resP nm names).2):=by unfold addP; rw [if_neg hA',if_neg hB',if_pos hC']
      rw [e]
      (conv=>whnf)
      refine ⟨[0,1,2],rfl,finT,?_⟩
      exact Wk.refl _
     ·have hC' : (resP nm names).2 = 0 := by simpa using hC
      have e : addP ⟨hm',map,[],os,names,false⟩ k ⟨⟨nm,dt,ui,gi,mo,si⟩,data,why⟩ = (⟨hm',map,[] ++ [⟨(resP nm names).1,dt,ui,gi,mo,data⟩],os ++ [k],names,false⟩,0):=by unfold addP; rw [if_neg hA',if_neg hB',if_neg (fun h=>h hC')]
      rw [e]
      (conv=>whnf)
      refine ⟨_,appL (f:=eMn) (xs:=[]) (ys:=[⟨(resP nm names).1,dt,ui,gi,mo,data⟩]) (zs:=[] ++ [⟨(resP nm names).1,dt,ui,gi,mo,data⟩]) rfl rfl (fun _=>rfl) rfl (by show _ * 72 ≤ _; simp <;> omega),?_⟩
      (conv=>whnf)
      refine ⟨_,appL (f:=eO) (xs:=os) (ys:=[k]) (zs:=os ++ [k]) rfl rfl (fun _=>rfl) rfl (by show _ * 8 ≤ _; simp; omega),?_⟩
      (conv=>whnf)
      refine ⟨[0,1,2],rfl,finT,?_⟩
      exact Wk.refl _
 ·have h1' : ¬ ms = [] := by simpa using h1
  (conv=>whnf)
  refine split_intro (fun hA=>?_) (fun hA=>?_)
  ·have hA' : nm = [47] := by simpa [sB] using hA
   subst hA'
   (conv=>whnf)
   have e : addP ⟨hm',map,ms,os,names,ht'⟩ k ⟨⟨[47],dt,ui,gi,mo,si⟩,data,why⟩ = (⟨hm',map,ms,os,names,ht'⟩,8):=by simp [addP,PS.first,h1']
   rw [e]
   refine ⟨[0,1,2],rfl,finT,?_⟩
   exact Wk.refl _
  ·have hA' : nm ≠ [47] := by simpa [sB] using hA
   (conv=>whnf)
   refine split_intro (fun hB=>?_) (fun hB=>?_)
   ·have hB' : nm = [47, 47] := by simpa [sB] using hB
    subst hB'
    have e : addP ⟨hm',map,ms,os,names,ht'⟩ k ⟨⟨[47,47],dt,ui,gi,mo,si⟩,data,why⟩ = (⟨hm',map,ms,os,names,ht'⟩,7):=by simp [addP,PS.first,h1']
    rw [e]
    (conv=>whnf)
    refine CallLeaf.wa (entries_ data hd) rfl ?_
    (conv=>whnf)
    refine split_intro (fun hC=>?_) (fun hC=>?_)
    ·(conv => whnf)
     refine ⟨[0,1,2],rfl,finT,?_⟩
     exact Wk.refl _
    ·(conv => whnf)
     refine ⟨[0,1,2],rfl,finT,?_⟩
     exact Wk.refl _
   ·have hB' : nm ≠ [47, 47] := by simpa [sB] using hB
    (conv=>whnf)
    refine CallLeaf.wa (resolve_ nm names hn ht) rfl ?_
    (conv=>whnf)
    refine split_intro (fun hC=>?_) (fun hC=>?_)
    ·have hC' : (resP nm names).2 ≠ 0 := by simpa using hC
     have e : addP ⟨hm',map,ms,os,names,ht'⟩ k ⟨⟨nm,dt,ui,gi,mo,si⟩,data,why⟩ = (⟨hm',map,ms,os,names,ht'⟩,(resP nm names).2):=by unfold addP; rw [if_neg hA',if_neg hB',if_pos hC']
     rw [e]
     (conv=>whnf)
     refine ⟨[0,1,2],rfl,finT,?_⟩
     exact Wk.refl _
    ·have hC' : (resP nm names).2 = 0 := by simpa using hC
     have e : addP ⟨hm',map,ms,os,names,ht'⟩ k ⟨⟨nm,dt,ui,gi,mo,si⟩,data,why⟩ = (⟨hm',map,ms ++ [⟨(resP nm names).1,dt,ui,gi,mo,data⟩],os ++ [k],names,ht'⟩,0):=by unfold addP; rw [if_neg hA',if_neg hB',if_neg (fun h=>h hC')]
     rw [e]
     (conv=>whnf)
     refine ⟨_,appL (f:=eMn) (xs:=ms) (ys:=[⟨(resP nm names).1,dt,ui,gi,mo,data⟩]) (zs:=ms ++ [⟨(resP nm names).1,dt,ui,gi,mo,data⟩]) rfl rfl (fun _=>rfl) rfl (by show _ * 72 ≤ _; simp <;> omega),?_⟩
     (conv=>whnf)
     refine ⟨_,appL (f:=eO) (xs:=os) (ys:=[k]) (zs:=os ++ [k]) rfl rfl (fun _=>rfl) rfl (by show _ * 8 ≤ _; simp; omega),?_⟩
     (conv=>whnf)
     refine ⟨[0,1,2],rfl,finT,?_⟩
     exact Wk.refl _
end Go.Proofs.YtimjnmbpbobfiaaGreatDoor.H

namespace Go.Proofs.YtimjnmbpbobfiaaGreatDoor.H
open Go Go.AL Go.AL.Hd Go.AL.Ln Go.AL.Ar Go.AL.Sc
set_option maxRecDepth 100000
set_option maxHeartbeats 8000000
theorem hprep_ [Go.AL.MX] (l p : Str) (hl : l.length < 4294967281) (hp : p.length < 4294967281) : FCall Tryz.prog Gl 57 [sD l, sD p] [] (vB (decide (p.length ≤ l.length) && decide (l.take p.length = p))) [] := by
 have hs:=sB_sz l
 have hps:=sB_sz p
 refine FCall.enterL hT hmix [] Tryz.func57 rfl rfl rfl fun hbd=>?_
 (conv=>whnf)
 refine split_intro (fun h1=>?_) (fun h1=>?_)
 ·have h1' := of_decide_eq_true h1
  have h1' : p.length ≤ l.length:=by omega
  (conv=>whnf)
  refine ⟨sB (l.take p.length),⟨by omega,by omega,by omega,by rw [ext_prt,hps]; rfl⟩,?_⟩
  (conv=>whnf)
  refine Wk.bool ?_
  rw [decide_eq_true h1',Bool.true_and]
  done
 ·have h1' := of_decide_eq_false h1
  rw [decide_eq_false (show ¬ p.length ≤ l.length by omega),Bool.false_and]
  (conv=>whnf)
  exact Wk.refl _
theorem hpre2_ [Go.AL.MX] (l p : Str) (hl : l.length < 4294967281) (hp : p.length < 4294967281) : FCall Tryz.prog Gl 44 [sD l, sD p] [] (vB (decide (p.length ≤ l.length) && decide (l.take p.length = p))) [] := by
 refine FCall.enterL hT hmix [] Tryz.func44 rfl rfl rfl fun hbd=>?_
 (conv=>whnf)
 refine CallLeaf.wa (hprep_ l p hl hp) rfl ?_
 (conv=>whnf)
 exact Wk.refl _
abbrev isP (b : Str) : Bool:=decide (8 ≤ b.length) && decide (b.take 8 = magic)
theorem ais_ [Go.AL.MX] (b : Str) (hb : b.length < 4294967281) : FCall Tryz.prog Gl 27 [LB b] [] (vB (isP b)) [] := by
 refine FCall.enterL hT hmix [] Tryz.func27 rfl rfl rfl fun hbd=>?_
 (conv=>whnf)
 refine ⟨b,rfl,?_⟩
 (conv=>whnf)
 refine CallLeaf.wa (hpre2_ b magic hb (by decide)) rfl ?_
 (conv=>whnf)
 exact Wk.refl _
end Go.Proofs.YtimjnmbpbobfiaaGreatDoor.H
