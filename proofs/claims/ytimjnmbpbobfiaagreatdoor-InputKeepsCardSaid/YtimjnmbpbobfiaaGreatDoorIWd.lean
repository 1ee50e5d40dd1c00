/- Archives: parsed. No condition. -/
import Derived.Test.YtimjnmbpbobfiaaGreatDoorIAc
import Derived.Test.YtimjnmbpbobfiaaGreatDoorIWc
import Derived.Test.YtimjnmbpbobfiaaGreatDoorIPa
import Derived.Test.YtimjnmbpbobfiaaGreatDoorIWb
import Derived.Test.YtimjnmbpbobfiaaGreatDoorIWa
set_option linter.unusedVariables false
set_option linter.unusedSimpArgs false
namespace Go.Proofs.YtimjnmbpbobfiaaGreatDoor.H
open Go Go.AL Go.AL.Hd Go.AL.Ln Go.AL.Ar Go.AL.Sc
set_option maxRecDepth 100000
set_option maxHeartbeats 8000000
abbrev eArc (a : Arc) : List D:=[vB a.hm,LBn a.map,.list .nat (a.ms.map eMn),.list .nat (a.os.map eO)]
abbrev lastO (p : List (Nat × Part)) : Nat:=(p.getLast?.map (·.1)).getD 0
abbrev atA (p : List (Nat × Part)) : Nat:=if (foldP p).2 = 0 then 0 else lastO p
abbrev coX (a : Nat) (e : Int) (s : PS) : So:=[(0,.cells [vB false,.nil,.nil,.nil]),(8,.cells [vI a]),(16,.cells [vI e]),(2560,.cells [vB s.hm,LBn s.map,.list (.tok 301) (s.ms.map eMn),.list (.tok 302) (s.os.map eO),LBn s.names,vB s.ht]),(301,.tok (s.ms.map eMn).length 6),(302,.tok (s.os.map eO).length 1)]
abbrev coA (p : List (Nat × Part)) : So:=coX (atA p) (foldP p).2 (foldP p).1
abbrev juA (p : List (Nat × Part)) : Exit:=if okA p then .normal else .ret
theorem preA {p : List (Nat × Part)} (h : ∀ a y s, p = a ++ y :: s → juA (a ++ [y]) = .normal) : okA p = true := by
 rcases List.eq_nil_or_concat p with rfl|⟨a,y,rfl⟩
 ·rfl
 ·have := h a y [] (by simp)
  cases ho : okA (a ++ [y]) with
  | true=>simpa using ho
  | false=>rw [juA,ho] at this; simp at this
theorem juA_code : (fun p : List (Nat × Part) => (jcode (juA p)).isNone) = okA := by
 funext p
 cases ho : okA p <;> simp only [juA,ho] <;> rfl
theorem aparse_ [Go.AL.MX] (b : Str) (hb : b.length < 4294967280) : FCall Tryz.prog Gl 58 [LB b] [] (.tuple [.agg (eArc (arcP b).1), vI (arcP b).2.1, vI (arcP b).2.2]) [] := by
 refine FCall.enterM hT hmix [] Tryz.func58 rfl rfl rfl fun hbd base=>?_
 (conv=>whnf)
 refine split_intro (fun h1=>?_) (fun h1=>?_)
 ·have h1' : b.length < 8 := by have := of_decide_eq_true h1; simp only [List.length_map] at this; omega
  have e : arcP b = (Arc0,0,2):=by unfold arcP; rw [if_pos h1']
  rw [e]
  (conv=>whnf)
  refine ⟨[],rfl,finT,?_⟩
  (conv=>whnf)
  exact Wk.tuple (Wks.cons (Wk.agg (Wks.cons (Wk.refl _) (Wks.cons (Wk.natN rfl) (Wks.cons (Wk.natN rfl) (Wks.cons (Wk.natN rfl) Wks.nil))))) (Wks.cons (Wk.refl _) (Wks.cons (Wk.refl _) Wks.nil)))
 ·have h1' : ¬ b.length < 8 := by have := of_decide_eq_false h1; simp only [List.length_map] at this; omega
  (conv=>whnf)
  refine CallLeaf.wa (ais_ b (by omega)) rfl ?_
  (conv=>whnf)
  cases his : isP b with
  | false =>
   have h2' : b.take 8 ≠ magic:=by intro h; rw [isP,h] at his; simp at his; omega
   have e : arcP b = (Arc0,0,1):=by unfold arcP; rw [if_neg h1',if_pos h2']
   rw [e]
   (conv=>whnf)
   refine ⟨[],rfl,finT,?_⟩
   (conv=>whnf)
   exact Wk.tuple (Wks.cons (Wk.agg (Wks.cons (Wk.refl _) (Wks.cons (Wk.natN rfl) (Wks.cons (Wk.natN rfl) (Wks.cons (Wk.natN rfl) Wks.nil))))) (Wks.cons (Wk.refl _) (Wks.cons (Wk.refl _) Wks.nil)))
  | true =>
   have h2' : b.take 8 = magic:=by simp only [isP,Bool.and_eq_true,decide_eq_true_eq] at his; exact his.2
   have e : arcP b = match runP PS0 (partsP 8 (b.drop 8)) with|(s,none)=>(s.arc,0,0)|(_,some (k,e))=>(Arc0,k,e):=by unfold arcP; rw [if_neg h1',if_neg (fun h=>h h2')]; rfl
   (conv=>whnf)
   refine CallLeaf.oa [3080] (aparts_ b) rfl rfl rfl rfl ?_
   (conv=>whnf)
   have hPB:=parts_bd _ (b.drop 8) 8 (Nat.le_refl _)
   have hdl : (b.drop 8).length = b.length - 8:=by simp
   refine LWp.rangeFunc hT hmix rfl [] [] 400000 3080 [20] coA juA (aiter_ b (by omega)) (fun _=>rfl) (fun _=>rfl) rfl (fun p=>by cases h : okA p <;> simp [juA,h,jok]) rfl rfl rfl rfl (by simp) rfl (fun p=>?_) ?_
   ·(repeat' (first|exact trivial|exact rfl|refine And.intro ?_ ?_|(conv=>whnf)))
   ·(conv => whnf)
    refine ⟨?_,?_,?_,fun pre x r he hn=>?_,fun v hv=>?_⟩
    ·(repeat' (first | exact trivial | exact Wk.refl _ | exact ObWk.refl _ | exact rfl | exact ⟨_, rfl⟩ | exact Nat.zero_lt_one | refine And.intro ?_ ?_ | unfold okTo | (unfold okO; conv => whnf) | (unfold okS; conv => whnf) | (unfold SlotOk; conv => whnf) | (unfold ObjOk; conv => whnf) | (unfold okCells; conv => whnf) | (unfold liveTo; conv => whnf) | exact Nat.zero_lt_succ _))
     all_goals exact Wk.natN rfl
    ·(repeat' (first|exact trivial|exact rfl|refine And.intro ?_ ?_|(conv=>whnf)))
    ·(repeat' (first|exact trivial|exact rfl|refine And.intro ?_ ?_|(conv=>whnf)))
    ·have hok := preA hn
     have e0 : (foldP pre).2 = 0:=of_decide_eq_true hok
     have hmem : x ∈ partsP 8 (b.drop 8):=by rw [he]; simp
     have hpl : (pre.length + 1) * 60 ≤ b.length + 60 := by
      have:=hPB.1; rw [he] at this; simp only [List.length_append,List.length_cons] at this
      omega
     have hL:=Lim.fold (c:=b.length) pre (fun y hy=>by have:=(hPB.2 y (by rw [he]; exact List.mem_append_left _ hy)).1; omega)
     have hX:=hPB.2 x hmem
     have eD : coA pre = coX 0 0 (foldP pre).1:=by simp only [coA,atA,e0,if_true]
     have eF:=foldP_snoc pre x
     rw [eD]
     obtain ⟨s,hs⟩ : ∃ s,s = (foldP pre).1:=⟨_,rfl⟩
     rw [← hs] at hL eF ⊢
     obtain ⟨k,pt⟩:=x
     obtain ⟨hX1,hX2,hX3,hX4⟩:=hX
     replace hX1 : pt.data.length ≤ (b.drop 8).length:=hX1
     replace hX2 : pt.h.name.length ≤ 16:=hX2
     replace hX4 : k ≤ 8 + (b.drop 8).length:=hX4
     have hLo : lastO (pre ++ [(k,pt)]) = k:=by simp [lastO]
     by_cases hw : pt.why = 0
     ·have eS : stepP s (k, pt) = addP s k pt := by unfold stepP; rw [if_neg (fun h => h hw)]
      (conv=>whnf)
      refine split_intro (fun _=>?_) (fun h=>absurd h (by simp [hw]))
      (conv=>whnf)
      refine CallLeaf.oa [2560,301,302] (aadd_ s k pt ⟨by omega,by omega,by have:=hL.t; omega,by have:=hL.m; omega,by have:=hL.o; have:=hL.m; omega⟩) rfl rfl rfl rfl ?_
      rw [eS] at eF
      (conv=>whnf)
      by_cases hz : (addP s k pt).2 = 0
      ·have eJ : juA (pre ++ [(k, pt)]) = .normal := by simp only [juA, okA, eF, hz]; rfl
       have eC : coA (pre ++ [(k,pt)]) = coX 0 0 (addP s k pt).1:=by simp only [coA,atA,eF,hz,if_true]
       refine split_intro (fun h=>absurd h (by simp [hz])) (fun _=>?_)
       (conv=>whnf)
       refine ⟨eJ.symm,?_⟩
       rw [eC]
       (repeat' (first|exact trivial|exact Wk.refl _|exact ObWk.refl _|exact rfl|exact ⟨_,rfl⟩|exact Nat.zero_lt_one|refine And.intro ?_ ?_|unfold okToR|(unfold liveKs; conv=>whnf)|(unfold okO; conv=>whnf)|(unfold okS; conv=>whnf)|(unfold SlotOk; conv=>whnf)|(unfold ObjOk; conv=>whnf)|(unfold okCells; conv=>whnf)|exact Nat.zero_lt_succ _))
      ·have eJ : juA (pre ++ [(k, pt)]) = .ret := by simp only [juA, okA, eF, decide_eq_false hz]; rfl
       have eC : coA (pre ++ [(k,pt)]) = coX k (addP s k pt).2 (addP s k pt).1:=by simp only [coA,atA,eF,if_neg hz,hLo]
       refine split_intro (fun _=>?_) (fun h=>absurd h (by simpa using hz))
       (conv=>whnf)
       refine ⟨eJ.symm,?_⟩
       rw [eC]
       (repeat' (first|exact trivial|exact Wk.refl _|exact ObWk.refl _|exact rfl|exact ⟨_,rfl⟩|exact Nat.zero_lt_one|refine And.intro ?_ ?_|unfold okToR|(unfold liveKs; conv=>whnf)|(unfold okO; conv=>whnf)|(unfold okS; conv=>whnf)|(unfold SlotOk; conv=>whnf)|(unfold ObjOk; conv=>whnf)|(unfold okCells; conv=>whnf)|exact Nat.zero_lt_succ _))
     ·have eS : stepP s (k, pt) = (s, pt.why) := by unfold stepP; rw [if_pos hw]
      rw [eS] at eF
      have eJ : juA (pre ++ [(k,pt)]) = .ret:=by simp only [juA,okA,eF,decide_eq_false hw]; rfl
      have eC : coA (pre ++ [(k,pt)]) = coX k pt.why s:=by simp only [coA,atA,eF,if_neg hw,hLo]
      (conv=>whnf)
      refine split_intro (fun h=>absurd h (by simpa using hw)) (fun _=>?_)
      (conv=>whnf)
      refine split_intro (fun _=>?_) (fun h=>absurd h (by simpa using hw))
      (conv=>whnf)
      refine ⟨eJ.symm,?_⟩
      rw [eC]
      (repeat' (first|exact trivial|exact Wk.refl _|exact ObWk.refl _|exact rfl|exact ⟨_,rfl⟩|exact Nat.zero_lt_one|refine And.intro ?_ ?_|unfold okToR|(unfold liveKs; conv=>whnf)|(unfold okO; conv=>whnf)|(unfold okS; conv=>whnf)|(unfold SlotOk; conv=>whnf)|(unfold ObjOk; conv=>whnf)|(unfold okCells; conv=>whnf)|exact Nat.zero_lt_succ _))
    ·rw [juA_code] at hv
     obtain ⟨hv1,hv2⟩:=visitA (partsP 8 (b.drop 8)) [] rfl
     rw [← hv] at hv1 hv2
     cases hok : okA v with
     | true =>
      obtain ⟨e1,e2⟩:=hv1 hok
      simp only [List.nil_append] at e1 e2
      rw [← e1] at e2
      have e0 : (foldP v).2 = 0:=of_decide_eq_true hok
      have eD : coA v = coX 0 0 (foldP v).1:=by simp only [coA,atA,e0,if_true]
      rw [show juA v = .normal by simp [juA,hok],eD]
      rw [show runP PS0 (partsP 8 (b.drop 8)) = ((foldP v).1,none) by rw [← e1]; exact e2] at e
      rw [e]
      (conv=>whnf)
      refine ⟨[],rfl,finT,?_⟩
      (conv=>whnf)
      exact Wk.tuple (Wks.cons (Wk.agg (Wks.cons (Wk.refl _) (Wks.cons (Wk.refl _) (Wks.cons (Wk.refl _) (Wks.cons (Wk.refl _) Wks.nil))))) (Wks.cons (Wk.refl _) (Wks.cons (Wk.refl _) Wks.nil)))
     | false =>
      obtain ⟨q,x,e1,e2,e3⟩:=hv2 hok
      have e0 : (foldP v).2 ≠ 0:=of_decide_eq_false hok
      have hLo : lastO v = x.1:=by rw [e1]; simp [lastO]
      have eD : coA v = coX x.1 (foldP v).2 (foldP v).1:=by simp only [coA,atA,if_neg e0,hLo]
      rw [show juA v = .ret by simp [juA,hok],eD]
      rw [show runP PS0 (partsP 8 (b.drop 8)) = ((foldP v).1,some (x.1,(foldP v).2)) by rw [e1]; exact e3] at e
      rw [e]
      (conv=>whnf)
      refine ⟨[],rfl,finT,?_⟩
      (conv=>whnf)
      exact Wk.tuple (Wks.cons (Wk.agg (Wks.cons (Wk.refl _) (Wks.cons (Wk.natN rfl) (Wks.cons (Wk.natN rfl) (Wks.cons (Wk.natN rfl) Wks.nil))))) (Wks.cons (Wk.refl _) (Wks.cons (Wk.refl _) Wks.nil)))
end Go.Proofs.YtimjnmbpbobfiaaGreatDoor.H

namespace Go.Proofs.YtimjnmbpbobfiaaGreatDoor.H
open Go Go.AL Go.AL.Hd Go.AL.Ln Go.AL.Ar Go.AL.Sc
set_option maxRecDepth 100000
set_option maxHeartbeats 8000000
theorem rmagic_ [Go.AL.MX] : FCall Tryz.prog Gl 24 [] [] (LBn magic) [] := by
 refine FCall.enterL hT hmix [] Tryz.func24 rfl rfl rfl fun hbd=>?_
 (conv=>whnf)
 exact Wk.refl _
theorem ris_ [Go.AL.MX] (b : Str) : FCall Tryz.prog Gl 31 [LB b] [] (vB (isP b)) [] := by
 refine FCall.enterL hT hmix [] Tryz.func31 rfl rfl rfl fun hbd=>?_
 have hb:=bds_list hbd (.head _)
 (conv=>whnf)
 refine split_intro (fun h=>?_) (fun h=>?_)
 ·have h' : 8 ≤ b.length := by have := of_decide_eq_true h; simp only [List.length_map] at this; omega
  (conv=>whnf)
  refine ⟨(b.take 8).map byteD,slL (by omega) (by omega) (by simp; omega) (fun _=>rfl) (by simp),?_⟩
  (conv=>whnf)
  refine CallLeaf.wa (rmagic_) rfl ?_
  (conv=>whnf)
  refine CallLeaf.wa (O.same_ (b.take 8) magic) rfl ?_
  (conv=>whnf)
  exact Wk.bool (by simp [isP,h'])
 ·have h' : ¬ 8 ≤ b.length := by have := of_decide_eq_false h; simp only [List.length_map] at this; omega
  (conv=>whnf)
  exact Wk.bool (by simp [isP,h'])
end Go.Proofs.YtimjnmbpbobfiaaGreatDoor.H

namespace Go.Proofs.YtimjnmbpbobfiaaGreatDoor.O
open Go Go.AL Go.AL.Ap Go.AL.Ob
set_option maxRecDepth 100000
abbrev SE (l : List Ob.Sym) : List (List D):=l.map Ob.Sym.enc
abbrev oD (o : Ob.Obj) : D:=.agg [.list .any (SE o.syms),LB o.body]
abbrev oDn (o : Ob.Obj) : D:=.agg [.list .nat (SE o.syms),LBn o.body]
theorem oget_ [Go.AL.MX] (b : List UInt8) (hb : 4 ≤ b.length) : FCall Tryz.prog Gl 83 [LB b] [] (vI (num b)) [] := by
 obtain ⟨x,y,z,w,r,rfl⟩:=split4 hb
 have hx:=x.toNat_lt
 have hy:=y.toNat_lt
 have hz:=z.toNat_lt
 have hw:=w.toNat_lt
 refine FCall.enterL hT hmix [] Tryz.func83 rfl rfl rfl fun hbd=>?_
 (conv=>whnf)
 refine ⟨_,⟨by decide,rfl⟩,?_⟩
 (conv=>whnf)
 refine ⟨_,wrap64 (by omega),?_⟩
 (conv=>whnf)
 refine ⟨_,shl64n (k:=24) (by omega) rfl (by omega),?_⟩
 (conv=>whnf)
 refine ⟨_,⟨by decide,rfl⟩,?_⟩
 (conv=>whnf)
 refine ⟨_,wrap64 (by omega),?_⟩
 (conv=>whnf)
 refine ⟨_,shl64n (k:=16) (by omega) rfl (by omega),?_⟩
 (conv=>whnf)
 refine ⟨_,or64n (x.toNat) 24 rfl (by omega) rfl (by omega),?_⟩
 (conv=>whnf)
 refine ⟨_,⟨by decide,rfl⟩,?_⟩
 (conv=>whnf)
 refine ⟨_,wrap64 (by omega),?_⟩
 (conv=>whnf)
 refine ⟨_,shl64n (k:=8) (by omega) rfl (by omega),?_⟩
 (conv=>whnf)
 refine ⟨_,or64n (x.toNat * 256 + y.toNat) 16 (by omega) (by omega) rfl (by omega),?_⟩
 (conv=>whnf)
 refine ⟨_,⟨by decide,rfl⟩,?_⟩
 (conv=>whnf)
 refine ⟨_,wrap64 (by omega),?_⟩
 (conv=>whnf)
 refine ⟨_,or64n ((x.toNat * 256 + y.toNat) * 256 + z.toNat) 8 (by omega) (by omega) rfl (by omega),?_⟩
 (conv=>whnf)
 exact Wk.int (by rw [num4]; omega)
abbrev thr (n : Int) : D:=.iface 118 (.agg [vI n])
abbrev Dr (r : List UInt8) : List AObj:=[.cells [LB r]]
theorem must_t [Go.AL.MX] (n : Int) : FCall Tryz.prog Gl 61 [vB true, vI n] [] (.tuple []) [] := by
 refine FCall.enterL hT hmix [] Tryz.func61 rfl rfl rfl fun hbd=>?_
 (conv=>whnf)
 exact Wk.refl _
theorem must_f [Go.AL.MX] (n : Int) : PCall Tryz.prog Gl 61 [vB false, vI n] [] (thr n) [] := by
 refine PCall.enter hT hmix [] Tryz.func61 rfl rfl rfl fun hbd=>?_
 (conv=>whnf)
 refine ⟨[],rfl,finT,?_⟩
 exact Wk.refl _
theorem take_ [Go.AL.MX] (r : List UInt8) (n : Nat) (hn : n ≤ r.length) : FCall Tryz.prog Gl 62 [.ptr 0 0, vI n] (Dr r) (LB (r.take n)) (Dr (r.drop n)) := by
 refine FCall.enterO hT hmix [] Tryz.func62 rfl rfl rfl fun hbd=>?_
 (conv=>whnf)
 refine split_intro (fun h=>absurd h (by (simp; omega))) (fun _=>?_)
 (conv=>whnf)
 refine ⟨_,slTake (f:=byteD) (l:=r) (b:=n) (r:=r.take n) rfl hn (fun _=>rfl) rfl,?_⟩
 (conv=>whnf)
 refine ⟨_,slDrop (f:=byteD) (l:=r) (a:=n) (r:=r.drop n) rfl hn (fun _=>rfl) rfl,?_⟩
 (conv=>whnf)
 refine ⟨[0],rfl,finT,?_⟩
 exact Wk.refl _
theorem take_f [Go.AL.MX] (r : List UInt8) (n : Nat) (hn : ¬ n ≤ r.length) : PCall Tryz.prog Gl 62 [.ptr 0 0, vI n] (Dr r) (thr 2) (Dr r) := by
 refine PCall.enter hT hmix [] Tryz.func62 rfl rfl rfl fun hbd=>?_
 (conv=>whnf)
 refine split_intro (fun _=>?_) (fun h=>absurd h (by (simp; omega)))
 (conv=>whnf)
 refine ⟨[0],rfl,finT,?_⟩
 exact Wk.refl _
end Go.Proofs.YtimjnmbpbobfiaaGreatDoor.O

namespace Go.Proofs.YtimjnmbpbobfiaaGreatDoor.O
open Go Go.AL Go.AL.Ap Go.AL.Ob
set_option maxRecDepth 100000
abbrev Dj : List AObj:=[.cells [.junk]]
theorem number_ok [Go.AL.MX] (r : List UInt8) (hn : 4 ≤ r.length) : FCall Tryz.prog Gl 63 [.ptr 0 0] (Dr r) (vI (num r)) (Dr (r.drop 4)) := by
 have hg:=oget_ (r.take 4) (by simp; omega)
 rw [num_take hn] at hg
 refine FCall.enterO hT hmix [] Tryz.func63 rfl rfl rfl fun hbd=>?_
 (conv=>whnf)
 refine CallLeaf.oa [0] (take_ r 4 hn) rfl rfl rfl rfl ?_
 (conv=>whnf)
 refine CallLeaf.wa (hg) rfl ?_
 (conv=>whnf)
 refine ⟨[0],rfl,finT,?_⟩
 exact Wk.refl _
theorem number_f [Go.AL.MX] (r : List UInt8) (hn : ¬ 4 ≤ r.length) : PCall Tryz.prog Gl 63 [.ptr 0 0] (Dr r) (thr 2) (Dr r) := by
 refine PCall.enter hT hmix [] Tryz.func63 rfl rfl rfl fun hbd=>?_
 (conv=>whnf)
 refine CallLeaf.po [0] argT (take_f r 4 hn) rfl rfl triT triT triT rfl rfl ?_
 refine ⟨[0],rfl,finT,?_⟩
 exact Wk.refl _
theorem hd_take (r : List UInt8) (k n : Nat) (h1 : k < n) (h2 : k < r.length) : (List.map byteD (r.take n))[k]? = some (byteD (r.getD k 0)) := by
 simp [List.getElem?_take_of_lt h1,List.getD,h2]
theorem symbol_ok [Go.AL.MX] (r r' : List UInt8) (s : Ob.Sym) (h : nextS r = some (s, r')) : FCall Tryz.prog Gl 64 [.ptr 0 0] (Dr r) (.agg s.enc) (Dr r') := by
 unfold nextS at h
 split at h
 ·simp at h
 ·rename_i hl
  simp only [Option.some.injEq,Prod.mk.injEq] at h
  obtain ⟨hs,hr⟩:=h
  have h10 : 10 ≤ r.length:=by omega
  refine FCall.enterO hT hmix [] Tryz.func64 rfl rfl rfl fun hbd=>?_
  (conv=>whnf)
  refine split_intro (fun h=>absurd h (by (simp; omega))) (fun _=>?_)
  (conv=>whnf)
  have T1:=take_ r 1 (by omega)
  have N1:=number_ok (r.drop 1) (by simp; omega)
  have N2:=number_ok (r.drop 5) (by simp; omega)
  have T2:=take_ (r.drop 9) 1 (by simp; omega)
  have T3:=take_ (r.drop 10) (r.getD 9 0).toNat (by rw [List.length_drop]; omega)
  rw [List.drop_drop] at N1 N2 T2 T3
  have u0:=(r.getD 0 0).toNat_lt
  have u9:=(r.getD 9 0).toNat_lt
  have g0:=hd_take r 0 1 (by omega) (by omega)
  have g9:=hd_take (r.drop 9) 0 1 (by omega) (by simp; omega)
  have e9 : (r.drop 9).getD 0 0 = r.getD 9 0:=by simp [List.getD]
  rw [e9] at g9
  subst hs; subst hr
  refine CallLeaf.oa [0] (T1) rfl rfl rfl rfl ?_
  (conv=>whnf)
  refine ⟨_,⟨by decide,g0⟩,?_⟩
  (conv=>whnf)
  refine ⟨_,wrap64 (by omega),?_⟩
  (conv=>whnf)
  refine CallLeaf.oa [0] (N1) rfl rfl rfl rfl ?_
  (conv=>whnf)
  refine CallLeaf.oa [0] (N2) rfl rfl rfl rfl ?_
  (conv=>whnf)
  refine CallLeaf.oa [0] (T2) rfl rfl rfl rfl ?_
  (conv=>whnf)
  refine ⟨_,⟨by decide,g9⟩,?_⟩
  (conv=>whnf)
  refine ⟨_,wrap64 (by omega),?_⟩
  (conv=>whnf)
  refine CallLeaf.oa [0] (T3) rfl rfl rfl rfl ?_
  (conv=>whnf)
  refine ⟨_,rfl,?_⟩
  (conv=>whnf)
  refine ⟨[0],rfl,finT,?_⟩
  exact Wk.refl _
theorem symbol_f [Go.AL.MX] (r : List UInt8) (h : nextS r = none) : PCall Tryz.prog Gl 64 [.ptr 0 0] (Dr r) (thr 2) Dj := by
 unfold nextS at h
 split at h
 case isFalse=>simp at h
 rename_i hl
 refine PCall.enter hT hmix [] Tryz.func64 rfl rfl rfl fun hbd=>?_
 (conv=>whnf)
 refine split_intro (fun h10=>?_) (fun h10=>?_)
 ·(conv => whnf)
  refine ⟨[0],rfl,by (repeat' (first|exact trivial|exact ObWk.refl _|exact ObWk.cells _ _ (Wks.cons (Wk.junk _) Wks.nil)|refine And.intro ?_ ?_|unfold pullOk)),?_⟩
  exact Wk.refl _
 ·have h10' : 10 ≤ r.length := by have := of_decide_eq_false h10; simp at this; omega
  have T1:=take_ r 1 (by omega)
  have N1:=number_ok (r.drop 1) (by simp; omega)
  have N2:=number_ok (r.drop 5) (by simp; omega)
  have T2:=take_ (r.drop 9) 1 (by simp; omega)
  have T3:=take_f (r.drop 10) (r.getD 9 0).toNat (by rw [List.length_drop]; omega)
  rw [List.drop_drop] at N1 N2 T2
  have u0:=(r.getD 0 0).toNat_lt
  have u9:=(r.getD 9 0).toNat_lt
  have g0:=hd_take r 0 1 (by omega) (by omega)
  have g9:=hd_take (r.drop 9) 0 1 (by omega) (by simp; omega)
  have e9 : (r.drop 9).getD 0 0 = r.getD 9 0:=by simp [List.getD]
  rw [e9] at g9
  (conv=>whnf)
  refine CallLeaf.oa [0] (T1) rfl rfl rfl rfl ?_
  (conv=>whnf)
  refine ⟨_,⟨by decide,g0⟩,?_⟩
  (conv=>whnf)
  refine ⟨_,wrap64 (by omega),?_⟩
  (conv=>whnf)
  refine CallLeaf.oa [0] (N1) rfl rfl rfl rfl ?_
  (conv=>whnf)
  refine CallLeaf.oa [0] (N2) rfl rfl rfl rfl ?_
  (conv=>whnf)
  refine CallLeaf.oa [0] (T2) rfl rfl rfl rfl ?_
  (conv=>whnf)
  refine ⟨_,⟨by decide,g9⟩,?_⟩
  (conv=>whnf)
  refine ⟨_,wrap64 (by omega),?_⟩
  (conv=>whnf)
  refine CallLeaf.po [0] argT (T3) rfl rfl triT triT triT rfl rfl ?_
  refine ⟨[0],rfl,by (repeat' (first|exact trivial|exact ObWk.refl _|exact ObWk.cells _ _ (Wks.cons (Wk.junk _) Wks.nil)|refine And.intro ?_ ?_|unfold pullOk)),?_⟩
  exact Wk.refl _
end Go.Proofs.YtimjnmbpbobfiaaGreatDoor.O

namespace Go.Proofs.YtimjnmbpbobfiaaGreatDoor.O
open Go Go.AL Go.AL.Ap Go.AL.Ob
set_option maxRecDepth 100000
theorem vbad {s : Ob.Sym} (h : ¬ (1 ≤ s.name.length ∧ s.name.length ≤ 255 ∧ (0 : UInt8) ∉ s.name ∧ 0 ≤ s.size ∧ s.size ≤ 4294967295)) : valid s = false := by
 cases hv : valid s with
 | false=>rfl
 | true =>
  obtain ⟨h1,h2,h3,h4,h5,_⟩:=valid_iff.1 hv
  exact absurd ⟨h1,h2,h3,h4,h5⟩ h
theorem vgood {s : Ob.Sym} (h1 : 1 ≤ s.name.length) (h2 : s.name.length ≤ 255) (h3 : (0 : UInt8) ∉ s.name) (h4 : 0 ≤ s.size) (h5 : s.size ≤ 4294967295) : valid s = bindOk s := by
 simp [valid,h1,h2,h3,h4,h5]
theorem valid_ [Go.AL.MX] (s : Ob.Sym) : FCall Tryz.prog Gl 65 [.agg s.enc] [] (vB (valid s)) [] := by
 obtain ⟨nm,bd,sz,al⟩:=s
 have hsz:=sB_sz nm
 refine FCall.enterL hT hmix [] Tryz.func65 rfl rfl rfl fun hbd=>?_
 (conv=>whnf)
 refine split_intro (fun h1=>?_) (fun h1=>?_)
 ·have h1' : ((sB nm).size : Int) < 1 := of_decide_eq_true h1
  (conv=>whnf)
  exact Wk.bool (vbad (by simp only; omega)).symm
 ·have h1' : ¬ (((sB nm).size : Int) < 1) := of_decide_eq_false h1
  (conv=>whnf)
  refine split_intro (fun h2=>?_) (fun h2=>?_)
  ·have h2' : (255 : Int) < (sB nm).size := of_decide_eq_true h2
   (conv=>whnf)
   exact Wk.bool (vbad (by simp only; omega)).symm
  ·have h2' : ¬ ((255 : Int) < (sB nm).size) := of_decide_eq_false h2
   (conv=>whnf)
   refine CallLeaf.wa (contains0_ nm) rfl ?_
   (conv=>whnf)
   refine split_intro (fun h3=>?_) (fun h3=>?_)
   ·have h3' : (0 : UInt8) ∈ nm := of_decide_eq_true h3
    (conv=>whnf)
    exact Wk.bool (vbad (fun h=>h.2.2.1 h3')).symm
   ·have h3' : ¬ ((0 : UInt8) ∈ nm) := of_decide_eq_false h3
    (conv=>whnf)
    refine split_intro (fun h4=>?_) (fun h4=>?_)
    ·have h4' : sz < 0 := of_decide_eq_true h4
     (conv=>whnf)
     exact Wk.bool (vbad (by simp only; omega)).symm
    ·have h4' : ¬ (sz < 0) := of_decide_eq_false h4
     (conv=>whnf)
     refine split_intro (fun h5=>?_) (fun h5=>?_)
     ·have h5' : (4294967295 : Int) < sz := of_decide_eq_true h5
      (conv=>whnf)
      exact Wk.bool (vbad (by simp only; omega)).symm
     ·have h5' : ¬ ((4294967295 : Int) < sz) := of_decide_eq_false h5
      rw [vgood (s:=⟨nm,bd,sz,al⟩) (by simp only; omega) (by simp only; omega) h3' (by simp only; omega) (by simp only; omega)]
      (conv=>whnf)
      refine split_intro (fun b1=>?_) (fun b1=>?_)
      ·have b1' : bd = 1 := eq_of_beq b1
       subst b1'
       (conv=>whnf)
       exact Wk.bool (by simp [bindOk]; rw [Bool.eq_iff_iff]; simp)
      ·have b1' : ¬ bd = 1 := by simpa using b1
       (conv=>whnf)
       refine split_intro (fun b2=>?_) (fun b2=>?_)
       ·have b2' : bd = 2 := eq_of_beq b2
        subst b2'
        (conv=>whnf)
        exact Wk.bool (by simp [bindOk]; rw [Bool.eq_iff_iff]; simp)
       ·have b2' : ¬ bd = 2 := by simpa using b2
        (conv=>whnf)
        refine split_intro (fun b3=>?_) (fun b3=>?_)
        ·have b3' : bd = 3 := eq_of_beq b3
         subst b3'
         (conv=>whnf)
         refine split_intro (fun a1=>?_) (fun a1=>?_)
         ·have a1' : (1 : Int) ≤ al := of_decide_eq_true a1
          (conv=>whnf)
          refine split_intro (fun a2=>?_) (fun a2=>?_)
          ·have a2' : al ≤ 65536 := of_decide_eq_true a2
           obtain ⟨n,rfl⟩:=Int.eq_ofNat_of_zero_le (show 0 ≤ al by omega)
           (conv=>whnf)
           refine ⟨((n - 1 : Nat) : Int),sub64 (by show (n : Int) - 1 = _; omega) (by omega),?_⟩
           (conv=>whnf)
           refine ⟨_,and64n (by omega) (by omega),?_⟩
           (conv=>whnf)
           exact Wk.bool (by simp only [bindOk,if_true]; rw [pow_and (by omega) (by omega),Bool.eq_iff_iff]; simp; try omega)
          ·have a2' : ¬ (al ≤ 65536) := of_decide_eq_false a2
           (conv=>whnf)
           exact Wk.bool (by
            symm; simp only [bindOk,if_true]
            rw [Bool.eq_false_iff]; intro hp; have:=pow_le hp; omega)
         ·have a1' : ¬ ((1 : Int) ≤ al) := of_decide_eq_false a1
          (conv=>whnf)
          exact Wk.bool (by
           symm; simp only [bindOk,if_true]
           rw [Bool.eq_false_iff]; intro hp; have:=of_decide_eq_true hp
           simp only [pows,List.mem_cons,List.not_mem_nil,or_false] at this; omega)
        ·have b3' : ¬ bd = 3 := by simpa using b3
         (conv=>whnf)
         refine split_intro (fun b4=>?_) (fun b4=>?_)
         ·have b4' : bd = 4 := eq_of_beq b4
          subst b4'
          (conv=>whnf)
          ((refine split_intro (fun a1=>?_) (fun a1=>?_)); (((conv=>whnf)); exact Wk.bool (by have a1' : al = 0:=eq_of_beq a1; simp [bindOk,a1']; (try rw [Bool.eq_iff_iff]); (try simp))); (((conv=>whnf)); exact Wk.bool (by have a1' : ¬ al = 0:=(by simpa using a1); simp [bindOk,a1'])))
         ·have b4' : ¬ bd = 4 := by simpa using b4
          (conv=>whnf)
          refine split_intro (fun b5=>?_) (fun b5=>?_)
          ·have b5' : bd = 5 := eq_of_beq b5
           subst b5'
           (conv=>whnf)
           ((refine split_intro (fun a1=>?_) (fun a1=>?_)); (((conv=>whnf)); exact Wk.bool (by have a1' : al = 0:=eq_of_beq a1; simp [bindOk,a1']; (try rw [Bool.eq_iff_iff]); (try simp))); (((conv=>whnf)); exact Wk.bool (by have a1' : ¬ al = 0:=(by simpa using a1); simp [bindOk,a1'])))
          ·have b5' : ¬ bd = 5 := by simpa using b5
           (conv=>whnf)
           exact Wk.bool (by simp [bindOk,b1',b2',b3',b4',b5'])
end Go.Proofs.YtimjnmbpbobfiaaGreatDoor.O

namespace Go.Proofs.YtimjnmbpbobfiaaGreatDoor.O
open Go Go.AL Go.AL.Ap Go.AL.Ob
set_option maxRecDepth 100000
set_option maxHeartbeats 4000000
theorem must_t' [Go.AL.MX] (b : Bool) (n : Int) (h : b = true) : FCall Tryz.prog Gl 61 [vB b,vI n] [] (.tuple []) []:=by subst h; exact must_t n
theorem must_f' [Go.AL.MX] (b : Bool) (n : Int) (h : b = false) : PCall Tryz.prog Gl 61 [vB b,vI n] [] (thr n) []:=by subst h; exact must_f n
theorem clone_ [Go.AL.MX] (r : List UInt8) (hr : r.length ≤ 1000000000) : FCall Tryz.prog Gl 66 [LB r] [] (LBn r) [] := by
 refine FCall.enterL hT hmix [] Tryz.func66 rfl rfl rfl fun hbd=>?_
 (conv=>whnf)
 refine And.intro (fun he=>?_) (fun he=>?_)
 ·have hr0 : r = [] := by simpa using he
  subst hr0
  (conv=>whnf)
  refine And.intro ?_ ?_
  ·(conv => whnf)
   exact Wk.natN rfl
  ·(conv => whnf)
   refine ⟨_,appL (f:=byteD) (xs:=[]) (ys:=[]) (zs:=[]) rfl rfl (fun _=>rfl) rfl (by decide),?_⟩
   (conv=>whnf)
   exact Wk.nat' rfl
 ·(conv => whnf)
  refine ⟨_,appL (f:=byteD) (xs:=[]) (ys:=r) (zs:=r) rfl rfl (fun _=>rfl) rfl (by show _ * 1 ≤ _; omega),?_⟩
  (conv=>whnf)
  exact Wk.nat' rfl
theorem has_mem (l : List Ob.Sym) (n : Str) : Ob.has l n = decide (n ∈ l.map Ob.Sym.name) := by
 rw [Bool.eq_iff_iff,Ob.has_iff]; simp
theorem object_ok [Go.AL.MX] (r : List UInt8) (l : List Ob.Sym) (x : List UInt8) (h : decO r = .ok (l, x)) (hr : r.length ≤ 1000000000) :
  FCall Tryz.prog Gl 49 [.ptr 0 0] (Dr r) (oDn ⟨l,x⟩) Dj:=by
 unfold decO at h
 split at h
 ·simp at h
 rename_i h4
 split at h
 ·simp at h
 rename_i hm
 split at h
 ·simp at h
 rename_i h8
 split at h
 ·simp at h
 rename_i hn
 simp only [ne_eq,Decidable.not_not] at hm
 have T1:=take_ r 4 (by omega)
 have N1:=number_ok (r.drop 4) (by simp; omega)
 rw [List.drop_drop] at N1
 have hn32:=num_lt (r.drop 4)
 generalize hnn : num (r.drop 4) = n at *
 refine FCall.enterO hT hmix [] Tryz.func49 rfl rfl rfl fun hbd=>?_
 (conv=>whnf)
 refine CallLeaf.o [0] (by (repeat' (first|exact ArgsTo.nil|refine ArgsTo.cons ?_ ?_|exact ArgTo.mk' rfl (Wk.refl _)|exact ArgTo.mk' rfl Wk.nilm|exact ArgTo.mk' rfl (Wk.int (by simp))|exact ArgTo.mk' rfl (Wk.list _ _)|exact ArgTo.mk' rfl (Wk.agg (by (repeat' (first|exact Wks.nil|refine Wks.cons ?_ ?_|exact Wk.refl _|exact Wk.nilm|exact Wk.list _ _  | exact Wk.natN rfl|refine Wk.agg ?_))))))) (T1) rfl rfl (by (repeat' (first|exact trivial|exact rfl|refine And.intro ?_ ?_))) (by (repeat' (first|exact trivial|exact rfl|refine And.intro ?_ ?_))) (by (repeat' (first|exact trivial|exact rfl|refine And.intro ?_ ?_))) rfl rfl ?_
 (conv=>whnf)
 (refine ⟨(r.take 4),rfl,?_⟩)
 (conv=>whnf)
 refine CallLeaf.w (by (repeat' (first|exact ArgsTo.nil|refine ArgsTo.cons ?_ ?_|exact ArgTo.mk' rfl (Wk.refl _)|exact ArgTo.mk' rfl Wk.nilm|exact ArgTo.mk' rfl (Wk.int (by simp))|exact ArgTo.mk' rfl (Wk.list _ _)|exact ArgTo.mk' rfl (Wk.agg (by (repeat' (first|exact Wks.nil|refine Wks.cons ?_ ?_|exact Wk.refl _|exact Wk.nilm|exact Wk.list _ _  | exact Wk.natN rfl|refine Wk.agg ?_))))))) (must_t' _ 1 (decide_eq_true hm)) rfl ?_
 (conv=>whnf)
 refine CallLeaf.o [0] (by (repeat' (first|exact ArgsTo.nil|refine ArgsTo.cons ?_ ?_|exact ArgTo.mk' rfl (Wk.refl _)|exact ArgTo.mk' rfl Wk.nilm|exact ArgTo.mk' rfl (Wk.int (by simp))|exact ArgTo.mk' rfl (Wk.list _ _)|exact ArgTo.mk' rfl (Wk.agg (by (repeat' (first|exact Wks.nil|refine Wks.cons ?_ ?_|exact Wk.refl _|exact Wk.nilm|exact Wk.list _ _  | exact Wk.natN rfl|refine Wk.agg ?_))))))) (N1) rfl rfl (by (repeat' (first|exact trivial|exact rfl|refine And.intro ?_ ?_))) (by (repeat' (first|exact trivial|exact rfl|refine And.intro ?_ ?_))) (by (repeat' (first|exact trivial|exact rfl|refine And.intro ?_ ?_))) rfl rfl ?_
 (conv=>whnf)
 refine CallLeaf.w (by (repeat' (first|exact ArgsTo.nil|refine ArgsTo.cons ?_ ?_|exact ArgTo.mk' rfl (Wk.refl _)|exact ArgTo.mk' rfl Wk.nilm|exact ArgTo.mk' rfl (Wk.int (by simp))|exact ArgTo.mk' rfl (Wk.list _ _)|exact ArgTo.mk' rfl (Wk.agg (by (repeat' (first|exact Wks.nil|refine Wks.cons ?_ ?_|exact Wk.refl _|exact Wk.nilm|exact Wk.list _ _  | exact Wk.natN rfl|refine Wk.agg ?_))))))) (must_t' _ 12 (by simp; omega)) rfl ?_
 (conv=>whnf)
 refine LWp.loop hT hmix [] (fun x : Nat × List UInt8 × List Ob.Sym × Ents=>[(19,vI x.1)]) (fun x=>[(0,.cells [LB x.2.1]),(2049,.cells [.list (.tok 403) (SE x.2.2.1),.nil]),(403,.tok (SE x.2.2.1).length 4),(2561,.map x.2.2.2)]) (fun y=>y.1 ≤ n ∧ y.2.1.length ≤ r.length ∧ y.2.2.1.length = y.1 ∧ Wt.Sn y.2.2.2 (y.2.2.1.map Ob.Sym.name) ∧ Ob.decL (n - y.1) y.2.1 y.2.2.1 = .ok (l,x)) (fun x=>n - x.1) (0,r.drop 8,[],[]) ⟨Nat.zero_le _,by simp,rfl,Wt.Sn.nil,h⟩ ?_
 (conv=>whnf)
 refine ⟨?_,fun ⟨k,q,acc,es⟩ ⟨hk,hql,hal,hS,hd⟩=>?_⟩
 ·(repeat' (first|exact trivial|exact Wk.refl _|exact ObWk.refl _|exact rfl|exact ⟨_,rfl⟩|exact Nat.zero_lt_one|refine And.intro ?_ ?_|unfold okTo|(unfold okO; conv=>whnf)|(unfold okS; conv=>whnf)|(unfold SlotOk; conv=>whnf)|(unfold ObjOk; conv=>whnf)|(unfold okCells; conv=>whnf)|(unfold liveTo; conv=>whnf)|exact Nat.zero_lt_succ _))
 ·replace hk : k ≤ n := hk
  replace hql : q.length ≤ r.length:=hql
  replace hal : acc.length = k:=hal
  replace hS : Wt.Sn es (acc.map Ob.Sym.name):=hS
  replace hd : Ob.decL (n - k) q acc = .ok (l,x):=hd
  (conv=>whnf)
  refine split_intro (fun h2=>?_) (fun h2=>?_)
  ·have hlt : k < n := by have := of_decide_eq_true h2; omega
   obtain ⟨m,hmm⟩ : ∃ m,n - k = m + 1:=⟨n - k - 1,by omega⟩
   rw [hmm,Ob.decL] at hd
   split at hd
   ·simp at hd
   rename_i s q' hnx
   split at hd
   case isFalse=>simp at hd
   rename_i hvs
   simp only [Bool.and_eq_true,Bool.not_eq_true'] at hvs
   rw [has_mem] at hvs
   have hq':=congrArg List.length (nextS_some hnx hvs.1)
   simp at hq'
   (conv=>whnf)
   refine CallLeaf.o [0] (by (repeat' (first|exact ArgsTo.nil|refine ArgsTo.cons ?_ ?_|exact ArgTo.mk' rfl (Wk.refl _)|exact ArgTo.mk' rfl Wk.nilm|exact ArgTo.mk' rfl (Wk.int (by simp))|exact ArgTo.mk' rfl (Wk.list _ _)|exact ArgTo.mk' rfl (Wk.agg (by (repeat' (first|exact Wks.nil|refine Wks.cons ?_ ?_|exact Wk.refl _|exact Wk.nilm|exact Wk.list _ _  | exact Wk.natN rfl|refine Wk.agg ?_))))))) (symbol_ok q q' s hnx) rfl rfl (by (repeat' (first|exact trivial|exact rfl|refine And.intro ?_ ?_))) (by (repeat' (first|exact trivial|exact rfl|refine And.intro ?_ ?_))) (by (repeat' (first|exact trivial|exact rfl|refine And.intro ?_ ?_))) rfl rfl ?_
   (conv=>whnf)
   refine CallLeaf.w (by (repeat' (first|exact ArgsTo.nil|refine ArgsTo.cons ?_ ?_|exact ArgTo.mk' rfl (Wk.refl _)|exact ArgTo.mk' rfl Wk.nilm|exact ArgTo.mk' rfl (Wk.int (by simp))|exact ArgTo.mk' rfl (Wk.list _ _)|exact ArgTo.mk' rfl (Wk.agg (by (repeat' (first|exact Wks.nil|refine Wks.cons ?_ ?_|exact Wk.refl _|exact Wk.nilm|exact Wk.list _ _  | exact Wk.natN rfl|refine Wk.agg ?_))))))) (valid_ s) rfl ?_
   (conv=>whnf)
   refine split_intro (fun _=>?_) (fun h=>absurd h (by (simp [hvs.1])))
   (conv=>whnf)
   refine ⟨_,⟨hS.keys,hS.look' s.name⟩,?_⟩
   (conv=>whnf)
   refine CallLeaf.w (by (repeat' (first|exact ArgsTo.nil|refine ArgsTo.cons ?_ ?_|exact ArgTo.mk' rfl (Wk.refl _)|exact ArgTo.mk' rfl Wk.nilm|exact ArgTo.mk' rfl (Wk.int (by simp))|exact ArgTo.mk' rfl (Wk.list _ _)|exact ArgTo.mk' rfl (Wk.agg (by (repeat' (first|exact Wks.nil|refine Wks.cons ?_ ?_|exact Wk.refl _|exact Wk.nilm|exact Wk.list _ _  | exact Wk.natN rfl|refine Wk.agg ?_))))))) (must_t' _ 12 (by rw [hvs.2]; rfl)) rfl ?_
   (conv=>whnf)
   refine ⟨_,⟨hS.keys,rfl⟩,?_⟩
   (conv=>whnf)
   refine ⟨_,appL (f:=Ob.Sym.enc) (xs:=acc) (ys:=[s]) (zs:=acc ++ [s]) rfl rfl (fun _=>rfl) rfl (by rw [List.length_append]; show (_ + 1) * 40 ≤ _; omega),?_⟩
   (conv=>whnf)
   refine ⟨_,add64 (c:=((k + 1 : Nat) : Int)) (by omega) (by omega),?_⟩
   (conv=>whnf)
   refine ⟨(k + 1,q',acc ++ [s],mset es (.string (sB s.name)) (vB true)),⟨⟨by show k + 1 ≤ n; omega,by show q'.length ≤ _; omega,by simp [hal],by have:=hS.set s.name; simpa using this,?_⟩,by show n - (k + 1) < n - k; omega⟩,?_⟩
   ·show Ob.decL (n - (k + 1)) q' (acc ++ [s]) = _
    rw [show n - (k + 1) = m by omega]; exact hd
   ·(repeat' (first|exact trivial|exact Wk.refl _|exact ObWk.refl _|exact rfl|exact ⟨_,rfl⟩|exact Nat.zero_lt_one|refine And.intro ?_ ?_|unfold okTo|(unfold okO; conv=>whnf)|(unfold okS; conv=>whnf)|(unfold SlotOk; conv=>whnf)|(unfold ObjOk; conv=>whnf)|(unfold okCells; conv=>whnf)|(unfold liveTo; conv=>whnf)|exact Nat.zero_lt_succ _))
  ·have hge : n - k = 0 := by have := of_decide_eq_false h2; omega
   rw [hge,Ob.decL] at hd
   simp only [Except.ok.injEq,Prod.mk.injEq] at hd
   obtain ⟨e1,e2⟩:=hd
   subst e1; subst e2
   (conv=>whnf)
   refine CallLeaf.w (by (repeat' (first|exact ArgsTo.nil|refine ArgsTo.cons ?_ ?_|exact ArgTo.mk' rfl (Wk.refl _)|exact ArgTo.mk' rfl Wk.nilm|exact ArgTo.mk' rfl (Wk.int (by simp))|exact ArgTo.mk' rfl (Wk.list _ _)|exact ArgTo.mk' rfl (Wk.agg (by (repeat' (first|exact Wks.nil|refine Wks.cons ?_ ?_|exact Wk.refl _|exact Wk.nilm|exact Wk.list _ _  | exact Wk.natN rfl|refine Wk.agg ?_))))))) (clone_ q (by omega)) rfl ?_
   (conv=>whnf)
   refine ⟨[0],rfl,by (repeat' (first|exact trivial|exact ObWk.refl _|exact ObWk.cells _ _ (Wks.cons (Wk.junk _) Wks.nil)|refine And.intro ?_ ?_|unfold pullOk)),?_⟩
   exact Wk.agg (Wks.cons (Wk.nat' rfl) (Wks.cons (Wk.nat' rfl) Wks.nil))
end Go.Proofs.YtimjnmbpbobfiaaGreatDoor.O

namespace Go.Proofs.YtimjnmbpbobfiaaGreatDoor.O
open Go Go.AL Go.AL.Ap Go.AL.Ob
set_option maxRecDepth 100000
set_option maxHeartbeats 4000000
theorem object_f [Go.AL.MX] (r : List UInt8) (e : Int) (h : decO r = .error e) (hr : r.length ≤ 1000000000) :
  PCall Tryz.prog Gl 49 [.ptr 0 0] (Dr r) (thr e) Dj:=by
 unfold decO at h
 split at h
 ·rename_i h4
  injection h with h
  subst h
  refine PCall.enter hT hmix [] Tryz.func49 rfl rfl rfl fun hbd=>?_
  (conv=>whnf)
  refine CallLeaf.po [0] (by (repeat' (first|exact ArgsTo.nil|refine ArgsTo.cons ?_ ?_|exact ArgTo.mk' rfl (Wk.refl _)|exact ArgTo.mk' rfl Wk.nilm|exact ArgTo.mk' rfl (Wk.int (by simp))|exact ArgTo.mk' rfl (Wk.list _ _)|exact ArgTo.mk' rfl (Wk.agg (by (repeat' (first|exact Wks.nil|refine Wks.cons ?_ ?_|exact Wk.refl _|exact Wk.nilm|exact Wk.list _ _  | exact Wk.natN rfl|refine Wk.agg ?_))))))) (take_f r 4 (by omega)) rfl rfl (by (repeat' (first|exact trivial|exact rfl|refine And.intro ?_ ?_))) (by (repeat' (first|exact trivial|exact rfl|refine And.intro ?_ ?_))) (by (repeat' (first|exact trivial|exact rfl|refine And.intro ?_ ?_))) rfl rfl ?_
  refine ⟨[0],rfl,by (repeat' (first|exact trivial|exact ObWk.refl _|exact ObWk.cells _ _ (Wks.cons (Wk.junk _) Wks.nil)|refine And.intro ?_ ?_|unfold pullOk)),?_⟩
  exact Wk.refl _
 rename_i h4
 have T1:=take_ r 4 (by omega)
 split at h
 ·rename_i hm
  injection h with h
  subst h
  refine PCall.enter hT hmix [] Tryz.func49 rfl rfl rfl fun hbd=>?_
  (conv=>whnf)
  refine CallLeaf.o [0] (by (repeat' (first|exact ArgsTo.nil|refine ArgsTo.cons ?_ ?_|exact ArgTo.mk' rfl (Wk.refl _)|exact ArgTo.mk' rfl Wk.nilm|exact ArgTo.mk' rfl (Wk.int (by simp))|exact ArgTo.mk' rfl (Wk.list _ _)|exact ArgTo.mk' rfl (Wk.agg (by (repeat' (first|exact Wks.nil|refine Wks.cons ?_ ?_|exact Wk.refl _|exact Wk.nilm|exact Wk.list _ _  | exact Wk.natN rfl|refine Wk.agg ?_))))))) (T1) rfl rfl (by (repeat' (first|exact trivial|exact rfl|refine And.intro ?_ ?_))) (by (repeat' (first|exact trivial|exact rfl|refine And.intro ?_ ?_))) (by (repeat' (first|exact trivial|exact rfl|refine And.intro ?_ ?_))) rfl rfl ?_
  (conv=>whnf)
  refine ⟨(r.take 4),rfl,?_⟩
  (conv=>whnf)
  refine CallLeaf.po [] (by (repeat' (first|exact ArgsTo.nil|refine ArgsTo.cons ?_ ?_|exact ArgTo.mk' rfl (Wk.refl _)|exact ArgTo.mk' rfl Wk.nilm|exact ArgTo.mk' rfl (Wk.int (by simp))|exact ArgTo.mk' rfl (Wk.list _ _)|exact ArgTo.mk' rfl (Wk.agg (by (repeat' (first|exact Wks.nil|refine Wks.cons ?_ ?_|exact Wk.refl _|exact Wk.nilm|exact Wk.list _ _  | exact Wk.natN rfl|refine Wk.agg ?_))))))) (must_f' _ 1 (decide_eq_false hm)) rfl rfl (by (repeat' (first|exact trivial|exact rfl|refine And.intro ?_ ?_))) (by (repeat' (first|exact trivial|exact rfl|refine And.intro ?_ ?_))) (by (repeat' (first|exact trivial|exact rfl|refine And.intro ?_ ?_))) rfl rfl ?_
  refine ⟨[0],rfl,by (repeat' (first|exact trivial|exact ObWk.refl _|exact ObWk.cells _ _ (Wks.cons (Wk.junk _) Wks.nil)|refine And.intro ?_ ?_|unfold pullOk)),?_⟩
  exact Wk.refl _
 rename_i hm
 simp only [ne_eq,Decidable.not_not] at hm
 split at h
 ·rename_i h8
  injection h with h
  subst h
  have N1:=number_f (r.drop 4) (by simp; omega)
  refine PCall.enter hT hmix [] Tryz.func49 rfl rfl rfl fun hbd=>?_
  (conv=>whnf)
  refine CallLeaf.o [0] (by (repeat' (first|exact ArgsTo.nil|refine ArgsTo.cons ?_ ?_|exact ArgTo.mk' rfl (Wk.refl _)|exact ArgTo.mk' rfl Wk.nilm|exact ArgTo.mk' rfl (Wk.int (by simp))|exact ArgTo.mk' rfl (Wk.list _ _)|exact ArgTo.mk' rfl (Wk.agg (by (repeat' (first|exact Wks.nil|refine Wks.cons ?_ ?_|exact Wk.refl _|exact Wk.nilm|exact Wk.list _ _  | exact Wk.natN rfl|refine Wk.agg ?_))))))) (T1) rfl rfl (by (repeat' (first|exact trivial|exact rfl|refine And.intro ?_ ?_))) (by (repeat' (first|exact trivial|exact rfl|refine And.intro ?_ ?_))) (by (repeat' (first|exact trivial|exact rfl|refine And.intro ?_ ?_))) rfl rfl ?_
  (conv=>whnf)
  refine ⟨(r.take 4),rfl,?_⟩
  (conv=>whnf)
  refine CallLeaf.w (by (repeat' (first|exact ArgsTo.nil|refine ArgsTo.cons ?_ ?_|exact ArgTo.mk' rfl (Wk.refl _)|exact ArgTo.mk' rfl Wk.nilm|exact ArgTo.mk' rfl (Wk.int (by simp))|exact ArgTo.mk' rfl (Wk.list _ _)|exact ArgTo.mk' rfl (Wk.agg (by (repeat' (first|exact Wks.nil|refine Wks.cons ?_ ?_|exact Wk.refl _|exact Wk.nilm|exact Wk.list _ _  | exact Wk.natN rfl|refine Wk.agg ?_))))))) (must_t' _ 1 (decide_eq_true hm)) rfl ?_
  (conv=>whnf)
  refine CallLeaf.po [0] (by (repeat' (first|exact ArgsTo.nil|refine ArgsTo.cons ?_ ?_|exact ArgTo.mk' rfl (Wk.refl _)|exact ArgTo.mk' rfl Wk.nilm|exact ArgTo.mk' rfl (Wk.int (by simp))|exact ArgTo.mk' rfl (Wk.list _ _)|exact ArgTo.mk' rfl (Wk.agg (by (repeat' (first|exact Wks.nil|refine Wks.cons ?_ ?_|exact Wk.refl _|exact Wk.nilm|exact Wk.list _ _  | exact Wk.natN rfl|refine Wk.agg ?_))))))) (N1) rfl rfl (by (repeat' (first|exact trivial|exact rfl|refine And.intro ?_ ?_))) (by (repeat' (first|exact trivial|exact rfl|refine And.intro ?_ ?_))) (by (repeat' (first|exact trivial|exact rfl|refine And.intro ?_ ?_))) rfl rfl ?_
  refine ⟨[0],rfl,by (repeat' (first|exact trivial|exact ObWk.refl _|exact ObWk.cells _ _ (Wks.cons (Wk.junk _) Wks.nil)|refine And.intro ?_ ?_|unfold pullOk)),?_⟩
  exact Wk.refl _
 rename_i h8
 have N1:=number_ok (r.drop 4) (by simp; omega)
 rw [List.drop_drop] at N1
 have hn32:=num_lt (r.drop 4)
 split at h
 ·rename_i hn
  injection h with h
  subst h
  generalize hnn : num (r.drop 4) = n at *
  refine PCall.enter hT hmix [] Tryz.func49 rfl rfl rfl fun hbd=>?_
  (conv=>whnf)
  refine CallLeaf.o [0] (by (repeat' (first|exact ArgsTo.nil|refine ArgsTo.cons ?_ ?_|exact ArgTo.mk' rfl (Wk.refl _)|exact ArgTo.mk' rfl Wk.nilm|exact ArgTo.mk' rfl (Wk.int (by simp))|exact ArgTo.mk' rfl (Wk.list _ _)|exact ArgTo.mk' rfl (Wk.agg (by (repeat' (first|exact Wks.nil|refine Wks.cons ?_ ?_|exact Wk.refl _|exact Wk.nilm|exact Wk.list _ _  | exact Wk.natN rfl|refine Wk.agg ?_))))))) (T1) rfl rfl (by (repeat' (first|exact trivial|exact rfl|refine And.intro ?_ ?_))) (by (repeat' (first|exact trivial|exact rfl|refine And.intro ?_ ?_))) (by (repeat' (first|exact trivial|exact rfl|refine And.intro ?_ ?_))) rfl rfl ?_
  (conv=>whnf)
  refine ⟨(r.take 4),rfl,?_⟩
  (conv=>whnf)
  refine CallLeaf.w (by (repeat' (first|exact ArgsTo.nil|refine ArgsTo.cons ?_ ?_|exact ArgTo.mk' rfl (Wk.refl _)|exact ArgTo.mk' rfl Wk.nilm|exact ArgTo.mk' rfl (Wk.int (by simp))|exact ArgTo.mk' rfl (Wk.list _ _)|exact ArgTo.mk' rfl (Wk.agg (by (repeat' (first|exact Wks.nil|refine Wks.cons ?_ ?_|exact Wk.refl _|exact Wk.nilm|exact Wk.list _ _  | exact Wk.natN rfl|refine Wk.agg ?_))))))) (must_t' _ 1 (decide_eq_true hm)) rfl ?_
  (conv=>whnf)
  refine CallLeaf.o [0] (by (repeat' (first|exact ArgsTo.nil|refine ArgsTo.cons ?_ ?_|exact ArgTo.mk' rfl (Wk.refl _)|exact ArgTo.mk' rfl Wk.nilm|exact ArgTo.mk' rfl (Wk.int (by simp))|exact ArgTo.mk' rfl (Wk.list _ _)|exact ArgTo.mk' rfl (Wk.agg (by (repeat' (first|exact Wks.nil|refine Wks.cons ?_ ?_|exact Wk.refl _|exact Wk.nilm|exact Wk.list _ _  | exact Wk.natN rfl|refine Wk.agg ?_))))))) (N1) rfl rfl (by (repeat' (first|exact trivial|exact rfl|refine And.intro ?_ ?_))) (by (repeat' (first|exact trivial|exact rfl|refine And.intro ?_ ?_))) (by (repeat' (first|exact trivial|exact rfl|refine And.intro ?_ ?_))) rfl rfl ?_
  (conv=>whnf)
  refine CallLeaf.po [] (by (repeat' (first|exact ArgsTo.nil|refine ArgsTo.cons ?_ ?_|exact ArgTo.mk' rfl (Wk.refl _)|exact ArgTo.mk' rfl Wk.nilm|exact ArgTo.mk' rfl (Wk.int (by simp))|exact ArgTo.mk' rfl (Wk.list _ _)|exact ArgTo.mk' rfl (Wk.agg (by (repeat' (first|exact Wks.nil|refine Wks.cons ?_ ?_|exact Wk.refl _|exact Wk.nilm|exact Wk.list _ _  | exact Wk.natN rfl|refine Wk.agg ?_))))))) (must_f' _ 12 (by simp; omega)) rfl rfl (by (repeat' (first|exact trivial|exact rfl|refine And.intro ?_ ?_))) (by (repeat' (first|exact trivial|exact rfl|refine And.intro ?_ ?_))) (by (repeat' (first|exact trivial|exact rfl|refine And.intro ?_ ?_))) rfl rfl ?_
  refine ⟨[0],rfl,by (repeat' (first|exact trivial|exact ObWk.refl _|exact ObWk.cells _ _ (Wks.cons (Wk.junk _) Wks.nil)|refine And.intro ?_ ?_|unfold pullOk)),?_⟩
  exact Wk.refl _
 rename_i hn
 generalize hnn : num (r.drop 4) = n at *
 refine PCall.enter hT hmix [] Tryz.func49 rfl rfl rfl fun hbd=>?_
 (conv=>whnf)
 refine CallLeaf.o [0] (by (repeat' (first|exact ArgsTo.nil|refine ArgsTo.cons ?_ ?_|exact ArgTo.mk' rfl (Wk.refl _)|exact ArgTo.mk' rfl Wk.nilm|exact ArgTo.mk' rfl (Wk.int (by simp))|exact ArgTo.mk' rfl (Wk.list _ _)|exact ArgTo.mk' rfl (Wk.agg (by (repeat' (first|exact Wks.nil|refine Wks.cons ?_ ?_|exact Wk.refl _|exact Wk.nilm|exact Wk.list _ _  | exact Wk.natN rfl|refine Wk.agg ?_))))))) (T1) rfl rfl (by (repeat' (first|exact trivial|exact rfl|refine And.intro ?_ ?_))) (by (repeat' (first|exact trivial|exact rfl|refine And.intro ?_ ?_))) (by (repeat' (first|exact trivial|exact rfl|refine And.intro ?_ ?_))) rfl rfl ?_
 (conv=>whnf)
 refine ⟨(r.take 4),rfl,?_⟩
 (conv=>whnf)
 refine CallLeaf.w (by (repeat' (first|exact ArgsTo.nil|refine ArgsTo.cons ?_ ?_|exact ArgTo.mk' rfl (Wk.refl _)|exact ArgTo.mk' rfl Wk.nilm|exact ArgTo.mk' rfl (Wk.int (by simp))|exact ArgTo.mk' rfl (Wk.list _ _)|exact ArgTo.mk' rfl (Wk.agg (by (repeat' (first|exact Wks.nil|refine Wks.cons ?_ ?_|exact Wk.refl _|exact Wk.nilm|exact Wk.list _ _  | exact Wk.natN rfl|refine Wk.agg ?_))))))) (must_t' _ 1 (decide_eq_true hm)) rfl ?_
 (conv=>whnf)
 refine CallLeaf.o [0] (by (repeat' (first|exact ArgsTo.nil|refine ArgsTo.cons ?_ ?_|exact ArgTo.mk' rfl (Wk.refl _)|exact ArgTo.mk' rfl Wk.nilm|exact ArgTo.mk' rfl (Wk.int (by simp))|exact ArgTo.mk' rfl (Wk.list _ _)|exact ArgTo.mk' rfl (Wk.agg (by (repeat' (first|exact Wks.nil|refine Wks.cons ?_ ?_|exact Wk.refl _|exact Wk.nilm|exact Wk.list _ _  | exact Wk.natN rfl|refine Wk.agg ?_))))))) (N1) rfl rfl (by (repeat' (first|exact trivial|exact rfl|refine And.intro ?_ ?_))) (by (repeat' (first|exact trivial|exact rfl|refine And.intro ?_ ?_))) (by (repeat' (first|exact trivial|exact rfl|refine And.intro ?_ ?_))) rfl rfl ?_
 (conv=>whnf)
 refine CallLeaf.w (by (repeat' (first|exact ArgsTo.nil|refine ArgsTo.cons ?_ ?_|exact ArgTo.mk' rfl (Wk.refl _)|exact ArgTo.mk' rfl Wk.nilm|exact ArgTo.mk' rfl (Wk.int (by simp))|exact ArgTo.mk' rfl (Wk.list _ _)|exact ArgTo.mk' rfl (Wk.agg (by (repeat' (first|exact Wks.nil|refine Wks.cons ?_ ?_|exact Wk.refl _|exact Wk.nilm|exact Wk.list _ _  | exact Wk.natN rfl|refine Wk.agg ?_))))))) (must_t' _ 12 (by simp; omega)) rfl ?_
 (conv=>whnf)
 refine LWp.loop hT hmix [] (fun x : Nat × List UInt8 × List Ob.Sym × Ents=>[(19,vI x.1)]) (fun x=>[(0,.cells [LB x.2.1]),(2049,.cells [.list (.tok 403) (SE x.2.2.1),.nil]),(403,.tok (SE x.2.2.1).length 4),(2561,.map x.2.2.2)]) (fun y=>y.1 ≤ n ∧ y.2.1.length ≤ r.length ∧ y.2.2.1.length = y.1 ∧ Wt.Sn y.2.2.2 (y.2.2.1.map Ob.Sym.name) ∧ Ob.decL (n - y.1) y.2.1 y.2.2.1 = .error e) (fun x=>n - x.1) (0,r.drop 8,[],[]) ⟨Nat.zero_le _,by simp,rfl,Wt.Sn.nil,h⟩ ?_
 (conv=>whnf)
 refine ⟨?_,fun ⟨k,q,acc,es⟩ ⟨hk,hql,hal,hS,hd⟩=>?_⟩
 ·(repeat' (first|exact trivial|exact Wk.refl _|exact ObWk.refl _|exact rfl|exact ⟨_,rfl⟩|exact Nat.zero_lt_one|refine And.intro ?_ ?_|unfold okTo|(unfold okO; conv=>whnf)|(unfold okS; conv=>whnf)|(unfold SlotOk; conv=>whnf)|(unfold ObjOk; conv=>whnf)|(unfold okCells; conv=>whnf)|(unfold liveTo; conv=>whnf)|exact Nat.zero_lt_succ _))
 ·replace hk : k ≤ n := hk
  replace hql : q.length ≤ r.length:=hql
  replace hal : acc.length = k:=hal
  replace hS : Wt.Sn es (acc.map Ob.Sym.name):=hS
  replace hd : Ob.decL (n - k) q acc = .error e:=hd
  (conv=>whnf)
  refine split_intro (fun h2=>?_) (fun h2=>?_)
  ·have hlt : k < n := by have := of_decide_eq_true h2; omega
   obtain ⟨m,hmm⟩ : ∃ m,n - k = m + 1:=⟨n - k - 1,by omega⟩
   rw [hmm,Ob.decL] at hd
   split at hd
   ·rename_i hnx
    injection hd with hd
    subst hd
    (conv=>whnf)
    refine CallLeaf.po [0] (by (repeat' (first|exact ArgsTo.nil|refine ArgsTo.cons ?_ ?_|exact ArgTo.mk' rfl (Wk.refl _)|exact ArgTo.mk' rfl Wk.nilm|exact ArgTo.mk' rfl (Wk.int (by simp))|exact ArgTo.mk' rfl (Wk.list _ _)|exact ArgTo.mk' rfl (Wk.agg (by (repeat' (first|exact Wks.nil|refine Wks.cons ?_ ?_|exact Wk.refl _|exact Wk.nilm|exact Wk.list _ _  | exact Wk.natN rfl|refine Wk.agg ?_))))))) (symbol_f q hnx) rfl rfl (by (repeat' (first|exact trivial|exact rfl|refine And.intro ?_ ?_))) (by (repeat' (first|exact trivial|exact rfl|refine And.intro ?_ ?_))) (by (repeat' (first|exact trivial|exact rfl|refine And.intro ?_ ?_))) rfl rfl ?_
    refine ⟨[0],rfl,by (repeat' (first|exact trivial|exact ObWk.refl _|exact ObWk.cells _ _ (Wks.cons (Wk.junk _) Wks.nil)|refine And.intro ?_ ?_|unfold pullOk)),?_⟩
    exact Wk.refl _
   rename_i s q' hnx
   split at hd
   case isFalse =>
    rename_i hvs
    injection hd with hd
    subst hd
    (conv=>whnf)
    refine CallLeaf.o [0] (by (repeat' (first|exact ArgsTo.nil|refine ArgsTo.cons ?_ ?_|exact ArgTo.mk' rfl (Wk.refl _)|exact ArgTo.mk' rfl Wk.nilm|exact ArgTo.mk' rfl (Wk.int (by simp))|exact ArgTo.mk' rfl (Wk.list _ _)|exact ArgTo.mk' rfl (Wk.agg (by (repeat' (first|exact Wks.nil|refine Wks.cons ?_ ?_|exact Wk.refl _|exact Wk.nilm|exact Wk.list _ _  | exact Wk.natN rfl|refine Wk.agg ?_))))))) (symbol_ok q q' s hnx) rfl rfl (by (repeat' (first|exact trivial|exact rfl|refine And.intro ?_ ?_))) (by (repeat' (first|exact trivial|exact rfl|refine And.intro ?_ ?_))) (by (repeat' (first|exact trivial|exact rfl|refine And.intro ?_ ?_))) rfl rfl ?_
    (conv=>whnf)
    refine CallLeaf.w (by (repeat' (first|exact ArgsTo.nil|refine ArgsTo.cons ?_ ?_|exact ArgTo.mk' rfl (Wk.refl _)|exact ArgTo.mk' rfl Wk.nilm|exact ArgTo.mk' rfl (Wk.int (by simp))|exact ArgTo.mk' rfl (Wk.list _ _)|exact ArgTo.mk' rfl (Wk.agg (by (repeat' (first|exact Wks.nil|refine Wks.cons ?_ ?_|exact Wk.refl _|exact Wk.nilm|exact Wk.list _ _  | exact Wk.natN rfl|refine Wk.agg ?_))))))) (valid_ s) rfl ?_
    (conv=>whnf)
    refine split_intro (fun hv=>?_) (fun hv=>?_)
    ·have hh : Ob.has acc s.name = true := by
      cases hc : Ob.has acc s.name with
      | true=>rfl
      | false=>exact absurd (by simp [hv,hc]) hvs
     rw [has_mem] at hh
     (conv=>whnf)
     refine ⟨_,⟨hS.keys,hS.look' s.name⟩,?_⟩
     (conv=>whnf)
     refine CallLeaf.po [] (by (repeat' (first|exact ArgsTo.nil|refine ArgsTo.cons ?_ ?_|exact ArgTo.mk' rfl (Wk.refl _)|exact ArgTo.mk' rfl Wk.nilm|exact ArgTo.mk' rfl (Wk.int (by simp))|exact ArgTo.mk' rfl (Wk.list _ _)|exact ArgTo.mk' rfl (Wk.agg (by (repeat' (first|exact Wks.nil|refine Wks.cons ?_ ?_|exact Wk.refl _|exact Wk.nilm|exact Wk.list _ _  | exact Wk.natN rfl|refine Wk.agg ?_))))))) (must_f' _ 12 (by rw [hh]; rfl)) rfl rfl (by (repeat' (first|exact trivial|exact rfl|refine And.intro ?_ ?_))) (by (repeat' (first|exact trivial|exact rfl|refine And.intro ?_ ?_))) (by (repeat' (first|exact trivial|exact rfl|refine And.intro ?_ ?_))) rfl rfl ?_
     refine ⟨[0],rfl,by (repeat' (first|exact trivial|exact ObWk.refl _|exact ObWk.cells _ _ (Wks.cons (Wk.junk _) Wks.nil)|refine And.intro ?_ ?_|unfold pullOk)),?_⟩
     exact Wk.refl _
    ·(conv => whnf)
     refine CallLeaf.po [] (by (repeat' (first|exact ArgsTo.nil|refine ArgsTo.cons ?_ ?_|exact ArgTo.mk' rfl (Wk.refl _)|exact ArgTo.mk' rfl Wk.nilm|exact ArgTo.mk' rfl (Wk.int (by simp))|exact ArgTo.mk' rfl (Wk.list _ _)|exact ArgTo.mk' rfl (Wk.agg (by (repeat' (first|exact Wks.nil|refine Wks.cons ?_ ?_|exact Wk.refl _|exact Wk.nilm|exact Wk.list _ _  | exact Wk.natN rfl|refine Wk.agg ?_))))))) (must_f' _ 12 rfl) rfl rfl (by (repeat' (first|exact trivial|exact rfl|refine And.intro ?_ ?_))) (by (repeat' (first|exact trivial|exact rfl|refine And.intro ?_ ?_))) (by (repeat' (first|exact trivial|exact rfl|refine And.intro ?_ ?_))) rfl rfl ?_
     refine ⟨[0],rfl,by (repeat' (first|exact trivial|exact ObWk.refl _|exact ObWk.cells _ _ (Wks.cons (Wk.junk _) Wks.nil)|refine And.intro ?_ ?_|unfold pullOk)),?_⟩
     exact Wk.refl _
   rename_i hvs
   simp only [Bool.and_eq_true,Bool.not_eq_true'] at hvs
   rw [has_mem] at hvs
   have hq':=congrArg List.length (nextS_some hnx hvs.1)
   simp at hq'
   (conv=>whnf)
   refine CallLeaf.o [0] (by (repeat' (first|exact ArgsTo.nil|refine ArgsTo.cons ?_ ?_|exact ArgTo.mk' rfl (Wk.refl _)|exact ArgTo.mk' rfl Wk.nilm|exact ArgTo.mk' rfl (Wk.int (by simp))|exact ArgTo.mk' rfl (Wk.list _ _)|exact ArgTo.mk' rfl (Wk.agg (by (repeat' (first|exact Wks.nil|refine Wks.cons ?_ ?_|exact Wk.refl _|exact Wk.nilm|exact Wk.list _ _  | exact Wk.natN rfl|refine Wk.agg ?_))))))) (symbol_ok q q' s hnx) rfl rfl (by (repeat' (first|exact trivial|exact rfl|refine And.intro ?_ ?_))) (by (repeat' (first|exact trivial|exact rfl|refine And.intro ?_ ?_))) (by (repeat' (first|exact trivial|exact rfl|refine And.intro ?_ ?_))) rfl rfl ?_
   (conv=>whnf)
   refine CallLeaf.w (by (repeat' (first|exact ArgsTo.nil|refine ArgsTo.cons ?_ ?_|exact ArgTo.mk' rfl (Wk.refl _)|exact ArgTo.mk' rfl Wk.nilm|exact ArgTo.mk' rfl (Wk.int (by simp))|exact ArgTo.mk' rfl (Wk.list _ _)|exact ArgTo.mk' rfl (Wk.agg (by (repeat' (first|exact Wks.nil|refine Wks.cons ?_ ?_|exact Wk.refl _|exact Wk.nilm|exact Wk.list _ _  | exact Wk.natN rfl|refine Wk.agg ?_))))))) (valid_ s) rfl ?_
   (conv=>whnf)
   refine split_intro (fun _=>?_) (fun h=>absurd h (by (simp [hvs.1])))
   (conv=>whnf)
   refine ⟨_,⟨hS.keys,hS.look' s.name⟩,?_⟩
   (conv=>whnf)
   refine CallLeaf.w (by (repeat' (first|exact ArgsTo.nil|refine ArgsTo.cons ?_ ?_|exact ArgTo.mk' rfl (Wk.refl _)|exact ArgTo.mk' rfl Wk.nilm|exact ArgTo.mk' rfl (Wk.int (by simp))|exact ArgTo.mk' rfl (Wk.list _ _)|exact ArgTo.mk' rfl (Wk.agg (by (repeat' (first|exact Wks.nil|refine Wks.cons ?_ ?_|exact Wk.refl _|exact Wk.nilm|exact Wk.list _ _  | exact Wk.natN rfl|refine Wk.agg ?_))))))) (must_t' _ 12 (by rw [hvs.2]; rfl)) rfl ?_
   (conv=>whnf)
   refine ⟨_,⟨hS.keys,rfl⟩,?_⟩
   (conv=>whnf)
   refine ⟨_,appL (f:=Ob.Sym.enc) (xs:=acc) (ys:=[s]) (zs:=acc ++ [s]) rfl rfl (fun _=>rfl) rfl (by rw [List.length_append]; show (_ + 1) * 40 ≤ _; omega),?_⟩
   (conv=>whnf)
   refine ⟨_,add64 (c:=((k + 1 : Nat) : Int)) (by omega) (by omega),?_⟩
   (conv=>whnf)
   refine ⟨(k + 1,q',acc ++ [s],mset es (.string (sB s.name)) (vB true)),⟨⟨by show k + 1 ≤ n; omega,by show q'.length ≤ _; omega,by simp [hal],by have:=hS.set s.name; simpa using this,?_⟩,by show n - (k + 1) < n - k; omega⟩,?_⟩
   ·show Ob.decL (n - (k + 1)) q' (acc ++ [s]) = _
    rw [show n - (k + 1) = m by omega]; exact hd
   ·(repeat' (first|exact trivial|exact Wk.refl _|exact ObWk.refl _|exact rfl|exact ⟨_,rfl⟩|exact Nat.zero_lt_one|refine And.intro ?_ ?_|unfold okTo|(unfold okO; conv=>whnf)|(unfold okS; conv=>whnf)|(unfold SlotOk; conv=>whnf)|(unfold ObjOk; conv=>whnf)|(unfold okCells; conv=>whnf)|(unfold liveTo; conv=>whnf)|exact Nat.zero_lt_succ _))
  ·have hge : n - k = 0 := by have := of_decide_eq_false h2; omega
   rw [hge,Ob.decL] at hd
   simp at hd
end Go.Proofs.YtimjnmbpbobfiaaGreatDoor.O

namespace Go.Proofs.YtimjnmbpbobfiaaGreatDoor.O
open Go Go.AL Go.AL.Ap Go.AL.Ob
set_option maxRecDepth 100000
set_option maxHeartbeats 4000000
theorem door_n [Go.AL.MX] (l : List Ob.Sym) (x : List UInt8) (c : Int) : DCall Tryz.prog Gl 48 [.ptr 0 0, .ptr 1 0] [.cells [.list .nat (SE l), LBn x], .cells [vI c]] none [.cells [.list .nat (SE l), LBn x], .cells [vI c]] := by
 refine DCall.enter hT hmix Tryz.func48 rfl rfl rfl rfl rfl rfl rfl rfl rfl rfl rfl rfl ?_
 (conv=>whnf)
 refine ⟨[0,1],rfl,finT,?_⟩
 exact Wk.refl _
theorem door_p [Go.AL.MX] (c n : Int) : DCall Tryz.prog Gl 48 [.ptr 0 0, .ptr 1 0] [.cells [.nil, .nil], .cells [vI c]] (some (thr n)) [.cells [.nil, .nil], .cells [vI n]] := by
 refine DCall.enter hT hmix Tryz.func48 rfl rfl rfl rfl rfl rfl rfl rfl rfl rfl rfl rfl ?_
 (conv=>whnf)
 refine ⟨[0,1],rfl,finT,?_⟩
 exact Wk.refl _
def encRO (r : Except Int (List Ob.Sym × List UInt8)) : Ob.Obj × Int:=match r with|.ok (l,x)=>(⟨l,x⟩,0)|.error e=>(⟨[],[]⟩,e)
theorem odecode_ [Go.AL.MX] (r : List UInt8) (hr : r.length ≤ 1000000000) : FCall Tryz.prog Gl 29 [LB r] [] (.tuple [oDn (encRO (decO r)).1, vI (encRO (decO r)).2]) [] := by
 refine FCall.enterD hT hmix Tryz.func29 rfl rfl rfl rfl rfl rfl rfl rfl rfl rfl (fun hbd=>?_)
 (conv=>whnf)
 refine ⟨[(0,0),(8,0)],rfl,by simp,fun ds=>?_⟩
 cases hd : decO r with
 | ok p =>
  obtain ⟨l,x⟩:=p
  (conv=>whnf)
  refine CallLeaf.oa [5136] (object_ok r l x hd hr) rfl rfl rfl rfl ?_
  (conv=>whnf)
  refine Door.o [0,8] argT (door_n l x 0) rfl rfl triT triT triT rfl rfl (fun d h=>nomatch h) ?_
  (conv=>whnf)
  refine ⟨[],rfl,finT,?_⟩
  exact Wk.refl _
 | error e =>
  (conv=>whnf)
  refine CallLeaf.po [5136] argT (object_f r e hd hr) rfl rfl triT triT triT rfl rfl ?_
  (conv=>whnf)
  refine Door.o [0,8] argT (door_p 0 e) rfl rfl triT triT triT rfl rfl (fun d h=>by injection h with h; subst h; exact fun _=>rfl) ?_
  (conv=>whnf)
  refine ⟨[],rfl,finT,?_⟩
  exact Wk.tuple (Wks.cons (Wk.agg (Wks.cons (Wk.natN rfl) (Wks.cons (Wk.natN rfl) Wks.nil))) (Wks.cons (Wk.refl _) Wks.nil))
end Go.Proofs.YtimjnmbpbobfiaaGreatDoor.O

namespace Go.Proofs.YtimjnmbpbobfiaaGreatDoor.O
open Go Go.AL Go.AL.Ap Go.AL.Ob
set_option maxRecDepth 100000
set_option maxHeartbeats 4000000
theorem okL_step {l : List Ob.Sym} {k : Nat} {s : Ob.Sym} (h : l[k]? = some s) : okL [] (l.take (k + 1)) = (okL [] (l.take k) && (valid s && !Ob.has (l.take k) s.name)) := by
 rw [List.take_add_one,h,Option.toList_some,okL_app]
 simp [okL]
theorem okL_bad {l : List Ob.Sym} {k : Nat} {s : Ob.Sym} (h : l[k]? = some s) (hb : (valid s && !Ob.has (l.take k) s.name) = false) : validO l = false := by
 have h1:=okL_step h
 rw [hb,Bool.and_false] at h1
 have h2:=okL_app (l.take (k + 1)) (l.drop (k + 1)) []
 rw [List.take_append_drop,h1,Bool.false_and] at h2
 simp [validO,h2]
end Go.Proofs.YtimjnmbpbobfiaaGreatDoor.O

namespace Go.Proofs.YtimjnmbpbobfiaaGreatDoor.O
open Go Go.AL Go.AL.Ap Go.AL.Ob
set_option maxRecDepth 100000
set_option maxHeartbeats 4000000
def encRO' (o : Ob.Obj) : List UInt8 × Int:=if validO o.syms then (encO o,0) else ([],12)
theorem encL_take {l : List Ob.Sym} {k : Nat} {s : Ob.Sym} (h : l[k]? = some s) : encL (l.take (k + 1)) = encL (l.take k) ++ Ob.encS s := by
 rw [List.take_add_one,h]; simp [encL]
theorem encL_le (l : List Ob.Sym) (k : Nat) : (encL (l.take k)).length ≤ (encL l).length := by
 conv=>rhs; rw [← List.take_append_drop k l]
 simp only [encL,List.flatMap_append,List.length_append]
 omega
theorem okL_mem : ∀ (l acc : List Ob.Sym), okL acc l = true → ∀ s ∈ l, valid s = true
 | [],_,_,s,h=>by simp at h
 | x :: l,acc,h,s,hs=>by
  simp only [okL,Bool.and_eq_true] at h
  rcases List.mem_cons.1 hs with rfl|hs
  ·exact h.1.1
  ·exact okL_mem l _ h.2 s hs
end Go.Proofs.YtimjnmbpbobfiaaGreatDoor.O

namespace Go.Proofs.YtimjnmbpbobfiaaGreatDoor.O
open Go Go.AL Go.AL.Ap Go.AL.Ob
set_option maxRecDepth 100000
set_option maxHeartbeats 4000000
theorem pows_at : ∀ i < 17,pows[i]? = some ((2 ^ i : Nat) : Int):=by decide
theorem pow_le16 {j : Nat} (h : (2 ^ j : Nat) ≤ 65536) : j ≤ 16 := by
 rcases Nat.lt_or_ge 16 j with hj|hj
 ·have : 2 ^ 17 ≤ 2 ^ j := Nat.pow_le_pow_right (by decide) hj
  omega
 ·exact hj
theorem two_step {j : Nat} (h : (2 ^ j : Nat) ≤ 65536) : intBin .mul .i64 2 ((2 ^ j : Nat) : Int) = some ((2 ^ (j + 1) : Nat) : Int) := by
 rw [Nat.pow_succ]
 generalize 2 ^ j = m at *
 exact mul64 (by push_cast; omega) (by push_cast; omega)
theorem power_ [Go.AL.MX] (n : Int) : FCall Tryz.prog Gl 56 [vI n] [] (vB (power n)) [] := by
 refine FCall.enterL hT hmix [] Tryz.func56 rfl rfl rfl fun hbd=>?_
 (conv=>whnf)
 refine LWp.loop hT hmix [] (fun j : Nat=>[(3,vI ((2 ^ j : Nat) : Int))]) (fun _=>[]) (fun j=>j ≤ 17 ∧ n ∉ pows.take j) (fun j=>17 - j) 0 ⟨Nat.zero_le _,(List.not_mem_nil : n ∉ ([] : List Int))⟩ ?_
 (conv=>whnf)
 refine ⟨?_,fun j ⟨hj,hn⟩=>?_⟩
 ·exact okT
 ·(conv => whnf)
  refine split_intro (fun h=>?_) (fun h=>?_)
  ·have h' : (2 ^ j : Nat) ≤ 65536 := Int.ofNat_le.1 (show ((2 ^ j : Nat) : Int) ≤ ((65536 : Nat) : Int) from of_decide_eq_true h)
   have hj16:=pow_le16 h'
   have hp:=pows_at j (by omega)
   (conv=>whnf)
   refine split_intro (fun h2=>?_) (fun h2=>?_)
   ·have e : ((2 ^ j : Nat) : Int) = n := eq_of_beq h2
    (conv=>whnf)
    exact Wk.bool (by
     symm; unfold power; rw [decide_eq_true_eq,← e]
     exact List.mem_of_getElem? hp)
   ·have e : ¬ ((2 ^ j : Nat) : Int) = n := fun e => by rw [e] at h2; simp at h2
    (conv=>whnf)
    refine ⟨_,two_step h',?_⟩
    (conv=>whnf)
    refine ⟨j + 1,⟨⟨by omega,?_⟩,by simp only []; omega⟩,?_⟩
    ·rw [List.take_add_one, hp]
     simp only [Option.toList_some,List.mem_append,List.mem_singleton,not_or]
     exact ⟨hn,fun h=>e h.symm⟩
    ·exact okT
  ·have h' : ¬ ((2 ^ j : Nat) : Int) ≤ 65536 := of_decide_eq_false h
   have hj17 : j = 17 := by
    rcases Nat.lt_or_ge j 17 with hlt|hge
    ·have : 2 ^ j ≤ 65536 := Nat.pow_le_pow_right (j := 16) (by decide) (by omega)
     exact absurd (show ((2 ^ j : Nat) : Int) ≤ ((65536 : Nat) : Int) from Int.ofNat_le.2 this) h'
    ·omega
   subst hj17
   (conv=>whnf)
   exact Wk.bool (by symm; unfold power; rw [decide_eq_false_iff_not]; exact hn)
theorem rsym_ [Go.AL.MX] (s : Ob.Sym) (hb : s.name.length ≤ 1000000000) : FCall Tryz.prog Gl 40 [.agg s.enc] [] (vB (valid s)) [] := by
 obtain ⟨nm,bd,sz,al⟩:=s
 have hsz:=sB_sz nm
 replace hb : nm.length ≤ 1000000000:=hb
 refine FCall.enterL hT hmix [] Tryz.func40 rfl rfl rfl fun hbd=>?_
 (conv=>whnf)
 refine split_intro (fun h1=>?_) (fun h1=>?_)
 ·have h1' : ((sB nm).size : Int) = 0 := eq_of_beq h1
  (conv=>whnf)
  exact Wk.bool (vbad (by simp only; omega)).symm
 ·have h1' : ¬ ((sB nm).size : Int) = 0 := by simpa using h1
  (conv=>whnf)
  refine split_intro (fun h2=>?_) (fun h2=>?_)
  ·have h2' : (255 : Int) < (sB nm).size := of_decide_eq_true h2
   (conv=>whnf)
   exact Wk.bool (vbad (by simp only; omega)).symm
  ·have h2' : ¬ ((255 : Int) < (sB nm).size) := of_decide_eq_false h2
   (conv=>whnf)
   refine split_intro (fun h4=>?_) (fun h4=>?_)
   ·have h4' : sz < 0 := of_decide_eq_true h4
    (conv=>whnf)
    exact Wk.bool (vbad (by simp only; omega)).symm
   ·have h4' : ¬ (sz < 0) := of_decide_eq_false h4
    (conv=>whnf)
    refine split_intro (fun h5=>?_) (fun h5=>?_)
    ·have h5' : (4294967295 : Int) < sz := of_decide_eq_true h5
     (conv=>whnf)
     exact Wk.bool (vbad (by simp only; omega)).symm
    ·have h5' : ¬ ((4294967295 : Int) < sz) := of_decide_eq_false h5
     (conv=>whnf)
     refine LWp.loop hT hmix [] (fun k : Nat=>[(3,vI k)]) (fun _=>[]) (fun k=>k ≤ nm.length ∧ (0 : UInt8) ∉ nm.take k) (fun k=>nm.length - k) 0 ⟨Nat.zero_le _,by simp⟩ ?_
     (conv=>whnf)
     refine ⟨?_,fun k ⟨hk,hkk⟩=>?_⟩
     ·exact okT
     ·(conv => whnf)
      refine split_intro (fun h=>?_) (fun h=>?_)
      ·have hlt : k < nm.length := by have := of_decide_eq_true h; simp only at this; omega
       obtain ⟨x,hx⟩:=exI hlt
       (conv=>whnf)
       refine ⟨x,⟨by omega,by simpa using hx⟩,?_⟩
       (conv=>whnf)
       refine split_intro (fun h6=>?_) (fun h6=>?_)
       ·have hx0 : x = 0 := by
         have : (x.toNat : Int) = 0:=by simpa using h6
         exact UInt8.toNat_inj.1 (by simpa using this)
        (conv=>whnf)
        exact Wk.bool (vbad (fun h=>h.2.2.1 (by rw [← hx0]; exact List.mem_of_getElem? hx))).symm
       ·have hx0 : ¬ 0 = x := by
         intro e; subst e; simp at h6
        (conv=>whnf)
        refine ⟨_,add64 (c:=((k + 1 : Nat) : Int)) (by omega) (by omega),?_⟩
        (conv=>whnf)
        refine ⟨k + 1,⟨⟨by omega,?_⟩,by simp only []; omega⟩,?_⟩
        ·rw [List.take_add_one,hx]; simp [hkk,hx0]
        ·exact okT
      ·have hge : nm.length ≤ k := by have := of_decide_eq_false h; simp only at this; omega
       rw [List.take_of_length_le hge] at hkk
       rw [vgood (s:=⟨nm,bd,sz,al⟩) (by simp only; omega) (by simp only; omega) hkk (by simp only; omega) (by simp only; omega)]
       (conv=>whnf)
       refine split_intro (fun b3=>?_) (fun b3=>?_)
       ·have b3' : bd = 3 := eq_of_beq b3
        (conv=>whnf)
        refine CallLeaf.wa (power_ al) rfl ?_
        (conv=>whnf)
        exact Wk.bool (by simp [bindOk,b3'])
       ·have b3' : ¬ bd = 3 := by simpa using b3
        (conv=>whnf)
        refine split_intro (fun b4=>?_) (fun b4=>?_)
        ·have b4' : bd = 4 := eq_of_beq b4
         (conv=>whnf)
         refine split_intro (fun z=>?_) (fun z=>?_)
         ·have z' : sz = 0 := eq_of_beq z
          (conv=>whnf)
          exact Wk.bool (by rw [Bool.eq_iff_iff]; simp [bindOk,b4',z'])
         ·have z' : ¬ sz = 0 := by simpa using z
          (conv=>whnf)
          exact Wk.bool (by simp [bindOk,b4',z'])
        ·have b4' : ¬ bd = 4 := by simpa using b4
         (conv=>whnf)
         refine split_intro (fun b5=>?_) (fun b5=>?_)
         ·have b5' : bd = 5 := eq_of_beq b5
          (conv=>whnf)
          refine split_intro (fun z=>?_) (fun z=>?_)
          ·have z' : sz = 0 := eq_of_beq z
           (conv=>whnf)
           exact Wk.bool (by rw [Bool.eq_iff_iff]; simp [bindOk,b5',z'])
          ·have z' : ¬ sz = 0 := by simpa using z
           (conv=>whnf)
           exact Wk.bool (by simp [bindOk,b5',z'])
         ·have b5' : ¬ bd = 5 := by simpa using b5
          (conv=>whnf)
          refine split_intro (fun b1=>?_) (fun b1=>?_)
          ·have b1' : bd = 1 := eq_of_beq b1
           (conv=>whnf)
           exact Wk.bool (by rw [Bool.eq_iff_iff]; simp [bindOk,b1'])
          ·have b1' : ¬ bd = 1 := by simpa using b1
           (conv=>whnf)
           refine split_intro (fun b2=>?_) (fun b2=>?_)
           ·have b2' : bd = 2 := eq_of_beq b2
            (conv=>whnf)
            exact Wk.bool (by rw [Bool.eq_iff_iff]; simp [bindOk,b2'])
           ·have b2' : ¬ bd = 2 := by simpa using b2
            (conv=>whnf)
            exact Wk.bool (by simp [bindOk,b1',b2',b3',b4',b5'])
theorem rhas_ [Go.AL.MX] (l : List Ob.Sym) (n : Str) (hl : l.length ≤ 1000000000) : FCall Tryz.prog Gl 41 [.list .any (SE l), sD n] [] (vB (Ob.has l n)) [] := by
 refine FCall.enterL hT hmix [] Tryz.func41 rfl rfl rfl fun hbd=>?_
 (conv=>whnf)
 refine LWp.loop hT hmix [] (fun k : Nat=>[(5,vI k)]) (fun _=>[]) (fun k=>k ≤ l.length ∧ Ob.has (l.take k) n = false) (fun k=>l.length - k) 0 ⟨Nat.zero_le _,rfl⟩ ?_
 (conv=>whnf)
 refine ⟨?_,fun k ⟨hk,hkk⟩=>?_⟩
 ·exact okT
 ·(conv => whnf)
  refine split_intro (fun h=>?_) (fun h=>?_)
  ·have hlt : k < l.length := by simpa using h
   obtain ⟨s,hs⟩:=exI hlt
   (conv=>whnf)
   refine ⟨_,⟨by omega,getMap hs⟩,?_⟩
   (conv=>whnf)
   refine split_intro (fun hc=>?_) (fun hc=>?_)
   ·have hc' : s.name = n := of_decide_eq_true hc
    (conv=>whnf)
    exact Wk.bool (Ob.has_iff.2 ⟨s,List.mem_of_getElem? hs,hc'⟩).symm
   ·have hc' : ¬ s.name = n := of_decide_eq_false hc
    (conv=>whnf)
    refine ⟨_,add64 (c:=((k + 1 : Nat) : Int)) (by omega) (by omega),?_⟩
    (conv=>whnf)
    refine ⟨k + 1,⟨⟨by omega,?_⟩,by simp only []; omega⟩,?_⟩
    ·rw [List.take_add_one, hs]
     unfold Ob.has at *
     rw [List.any_append,hkk]; simp [hc']
    ·exact okT
  ·have hge : l.length ≤ k := by simpa using h
   rw [List.take_of_length_le hge] at hkk
   (conv=>whnf)
   exact Wk.bool hkk.symm
end Go.Proofs.YtimjnmbpbobfiaaGreatDoor.O

namespace Go.Proofs.YtimjnmbpbobfiaaGreatDoor.O
open Go Go.AL Go.AL.Ap Go.AL.Ob
set_option maxRecDepth 100000
set_option maxHeartbeats 4000000
theorem plainS (s : Ob.Sym) : plainEq Tryz.prog 78 s.enc = true := by
 obtain ⟨a,b,c,d⟩:=s
 kernel_rfl
theorem eqS' (a b : Ob.Sym) : (decide (a.name = b.name) && (a.bind == b.bind && (a.size == b.size && (a.align == b.align && true)))) = decide (a = b) := by
 obtain ⟨a1,a2,a3,a4⟩:=a
 obtain ⟨b1,b2,b3,b4⟩:=b
 rw [Bool.eq_iff_iff]; simp
theorem osame_ [Go.AL.MX] (l : List Ob.Sym) (x : List UInt8) (m : List Ob.Sym) (y : List UInt8) (hl : l.length ≤ 1000000000) : FCall Tryz.prog Gl 36 [oD ⟨l, x⟩, oD ⟨m, y⟩] [] (vB (decide ((⟨l, x⟩ : Ob.Obj) = ⟨m, y⟩))) [] := by
 refine FCall.enterL hT hmix [] Tryz.func36 rfl rfl rfl fun hbd=>?_
 (conv=>whnf)
 refine split_intro (fun h=>?_) (fun h=>?_)
 ·have hne : l.length ≠ m.length := by have := len_ne h; simpa using this
  (conv=>whnf)
  exact Wk.bool (by symm; simp; intro e; subst e; exact absurd rfl hne)
 ·have hlm : l.length = m.length := by have := len_eq h; simpa using this
  (conv=>whnf)
  refine LWp.loop hT hmix [] (fun k : Nat=>[(5,vI k)]) (fun _=>[]) (fun k=>k ≤ l.length ∧ l.take k = m.take k) (fun k=>l.length - k) 0 ⟨Nat.zero_le _,rfl⟩ ?_
  (conv=>whnf)
  refine ⟨?_,fun k ⟨hk,hkk⟩=>?_⟩
  ·exact okT
  ·(conv => whnf)
   refine split_intro (fun h1=>?_) (fun h1=>?_)
   ·have hlt : k < l.length := by have := of_decide_eq_true h1; simp at this; omega
    obtain ⟨s,hs⟩:=exI hlt
    obtain ⟨t,ht⟩:=exI (l:=m) (k:=k) (by omega)
    (conv=>whnf)
    refine ⟨_,⟨by omega,getMap hs⟩,?_⟩
    (conv=>whnf)
    refine ⟨_,⟨by omega,getMap ht⟩,?_⟩
    (conv=>whnf)
    refine ⟨plainS _,?_⟩
    (conv=>whnf)
    refine split_intro (fun h2=>?_) (fun h2=>?_)
    ·have h2' : decide (s = t) = false := by
      rw [← eqS']
      exact not_t h2
     (conv=>whnf)
     exact Wk.bool (by
      symm; simp; intro e _; subst e
      rw [hs] at ht; injection ht with ht; subst ht; simp at h2')
    ·have h2' : decide (s = t) = true := by
      rw [← eqS']
      exact not_f h2
     have:=of_decide_eq_true h2'
     subst this
     (conv=>whnf)
     refine ⟨_,add64 (c:=((k + 1 : Nat) : Int)) (by omega) (by omega),?_⟩
     (conv=>whnf)
     refine ⟨k + 1,⟨⟨by omega,by rw [List.take_add_one,List.take_add_one,hs,ht,hkk]⟩,by simp only []; omega⟩,?_⟩
     exact okT
   ·have hge : l.length ≤ k := by have := of_decide_eq_false h1; simp at this; omega
    rw [List.take_of_length_le hge,List.take_of_length_le (by omega)] at hkk
    subst hkk
    (conv=>whnf)
    refine CallLeaf.wa (same_ x y) rfl ?_
    (conv=>whnf)
    exact Wk.bool (by simp)
theorem orvalid_ [Go.AL.MX] (l : List Ob.Sym) (x : List UInt8) (hl : l.length ≤ 1000000000) (hn : ∀ s ∈ l, s.name.length ≤ 1000000000) : FCall Tryz.prog Gl 42 [oD ⟨l, x⟩] [] (vB (validO l)) [] := by
 refine FCall.enterL hT hmix [] Tryz.func42 rfl rfl rfl fun hbd=>?_
 (conv=>whnf)
 refine LWp.loop hT hmix [] (fun k : Nat=>[(3,vI k)]) (fun _=>[]) (fun k=>k ≤ l.length ∧ okL [] (l.take k) = true) (fun k=>l.length - k) 0 ⟨Nat.zero_le _,rfl⟩ ?_
 (conv=>whnf)
 refine ⟨?_,fun k ⟨hk,hkk⟩=>?_⟩
 ·exact okT
 ·(conv => whnf)
  refine split_intro (fun h=>?_) (fun h=>?_)
  ·have hlt : k < l.length := by have := of_decide_eq_true h; simp at this; omega
   obtain ⟨s,hs⟩:=exI hlt
   (conv=>whnf)
   refine ⟨_,⟨by omega,getMap hs⟩,?_⟩
   (conv=>whnf)
   refine CallLeaf.wa (rsym_ s (hn s (List.mem_of_getElem? hs))) rfl ?_
   (conv=>whnf)
   refine split_intro (fun hv=>?_) (fun hv=>?_)
   ·have hv' : valid s = false := by simpa using hv
    (conv=>whnf)
    exact Wk.bool (okL_bad hs (by simp [hv'])).symm
   ·have hv' : valid s = true := by simpa using hv
    (conv=>whnf)
    refine ⟨_,slTake (f:=Ob.Sym.enc) (l:=l) (b:=k) (r:=l.take k) rfl (by omega) (fun _=>rfl) rfl,?_⟩
    (conv=>whnf)
    refine ⟨_,⟨by omega,getMap hs⟩,?_⟩
    (conv=>whnf)
    refine CallLeaf.wa (rhas_ (l.take k) s.name (by simp; omega)) rfl ?_
    (conv=>whnf)
    refine split_intro (fun hh=>?_) (fun hh=>?_)
    ·have hh' : Ob.has (l.take k) s.name = true := hh
     (conv=>whnf)
     exact Wk.bool (okL_bad hs (by simp [hh'])).symm
    ·have hh' : Ob.has (l.take k) s.name = false := hh
     (conv=>whnf)
     refine ⟨_,add64 (c:=((k + 1 : Nat) : Int)) (by omega) (by omega),?_⟩
     (conv=>whnf)
     refine ⟨k + 1,⟨⟨by omega,by rw [okL_step hs,hkk,hv',hh']; rfl⟩,by simp only []; omega⟩,?_⟩
     exact okT
  ·have hge : l.length ≤ k := by have := of_decide_eq_false h; simp at this; omega
   rw [List.take_of_length_le hge] at hkk
   (conv=>whnf)
   exact Wk.bool (by simp only [validO,hkk,Bool.true_and]; congr 1; simp; omega)
theorem orencode_ [Go.AL.MX] (l : List Ob.Sym) (x : List UInt8) (hx : (encO ⟨l, x⟩).length ≤ 1000000000) (hn : ∀ s ∈ l, s.name.length ≤ 1000000000) : FCall Tryz.prog Gl 23 [oD ⟨l, x⟩] [] (.tuple [LBn (encRO' ⟨l, x⟩).1, vI (encRO' ⟨l, x⟩).2]) [] := by
 have hlen : (encO ⟨l,x⟩).length = 8 + (encL l).length + x.length:=by simp [encO,magic,W4]; omega
 have hll : l.length ≤ (encL l).length := by
  clear hx hlen hn
  induction l with
  | nil=>simp
  | cons s l ih => 
   have : encL (s :: l) = Ob.encS s ++ encL l:=by simp [encL]
   rw [this]; simp [Ob.encS]; omega
 refine FCall.enterL hT hmix [] Tryz.func23 rfl rfl rfl fun hbd=>?_
 (conv=>whnf)
 refine CallLeaf.wa (orvalid_ l x (by omega) hn) rfl ?_
 (conv=>whnf)
 refine split_intro (fun hv=>?_) (fun hv=>?_)
 ·have hv' : validO l = false := by simpa using hv
  have hR : encRO' ⟨l,x⟩ = ([],12):=by simp [encRO',hv']
  rw [hR]
  (conv=>whnf)
  exact Wk.tuple (Wks.cons (Wk.natN rfl) (Wks.cons (Wk.refl _) Wks.nil))
 ·have hv' : validO l = true := by simpa using hv
  have hR : encRO' ⟨l,x⟩ = (encO ⟨l,x⟩,0):=by simp [encRO',hv']
  have hok:=hv'
  simp only [validO,Bool.and_eq_true,decide_eq_true_eq] at hok
  rw [hR]
  have hm : magic.length = 4:=rfl
  (conv=>whnf)
  refine CallLeaf.wa (word_ l.length (by omega)) rfl ?_
  (conv=>whnf)
  refine ⟨_,appL (f:=byteD) (xs:=magic) (ys:=W4 l.length) (zs:=magic ++ W4 l.length) rfl rfl (fun _=>rfl) rfl (by simp only [List.length_append,List.length_singleton,W4_len] at *; show _ * 1 ≤ _; omega),?_⟩
  (conv=>whnf)
  refine LWp.loop hT hmix [] (fun k : Nat=>[(5,vI k),(4,.list (.tok 1536) (B (magic ++ W4 l.length ++ encL (l.take k))))]) (fun k=>[(1536,.tok (B (magic ++ W4 l.length ++ encL (l.take k))).length 1)]) (fun k=>k ≤ l.length) (fun k=>l.length - k) 0 (Nat.zero_le _) ?_
  (conv=>whnf)
  refine ⟨?_,fun k hk=>?_⟩
  ·exact okT
  ·have hn1 := encL_le l k
   have hn2:=encL_le l (k + 1)
   (conv=>whnf)
   refine split_intro (fun h=>?_) (fun h=>?_)
   ·have hlt : k < l.length := by have := of_decide_eq_true h; simp at this; omega
    obtain ⟨s,hs⟩:=exI hlt
    have e3:=encL_take hs
    have hle : (encL (l.take k)).length + (Ob.encS s).length = (encL (l.take (k + 1))).length:=by rw [e3]; simp
    have hsl:=encS_len s
    have hval:=okL_mem _ _ hok.1 s (List.mem_of_getElem? hs)
    obtain ⟨v1,v2,v3,v4,v5,v6⟩:=valid_iff.1 hval
    obtain ⟨b1,b2,b3,b4⟩:=bind_le v6
    obtain ⟨nm,bd,sz,al⟩:=s
    obtain ⟨bd,rfl⟩:=Int.eq_ofNat_of_zero_le (show 0 ≤ bd by simp only at b1; omega)
    obtain ⟨sz,rfl⟩:=Int.eq_ofNat_of_zero_le (show 0 ≤ sz from v4)
    obtain ⟨al,rfl⟩:=Int.eq_ofNat_of_zero_le (show 0 ≤ al from b3)
    simp only at v1 v2 v3 v4 v5 v6 b1 b2 b3 b4 hsl
    (conv=>whnf)
    refine ⟨_,⟨by omega,getMap hs⟩,?_⟩
    (conv=>whnf)
    refine ⟨_,wrapU8 _,?_⟩
    (conv=>whnf)
    refine ⟨_,appL (f:=byteD) (xs:=magic ++ W4 l.length ++ encL (l.take k)) (ys:=[UInt8.ofNat bd]) (zs:=magic ++ W4 l.length ++ encL (l.take k) ++ [UInt8.ofNat bd]) rfl rfl (fun _=>rfl) rfl (by simp only [List.length_append,List.length_singleton,W4_len] at *; show _ * 1 ≤ _; omega),?_⟩
    (conv=>whnf)
    refine CallLeaf.wa (word_ sz (by omega)) rfl ?_
    (conv=>whnf)
    refine ⟨_,appL (f:=byteD) (xs:=magic ++ W4 l.length ++ encL (l.take k) ++ [UInt8.ofNat bd]) (ys:=W4 sz) (zs:=magic ++ W4 l.length ++ encL (l.take k) ++ [UInt8.ofNat bd] ++ W4 sz) rfl rfl (fun _=>rfl) rfl (by simp only [List.length_append,List.length_singleton,W4_len] at *; show _ * 1 ≤ _; omega),?_⟩
    (conv=>whnf)
    refine CallLeaf.wa (word_ al (by omega)) rfl ?_
    (conv=>whnf)
    refine ⟨_,appL (f:=byteD) (xs:=magic ++ W4 l.length ++ encL (l.take k) ++ [UInt8.ofNat bd] ++ W4 sz) (ys:=W4 al) (zs:=magic ++ W4 l.length ++ encL (l.take k) ++ [UInt8.ofNat bd] ++ W4 sz ++ W4 al) rfl rfl (fun _=>rfl) rfl (by simp only [List.length_append,List.length_singleton,W4_len] at *; show _ * 1 ≤ _; omega),?_⟩
    (conv=>whnf)
    refine ⟨_,wrapU8 _,?_⟩
    (conv=>whnf)
    refine ⟨_,appL (f:=byteD) (xs:=magic ++ W4 l.length ++ encL (l.take k) ++ [UInt8.ofNat bd] ++ W4 sz ++ W4 al) (ys:=[UInt8.ofNat nm.length]) (zs:=magic ++ W4 l.length ++ encL (l.take k) ++ [UInt8.ofNat bd] ++ W4 sz ++ W4 al ++ [UInt8.ofNat nm.length]) rfl rfl (fun _=>rfl) rfl (by simp only [List.length_append,List.length_singleton,W4_len] at *; show _ * 1 ≤ _; omega),?_⟩
    (conv=>whnf)
    refine ⟨_,appL (f:=byteD) (xs:=magic ++ W4 l.length ++ encL (l.take k) ++ [UInt8.ofNat bd] ++ W4 sz ++ W4 al ++ [UInt8.ofNat nm.length]) (ys:=nm) (zs:=magic ++ W4 l.length ++ encL (l.take k) ++ [UInt8.ofNat bd] ++ W4 sz ++ W4 al ++ [UInt8.ofNat nm.length] ++ nm) rfl rfl (fun _=>rfl) rfl (by simp only [List.length_append,List.length_singleton,W4_len] at *; show _ * 1 ≤ _; omega),?_⟩
    (conv=>whnf)
    refine ⟨_,add64 (c:=((k + 1 : Nat) : Int)) (by omega) (by omega),?_⟩
    (conv=>whnf)
    have e4 : magic ++ W4 l.length ++ encL (l.take k) ++ [UInt8.ofNat bd] ++ W4 sz ++ W4 al ++ [UInt8.ofNat nm.length] ++ nm = magic ++ W4 l.length ++ encL (l.take (k + 1)):=by rw [e3]; simp [Ob.encS]
    refine ⟨k + 1,⟨by omega,by simp only []; omega⟩,?_⟩
    simp only [← e4]
    exact okT
   ·have hge : l.length ≤ k := by have := of_decide_eq_false h; simp at this; omega
    (conv=>whnf)
    refine ⟨_,appL (f:=byteD) (xs:=magic ++ W4 l.length ++ encL (l.take k)) (ys:=x) (zs:=magic ++ W4 l.length ++ encL (l.take k) ++ x) rfl rfl (fun _=>rfl) rfl (by simp only [List.length_append,List.length_singleton,W4_len] at *; show _ * 1 ≤ _; omega),?_⟩
    (conv=>whnf)
    exact Wk.tuple (Wks.cons (Wk.nat' (by rw [List.take_of_length_le hge]; rfl)) (Wks.cons (Wk.refl _) Wks.nil))
end Go.Proofs.YtimjnmbpbobfiaaGreatDoor.O
