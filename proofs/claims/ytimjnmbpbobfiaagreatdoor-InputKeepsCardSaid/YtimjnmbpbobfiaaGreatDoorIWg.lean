/- Inputs: a file opened. No condition. -/
import Derived.Test.YtimjnmbpbobfiaaGreatDoorIAc
import Derived.Test.YtimjnmbpbobfiaaGreatDoorIWf
import Derived.Test.YtimjnmbpbobfiaaGreatDoorIAd
import Derived.Test.YtimjnmbpbobfiaaGreatDoorIPa
import Derived.Test.YtimjnmbpbobfiaaGreatDoorRows
import Derived.LaidMore
import Derived.Stop.Joined
import Derived.SevenTiedAt
import Derived.Lay
set_option linter.unusedVariables false
set_option linter.unusedSimpArgs false
namespace Go.Proofs.YtimjnmbpbobfiaaGreatDoor.H
open Go Go.AL Go.AL.In
set_option maxRecDepth 100000
set_option maxHeartbeats 8000000
abbrev iEN (x : Gp.Inp) : List D:=[sD x.name,vB x.arch,.list .nat (x.obj.syms.map Ob.Sym.enc),LBn x.obj.body,.list .nat (x.view.members.map eMn),.list .nat (x.view.defs.map fun d=>[LSn d])]
def Small (fs : List Fe) : Prop:=fs.length ≤ 100000 ∧ ∀ f ∈ fs,f.data.length ≤ 100000
theorem iopen_ [Go.AL.MX] (fs : List Fe) (n : Str) (hs : Small fs) : FCall Tryz.prog Gl 10 [LFe fs, sD n] [] (.tuple [.agg (iEN (openI fs n).1), vI (openI fs n).2]) [] := by
 obtain ⟨hl,hd⟩:=hs
 have X:=iindex_ fs n (by omega)
 rcases ixF_spec fs n with ⟨e1,e2,_⟩|⟨k,f,hk,e1,hn,e2,_⟩
 ·rw [e1] at X
  rw [e2]
  refine FCall.enterL hT hmix [] Tryz.func10 rfl rfl rfl fun hbd=>?_
  (conv=>whnf)
  refine CallLeaf.oa [0] (X) rfl rfl rfl rfl ?_
  (conv=>whnf)
  exact Wk.tuple (Wks.cons (Wk.agg (Wks.cons (Wk.refl _) (Wks.cons (Wk.refl _) (Wks.cons (Wk.natN rfl) (Wks.cons (Wk.natN rfl) (Wks.cons (Wk.natN rfl) (Wks.cons (Wk.natN rfl) Wks.nil))))))) (Wks.cons (Wk.refl _) Wks.nil))
 ·rw [e1] at X
  rw [e2]
  have hf:=hd f (List.mem_of_getElem? hk)
  have hkl : k < fs.length:=(List.getElem?_eq_some_iff.1 hk).1
  have I:=ais_ f.data (by omega)
  unfold openF
  cases hm : isM f.data with
  | true =>
   rw [show isP f.data = true from hm] at I
   have C:=copen_ f.data (by omega)
   rw [if_pos rfl]
   generalize Cn.openP f.data = q at C ⊢
   obtain ⟨v,o,e⟩:=q
   refine FCall.enterL hT hmix [] Tryz.func10 rfl rfl rfl fun hbd=>?_
   (conv=>whnf)
   refine CallLeaf.oa [0] (X) rfl rfl rfl rfl ?_
   (conv=>whnf)
   refine ⟨_,⟨by omega,getMap hk⟩,?_⟩
   (conv=>whnf)
   refine CallLeaf.wa (I) rfl ?_
   (conv=>whnf)
   refine ⟨_,⟨by omega,getMap hk⟩,?_⟩
   (conv=>whnf)
   refine CallLeaf.wa (C) rfl ?_
   (conv=>whnf)
   refine split_intro (fun h=>?_) (fun h=>?_)
   ·have h' : ¬ e = 0 := by simpa using h
    rw [if_neg h']
    (conv=>whnf)
    exact Wk.tuple (Wks.cons (Wk.agg (Wks.cons (Wk.refl _) (Wks.cons (Wk.refl _) (Wks.cons (Wk.natN rfl) (Wks.cons (Wk.natN rfl) (Wks.cons (Wk.natN rfl) (Wks.cons (Wk.natN rfl) Wks.nil))))))) (Wks.cons (Wk.refl _) Wks.nil))
   ·have h' : e = 0 := by simpa using h
    rw [if_pos h']
    (conv=>whnf)
    exact Wk.tuple (Wks.cons (Wk.agg (Wks.cons (Wk.refl _) (Wks.cons (Wk.refl _) (Wks.cons (Wk.natN rfl) (Wks.cons (Wk.natN rfl) (Wks.cons (Wk.refl _) (Wks.cons (Wk.refl _) Wks.nil))))))) (Wks.cons (Wk.refl _) Wks.nil))
  | false =>
   rw [show isP f.data = false from hm] at I
   have C:=O.odecode_ f.data (by omega)
   rw [dec_eq] at C
   rw [if_neg (by simp)]
   generalize Sc.dec f.data = q at C ⊢
   obtain ⟨⟨sy,bd⟩,e⟩:=q
   refine FCall.enterL hT hmix [] Tryz.func10 rfl rfl rfl fun hbd=>?_
   (conv=>whnf)
   refine CallLeaf.oa [0] (X) rfl rfl rfl rfl ?_
   (conv=>whnf)
   refine ⟨_,⟨by omega,getMap hk⟩,?_⟩
   (conv=>whnf)
   refine CallLeaf.wa (I) rfl ?_
   (conv=>whnf)
   refine ⟨_,⟨by omega,getMap hk⟩,?_⟩
   (conv=>whnf)
   refine CallLeaf.wa (C) rfl ?_
   (conv=>whnf)
   refine split_intro (fun h=>?_) (fun h=>?_)
   ·have h' : ¬ e = 0 := by simpa using h
    rw [if_neg h']
    (conv=>whnf)
    exact Wk.tuple (Wks.cons (Wk.agg (Wks.cons (Wk.refl _) (Wks.cons (Wk.refl _) (Wks.cons (Wk.natN rfl) (Wks.cons (Wk.natN rfl) (Wks.cons (Wk.natN rfl) (Wks.cons (Wk.natN rfl) Wks.nil))))))) (Wks.cons (Wk.refl _) Wks.nil))
   ·have h' : e = 0 := by simpa using h
    rw [if_pos h']
    (conv=>whnf)
    exact Wk.tuple (Wks.cons (Wk.agg (Wks.cons (Wk.refl _) (Wks.cons (Wk.refl _) (Wks.cons (Wk.refl _) (Wks.cons (Wk.refl _) (Wks.cons (Wk.natN rfl) (Wks.cons (Wk.natN rfl) Wks.nil))))))) (Wks.cons (Wk.refl _) Wks.nil))
end Go.Proofs.YtimjnmbpbobfiaaGreatDoor.H

namespace Go.Proofs.YtimjnmbpbobfiaaGreatDoor.H
open Go Go.AL Go.AL.In
set_option maxRecDepth 100000
set_option maxHeartbeats 8000000
abbrev fail (at' e : Int) : D:=.iface 94 (.agg [vI at',vI e])
theorem must_ok [Go.AL.MX] (fs : List Fe) (n : Str) (a : Int) (hs : Small fs) (h0 : (openI fs n).2 = 0) : FCall Tryz.prog Gl 35 [LFe fs, sD n, vI a] [] (.agg (iEN (openI fs n).1)) [] := by
 have I:=iopen_ fs n hs
 revert h0 I
 generalize openI fs n = q
 obtain ⟨x,e⟩:=q
 intro h0 I
 replace h0 : e = 0:=h0
 subst h0
 refine FCall.enterL hT hmix [] Tryz.func35 rfl rfl rfl fun hbd=>?_
 (conv=>whnf)
 refine CallLeaf.wa (I) rfl ?_
 (conv=>whnf)
 exact Wk.refl _
theorem must_no [Go.AL.MX] (fs : List Fe) (n : Str) (a : Int) (hs : Small fs) (h0 : (openI fs n).2 ≠ 0) : PCall Tryz.prog Gl 35 [LFe fs, sD n, vI a] [] (fail a (openI fs n).2) [] := by
 have I:=iopen_ fs n hs
 revert h0 I
 generalize openI fs n = q
 obtain ⟨x,e⟩:=q
 intro h0 I
 replace h0 : e ≠ 0:=h0
 refine PCall.enter hT hmix [] Tryz.func35 rfl rfl rfl fun hbd=>?_
 (conv=>whnf)
 refine CallLeaf.wa (I) rfl ?_
 (conv=>whnf)
 refine split_intro (fun _=>?_) (fun h=>absurd h (by simpa using h0))
 (conv=>whnf)
 refine ⟨[],rfl,finT,?_⟩
 exact Wk.refl _
theorem idoor_n [Go.AL.MX] (xs : List (List D)) (n : Nat) (a0 e0 : Int) : DCall Tryz.prog Gl 34 [.ptr 0 0, .ptr 1 0, .ptr 2 0] [.cells [.list (.tok 3) xs], .cells [vI a0], .cells [vI e0], .tok n 2] none [.cells [.list (.tok 3) xs], .cells [vI a0], .cells [vI e0], .tok n 2] := by
 refine DCall.enter hT hmix Tryz.func34 rfl rfl rfl rfl rfl rfl rfl rfl rfl rfl rfl rfl ?_
 (conv=>whnf)
 refine ⟨[0,1,2,3],rfl,finT,?_⟩
 exact Wk.refl _
theorem idoor_p [Go.AL.MX] (xs : List (List D)) (n : Nat) (a0 e0 a e : Int) : DCall Tryz.prog Gl 34 [.ptr 0 0, .ptr 1 0, .ptr 2 0] [.cells [.list (.tok 3) xs], .cells [vI a0], .cells [vI e0], .tok n 2] (some (fail a e)) [.cells [.nil], .cells [vI a], .cells [vI e], .tok n 2] := by
 refine DCall.enter hT hmix Tryz.func34 rfl rfl rfl rfl rfl rfl rfl rfl rfl rfl rfl rfl ?_
 (conv=>whnf)
 refine ⟨[0,1,2,3],rfl,finT,?_⟩
 exact Wk.refl _
end Go.Proofs.YtimjnmbpbobfiaaGreatDoor.H

namespace Go.Proofs.YtimjnmbpbobfiaaGreatDoor.H
open Go Go.AL Go.AL.In
set_option maxRecDepth 100000
set_option maxHeartbeats 8000000
abbrev itN (x : ItI) : List D:=[vB x.group,.list .nat (x.ins.map iEN)]
theorem iall_ [Go.AL.MX] (fs : List Fe) (ws : List Str) (hs : Small fs) (hw : ws.length ≤ 100000) : FCall Tryz.prog Gl 12 [LFe fs, LS ws] [] (.tuple [.list .nat ((allI fs ws).1.map itN), vI (allI fs ws).2.1, vI (allI fs ws).2.2]) [] := by
 have P:=cparse_ ws hw
 have K:=parseC_ok ws
 obtain ⟨d,hd⟩ : ∃ d,d = (.tuple [.list .nat ((allI fs ws).1.map itN),vI (allI fs ws).2.1,vI (allI fs ws).2.2] : D):=⟨_,rfl⟩
 rw [← hd]
 unfold allI at hd
 revert P K hd
 generalize parseC ws = q
 obtain ⟨its,at0,e0⟩:=q
 intro P ⟨K1,K2⟩ hd
 replace K1 : its.length ≤ ws.length:=K1
 replace K2 : ∀ x ∈ its,OkIt ws.length x:=K2
 simp only [] at hd
 refine FCall.enterG hT hmix Tryz.func12 rfl rfl rfl (fun hbd=>?_)
 (conv=>whnf)
 refine DGo.seq hT hmix [] ?_
 (conv=>whnf)
 refine DGo.seq hT hmix [] ?_
 (conv=>whnf)
 refine CallLeaf.wa (P) rfl ?_
 (conv=>whnf)
 refine DGo.seq hT hmix [] ?_
 (conv=>whnf)
 refine split_intro (fun h=>?_) (fun h=>?_)
 ·have h' : ¬ e0 = 0 := by simpa using h
  rw [if_neg h'] at hd
  subst hd
  (conv=>whnf)
  refine ⟨[],rfl,finT,?_⟩
  exact Wk.tuple (Wks.cons (Wk.natN rfl) (Wks.cons (Wk.refl _) (Wks.cons (Wk.refl _) Wks.nil)))
 ·have h' : e0 = 0 := by simpa using h
  subst h'
  rw [if_pos rfl] at hd
  (conv=>whnf)
  refine DGo.defer hT hmix rfl rfl rfl rfl rfl rfl rfl ?_
  refine ⟨[(0,0),(8,0),(16,0)],rfl,by simp,fun ds=>?_⟩
  (conv=>whnf)
  refine LWp.loop hT hmix [9] (fun x : Nat × List ItI => [(26, vI x.1)]) (fun x => [(0, .cells [.list (.tok 400403) (x.2.map itN)]), (400403, .tok (x.2.map itN).length 2)])
   (fun x=>x.1 ≤ its.length ∧ x.2.length = x.1 ∧ allR fs [] its = allR fs x.2 (its.drop x.1)) (fun x=>its.length - x.1) (0,[]) ⟨Nat.zero_le _,rfl,rfl⟩ ?_
  (conv=>whnf)
  refine ⟨?_,fun ⟨i,acc⟩ ⟨hi,ha,hr⟩=>?_⟩
  ·refine ⟨liveTo_fast (by repeat' (first|exact trivial|exact rfl|refine And.intro ?_ ?_|(unfold liveL; conv=>whnf))),?_⟩; exact okT
  ·replace hi : i ≤ its.length := hi
   replace ha : acc.length = i:=ha
   replace hr : allR fs [] its = allR fs acc (its.drop i):=hr
   (conv=>whnf)
   refine split_intro (fun h2=>?_) (fun h2=>?_)
   ·have hlt : i < its.length := by have := of_decide_eq_true h2; simp only [List.length_map] at this; omega
    obtain ⟨x,hx⟩:=exI hlt
    obtain ⟨x1,x2,x3⟩:=K2 x (List.mem_of_getElem? hx)
    rw [allR_step hx] at hr
    (conv=>whnf)
    refine ⟨_,⟨by omega,getMap hx⟩,?_⟩
    (conv=>whnf)
    refine LWp.cut hT hmix [] [] (fun _ : List Gp.Inp=>[]) (fun y=>[(8216,.cells [vB x.group,.list .nat (y.map iEN)])]) [8216,400404] (fun y=>openR fs [] (prs x) = .ok y) ?_
    (conv=>whnf)
    refine ⟨?_,fun y hy=>?_⟩
    ·refine LWp.loop hT hmix [] (fun z : Nat × List Gp.Inp => [(36, vI z.1)]) (fun z => [(8216, .cells [vB x.group, .list (.tok 400404) (z.2.map iEN)]), (400404, .tok (z.2.map iEN).length 6)])
      (fun z=>z.1 ≤ x.files.length ∧ z.2.length = z.1 ∧ openR fs [] (prs x) = openR fs z.2 ((prs x).drop z.1)) (fun z=>x.files.length - z.1) (0,[]) ⟨Nat.zero_le _,rfl,rfl⟩ ?_
     (conv=>whnf)
     refine ⟨?_,fun ⟨k,bcc⟩ ⟨hk,hb,hq⟩=>?_⟩
     ·refine ⟨liveTo_fast (by repeat' (first|exact trivial|exact rfl|refine And.intro ?_ ?_|(unfold liveL; conv=>whnf))),?_⟩; exact okT
     ·replace hk : k ≤ x.files.length := hk
      replace hb : bcc.length = k:=hb
      replace hq : openR fs [] (prs x) = openR fs bcc ((prs x).drop k):=hq
      (conv=>whnf)
      refine split_intro (fun h3=>?_) (fun h3=>?_)
      ·have hkl : k < x.files.length := by have := of_decide_eq_true h3; simp only [List.length_map] at this; omega
       obtain ⟨w,hw1⟩:=exI hkl
       obtain ⟨at',hw2⟩:=exI (show k < x.ats.length by omega)
       rw [openR_step (w:=w) (a:=at') (by simp [prs,List.getElem?_zip_eq_some,hw1,hw2])] at hq
       by_cases h0 : (openI fs w).2 = 0
       ·rw [if_pos h0] at hq
        (conv=>whnf)
        refine ⟨_,⟨by omega,getMap hw1⟩,?_⟩
        (conv=>whnf)
        refine ⟨_,⟨by omega,getMap hw2⟩,?_⟩
        (conv=>whnf)
        refine CallLeaf.wa (must_ok fs w (at' : Int) hs h0) rfl ?_
        (conv=>whnf)
        refine ⟨_,appL (f:=iEN) (xs:=bcc) (ys:=[(openI fs w).1]) (zs:=bcc ++ [(openI fs w).1]) rfl rfl (fun _=>rfl) (by simp) (by show _ * 120 ≤ _; simp; omega),?_⟩
        (conv=>whnf)
        refine ⟨_,add64 (c:=((k + 1 : Nat) : Int)) (by (try simp only []); omega) (by omega),?_⟩
        (conv=>whnf)
        refine ⟨(k + 1,bcc ++ [(openI fs w).1]),⟨⟨by show k + 1 ≤ _; omega,by simp [hb],hq⟩,by show x.files.length - (k + 1) < x.files.length - k; omega⟩,?_⟩
        refine ⟨liveTo_fast (by repeat' (first|exact trivial|exact rfl|refine And.intro ?_ ?_|(unfold liveL; conv=>whnf))),?_⟩; exact okT
       ·rw [if_neg h0] at hq
        rw [hq] at hr
        rw [hr] at hd
        replace hd : d = (.tuple [.list .nat [],vI (at' : Int),vI (openI fs w).2] : D):=hd
        subst hd
        (conv=>whnf)
        refine ⟨_,⟨by omega,getMap hw1⟩,?_⟩
        (conv=>whnf)
        refine ⟨_,⟨by omega,getMap hw2⟩,?_⟩
        (conv=>whnf)
        refine CallLeaf.pv [] argT (must_no fs w (at' : Int) hs h0) rfl rfl triT triT triT rfl rfl (Door.vk ?_ rfl) (.agg (iEN (openI fs w).1)) ?_
        ·refine Door.o [0, 8, 16, 400403] argT (idoor_p (acc.map itN) (acc.map itN).length (at0 : Int) 0 (at' : Int) (openI fs w).2) rfl rfl triT triT triT rfl rfl (fun d h => by injection h with h; subst h; exact fun _ => rfl) ?_
         (conv=>whnf)
         refine ⟨[],rfl,finT,?_⟩
         exact Wk.tuple (Wks.cons (Wk.natN rfl) (Wks.cons (Wk.refl _) (Wks.cons (Wk.refl _) Wks.nil)))
        ·(conv => whnf)
         refine ⟨_,appL (f:=iEN) (xs:=bcc) (ys:=[(openI fs w).1]) (zs:=bcc ++ [(openI fs w).1]) rfl rfl (fun _=>rfl) (by simp) (by show _ * 120 ≤ _; simp; omega),?_⟩
         (conv=>whnf)
         trivial
      ·have hge : x.files.length ≤ k := by have := of_decide_eq_false h3; simp only [List.length_map] at this; omega
       rw [List.drop_of_length_le (by simp [prs]; omega)] at hq
       (conv=>whnf)
       refine ⟨bcc,hq,?_⟩
       refine ⟨liveTo_fast (by repeat' (first|exact trivial|exact rfl|refine And.intro ?_ ?_|(unfold liveL; conv=>whnf))),?_⟩; exact okT
    ·rw [hy] at hr
     (conv=>whnf)
     refine ⟨_,appL (f:=itN) (xs:=acc) (ys:=[⟨x.group,y⟩]) (zs:=acc ++ [⟨x.group,y⟩]) rfl rfl (fun _=>rfl) (by simp) (by show _ * 32 ≤ _; simp; omega),?_⟩
     (conv=>whnf)
     refine ⟨_,add64 (c:=((i + 1 : Nat) : Int)) (by (try simp only []); omega) (by omega),?_⟩
     (conv=>whnf)
     refine ⟨(i + 1,acc ++ [⟨x.group,y⟩]),⟨⟨by show i + 1 ≤ _; omega,by simp [ha],hr⟩,by show its.length - (i + 1) < its.length - i; omega⟩,?_⟩
     refine ⟨liveTo_fast (by repeat' (first|exact trivial|exact rfl|refine And.intro ?_ ?_|(unfold liveL; conv=>whnf))),?_⟩; exact okT
   ·have hge : its.length ≤ i := by have := of_decide_eq_false h2; simp only [List.length_map] at this; omega
    rw [List.drop_of_length_le hge] at hr
    rw [hr] at hd
    replace hd : d = (.tuple [.list .nat (acc.map itN),vI 0,vI 0] : D):=hd
    subst hd
    (conv=>whnf)
    refine Door.o [0,8,16,400403] argT (idoor_n (acc.map itN) (acc.map itN).length 0 0) rfl rfl triT triT triT rfl rfl (fun d h=>nomatch h) ?_
    (conv=>whnf)
    refine ⟨[],rfl,finT,?_⟩
    exact Wk.refl _
end Go.Proofs.YtimjnmbpbobfiaaGreatDoor.H

namespace Go.Proofs.YtimjnmbpbobfiaaGreatDoor.H
open Go Go.AL Go.AL.In
set_option maxRecDepth 100000
set_option maxHeartbeats 8000000
theorem wk_va (v : Sc.View) (t u : Tg) : Wks [.list t (v.members.map eMn), .list u (v.defs.map fun d => [LSn d])] v.enc :=
 Wks.cons (mem_wk t v.members) (Wks.cons (lds_wk v.defs u) Wks.nil)
theorem ropen18_ [Go.AL.MX] (fs : List Fe) (n : Str) (hs : Small fs) : FCall Tryz.prog Gl 11 [LFe fs, sD n] [] (.tuple [.agg (openI fs n).1.enc, vI (openI fs n).2]) [] := by
 obtain ⟨hl,hd⟩:=hs
 have X:=rfile_ fs n (by omega)
 rcases ixF_spec fs n with ⟨e1,e2,_⟩|⟨k,f,hk,e1,hn,e2,_⟩
 ·rw [e1] at X
  rw [e2]
  refine FCall.enterL hT hmix [] Tryz.func11 rfl rfl rfl fun hbd=>?_
  (conv=>whnf)
  refine CallLeaf.wa (X) rfl ?_
  (conv=>whnf)
  exact Wk.tuple (Wks.cons (Wk.agg (Wks.cons (Wk.refl _) (Wks.cons (Wk.refl _) (Wks.cons Wk.nilm (Wks.cons Wk.nilm (Wks.cons Wk.nilm (Wks.cons Wk.nilm Wks.nil))))))) (Wks.cons (Wk.refl _) Wks.nil))
 ·rw [e1] at X
  rw [e2]
  have hf:=hd f (List.mem_of_getElem? hk)
  have hkl : k < fs.length:=(List.getElem?_eq_some_iff.1 hk).1
  have I:=ris_ f.data
  unfold openF
  cases hm : isM f.data with
  | true =>
   rw [show isP f.data = true from hm] at I
   have C:=ropen_ f.data (by omega)
   rw [if_pos rfl]
   generalize Cn.openP f.data = q at C ⊢
   obtain ⟨v,o,e⟩:=q
   refine FCall.enterL hT hmix [] Tryz.func11 rfl rfl rfl fun hbd=>?_
   (conv=>whnf)
   refine CallLeaf.wa (X) rfl ?_
   (conv=>whnf)
   refine ⟨_,⟨by omega,getMap hk⟩,?_⟩
   (conv=>whnf)
   refine CallLeaf.wa (I) rfl ?_
   (conv=>whnf)
   refine CallLeaf.wa (C) rfl ?_
   (conv=>whnf)
   refine split_intro (fun h=>?_) (fun h=>?_)
   ·have h' : ¬ e = 0 := by simpa using h
    rw [if_neg h']
    (conv=>whnf)
    exact Wk.tuple (Wks.cons (Wk.agg (Wks.cons (Wk.refl _) (Wks.cons (Wk.refl _) (Wks.cons Wk.nilm (Wks.cons Wk.nilm (Wks.cons Wk.nilm (Wks.cons Wk.nilm Wks.nil))))))) (Wks.cons (Wk.refl _) Wks.nil))
   ·have h' : e = 0 := by simpa using h
    rw [if_pos h']
    (conv=>whnf)
    exact Wk.tuple (Wks.cons (Wk.agg (Wks.cons (Wk.refl _) (Wks.cons (Wk.refl _) (Wks.cons Wk.nilm (Wks.cons Wk.nilm (wk_va v _ _)))))) (Wks.cons (Wk.refl _) Wks.nil))
  | false =>
   rw [show isP f.data = false from hm] at I
   have C:=O.ordecode_ f.data (by omega)
   rw [dec_eq] at C
   rw [if_neg (by simp)]
   generalize Sc.dec f.data = q at C ⊢
   obtain ⟨⟨sy,bd⟩,e⟩:=q
   refine FCall.enterL hT hmix [] Tryz.func11 rfl rfl rfl fun hbd=>?_
   (conv=>whnf)
   refine CallLeaf.wa (X) rfl ?_
   (conv=>whnf)
   refine ⟨_,⟨by omega,getMap hk⟩,?_⟩
   (conv=>whnf)
   refine CallLeaf.wa (I) rfl ?_
   (conv=>whnf)
   refine CallLeaf.wa (C) rfl ?_
   (conv=>whnf)
   refine split_intro (fun h=>?_) (fun h=>?_)
   ·have h' : ¬ e = 0 := by simpa using h
    rw [if_neg h']
    (conv=>whnf)
    exact Wk.tuple (Wks.cons (Wk.agg (Wks.cons (Wk.refl _) (Wks.cons (Wk.refl _) (Wks.cons Wk.nilm (Wks.cons Wk.nilm (Wks.cons Wk.nilm (Wks.cons Wk.nilm Wks.nil))))))) (Wks.cons (Wk.refl _) Wks.nil))
   ·have h' : e = 0 := by simpa using h
    rw [if_pos h']
    (conv=>whnf)
    exact Wk.tuple (Wks.cons (Wk.agg (Wks.cons (Wk.refl _) (Wks.cons (Wk.refl _) (Wks.cons (Wk.list _ _) (Wks.cons (Wk.list _ _) (Wks.cons Wk.nilm (Wks.cons Wk.nilm Wks.nil))))))) (Wks.cons (Wk.refl _) Wks.nil))
end Go.Proofs.YtimjnmbpbobfiaaGreatDoor.H

namespace Go.Proofs.YtimjnmbpbobfiaaGreatDoor.H
open Go Go.AL Go.AL.In
set_option maxRecDepth 100000
set_option maxHeartbeats 8000000
abbrev itA (x : ItI) : List D:=[vB x.group,.list .nat (x.ins.map Gp.Inp.enc)]
theorem itA_wk (l : List ItI) (t : Tg) : Wk (.list t (l.map itA)) (LIt l) :=
 Wk.listE t l (fun _ => rfl) (fun a i h1 h2 => by
  have hi : i < 2:=h1
  have : i = 0 ∨ i = 1:=by omega
  rcases this with rfl|rfl
  ·exact Wk.refl _
  ·exact Wk.list _ _) (fun a d hd=>by simp at hd; rcases hd with rfl|rfl <;> rfl)
theorem rall18_ [Go.AL.MX] (fs : List Fe) (ws : List Str) (hs : Small fs) (hw : ws.length ≤ 100000) : FCall Tryz.prog Gl 13 [LFe fs, LS ws] [] (.tuple [LIt (allI fs ws).1, vI (allI fs ws).2.1, vI (allI fs ws).2.2]) [] := by
 have P:=rparse17_ ws hw
 have K:=parseC_ok ws
 obtain ⟨d,hd⟩ : ∃ d,d = (.tuple [LIt (allI fs ws).1,vI (allI fs ws).2.1,vI (allI fs ws).2.2] : D):=⟨_,rfl⟩
 rw [← hd]
 unfold allI at hd
 revert P K hd
 generalize parseC ws = q
 obtain ⟨its,at0,e0⟩:=q
 intro P ⟨K1,K2⟩ hd
 replace K1 : its.length ≤ ws.length:=K1
 replace K2 : ∀ x ∈ its,OkIt ws.length x:=K2
 simp only [] at hd
 refine FCall.enterL hT hmix [] Tryz.func13 rfl rfl rfl fun hbd=>?_
 (conv=>whnf)
 refine CallLeaf.wa (P) rfl ?_
 (conv=>whnf)
 refine split_intro (fun h=>?_) (fun h=>?_)
 ·have h' : ¬ e0 = 0 := by simpa using h
  rw [if_neg h'] at hd
  subst hd
  (conv=>whnf)
  exact Wk.tuple (Wks.cons Wk.nilm (Wks.cons (Wk.refl _) (Wks.cons (Wk.refl _) Wks.nil)))
 ·have h' : e0 = 0 := by simpa using h
  subst h'
  rw [if_pos rfl] at hd
  (conv=>whnf)
  refine LWp.loop hT hmix [9] (fun x : Nat × List ItI => [(11, vI x.1), (10, .list (.tok 403) (x.2.map itA))]) (fun x => [(403, .tok (x.2.map itA).length 2)])
   (fun x=>x.1 ≤ its.length ∧ x.2.length = x.1 ∧ allR fs [] its = allR fs x.2 (its.drop x.1)) (fun x=>its.length - x.1) (0,[]) ⟨Nat.zero_le _,rfl,rfl⟩ ?_
  (conv=>whnf)
  refine ⟨?_,fun ⟨i,acc⟩ ⟨hi,ha,hr⟩=>?_⟩
  ·exact okT
  ·replace hi : i ≤ its.length := hi
   replace ha : acc.length = i:=ha
   replace hr : allR fs [] its = allR fs acc (its.drop i):=hr
   (conv=>whnf)
   refine split_intro (fun h2=>?_) (fun h2=>?_)
   ·have hlt : i < its.length := by have := of_decide_eq_true h2; simp only [List.length_map] at this; omega
    obtain ⟨x,hx⟩:=exI hlt
    obtain ⟨x1,x2,x3⟩:=K2 x (List.mem_of_getElem? hx)
    rw [allR_step hx] at hr
    (conv=>whnf)
    refine ⟨_,⟨by omega,getMap hx⟩,?_⟩
    (conv=>whnf)
    refine LWp.cut hT hmix [] [] (fun _ : List Gp.Inp=>[]) (fun y=>[(4144,.cells [vB x.group,.list .nat (y.map Gp.Inp.enc)])]) [4144,404] (fun y=>openR fs [] (prs x) = .ok y) ?_
    (conv=>whnf)
    refine ⟨?_,fun y hy=>?_⟩
    ·refine LWp.loop hT hmix [] (fun z : Nat × List Gp.Inp => [(13, vI z.1)]) (fun z => [(4144, .cells [vB x.group, .list (.tok 404) (z.2.map Gp.Inp.enc)]), (404, .tok (z.2.map Gp.Inp.enc).length 6)])
      (fun z=>z.1 ≤ x.files.length ∧ z.2.length = z.1 ∧ openR fs [] (prs x) = openR fs z.2 ((prs x).drop z.1)) (fun z=>x.files.length - z.1) (0,[]) ⟨Nat.zero_le _,rfl,rfl⟩ ?_
     (conv=>whnf)
     refine ⟨?_,fun ⟨k,bcc⟩ ⟨hk,hb,hq⟩=>?_⟩
     ·exact okT
     ·replace hk : k ≤ x.files.length := hk
      replace hb : bcc.length = k:=hb
      replace hq : openR fs [] (prs x) = openR fs bcc ((prs x).drop k):=hq
      (conv=>whnf)
      refine ⟨_,⟨by omega,getMap hx⟩,?_⟩
      (conv=>whnf)
      refine split_intro (fun h3=>?_) (fun h3=>?_)
      ·have hkl : k < x.files.length := by have := of_decide_eq_true h3; simp only [List.length_map] at this; omega
       obtain ⟨w,hw1⟩:=exI hkl
       obtain ⟨at',hw2⟩:=exI (show k < x.ats.length by omega)
       rw [openR_step (w:=w) (a:=at') (by simp [prs,List.getElem?_zip_eq_some,hw1,hw2])] at hq
       have O:=ropen18_ fs w hs
       generalize openI fs w = o at hq O
       obtain ⟨v,e⟩:=o
       (conv=>whnf)
       refine ⟨_,⟨by omega,getMap hx⟩,?_⟩
       (conv=>whnf)
       refine ⟨_,⟨by omega,getMap hw1⟩,?_⟩
       (conv=>whnf)
       refine CallLeaf.wa (O) rfl ?_
       (conv=>whnf)
       refine split_intro (fun h4=>?_) (fun h4=>?_)
       ·have h4' : ¬ e = 0 := by simpa using h4
        rw [if_neg h4'] at hq
        rw [hq] at hr
        rw [hr] at hd
        replace hd : d = (.tuple [LIt [],vI (at' : Int),vI e] : D):=hd
        subst hd
        (conv=>whnf)
        refine ⟨_,⟨by omega,getMap hx⟩,?_⟩
        (conv=>whnf)
        refine ⟨_,⟨by omega,getMap hw2⟩,?_⟩
        (conv=>whnf)
        exact Wk.tuple (Wks.cons Wk.nilm (Wks.cons (Wk.refl _) (Wks.cons (Wk.refl _) Wks.nil)))
       ·have h4' : e = 0 := by simpa using h4
        rw [if_pos h4'] at hq
        (conv=>whnf)
        refine ⟨_,appL (f:=Gp.Inp.enc) (xs:=bcc) (ys:=[v]) (zs:=bcc ++ [v]) rfl rfl (fun _=>rfl) (by simp) (by show _ * 120 ≤ _; simp; omega),?_⟩
        (conv=>whnf)
        refine ⟨_,add64 (c:=((k + 1 : Nat) : Int)) (by (try simp only []); omega) (by omega),?_⟩
        (conv=>whnf)
        refine ⟨(k + 1,bcc ++ [v]),⟨⟨by show k + 1 ≤ _; omega,by simp [hb],hq⟩,by show x.files.length - (k + 1) < x.files.length - k; omega⟩,?_⟩
        exact okT
      ·have hge : x.files.length ≤ k := by have := of_decide_eq_false h3; simp only [List.length_map] at this; omega
       rw [List.drop_of_length_le (by simp [prs]; omega)] at hq
       (conv=>whnf)
       refine ⟨bcc,hq,?_⟩
       exact okT
    ·rw [hy] at hr
     (conv=>whnf)
     refine ⟨_,appL (f:=itA) (xs:=acc) (ys:=[⟨x.group,y⟩]) (zs:=acc ++ [⟨x.group,y⟩]) rfl rfl (fun _=>rfl) (by simp) (by show _ * 32 ≤ _; simp; omega),?_⟩
     (conv=>whnf)
     refine ⟨_,add64 (c:=((i + 1 : Nat) : Int)) (by (try simp only []); omega) (by omega),?_⟩
     (conv=>whnf)
     refine ⟨(i + 1,acc ++ [⟨x.group,y⟩]),⟨⟨by show i + 1 ≤ _; omega,by simp [ha],hr⟩,by show its.length - (i + 1) < its.length - i; omega⟩,?_⟩
     exact okT
   ·have hge : its.length ≤ i := by have := of_decide_eq_false h2; simp only [List.length_map] at this; omega
    rw [List.drop_of_length_le hge] at hr
    rw [hr] at hd
    replace hd : d = (.tuple [LIt acc,vI 0,vI 0] : D):=hd
    subst hd
    (conv=>whnf)
    exact Wk.tuple (Wks.cons (itA_wk acc _) (Wks.cons (Wk.refl _) (Wks.cons (Wk.refl _) Wks.nil)))
end Go.Proofs.YtimjnmbpbobfiaaGreatDoor.H

namespace Go.Proofs.YtimjnmbpbobfiaaGreatDoor.H
open Go Go.AL Go.AL.In
set_option maxRecDepth 100000
set_option maxHeartbeats 8000000
theorem same1_ [Go.AL.MX] (a : Gp.Inp) (ha : a.obj.syms.length ≤ 1000000000) : FCall Tryz.prog Gl 14 [.agg a.enc, .agg a.enc] [] (vB true) [] := by
 obtain ⟨an,aa,⟨asy,ab⟩,av⟩:=a
 have O:=O.osame_ asy ab asy ab ha
 have V:=sameV_ av av
 rw [decide_eq_true rfl] at O
 rw [decide_eq_true rfl,decide_eq_true rfl] at V
 refine FCall.enterL hT hmix [] Tryz.func14 rfl rfl rfl fun hbd=>?_
 (conv=>whnf)
 refine split_intro (fun _=>?_) (fun h=>absurd h (by simp))
 (conv=>whnf)
 refine split_intro (fun _=>?_) (fun h=>absurd h (by simp))
 (conv=>whnf)
 refine CallLeaf.wa (O) rfl ?_
 (conv=>whnf)
 refine CallLeaf.wa (V) rfl ?_
 (conv=>whnf)
 exact Wk.refl _
def OkL (l : List ItI) : Prop:=l.length ≤ 1000000 ∧ ∀ x ∈ l,x.ins.length ≤ 1000000 ∧ ∀ a ∈ x.ins,a.obj.syms.length ≤ 1000000000
theorem same18_ [Go.AL.MX] (l : List ItI) (hl : OkL l) : FCall Tryz.prog Gl 16 [LIt l, LIt l] [] (vB true) [] := by
 obtain ⟨hl1,hl2⟩:=hl
 refine FCall.enterL hT hmix [] Tryz.func16 rfl rfl rfl fun hbd=>?_
 (conv=>whnf)
 refine split_intro (fun h=>absurd h (by simp)) (fun _=>?_)
 (conv=>whnf)
 refine LWp.loop hT hmix [] (fun i : Nat=>[(5,vI i)]) (fun _=>[]) (fun i=>i ≤ l.length) (fun i=>l.length - i) 0 (Nat.zero_le _) ?_
 (conv=>whnf)
 refine ⟨?_,fun i hi=>?_⟩
 ·exact okT
 ·replace hi : i ≤ l.length := hi
  (conv=>whnf)
  refine split_intro (fun h=>?_) (fun h=>?_)
  ·have hlt : i < l.length := by have := of_decide_eq_true h; simp only [List.length_map] at this; omega
   obtain ⟨x,hx⟩:=exI hlt
   obtain ⟨x1,x2⟩:=hl2 x (List.mem_of_getElem? hx)
   (conv=>whnf)
   refine ⟨_,⟨by omega,getMap hx⟩,?_⟩
   (conv=>whnf)
   refine ⟨_,⟨by omega,getMap hx⟩,?_⟩
   (conv=>whnf)
   refine split_intro (fun h=>absurd h (by simp)) (fun _=>?_)
   (conv=>whnf)
   refine ⟨_,⟨by omega,getMap hx⟩,?_⟩
   (conv=>whnf)
   refine ⟨_,⟨by omega,getMap hx⟩,?_⟩
   (conv=>whnf)
   refine split_intro (fun h=>absurd h (by simp)) (fun _=>?_)
   (conv=>whnf)
   refine LWp.loop hT hmix [] (fun k : Nat=>[(6,vI k)]) (fun _=>[]) (fun k=>k ≤ x.ins.length) (fun k=>x.ins.length - k) 0 (Nat.zero_le _) ?_
   (conv=>whnf)
   refine ⟨?_,fun k hk=>?_⟩
   ·exact okT
   ·replace hk : k ≤ x.ins.length := hk
    (conv=>whnf)
    refine ⟨_,⟨by omega,getMap hx⟩,?_⟩
    (conv=>whnf)
    refine split_intro (fun h3=>?_) (fun h3=>?_)
    ·have hlt3 : k < x.ins.length := by have := of_decide_eq_true h3; simp only [List.length_map] at this; omega
     obtain ⟨a,hka⟩:=exI hlt3
     (conv=>whnf)
     refine ⟨_,⟨by omega,getMap hx⟩,?_⟩
     (conv=>whnf)
     refine ⟨_,⟨by omega,getMap hka⟩,?_⟩
     (conv=>whnf)
     refine ⟨_,⟨by omega,getMap hx⟩,?_⟩
     (conv=>whnf)
     refine ⟨_,⟨by omega,getMap hka⟩,?_⟩
     (conv=>whnf)
     refine CallLeaf.wa (same1_ a (x2 a (List.mem_of_getElem? hka))) rfl ?_
     (conv=>whnf)
     refine ⟨_,add64 (c:=((k + 1 : Nat) : Int)) (by (try simp only []); omega) (by omega),?_⟩
     (conv=>whnf)
     refine ⟨k + 1,⟨by omega,by show x.ins.length - (k + 1) < x.ins.length - k; omega⟩,?_⟩
     exact okT
    ·(conv => whnf)
     refine ⟨_,add64 (c:=((i + 1 : Nat) : Int)) (by (try simp only []); omega) (by omega),?_⟩
     (conv=>whnf)
     refine ⟨i + 1,⟨by omega,by show l.length - (i + 1) < l.length - i; omega⟩,?_⟩
     exact okT
  ·(conv => whnf)
   exact Wk.refl _
theorem one_ [Go.AL.MX] (x : Gp.Inp) : FCall Tryz.prog Gl 15 [.agg x.enc] [] (.agg x.enc) [] := by
 refine FCall.enterL hT hmix [] Tryz.func15 rfl rfl rfl fun hbd=>?_
 (conv=>whnf)
 exact Wk.refl _
theorem items_ [Go.AL.MX] (l : List ItI) (hl : OkL l) : FCall Tryz.prog Gl 17 [LIt l] [] (.list (.tok 0) (l.map itA)) [.tok (l.map itA).length 2] := by
 obtain ⟨hl1,hl2⟩:=hl
 generalize hL : l.map itA = L
 refine FCall.enterO hT hmix [] Tryz.func17 rfl rfl rfl fun hbd=>?_
 (conv=>whnf)
 refine LWp.loop hT hmix [6] (fun i : Nat=>[(4,vI i),(3,.list (.tok 403) ((l.take i).map itA))]) (fun i=>[(403,.tok ((l.take i).map itA).length 2)]) (fun i=>i ≤ l.length) (fun i=>l.length - i) 0 (Nat.zero_le _) ?_
 (conv=>whnf)
 refine ⟨?_,fun i hi=>?_⟩
 ·exact okT
 ·replace hi : i ≤ l.length := hi
  (conv=>whnf)
  refine split_intro (fun h=>?_) (fun h=>?_)
  ·have hlt : i < l.length := by have := of_decide_eq_true h; simp only [List.length_map] at this; omega
   obtain ⟨x,hx⟩:=exI hlt
   obtain ⟨x1,x2⟩:=hl2 x (List.mem_of_getElem? hx)
   have hst : l.take (i + 1) = l.take i ++ [x]:=by rw [List.take_add_one,hx]; rfl
   (conv=>whnf)
   refine ⟨_,⟨by omega,getMap hx⟩,?_⟩
   (conv=>whnf)
   refine LWp.cut hT hmix [] [] (fun _ : Unit=>[]) (fun _=>[(2608,.cells [vB x.group,.list .nat (x.ins.map Gp.Inp.enc)])]) [2608,404] (fun _=>True) ?_
   (conv=>whnf)
   refine ⟨?_,fun _ _=>?_⟩
   ·refine LWp.loop hT hmix [] (fun k : Nat => [(6, vI k)]) (fun k => [(2608, .cells [vB x.group, .list (.tok 404) ((x.ins.take k).map Gp.Inp.enc)]), (404, .tok ((x.ins.take k).map Gp.Inp.enc).length 6)]) (fun k => k ≤ x.ins.length) (fun k => x.ins.length - k) 0 (Nat.zero_le _) ?_
    (conv=>whnf)
    refine ⟨?_,fun k hk=>?_⟩
    ·exact okT
    ·replace hk : k ≤ x.ins.length := hk
     (conv=>whnf)
     refine ⟨_,⟨by omega,getMap hx⟩,?_⟩
     (conv=>whnf)
     refine split_intro (fun h3=>?_) (fun h3=>?_)
     ·have hlt3 : k < x.ins.length := by have := of_decide_eq_true h3; simp only [List.length_map] at this; omega
      obtain ⟨a,hka⟩:=exI hlt3
      have hst3 : x.ins.take (k + 1) = x.ins.take k ++ [a]:=by rw [List.take_add_one,hka]; rfl
      (conv=>whnf)
      refine ⟨_,⟨by omega,getMap hx⟩,?_⟩
      (conv=>whnf)
      refine ⟨_,⟨by omega,getMap hka⟩,?_⟩
      (conv=>whnf)
      refine CallLeaf.wa (one_ a) rfl ?_
      (conv=>whnf)
      refine ⟨_,appL (f:=Gp.Inp.enc) (xs:=x.ins.take k) (ys:=[a]) (zs:=x.ins.take (k + 1)) rfl rfl (fun _=>rfl) hst3.symm (by show _ * 120 ≤ _; simp; omega),?_⟩
      (conv=>whnf)
      refine ⟨_,add64 (c:=((k + 1 : Nat) : Int)) (by (try simp only []); omega) (by omega),?_⟩
      (conv=>whnf)
      refine ⟨k + 1,⟨by omega,by show x.ins.length - (k + 1) < x.ins.length - k; omega⟩,?_⟩
      exact okT
     ·have hge : x.ins.length ≤ k := by have := of_decide_eq_false h3; simp only [List.length_map] at this; omega
      have e : x.ins = x.ins.take k:=(List.take_of_length_le hge).symm
      (conv=>whnf)
      refine ⟨(),trivial,?_⟩
      generalize hB : (x.ins.map Gp.Inp.enc) = B
      have e2 : B = (x.ins.take k).map Gp.Inp.enc:=by rw [← e]; exact hB.symm
      clear hB
      subst e2
      exact okT
   ·(conv => whnf)
    refine ⟨_,appL (f:=itA) (xs:=l.take i) (ys:=[x]) (zs:=l.take (i + 1)) rfl rfl (fun _=>rfl) hst.symm (by show _ * 32 ≤ _; simp; omega),?_⟩
    (conv=>whnf)
    refine ⟨_,add64 (c:=((i + 1 : Nat) : Int)) (by (try simp only []); omega) (by omega),?_⟩
    (conv=>whnf)
    refine ⟨i + 1,⟨by omega,by show l.length - (i + 1) < l.length - i; omega⟩,?_⟩
    exact okT
  ·have hge : l.length ≤ i := by have := of_decide_eq_false h; simp only [List.length_map] at this; omega
   have e : L = (l.take i).map itA:=by rw [List.take_of_length_le hge]; exact hL.symm
   clear hL
   subst e
   (conv=>whnf)
   refine ⟨[403],rfl,finT,?_⟩
   exact Wk.refl _
end Go.Proofs.YtimjnmbpbobfiaaGreatDoor.H

namespace Go.Proofs.YtimjnmbpbobfiaaGreatDoor.H
open Go Go.AL Go.AL.In
set_option maxRecDepth 100000
set_option maxHeartbeats 8000000
theorem fewI_false {fs : List Fe} {ws : List Str} {k : Nat} {f : Fe} (h : fs[k]? = some f) (hk : k ≤ 12) (hf : fewF f = false) : fewI fs ws = false := by
 unfold fewI
 have : (fs.take 13).all fewF = false := by
  rw [List.all_eq_false]
  refine ⟨f,?_,by simp [hf]⟩
  have : (fs.take 13)[k]? = some f:=by rw [List.getElem?_take_of_lt (by omega)]; exact h
  exact List.mem_of_getElem? this
 rw [this]; rfl
theorem rfew18_ [Go.AL.MX] (fs : List Fe) (ws : List Str) : FCall Tryz.prog Gl 9 [LFe fs, LS ws] [] (vB (fewI fs ws)) [] := by
 refine FCall.enterL hT hmix [] Tryz.func9 rfl rfl rfl fun hbd=>?_
 (conv=>whnf)
 refine LWp.loop hT hmix [] (fun k : Nat=>[(5,vI k)]) (fun _=>[]) (fun k=>k ≤ fs.length ∧ k ≤ 13 ∧ (fs.take k).all fewF = true) (fun k=>fs.length - k) 0 ⟨Nat.zero_le _,by omega,rfl⟩ ?_
 (conv=>whnf)
 refine ⟨?_,fun k ⟨hk,hk2,hal⟩=>?_⟩
 ·exact okT
 ·replace hk : k ≤ fs.length := hk
  replace hk2 : k ≤ 13:=hk2
  (conv=>whnf)
  refine split_intro (fun h=>?_) (fun h=>?_)
  ·have hlt : k < fs.length := by have := of_decide_eq_true h; simp only [List.length_map] at this; omega
   obtain ⟨f,hx⟩:=exI hlt
   (conv=>whnf)
   refine split_intro (fun h5=>?_) (fun h5=>?_)
   ·have h5' : k ≤ 12 := by have := of_decide_eq_true h5; omega
    (conv=>whnf)
    refine ⟨_,⟨by omega,getMap hx⟩,?_⟩
    (conv=>whnf)
    refine split_intro (fun h6=>?_) (fun h6=>?_)
    ·have h6' : 2000 < f.data.length := by have := of_decide_eq_true h6; simp only [List.length_map] at this; omega
     rw [fewI_false hx h5' (by simp; omega)]
     (conv=>whnf)
     exact Wk.refl _
    ·have h6' : ¬ 2000 < f.data.length := by have := of_decide_eq_false h6; simp only [List.length_map] at this; omega
     (conv=>whnf)
     refine ⟨_,⟨by omega,getMap hx⟩,?_⟩
     (conv=>whnf)
     refine split_intro (fun h7=>?_) (fun h7=>?_)
     ·have h7' : 100 < f.name.length := by have := of_decide_eq_true h7; rw [sB_sz] at this; omega
      rw [fewI_false hx h5' (by simp; omega)]
      (conv=>whnf)
      exact Wk.refl _
     ·have h7' : ¬ 100 < f.name.length := by have := of_decide_eq_false h7; rw [sB_sz] at this; omega
      (conv=>whnf)
      refine ⟨_,add64 (c:=((k + 1 : Nat) : Int)) (by (try simp only []); omega) (by omega),?_⟩
      (conv=>whnf)
      refine ⟨k + 1,⟨⟨hlt,by show k + 1 ≤ 13; omega,?_⟩,by show fs.length - (k + 1) < fs.length - k; omega⟩,?_⟩
      ·rw [List.take_add_one,hx]; simp [hal]; omega
      ·exact okT
   ·have h5' : ¬ k ≤ 12 := by have := of_decide_eq_false h5; omega
    have e : fewI fs ws = false:=by unfold fewI; rw [decide_eq_false (p:=fs.length ≤ 12) (by omega)]; simp
    rw [e]
    (conv=>whnf)
    refine split_intro (fun h=>absurd h (by simp; omega)) (fun _=>?_)
    (conv=>whnf)
    exact Wk.refl _
  ·have hge : fs.length ≤ k := by have := of_decide_eq_false h; simp only [List.length_map] at this; omega
   have e : fewI fs ws = (decide (fs.length ≤ 12) && decide (ws.length ≤ 40)) := by
    unfold fewI
    rw [List.take_of_length_le hge] at hal
    have : (fs.take 13).all fewF = true := by
     rw [List.all_eq_true] at hal ⊢
     exact fun f hf=>hal f (List.mem_of_mem_take hf)
    rw [this]; rfl
   rw [e]
   (conv=>whnf)
   refine split_intro (fun h8=>?_) (fun h8=>?_)
   ·have h8' : fs.length ≤ 12 := by have := of_decide_eq_true h8; simp only [List.length_map] at this; omega
    (conv=>whnf)
    exact Wk.bool (by simp [h8']; omega)
   ·have h8' : ¬ fs.length ≤ 12 := by have := of_decide_eq_false h8; simp only [List.length_map] at this; omega
    (conv=>whnf)
    exact Wk.bool (by simp [h8'])
def loadI (l : List Sc.Mem) (k : Int) : Bool := if k < 0 then false else match l[k.toNat]? with
 | some m=>decide ((Sc.dec m.data).2 = 0)
 | none=>false
theorem iload_ [Go.AL.MX] (l : List Sc.Mem) (k : Int) (hl : ∀ m ∈ l, m.data.length ≤ 1000000000) : FCall Tryz.prog Gl 21 [.agg [Sc.LM l, .nil], vI k] [] (vB (loadI l k)) [] := by
 by_cases hk : k < 0
 ·rw [show loadI l k = false by unfold loadI; rw [if_pos hk]]
  refine FCall.enterL hT hmix [] Tryz.func21 rfl rfl rfl fun hbd=>?_
  (conv=>whnf)
  refine split_intro (fun _=>?_) (fun h=>absurd h (by simp; omega))
  (conv=>whnf)
  exact Wk.refl _
 ·cases hx : l[k.toNat]? with
  | none =>
   have hge : l.length ≤ k.toNat:=by simpa using hx
   rw [show loadI l k = false by unfold loadI; rw [if_neg hk,hx]]
   refine FCall.enterL hT hmix [] Tryz.func21 rfl rfl rfl fun hbd=>?_
   (conv=>whnf)
   refine split_intro (fun h=>absurd h (by simp; omega)) (fun _=>?_)
   (conv=>whnf)
   refine split_intro (fun _=>?_) (fun h=>absurd h (by simp; omega))
   (conv=>whnf)
   exact Wk.refl _
  | some m =>
   have hlt : k.toNat < l.length:=(List.getElem?_eq_some_iff.1 hx).1
   rw [show loadI l k = decide ((Sc.dec m.data).2 = 0) by unfold loadI; rw [if_neg hk,hx]]
   have C:=O.odecode_ m.data (hl m (List.mem_of_getElem? hx))
   rw [dec_eq] at C
   generalize Sc.dec m.data = q at C ⊢
   obtain ⟨o,e⟩:=q
   have hg : (l.map Sc.Mem.enc)[k.toNat]? = some m.enc:=by simp [hx]
   refine FCall.enterL hT hmix [] Tryz.func21 rfl rfl rfl fun hbd=>?_
   (conv=>whnf)
   refine split_intro (fun h=>absurd h (by simp; omega)) (fun _=>?_)
   (conv=>whnf)
   refine split_intro (fun h=>absurd h (by simp; omega)) (fun _=>?_)
   (conv=>whnf)
   refine ⟨_,⟨by omega,hg⟩,?_⟩
   (conv=>whnf)
   refine CallLeaf.wa (C) rfl ?_
   (conv=>whnf)
   exact Wk.bool (by by_cases h : e = 0 <;> simp [h])
end Go.Proofs.YtimjnmbpbobfiaaGreatDoor.H

namespace Go.Proofs.YtimjnmbpbobfiaaGreatDoor.H
open Go Go.AL Go.AL.In
set_option maxRecDepth 100000
set_option maxHeartbeats 8000000
theorem openI_syms {fs : List Fe} (hs : Small fs) (n : Str) : (openI fs n).1.obj.syms.length ≤ 1000000000 := by
 rcases ixF_spec fs n with ⟨_,e2,_⟩|⟨k,f,hk,_,_,e2,_⟩
 ·rw [e2]; exact Nat.zero_le _
 ·rw [e2]
  have:=hs.2 f (List.mem_of_getElem? hk)
  have h2:=syms_le f.data
  unfold openF
  split
  ·split <;> exact Nat.zero_le _
  ·split
   ·show (Sc.dec f.data).1.syms.length ≤ _; omega
   ·exact Nat.zero_le _
theorem okL_all {fs : List Fe} {ws : List Str} (hs : Small fs) (hw : ws.length ≤ 100000) : OkL (allI fs ws).1 := by
 have nil : OkL []:=⟨Nat.zero_le _,fun x hx=>absurd hx (by simp)⟩
 rw [allI_eq]
 obtain ⟨h1,h2⟩:=parseC_ok ws
 split
 ·split
  ·refine ⟨by show ((parseC ws).1.map (ofI fs)).length ≤ _; rw [List.length_map]; omega, fun y hy => ?_⟩
   obtain ⟨x,hx,rfl⟩:=List.mem_map.1 hy
   have:=(h2 x hx).2.1
   refine ⟨by show (((prs x).map Prod.fst).map _).length ≤ _; simp [prs]; omega,fun a ha=>?_⟩
   obtain ⟨w,_,rfl⟩:=List.mem_map.1 ha
   exact openI_syms hs w
  ·exact nil
 ·exact nil
theorem iN_wk (x : Gp.Inp) : Wk (.agg (iEN x)) (.agg x.enc) :=
 Wk.agg (Wks.cons (Wk.refl _) (Wks.cons (Wk.refl _) (Wks.cons (Wk.list _ _) (Wks.cons (Wk.list _ _) (wk_va x.view _ _)))))
theorem ins_wk (l : List Gp.Inp) (t : Tg) : Wk (.list t (l.map iEN)) (Gp.LIp l) :=
 Wk.listE t l (fun _ => rfl) (fun a i h1 h2 => by
  have hi : i < 6:=h1
  have : i = 0 ∨ i = 1 ∨ i = 2 ∨ i = 3 ∨ i = 4 ∨ i = 5:=by omega
  rcases this with rfl|rfl|rfl|rfl|rfl|rfl
  ·exact Wk.refl _
  ·exact Wk.refl _
  ·exact Wk.list _ _
  ·exact Wk.list _ _
  ·exact mem_wk _ _
  ·exact lds_wk _ _) (fun a d hd=>by simp at hd; rcases hd with rfl|rfl|rfl|rfl|rfl|rfl <;> rfl)
theorem its_wk (l : List ItI) (t : Tg) : Wk (.list t (l.map itN)) (LIt l) :=
 Wk.listE t l (fun _ => rfl) (fun a i h1 h2 => by
  have hi : i < 2:=h1
  have : i = 0 ∨ i = 1:=by omega
  rcases this with rfl|rfl
  ·exact Wk.refl _
  ·exact ins_wk _ _) (fun a d hd=>by simp at hd; rcases hd with rfl|rfl <;> rfl)
abbrev feN (f : Fe) : List D:=[sD f.name,LBn f.data]
theorem fe_wk (l : List Fe) (t : Tg) : Wk (.list t (l.map feN)) (LFe l) :=
 Wk.listE t l (fun _ => rfl) (fun a i h1 h2 => by
  have hi : i < 2:=h1
  have : i = 0 ∨ i = 1:=by omega
  rcases this with rfl|rfl
  ·exact Wk.refl _
  ·exact Wk.list _ _) (fun a d hd=>by simp at hd; rcases hd with rfl|rfl <;> rfl)
abbrev sy0 : Ob.Sym:=⟨[102],1,0,0⟩
abbrev ob0 : Str:=Ob.encO ⟨[sy0],[]⟩
theorem ob0_enc : O.encRO' ⟨[sy0],[]⟩ = (ob0,0):=by decide +kernel
theorem ob0_m : isM ob0 = false:=by decide +kernel
theorem ob0_dec : (Sc.dec ob0).1 = ⟨[sy0],[]⟩ ∧ (Sc.dec ob0).2 = 0:=by decide +kernel
abbrev tx0 : Str:=[116,101,120,116]
theorem tx0_m : isM tx0 = false:=by decide +kernel
theorem tx0_dec : (Sc.dec tx0).2 = 1:=by decide +kernel
theorem arcM_ : Cn.openP Ar.magic = (Cn.viewP [], 0, 0) := by
 rw [Cn.openP_ok arcM]; rfl
abbrev nA : Str:=[97,46,111]
abbrev nX : Str:=[120,46,97]
abbrev nB : Str:=[98,97,100]
abbrev nN : Str:=[110,111,110,101]
abbrev inA : Gp.Inp:=⟨nA,false,⟨[sy0],[]⟩,Cn.View0⟩
abbrev inX : Gp.Inp:=⟨nX,true,⟨[],[]⟩,Cn.viewP []⟩
abbrev fs0 (ob : Str) : List Fe:=[⟨nA,ob⟩,⟨nX,Ar.magic⟩,⟨nB,tx0⟩]
theorem op_A {ob : Str} (h1 : isM ob = false) (h2 : Sc.dec ob = (⟨[sy0], []⟩, 0)) : openI (fs0 ob) nA = (inA, 0) := by
 show openF nA ob = _
 unfold openF
 rw [if_neg (by simp [h1]),h2]; rfl
theorem op_X (ob : Str) : openI (fs0 ob) nX = (inX, 0) := by
 show openF nX Ar.magic = _
 unfold openF
 rw [if_pos (by decide),arcM_]; rfl
theorem op_B (ob : Str) : openI (fs0 ob) nB = (Inp0, 1) := by
 show openF nB tx0 = _
 unfold openF
 rw [if_neg (by simp [tx0_m]),tx0_dec]; rfl
theorem op_N (ob : Str) : openI (fs0 ob) nN = (Inp0,15):=rfl
theorem all1 {ob : Str} (h1 : isM ob = false) (h2 : Sc.dec ob = (⟨[sy0], []⟩, 0)) : allI (fs0 ob) [nA, nN] = ([], 1, 15) := by
 rw [allI_eq,show parseC [nA,nN] = ([⟨false,[nA],[0]⟩,⟨false,[nN],[1]⟩],0,0) by decide +kernel]
 simp [openA,prs,op_A h1 h2,op_N]
theorem all2 (ob : Str) : allI (fs0 ob) [nN, [45, 40]] = ([], 1, 14) := by
 rw [allI_eq,show parseC [nN,[45,40]] = ([],1,14) by decide +kernel]
 simp
theorem all3 {ob : Str} (h1 : isM ob = false) (h2 : Sc.dec ob = (⟨[sy0], []⟩, 0)) : allI (fs0 ob) [nA, [45, 40], nB, nN, [45, 41]] = ([], 2, 1) := by
 rw [allI_eq,show parseC [nA,[45,40],nB,nN,[45,41]] = ([⟨false,[nA],[0]⟩,⟨true,[nB,nN],[2,3]⟩],0,0) by decide +kernel]
 simp [openA,prs,op_A h1 h2,op_N,op_B]
theorem all4 {ob : Str} (h1 : isM ob = false) (h2 : Sc.dec ob = (⟨[sy0], []⟩, 0)) : allI (fs0 ob) [nA, [45, 40], nX, [45, 41]] = ([⟨false, [inA]⟩, ⟨true, [inX]⟩], 0, 0) := by
 rw [allI_eq,show parseC [nA,[45,40],nX,[45,41]] = ([⟨false,[nA],[0]⟩,⟨true,[nX],[2]⟩],0,0) by decide +kernel]
 simp [openA,prs,op_A h1 h2,op_X]
theorem iawake_ [Go.AL.MX] : FCall Tryz.prog Gl 8 [] [] (vB true) [] := by
 obtain ⟨ob,hob⟩ : ∃ ob,ob = ob0:=⟨_,rfl⟩
 have hol : ob.length ≤ 100000:=by rw [hob]; decide
 have E:=O.orencode_ [sy0] [] (by decide) (by decide)
 rw [ob0_enc,← hob] at E
 have h1:=ob0_m
 have h2 : Sc.dec ob0 = (⟨[sy0],[]⟩,0):=Prod.ext ob0_dec.1 ob0_dec.2
 rw [← hob] at h1 h2
 have hs : Small (fs0 ob) := ⟨by show 3 ≤ _; omega, fun f hf => by
  simp only [List.mem_cons,List.mem_nil_iff,or_false] at hf
  rcases hf with rfl|rfl|rfl
  ·exact hol
  ·show 8 ≤ _; omega
  ·show 4 ≤ _; omega⟩
 have O1:=iopen_ (fs0 ob) nA hs
 rw [op_A h1 h2] at O1
 have O2:=iopen_ (fs0 ob) nX hs
 rw [op_X] at O2
 have A1:=iall_ (fs0 ob) [nA,nN] hs (by simp)
 rw [all1 h1 h2] at A1
 have A2:=iall_ (fs0 ob) [nN,[45,40]] hs (by simp)
 rw [all2] at A2
 have A3:=iall_ (fs0 ob) [nA,[45,40],nB,nN,[45,41]] hs (by simp)
 rw [all3 h1 h2] at A3
 have A4:=iall_ (fs0 ob) [nA,[45,40],nX,[45,41]] hs (by simp)
 rw [all4 h1 h2] at A4
 have L:=iload_ [] 0 (fun m hm=>absurd hm (by simp))
 rw [show loadI [] 0 = false by rfl] at L
 refine FCall.enterL hT hmix [] Tryz.func8 rfl rfl rfl fun hbd=>?_
 (conv=>whnf)
 refine CallLeaf.wa (E) rfl ?_
 (conv=>whnf)
 refine CallLeaf.wa (rmagic_) rfl ?_
 (conv=>whnf)
 refine CallLeaf.w (ArgsTo.cons (ArgTo.mk' rfl (fe_wk (fs0 ob) .nat)) (ArgsTo.cons (ArgTo.mk' rfl (Wk.refl _)) ArgsTo.nil)) (O1) rfl ?_
 (conv=>whnf)
 refine CallLeaf.w (ArgsTo.cons (ArgTo.mk' rfl (fe_wk (fs0 ob) .nat)) (ArgsTo.cons (ArgTo.mk' rfl (Wk.refl _)) ArgsTo.nil)) (O2) rfl ?_
 (conv=>whnf)
 refine CallLeaf.w (ArgsTo.cons (ArgTo.mk' rfl (fe_wk (fs0 ob) .nat)) (ArgsTo.cons (ArgTo.mk' rfl (Wk.list _ _)) ArgsTo.nil)) (A1) rfl ?_
 (conv=>whnf)
 refine CallLeaf.w (ArgsTo.cons (ArgTo.mk' rfl (fe_wk (fs0 ob) .nat)) (ArgsTo.cons (ArgTo.mk' rfl (Wk.list _ _)) ArgsTo.nil)) (A2) rfl ?_
 (conv=>whnf)
 refine CallLeaf.w (ArgsTo.cons (ArgTo.mk' rfl (fe_wk (fs0 ob) .nat)) (ArgsTo.cons (ArgTo.mk' rfl (Wk.list _ _)) ArgsTo.nil)) (A3) rfl ?_
 (conv=>whnf)
 refine CallLeaf.w (ArgsTo.cons (ArgTo.mk' rfl (fe_wk (fs0 ob) .nat)) (ArgsTo.cons (ArgTo.mk' rfl (Wk.list _ _)) ArgsTo.nil)) (A4) rfl ?_
 (conv=>whnf)
 refine CallLeaf.w (ArgsTo.cons (ArgTo.mk' rfl (iN_wk inA)) ArgsTo.nil) (one_ inA) rfl ?_
 (conv=>whnf)
 refine CallLeaf.w (ArgsTo.cons (ArgTo.mk' rfl (Wk.refl _)) (ArgsTo.cons (ArgTo.mk' rfl (Wk.agg (Wks.cons (Wk.refl _) (Wks.cons (Wk.refl _) (Wks.cons (Wk.list _ _) (Wks.cons Wk.nilm (Wks.cons Wk.nilm (Wks.cons Wk.nilm Wks.nil)))))))) ArgsTo.nil)) (same1_ inA (by decide)) rfl ?_
 (conv=>whnf)
 refine CallLeaf.w (ArgsTo.cons (ArgTo.mk' rfl (Wk.agg (Wks.cons Wk.nilm (Wks.cons (Wk.refl _) Wks.nil)))) (ArgsTo.cons (ArgTo.mk' rfl (Wk.refl _)) ArgsTo.nil)) L rfl ?_
 (conv=>whnf)
 exact Wk.refl _
end Go.Proofs.YtimjnmbpbobfiaaGreatDoor.H

namespace Go.Proofs.YtimjnmbpbobfiaaGreatDoor.H
open Go Go.AL Go.AL.In
set_option maxRecDepth 100000
set_option maxHeartbeats 8000000
theorem small_few {fs : List Fe} {ws : List Str} (h : fewI fs ws = true) : Small fs ∧ ws.length ≤ 40 := by
 obtain ⟨h1,h2,h3⟩:=fewI_small h
 exact ⟨⟨by omega,fun f hf=>by have:=h1 f hf; omega⟩,h3⟩
theorem imatch_ [Go.AL.MX] (fs : List Fe) (ws : List Str) (n : Str) : FCall Tryz.prog Gl 3 [LFe fs, LS ws, sD n] [] (vB true) [] := by
 have F:=rfew18_ fs ws
 cases hf : fewI fs ws with
 | false =>
  rw [hf] at F
  refine FCall.enterL hT hmix [] Tryz.func3 rfl rfl rfl fun hbd=>?_
  (conv=>whnf)
  refine CallLeaf.wa (iawake_) rfl ?_
  (conv=>whnf)
  refine CallLeaf.wa (F) rfl ?_
  ((conv=>whnf); refine CallLeaf.wa (iawake_) rfl ?_; (conv=>whnf); exact Wk.refl _)
 | true =>
  rw [hf] at F
  obtain ⟨hs,hw⟩:=small_few hf
  have I1:=iopen_ fs n hs
  have I2:=ropen18_ fs n hs
  have A1:=iall_ fs ws hs (by omega)
  have A2:=rall18_ fs ws hs (by omega)
  have hq:=okL_all (ws:=ws) hs (by omega)
  have ho:=openI_syms hs n
  generalize openI fs n = o at I1 I2 ho
  generalize allI fs ws = q at A1 A2 hq
  obtain ⟨x,e⟩:=o
  obtain ⟨l,a,e2⟩:=q
  replace hq : OkL l:=hq
  replace ho : x.obj.syms.length ≤ 1000000000:=ho
  refine FCall.enterL hT hmix [] Tryz.func3 rfl rfl rfl fun hbd=>?_
  (conv=>whnf)
  refine CallLeaf.wa (iawake_) rfl ?_
  (conv=>whnf)
  refine CallLeaf.wa (F) rfl ?_
  (conv=>whnf)
  refine split_intro (fun h=>?_) (fun h=>?_)
  ·((conv=>whnf); refine CallLeaf.wa (iawake_) rfl ?_; (conv=>whnf); exact Wk.refl _)
  ·(conv => whnf)
   refine CallLeaf.wa (I1) rfl ?_
   (conv=>whnf)
   refine CallLeaf.wa (I2) rfl ?_
   (conv=>whnf)
   refine CallLeaf.wa (A1) rfl ?_
   (conv=>whnf)
   refine CallLeaf.wa (A2) rfl ?_
   (conv=>whnf)
   refine CallLeaf.w (ArgsTo.cons (ArgTo.mk' rfl (iN_wk x)) ArgsTo.nil) (one_ x) rfl ?_
   (conv=>whnf)
   refine CallLeaf.wa (same1_ x ho) rfl ?_
   (conv=>whnf)
   refine split_intro (fun _=>?_) (fun h=>absurd h (by simp))
   (conv=>whnf)
   refine CallLeaf.o [3672] (ArgsTo.cons (ArgTo.mk' rfl (its_wk _ _)) ArgsTo.nil) (items_ _ hq) rfl rfl triT triT triT rfl rfl ?_
   (conv=>whnf)
   refine CallLeaf.w (ArgsTo.cons (ArgTo.mk' rfl (itA_wk l _)) (ArgsTo.cons (ArgTo.mk' rfl (Wk.refl _)) ArgsTo.nil)) (same18_ l hq) rfl ?_
   (conv=>whnf)
   refine split_intro (fun _=>?_) (fun h=>absurd h (by simp))
   (conv=>whnf)
   exact Wk.bool (by simp)
theorem iconcat_ [Go.AL.MX] (fs : List Fe) (a b : List Str) : FCall Tryz.prog Gl 7 [LFe fs, LS a, LS b] [] (vB true) [] := by
 have F1:=rfew18_ fs a
 have F2:=rfew18_ fs b
 cases hf : fewI fs a with
 | false =>
  rw [hf] at F1
  refine FCall.enterL hT hmix [] Tryz.func7 rfl rfl rfl fun hbd=>?_
  (conv=>whnf)
  refine CallLeaf.wa (iawake_) rfl ?_
  (conv=>whnf)
  refine CallLeaf.wa (F1) rfl ?_
  ((conv=>whnf); refine CallLeaf.wa (iawake_) rfl ?_; (conv=>whnf); exact Wk.refl _)
 | true =>
  rw [hf] at F1
  cases hf2 : fewI fs b with
  | false =>
   rw [hf2] at F2
   refine FCall.enterL hT hmix [] Tryz.func7 rfl rfl rfl fun hbd=>?_
   (conv=>whnf)
   refine CallLeaf.wa (iawake_) rfl ?_
   (conv=>whnf)
   refine CallLeaf.wa (F1) rfl ?_
   (conv=>whnf)
   refine CallLeaf.wa (F2) rfl ?_
   ((conv=>whnf); refine CallLeaf.wa (iawake_) rfl ?_; (conv=>whnf); exact Wk.refl _)
  | true =>
   rw [hf2] at F2
   obtain ⟨hs,hw⟩:=small_few hf
   obtain ⟨_,hw2⟩:=small_few hf2
   have A1:=iall_ fs a hs (by omega)
   have A2:=iall_ fs b hs (by omega)
   have A3:=iall_ fs (a ++ b) hs (by simp; omega)
   have q1:=okL_all (ws:=a) hs (by omega)
   have q2:=okL_all (ws:=b) hs (by omega)
   have q3:=okL_all (ws:=a ++ b) hs (by simp; omega)
   have ap:=allI_append (fs:=fs) (a:=a) (b:=b)
   generalize allI fs (a ++ b) = z at A3 q3 ap
   generalize allI fs a = x at A1 q1 ap
   generalize allI fs b = y at A2 q2 ap
   obtain ⟨lx,ax,ex⟩:=x
   obtain ⟨ly,ay,ey⟩:=y
   replace q1 : OkL lx:=q1
   replace q2 : OkL ly:=q2
   refine FCall.enterL hT hmix [] Tryz.func7 rfl rfl rfl fun hbd=>?_
   (conv=>whnf)
   refine CallLeaf.wa (iawake_) rfl ?_
   (conv=>whnf)
   refine CallLeaf.wa (F1) rfl ?_
   (conv=>whnf)
   refine CallLeaf.wa (F2) rfl ?_
   (conv=>whnf)
   refine CallLeaf.wa (A1) rfl ?_
   (conv=>whnf)
   refine CallLeaf.wa (A2) rfl ?_
   (conv=>whnf)
   refine split_intro (fun h1=>?_) (fun h1=>?_)
   ·(conv => whnf)
    exact Wk.refl _
   ·have h1' : ex = 0 := by simpa using h1
    (conv=>whnf)
    refine split_intro (fun h2=>?_) (fun h2=>?_)
    ·(conv => whnf)
     exact Wk.refl _
    ·have h2' : ey = 0 := by simpa using h2
     subst h1' h2'
     have ap:=ap rfl rfl
     subst ap
     replace q3 : OkL (lx ++ ly):=q3
     have b1:=q1.1
     have b2:=q2.1
     (conv=>whnf)
     refine ⟨_,appL (f:=eS) (xs:=[]) (ys:=a) (zs:=a) rfl rfl (fun _=>rfl) rfl (by show _ * 16 ≤ _; omega),?_⟩
     (conv=>whnf)
     refine ⟨_,appL (f:=eS) (xs:=a) (ys:=b) (zs:=a ++ b) rfl rfl (fun _=>rfl) rfl (by show _ * 16 ≤ _; simp; omega),?_⟩
     (conv=>whnf)
     refine CallLeaf.wa (A3) rfl ?_
     (conv=>whnf)
     refine CallLeaf.o [4128] (ArgsTo.cons (ArgTo.mk' rfl (its_wk _ _)) ArgsTo.nil) (items_ _ q3) rfl rfl triT triT triT rfl rfl ?_
     (conv=>whnf)
     refine CallLeaf.o [4144] (ArgsTo.cons (ArgTo.mk' rfl (its_wk _ _)) ArgsTo.nil) (items_ _ q1) rfl rfl triT triT triT rfl rfl ?_
     (conv=>whnf)
     refine CallLeaf.o [4160] (ArgsTo.cons (ArgTo.mk' rfl (its_wk _ _)) ArgsTo.nil) (items_ _ q2) rfl rfl triT triT triT rfl rfl ?_
     (conv=>whnf)
     refine ⟨_,appL (f:=itA) (xs:=lx) (ys:=ly) (zs:=lx ++ ly) rfl rfl (fun _=>rfl) rfl (by show _ * 32 ≤ _; simp; omega),?_⟩
     (conv=>whnf)
     refine CallLeaf.w (ArgsTo.cons (ArgTo.mk' rfl (itA_wk (lx ++ ly) _)) (ArgsTo.cons (ArgTo.mk' rfl (itA_wk (lx ++ ly) _)) ArgsTo.nil)) (same18_ (lx ++ ly) q3) rfl ?_
     (conv=>whnf)
     exact Wk.refl _
theorem iloadable_ [Go.AL.MX] (l : List Sc.Mem) (k : Int) : FCall Tryz.prog Gl 5 [Sc.LM l, vI k] [] (vB true) [] := by
 have F:=rfew4_ l
 cases hf : Cn.fewL4 l with
 | false =>
  rw [hf] at F
  refine FCall.enterL hT hmix [] Tryz.func5 rfl rfl rfl fun hbd=>?_
  (conv=>whnf)
  refine CallLeaf.wa (iawake_) rfl ?_
  (conv=>whnf)
  refine CallLeaf.wa (F) rfl ?_
  ((conv=>whnf); refine CallLeaf.wa (iawake_) rfl ?_; (conv=>whnf); exact Wk.refl _)
 | true =>
  rw [hf] at F
  have hm:=(Cn.fewL4_of hf).1.2
  have hl : ∀ m ∈ l,m.data.length ≤ 1000000000:=fun m h=>by have:=(hm m h).2; omega
  have L:=iload_ l k hl
  by_cases hk : k < 0
  ·rw [show loadI l k = false by unfold loadI; rw [if_pos hk]] at L
   refine FCall.enterL hT hmix [] Tryz.func5 rfl rfl rfl fun hbd=>?_
   (conv=>whnf)
   refine CallLeaf.wa (iawake_) rfl ?_
   (conv=>whnf)
   refine CallLeaf.wa (F) rfl ?_
   (conv=>whnf)
   refine split_intro (fun h=>absurd h (by simp; omega)) (fun _=>?_)
   (conv=>whnf)
   refine CallLeaf.wa (L) rfl ?_
   (conv=>whnf)
   exact Wk.refl _
  ·cases hx : l[k.toNat]? with
   | none =>
    have hge : l.length ≤ k.toNat:=by simpa using hx
    rw [show loadI l k = false by unfold loadI; rw [if_neg hk,hx]] at L
    refine FCall.enterL hT hmix [] Tryz.func5 rfl rfl rfl fun hbd=>?_
    (conv=>whnf)
    refine CallLeaf.wa (iawake_) rfl ?_
    (conv=>whnf)
    refine CallLeaf.wa (F) rfl ?_
    (conv=>whnf)
    refine split_intro (fun _=>?_) (fun h=>absurd h (by simp; omega))
    (conv=>whnf)
    refine split_intro (fun h=>absurd h (by simp; omega)) (fun _=>?_)
    (conv=>whnf)
    refine CallLeaf.wa (L) rfl ?_
    (conv=>whnf)
    exact Wk.refl _
   | some m =>
    have hlt : k.toNat < l.length:=(List.getElem?_eq_some_iff.1 hx).1
    rw [show loadI l k = decide ((Sc.dec m.data).2 = 0) by unfold loadI; rw [if_neg hk,hx]] at L
    have C:=O.ordecode_ m.data (hl m (List.mem_of_getElem? hx))
    rw [dec_eq] at C
    generalize Sc.dec m.data = q at C L
    obtain ⟨o,e⟩:=q
    have hg : (l.map Sc.Mem.enc)[k.toNat]? = some m.enc:=by simp [hx]
    refine FCall.enterL hT hmix [] Tryz.func5 rfl rfl rfl fun hbd=>?_
    (conv=>whnf)
    refine CallLeaf.wa (iawake_) rfl ?_
    (conv=>whnf)
    refine CallLeaf.wa (F) rfl ?_
    (conv=>whnf)
    refine split_intro (fun _=>?_) (fun h=>absurd h (by simp; omega))
    (conv=>whnf)
    refine split_intro (fun _=>?_) (fun h=>absurd h (by simp; omega))
    (conv=>whnf)
    refine ⟨_,⟨by omega,hg⟩,?_⟩
    (conv=>whnf)
    refine CallLeaf.wa (C) rfl ?_
    (conv=>whnf)
    refine CallLeaf.wa (L) rfl ?_
    (conv=>whnf)
    exact Wk.bool (by by_cases h : e = 0 <;> simp [h])
end Go.Proofs.YtimjnmbpbobfiaaGreatDoor.H

namespace Go.Proofs.YtimjnmbpbobfiaaGreatDoor
open Go Go.AL Go.AL.Hd Go.AL.Sc
open Go.ChangeShapes Go.WideShapes Go.ChangeAt Go.RowKit
set_option maxRecDepth 100000
theorem own : ownKnob Tryz.prog.godebug = none:=by kernel_rfl
theorem laidOut : laidOutB Tryz.prog = true:=by kernel_rfl
abbrev laidL : List (String × DataW Unit):=[("unicode/utf8.acceptRanges", Rows.laid_unicode_utf8_acceptRanges),("arlink/cmdline.begins", Rows.laid_arlink_cmdline_begins),("arlink/cmdline.ends", Rows.laid_arlink_cmdline_ends),("unicode/utf8.first", Rows.laid_unicode_utf8_first)]
theorem sMax : ((begin Tryz.prog (fun _ _=>0) default).world.heap[2]?).bind Obj.row? = some (#[.int .i64 0],3):=by kernel_rfl
theorem zMax : 2 < Tryz.prog.globals.size:=of_decide_eq_true (by kernel_rfl)
theorem maxLen {W : World} (h : W.ShapedOpen Tryz.prog) : ∃ m, W.cell? ⟨2, 0, none⟩ = some (.int .i64 m) :=
 cell_of_shapedOpen_int h zMax sMax rfl (by kernel_rfl) (by kernel_rfl) Tryz.underlying3
abbrev wBs : List Str:=[[45,40],[45,45,115,116,97,114,116,45,103,114,111,117,112]]
abbrev wEs : List Str:=[[45,41],[45,45,101,110,100,45,103,114,111,117,112]]
theorem gBeg : Tryz.prog.globalNamed "arlink/cmdline.begins" = some 0:=by kernel_rfl
theorem gEnd : Tryz.prog.globalNamed "arlink/cmdline.ends" = some 1:=by kernel_rfl
theorem tBeg : (Tryz.prog.globals[0]?).map (·.type) = some 23:=by kernel_rfl
theorem tEnd : (Tryz.prog.globals[1]?).map (·.type) = some 23:=by kernel_rfl
theorem strs_of {W : World} (h : laidMetH Tryz.prog laidL W) :
  (∃ cs,W.var? Tryz.prog "arlink/cmdline.begins" = some cs ∧ VRs (env0 W.heap) W.heap (sto []) [LS wBs] cs.toList) ∧ (∃ cs,W.var? Tryz.prog "arlink/cmdline.ends" = some cs ∧ VRs (env0 W.heap) W.heap (sto []) [LS wEs] cs.toList):=by
 rw [MakeChecks.laidMetH_plain _ _ _ (by kernel_rfl)] at h
 obtain ⟨ps,h1,_⟩:=h
 exact ⟨strs_mem gBeg tBeg Tryz.underlying23 Tryz.underlying9 (by kernel_rfl) (by decide) (by decide) h1 (.tail _ (.head _)),
  strs_mem gEnd tEnd Tryz.underlying23 Tryz.underlying9 (by kernel_rfl) (by decide) (by decide) h1 (.tail _ (.tail _ (.head _)))⟩
theorem globOk [MX] {W : World} (h : laidMetH Tryz.prog laidL W) (hs : W.ShapedOpen Tryz.prog) (hm : W.cell? ⟨2, 0, none⟩ = some (.int .i64 MX.val)) : GlobOk Gl W := by
 obtain ⟨hB,hE⟩:=strs_of h
 have key : ∀ g, (∀ j (hj : j < (Gl g).length), ∃ u, cellH W.heap g j = some u ∧ VR (env0 W.heap) W.heap (sto []) ((Gl g)[j]) u ∧ ((Gl g)[j]).idf = true) ∧ (Gl g = [] ∨ ∃ us e f, W.heap[g]? = some (.cells us e f) ∧ us.size = (Gl g).length) := by
  intro g
  by_cases hg0 : g = 0
  ·subst hg0
   exact glob_strs gBeg hB rfl
  by_cases hg1 : g = 1
  ·subst hg1
   exact glob_strs gEnd hE rfl
  by_cases hg2 : g = 2
  ·subst hg2
   have e : Gl 2 = [vI MX.val]:=rfl
   rw [e]
   refine ⟨fun j hj=>?_,.inr (glob_block hs zMax sMax)⟩
   have hj0 : j = 0:=by simp at hj; exact hj
   subst hj0
   rw [cell?_eq] at hm
   exact ⟨_,hm,.v _,rfl⟩
  ·have e : Gl g = [] := by
    first
     | (simp only [Gl]; done)
     | (simp only [Gl]; split; all_goals first|rfl|(exfalso; simp_all))
     | simp_all [Gl]
   rw [e]
   exact ⟨fun j hj=>by simp at hj,.inl rfl⟩
 exact ⟨fun g j hj=>(key g).1 j hj,fun g=>(key g).2⟩
theorem byte_of {n : Nat} {ds : List D} (h : Rd Tryz.prog (n + 1) 5 ds) : ∃ u : UInt8, ds = byteD u := by
 simp only [Rd,Tryz.underlying5] at h
 obtain ⟨x,hw,rfl⟩:=h
 simp [Lit.wf] at hw
 have h1 : IntKind.u8.min = 0:=rfl
 have h2 : IntKind.u8.max = 255:=rfl
 obtain ⟨m,rfl⟩:=Int.eq_ofNat_of_zero_le (show 0 ≤ x by omega)
 refine ⟨UInt8.ofNat m,?_⟩
 simp only [byteD,List.cons.injEq,and_true,D.v.injEq,Value.int.injEq,true_and]
 simp; omega
theorem list_ofP {n : Nat} {α : Type} {f : α → List D} {p : α → Prop} {e t : TypeId} {ds : List D} (hu : Tryz.prog.underlying t = some (.slice e)) (he : ∀ x, Rd Tryz.prog n e x → ∃ y, p y ∧ x = f y) (h : Rd Tryz.prog (n + 1) t ds) :
  ∃ l : List α,(∀ a ∈ l,p a) ∧ l.length * Tryz.prog.bytesOf e ≤ 140737488351232 ∧ ds = [.list .any (l.map f)] ∧ argD Tryz.prog t ds = .list .any (l.map f):=by
 simp only [Rd,hu] at h
 obtain ⟨xs,rfl,hb,hx⟩:=h
 have hc : ∀ x : { x // x ∈ xs },∃ y,p y ∧ x.1 = f y:=fun x=>he x.1 (hx x.1 x.2)
 have hm : (xs.attach.map fun x => (hc x).choose).map f = xs := by
  rw [List.map_map]
  have : (xs.attach.map (f ∘ fun x=>(hc x).choose)) = xs.attach.map (fun x=>x.1):=List.map_congr_left fun x _=>((hc x).choose_spec).2.symm
  rw [this,List.attach_map_subtype_val]
 refine ⟨xs.attach.map fun x=>(hc x).choose,fun a ha=>?_,by simpa using hb,by rw [hm],?_⟩
 ·obtain ⟨x, _, rfl⟩ := List.mem_map.1 ha
  exact ((hc x).choose_spec).1
 ·rw [hm]; simp only [argD,hu]
theorem i64_of {x : Int} (h : (Lit.int .i64 x).wf = true) : x ≤ 9223372036854775807 := by
 have m1 : IntKind.i64.min = -9223372036854775808:=rfl
 have m2 : IntKind.i64.max = 9223372036854775807:=rfl
 simp only [Lit.wf,m1,m2,Bool.and_eq_true,decide_eq_true_eq] at h
 exact h.2
theorem str_of {n : Nat} {ds : List D} (h : Rd Tryz.prog (n + 1) 9 ds) : ∃ s : Str, ds = eS s := by
 simp only [Rd,Tryz.underlying9] at h
 obtain ⟨s,hs,rfl⟩:=h
 exact ⟨s,rfl⟩
theorem arg_sD {ds : List D} (h : Rd Tryz.prog 8 9 ds) : ∃ s : Str, True ∧ argD Tryz.prog 9 ds = sD s := by
 obtain ⟨s,rfl⟩:=str_of (n:=7) h
 exact ⟨s,trivial,by simp only [argD,Tryz.underlying9]⟩
theorem arg_LS {ds : List D} (h : Rd Tryz.prog 8 23 ds) : ∃ l : List Str, True ∧ argD Tryz.prog 23 ds = LS l := by
 obtain ⟨l,e⟩:=list_of (n:=7) (f:=eS) Tryz.underlying23 (fun x hx=>str_of (n:=6) hx) h
 exact ⟨l,trivial,e⟩
theorem arg_int {ds : List D} (h : Rd Tryz.prog 8 3 ds) : ∃ x : Int, x ≤ 9223372036854775807 ∧ argD Tryz.prog 3 ds = vI x := by
 simp only [Rd,Tryz.underlying3] at h
 obtain ⟨x,hw,rfl⟩:=h
 exact ⟨x,i64_of hw,by simp only [argD,Tryz.underlying3]⟩
theorem bytes_u8 : Tryz.prog.bytesOf 5 = 1:=by kernel_rfl
theorem mem_of {n : Nat} {ds : List D} (h : Rd Tryz.prog (n + 5) 65 ds) : ∃ m : Mem, OkM m ∧ ds = m.enc := by
 rw [show n + 5 = (n + 4) + 1 from rfl,Rd,Tryz.underlying65] at h
 simp only [RdFs] at h
 obtain ⟨a,b,rfl,h1,a2,b2,rfl,h2,a3,b3,rfl,h3,a4,b4,rfl,h4,a5,b5,rfl,h5,a6,b6,rfl,h6,rfl⟩:=h
 simp only [Rd,Tryz.underlying9] at h1
 simp only [Rd,Tryz.underlying3] at h2 h3 h4 h5
 obtain ⟨s,hs,rfl⟩:=h1
 obtain ⟨x2,w2,rfl⟩:=h2
 obtain ⟨x3,w3,rfl⟩:=h3
 obtain ⟨x4,w4,rfl⟩:=h4
 obtain ⟨x5,w5,rfl⟩:=h5
 obtain ⟨d, _, hd, rfl, _⟩ := list_ofP (n := n + 3) (f := byteD) (p := fun _ => True) Tryz.underlying27 (fun x hx => by
  obtain ⟨u,e⟩:=byte_of (n:=n + 2) hx
  exact ⟨u,trivial,e⟩) h6
 rw [bytes_u8,Nat.mul_one] at hd
 exact ⟨⟨s,x2,x3,x4,x5,d⟩,⟨hs,hd,i64_of w2,i64_of w3,i64_of w4,i64_of w5⟩,rfl⟩
theorem arg_LM {ds : List D} (h : Rd Tryz.prog 8 30 ds) : ∃ l : List Mem, (∀ m ∈ l, OkM m) ∧ argD Tryz.prog 30 ds = LM l := by
 obtain ⟨l,h1,_,_,e⟩:=list_ofP (n:=7) (f:=Mem.enc) (p:=OkM) Tryz.underlying30 (fun x hx=>mem_of (n:=2) hx) h
 exact ⟨l,h1,e⟩
theorem fe_of {n : Nat} {ds : List D} (h : Rd Tryz.prog (n + 5) 69 ds) : ∃ f : In.Fe, ds = f.enc := by
 rw [show n + 5 = (n + 4) + 1 from rfl,Rd,Tryz.underlying69] at h
 simp only [RdFs] at h
 obtain ⟨a,b,rfl,h1,a2,b2,rfl,h2,rfl⟩:=h
 simp only [Rd,Tryz.underlying9] at h1
 obtain ⟨s,hs,rfl⟩:=h1
 obtain ⟨d, _, hd, rfl, _⟩ := list_ofP (n := n + 3) (f := byteD) (p := fun _ => True) Tryz.underlying27 (fun x hx => by
  obtain ⟨u,e⟩:=byte_of (n:=n + 2) hx
  exact ⟨u,trivial,e⟩) h2
 exact ⟨⟨s,d⟩,rfl⟩
theorem arg_LFe {ds : List D} (h : Rd Tryz.prog 8 22 ds) : ∃ l : List In.Fe, True ∧ argD Tryz.prog 22 ds = In.LFe l := by
 obtain ⟨l, _, _, _, e⟩ := list_ofP (n := 7) (f := In.Fe.enc) (p := fun _ => True) Tryz.underlying22 (fun x hx => by
  obtain ⟨f,e⟩:=fe_of (n:=2) hx
  exact ⟨f,trivial,e⟩) h
 exact ⟨l,trivial,e⟩
end Go.Proofs.YtimjnmbpbobfiaaGreatDoor
