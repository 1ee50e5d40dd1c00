/- Inputs: First. No condition. -/
import Derived.Test.YtimjnmbpbobfiaaGreatDoorIAc
import Derived.Test.YtimjnmbpbobfiaaGreatDoorIWg
set_option linter.unusedVariables false
set_option linter.unusedSimpArgs false
namespace Go.Proofs.YtimjnmbpbobfiaaGreatDoor.H
open Go Go.AL Go.AL.In
set_option maxRecDepth 100000
set_option maxHeartbeats 8000000
theorem first_of (fs : List Fe) (ws : List Str) : ((parseC ws).2.2 ≠ 0 → (allI fs ws).1 = [] ∧ (allI fs ws).2.2 = (parseC ws).2.2) ∧
  ((parseC ws).2.2 = 0 → ((allI fs ws).2.2 = 0 ∧ ∀ p ∈ (parseC ws).1.flatMap prs, (openI fs p.1).2 = 0) ∨
   ((allI fs ws).2.2 ≠ 0 ∧ (allI fs ws).1 = [] ∧ 0 ≤ (allI fs ws).2.1 ∧ (allI fs ws).2.1 < (ws.length : Int) ∧
    ∀ p ∈ (parseC ws).1.flatMap prs,((p.2 : Int) < (allI fs ws).2.1 → (openI fs p.1).2 = 0) ∧ ((p.2 : Int) = (allI fs ws).2.1 → (openI fs p.1).2 = (allI fs ws).2.2))):=by
 rw [allI_eq]
 refine ⟨fun h=>?_,fun h=>?_⟩
 ·rw [if_neg h]; exact ⟨rfl,rfl⟩
 ·rw [if_pos h]
  cases ho : openA fs ((parseC ws).1.flatMap prs) with
  | none=>exact .inl ⟨rfl,openA_none.1 ho⟩
  | some x =>
   obtain ⟨a,e⟩:=x
   obtain ⟨h1,p,hp,hpa⟩:=openA_some ho
   refine .inr ⟨h1,rfl,by show (0 : Int) ≤ (a : Int); omega,?_,fun q hq=>?_⟩
   ·obtain ⟨x, hx, hp⟩ := List.mem_flatMap.1 hp
    have:=((parseC_ok ws).2 x hx).2.2 p.2 (List.of_mem_zip hp).2
    show (a : Int) < _
    omega
   ·have := openA_first (parseC_ord ws) ho q hq
    exact ⟨fun hh=>this.1 (by have : (q.2 : Int) < (a : Int):=hh; omega),fun hh=>this.2 (by have : (q.2 : Int) = (a : Int):=hh; omega)⟩
theorem ifirst_ [Go.AL.MX] (fs : List Fe) (ws : List Str) : FCall Tryz.prog Gl 4 [LFe fs, LS ws] [] (vB true) [] := by
 have F:=rfew18_ fs ws
 cases hf : fewI fs ws with
 | false =>
  rw [hf] at F
  refine FCall.enterL hT hmix [] Tryz.func4 rfl rfl rfl fun hbd=>?_
  (conv=>whnf)
  refine CallLeaf.wa (iawake_) rfl ?_
  (conv=>whnf)
  refine CallLeaf.wa (F) rfl ?_
  ((conv=>whnf); refine CallLeaf.wa (iawake_) rfl ?_; (conv=>whnf); exact Wk.refl _)
 | true =>
  rw [hf] at F
  obtain ⟨hs,hw⟩:=small_few hf
  have A1:=iall_ fs ws hs (by omega)
  have P:=rparse17_ ws (by omega)
  have FO:=first_of fs ws
  have K:=parseC_ok ws
  revert A1 P FO K
  generalize allI fs ws = q
  generalize parseC ws = z
  obtain ⟨l,n,w⟩:=q
  obtain ⟨its,at0,e0⟩:=z
  intro A1 P ⟨FA,FB⟩ ⟨K1,K2⟩
  replace FA : e0 ≠ 0 → l = [] ∧ w = e0:=FA
  replace FB : e0 = 0 → (w = 0 ∧ ∀ p ∈ its.flatMap prs,(openI fs p.1).2 = 0) ∨ (w ≠ 0 ∧ l = [] ∧ 0 ≤ n ∧ n < (ws.length : Int) ∧ ∀ p ∈ its.flatMap prs,((p.2 : Int) < n → (openI fs p.1).2 = 0) ∧ ((p.2 : Int) = n → (openI fs p.1).2 = w)):=FB
  replace K1 : its.length ≤ ws.length:=K1
  replace K2 : ∀ x ∈ its,OkIt ws.length x:=K2
  by_cases h0 : e0 = 0
  ·subst h0
   clear FA
   replace FB:=FB rfl
   rcases FB with ⟨rfl,FB⟩|⟨hw0,rfl,hn0,hn1,FB⟩
   ·refine FCall.enterL hT hmix [] Tryz.func4 rfl rfl rfl fun hbd => ?_
    (conv=>whnf)
    refine CallLeaf.wa (iawake_) rfl ?_
    (conv=>whnf)
    refine CallLeaf.wa (F) rfl ?_
    (conv=>whnf)
    refine CallLeaf.wa (A1) rfl ?_
    (conv=>whnf)
    refine CallLeaf.wa (P) rfl ?_
    (conv=>whnf)
    refine LWp.loop hT hmix [] (fun i : Nat=>[(11,vI i)]) (fun _=>[]) (fun i=>i ≤ its.length) (fun i=>its.length - i) 0 (Nat.zero_le _) ?_
    (conv=>whnf)
    refine ⟨?_,fun i hi=>?_⟩
    ·exact okT
    ·replace hi : i ≤ its.length := hi
     (conv=>whnf)
     refine split_intro (fun h=>?_) (fun h=>?_)
     ·have hlt : i < its.length := by have := of_decide_eq_true h; simp only [List.length_map] at this; omega
      obtain ⟨x,hx⟩:=exI hlt
      obtain ⟨x1,x2,x3⟩:=K2 x (List.mem_of_getElem? hx)
      (conv=>whnf)
      refine LWp.loop hT hmix [] (fun k : Nat=>[(12,vI k)]) (fun _=>[]) (fun k=>k ≤ x.files.length) (fun k=>x.files.length - k) 0 (Nat.zero_le _) ?_
      (conv=>whnf)
      refine ⟨?_,fun k hk=>?_⟩
      ·exact okT
      ·replace hk : k ≤ x.files.length := hk
       (conv=>whnf)
       refine ⟨_,⟨by omega,getMap hx⟩,?_⟩
       (conv=>whnf)
       refine split_intro (fun h3=>?_) (fun h3=>?_)
       ·have hkl : k < x.files.length := by have := of_decide_eq_true h3; simp only [List.length_map] at this; omega
        obtain ⟨y,hw1⟩:=exI hkl
        obtain ⟨at',hw2⟩:=exI (show k < x.ats.length by omega)
        have hm : (y,at') ∈ its.flatMap prs:=List.mem_flatMap.2 ⟨x,List.mem_of_getElem? hx,List.mem_of_getElem? (i:=k) (by simp [prs,List.getElem?_zip_eq_some,hw1,hw2])⟩
        have he:=FB _ hm
        have O:=iopen_ fs y hs
        replace he : (openI fs y).2 = 0:=he
        generalize openI fs y = o at he O
        obtain ⟨v,e⟩:=o
        replace he : e = 0:=he
        subst he
        (conv=>whnf)
        refine ⟨_,⟨by omega,getMap hx⟩,?_⟩
        (conv=>whnf)
        refine ⟨_,⟨by omega,getMap hw1⟩,?_⟩
        (conv=>whnf)
        refine CallLeaf.wa (O) rfl ?_
        (conv=>whnf)
        refine ⟨_,⟨by omega,getMap hx⟩,?_⟩
        (conv=>whnf)
        refine ⟨_,⟨by omega,getMap hw2⟩,?_⟩
        (((conv=>whnf)); (refine ⟨_,add64 (c:=((k + 1 : Nat) : Int)) (by (try simp only []); omega) (by omega),?_⟩); ((conv=>whnf)); (refine ⟨k + 1,⟨by omega,by show x.files.length - (k + 1) < x.files.length - k; omega⟩,?_⟩); (exact okT))
       ·(conv => whnf)
        refine ⟨_,add64 (c:=((i + 1 : Nat) : Int)) (by (try simp only []); omega) (by omega),?_⟩
        (conv=>whnf)
        refine ⟨i + 1,⟨by omega,by show its.length - (i + 1) < its.length - i; omega⟩,?_⟩
        exact okT
     ·(conv => whnf)
      exact Wk.refl _
   ·refine FCall.enterL hT hmix [] Tryz.func4 rfl rfl rfl fun hbd => ?_
    (conv=>whnf)
    refine CallLeaf.wa (iawake_) rfl ?_
    (conv=>whnf)
    refine CallLeaf.wa (F) rfl ?_
    (conv=>whnf)
    refine CallLeaf.wa (A1) rfl ?_
    (conv=>whnf)
    refine CallLeaf.wa (P) rfl ?_
    (conv=>whnf)
    refine LWp.loop hT hmix [] (fun i : Nat=>[(11,vI i)]) (fun _=>[]) (fun i=>i ≤ its.length) (fun i=>its.length - i) 0 (Nat.zero_le _) ?_
    (conv=>whnf)
    refine ⟨?_,fun i hi=>?_⟩
    ·exact okT
    ·replace hi : i ≤ its.length := hi
     (conv=>whnf)
     refine split_intro (fun h=>?_) (fun h=>?_)
     ·have hlt : i < its.length := by have := of_decide_eq_true h; simp only [List.length_map] at this; omega
      obtain ⟨x,hx⟩:=exI hlt
      obtain ⟨x1,x2,x3⟩:=K2 x (List.mem_of_getElem? hx)
      (conv=>whnf)
      refine LWp.loop hT hmix [] (fun k : Nat=>[(12,vI k)]) (fun _=>[]) (fun k=>k ≤ x.files.length) (fun k=>x.files.length - k) 0 (Nat.zero_le _) ?_
      (conv=>whnf)
      refine ⟨?_,fun k hk=>?_⟩
      ·exact okT
      ·replace hk : k ≤ x.files.length := hk
       (conv=>whnf)
       refine ⟨_,⟨by omega,getMap hx⟩,?_⟩
       (conv=>whnf)
       refine split_intro (fun h3=>?_) (fun h3=>?_)
       ·have hkl : k < x.files.length := by have := of_decide_eq_true h3; simp only [List.length_map] at this; omega
        obtain ⟨y,hw1⟩:=exI hkl
        obtain ⟨at',hw2⟩:=exI (show k < x.ats.length by omega)
        have hm : (y,at') ∈ its.flatMap prs:=List.mem_flatMap.2 ⟨x,List.mem_of_getElem? hx,List.mem_of_getElem? (i:=k) (by simp [prs,List.getElem?_zip_eq_some,hw1,hw2])⟩
        have he:=FB _ hm
        have O:=iopen_ fs y hs
        replace he : ((at' : Int) < n → (openI fs y).2 = 0) ∧ ((at' : Int) = n → (openI fs y).2 = w):=he
        generalize openI fs y = o at he O
        obtain ⟨v,e⟩:=o
        obtain ⟨he1,he2⟩:=he
        replace he1 : (at' : Int) < n → e = 0:=he1
        replace he2 : (at' : Int) = n → e = w:=he2
        (conv=>whnf)
        refine ⟨_,⟨by omega,getMap hx⟩,?_⟩
        (conv=>whnf)
        refine ⟨_,⟨by omega,getMap hw1⟩,?_⟩
        (conv=>whnf)
        refine CallLeaf.wa (O) rfl ?_
        (conv=>whnf)
        refine ⟨_,⟨by omega,getMap hx⟩,?_⟩
        (conv=>whnf)
        refine ⟨_,⟨by omega,getMap hw2⟩,?_⟩
        (conv=>whnf)
        refine split_intro (fun h=>absurd h (by simpa using hw0)) (fun _=>?_)
        (conv=>whnf)
        refine split_intro (fun _=>?_) (fun h=>absurd h (by simpa using hw0))
        (conv=>whnf)
        refine split_intro (fun h4=>?_) (fun h4=>?_)
        ·have h4' : (at' : Int) < n := of_decide_eq_true h4
         have e4:=he1 h4'
         subst e4
         (conv=>whnf)
         refine split_intro (fun _=>?_) (fun h=>absurd h (by simpa using hw0))
         (conv=>whnf)
         refine split_intro (fun h=>absurd h (by simp; omega)) (fun _=>?_)
         (((conv=>whnf)); (refine ⟨_,add64 (c:=((k + 1 : Nat) : Int)) (by (try simp only []); omega) (by omega),?_⟩); ((conv=>whnf)); (refine ⟨k + 1,⟨by omega,by show x.files.length - (k + 1) < x.files.length - k; omega⟩,?_⟩); (exact okT))
        ·(conv => whnf)
         refine split_intro (fun _=>?_) (fun h=>absurd h (by simpa using hw0))
         (conv=>whnf)
         refine split_intro (fun h5=>?_) (fun h5=>?_)
         ·have h5' : (at' : Int) = n := by simpa using h5
          have e5:=he2 h5'
          subst e5
          (conv=>whnf)
          refine split_intro (fun h=>absurd h (by simp)) (fun _=>?_)
          (((conv=>whnf)); (refine ⟨_,add64 (c:=((k + 1 : Nat) : Int)) (by (try simp only []); omega) (by omega),?_⟩); ((conv=>whnf)); (refine ⟨k + 1,⟨by omega,by show x.files.length - (k + 1) < x.files.length - k; omega⟩,?_⟩); (exact okT))
         ·(((conv=>whnf)); (refine ⟨_,add64 (c:=((k + 1 : Nat) : Int)) (by (try simp only []); omega) (by omega),?_⟩); ((conv=>whnf)); (refine ⟨k + 1,⟨by omega,by show x.files.length - (k + 1) < x.files.length - k; omega⟩,?_⟩); (exact okT))
       ·(conv => whnf)
        refine ⟨_,add64 (c:=((i + 1 : Nat) : Int)) (by (try simp only []); omega) (by omega),?_⟩
        (conv=>whnf)
        refine ⟨i + 1,⟨by omega,by show its.length - (i + 1) < its.length - i; omega⟩,?_⟩
        exact okT
     ·(conv => whnf)
      refine split_intro (fun h=>absurd h (by simpa using hw0)) (fun _=>?_)
      (conv=>whnf)
      refine split_intro (fun _=>?_) (fun h=>absurd h (by simp; omega))
      (conv=>whnf)
      exact Wk.bool (by simp; omega)
  ·obtain ⟨rfl, rfl⟩ := FA h0
   refine FCall.enterL hT hmix [] Tryz.func4 rfl rfl rfl fun hbd=>?_
   (conv=>whnf)
   refine CallLeaf.wa (iawake_) rfl ?_
   (conv=>whnf)
   refine CallLeaf.wa (F) rfl ?_
   (conv=>whnf)
   refine CallLeaf.wa (A1) rfl ?_
   (conv=>whnf)
   refine CallLeaf.wa (P) rfl ?_
   (conv=>whnf)
   refine split_intro (fun _=>?_) (fun h=>absurd h (by simpa using h0))
   (conv=>whnf)
   exact Wk.bool (by simp)
end Go.Proofs.YtimjnmbpbobfiaaGreatDoor.H

namespace Go.Proofs.YtimjnmbpbobfiaaGreatDoor.H
open Go Go.AL Go.AL.In Go.AL.Sc
set_option maxRecDepth 100000
set_option maxHeartbeats 8000000
theorem body_le (b : Str) : (dec b).1.body.length ≤ b.length := by
 unfold dec
 cases hd : Ob.decO b with
 | error e=>simp
 | ok x =>
  obtain ⟨l,y⟩:=x
  have he:=congrArg List.length (Ob.enc_dec hd).2
  unfold Ob.encO at he
  simp only [List.length_append] at he
  show y.length ≤ b.length
  omega
theorem open_bdI (b : Str) : (Cn.openP b).1.members.length ≤ b.length + 60 ∧ ∀ m ∈ (Cn.openP b).1.members, m.data.length ≤ b.length := by
 obtain ⟨B1,B2,_⟩:=Ar.arc_bd b
 unfold Cn.openP
 split
 ·exact ⟨by simp,fun m hm=>by simp at hm⟩
 ·split
  ·exact ⟨by simp,fun m hm=>by simp at hm⟩
  ·exact ⟨B1,B2⟩
def OkA1 (a : Gp.Inp) : Prop:=a.obj.body.length ≤ 1000000 ∧ a.view.members.length ≤ 1000000 ∧ ∀ m ∈ a.view.members,m.data.length ≤ 1000000
theorem openI_bd {fs : List Fe} (hs : Small fs) (n : Str) : OkA1 (openI fs n).1 := by
 have n0 : OkA1 Inp0:=⟨Nat.zero_le _,Nat.zero_le _,fun m hm=>absurd hm (by simp)⟩
 rcases ixF_spec fs n with ⟨_,e2,_⟩|⟨k,f,hk,_,_,e2,_⟩
 ·rw [e2]; exact n0
 ·rw [e2]
  have:=hs.2 f (List.mem_of_getElem? hk)
  have h2:=body_le f.data
  obtain ⟨h3,h4⟩:=open_bdI f.data
  unfold openF
  split
  ·split
   ·exact ⟨Nat.zero_le _,by show (Cn.openP f.data).1.members.length ≤ _; omega,fun m hm=>by have:=h4 m hm; omega⟩
   ·exact n0
  ·split
   ·exact ⟨by show (Sc.dec f.data).1.body.length ≤ _; omega,Nat.zero_le _,fun m hm=>absurd hm (by simp)⟩
   ·exact n0
theorem all_bd {fs : List Fe} {ws : List Str} (hs : Small fs) : ∀ x ∈ (allI fs ws).1, ∀ a ∈ x.ins, OkA1 a := by
 rw [allI_eq]
 split
 ·split
  ·intro y hy a ha
   obtain ⟨x,hx,rfl⟩:=List.mem_map.1 hy
   obtain ⟨w,_,rfl⟩:=List.mem_map.1 ha
   exact openI_bd hs w
  ·exact fun x hx=>absurd hx (by simp)
 ·exact fun x hx=>absurd hx (by simp)
abbrev eW (u : UInt8) : List D:=[.sq (.int .u8)]
abbrev mW (m : Mem) : List D:=[.sq .str,.sq (.int .i64),.sq (.int .i64),.sq (.int .i64),.sq (.int .i64),.slist (m.data.map eW)]
abbrev sW (s : Str) : List D:=[.sq .str]
abbrev dW (d : List Str) : List D:=[.slist (d.map sW)]
abbrev syW (s : Ob.Sym) : List D:=[.sq .str,.sq (.int .i64),.sq (.int .i64),.sq (.int .i64)]
abbrev inW (a : Gp.Inp) : List D:=[.sq .str,vB a.arch,.slist (a.obj.syms.map syW),.slist (a.obj.body.map eW),.slist (a.view.members.map mW),.slist (a.view.defs.map dW)]
abbrev itW (x : ItI) : List D:=[vB x.group,.slist (x.ins.map inW)]
theorem al_Gl [Go.AL.MX] (g : Nat) : Al (.ro (Gl g)) := by
 refine .ro _ ?_
 simp only [Gl]
 split <;> (repeat' (first|exact Al.v _|exact Al.nil|exact Al.junk|refine Al.map _ (fun _=>?_)|refine Al.agg _ ?_|refine Al.tuple _ ?_|refine Al.cons ?_ ?_|exact Al.none'))
theorem th_b (c : Bool) (x : Str) : Th c (LBn x) (.slist (x.map eW)) :=
 Th.map _ _ (fun u=>(ThL.cons (Th.int _ _) ThL.nil : ThL _ [.v (.int .u8 (u.toNat : Int))] [.sq (.int .u8)]))
theorem th_s (c : Bool) (x : List Str) : Th c (LSn x) (.slist (x.map sW)) :=
 Th.map _ _ (fun u=>(ThL.cons (Th.str _) ThL.nil : ThL _ [sD u] [.sq .str]))
theorem th_in (a : Gp.Inp) : ThL true (iEN a) (inW a) :=
 ThL.cons (Th.str _) (ThL.cons (Th.bool _ _) (ThL.cons (Th.map _ _ (fun s => (ThL.cons (Th.str _) (ThL.cons (Th.int _ _) (ThL.cons (Th.int _ _) (ThL.cons (Th.int _ _) ThL.nil))) : ThL true s.enc (syW s)))) (ThL.cons (th_b _ _)
  (ThL.cons (Th.map _ _ (fun m => (ThL.cons (Th.str _) (ThL.cons (Th.int _ _) (ThL.cons (Th.int _ _) (ThL.cons (Th.int _ _) (ThL.cons (Th.int _ _) (ThL.cons (th_b _ _) ThL.nil))))) : ThL true (eMn m) (mW m))))
   (ThL.cons (Th.map _ _ (fun d=>(ThL.cons (th_s _ _) ThL.nil : ThL true [LSn d] (dW d)))) ThL.nil)))))
theorem th_all (l : List ItI) (n e : Int) : Th false (.tuple [.list .nat (l.map itN), vI n, vI e]) (.tuple [.slist (l.map itW), vI n, vI e]) :=
 Th.tupleL (ThL.cons (Th.map _ _ (fun x=>(ThL.cons (Th.bool _ _) (ThL.cons (Th.map _ _ th_in) ThL.nil) : ThL true (itN x) (itW x)))) (ThL.cons (Th.v _) (ThL.cons (Th.v _) ThL.nil)))
theorem iallW_ [Go.AL.MX] (fs : List Fe) (ws : List Str) (hs : Small fs) (hw : ws.length ≤ 100000) : FCall Tryz.prog Gl 12 [LFe fs, LS ws] [] (.tuple [.slist ((allI fs ws).1.map itW), vI (allI fs ws).2.1, vI (allI fs ws).2.2]) [] :=
 FCall.thaw (iall_ fs ws hs hw) (by (repeat' (first|exact Al.v _|exact Al.nil|exact Al.junk|refine Al.map _ (fun _=>?_)|refine Al.agg _ ?_|refine Al.tuple _ ?_|refine Al.cons ?_ ?_|exact Al.none'))) al_Gl (th_all _ _ _)
theorem ikeeps_ [Go.AL.MX] (fs : List Fe) (ws : List Str) : FCall Tryz.prog Gl 6 [LFe fs, LS ws] [] (vB true) [] := by
 have F:=rfew18_ fs ws
 cases hf : fewI fs ws with
 | false =>
  rw [hf] at F
  refine FCall.enterL hT hmix [] Tryz.func6 rfl rfl rfl fun hbd=>?_
  (conv=>whnf)
  refine CallLeaf.wa (iawake_) rfl ?_
  (conv=>whnf)
  refine CallLeaf.wa (F) rfl ?_
  ((conv=>whnf); refine CallLeaf.wa (iawake_) rfl ?_; (conv=>whnf); exact Wk.refl _)
 | true =>
  rw [hf] at F
  obtain ⟨hs,hw⟩:=small_few hf
  obtain ⟨hfl,hfd⟩:=hs
  have A:=iallW_ fs ws ⟨hfl,hfd⟩ (by omega)
  have B:=all_bd (fs:=fs) (ws:=ws) ⟨hfl,hfd⟩
  have OL:=okL_all (fs:=fs) (ws:=ws) ⟨hfl,hfd⟩ (by omega)
  revert A B OL
  generalize allI fs ws = q
  obtain ⟨l,n,e⟩:=q
  intro A B ⟨O1,O2⟩
  replace B : ∀ x ∈ l,∀ a ∈ x.ins,OkA1 a:=B
  replace O1 : l.length ≤ 1000000:=O1
  replace O2 : ∀ x ∈ l,x.ins.length ≤ 1000000 ∧ ∀ a ∈ x.ins,a.obj.syms.length ≤ 1000000000:=O2
  refine FCall.enterL hT hmix [] Tryz.func6 rfl rfl rfl fun hbd=>?_
  (conv=>whnf)
  refine CallLeaf.wa (iawake_) rfl ?_
  (conv=>whnf)
  refine CallLeaf.wa (F) rfl ?_
  (conv=>whnf)
  refine LWp.loop hT hmix [] (fun k : Nat=>[(6,vI k),(5,.list (.tok 403) ((fs.take k).map feN))]) (fun k=>[(403,.tok ((fs.take k).map feN).length 2)]) (fun k=>k ≤ fs.length) (fun k=>fs.length - k) 0 (Nat.zero_le _) ?_
  (conv=>whnf)
  refine ⟨?_,fun k hk=>?_⟩
  ·exact okT
  ·replace hk : k ≤ fs.length := hk
   (conv=>whnf)
   refine split_intro (fun h1=>?_) (fun h1=>?_)
   ·have hlt : k < fs.length := by have := of_decide_eq_true h1; simp only [List.length_map] at this; omega
    obtain ⟨f,hx⟩:=exI hlt
    have hfx:=hfd f (List.mem_of_getElem? hx)
    have hst : fs.take (k + 1) = fs.take k ++ [f]:=by rw [List.take_add_one,hx]; rfl
    (conv=>whnf)
    refine ⟨_,⟨Int.natCast_nonneg _,getMap (hx)⟩,?_⟩
    (conv=>whnf)
    refine ⟨_,⟨Int.natCast_nonneg _,getMap (hx)⟩,?_⟩
    (conv=>whnf)
    refine ⟨_,appL (f:=byteD) (xs:=[]) (ys:=f.data) (zs:=f.data) rfl rfl (fun _=>rfl) rfl (by show _ * 1 ≤ _; omega),?_⟩
    (conv=>whnf)
    refine ⟨_,appL (f:=feN) (xs:=fs.take k) (ys:=[f]) (zs:=fs.take (k + 1)) rfl rfl (fun _=>rfl) hst.symm (by show _ * 40 ≤ _; simp; omega),?_⟩
    (conv=>whnf)
    refine ⟨_,add64 (c:=((k + 1 : Nat) : Int)) (by (try simp only []); omega) (by omega),?_⟩
    (conv=>whnf)
    refine ⟨k + 1,⟨by omega,by show fs.length - (k + 1) < fs.length - k; omega⟩,?_⟩
    exact okT
   ·have hge : fs.length ≤ k := by have := of_decide_eq_false h1; simp only [List.length_map] at this; omega
    have e : fs.take k = fs:=List.take_of_length_le hge
    have A':=A
    rw [← e] at A'
    have hfk : ∀ (z : Nat) (f : Fe),fs[z]? = some f → (fs.take k)[z]? = some f:=fun z f h=>by rw [e]; exact h
    clear A
    (conv=>whnf)
    refine CallLeaf.w (ArgsTo.cons (ArgTo.mk' rfl (fe_wk (fs.take k) _)) (ArgsTo.cons (ArgTo.mk' rfl (Wk.refl _)) ArgsTo.nil)) A' rfl ?_
    (conv=>whnf)
    refine LWp.loop hT hmix [] (fun i : Nat=>[(10,vI i)]) (fun _=>[]) (fun i=>i ≤ l.length) (fun i=>l.length - i) 0 (Nat.zero_le _) ?_
    (conv=>whnf)
    refine ⟨?_,fun i hi=>?_⟩
    ·exact okT
    ·replace hi : i ≤ l.length := hi
     (conv=>whnf)
     refine split_intro (fun h2=>?_) (fun h2=>?_)
     ·have hlt : i < l.length := by have := of_decide_eq_true h2; simp only [List.length_map] at this; omega
      obtain ⟨x,hx⟩:=exI hlt
      have Bx:=B x (List.mem_of_getElem? hx)
      have Ox:=(O2 x (List.mem_of_getElem? hx)).1
      (conv=>whnf)
      refine LWp.loop hT hmix [] (fun j : Nat=>[(11,vI j)]) (fun _=>[]) (fun j=>j ≤ x.ins.length) (fun j=>x.ins.length - j) 0 (Nat.zero_le _) ?_
      (conv=>whnf)
      refine ⟨?_,fun j hj=>?_⟩
      ·exact okT
      ·replace hj : j ≤ x.ins.length := hj
       (conv=>whnf)
       refine ⟨_,⟨Int.natCast_nonneg _,getMap (hx)⟩,?_⟩
       (conv=>whnf)
       refine split_intro (fun h3=>?_) (fun h3=>?_)
       ·have hlt3 : j < x.ins.length := by have := of_decide_eq_true h3; simp only [List.length_map] at this; omega
        obtain ⟨a,ha⟩:=exI hlt3
        obtain ⟨a1,a2,a3⟩:=Bx a (List.mem_of_getElem? ha)
        (conv=>whnf)
        refine ⟨_,⟨Int.natCast_nonneg _,getMap (hx)⟩,?_⟩
        (conv=>whnf)
        refine ⟨_,⟨Int.natCast_nonneg _,getMap (ha)⟩,?_⟩
        (conv=>whnf)
        refine LWp.loop hT hmix [] (fun b : Nat=>[(13,vI b)]) (fun _=>[]) (fun b=>b ≤ a.obj.body.length) (fun b=>a.obj.body.length - b) 0 (Nat.zero_le _) ?_
        (conv=>whnf)
        refine ⟨?_,fun b hb=>?_⟩
        ·exact okT
        ·replace hb : b ≤ a.obj.body.length := hb
         (conv=>whnf)
         refine split_intro (fun h4=>?_) (fun h4=>?_)
         ·have hlt4 : b < a.obj.body.length := by have := of_decide_eq_true h4; simp only [List.length_map] at this; omega
          obtain ⟨y,hy⟩:=exI hlt4
          (conv=>whnf)
          refine ⟨_,⟨Int.natCast_nonneg _,getMap (hy)⟩,?_⟩
          (conv=>whnf)
          refine ⟨_,⟨Int.natCast_nonneg _,getMap (hy)⟩,?_⟩
          (conv=>whnf)
          refine ⟨_,add64 (c:=((b + 1 : Nat) : Int)) (by (try simp only []); omega) (by omega),?_⟩
          (conv=>whnf)
          refine ⟨b + 1,⟨hlt4,by show a.obj.body.length - (b + 1) < a.obj.body.length - b; omega⟩,?_⟩
          exact okT
         ·(conv => whnf)
          refine LWp.loop hT hmix [] (fun c : Nat=>[(14,vI c)]) (fun _=>[]) (fun c=>c ≤ a.view.members.length) (fun c=>a.view.members.length - c) 0 (Nat.zero_le _) ?_
          (conv=>whnf)
          refine ⟨?_,fun c hc=>?_⟩
          ·exact okT
          ·replace hc : c ≤ a.view.members.length := hc
           (conv=>whnf)
           refine split_intro (fun h5=>?_) (fun h5=>?_)
           ·have hlt5 : c < a.view.members.length := by have := of_decide_eq_true h5; simp only [List.length_map] at this; omega
            obtain ⟨m,hm⟩:=exI hlt5
            have hmd:=a3 m (List.mem_of_getElem? hm)
            (conv=>whnf)
            refine LWp.loop hT hmix [] (fun g : Nat=>[(15,vI g)]) (fun _=>[]) (fun g=>g ≤ m.data.length) (fun g=>m.data.length - g) 0 (Nat.zero_le _) ?_
            (conv=>whnf)
            refine ⟨?_,fun g hg=>?_⟩
            ·exact okT
            ·replace hg : g ≤ m.data.length := hg
             (conv=>whnf)
             refine ⟨_,⟨Int.natCast_nonneg _,getMap (hm)⟩,?_⟩
             (conv=>whnf)
             refine split_intro (fun h6=>?_) (fun h6=>?_)
             ·have hlt6 : g < m.data.length := by have := of_decide_eq_true h6; simp only [List.length_map] at this; omega
              obtain ⟨y,hy⟩:=exI hlt6
              (conv=>whnf)
              refine ⟨_,⟨Int.natCast_nonneg _,getMap (hm)⟩,?_⟩
              (conv=>whnf)
              refine ⟨_,⟨Int.natCast_nonneg _,getMap (hy)⟩,?_⟩
              (conv=>whnf)
              refine ⟨_,⟨Int.natCast_nonneg _,getMap (hy)⟩,?_⟩
              (conv=>whnf)
              refine ⟨_,add64 (c:=((g + 1 : Nat) : Int)) (by (try simp only []); omega) (by omega),?_⟩
              (conv=>whnf)
              refine ⟨g + 1,⟨hlt6,by show m.data.length - (g + 1) < m.data.length - g; omega⟩,?_⟩
              exact okT
             ·(conv => whnf)
              refine ⟨_,add64 (c:=((c + 1 : Nat) : Int)) (by (try simp only []); omega) (by omega),?_⟩
              (conv=>whnf)
              refine ⟨c + 1,⟨hlt5,by show a.view.members.length - (c + 1) < a.view.members.length - c; omega⟩,?_⟩
              exact okT
           ·(conv => whnf)
            refine ⟨_,add64 (c:=((j + 1 : Nat) : Int)) (by (try simp only []); omega) (by omega),?_⟩
            (conv=>whnf)
            refine ⟨j + 1,⟨hlt3,by show x.ins.length - (j + 1) < x.ins.length - j; omega⟩,?_⟩
            exact okT
       ·(conv => whnf)
        refine ⟨_,add64 (c:=((i + 1 : Nat) : Int)) (by (try simp only []); omega) (by omega),?_⟩
        (conv=>whnf)
        refine ⟨i + 1,⟨hlt,by show l.length - (i + 1) < l.length - i; omega⟩,?_⟩
        exact okT
     ·(conv => whnf)
      refine LWp.loop hT hmix [] (fun z : Nat=>[(16,vI z)]) (fun _=>[]) (fun z=>z ≤ fs.length) (fun z=>fs.length - z) 0 (Nat.zero_le _) ?_
      (conv=>whnf)
      refine ⟨?_,fun z hz=>?_⟩
      ·exact okT
      ·replace hz : z ≤ fs.length := hz
       (conv=>whnf)
       refine split_intro (fun h7=>?_) (fun h7=>?_)
       ·have hlt7 : z < fs.length := by have := of_decide_eq_true h7; simp only [List.length_map] at this; omega
        obtain ⟨f,hf7⟩:=exI hlt7
        have S1:=O.same_ f.data f.data
        rw [decide_eq_true rfl] at S1
        (conv=>whnf)
        refine ⟨_,⟨Int.natCast_nonneg _,getMap (hfk z f hf7)⟩,?_⟩
        (conv=>whnf)
        refine ⟨_,⟨Int.natCast_nonneg _,getMap (hf7)⟩,?_⟩
        (conv=>whnf)
        refine CallLeaf.wa (S1) rfl ?_
        (conv=>whnf)
        refine ⟨_,add64 (c:=((z + 1 : Nat) : Int)) (by (try simp only []); omega) (by omega),?_⟩
        (conv=>whnf)
        refine ⟨z + 1,⟨hlt7,by show fs.length - (z + 1) < fs.length - z; omega⟩,?_⟩
        exact okT
       ·(conv => whnf)
        exact Wk.refl _
end Go.Proofs.YtimjnmbpbobfiaaGreatDoor.H
