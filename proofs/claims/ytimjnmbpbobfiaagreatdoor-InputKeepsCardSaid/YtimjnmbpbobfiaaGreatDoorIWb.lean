/- The library: is there one of these bytes in a string? No condition. -/
import Derived.Test.YtimjnmbpbobfiaaGreatDoorIAc
import Derived.Test.YtimjnmbpbobfiaaGreatDoorIWa
import Derived.Test.YtimjnmbpbobfiaaGreatDoorIPa
import Derived.Shelf.Strings.IndexAnyAll
import Derived.Shelf.Bytes.SlIndexWhole
import Derived.Shelf.Strings.Search3
set_option linter.unusedVariables false
set_option linter.unusedSimpArgs false
namespace Go.Proofs
open Go.RowKit Go.Shelf
def YtimjnmbpbobfiaaGreatDoor.lays153_ren : Go.Shelf.Ren:=⟨fun|153=>141|152=>149|226=>150|227=>130|228=>145|137=>153|119=>154|224=>127|225=>126|217=>125|266=>143|n=>n,fun|9=>9|3=>3|4=>4|5=>5|21=>21|117=>224|116=>223|0=>0|46=>195|124=>227|n=>n,fun|n=>n⟩
theorem YtimjnmbpbobfiaaGreatDoor.lays153 : Go.Proofs.Lays.n153 Tryz.prog YtimjnmbpbobfiaaGreatDoor.lays153_ren := {
 mixed:=by kernel_rfl
 f119:=Tryz.func154.trans (congrArg some (by kernel_rfl))
 f137:=Tryz.func153.trans (congrArg some (by kernel_rfl))
 f152:=Tryz.func149.trans (congrArg some (by kernel_rfl))
 f153:=Tryz.func141.trans (congrArg some (by kernel_rfl))
 f217:=Tryz.func125.trans (congrArg some (by kernel_rfl))
 f224:=Tryz.func127.trans (congrArg some (by kernel_rfl))
 f225:=Tryz.func126.trans (congrArg some (by kernel_rfl))
 f226:=Tryz.func150.trans (congrArg some (by kernel_rfl))
 f227:=Tryz.func130.trans (congrArg some (by kernel_rfl))
 f228:=Tryz.func145.trans (congrArg some (by kernel_rfl))
 f266:=Tryz.func143.trans (congrArg some (by kernel_rfl))
 t0:=Tryz.underlying0
 a0:=Tryz.isAgg0
 z0:=Tryz.sizeOf0
 v0:=Tryz.zeroValue0
 t3:=Tryz.underlying3
 a3:=Tryz.isAgg3
 z3:=Tryz.sizeOf3
 v3:=Tryz.zeroValue3
 t4:=Tryz.underlying4
 a4:=Tryz.isAgg4
 z4:=Tryz.sizeOf4
 v4:=Tryz.zeroValue4
 t5:=Tryz.underlying5
 a5:=Tryz.isAgg5
 z5:=Tryz.sizeOf5
 v5:=Tryz.zeroValue5
 t9:=Tryz.underlying9
 a9:=Tryz.isAgg9
 z9:=Tryz.sizeOf9
 v9:=Tryz.zeroValue9
 t21:=Tryz.underlying21
 a21:=Tryz.isAgg21
 z21:=Tryz.sizeOf21
 v21:=Tryz.zeroValue21
 t46:=Tryz.underlying195
 a46:=Tryz.isAgg195
 z46:=Tryz.sizeOf195
 v46:=Tryz.zeroValue195
 t116:=Tryz.underlying223
 a116:=Tryz.isAgg223
 z116:=Tryz.sizeOf223
 t117:=Tryz.underlying224
 a117:=Tryz.isAgg224
 z117:=Tryz.sizeOf224
 v117:=Tryz.zeroValue224
 t124:=Tryz.underlying227
 a124:=Tryz.isAgg227
 z124:=Tryz.sizeOf227
 v124:=Tryz.zeroValue227 }
end Go.Proofs
namespace Go.Proofs.YtimjnmbpbobfiaaGreatDoor.H
open Go Go.AL Go.AL.Hd Go.AL.U8
set_option maxRecDepth 100000
set_option maxHeartbeats 4000000
abbrev vR (r : Int) : D:=.v (.int .i32 r)
theorem vrune_ [Go.AL.MX] (r : Int) (hv : Utf8.valid r = true) : FCall Tryz.prog Gl 154 [vR r] [] (vB true) [] := by
 refine FCall.enterL hT hmix [] Tryz.func154 rfl rfl rfl fun hbd=>?_
 simp only [Utf8.valid,Bool.or_eq_true,Bool.and_eq_true,decide_eq_true_eq] at hv
 (conv=>whnf)
 refine split_intro (fun h0=>?_) (fun h0=>?_)
 ·(conv => whnf)
  refine split_intro (fun h1=>?_) (fun h1=>?_)
  ·(conv => whnf)
   exact Wk.refl _
  ·have h1' := of_decide_eq_false h1
   (conv=>whnf)
   refine split_intro (fun h2=>?_) (fun h2=>?_)
   ·(conv => whnf)
    refine split_intro (fun h3=>?_) (fun h3=>?_)
    ·(conv => whnf)
     exact Wk.refl _
    ·exfalso; have:=of_decide_eq_false h3; omega
   ·exfalso; have:=of_decide_eq_false h2; omega
 ·exfalso; have:=of_decide_eq_false h0; omega
theorem enc_moreI {r : Int} (h : 128 ≤ r) (hv : Utf8.valid r = true) : ∃ m : List UInt8, Utf8.encode r = ⟨m.toArray⟩ ∧ 2 ≤ m.length ∧ m.length ≤ 4 ∧ ∀ x ∈ m, 128 ≤ x.toNat := by
 obtain ⟨n,rfl⟩ : ∃ n : Nat,r = n:=⟨r.toNat,by omega⟩
 exact enc_more (by omega) hv
theorem ext_drop (l : Str) (n : Nat) : (sB l).extract n (sB l).size = sB (l.drop n) := by
 apply ByteArray.ext
 apply Array.ext'
 simp only [sB,ByteArray.size,ByteArray.data_extract,Array.toList_extract,List.size_toArray,List.extract_eq_take_drop]
 exact List.take_of_length_le (by simp)
theorem irA_ [Go.AL.MX] (cs : Str) (c : UInt8) (hc : c.toNat < 128) : FCall Tryz.prog Gl 149 [sD cs, vR c.toNat] [] (vI (Lib.indexByte cs c)) [] := by
 refine FCall.enterL hT hmix [] Tryz.func149 rfl rfl rfl fun hbd=>?_
 (conv=>whnf)
 refine split_intro (fun h1=>?_) (fun h1=>?_)
 ·(conv => whnf)
  refine ⟨_,wrapU8' (u:=c) (by simp),?_⟩
  (conv=>whnf)
  refine CallLeaf.wa (ibyte_ cs c) rfl ?_
  (conv=>whnf)
  exact Wk.refl _
 ·exfalso; have:=of_decide_eq_false h1; omega
theorem irB_ [Go.AL.MX] (cs : Str) (h2 : 2 ≤ cs.length) (h3 : cs.length ≤ 3) (has : ∀ x ∈ cs, x.toNat < 128) (r : Int) (hr : 128 ≤ r) (hv : Utf8.valid r = true) : FCall Tryz.prog Gl 149 [sD cs, vR r] [] (vI (-1)) [] := by
 have hs:=sB_sz cs
 have VR:=vrune_ r hv
 refine FCall.enterL hT hmix [] Tryz.func149 rfl rfl rfl fun hbd=>?_
 (conv=>whnf)
 refine split_intro (fun h0=>?_) (fun h0=>?_)
 ·(conv => whnf)
  refine split_intro (fun h1=>?_) (fun h1=>?_)
  ·exfalso; have:=of_decide_eq_true h1; omega
  ·(conv => whnf)
   refine split_intro (fun q=>?_) (fun q=>?_)
   ·(conv => whnf)
    refine LWp.loop hT hmix [] (fun _ : Nat=>[]) (fun k=>[(18952,.bag (Bag.siter (sB cs) k))]) (fun k=>k ≤ cs.length) (fun k=>cs.length - k) 0 (Nat.zero_le _) ?_
    (conv=>whnf)
    refine ⟨?_,fun k hk=>?_⟩
    ·exact okT
    ·by_cases hlt : k < cs.length
     ·obtain ⟨x, hx⟩ : ∃ x, cs[k]? = some x := ⟨_, List.getElem?_eq_getElem hlt⟩
      have hx8:=has x (List.mem_of_getElem? hx)
      have ed : Utf8.decode (sB cs) k = (x.toNat,1):=dec_ascii hx hx8
      (conv=>whnf)
      refine ⟨sB cs,k,rfl,.inl ⟨by rw [hs]; exact hlt,?_⟩⟩
      (conv=>whnf)
      refine split_intro (fun q2=>?_) (fun q2=>?_)
      ·exfalso; rw [ed] at q2; have:=eq_of_beq q2; simp only [] at this; omega
      ·(conv => whnf)
       refine ⟨k + 1,⟨by omega,by simp only []; omega⟩,?_⟩
       (repeat' (first|exact trivial|exact Wk.refl _|exact ObWk.refl _|exact rfl|exact ⟨_,rfl⟩|exact Nat.zero_lt_one|refine And.intro ?_ ?_|unfold okTo|(unfold okO; conv=>whnf)|(unfold okS; conv=>whnf)|(unfold SlotOk; conv=>whnf)|(unfold ObjOk; conv=>whnf)|(unfold okCells; conv=>whnf)|(unfold liveTo; conv=>whnf)|exact Nat.zero_lt_succ _))
       exact ObWk.of_eq (by rw [ed])
     ·(conv => whnf)
      refine ⟨sB cs,k,rfl,.inr ⟨by rw [hs]; exact hlt,?_⟩⟩
      (conv=>whnf)
      exact Wk.refl _
   ·obtain ⟨m, em, m2, m4, mh⟩ := enc_moreI hr hv
    have hms:=sB_sz m
    (conv=>whnf)
    refine CallLeaf.wa (VR) rfl ?_
    (conv=>whnf)
    refine LWp.scope hT hmix [] ?_
    (conv=>whnf)
    refine ⟨sB m,em,?_⟩
    (conv=>whnf)
    refine ⟨_,sub64 (c:=((m.length - 1 : Nat) : Int)) (by rw [hms]; omega) (by omega),?_⟩
    (conv=>whnf)
    refine LWp.loop hT hmix [] (fun _ : Unit=>[(9,vI (m.length - 1 : Nat))]) (fun _=>[]) (fun _=>True) (fun _=>0) () trivial ?_
    (conv=>whnf)
    refine ⟨?_,fun _ _=>?_⟩
    ·exact okT
    ·(conv => whnf)
     refine split_intro (fun g=>?_) (fun g=>?_)
     ·have hlt : m.length - 1 < cs.length := by have := of_decide_eq_true g; rw [hs] at this; omega
      obtain ⟨x,hx⟩ : ∃ x,cs[m.length - 1]? = some x:=⟨_,List.getElem?_eq_getElem hlt⟩
      obtain ⟨y,hy⟩ : ∃ y,m[m.length - 1]? = some y:=⟨_,List.getElem?_eq_getElem (by omega)⟩
      have hx8:=has x (List.mem_of_getElem? hx)
      have hy8:=mh y (List.mem_of_getElem? hy)
      (conv=>whnf)
      refine LWp.scope hT hmix [] ?_
      (conv=>whnf)
      refine ⟨x,⟨by omega,by rw [Int.toNat_natCast]; exact hx⟩,?_⟩
      (conv=>whnf)
      refine ⟨y,⟨by omega,by rw [Int.toNat_natCast]; exact hy⟩,?_⟩
      (conv=>whnf)
      refine split_intro (fun g2=>?_) (fun g2=>?_)
      ·(conv => whnf)
       refine ⟨_,add64 (c:=((m.length : Nat) : Int)) (by omega) (by omega),?_⟩
       (conv=>whnf)
       refine ⟨sB (cs.drop m.length),⟨by omega,by rw [hs]; omega,Int.le_refl _,by rw [Int.toNat_natCast,Int.toNat_natCast]; exact ext_drop cs m.length⟩,?_⟩
       (conv=>whnf)
       refine ⟨y,⟨by omega,by rw [Int.toNat_natCast]; exact hy⟩,?_⟩
       (conv=>whnf)
       have IB:=ibyte_ (cs.drop m.length) y
       rw [ibyte_none (l:=cs.drop m.length) (c:=y) (fun z hz e=>by have:=has z (List.mem_of_mem_drop hz); rw [e] at this; omega)] at IB
       refine CallLeaf.wa (IB) rfl ?_
       (conv=>whnf)
       exact Wk.refl _
      ·exfalso
       have : x = y:=O.u8_eq g2
       rw [this] at hx8; omega
     ·(conv => whnf)
      exact Wk.refl _
 ·exfalso; have:=of_decide_eq_false h0; omega
theorem should_ [Go.AL.MX] (n : Int) : FCall Tryz.prog Gl 150 [vI n] [] (vB (decide (8 < n))) [] := by
 refine FCall.enterL hT hmix [] Tryz.func150 rfl rfl rfl fun hbd=>?_
 (conv=>whnf)
 exact Wk.refl _
theorem not_in {cs : Str} (has : ∀ x ∈ cs, x.toNat < 128) {x : UInt8} (h : 128 ≤ x.toNat) : cs.contains x = false := by
 cases hq : cs.contains x with
 | false=>rfl
 | true=>have:=has x (by simpa using hq); omega
theorem ianyS_ [Go.AL.MX] (s cs : Str) (h8 : s.length ≤ 8) (h2 : 2 ≤ cs.length) (h3 : cs.length ≤ 3) (has : ∀ x ∈ cs, x.toNat < 128) : FCall Tryz.prog Gl 141 [sD s, sD cs] [] (vI (Lib.indexAny s cs)) [] := by
 have hs:=sB_sz s
 have hc:=sB_sz cs
 refine FCall.enterL hT hmix [] Tryz.func141 rfl rfl rfl fun hbd=>?_
 (conv=>whnf)
 refine split_intro (fun q0=>?_) (fun q0=>?_)
 ·exfalso
  have : cs = [] := by
   exact of_decide_eq_true q0
  subst this; simp at h2
 ·(conv => whnf)
  refine split_intro (fun q1=>?_) (fun q1=>?_)
  ·exfalso; have:=eq_of_beq q1; omega
  ·(conv => whnf)
   refine CallLeaf.wa (should_ ((sB s).size : Int)) rfl ?_
   (conv=>whnf)
   refine split_intro (fun q2=>?_) (fun q2=>?_)
   ·exfalso; have:=of_decide_eq_true q2; omega
   ·(conv => whnf)
    refine LWp.loop hT hmix [] (fun _ : Nat=>[]) (fun k=>[(8712,.bag (Bag.siter (sB s) k))]) (fun k=>k ≤ s.length ∧ Lib.NoAny s cs k) (fun k=>s.length - k) 0 ⟨Nat.zero_le _,fun j b hj=>absurd hj (by omega)⟩ ?_
    (conv=>whnf)
    refine ⟨?_,fun k ⟨hk,hn⟩=>?_⟩
    ·exact okT
    ·by_cases hlt : k < s.length
     ·obtain ⟨x, hx⟩ : ∃ x, s[k]? = some x := ⟨_, List.getElem?_eq_getElem hlt⟩
      by_cases hx8 : x.toNat < 128
      ·have ed : Utf8.decode (sB s) k = (x.toNat, 1) := dec_ascii hx hx8
       have IR:=irA_ cs x hx8
       by_cases hin : x ∈ cs
       ·have hi := ibyte_some hin
        rw [Lib.indexAny_hit hn hx (by simpa using hin)]
        revert IR hi
        generalize Lib.indexByte cs x = v
        intro IR hi
        (conv=>whnf)
        refine ⟨sB s,k,rfl,.inl ⟨by rw [hs]; exact hlt,?_⟩⟩
        (conv=>whnf)
        rw [show ((Utf8.decode (sB s) k).1 : Int) = ((x.toNat : Nat) : Int) by rw [ed]]
        refine CallLeaf.wa (IR) rfl ?_
        (conv=>whnf)
        refine split_intro (fun q3=>?_) (fun q3=>?_)
        ·(conv => whnf)
         exact Wk.refl _
        ·exfalso; have:=of_decide_eq_false q3; omega
       ·rw [ibyte_none (l := cs) (c := x) (fun z hz e => hin (e ▸ hz))] at IR
        (conv=>whnf)
        refine ⟨sB s,k,rfl,.inl ⟨by rw [hs]; exact hlt,?_⟩⟩
        (conv=>whnf)
        rw [show ((Utf8.decode (sB s) k).1 : Int) = ((x.toNat : Nat) : Int) by rw [ed]]
        refine CallLeaf.wa (IR) rfl ?_
        (conv=>whnf)
        refine ⟨k + 1,⟨⟨by omega,fun j b hj hb=>?_⟩,by simp only []; omega⟩,?_⟩
        ·rcases Nat.lt_or_ge j k with h | h
         ·exact hn j b h hb
         ·obtain rfl : j = k := by omega
          rw [hx] at hb; injection hb with hb; subst hb
          simpa using hin
        ·(repeat' (first | exact trivial | exact Wk.refl _ | exact ObWk.refl _ | exact rfl | exact ⟨_, rfl⟩ | exact Nat.zero_lt_one | refine And.intro ?_ ?_ | unfold okTo | (unfold okO; conv => whnf) | (unfold okS; conv => whnf) | (unfold SlotOk; conv => whnf) | (unfold ObjOk; conv => whnf) | (unfold okCells; conv => whnf) | (unfold liveTo; conv => whnf) | exact Nat.zero_lt_succ _))
         exact ObWk.of_eq (by rw [ed])
      ·obtain ⟨d1, d2, d3, d4⟩ := dec_more hx (by omega)
       have d5:=d4 ((Utf8.decode (sB s) k).2 - 1) (by show (Utf8.decode (sB s) k).2 - 1 < (Utf8.decode (sB s) k).2; have : 1 ≤ (Utf8.decode (sB s) k).2:=d3; omega)
       have d3' : 1 ≤ (Utf8.decode (sB s) k).2:=d3
       have IR:=irB_ cs h2 h3 has ((Utf8.decode (sB s) k).1 : Nat) (by have : 128 ≤ (Utf8.decode (sB s) k).1:=d1; omega) d2
       (conv=>whnf)
       refine ⟨sB s,k,rfl,.inl ⟨by rw [hs]; exact hlt,?_⟩⟩
       (conv=>whnf)
       refine CallLeaf.wa (IR) rfl ?_
       (conv=>whnf)
       refine ⟨k + (Utf8.decode (sB s) k).2,⟨⟨by have:=d5.1; omega,fun j b hj hb=>?_⟩,by simp only []; omega⟩,?_⟩
       ·rcases Nat.lt_or_ge j k with h | h
        ·exact hn j b h hb
        ·obtain ⟨i, rfl⟩ : ∃ i, j = k + i := ⟨j - k, by omega⟩
         have:=(d4 i (by show i < (Utf8.decode (sB s) k).2; omega)).2
         rw [List.getD_eq_getElem?_getD,hb] at this
         exact not_in has (by simpa using this)
       ·exact okT
     ·obtain rfl : k = s.length := by omega
      rw [Lib.indexAny_none hn]
      (conv=>whnf)
      refine ⟨sB s,s.length,rfl,.inr ⟨by rw [hs]; exact hlt,?_⟩⟩
      (conv=>whnf)
      exact Wk.refl _
theorem isIndexAny : IsFn Tryz.prog 141:=⟨_,Tryz.func141,by kernel_rfl,by kernel_rfl⟩
theorem ianyL_ [Go.AL.MX] (s cs : Str) (h8 : 8 < s.length) (hl : s.length < 4294967281) (h2 : 2 ≤ cs.length) (h3 : cs.length ≤ 3) (has : ∀ x ∈ cs, x.toNat < 128) : FCall Tryz.prog Gl 141 [sD s, sD cs] [] (vI (Lib.indexAny s cs)) [] :=
 FCall.val (xs := [.string (sB s), .string (sB cs)]) isIndexAny fun w =>
  (Any.strings_IndexAny_long YtimjnmbpbobfiaaGreatDoor.lays153 Tryz.zeroValue223 (by kernel_rfl) (sB s) (sB cs) w (by rw [sB_sz]; exact h2) (by rw [sB_sz]; exact h8) (by rw [sB_sz]; exact hl) (by rw [sB_sz]; omega)
   (fun j b hb => has b (List.mem_of_getElem? (l := cs) hb))).mono fun e w' ⟨he, hw⟩ => ⟨he, by
    subst hw
    exact (((RowKit.Below.refl _ w).alloc (Nat.le_refl _) _).alloc (by simp) _)⟩
theorem iany_ [Go.AL.MX] (s cs : Str) (hl : s.length < 4294967281) (h2 : 2 ≤ cs.length) (h3 : cs.length ≤ 3) (has : ∀ x ∈ cs, x.toNat < 128) : FCall Tryz.prog Gl 141 [sD s, sD cs] [] (vI (Lib.indexAny s cs)) [] := by
 rcases Nat.lt_or_ge 8 s.length with h|h
 ·exact ianyL_ s cs h hl h2 h3 has
 ·exact ianyS_ s cs h h2 h3 has
theorem cany_ [Go.AL.MX] (s cs : Str) (hl : s.length < 4294967281) (h2 : 2 ≤ cs.length) (h3 : cs.length ≤ 3) (has : ∀ x ∈ cs, x.toNat < 128) : FCall Tryz.prog Gl 120 [sD s, sD cs] [] (vB (Lib.containsAny s cs)) [] := by
 have I:=iany_ s cs hl h2 h3 has
 refine FCall.enterL hT hmix [] Tryz.func120 rfl rfl rfl fun hbd=>?_
 (conv=>whnf)
 refine CallLeaf.wa (I) rfl ?_
 (conv=>whnf)
 exact Wk.refl _
theorem cany_any (s cs : Str) : Lib.containsAny s cs = s.any fun x => cs.contains x := by
 induction s with
 | nil=>rfl
 | cons b l ih =>
  unfold Lib.containsAny at ih ⊢
  have hg:=Lib.indexAny_ge cs l
  rw [List.any_cons,← ih,Lib.indexAny]
  by_cases h : cs.contains b = true
  ·simp only [h,if_true]; rfl
  ·simp only [h, if_false, Bool.false_or]
   by_cases h1 : Lib.indexAny l cs = -1
   ·simp [h1]
   ·have h2 : ¬ (Lib.indexAny l cs == -1) = true := by simpa using h1
    rw [if_neg h2]
    apply decide_eq_decide.2
    constructor <;> intro <;> omega
theorem cany2_ [Go.AL.MX] (s : Str) (hl : s.length < 4294967281) : FCall Tryz.prog Gl 120 [sD s, sD [10, 0]] [] (vB (s.any bad2)) [] := by
 have:=cany_ s [10,0] hl (by decide) (by decide) (by decide)
 rw [cany_any] at this
 rwa [show (fun x=>([10,0] : Str).contains x) = bad2 from funext fun x=>by rw [Bool.eq_iff_iff,List.contains_iff_mem]; simp only [List.mem_cons,List.not_mem_nil,or_false,bad2,Bool.or_eq_true,decide_eq_true_eq]] at this
theorem cany3_ [Go.AL.MX] (s : Str) (hl : s.length < 4294967281) : FCall Tryz.prog Gl 120 [sD s, sD [47, 10, 0]] [] (vB (s.any bad3)) [] := by
 have:=cany_ s [47,10,0] hl (by decide) (by decide) (by decide)
 rw [cany_any] at this
 rwa [show (fun x=>([47,10,0] : Str).contains x) = bad3 from funext fun x=>by rw [Bool.eq_iff_iff,List.contains_iff_mem]; simp only [List.mem_cons,List.not_mem_nil,or_false,bad3,Bool.or_eq_true,decide_eq_true_eq]] at this
end Go.Proofs.YtimjnmbpbobfiaaGreatDoor.H

namespace Go.Proofs
open Go.RowKit Go.Shelf
def YtimjnmbpbobfiaaGreatDoor.lays185_ren : Go.Shelf.Ren:=⟨fun|185=>119|187=>109|115=>138|253=>139|224=>127|254=>140|255=>124|291=>148|n=>n,fun|37=>27|3=>3|4=>4|0=>0|5=>5|46=>195|9=>9|146=>230|51=>229|n=>n,fun|1=>2|n=>n⟩
theorem YtimjnmbpbobfiaaGreatDoor.lays185 : Go.Proofs.Lays.n185 Tryz.prog YtimjnmbpbobfiaaGreatDoor.lays185_ren := {
 mixed:=by kernel_rfl
 f115:=Tryz.func138.trans (congrArg some (by kernel_rfl))
 f185:=Tryz.func119.trans (congrArg some (by kernel_rfl))
 f187:=Tryz.func109.trans (congrArg some (by kernel_rfl))
 f224:=Tryz.func127.trans (congrArg some (by kernel_rfl))
 f253:=Tryz.func139.trans (congrArg some (by kernel_rfl))
 f254:=Tryz.func140.trans (congrArg some (by kernel_rfl))
 f255:=Tryz.func124.trans (congrArg some (by kernel_rfl))
 f291:=Tryz.func148.trans (congrArg some (by kernel_rfl))
 t0:=Tryz.underlying0
 a0:=Tryz.isAgg0
 z0:=Tryz.sizeOf0
 v0:=Tryz.zeroValue0
 t3:=Tryz.underlying3
 a3:=Tryz.isAgg3
 z3:=Tryz.sizeOf3
 v3:=Tryz.zeroValue3
 t4:=Tryz.underlying4
 a4:=Tryz.isAgg4
 z4:=Tryz.sizeOf4
 v4:=Tryz.zeroValue4
 t5:=Tryz.underlying5
 a5:=Tryz.isAgg5
 z5:=Tryz.sizeOf5
 v5:=Tryz.zeroValue5
 t9:=Tryz.underlying9
 a9:=Tryz.isAgg9
 z9:=Tryz.sizeOf9
 v9:=Tryz.zeroValue9
 t37:=Tryz.underlying27
 a37:=Tryz.isAgg27
 z37:=Tryz.sizeOf27
 v37:=Tryz.zeroValue27
 t46:=Tryz.underlying195
 a46:=Tryz.isAgg195
 z46:=Tryz.sizeOf195
 v46:=Tryz.zeroValue195
 t51:=Tryz.underlying229
 a51:=Tryz.isAgg229
 z51:=Tryz.sizeOf229
 v51:=Tryz.zeroValue229
 t146:=Tryz.underlying230
 a146:=Tryz.isAgg230
 z146:=Tryz.sizeOf230
 v146:=Tryz.zeroValue230
 g1:=by kernel_rfl }
def YtimjnmbpbobfiaaGreatDoor.lays144_ren : Go.Shelf.Ren:=⟨fun|144=>84|143=>98|219=>111|217=>125|225=>126|224=>127|267=>128|266=>143|314=>144|n=>n,fun|9=>9|4=>4|3=>3|5=>5|46=>195|146=>230|51=>229|n=>n,fun|1=>2|n=>n⟩
theorem YtimjnmbpbobfiaaGreatDoor.lays144 : Go.Proofs.Lays.n144 Tryz.prog YtimjnmbpbobfiaaGreatDoor.lays144_ren := {
 mixed:=by kernel_rfl
 f143:=Tryz.func98.trans (congrArg some (by kernel_rfl))
 f144:=Tryz.func84.trans (congrArg some (by kernel_rfl))
 f217:=Tryz.func125.trans (congrArg some (by kernel_rfl))
 f219:=Tryz.func111.trans (congrArg some (by kernel_rfl))
 f224:=Tryz.func127.trans (congrArg some (by kernel_rfl))
 f225:=Tryz.func126.trans (congrArg some (by kernel_rfl))
 f266:=Tryz.func143.trans (congrArg some (by kernel_rfl))
 f267:=Tryz.func128.trans (congrArg some (by kernel_rfl))
 f314:=Tryz.func144.trans (congrArg some (by kernel_rfl))
 t3:=Tryz.underlying3
 a3:=Tryz.isAgg3
 z3:=Tryz.sizeOf3
 v3:=Tryz.zeroValue3
 t4:=Tryz.underlying4
 a4:=Tryz.isAgg4
 z4:=Tryz.sizeOf4
 v4:=Tryz.zeroValue4
 t5:=Tryz.underlying5
 a5:=Tryz.isAgg5
 z5:=Tryz.sizeOf5
 v5:=Tryz.zeroValue5
 t9:=Tryz.underlying9
 a9:=Tryz.isAgg9
 z9:=Tryz.sizeOf9
 v9:=Tryz.zeroValue9
 t46:=Tryz.underlying195
 a46:=Tryz.isAgg195
 z46:=Tryz.sizeOf195
 v46:=Tryz.zeroValue195
 t51:=Tryz.underlying229
 a51:=Tryz.isAgg229
 z51:=Tryz.sizeOf229
 v51:=Tryz.zeroValue229
 t146:=Tryz.underlying230
 a146:=Tryz.isAgg230
 z146:=Tryz.sizeOf230
 v146:=Tryz.zeroValue230
 g1:=by kernel_rfl }
end Go.Proofs
namespace Go.Proofs.YtimjnmbpbobfiaaGreatDoor.H
open Go Go.AL Go.AL.Hd Go.AL.Ln Go.AL.U8
set_option maxRecDepth 100000
theorem isBIndex : IsFn Tryz.prog 119:=⟨_,Tryz.func119,by kernel_rfl,by kernel_rfl⟩
theorem isContains : IsFn Tryz.prog 84:=⟨_,Tryz.func84,by kernel_rfl,by kernel_rfl⟩
theorem bytes_toBytes (l : Str) : Lib.bytesOf (l.map fun x => (x.toNat : Int)) = l := by
 unfold Lib.bytesOf
 rw [List.map_map]
 conv=>rhs; rw [← List.map_id l]
 refine List.map_congr_left fun x _=>?_
 simp
theorem bindex_ [Go.AL.MX] (l : Str) (t1 t2 : Tg) (hl : l.length < 4294967281) : FCall Tryz.prog Gl 119 [.list t1 (l.map byteD), .list t2 (([47, 10] : Str).map byteD)] [] (vI (cutI l)) [] := by
 rw [← index_cutI]
 refine FCall.below isBIndex fun E w vs C hv=>?_
 obtain ⟨v1,r,rfl,h1,g2⟩:=VRs_cons_inv hv
 obtain ⟨v2,r,rfl,h2,h3⟩:=VRs_cons_inv g2
 obtain rfl:=VRs_nil.1 h3
 obtain ⟨A1,c1,rfl,hc1,hb1,hn1,hz1,hx1⟩:=h1.bytes
 obtain ⟨A2,c2,rfl,hc2,hb2,hn2,hz2,hx2⟩:=h2.bytes
 have hm:=(C.glob 2).cell (x:=.int .i64 MX.val) (r:=[]) rfl
 obtain ⟨a2, rfl⟩ : ∃ a, A2 = some a := by
  cases A2 with
  | none=>simp at hn2
  | some a=>exact ⟨a,rfl⟩
 have hr : ∀ (l : Str), ∀ x ∈ l.map (fun x => (x.toNat : Int)), 0 ≤ x ∧ x < 256 := fun l x hx => by
  obtain ⟨y,_,rfl⟩:=List.mem_map.1 hx
  have:=y.toNat_lt
  omega
 cases A1 with
 | some a1 =>
  refine (Any.bytes_Index_at YtimjnmbpbobfiaaGreatDoor.lays185 a1 a2 l.length c1 2 c2 (l.map fun x=>(x.toNat : Int)) (([47,10] : Str).map fun x=>(x.toNat : Int)) MX.val w (by simp) (by simp) (hr l) (hr _) (fun i hi=>hx1 a1 rfl i hi) (fun i hi=>hx2 a2 rfl i (by simpa using hi)) hc1 hl (by omega) hm).mono fun e w' ⟨he,q,hw⟩=>⟨_,he,fun E'=>?_,hw ▸ below_drewN w q⟩
  rw [bytes_toBytes,bytes_toBytes]
  exact .v _
 | none =>
  obtain rfl:=hn1 rfl
  obtain rfl : c1 = 0:=hz1 rfl
  refine (Any.bytes_Index_nil YtimjnmbpbobfiaaGreatDoor.lays185 (some a2) 2 c2 w (by omega) (fun h=>by omega)).mono fun e w' ⟨he,hw⟩=>⟨_,he,fun E'=>?_,hw ▸ RowKit.Below.refl _ _⟩
  exact .v _
theorem contains_ [Go.AL.MX] (s : Str) (hs : s.length < 4294967281) : FCall Tryz.prog Gl 84 [sD s, sD [32]] [] (vB (s.contains 32)) [] :=
 FCall.val (xs := [.string (sB s), .string (sB [32])]) isContains fun w => (Any.strings_Contains_one YtimjnmbpbobfiaaGreatDoor.lays144 (sB s) 32 w).mono fun e w' ⟨he, hw⟩ => ⟨by
  rw [he]
  congr 2
  show decide (0 ≤ Lib.indexByte s 32) = s.contains 32
  cases h : s.contains 32 with
  | true=>exact decide_eq_true (ibyte_some (by simpa using h))
  | false=>exact decide_eq_false (by rw [ibyte_none (fun x hx e=>by subst e; rw [List.contains_iff_mem.2 hx] at h; simp at h)]; omega),hw ▸ RowKit.Below.refl _ _⟩
end Go.Proofs.YtimjnmbpbobfiaaGreatDoor.H

namespace Go.Proofs.YtimjnmbpbobfiaaGreatDoor.H
open Go Go.AL Go.AL.Hd
set_option maxRecDepth 100000
set_option maxHeartbeats 8000000
theorem rhdecode_ [Go.AL.MX] (l : List UInt8) : FCall Tryz.prog Gl 67 [LB l] [] (.tuple [.agg (decR l).1.enc, vI (decR l).2]) [] := by
 refine FCall.enterL hT hmix [6] Tryz.func67 rfl rfl rfl fun hbd=>?_
 have ha:=bds_list hbd (.head _)
 (conv=>whnf)
 refine split_intro (fun g1=>?_) (fun g1=>?_)
 ·have e : decR l = (hdr0, 2) := by have := of_decide_eq_true g1; simp only [List.length_map] at this; unfold decR; rw [if_pos (by omega)]
  rw [e]
  (conv=>whnf)
  refine Wk.tuple (Wks.cons (Wk.refl _) (Wks.cons (Wk.refl _) Wks.nil))
 ·have g1' := of_decide_eq_false g1
  simp only [List.length_map] at g1'
  obtain ⟨x,hx⟩ : ∃ x,l[58]? = some x:=⟨_,List.getElem?_eq_getElem (show 58 < l.length by omega)⟩
  obtain ⟨y,hy⟩ : ∃ y,l[59]? = some y:=⟨_,List.getElem?_eq_getElem (show 59 < l.length by omega)⟩
  (conv=>whnf)
  refine ⟨_,⟨by omega,getMap hx⟩,?_⟩
  (conv=>whnf)
  refine split_intro (fun g2=>?_) (fun g2=>?_)
  ·have hx2 : x ≠ 96 := by intro e; subst e; simp at g2
   have e : decR l = (hdr0,4):=by unfold decR; rw [if_neg (by omega),if_neg (by rw [hx]; simp [hx2])]
   rw [e]
   (conv=>whnf)
   refine Wk.tuple (Wks.cons (Wk.refl _) (Wks.cons (Wk.refl _) Wks.nil))
  ·obtain rfl : x = 96 := O.u8_eq (y := 96) g2
   (conv=>whnf)
   refine ⟨_,⟨by omega,getMap hy⟩,?_⟩
   (conv=>whnf)
   refine split_intro (fun g3=>?_) (fun g3=>?_)
   ·have hx2 : y ≠ 10 := by intro e; subst e; simp at g3
    have e : decR l = (hdr0,4):=by unfold decR; rw [if_neg (by omega),if_neg (by rw [hy]; simp [hx2])]
    rw [e]
    (conv=>whnf)
    refine Wk.tuple (Wks.cons (Wk.refl _) (Wks.cons (Wk.refl _) Wks.nil))
   ·obtain rfl : y = 10 := O.u8_eq (y := 10) g3
    (conv=>whnf)
    refine LWp.cut hT hmix [] [] (fun n : Nat=>[(4,vI n)]) (fun _=>[]) [] (fun n=>n ≤ 16 ∧ trimR (l.take 16) = l.take n) ?_
    (conv=>whnf)
    refine ⟨?_,fun n ⟨hn,ht⟩=>?_⟩
    ·refine LWp.loop hT hmix [] (fun n : Nat => [(4, vI n)]) (fun _ => []) (fun n => n ≤ 16 ∧ ((l.take 16).drop n).all (· == 32) = true) (fun n => n) 16 ⟨Nat.le_refl _, by rw [List.drop_of_length_le (by rw [List.length_take]; omega)]; rfl⟩ ?_
     (conv=>whnf)
     refine ⟨?_,fun n ⟨hn,hd⟩=>?_⟩
     ·exact okT
     ·(conv => whnf)
      refine split_intro (fun h1=>?_) (fun h1=>?_)
      ·have hpos : 0 < n := by have := of_decide_eq_true h1; omega
       obtain ⟨z,hz⟩ : ∃ z,l[n - 1]? = some z:=⟨_,List.getElem?_eq_getElem (show n - 1 < l.length by omega)⟩
       (conv=>whnf)
       refine ⟨_,sub64 (c:=((n - 1 : Nat) : Int)) (by omega) (by omega),?_⟩
       (conv=>whnf)
       refine ⟨_,⟨by omega,getMap hz⟩,?_⟩
       (conv=>whnf)
       refine split_intro (fun h2=>?_) (fun h2=>?_)
       ·obtain rfl : z = 32 := byte_eq (c := 32) h2
        (conv=>whnf)
        refine ⟨_,sub64 (c:=((n - 1 : Nat) : Int)) (by omega) (by omega),?_⟩
        (conv=>whnf)
        refine ⟨n - 1,⟨⟨by omega,?_⟩,by simp only []; omega⟩,?_⟩
        ·have hz' : (l.take 16)[n - 1]? = some 32 := by rw [List.getElem?_take, if_pos (by omega)]; exact hz
         obtain ⟨hq1,hq2⟩:=List.getElem?_eq_some_iff.1 hz'
         rw [List.drop_eq_getElem_cons hq1,hq2,show n - 1 + 1 = n by omega,List.all_cons,hd]; rfl
        ·exact okT
       ·have hz2 : ¬ z = 32 := byte_ne (c := 32) h2
        (conv=>whnf)
        refine ⟨n,⟨hn,?_⟩,?_⟩
        ·rw [trimR_at (n:=n) (by rw [List.length_take]; omega) hd (.inr (by rw [List.getElem?_take,if_pos (by omega),hz]; simpa using hz2)),List.take_take,Nat.min_eq_left hn]
        ·exact okT
      ·obtain rfl : n = 0 := by have := of_decide_eq_false h1; omega
       (conv=>whnf)
       refine ⟨0,⟨by omega,?_⟩,?_⟩
       ·rw [trimR_at (n:=0) (Nat.zero_le _) hd (.inl rfl),List.take_zero,List.take_zero]
       ·exact okT
    ·have hnl : (l.take n).length ≤ 16 := by rw [List.length_take]; omega
     (conv=>whnf)
     refine ⟨(l.take n).map byteD,⟨by omega,by omega,by rw [List.length_map]; omega,(fun q hq=>by obtain ⟨y,_,rfl⟩:=List.mem_map.1 hq; rfl),by simp [List.map_take]⟩,?_⟩
     (conv=>whnf)
     refine ⟨l.take n,rfl,?_⟩
     (conv=>whnf)
     refine CallLeaf.wa (fits_ (l.take n) (by omega)) rfl ?_
     (conv=>whnf)
     cases hf : fitN (l.take n) with
     | false =>
      have e : decR l = (hdr0,6):=by unfold decR; rw [if_neg (by omega),if_pos ⟨hx,hy⟩,ht,if_neg (by rw [hf]; simp)]
      rw [e]
      (conv=>whnf)
      refine Wk.tuple (Wks.cons (Wk.refl _) (Wks.cons (Wk.refl _) Wks.nil))
     | true =>
      have e : decR l = decR l:=rfl
      conv at e=>rhs; unfold decR; rw [if_neg (show ¬ l.length < 60 by omega),if_pos (show l[58]? = some 96 ∧ l[59]? = some 10 from ⟨hx,hy⟩),ht,if_pos hf]
      rw [e]
      have F1:=number_ 10 (.inr rfl) (prt l 16 28) (decide (l.take n = [47,47])) (by rw [prt_len (by omega) (by omega)]; omega)
      have F2:=number_ 10 (.inr rfl) (prt l 28 34) (decide (l.take n = [47,47])) (by rw [prt_len (by omega) (by omega)]; omega)
      have F3:=number_ 10 (.inr rfl) (prt l 34 40) (decide (l.take n = [47,47])) (by rw [prt_len (by omega) (by omega)]; omega)
      have F4:=number_ 8 (.inl rfl) (prt l 40 48) (decide (l.take n = [47,47])) (by rw [prt_len (by omega) (by omega)]; omega)
      have F5:=number_ 10 (.inr rfl) (prt l 48 58) false (by rw [prt_len (by omega) (by omega)]; omega)
      clear e
      revert F1 F2 F3 F4 F5
      generalize numR 10 (prt l 16 28) (decide (l.take n = [47,47])) = p1
      generalize numR 10 (prt l 28 34) (decide (l.take n = [47,47])) = p2
      generalize numR 10 (prt l 34 40) (decide (l.take n = [47,47])) = p3
      generalize numR 8 (prt l 40 48) (decide (l.take n = [47,47])) = p4
      generalize numR 10 (prt l 48 58) false = p5
      obtain ⟨a1,b1⟩:=p1
      obtain ⟨a2,b2⟩:=p2
      obtain ⟨a3,b3⟩:=p3
      obtain ⟨a4,b4⟩:=p4
      obtain ⟨a5,b5⟩:=p5
      intro F1 F2 F3 F4 F5
      (conv=>whnf)
      refine ⟨⟨by omega,rfl,by decide,by omega⟩,?_⟩
      (conv=>whnf)
      refine ⟨(prt l 16 28).map byteD,⟨by omega,by omega,by rw [List.length_map]; omega,(fun q hq=>by obtain ⟨y,_,rfl⟩:=List.mem_map.1 hq; rfl),by simp [prt,List.map_take,List.map_drop]⟩,?_⟩
      (conv=>whnf)
      refine CallLeaf.wa (F1) rfl ?_
      (conv=>whnf)
      refine ⟨⟨rfl,rfl,by decide,by decide,Nat.le_refl 5⟩,?_⟩
      (conv=>whnf)
      refine ⟨[vB false],[[vB b1],[vB false],[vB false],[vB false],[vB false]],⟨rfl,rfl,rfl⟩,⟨by decide,rfl⟩,?_⟩
      (conv=>whnf)
      refine ⟨(prt l 28 34).map byteD,⟨by omega,by omega,by rw [List.length_map]; omega,(fun q hq=>by obtain ⟨y,_,rfl⟩:=List.mem_map.1 hq; rfl),by simp [prt,List.map_take,List.map_drop]⟩,?_⟩
      (conv=>whnf)
      refine CallLeaf.wa (F2) rfl ?_
      (conv=>whnf)
      refine ⟨⟨rfl,rfl,by decide,by decide,Nat.le_refl 5⟩,?_⟩
      (conv=>whnf)
      refine ⟨[vB false],[[vB b1],[vB b2],[vB false],[vB false],[vB false]],⟨rfl,rfl,rfl⟩,⟨by decide,rfl⟩,?_⟩
      (conv=>whnf)
      refine ⟨(prt l 34 40).map byteD,⟨by omega,by omega,by rw [List.length_map]; omega,(fun q hq=>by obtain ⟨y,_,rfl⟩:=List.mem_map.1 hq; rfl),by simp [prt,List.map_take,List.map_drop]⟩,?_⟩
      (conv=>whnf)
      refine CallLeaf.wa (F3) rfl ?_
      (conv=>whnf)
      refine ⟨⟨rfl,rfl,by decide,by decide,Nat.le_refl 5⟩,?_⟩
      (conv=>whnf)
      refine ⟨[vB false],[[vB b1],[vB b2],[vB b3],[vB false],[vB false]],⟨rfl,rfl,rfl⟩,⟨by decide,rfl⟩,?_⟩
      (conv=>whnf)
      refine ⟨(prt l 40 48).map byteD,⟨by omega,by omega,by rw [List.length_map]; omega,(fun q hq=>by obtain ⟨y,_,rfl⟩:=List.mem_map.1 hq; rfl),by simp [prt,List.map_take,List.map_drop]⟩,?_⟩
      (conv=>whnf)
      refine CallLeaf.wa (F4) rfl ?_
      (conv=>whnf)
      refine ⟨⟨rfl,rfl,by decide,by decide,Nat.le_refl 5⟩,?_⟩
      (conv=>whnf)
      refine ⟨[vB false],[[vB b1],[vB b2],[vB b3],[vB b4],[vB false]],⟨rfl,rfl,rfl⟩,⟨by decide,rfl⟩,?_⟩
      (conv=>whnf)
      refine ⟨(prt l 48 58).map byteD,⟨by omega,by omega,by rw [List.length_map]; omega,(fun q hq=>by obtain ⟨y,_,rfl⟩:=List.mem_map.1 hq; rfl),by simp [prt,List.map_take,List.map_drop]⟩,?_⟩
      (conv=>whnf)
      refine CallLeaf.wa (F5) rfl ?_
      (conv=>whnf)
      refine ⟨⟨rfl,rfl,by decide,by decide,Nat.le_refl 5⟩,?_⟩
      (conv=>whnf)
      refine ⟨[vB false],[[vB b1],[vB b2],[vB b3],[vB b4],[vB b5]],⟨rfl,rfl,rfl⟩,⟨by decide,rfl⟩,?_⟩
      (conv=>whnf)
      have hall : (b1 && (b2 && (b3 && (b4 && b5)))) = ([b1,b2,b3,b4,b5].all fun b=>b):=by simp
      simp only [hall]
      generalize hbs : [b1,b2,b3,b4,b5] = bs
      have hbl : bs.length = 5:=by rw [← hbs]; rfl
      have hxs : [[vB b1],[vB b2],[vB b3],[vB b4],[vB b5]] = bs.map fun b=>[vB b]:=by rw [← hbs]; rfl
      rw [hxs]
      refine LWp.loop hT hmix [] (fun k : Nat=>[(8,vI k)]) (fun _=>[]) (fun k=>k ≤ 5 ∧ (bs.take k).all (fun b=>b) = true) (fun k=>5 - k) 0 ⟨Nat.zero_le _,rfl⟩ ?_
      (conv=>whnf)
      refine ⟨?_,fun k ⟨hk,hd⟩=>?_⟩
      ·exact okT
      ·(conv => whnf)
       refine split_intro (fun h1=>?_) (fun h1=>?_)
       ·have hlt : k < 5 := by have := of_decide_eq_true h1; omega
        obtain ⟨z,hz⟩ : ∃ z,bs[k]? = some z:=⟨_,List.getElem?_eq_getElem (by omega)⟩
        (conv=>whnf)
        refine ⟨⟨rfl,rfl,by omega,by show (k : Int) < 5; omega,by rw [List.length_map,hbl]; decide⟩,?_⟩
        (conv=>whnf)
        refine ⟨[vB z],⟨rfl,rfl,by rw [show 0 + ((k : Int)).toNat = k by omega]; exact getMap (f:=fun b=>[vB b]) hz⟩,?_⟩
        (conv=>whnf)
        cases z with
        | false =>
         have e : (bs.all fun b=>b) = false:=by rw [List.all_eq_false]; exact ⟨false,List.mem_of_getElem? hz,by simp⟩
         simp only [e]
         (conv=>whnf)
         refine Wk.tuple (Wks.cons (Wk.refl _) (Wks.cons (Wk.refl _) Wks.nil))
        | true =>
         (conv=>whnf)
         refine ⟨_,add64 (c:=((k + 1 : Nat) : Int)) (by (try simp only []); omega) (by omega),?_⟩
         (conv=>whnf)
         refine ⟨k + 1,⟨⟨by omega,by rw [List.take_add_one,hz]; simp at hd ⊢; exact hd⟩,by simp only []; omega⟩,?_⟩
         exact okT
       ·obtain rfl : k = 5 := by have := of_decide_eq_false h1; omega
        have e : (bs.all fun b=>b) = true:=by rw [List.take_of_length_le (by omega)] at hd; exact hd
        simp only [e]
        (conv=>whnf)
        refine Wk.tuple (Wks.cons (Wk.refl _) (Wks.cons (Wk.refl _) Wks.nil))
end Go.Proofs.YtimjnmbpbobfiaaGreatDoor.H

namespace Go.Proofs.YtimjnmbpbobfiaaGreatDoor.H
open Go Go.AL Go.AL.Hd
set_option maxRecDepth 100000
set_option maxHeartbeats 8000000
theorem hfits_ [Go.AL.MX] (l : Str) (hl : l.length < 4294967281) : FCall Tryz.prog Gl 115 [sD l] [] (vB (fitN l)) [] := by
 have hs:=sB_sz l
 have CA:=cany2_ l hl
 refine FCall.enterL hT hmix [] Tryz.func115 rfl rfl rfl fun hbd=>?_
 (conv=>whnf)
 refine split_intro (fun h1=>?_) (fun h1=>?_)
 ·have h1' := of_decide_eq_true h1
  (conv=>whnf)
  refine split_intro (fun h2=>?_) (fun h2=>?_)
  ·have h2' := of_decide_eq_true h2
   (conv=>whnf)
   refine CallLeaf.wa (CA) rfl ?_
   (conv=>whnf)
   cases ha : l.any bad2 with
   | true =>
    have e : fitN l = false:=by simp [fitN,ha]
    rw [e]
    (conv=>whnf)
    exact Wk.refl _
   | false =>
    obtain ⟨x,hx,hg⟩:=last_at (l:=l) (by omega)
    (conv=>whnf)
    refine ⟨_,sub64 (c:=(l.length : Int) - 1) (by omega) (by omega),?_⟩
    (conv=>whnf)
    refine ⟨x,⟨by omega,hx⟩,?_⟩
    (conv=>whnf)
    cases hq : ((x.toNat : Int) != 32) with
    | true =>
     have hx2 : x ≠ 32:=fun e=>by subst e; simp at hq
     have e : fitN l = true:=by simp only [fitN,ha,hg]; simp [hx2]; omega
     rw [e]
     exact Wk.bool rfl
    | false =>
     obtain rfl : x = 32:=O.u8_eq (y:=32) hq
     have e : fitN l = false:=by simp [fitN,hg]
     rw [e]
     exact Wk.bool rfl
  ·have h2' := of_decide_eq_false h2
   have e : fitN l = false:=by simp [fitN]; intros; omega
   rw [e]
   (conv=>whnf)
   exact Wk.refl _
 ·have h1' := of_decide_eq_false h1
  have e : fitN l = false:=by simp [fitN]; intros; omega
  rw [e]
  (conv=>whnf)
  exact Wk.refl _
abbrev fF (w b : Int) (bl : Bool) (f : FuncId) : List D:=[vI w,vI b,vB bl,.func (.func f) [] []]
abbrev F5 : List (List D):=[fF 12 10 true 133,fF 6 10 true 134,fF 6 10 true 135,fF 8 8 true 136,fF 10 10 false 137]
theorem fields_ [Go.AL.MX] : FCall Tryz.prog Gl 116 [] [] (.list .nat F5) [] := by
 refine FCall.enterL hT hmix [] Tryz.func116 rfl rfl rfl fun hbd=>?_
 (conv=>whnf)

 exact Wk.refl _
theorem at1_ [Go.AL.MX] (h : Hdr) : FCall Tryz.prog Gl 133 [.ptr 0 0] [.cells h.enc] (.ptr 0 1) [.cells h.enc] := by
 refine FCall.enterO hT hmix [] Tryz.func133 rfl rfl rfl fun hbd=>?_
 (conv=>whnf)
 refine ⟨[0],rfl,finT,?_⟩
 exact Wk.refl _
theorem at2_ [Go.AL.MX] (h : Hdr) : FCall Tryz.prog Gl 134 [.ptr 0 0] [.cells h.enc] (.ptr 0 2) [.cells h.enc] := by
 refine FCall.enterO hT hmix [] Tryz.func134 rfl rfl rfl fun hbd=>?_
 (conv=>whnf)
 refine ⟨[0],rfl,finT,?_⟩
 exact Wk.refl _
theorem at3_ [Go.AL.MX] (h : Hdr) : FCall Tryz.prog Gl 135 [.ptr 0 0] [.cells h.enc] (.ptr 0 3) [.cells h.enc] := by
 refine FCall.enterO hT hmix [] Tryz.func135 rfl rfl rfl fun hbd=>?_
 (conv=>whnf)
 refine ⟨[0],rfl,finT,?_⟩
 exact Wk.refl _
theorem at4_ [Go.AL.MX] (h : Hdr) : FCall Tryz.prog Gl 136 [.ptr 0 0] [.cells h.enc] (.ptr 0 4) [.cells h.enc] := by
 refine FCall.enterO hT hmix [] Tryz.func136 rfl rfl rfl fun hbd=>?_
 (conv=>whnf)
 refine ⟨[0],rfl,finT,?_⟩
 exact Wk.refl _
theorem at5_ [Go.AL.MX] (h : Hdr) : FCall Tryz.prog Gl 137 [.ptr 0 0] [.cells h.enc] (.ptr 0 5) [.cells h.enc] := by
 refine FCall.enterO hT hmix [] Tryz.func137 rfl rfl rfl fun hbd=>?_
 (conv=>whnf)
 refine ⟨[0],rfl,finT,?_⟩
 exact Wk.refl _
end Go.Proofs.YtimjnmbpbobfiaaGreatDoor.H

namespace Go.Proofs.YtimjnmbpbobfiaaGreatDoor.H
open Go Go.AL Go.AL.Hd
set_option maxRecDepth 100000
set_option maxHeartbeats 16000000
abbrev hN (nm : Str) (a1 a2 a3 a4 a5 : Nat) (k : Nat) : Hdr:=⟨nm,bif Nat.blt 0 k then a1 else 0,bif Nat.blt 1 k then a2 else 0,bif Nat.blt 2 k then a3 else 0,bif Nat.blt 3 k then a4 else 0,bif Nat.blt 4 k then a5 else 0⟩
abbrev offN : Nat → Nat
 | 0=>16
 | 1=>28
 | 2=>34
 | 3=>40
 | 4=>48
 | _=>58
theorem num_f {b : Nat} {l : Str} (h1 : 1 ≤ l.length) (h2 : l.length ≤ 18) : (numR b l false).2 = false → (parseR b l).2 = 3 := by
 have e : parseR b l = opR (pf b l):=by unfold parseR; rw [if_neg (by omega)]
 simp only [numR,e]
 cases pf b l with
 | none=>intro _; rfl
 | some n=>intro h; simp [opR] at h
theorem hdecode_ [Go.AL.MX] (l : List UInt8) : FCall Tryz.prog Gl 101 [LB l] [] (.tuple [.agg (decR l).1.enc, vI (decR l).2]) [] := by
 refine FCall.enterL hT hmix [] Tryz.func101 rfl rfl rfl fun hbd=>?_
 have ha:=bds_list hbd (.head _)
 (conv=>whnf)
 refine split_intro (fun g1=>?_) (fun g1=>?_)
 ·have e : decR l = (hdr0, 2) := by have := of_decide_eq_true g1; simp only [List.length_map] at this; unfold decR; rw [if_pos (by omega)]
  rw [e]
  (conv=>whnf)
  refine Wk.tuple (Wks.cons (Wk.refl _) (Wks.cons (Wk.refl _) Wks.nil))
 ·have g1' := of_decide_eq_false g1
  simp only [List.length_map] at g1'
  obtain ⟨x,hx⟩ : ∃ x,l[58]? = some x:=⟨_,List.getElem?_eq_getElem (show 58 < l.length by omega)⟩
  obtain ⟨y,hy⟩ : ∃ y,l[59]? = some y:=⟨_,List.getElem?_eq_getElem (show 59 < l.length by omega)⟩
  have em : prt l 58 60 = [x, y] := by
   have h2 : (prt l 58 60).length = 2:=prt_len (by omega) (by omega)
   have e0 : (prt l 58 60)[0]? = some x:=by rw [prt,List.getElem?_drop,List.getElem?_take,if_pos (by omega)]; exact hx
   have e1 : (prt l 58 60)[1]? = some y:=by rw [prt,List.getElem?_drop,List.getElem?_take,if_pos (by omega)]; exact hy
   match hp : prt l 58 60,h2 with
   | [p,q],_=>rw [hp] at e0 e1; simp at e0 e1; rw [e0,e1]
  (conv=>whnf)
  refine ⟨(prt l 58 60).map byteD,⟨by omega,by omega,by rw [List.length_map]; omega,(fun q hq=>by obtain ⟨y,_,rfl⟩:=List.mem_map.1 hq; rfl),by simp [prt,List.map_take,List.map_drop]⟩,?_⟩
  (conv=>whnf)
  refine ⟨prt l 58 60,rfl,?_⟩
  rw [em]
  (conv=>whnf)
  refine split_intro (fun g2=>?_) (fun g2=>?_)
  ·have e : decR l = (hdr0, 4) := by
    unfold decR; rw [if_neg (by omega),if_neg (fun h=>?_)]
    rw [hx,hy] at h
    obtain ⟨h1,h2⟩:=h
    injection h1 with h1; injection h2 with h2; subst h1; subst h2
    exact absurd g2 (by decide)
   rw [e]
   (conv=>whnf)
   refine Wk.tuple (Wks.cons (Wk.refl _) (Wks.cons (Wk.refl _) Wks.nil))
  ·have hxy : x = 96 ∧ y = 10 := by
    have h3:=of_decide_eq_true (show decide (([x,y] : List UInt8) = [96,10]) = true by simpa using g2)
    simpa using h3
   obtain ⟨rfl,rfl⟩:=hxy
   have T:=trim_ (l.take 16) (by rw [List.length_take]; omega)
   have hnl : (trimR (l.take 16)).length ≤ 16 := by
    have:=(List.dropWhile_sublist (fun c : UInt8=>c == 32) (l:=(l.take 16).reverse)).length_le
    simp only [trimR,List.length_reverse,List.length_take] at this ⊢
    omega
   (conv=>whnf)
   refine ⟨(l.take 16).map byteD,⟨by omega,by omega,by rw [List.length_map]; omega,(fun q hq=>by obtain ⟨y,_,rfl⟩:=List.mem_map.1 hq; rfl),by simp [List.map_take]⟩,?_⟩
   (conv=>whnf)
   refine ⟨l.take 16,rfl,?_⟩
   (conv=>whnf)
   refine CallLeaf.wa (T) rfl ?_
   have e : decR l = decR l:=rfl
   conv at e=>rhs; unfold decR; rw [if_neg (show ¬ l.length < 60 by omega),if_pos (show l[58]? = some 96 ∧ l[59]? = some 10 from ⟨hx,hy⟩)]
   rw [e]
   clear e T
   revert hnl
   generalize trimR (l.take 16) = nm
   intro hnl
   (conv=>whnf)
   refine CallLeaf.wa (hfits_ nm (by omega)) rfl ?_
   (conv=>whnf)
   cases hf : fitN nm with
   | false =>
    simp only [Bool.false_eq_true,if_false]
    (conv=>whnf)
    refine Wk.tuple (Wks.cons (Wk.refl _) (Wks.cons (Wk.refl _) Wks.nil))
   | true =>
    simp only [if_true]
    (conv=>whnf)
    refine CallLeaf.wa (fields_) rfl ?_
    (conv=>whnf)
    have L1 : (prt l 16 28).length = 12:=prt_len (by omega) (by omega)
    have L2 : (prt l 28 34).length = 6:=prt_len (by omega) (by omega)
    have L3 : (prt l 34 40).length = 6:=prt_len (by omega) (by omega)
    have L4 : (prt l 40 48).length = 8:=prt_len (by omega) (by omega)
    have L5 : (prt l 48 58).length = 10:=prt_len (by omega) (by omega)
    obtain ⟨p1,hp1⟩ : ∃ p,p = numR 10 (prt l 16 28) (decide (nm = [47,47])):=⟨_,rfl⟩
    obtain ⟨p2,hp2⟩ : ∃ p,p = numR 10 (prt l 28 34) (decide (nm = [47,47])):=⟨_,rfl⟩
    obtain ⟨p3,hp3⟩ : ∃ p,p = numR 10 (prt l 34 40) (decide (nm = [47,47])):=⟨_,rfl⟩
    obtain ⟨p4,hp4⟩ : ∃ p,p = numR 8 (prt l 40 48) (decide (nm = [47,47])):=⟨_,rfl⟩
    obtain ⟨p5,hp5⟩ : ∃ p,p = numR 10 (prt l 48 58) false:=⟨_,rfl⟩
    rw [← hp1,← hp2,← hp3,← hp4,← hp5]
    refine LWp.loop hT hmix [] (fun k : Nat=>[(32,vI k),(5,vI (offN k))]) (fun k=>[(2600,.cells (hN nm p1.1 p2.1 p3.1 p4.1 p5.1 k).enc)]) (fun k=>k ≤ 5 ∧ (0 < k → p1.2 = true) ∧ (1 < k → p2.2 = true) ∧ (2 < k → p3.2 = true) ∧ (3 < k → p4.2 = true) ∧ (4 < k → p5.2 = true)) (fun k=>5 - k) 0 ⟨by omega,by omega,by omega,by omega,by omega,by omega⟩ ?_
    (conv=>whnf)
    refine ⟨?_,fun k ⟨hk,i1,i2,i3,i4,i5⟩=>?_⟩
    ·exact okT
    ·rcases (show k = 0 ∨ k = 1 ∨ k = 2 ∨ k = 3 ∨ k = 4 ∨ k = 5 by omega) with rfl | rfl | rfl | rfl | rfl | rfl
     ·(conv => whnf)
      refine ⟨_,⟨by decide,rfl⟩,?_⟩
      (conv=>whnf)
      refine ⟨_,add64 (c:=((28 : Nat) : Int)) rfl (by omega),?_⟩
      (conv=>whnf)
      refine ⟨(prt l 16 28).map byteD,⟨by decide,by decide,by rw [List.length_map]; show ((28 : Nat) : Int) ≤ _; omega,(fun q hq=>by obtain ⟨y,_,rfl⟩:=List.mem_map.1 hq; rfl),by show ((l.map byteD).take 28).drop 16 = _; simp [prt,List.map_take,List.map_drop]⟩,?_⟩
      (conv=>whnf)
      refine ⟨_,add64 (c:=((28 : Nat) : Int)) rfl (by omega),?_⟩
      (conv=>whnf)
      refine split_intro (fun bq=>?_) (fun bq=>?_)
      ·have hb : nm = [47, 47] := of_decide_eq_true bq
       have hpv : p1 = (0,decide (prt l 16 28 = sp (prt l 16 28).length)):=by rw [hp1,decide_eq_true hb]; rfl
       have BL:=blank_ (prt l 16 28)
       cases hall : (prt l 16 28).all (· == 32) with
       | true =>
        have h2 : p1.2 = true:=by rw [hpv]; exact decide_eq_true (all_sp.1 hall)
        have h1 : p1.1 = 0:=by rw [hpv]
        rw [hall] at BL
        (conv=>whnf)
        refine CallLeaf.wa (BL) rfl ?_
        (conv=>whnf)
        refine ⟨_,add64 (c:=((1 : Nat) : Int)) rfl (by omega),?_⟩
        (conv=>whnf)
        refine ⟨1,⟨⟨by omega,fun _=>by first|exact h2|rfl,fun h=>absurd h (by omega),fun h=>absurd h (by omega),fun h=>absurd h (by omega),fun h=>absurd h (by omega)⟩,by show 5 - 1 < 5 - 0; omega⟩,?_⟩
        (repeat' (first|exact trivial|exact Wk.refl _|exact ObWk.refl _|exact rfl|exact ⟨_,rfl⟩|exact Nat.zero_lt_one|refine And.intro ?_ ?_|unfold okTo|(unfold okO; conv=>whnf)|(unfold okS; conv=>whnf)|(unfold SlotOk; conv=>whnf)|(unfold ObjOk; conv=>whnf)|(unfold okCells; conv=>whnf)|(unfold liveTo; conv=>whnf)|exact Nat.zero_lt_succ _))
        exact Wk.of_eq (show vI ((0 : Nat) : Int) = vI ((p1.1 : Nat) : Int) by rw [h1])
       | false =>
        have h2 : p1.2 = false:=by rw [hpv]; exact decide_eq_false (fun h=>by rw [all_sp.2 h] at hall; cases hall)
        rw [hall] at BL
        (conv=>whnf)
        refine CallLeaf.wa (BL) rfl ?_
        (conv=>whnf)
        simp only [h2,Bool.false_and,Bool.and_false,Bool.false_eq_true,if_false]
        (conv=>whnf)
        refine Wk.tuple (Wks.cons (Wk.refl _) (Wks.cons (Wk.refl _) Wks.nil))
      ·have nb : decide (nm = [47, 47]) = false := decide_eq_false (of_decide_eq_false bq)
       have hpv : p1 = numR 10 (prt l 16 28) false:=by rw [hp1,nb]
       have DP:=dparse_ 10 (.inr rfl) (prt l 16 28)
       cases h2 : p1.2 with
       | true =>
        have hz : (parseR 10 (prt l 16 28)).2 = 0:=by rw [hpv] at h2; exact of_decide_eq_true h2
        have h1 : (parseR 10 (prt l 16 28)).1 = p1.1:=by rw [hpv]; rfl
        rw [hz,h1] at DP
        (conv=>whnf)
        refine CallLeaf.wa (DP) rfl ?_
        (conv=>whnf)
        refine CallLeaf.oa [2600] (at1_ ⟨nm,0,0,0,0,0⟩) rfl rfl rfl rfl ?_
        (conv=>whnf)
        refine ⟨_,add64 (c:=((1 : Nat) : Int)) rfl (by omega),?_⟩
        (conv=>whnf)
        refine ⟨1,⟨⟨by omega,fun _=>by first|exact h2|rfl,fun h=>absurd h (by omega),fun h=>absurd h (by omega),fun h=>absurd h (by omega),fun h=>absurd h (by omega)⟩,by show 5 - 1 < 5 - 0; omega⟩,?_⟩
        exact okT
       | false =>
        have hz : (parseR 10 (prt l 16 28)).2 = 3:=num_f (by omega) (by omega) (by rw [← hpv]; exact h2)
        rw [hz] at DP
        (conv=>whnf)
        refine CallLeaf.wa (DP) rfl ?_
        (conv=>whnf)
        simp only [h2,Bool.false_and,Bool.and_false,Bool.false_eq_true,if_false]
        (conv=>whnf)
        refine Wk.tuple (Wks.cons (Wk.refl _) (Wks.cons (Wk.refl _) Wks.nil))
     ·(conv => whnf)
      refine ⟨_,⟨by decide,rfl⟩,?_⟩
      (conv=>whnf)
      refine ⟨_,add64 (c:=((34 : Nat) : Int)) rfl (by omega),?_⟩
      (conv=>whnf)
      refine ⟨(prt l 28 34).map byteD,⟨by decide,by decide,by rw [List.length_map]; show ((34 : Nat) : Int) ≤ _; omega,(fun q hq=>by obtain ⟨y,_,rfl⟩:=List.mem_map.1 hq; rfl),by show ((l.map byteD).take 34).drop 28 = _; simp [prt,List.map_take,List.map_drop]⟩,?_⟩
      (conv=>whnf)
      refine ⟨_,add64 (c:=((34 : Nat) : Int)) rfl (by omega),?_⟩
      (conv=>whnf)
      refine split_intro (fun bq=>?_) (fun bq=>?_)
      ·have hb : nm = [47, 47] := of_decide_eq_true bq
       have hpv : p2 = (0,decide (prt l 28 34 = sp (prt l 28 34).length)):=by rw [hp2,decide_eq_true hb]; rfl
       have BL:=blank_ (prt l 28 34)
       cases hall : (prt l 28 34).all (· == 32) with
       | true =>
        have h2 : p2.2 = true:=by rw [hpv]; exact decide_eq_true (all_sp.1 hall)
        have h1 : p2.1 = 0:=by rw [hpv]
        rw [hall] at BL
        (conv=>whnf)
        refine CallLeaf.wa (BL) rfl ?_
        (conv=>whnf)
        refine ⟨_,add64 (c:=((2 : Nat) : Int)) rfl (by omega),?_⟩
        (conv=>whnf)
        refine ⟨2,⟨⟨by omega,fun _=>i1 (by omega),fun _=>by first|exact h2|rfl,fun h=>absurd h (by omega),fun h=>absurd h (by omega),fun h=>absurd h (by omega)⟩,by show 5 - 2 < 5 - 1; omega⟩,?_⟩
        (repeat' (first|exact trivial|exact Wk.refl _|exact ObWk.refl _|exact rfl|exact ⟨_,rfl⟩|exact Nat.zero_lt_one|refine And.intro ?_ ?_|unfold okTo|(unfold okO; conv=>whnf)|(unfold okS; conv=>whnf)|(unfold SlotOk; conv=>whnf)|(unfold ObjOk; conv=>whnf)|(unfold okCells; conv=>whnf)|(unfold liveTo; conv=>whnf)|exact Nat.zero_lt_succ _))
        exact Wk.of_eq (show vI ((0 : Nat) : Int) = vI ((p2.1 : Nat) : Int) by rw [h1])
       | false =>
        have h2 : p2.2 = false:=by rw [hpv]; exact decide_eq_false (fun h=>by rw [all_sp.2 h] at hall; cases hall)
        rw [hall] at BL
        (conv=>whnf)
        refine CallLeaf.wa (BL) rfl ?_
        (conv=>whnf)
        simp only [h2,Bool.false_and,Bool.and_false,Bool.false_eq_true,if_false]
        (conv=>whnf)
        refine Wk.tuple (Wks.cons (Wk.refl _) (Wks.cons (Wk.refl _) Wks.nil))
      ·have nb : decide (nm = [47, 47]) = false := decide_eq_false (of_decide_eq_false bq)
       have hpv : p2 = numR 10 (prt l 28 34) false:=by rw [hp2,nb]
       have DP:=dparse_ 10 (.inr rfl) (prt l 28 34)
       cases h2 : p2.2 with
       | true =>
        have hz : (parseR 10 (prt l 28 34)).2 = 0:=by rw [hpv] at h2; exact of_decide_eq_true h2
        have h1 : (parseR 10 (prt l 28 34)).1 = p2.1:=by rw [hpv]; rfl
        rw [hz,h1] at DP
        (conv=>whnf)
        refine CallLeaf.wa (DP) rfl ?_
        (conv=>whnf)
        refine CallLeaf.oa [2600] (at2_ ⟨nm,p1.1,0,0,0,0⟩) rfl rfl rfl rfl ?_
        (conv=>whnf)
        refine ⟨_,add64 (c:=((2 : Nat) : Int)) rfl (by omega),?_⟩
        (conv=>whnf)
        refine ⟨2,⟨⟨by omega,fun _=>i1 (by omega),fun _=>by first|exact h2|rfl,fun h=>absurd h (by omega),fun h=>absurd h (by omega),fun h=>absurd h (by omega)⟩,by show 5 - 2 < 5 - 1; omega⟩,?_⟩
        exact okT
       | false =>
        have hz : (parseR 10 (prt l 28 34)).2 = 3:=num_f (by omega) (by omega) (by rw [← hpv]; exact h2)
        rw [hz] at DP
        (conv=>whnf)
        refine CallLeaf.wa (DP) rfl ?_
        (conv=>whnf)
        simp only [h2,Bool.false_and,Bool.and_false,Bool.false_eq_true,if_false]
        (conv=>whnf)
        refine Wk.tuple (Wks.cons (Wk.refl _) (Wks.cons (Wk.refl _) Wks.nil))
     ·(conv => whnf)
      refine ⟨_,⟨by decide,rfl⟩,?_⟩
      (conv=>whnf)
      refine ⟨_,add64 (c:=((40 : Nat) : Int)) rfl (by omega),?_⟩
      (conv=>whnf)
      refine ⟨(prt l 34 40).map byteD,⟨by decide,by decide,by rw [List.length_map]; show ((40 : Nat) : Int) ≤ _; omega,(fun q hq=>by obtain ⟨y,_,rfl⟩:=List.mem_map.1 hq; rfl),by show ((l.map byteD).take 40).drop 34 = _; simp [prt,List.map_take,List.map_drop]⟩,?_⟩
      (conv=>whnf)
      refine ⟨_,add64 (c:=((40 : Nat) : Int)) rfl (by omega),?_⟩
      (conv=>whnf)
      refine split_intro (fun bq=>?_) (fun bq=>?_)
      ·have hb : nm = [47, 47] := of_decide_eq_true bq
       have hpv : p3 = (0,decide (prt l 34 40 = sp (prt l 34 40).length)):=by rw [hp3,decide_eq_true hb]; rfl
       have BL:=blank_ (prt l 34 40)
       cases hall : (prt l 34 40).all (· == 32) with
       | true =>
        have h2 : p3.2 = true:=by rw [hpv]; exact decide_eq_true (all_sp.1 hall)
        have h1 : p3.1 = 0:=by rw [hpv]
        rw [hall] at BL
        (conv=>whnf)
        refine CallLeaf.wa (BL) rfl ?_
        (conv=>whnf)
        refine ⟨_,add64 (c:=((3 : Nat) : Int)) rfl (by omega),?_⟩
        (conv=>whnf)
        refine ⟨3,⟨⟨by omega,fun _=>i1 (by omega),fun _=>i2 (by omega),fun _=>by first|exact h2|rfl,fun h=>absurd h (by omega),fun h=>absurd h (by omega)⟩,by show 5 - 3 < 5 - 2; omega⟩,?_⟩
        (repeat' (first|exact trivial|exact Wk.refl _|exact ObWk.refl _|exact rfl|exact ⟨_,rfl⟩|exact Nat.zero_lt_one|refine And.intro ?_ ?_|unfold okTo|(unfold okO; conv=>whnf)|(unfold okS; conv=>whnf)|(unfold SlotOk; conv=>whnf)|(unfold ObjOk; conv=>whnf)|(unfold okCells; conv=>whnf)|(unfold liveTo; conv=>whnf)|exact Nat.zero_lt_succ _))
        exact Wk.of_eq (show vI ((0 : Nat) : Int) = vI ((p3.1 : Nat) : Int) by rw [h1])
       | false =>
        have h2 : p3.2 = false:=by rw [hpv]; exact decide_eq_false (fun h=>by rw [all_sp.2 h] at hall; cases hall)
        rw [hall] at BL
        (conv=>whnf)
        refine CallLeaf.wa (BL) rfl ?_
        (conv=>whnf)
        simp only [h2,Bool.false_and,Bool.and_false,Bool.false_eq_true,if_false]
        (conv=>whnf)
        refine Wk.tuple (Wks.cons (Wk.refl _) (Wks.cons (Wk.refl _) Wks.nil))
      ·have nb : decide (nm = [47, 47]) = false := decide_eq_false (of_decide_eq_false bq)
       have hpv : p3 = numR 10 (prt l 34 40) false:=by rw [hp3,nb]
       have DP:=dparse_ 10 (.inr rfl) (prt l 34 40)
       cases h2 : p3.2 with
       | true =>
        have hz : (parseR 10 (prt l 34 40)).2 = 0:=by rw [hpv] at h2; exact of_decide_eq_true h2
        have h1 : (parseR 10 (prt l 34 40)).1 = p3.1:=by rw [hpv]; rfl
        rw [hz,h1] at DP
        (conv=>whnf)
        refine CallLeaf.wa (DP) rfl ?_
        (conv=>whnf)
        refine CallLeaf.oa [2600] (at3_ ⟨nm,p1.1,p2.1,0,0,0⟩) rfl rfl rfl rfl ?_
        (conv=>whnf)
        refine ⟨_,add64 (c:=((3 : Nat) : Int)) rfl (by omega),?_⟩
        (conv=>whnf)
        refine ⟨3,⟨⟨by omega,fun _=>i1 (by omega),fun _=>i2 (by omega),fun _=>by first|exact h2|rfl,fun h=>absurd h (by omega),fun h=>absurd h (by omega)⟩,by show 5 - 3 < 5 - 2; omega⟩,?_⟩
        exact okT
       | false =>
        have hz : (parseR 10 (prt l 34 40)).2 = 3:=num_f (by omega) (by omega) (by rw [← hpv]; exact h2)
        rw [hz] at DP
        (conv=>whnf)
        refine CallLeaf.wa (DP) rfl ?_
        (conv=>whnf)
        simp only [h2,Bool.false_and,Bool.and_false,Bool.false_eq_true,if_false]
        (conv=>whnf)
        refine Wk.tuple (Wks.cons (Wk.refl _) (Wks.cons (Wk.refl _) Wks.nil))
     ·(conv => whnf)
      refine ⟨_,⟨by decide,rfl⟩,?_⟩
      (conv=>whnf)
      refine ⟨_,add64 (c:=((48 : Nat) : Int)) rfl (by omega),?_⟩
      (conv=>whnf)
      refine ⟨(prt l 40 48).map byteD,⟨by decide,by decide,by rw [List.length_map]; show ((48 : Nat) : Int) ≤ _; omega,(fun q hq=>by obtain ⟨y,_,rfl⟩:=List.mem_map.1 hq; rfl),by show ((l.map byteD).take 48).drop 40 = _; simp [prt,List.map_take,List.map_drop]⟩,?_⟩
      (conv=>whnf)
      refine ⟨_,add64 (c:=((48 : Nat) : Int)) rfl (by omega),?_⟩
      (conv=>whnf)
      refine split_intro (fun bq=>?_) (fun bq=>?_)
      ·have hb : nm = [47, 47] := of_decide_eq_true bq
       have hpv : p4 = (0,decide (prt l 40 48 = sp (prt l 40 48).length)):=by rw [hp4,decide_eq_true hb]; rfl
       have BL:=blank_ (prt l 40 48)
       cases hall : (prt l 40 48).all (· == 32) with
       | true =>
        have h2 : p4.2 = true:=by rw [hpv]; exact decide_eq_true (all_sp.1 hall)
        have h1 : p4.1 = 0:=by rw [hpv]
        rw [hall] at BL
        (conv=>whnf)
        refine CallLeaf.wa (BL) rfl ?_
        (conv=>whnf)
        refine ⟨_,add64 (c:=((4 : Nat) : Int)) rfl (by omega),?_⟩
        (conv=>whnf)
        refine ⟨4,⟨⟨by omega,fun _=>i1 (by omega),fun _=>i2 (by omega),fun _=>i3 (by omega),fun _=>by first|exact h2|rfl,fun h=>absurd h (by omega)⟩,by show 5 - 4 < 5 - 3; omega⟩,?_⟩
        (repeat' (first|exact trivial|exact Wk.refl _|exact ObWk.refl _|exact rfl|exact ⟨_,rfl⟩|exact Nat.zero_lt_one|refine And.intro ?_ ?_|unfold okTo|(unfold okO; conv=>whnf)|(unfold okS; conv=>whnf)|(unfold SlotOk; conv=>whnf)|(unfold ObjOk; conv=>whnf)|(unfold okCells; conv=>whnf)|(unfold liveTo; conv=>whnf)|exact Nat.zero_lt_succ _))
        exact Wk.of_eq (show vI ((0 : Nat) : Int) = vI ((p4.1 : Nat) : Int) by rw [h1])
       | false =>
        have h2 : p4.2 = false:=by rw [hpv]; exact decide_eq_false (fun h=>by rw [all_sp.2 h] at hall; cases hall)
        rw [hall] at BL
        (conv=>whnf)
        refine CallLeaf.wa (BL) rfl ?_
        (conv=>whnf)
        simp only [h2,Bool.false_and,Bool.and_false,Bool.false_eq_true,if_false]
        (conv=>whnf)
        refine Wk.tuple (Wks.cons (Wk.refl _) (Wks.cons (Wk.refl _) Wks.nil))
      ·have nb : decide (nm = [47, 47]) = false := decide_eq_false (of_decide_eq_false bq)
       have hpv : p4 = numR 8 (prt l 40 48) false:=by rw [hp4,nb]
       have DP:=dparse_ 8 (.inl rfl) (prt l 40 48)
       cases h2 : p4.2 with
       | true =>
        have hz : (parseR 8 (prt l 40 48)).2 = 0:=by rw [hpv] at h2; exact of_decide_eq_true h2
        have h1 : (parseR 8 (prt l 40 48)).1 = p4.1:=by rw [hpv]; rfl
        rw [hz,h1] at DP
        (conv=>whnf)
        refine CallLeaf.wa (DP) rfl ?_
        (conv=>whnf)
        refine CallLeaf.oa [2600] (at4_ ⟨nm,p1.1,p2.1,p3.1,0,0⟩) rfl rfl rfl rfl ?_
        (conv=>whnf)
        refine ⟨_,add64 (c:=((4 : Nat) : Int)) rfl (by omega),?_⟩
        (conv=>whnf)
        refine ⟨4,⟨⟨by omega,fun _=>i1 (by omega),fun _=>i2 (by omega),fun _=>i3 (by omega),fun _=>by first|exact h2|rfl,fun h=>absurd h (by omega)⟩,by show 5 - 4 < 5 - 3; omega⟩,?_⟩
        exact okT
       | false =>
        have hz : (parseR 8 (prt l 40 48)).2 = 3:=num_f (by omega) (by omega) (by rw [← hpv]; exact h2)
        rw [hz] at DP
        (conv=>whnf)
        refine CallLeaf.wa (DP) rfl ?_
        (conv=>whnf)
        simp only [h2,Bool.false_and,Bool.and_false,Bool.false_eq_true,if_false]
        (conv=>whnf)
        refine Wk.tuple (Wks.cons (Wk.refl _) (Wks.cons (Wk.refl _) Wks.nil))
     ·(conv => whnf)
      refine ⟨_,⟨by decide,rfl⟩,?_⟩
      (conv=>whnf)
      refine ⟨_,add64 (c:=((58 : Nat) : Int)) rfl (by omega),?_⟩
      (conv=>whnf)
      refine ⟨(prt l 48 58).map byteD,⟨by decide,by decide,by rw [List.length_map]; show ((58 : Nat) : Int) ≤ _; omega,(fun q hq=>by obtain ⟨y,_,rfl⟩:=List.mem_map.1 hq; rfl),by show ((l.map byteD).take 58).drop 48 = _; simp [prt,List.map_take,List.map_drop]⟩,?_⟩
      (conv=>whnf)
      refine ⟨_,add64 (c:=((58 : Nat) : Int)) rfl (by omega),?_⟩
      (conv=>whnf)
      refine split_intro (fun bq=>?_) (fun bq=>?_)
      ·skip
       have hpv : p5 = numR 10 (prt l 48 58) false:=by exact hp5
       have DP:=dparse_ 10 (.inr rfl) (prt l 48 58)
       cases h2 : p5.2 with
       | true =>
        have hz : (parseR 10 (prt l 48 58)).2 = 0:=by rw [hpv] at h2; exact of_decide_eq_true h2
        have h1 : (parseR 10 (prt l 48 58)).1 = p5.1:=by rw [hpv]; rfl
        rw [hz,h1] at DP
        (conv=>whnf)
        refine CallLeaf.wa (DP) rfl ?_
        (conv=>whnf)
        refine CallLeaf.oa [2600] (at5_ ⟨nm,p1.1,p2.1,p3.1,p4.1,0⟩) rfl rfl rfl rfl ?_
        (conv=>whnf)
        refine ⟨_,add64 (c:=((5 : Nat) : Int)) rfl (by omega),?_⟩
        (conv=>whnf)
        refine ⟨5,⟨⟨by omega,fun _=>i1 (by omega),fun _=>i2 (by omega),fun _=>i3 (by omega),fun _=>i4 (by omega),fun _=>by first|exact h2|rfl⟩,by show 5 - 5 < 5 - 4; omega⟩,?_⟩
        exact okT
       | false =>
        have hz : (parseR 10 (prt l 48 58)).2 = 3:=num_f (by omega) (by omega) (by rw [← hpv]; exact h2)
        rw [hz] at DP
        (conv=>whnf)
        refine CallLeaf.wa (DP) rfl ?_
        (conv=>whnf)
        simp only [h2,Bool.false_and,Bool.and_false,Bool.false_eq_true,if_false]
        (conv=>whnf)
        refine Wk.tuple (Wks.cons (Wk.refl _) (Wks.cons (Wk.refl _) Wks.nil))
      ·skip
       have hpv : p5 = numR 10 (prt l 48 58) false:=by exact hp5
       have DP:=dparse_ 10 (.inr rfl) (prt l 48 58)
       cases h2 : p5.2 with
       | true =>
        have hz : (parseR 10 (prt l 48 58)).2 = 0:=by rw [hpv] at h2; exact of_decide_eq_true h2
        have h1 : (parseR 10 (prt l 48 58)).1 = p5.1:=by rw [hpv]; rfl
        rw [hz,h1] at DP
        (conv=>whnf)
        refine CallLeaf.wa (DP) rfl ?_
        (conv=>whnf)
        refine CallLeaf.oa [2600] (at5_ ⟨nm,p1.1,p2.1,p3.1,p4.1,0⟩) rfl rfl rfl rfl ?_
        (conv=>whnf)
        refine ⟨_,add64 (c:=((5 : Nat) : Int)) rfl (by omega),?_⟩
        (conv=>whnf)
        refine ⟨5,⟨⟨by omega,fun _=>i1 (by omega),fun _=>i2 (by omega),fun _=>i3 (by omega),fun _=>i4 (by omega),fun _=>by first|exact h2|rfl⟩,by show 5 - 5 < 5 - 4; omega⟩,?_⟩
        exact okT
       | false =>
        have hz : (parseR 10 (prt l 48 58)).2 = 3:=num_f (by omega) (by omega) (by rw [← hpv]; exact h2)
        rw [hz] at DP
        (conv=>whnf)
        refine CallLeaf.wa (DP) rfl ?_
        (conv=>whnf)
        simp only [h2,Bool.false_and,Bool.and_false,Bool.false_eq_true,if_false]
        (conv=>whnf)
        refine Wk.tuple (Wks.cons (Wk.refl _) (Wks.cons (Wk.refl _) Wks.nil))
     ·have j1 := i1 (by omega)
      have j2:=i2 (by omega)
      have j3:=i3 (by omega)
      have j4:=i4 (by omega)
      have j5:=i5 (by omega)
      simp only [j1,j2,j3,j4,j5,Bool.and_self,if_true]
      (conv=>whnf)
      refine Wk.tuple (Wks.cons (Wk.refl _) (Wks.cons (Wk.refl _) Wks.nil))
end Go.Proofs.YtimjnmbpbobfiaaGreatDoor.H

namespace Go.Proofs.YtimjnmbpbobfiaaGreatDoor.H
open Go Go.AL Go.AL.Hd Go.AL.Ln
set_option maxRecDepth 100000
set_option maxHeartbeats 8000000
theorem lvalid_ [Go.AL.MX] (l : Str) (hl : l.length < 4294967281) : FCall Tryz.prog Gl 103 [sD l] [] (vB (validN l)) [] := by
 have hs:=sB_sz l
 have CA:=cany3_ l hl
 refine FCall.enterL hT hmix [] Tryz.func103 rfl rfl rfl fun hbd=>?_
 (conv=>whnf)
 refine split_intro (fun h1=>?_) (fun h1=>?_)
 ·have h1' := of_decide_eq_true h1
  (conv=>whnf)
  refine split_intro (fun h2=>?_) (fun h2=>?_)
  ·have h2' := of_decide_eq_true h2
   (conv=>whnf)
   refine CallLeaf.wa (CA) rfl ?_
   have e : validN l = !(l.any bad3) := by
    unfold validN
    rw [decide_eq_true (show 1 ≤ l.length ∧ l.length ≤ 255 by omega)]; rfl
   rw [e]
   (conv=>whnf)
   exact Wk.refl _
  ·have h2' := of_decide_eq_false h2
   have e : validN l = false:=by unfold validN; rw [decide_eq_false (by omega)]; rfl
   rw [e]
   (conv=>whnf)
   exact Wk.refl _
 ·have h1' := of_decide_eq_false h1
  have e : validN l = false:=by unfold validN; rw [decide_eq_false (by omega)]; rfl
  rw [e]
  (conv=>whnf)
  exact Wk.refl _
theorem lshort_ [Go.AL.MX] (l : Str) (hl : l.length < 4294967281) : FCall Tryz.prog Gl 105 [sD l] [] (vB (shortN l)) [] := by
 have hs:=sB_sz l
 have CA:=lvalid_ l hl
 refine FCall.enterL hT hmix [] Tryz.func105 rfl rfl rfl fun hbd=>?_
 (conv=>whnf)
 refine CallLeaf.wa (CA) rfl ?_
 cases hv : validN l with
 | false =>
  have e : shortN l = false:=by unfold shortN; rw [hv]; rfl
  rw [e]
  (conv=>whnf)
  exact Wk.refl _
 | true =>
  have hlen:=valid_not hv
  (conv=>whnf)
  refine split_intro (fun h2=>?_) (fun h2=>?_)
  ·have h2' := of_decide_eq_true h2
   obtain ⟨x,hx,hg⟩:=last_at (l:=l) (by omega)
   (conv=>whnf)
   refine ⟨_,sub64 (c:=(l.length : Int) - 1) (by omega) (by omega),?_⟩
   (conv=>whnf)
   refine ⟨x,⟨by omega,hx⟩,?_⟩
   (conv=>whnf)
   cases hq : ((x.toNat : Int) != 32) with
   | true =>
    have hx2 : x ≠ 32:=fun e=>by subst e; simp at hq
    have e : shortN l = true:=by unfold shortN; rw [hv,hg]; simp [hx2]; omega
    rw [e]
    exact Wk.bool rfl
   | false =>
    obtain rfl : x = 32:=O.u8_eq (y:=32) hq
    have e : shortN l = false:=by unfold shortN; rw [hg]; simp
    rw [e]
    exact Wk.bool rfl
  ·have h2' := of_decide_eq_false h2
   have e : shortN l = false:=by unfold shortN; rw [decide_eq_false (show ¬ l.length ≤ 15 by omega)]; simp
   rw [e]
   (conv=>whnf)
   exact Wk.refl _
theorem ext_prt (l : Str) (a b : Nat) : (sB l).extract a b = sB (prt l a b) := by
 apply ByteArray.ext
 apply Array.ext'
 simp only [sB,ByteArray.data_extract,Array.toList_extract,List.extract_eq_take_drop,prt]
 rw [List.drop_take]
theorem sB_inj {a b : Str} (h : sB a = sB b) : a = b := by
 have:=congrArg (fun x : ByteArray=>x.data.toList) h
 simpa [sB] using this
theorem last_drop {l : Str} (h : 1 ≤ l.length) (x : UInt8) : l.drop (l.length - 1) = [x] ↔ l.getLast? = some x := by
 rcases List.eq_nil_or_concat l with rfl|⟨a,y,rfl⟩
 ·simp at h
 ·simp
theorem dropLast_take (l : Str) : l.take (l.length - 1) = l.dropLast:=(List.dropLast_eq_take).symm
theorem len1 : (sB [47]).size = 1:=rfl
theorem hsuf_ [Go.AL.MX] (l : Str) (hl : l.length < 4294967281) : FCall Tryz.prog Gl 142 [sD l, sD [47]] [] (vB (decide (l.getLast? = some 47))) [] := by
 have hs:=sB_sz l
 have h1s:=len1
 refine FCall.enterL hT hmix [] Tryz.func142 rfl rfl rfl fun hbd=>?_
 (conv=>whnf)
 refine split_intro (fun h1=>?_) (fun h1=>?_)
 ·have h1' := of_decide_eq_true h1
  have h1' : 1 ≤ l.length:=by omega
  (conv=>whnf)
  refine ⟨_,sub64 (c:=((l.length - 1 : Nat) : Int)) (by omega) (by omega),?_⟩
  (conv=>whnf)
  refine ⟨sB (l.drop (l.length - 1)),⟨by omega,by omega,by omega,by rw [ext_prt]; congr 1; simp only [prt]; rw [hs]; rw [List.take_of_length_le (by omega)]; congr 1⟩,?_⟩
  (conv=>whnf)
  refine Wk.bool ?_
  rw [Bool.eq_iff_iff]
  simp only [decide_eq_true_eq]
  rw [← last_drop h1']
 ·have h1' := of_decide_eq_false h1
  have e : l = []:=List.eq_nil_of_length_eq_zero (by omega)
  subst e
  (conv=>whnf)
  exact Wk.refl _
theorem csuf0_ [Go.AL.MX] (l : Str) (hl : l.length < 4294967281) : FCall Tryz.prog Gl 121 [sD l, sD [47]] [] (.tuple [sD (if l.getLast? = some 47 then l.dropLast else l), vB (decide (l.getLast? = some 47))]) [] := by
 have hs:=sB_sz l
 have h1s:=len1
 refine FCall.enterL hT hmix [] Tryz.func121 rfl rfl rfl fun hbd=>?_
 (conv=>whnf)
 refine CallLeaf.wa (hsuf_ l hl) rfl ?_
 (conv=>whnf)
 refine split_intro (fun h1=>?_) (fun h1=>?_)
 ·have h1' : ¬ List.getLast? l = some 47 := by simpa using h1
  rw [if_neg h1',decide_eq_false h1']
  (conv=>whnf)
  exact Wk.refl _
 ·have h1' : List.getLast? l = some 47 := by simpa using h1
  have hp : 1 ≤ l.length:=by cases l with|nil=>simp at h1'|cons=>simp
  rw [if_pos h1',decide_eq_true h1']
  (conv=>whnf)
  refine ⟨_,sub64 (c:=((l.length - 1 : Nat) : Int)) (by omega) (by omega),?_⟩
  (conv=>whnf)
  refine ⟨sB l.dropLast,⟨by omega,by omega,by omega,by rw [ext_prt]; congr 1; simp only [prt]; rw [← dropLast_take]; rfl⟩,?_⟩
  (conv=>whnf)
  exact Wk.refl _
theorem csuf_ [Go.AL.MX] (l : Str) (hl : l.length < 4294967281) : FCall Tryz.prog Gl 104 [sD l, sD [47]] [] (.tuple [sD (if l.getLast? = some 47 then l.dropLast else l), vB (decide (l.getLast? = some 47))]) [] := by
 refine FCall.enterL hT hmix [] Tryz.func104 rfl rfl rfl fun hbd=>?_
 (conv=>whnf)
 refine CallLeaf.wa (csuf0_ l hl) rfl ?_
 (conv=>whnf)
 exact Wk.refl _
theorem hpre_ [Go.AL.MX] (l : Str) (hl : l.length < 4294967281) : FCall Tryz.prog Gl 57 [sD l, sD [47]] [] (vB (decide (l.head? = some 47))) [] := by
 have hs:=sB_sz l
 have h1s:=len1
 refine FCall.enterL hT hmix [] Tryz.func57 rfl rfl rfl fun hbd=>?_
 (conv=>whnf)
 refine split_intro (fun h1=>?_) (fun h1=>?_)
 ·have h1' := of_decide_eq_true h1
  have h1' : 1 ≤ l.length:=by omega
  (conv=>whnf)
  refine ⟨sB (l.take 1),⟨by omega,by omega,by omega,by rw [ext_prt]; rfl⟩,?_⟩
  (conv=>whnf)
  refine Wk.bool ?_
  rw [Bool.eq_iff_iff]
  simp only [decide_eq_true_eq]
  cases l with
  | nil=>simp at h1'
  | cons x r =>
   simp only [List.take_succ_cons,List.take_zero,List.head?_cons,Option.some.injEq]
   simp
 ·have h1' := of_decide_eq_false h1
  have e : l = []:=List.eq_nil_of_length_eq_zero (by omega)
  subst e
  (conv=>whnf)
  exact Wk.refl _
theorem cpre0_ [Go.AL.MX] (l : Str) (hl : l.length < 4294967281) : FCall Tryz.prog Gl 122 [sD l, sD [47]] [] (.tuple [sD (if l.head? = some 47 then l.tail else l), vB (decide (l.head? = some 47))]) [] := by
 have hs:=sB_sz l
 have h1s:=len1
 refine FCall.enterL hT hmix [] Tryz.func122 rfl rfl rfl fun hbd=>?_
 (conv=>whnf)
 refine CallLeaf.wa (hpre_ l hl) rfl ?_
 (conv=>whnf)
 refine split_intro (fun h1=>?_) (fun h1=>?_)
 ·have h1' : ¬ l.head? = some 47 := by simpa using h1
  rw [if_neg h1',decide_eq_false h1']
  (conv=>whnf)
  exact Wk.refl _
 ·have h1' : l.head? = some 47 := by simpa using h1
  have hp : 1 ≤ l.length:=by cases l with|nil=>simp at h1'|cons=>simp
  rw [if_pos h1',decide_eq_true h1']
  (conv=>whnf)
  refine ⟨sB l.tail,⟨by omega,by omega,by omega,by rw [ext_prt]; congr 1; simp only [prt]; rw [hs,List.take_of_length_le (by omega)]; simp [len1]⟩,?_⟩
  (conv=>whnf)
  exact Wk.refl _
theorem cpre_ [Go.AL.MX] (l : Str) (hl : l.length < 4294967281) : FCall Tryz.prog Gl 106 [sD l, sD [47]] [] (.tuple [sD (if l.head? = some 47 then l.tail else l), vB (decide (l.head? = some 47))]) [] := by
 refine FCall.enterL hT hmix [] Tryz.func106 rfl rfl rfl fun hbd=>?_
 (conv=>whnf)
 refine CallLeaf.wa (cpre0_ l hl) rfl ?_
 (conv=>whnf)
 exact Wk.refl _
end Go.Proofs.YtimjnmbpbobfiaaGreatDoor.H
