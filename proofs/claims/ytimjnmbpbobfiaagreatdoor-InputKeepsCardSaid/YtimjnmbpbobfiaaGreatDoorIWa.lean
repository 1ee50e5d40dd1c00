/- What all walks of a seat share. No condition. -/
import Derived.Test.YtimjnmbpbobfiaaGreatDoorIAc
import Derived.Test.YtimjnmbpbobfiaaGreatDoorProg
import Derived.KernelRfl
import Derived.Test.YtimjnmbpbobfiaaGreatDoorIPa
import Derived.Shelf.Small.Strs
import Derived.Shelf.Strings.Trim
import Derived.Shelf.Small.Wraps
import Derived.Ground.NamesProg
set_option linter.unusedVariables false
set_option linter.unusedSimpArgs false
namespace Go.Proofs.YtimjnmbpbobfiaaGreatDoor
open Go Go.AL
theorem hT : TOk Tryz.prog (tabOf Tryz.prog):=tabOf_ok _
theorem hmix : Tryz.prog.follows .mixedOrders = true:=by kernel_rfl
def Gl [MX] : Glob:={ g:=fun g=>match g with|2=>[vI MX.val]|0=>[LS [[45,40],[45,45,115,116,97,114,116,45,103,114,111,117,112]]]|1=>[LS [[45,41],[45,45,101,110,100,45,103,114,111,117,112]]]|_=>[] }
end Go.Proofs.YtimjnmbpbobfiaaGreatDoor

namespace Go.Proofs.YtimjnmbpbobfiaaGreatDoor.H
open Go Go.AL Go.AL.Hd
set_option maxRecDepth 100000
set_option maxHeartbeats 4000000
theorem based_ [Go.AL.MX] (b : Int) : FCall Tryz.prog Gl 112 [vI b] [] (vB (decide (b = 8) || decide (b = 10))) [] := by
 refine FCall.enterL hT hmix [] Tryz.func112 rfl rfl rfl fun hbd=>?_
 (conv=>whnf)
 refine split_intro (fun h=>?_) (fun h=>?_)
 ·obtain rfl : b = 8 := of_decide_eq_true h
  (conv=>whnf)
  exact Wk.refl _
 ·have h' : decide (b = 8) = false := h
  (conv=>whnf)
  exact Wk.bool (by simp [h']; rfl)
theorem ext_dig : ∀ d : Nat,d < 10 → (⟨#[48,49,50,51,52,53,54,55,56,57]⟩ : ByteArray).extract d (d + 1) = sB [dgt d]:=by decide
theorem tmod_nat (n b : Nat) : ((n : Int)).tmod b = ((n % b : Nat) : Int):=rfl
theorem sB_sz (l : Str) : (sB l).size = l.length:=by simp [sB,ByteArray.size]
theorem sB_ap (a b : Str) : sB a ++ sB b = sB (a ++ b) := by
 apply ByteArray.ext
 simp [sB,ByteArray.data_append]
theorem dig_le {b : Nat} (hb : 2 ≤ b) (n : Nat) (hn : n ≤ 9223372036854775807) : (dig b n).length ≤ 63 := by
 refine (dig_len hb 62 n).2 ?_
 have h : 2 ^ 63 ≤ b ^ 63:=Nat.pow_le_pow_left hb 63
 have h2 : (2 : Nat) ^ 63 = 9223372036854775808:=by decide
 show n < b ^ 63
 omega
theorem text_ [Go.AL.MX] (b : Nat) (hb : 2 ≤ b) (hb2 : b ≤ 10) (n : Nat) (hn : n ≤ 9223372036854775807) : FCall Tryz.prog Gl 89 [vI n, vI b] [] (sD (dig b n)) [] := by
 induction n using Nat.strongRecOn with
 | ind n ih =>
  have hm:=Nat.mod_lt n (show 0 < b by omega)
  refine FCall.enterL hT hmix [] Tryz.func89 rfl rfl rfl fun hbd=>?_
  (conv=>whnf)
  refine ⟨_,rem64 (tmod_nat n b) (by omega),?_⟩
  (conv=>whnf)
  refine ⟨_,rem64 (tmod_nat n b) (by omega),?_⟩
  (conv=>whnf)
  refine ⟨_,add64 (c:=((n % b + 1 : Nat) : Int)) (by omega) (by omega),?_⟩
  (conv=>whnf)
  refine ⟨_,⟨by omega,by omega,by show _ ≤ (10 : Int); omega,ext_dig (n % b) (by omega)⟩,?_⟩
  (conv=>whnf)
  refine split_intro (fun h=>?_) (fun h=>?_)
  ·have h' : n < b := by have := of_decide_eq_true h; omega
   rw [dig_lt h',Nat.mod_eq_of_lt h']
   (conv=>whnf)
   exact Wk.refl _
  ·have h' : b ≤ n := by have := of_decide_eq_false h; omega
   rw [dig_ge hb h']
   have hlt : n / b < n:=Nat.div_lt_self (by omega) (by omega)
   (conv=>whnf)
   refine ⟨_,quo64n (by omega) (by omega),?_⟩
   (conv=>whnf)
   refine CallLeaf.wa (ih (n / b) hlt (by omega)) rfl ?_
   (conv=>whnf)
   refine ⟨_,⟨by rw [sB_sz,sB_sz]; have:=dig_le hb (n / b) (by omega); simp only [List.length_singleton]; omega,sB_ap _ _⟩,?_⟩
   exact Wk.refl _
abbrev spD (k : Nat) : D := match k with
 | 0=>.nil
 | k + 1=>.list (.tok 2576) ((sp (k + 1)).map byteD)
abbrev spO (k : Nat) : So := match k with
 | 0=>[]
 | k + 1=>[(2576,.tok ((sp (k + 1)).map byteD).length 1)]
theorem sp_snoc (k : Nat) : sp k ++ [32] = sp (k + 1):=by rw [sp,sp,List.replicate_succ']
theorem spaces_ [Go.AL.MX] (n : Nat) (hn : n ≤ 1000) : FCall Tryz.prog Gl 99 [vI n] [] (LBn (sp n)) [] := by
 refine FCall.enterL hT hmix [] Tryz.func99 rfl rfl rfl fun hbd=>?_
 (conv=>whnf)
 refine LWp.loop hT hmix [] (fun k : Nat=>[(4,vI k),(3,spD k)]) (fun k=>spO k) (fun k=>k ≤ n) (fun k=>n - k) 0 (Nat.zero_le _) ?_
 (conv=>whnf)
 refine ⟨?_,fun k hk=>?_⟩
 ·exact okT
 ·cases k with
  | zero =>
   (conv=>whnf)
   refine split_intro (fun h=>?_) (fun h=>?_)
   ·have hlt : 0 < n := by have := of_decide_eq_true h; omega
    (conv=>whnf)
    refine ⟨_,appN (f:=byteD) (ys:=[32]) (fun _=>rfl) (by show 1 * 1 ≤ _; decide),?_⟩
    (conv=>whnf)
    refine ⟨1,rfl,?_⟩
    (conv=>whnf)
    refine ⟨1,⟨by omega,by simp only []; omega⟩,?_⟩
    exact okT
   ·obtain rfl : n = 0 := by have := of_decide_eq_false h; omega
    (conv=>whnf)
    exact Wk.natN rfl
  | succ k =>
   (conv=>whnf)
   refine split_intro (fun h=>?_) (fun h=>?_)
   ·have hlt : k + 1 < n := by have := of_decide_eq_true h; omega
    (conv=>whnf)
    refine ⟨_,appL (f:=byteD) (xs:=sp (k + 1)) (ys:=[32]) (zs:=sp (k + 1 + 1)) rfl rfl (fun _=>rfl) (sp_snoc (k + 1)) (by rw [List.length_replicate]; show _ * 1 ≤ _; omega),?_⟩
    (conv=>whnf)
    refine ⟨_,add64 (c:=((k + 1 + 1 : Nat) : Int)) (by (try simp only []); omega) (by omega),?_⟩
    (conv=>whnf)
    refine ⟨k + 1 + 1,⟨by omega,by simp only []; omega⟩,?_⟩
    exact okT
   ·obtain rfl : n = k + 1 := by have := of_decide_eq_false h; omega
    (conv=>whnf)
    exact Wk.nat' rfl
theorem based_of {b : Nat} (h : b = 8 ∨ b = 10) : (decide ((b : Int) = 8) || decide ((b : Int) = 10)) = true:=by rcases h with rfl|rfl <;> rfl
theorem format_ [Go.AL.MX] (n : Int) (b w : Nat) (hb : b = 8 ∨ b = 10) (hw : 1 ≤ w) (hw2 : w ≤ 18) (hn : n ≤ 9223372036854775807) : FCall Tryz.prog Gl 113 [vI n, vI b, vI w] [] (.tuple [LBn (fmtR b w n).1, vI (fmtR b w n).2]) [] := by
 have B:=based_ b
 rw [based_of hb] at B
 have hb2 : 2 ≤ b:=by omega
 have hb10 : b ≤ 10:=by omega
 refine FCall.enterL hT hmix [] Tryz.func113 rfl rfl rfl fun hbd=>?_
 (conv=>whnf)
 refine CallLeaf.wa (B) rfl ?_
 (conv=>whnf)
 refine split_intro (fun h=>absurd h (by (simp; omega))) (fun _=>?_)
 (conv=>whnf)
 refine split_intro (fun h=>absurd h (by (simp; omega))) (fun _=>?_)
 (conv=>whnf)
 refine split_intro (fun h=>?_) (fun h=>?_)
 ·have hneg : n < 0 := of_decide_eq_true h
  have e : fmtR b w n = ([],9):=by simp [fmtR,fmt,hneg]
  rw [e]
  (conv=>whnf)
  refine Wk.tuple (Wks.cons (Wk.natN rfl) (Wks.cons (Wk.refl _) Wks.nil))
 ·have hneg : ¬ n < 0 := of_decide_eq_false h
  obtain ⟨m,rfl⟩ : ∃ m : Nat,n = (m : Int):=⟨n.toNat,by omega⟩
  have T:=text_ b hb2 hb10 m (by omega)
  (conv=>whnf)
  refine CallLeaf.wa (T) rfl ?_
  (conv=>whnf)
  refine split_intro (fun h2=>?_) (fun h2=>?_)
  ·have hl : w < (dig b m).length := by have := of_decide_eq_true h2; rw [sB_sz] at this; omega
   have e : fmtR b w (m : Int) = ([],9):=by simp [fmtR,fmt,hl]
   rw [e]
   (conv=>whnf)
   refine Wk.tuple (Wks.cons (Wk.natN rfl) (Wks.cons (Wk.refl _) Wks.nil))
  ·have hl : (dig b m).length ≤ w := by have := of_decide_eq_false h2; rw [sB_sz] at this; omega
   have e : fmtR b w (m : Int) = (dig b m ++ sp (w - (dig b m).length), 0) := by
    have : ¬ ((m : Int) < 0 ∨ w < (dig b m).length):=by omega
    simp only [fmtR,fmt,Int.toNat_natCast,if_neg this]
   rw [e]
   generalize dig b m = L at *
   (conv=>whnf)
   refine CallLeaf.wa (T) rfl ?_
   (conv=>whnf)
   refine ⟨by show L.length ≤ _; omega,?_⟩
   (conv=>whnf)
   refine LWp.loop hT hmix [] (fun k : Nat=>[(8,.list (.tok 2584) ((L ++ sp k).map byteD))]) (fun k=>[(2584,.tok ((L ++ sp k).map byteD).length 1)]) (fun k=>k ≤ w - L.length) (fun k=>w - L.length - k) 0 (Nat.zero_le _) ?_
   (conv=>whnf)
   refine ⟨?_,fun k hk=>?_⟩
   ·(repeat' (first | exact trivial | exact Wk.refl _ | exact ObWk.refl _ | exact rfl | exact ⟨_, rfl⟩ | exact Nat.zero_lt_one | refine And.intro ?_ ?_ | unfold okTo | (unfold okO; conv => whnf) | (unfold okS; conv => whnf) | (unfold SlotOk; conv => whnf) | (unfold ObjOk; conv => whnf) | (unfold okCells; conv => whnf) | (unfold liveTo; conv => whnf) | exact Nat.zero_lt_succ _))
    ·exact ObWk.of_eq (by simp [sB])
    ·show Wk (.list (.tok 2584) _) _
     exact Wk.of_eq (by simp [sB])
   ·(conv => whnf)
    refine split_intro (fun h3=>?_) (fun h3=>?_)
    ·have hlt : k < w - L.length := by have := of_decide_eq_true h3; simp only [List.length_map, List.length_append, List.length_replicate] at this; omega
     (conv=>whnf)
     refine ⟨_,appL (f:=byteD) (xs:=L ++ sp k) (ys:=[32]) (zs:=L ++ sp (k + 1)) rfl rfl (fun _=>rfl) (by rw [List.append_assoc,sp_snoc]) (by rw [List.length_append,List.length_replicate]; show _ * 1 ≤ _; omega),?_⟩
     (conv=>whnf)
     refine ⟨k + 1,⟨by omega,by simp only []; omega⟩,?_⟩
     exact okT
    ·obtain rfl : k = w - L.length := by have := of_decide_eq_false h3; simp only [List.length_map, List.length_append, List.length_replicate] at this; omega
     (conv=>whnf)
     refine Wk.tuple (Wks.cons (Wk.nat' rfl) (Wks.cons (Wk.refl _) Wks.nil))
end Go.Proofs.YtimjnmbpbobfiaaGreatDoor.H

namespace Go.Proofs.YtimjnmbpbobfiaaGreatDoor.H
open Go Go.AL Go.AL.Hd
set_option maxRecDepth 100000
set_option maxHeartbeats 4000000
theorem nvalid_ [Go.AL.MX] (l : Str) (hl : l.length ≤ 4611686018427387904) : FCall Tryz.prog Gl 87 [sD l] [] (vB (validN l)) [] := by
 have hsz:=sB_sz l
 refine FCall.enterL hT hmix [] Tryz.func87 rfl rfl rfl fun hbd=>?_
 (conv=>whnf)
 refine split_intro (fun h0=>?_) (fun h0=>?_)
 ·have h' : ((sB l).size : Int) = 0 := eq_of_beq h0
  have e : validN l = false := by
   have : ¬ (1 ≤ l.length ∧ l.length ≤ 255):=by omega
   simp [validN,this]
  rw [e]
  (conv=>whnf)
  exact Wk.refl _
 ·have h' : ¬ ((sB l).size : Int) = 0 := by simpa using h0
  (conv=>whnf)
  refine split_intro (fun h1=>?_) (fun h1=>?_)
  ·have h1' : (255 : Int) < (sB l).size := of_decide_eq_true h1
   have e : validN l = false := by
    have : ¬ (1 ≤ l.length ∧ l.length ≤ 255):=by omega
    simp [validN,this]
   rw [e]
   (conv=>whnf)
   exact Wk.refl _
  ·have h1' : ¬ (255 : Int) < (sB l).size := of_decide_eq_false h1
   have hlen : 1 ≤ l.length ∧ l.length ≤ 255:=by omega
   (conv=>whnf)
   refine LWp.loop hT hmix [] (fun k : Nat=>[(3,vI k)]) (fun _=>[]) (fun k=>k ≤ l.length ∧ (l.take k).any bad3 = false) (fun k=>l.length - k) 0 ⟨Nat.zero_le _,by simp⟩ ?_
   (conv=>whnf)
   refine ⟨?_,fun k ⟨hk,hkk⟩=>?_⟩
   ·exact okT
   ·(conv => whnf)
    refine split_intro (fun h=>?_) (fun h=>?_)
    ·have hlt : k < l.length := by have := of_decide_eq_true h; omega
     obtain ⟨x,hx⟩:=exI hlt
     have hbad : bad3 x = true → validN l = false:=fun hp=>by simp only [validN,any_at hx hp]; simp
     (conv=>whnf)
     refine ⟨x,⟨by omega,by simpa using hx⟩,?_⟩
     (conv=>whnf)
     refine split_intro (fun hA=>?_) (fun hA=>?_)
     ·have hxA : x = 47 := byte_eq (c := 47) hA
      rw [hbad (by simp [bad3,hxA])]
      (conv=>whnf)
      exact Wk.refl _
     ·have hxA : ¬ x = 47 := byte_ne (c := 47) hA
      (conv=>whnf)
      refine ⟨x,⟨by omega,by simpa using hx⟩,?_⟩
      (conv=>whnf)
      refine split_intro (fun hB=>?_) (fun hB=>?_)
      ·have hxB : x = 10 := byte_eq (c := 10) hB
       rw [hbad (by simp [bad3,hxB])]
       (conv=>whnf)
       exact Wk.refl _
      ·have hxB : ¬ x = 10 := byte_ne (c := 10) hB
       (conv=>whnf)
       refine ⟨x,⟨by omega,by simpa using hx⟩,?_⟩
       (conv=>whnf)
       refine split_intro (fun hC=>?_) (fun hC=>?_)
       ·have hxC : x = 0 := byte_eq (c := 0) hC
        rw [hbad (by simp [bad3,hxC])]
        (conv=>whnf)
        exact Wk.refl _
       ·have hxC : ¬ x = 0 := byte_ne (c := 0) hC
        (conv=>whnf)
        refine ⟨_,add64 (c:=((k + 1 : Nat) : Int)) (by (try simp only []); omega) (by omega),?_⟩
        (conv=>whnf)
        refine ⟨k + 1,⟨⟨by omega,step_any hx (by simp [bad3,hxA,hxB,hxC]) hkk⟩,by simp only []; omega⟩,?_⟩
        exact okT
    ·have hge : l.length ≤ k := by have := of_decide_eq_false h; omega
     rw [List.take_of_length_le hge] at hkk
     have e : validN l = true:=by simp only [validN,hkk,decide_eq_true hlen]; rfl
     rw [e]
     (conv=>whnf)
     exact Wk.refl _
theorem last_at {l : Str} (h : 1 ≤ l.length) : ∃ x, l[((l.length : Int) - 1).toNat]? = some x ∧ l.getLast? = some x := by
 have e : ((l.length : Int) - 1).toNat = l.length - 1:=by omega
 obtain ⟨x,hx⟩:=exI (show l.length - 1 < l.length by omega)
 exact ⟨x,by rw [e]; exact hx,by rw [List.getLast?_eq_getElem?]; exact hx⟩
theorem fits_ [Go.AL.MX] (l : Str) (hl : l.length ≤ 4611686018427387904) : FCall Tryz.prog Gl 85 [sD l] [] (vB (fitN l)) [] := by
 have hsz:=sB_sz l
 refine FCall.enterL hT hmix [] Tryz.func85 rfl rfl rfl fun hbd=>?_
 (conv=>whnf)
 refine split_intro (fun h0=>?_) (fun h0=>?_)
 ·have h' : ((sB l).size : Int) < 1 := of_decide_eq_true h0
  have e : fitN l = false := by
   have : ¬ (1 ≤ l.length ∧ l.length ≤ 16 ∧ l.getLast? ≠ some 32):=fun h=>by omega
   simp [fitN,this]
  rw [e]
  (conv=>whnf)
  exact Wk.refl _
 ·have h' : ¬ ((sB l).size : Int) < 1 := of_decide_eq_false h0
  (conv=>whnf)
  refine split_intro (fun h1=>?_) (fun h1=>?_)
  ·have h1' : (16 : Int) < (sB l).size := of_decide_eq_true h1
   have e : fitN l = false := by
    have : ¬ (1 ≤ l.length ∧ l.length ≤ 16 ∧ l.getLast? ≠ some 32):=fun h=>by omega
    simp [fitN,this]
   rw [e]
   (conv=>whnf)
   exact Wk.refl _
  ·have h1' : ¬ (16 : Int) < (sB l).size := of_decide_eq_false h1
   obtain ⟨y,hy,hly⟩:=last_at (l:=l) (by omega)
   rw [← hsz] at hy
   (conv=>whnf)
   refine ⟨_,sub64 rfl (by omega),?_⟩
   (conv=>whnf)
   refine ⟨y,⟨by omega,by simpa using hy⟩,?_⟩
   (conv=>whnf)
   refine split_intro (fun h2=>?_) (fun h2=>?_)
   ·have hy2 : y = 32 := byte_eq (c := 32) h2
    have e : fitN l = false := by
     have : ¬ (1 ≤ l.length ∧ l.length ≤ 16 ∧ l.getLast? ≠ some 32):=fun h=>h.2.2 (by rw [hly,hy2])
     simp [fitN,this]
    rw [e]
    (conv=>whnf)
    exact Wk.refl _
   ·have hy2 : ¬ y = 32 := byte_ne (c := 32) h2
    have hlen : 1 ≤ l.length ∧ l.length ≤ 16 ∧ l.getLast? ≠ some 32:=⟨by omega,by omega,by rw [hly]; simpa using hy2⟩
    (conv=>whnf)
    refine LWp.loop hT hmix [] (fun k : Nat=>[(3,vI k)]) (fun _=>[]) (fun k=>k ≤ l.length ∧ (l.take k).any bad2 = false) (fun k=>l.length - k) 0 ⟨Nat.zero_le _,by simp⟩ ?_
    (conv=>whnf)
    refine ⟨?_,fun k ⟨hk,hkk⟩=>?_⟩
    ·exact okT
    ·(conv => whnf)
     refine split_intro (fun h=>?_) (fun h=>?_)
     ·have hlt : k < l.length := by have := of_decide_eq_true h; omega
      obtain ⟨x,hx⟩:=exI hlt
      have hbad : bad2 x = true → fitN l = false:=fun hp=>by simp only [fitN,any_at hx hp]; simp
      (conv=>whnf)
      refine ⟨x,⟨by omega,by simpa using hx⟩,?_⟩
      (conv=>whnf)
      refine split_intro (fun hB=>?_) (fun hB=>?_)
      ·have hxB : x = 10 := byte_eq (c := 10) hB
       rw [hbad (by simp [bad2,hxB])]
       (conv=>whnf)
       exact Wk.refl _
      ·have hxB : ¬ x = 10 := byte_ne (c := 10) hB
       (conv=>whnf)
       refine ⟨x,⟨by omega,by simpa using hx⟩,?_⟩
       (conv=>whnf)
       refine split_intro (fun hC=>?_) (fun hC=>?_)
       ·have hxC : x = 0 := byte_eq (c := 0) hC
        rw [hbad (by simp [bad2,hxC])]
        (conv=>whnf)
        exact Wk.refl _
       ·have hxC : ¬ x = 0 := byte_ne (c := 0) hC
        (conv=>whnf)
        refine ⟨_,add64 (c:=((k + 1 : Nat) : Int)) (by (try simp only []); omega) (by omega),?_⟩
        (conv=>whnf)
        refine ⟨k + 1,⟨⟨by omega,step_any hx (by simp [bad2,hxB,hxC]) hkk⟩,by simp only []; omega⟩,?_⟩
        exact okT
     ·have hge : l.length ≤ k := by have := of_decide_eq_false h; omega
      rw [List.take_of_length_le hge] at hkk
      have e : fitN l = true:=by simp only [fitN,hkk,decide_eq_true hlen]; rfl
      rw [e]
      (conv=>whnf)
      exact Wk.refl _
end Go.Proofs.YtimjnmbpbobfiaaGreatDoor.H

namespace Go.Proofs.YtimjnmbpbobfiaaGreatDoor.H
open Go Go.AL Go.AL.Hd
set_option maxRecDepth 100000
set_option maxHeartbeats 4000000
theorem dbased_ [Go.AL.MX] (b : Int) : FCall Tryz.prog Gl 123 [vI b] [] (vB (decide (b = 8) || decide (b = 10))) [] := by
 refine FCall.enterL hT hmix [] Tryz.func123 rfl rfl rfl fun hbd=>?_
 (conv=>whnf)
 refine split_intro (fun h=>?_) (fun h=>?_)
 ·obtain rfl : b = 8 := of_decide_eq_true h
  (conv=>whnf)
  exact Wk.refl _
 ·have h' : decide (b = 8) = false := h
  (conv=>whnf)
  exact Wk.bool (by simp [h']; rfl)
theorem blank_ [Go.AL.MX] (l : List UInt8) : FCall Tryz.prog Gl 117 [LB l] [] (vB (l.all (· == 32))) [] := by
 refine FCall.enterL hT hmix [] Tryz.func117 rfl rfl rfl fun hbd=>?_
 have ha:=bds_list hbd (.head _)
 (conv=>whnf)
 refine LWp.loop hT hmix [] (fun k : Nat=>[(7,vI k)]) (fun _=>[]) (fun k=>k ≤ l.length ∧ (l.take k).all (· == 32) = true) (fun k=>l.length - k) 0 ⟨Nat.zero_le _,rfl⟩ ?_
 (conv=>whnf)
 refine ⟨?_,fun k hk=>?_⟩
 ·exact okT
 ·(conv => whnf)
  refine split_intro (fun h=>?_) (fun h=>?_)
  ·have hlt : k < l.length := by have := of_decide_eq_true h; simp only [List.length_map] at this; omega
   obtain ⟨x,hx⟩ : ∃ x,l[k]? = some x:=⟨_,List.getElem?_eq_getElem hlt⟩
   (conv=>whnf)
   refine ⟨_,⟨by omega,getMap hx⟩,?_⟩
   (conv=>whnf)
   refine split_intro (fun h2=>?_) (fun h2=>?_)
   ·have hx2 : (x == 32) = false := by
     cases hq : (x == 32) with
     | false=>rfl
     | true=>have:=eq_of_beq hq; subst this; simp at h2
    have e : l.all (· == 32) = false := by
     rw [List.all_eq_false]
     exact ⟨x,List.mem_of_getElem? hx,by simp [hx2]⟩
    rw [e]
    (conv=>whnf)
    exact Wk.refl _
   ·have hx2 : x = 32 := UInt8.toNat_inj.1 (by
     have : ((x.toNat : Int) != 32) = false:=h2
     simp at this; simp; omega)
    subst hx2
    (conv=>whnf)
    refine ⟨_,add64 (c:=((k + 1 : Nat) : Int)) (by (try simp only []); omega) (by omega),?_⟩
    (conv=>whnf)
    refine ⟨k + 1,⟨⟨by omega,by rw [List.take_add_one,hx]; simp [hk.2]⟩,by simp only []; omega⟩,?_⟩
    exact okT
  ·have hge : l.length ≤ k := by have := of_decide_eq_false h; simp only [List.length_map] at this; omega
   have e:=hk.2
   rw [List.take_of_length_le hge] at e
   rw [e]
   (conv=>whnf)
   exact Wk.refl _
end Go.Proofs.YtimjnmbpbobfiaaGreatDoor.H

namespace Go.Proofs.YtimjnmbpbobfiaaGreatDoor.O
open Go Go.AL Go.AL.Ap
set_option maxRecDepth 100000
theorem ibs (s : Str) (c : Int) : ECall Tryz.prog 143 [sD s, .v (.int .u8 c)] (vI (Lib.indexByte s c.toNat.toUInt8)) :=
 ibs_ Tryz.func143 (by kernel_rfl) (by kernel_rfl) (by kernel_rfl) (by kernel_rfl) s c
theorem ibb (s : List UInt8) (c : Int) : ECall Tryz.prog 124 [LB s, .v (.int .u8 c)] (vI (Lib.indexByte s c.toNat.toUInt8)) :=
 ibb_ Tryz.func124 (by kernel_rfl) (by kernel_rfl) (by kernel_rfl) (by kernel_rfl) s c
theorem has0 (s : Str) : decide (0 ≤ Lib.indexByte s 0) = decide ((0 : UInt8) ∈ s) := by
 rw [ib_spec]
 by_cases h : (0 : UInt8) ∈ s
 ·have : s.dropWhile isz ≠ [] := by
   intro e
   have h2:=List.takeWhile_append_dropWhile (p:=isz) (l:=s)
   rw [e,List.append_nil] at h2
   have h3:=List.all_takeWhile (p:=isz) (l:=s)
   rw [h2] at h3
   have:=List.all_eq_true.1 h3 0 h
   simp [isz] at this
  rw [if_neg this]; simp [h]
 ·have := dw_app (isz_of h) []
  simp only [List.append_nil,List.dropWhile_nil] at this
  rw [if_pos this]; simp [h]
theorem sibyte_ [Go.AL.MX] (s : Str) (c : Int) : FCall Tryz.prog Gl 125 [sD s, .v (.int .u8 c)] [] (vI (Lib.indexByte s c.toNat.toUInt8)) [] := by
 refine FCall.enterL hT hmix [] Tryz.func125 rfl rfl rfl fun hbd=>?_
 (conv=>whnf)
 refine CallLeaf.e (Wks.cons (Wk.refl _) (Wks.cons (Wk.refl _) Wks.nil)) (ibs s c) ?_
 (conv=>whnf)
 exact Wk.refl _
theorem bibyte_ [Go.AL.MX] (s : List UInt8) (c : Int) : FCall Tryz.prog Gl 109 [LB s, .v (.int .u8 c)] [] (vI (Lib.indexByte s c.toNat.toUInt8)) [] := by
 refine FCall.enterL hT hmix [] Tryz.func109 rfl rfl rfl fun hbd=>?_
 (conv=>whnf)
 refine CallLeaf.e (Wks.cons (Wk.refl _) (Wks.cons (Wk.refl _) Wks.nil)) (ibb s c) ?_
 (conv=>whnf)
 exact Wk.refl _
theorem slindex_ [Go.AL.MX] (s : Str) (c : UInt8) : FCall Tryz.prog Gl 111 [sD s, sD [c]] [] (vI (Lib.indexByte s c)) [] := by
 have h1:=sibyte_ s (c.toNat : Int)
 simp only [Int.toNat_natCast,Nat.toUInt8] at h1
 refine FCall.enterL hT hmix [] Tryz.func111 rfl rfl rfl fun hbd=>?_
 (conv=>whnf)
 refine split_intro (fun h=>?_) (fun h=>?_)
 ·have e : [c] = s := of_decide_eq_true h
  subst e
  (conv=>whnf)
  exact Wk.int (by simp [Lib.indexByte])
 ·(conv => whnf)
  refine ⟨c,⟨by decide,rfl⟩,?_⟩
  (conv=>whnf)
  refine CallLeaf.wa (h1) rfl ?_
  (conv=>whnf)
  exact Wk.int (by simp)
theorem sindex_ [Go.AL.MX] (s : Str) (c : UInt8) : FCall Tryz.prog Gl 98 [sD s, sD [c]] [] (vI (Lib.indexByte s c)) [] := by
 refine FCall.enterL hT hmix [] Tryz.func98 rfl rfl rfl fun hbd=>?_
 (conv=>whnf)
 refine CallLeaf.wa (slindex_ s c) rfl ?_
 (conv=>whnf)
 exact Wk.refl _
theorem contains0_ [Go.AL.MX] (s : Str) : FCall Tryz.prog Gl 84 [sD s, sD [0]] [] (vB (decide ((0 : UInt8) ∈ s))) [] := by
 refine FCall.enterL hT hmix [] Tryz.func84 rfl rfl rfl fun hbd=>?_
 (conv=>whnf)
 refine CallLeaf.wa (sindex_ s 0) rfl ?_
 (conv=>whnf)
 exact Wk.bool (has0 s)
end Go.Proofs.YtimjnmbpbobfiaaGreatDoor.O

namespace Go.Proofs.YtimjnmbpbobfiaaGreatDoor.O
open Go Go.AL Go.AL.Ap
set_option maxRecDepth 100000
abbrev B (l : List UInt8) : List (List D):=l.map byteD
theorem word_ [Go.AL.MX] (n : Nat) (hn : n < 4294967296) : FCall Tryz.prog Gl 43 [vI n] [] (LBn (W4 n)) [] := by
 refine FCall.enterL hT hmix [] Tryz.func43 rfl rfl rfl fun hbd=>?_
 (conv=>whnf)
 refine ⟨_,quo64k (b:=16777216) rfl (by omega) (by omega),?_⟩
 (conv=>whnf)
 refine ⟨_,wrapU8 _,?_⟩
 (conv=>whnf)
 refine ⟨_,quo64k (b:=65536) rfl (by omega) (by omega),?_⟩
 (conv=>whnf)
 refine ⟨_,wrapU8 _,?_⟩
 (conv=>whnf)
 refine ⟨_,quo64k (b:=256) rfl (by omega) (by omega),?_⟩
 (conv=>whnf)
 refine ⟨_,wrapU8 _,?_⟩
 (conv=>whnf)
 refine ⟨_,wrapU8 _,?_⟩
 (conv=>whnf)
 exact Wk.nat' rfl
end Go.Proofs.YtimjnmbpbobfiaaGreatDoor.O

namespace Go.Proofs.YtimjnmbpbobfiaaGreatDoor.O
open Go Go.AL Go.AL.Ap
set_option maxRecDepth 100000
theorem num4 (a b c d : UInt8) (r : List UInt8) : num (a :: b :: c :: d :: r) = ((a.toNat * 256 + b.toNat) * 256 + c.toNat) * 256 + d.toNat:=rfl
theorem split4 : ∀ {b : List UInt8}, 4 ≤ b.length → ∃ x y z w r, b = x :: y :: z :: w :: r
 | x :: y :: z :: w :: r,_=>⟨x,y,z,w,r,rfl⟩
theorem number_ [Go.AL.MX] (b : List UInt8) (hb : 4 ≤ b.length) : FCall Tryz.prog Gl 39 [LB b] [] (vI (num b)) [] := by
 obtain ⟨x,y,z,w,r,rfl⟩:=split4 hb
 have hx:=x.toNat_lt
 have hy:=y.toNat_lt
 have hz:=z.toNat_lt
 have hw:=w.toNat_lt
 refine FCall.enterL hT hmix [] Tryz.func39 rfl rfl rfl fun hbd=>?_
 (conv=>whnf)
 refine ⟨_,⟨by decide,rfl⟩,?_⟩
 (conv=>whnf)
 refine ⟨_,wrap64 (by omega),?_⟩
 (conv=>whnf)
 refine ⟨_,mulN (b:=256) rfl rfl (by omega),?_⟩
 (conv=>whnf)
 refine ⟨_,⟨by decide,rfl⟩,?_⟩
 (conv=>whnf)
 refine ⟨_,wrap64 (by omega),?_⟩
 (conv=>whnf)
 refine ⟨_,addN rfl (by omega),?_⟩
 (conv=>whnf)
 refine ⟨_,mulN (b:=256) rfl rfl (by omega),?_⟩
 (conv=>whnf)
 refine ⟨_,⟨by decide,rfl⟩,?_⟩
 (conv=>whnf)
 refine ⟨_,wrap64 (by omega),?_⟩
 (conv=>whnf)
 refine ⟨_,addN rfl (by omega),?_⟩
 (conv=>whnf)
 refine ⟨_,mulN (b:=256) rfl rfl (by omega),?_⟩
 (conv=>whnf)
 refine ⟨_,⟨by decide,rfl⟩,?_⟩
 (conv=>whnf)
 refine ⟨_,wrap64 (by omega),?_⟩
 (conv=>whnf)
 refine ⟨_,addN rfl (by omega),?_⟩
 (conv=>whnf)
 exact Wk.refl _
theorem get_ [Go.AL.MX] (b : List UInt8) (hb : 4 ≤ b.length) : FCall Tryz.prog Gl 96 [LB b] [] (vI (num b)) [] := by
 obtain ⟨x,y,z,w,r,rfl⟩:=split4 hb
 have hx:=x.toNat_lt
 have hy:=y.toNat_lt
 have hz:=z.toNat_lt
 have hw:=w.toNat_lt
 refine FCall.enterL hT hmix [] Tryz.func96 rfl rfl rfl fun hbd=>?_
 (conv=>whnf)
 refine ⟨_,⟨by decide,rfl⟩,?_⟩
 (conv=>whnf)
 refine ⟨_,wrap64 (by omega),?_⟩
 (conv=>whnf)
 refine ⟨_,shl64n (k:=24) (by omega) rfl (by omega),?_⟩
 (conv=>whnf)
 refine ⟨_,⟨by decide,rfl⟩,?_⟩
 (conv=>whnf)
 refine ⟨_,wrap64 (by omega),?_⟩
 (conv=>whnf)
 refine ⟨_,shl64n (k:=16) (by omega) rfl (by omega),?_⟩
 (conv=>whnf)
 refine ⟨_,or64n (x.toNat) 24 rfl (by omega) rfl (by omega),?_⟩
 (conv=>whnf)
 refine ⟨_,⟨by decide,rfl⟩,?_⟩
 (conv=>whnf)
 refine ⟨_,wrap64 (by omega),?_⟩
 (conv=>whnf)
 refine ⟨_,shl64n (k:=8) (by omega) rfl (by omega),?_⟩
 (conv=>whnf)
 refine ⟨_,or64n (x.toNat * 256 + y.toNat) 16 (by omega) (by omega) rfl (by omega),?_⟩
 (conv=>whnf)
 refine ⟨_,⟨by decide,rfl⟩,?_⟩
 (conv=>whnf)
 refine ⟨_,wrap64 (by omega),?_⟩
 (conv=>whnf)
 refine ⟨_,or64n ((x.toNat * 256 + y.toNat) * 256 + z.toNat) 8 (by omega) (by omega) rfl (by omega),?_⟩
 (conv=>whnf)
 exact Wk.int (by rw [num4]; omega)
end Go.Proofs.YtimjnmbpbobfiaaGreatDoor.O

namespace Go.Proofs.YtimjnmbpbobfiaaGreatDoor.O
open Go Go.AL Go.AL.Ap
set_option maxRecDepth 100000
abbrev fNext : D:=.func (.func 108) [] [.ptr 0 0]
abbrev fLeft : D:=.func (.func 110) [] [.ptr 0 0]
theorem names_ [Go.AL.MX] (r : List UInt8) : FCall Tryz.prog Gl 97 [LB r] [] (.tuple [fNext, fLeft]) [.cells [LB r]] := by
 refine FCall.enterO hT hmix [] Tryz.func97 rfl rfl rfl fun hbd=>?_
 (conv=>whnf)
 refine ⟨[0],rfl,finT,?_⟩
 exact Wk.refl _
theorem left_ [Go.AL.MX] (r : List UInt8) : FCall Tryz.prog Gl 110 [.ptr 0 0] [.cells [LB r]] (vI r.length) [.cells [LB r]] := by
 refine FCall.enterO hT hmix [] Tryz.func110 rfl rfl rfl fun hbd=>?_
 (conv=>whnf)
 refine ⟨[0],rfl,finT,?_⟩
 exact Wk.int (by simp)
theorem next_ [Go.AL.MX] (r : List UInt8) (s : Str) (r' : List UInt8) (h : next r = some (s, r')) (hb : r.length ≤ 1000000000000) :
  FCall Tryz.prog Gl 108 [.ptr 0 0] [.cells [LB r]] (.tuple [sD s,vB true]) [.cells [LB r']]:=by
 obtain ⟨e1,e2,e3⟩:=next_some h
 unfold next at h
 split at h
 ·simp at h
 ·rename_i hn
  simp only [not_or] at hn
  simp only [Option.some.injEq,Prod.mk.injEq] at h
  obtain ⟨h1,h2⟩:=h
  have hib:=bibyte_ r 0
  have hsp : Lib.indexByte r (0 : Int).toNat.toUInt8 = (s.length : Int) := by
   show Lib.indexByte r 0 = _
   rw [ib_spec,if_neg hn.2,h1]
  rw [hsp] at hib
  have hlen : r.length = s.length + 1 + r'.length:=by rw [e1]; simp; omega
  have hs0 : 0 < s.length:=List.length_pos_iff.2 e2
  have t1 : r.take s.length = s:=by rw [← h1,take_tw]
  have t2 : r.drop (s.length + 1) = r':=by rw [← h1,← h2,drop_tw]
  refine FCall.enterO hT hmix [] Tryz.func108 rfl rfl rfl fun hbd=>?_
  (conv=>whnf)
  refine CallLeaf.wa (hib) rfl ?_
  (conv=>whnf)
  refine split_intro (fun h=>absurd h (by (simp; omega))) (fun _=>?_)
  (conv=>whnf)
  refine ⟨_,slL (f:=byteD) (l:=r) (r:=s) (s:=1) (by decide) (by omega) (by simp; omega) (fun _=>rfl) (by simpa using t1),?_⟩
  (conv=>whnf)
  refine ⟨s,rfl,?_⟩
  (conv=>whnf)
  refine ⟨((s.length + 1 : Nat) : Int),add64 (by omega) (by omega),?_⟩
  (conv=>whnf)
  refine ⟨_,slL (f:=byteD) (l:=r) (r:=r') (s:=1) (by omega) (by simp; omega) (by simp) (fun _=>rfl) (by simpa using t2),?_⟩
  (conv=>whnf)
  refine ⟨[0],rfl,finT,?_⟩
  exact Wk.refl _
theorem next0_ [Go.AL.MX] (r : List UInt8) (h : next r = none) : FCall Tryz.prog Gl 108 [.ptr 0 0] [.cells [LB r]] (.tuple [sD [], vB false]) [.cells [LB r]] := by
 have hib:=bibyte_ r 0
 have hsp : Lib.indexByte r (0 : Int).toNat.toUInt8 ≤ 0 := by
  show Lib.indexByte r 0 ≤ _
  rw [ib_spec]
  unfold next at h
  split at h
  ·rename_i hn
   split
   ·omega
   ·rename_i h2
    rcases hn with hn|hn
    ·simp [hn]
    ·exact absurd hn h2
  ·simp at h
 generalize Lib.indexByte r (0 : Int).toNat.toUInt8 = c at *
 refine FCall.enterO hT hmix [] Tryz.func108 rfl rfl rfl fun hbd=>?_
 (conv=>whnf)
 refine CallLeaf.wa (hib) rfl ?_
 (conv=>whnf)
 refine split_intro (fun _=>?_) (fun h=>absurd h (by (simp; omega)))
 (conv=>whnf)
 refine ⟨[0],rfl,finT,?_⟩
 exact Wk.refl _
end Go.Proofs.YtimjnmbpbobfiaaGreatDoor.O

namespace Go.Proofs.YtimjnmbpbobfiaaGreatDoor.O
open Go Go.AL Go.AL.Ap
set_option maxRecDepth 100000
abbrev LE (l : List Ent) : D:=.list .any (l.map Ent.enc)
abbrev LEn (l : List Ent) : D:=.list .nat (l.map Ent.enc)
end Go.Proofs.YtimjnmbpbobfiaaGreatDoor.O

namespace Go.Proofs.YtimjnmbpbobfiaaGreatDoor.O
open Go Go.AL Go.AL.Ap
set_option maxRecDepth 100000
def decR (b : List UInt8) : List Ent × Int:=match dec b with|some q=>(q,0)|none=>([],8)
theorem decR_none {b : List UInt8} (h : dec b = none) : decR b = ([],8):=by simp [decR,h]
theorem decR_some {b : List UInt8} {q : List Ent} (h : dec b = some q) : decR b = (q,0):=by simp [decR,h]
theorem decode_ [Go.AL.MX] (b : List UInt8) (hb : b.length ≤ 1000000000) : FCall Tryz.prog Gl 78 [LB b] [] (.tuple [LEn (decR b).1, vI (decR b).2]) [] := by
 refine FCall.enterL hT hmix [] Tryz.func78 rfl rfl rfl fun hbd=>?_
 (conv=>whnf)
 refine split_intro (fun h=>?_) (fun h=>?_)
 ·have hr := decR_none (b := b) (by have := of_decide_eq_true h; simp at this; simp [dec]; omega)
  rw [hr]
  (conv=>whnf)
  exact Wk.tuple (Wks.cons (Wk.natN rfl) (Wks.cons (Wk.refl _) Wks.nil))
 ·have h4 : 4 ≤ b.length := by have := of_decide_eq_false h; simp at this; omega
  have hd : dec b = if (b.length - 4) / 4 < num b then none else decL (b.drop 4) 0 (num b) ((b.drop 4).drop (4 * num b)) := by
   unfold dec; rw [if_neg (by omega)]
  generalize hn : num b = n at hd
  generalize ht : b.drop 4 = t at hd
  have hg:=get_ b h4
  rw [hn] at hg
  have htl : t.length = b.length - 4:=by rw [← ht]; simp
  have hn32:=num_lt b
  rw [hn] at hn32
  (conv=>whnf)
  refine CallLeaf.wa (hg) rfl ?_
  (conv=>whnf)
  refine ⟨_,slDrop (f:=byteD) (l:=b) (a:=4) rfl h4 (fun _=>rfl) ht,?_⟩
  (conv=>whnf)
  refine ⟨((t.length / 4 : Nat) : Int),by simpa using quo64k (a:=t.length) (b:=4) rfl (by omega) (by omega),?_⟩
  (conv=>whnf)
  refine split_intro (fun h1=>?_) (fun h1=>?_)
  ·have h1' : (b.length - 4) / 4 < n := by have := of_decide_eq_true h1; omega
   rw [if_pos h1'] at hd
   rw [decR_none hd]
   (conv=>whnf)
   exact Wk.tuple (Wks.cons (Wk.natN rfl) (Wks.cons (Wk.refl _) Wks.nil))
  ·have h1' : ¬ (b.length - 4) / 4 < n := by have := of_decide_eq_false h1; omega
   rw [if_neg h1'] at hd
   have hn4 : 4 * n ≤ t.length:=by omega
   generalize hr0 : t.drop (4 * n) = r0 at hd
   have hr0l : r0.length ≤ t.length:=by rw [← hr0]; simp
   (conv=>whnf)
   refine ⟨((n * 4 : Nat) : Int),mulN (b:=4) rfl rfl (by omega),?_⟩
   (conv=>whnf)
   refine ⟨_,slDrop (f:=byteD) (l:=t) (a:=n * 4) rfl (by omega) (r:=r0) (fun _=>rfl) (by rw [Nat.mul_comm]; exact hr0),?_⟩
   (conv=>whnf)
   refine CallLeaf.oa [3616] (names_ r0) rfl rfl rfl rfl ?_
   (conv=>whnf)
   refine LWp.loop hT hmix [] (fun x : Nat × List Ent × List UInt8=>[(32,vI x.1),(7,.list (.tok 900001) (x.2.1.map Ent.enc))]) (fun x=>[(900001,.tok (x.2.1.map Ent.enc).length 2),(3616,.cells [LB x.2.2])]) (fun x=>x.1 ≤ n ∧ x.2.1.length = x.1 ∧ x.2.2.length ≤ t.length ∧ dec b = (decL t x.1 (n - x.1) x.2.2).map (x.2.1 ++ ·)) (fun x=>n - x.1) (0,[],r0) ⟨Nat.zero_le _,rfl,hr0l,by rw [hd]; simp⟩ ?_
   (conv=>whnf)
   refine ⟨?_,fun ⟨k,out,r⟩ ⟨hk,hol,hrl,hdec⟩=>?_⟩
   ·exact okT
   ·replace hk : k ≤ n := hk
    replace hol : out.length = k:=hol
    replace hrl : r.length ≤ t.length:=hrl
    replace hdec : dec b = (decL t k (n - k) r).map (out ++ ·):=hdec
    (conv=>whnf)
    refine split_intro (fun h2=>?_) (fun h2=>?_)
    ·have hlt : k < n := by have := of_decide_eq_true h2; omega
     obtain ⟨m,hm⟩ : ∃ m,n - k = m + 1:=⟨n - k - 1,by omega⟩
     rw [hm,decL] at hdec
     cases hnx : next r with
     | none =>
      rw [hnx] at hdec
      rw [decR_none hdec]
      (conv=>whnf)
      refine CallLeaf.oa [3616] (next0_ r hnx) rfl rfl rfl rfl ?_
      (conv=>whnf)
      exact Wk.tuple (Wks.cons (Wk.natN rfl) (Wks.cons (Wk.refl _) Wks.nil))
     | some p =>
      obtain ⟨s,r'⟩:=p
      rw [hnx] at hdec
      have hr':=(next_some hnx).1
      have hlr : r'.length ≤ r.length:=by rw [hr']; simp; omega
      have hg2:=get_ (t.drop (4 * k)) (by simp; omega)
      (conv=>whnf)
      refine CallLeaf.oa [3616] (next_ r s r' hnx (by omega)) rfl rfl rfl rfl ?_
      (conv=>whnf)
      refine ⟨((k * 4 : Nat) : Int),mulN (b:=4) rfl rfl (by omega),?_⟩
      (conv=>whnf)
      refine ⟨_,slDrop (f:=byteD) (l:=t) (a:=k * 4) rfl (by omega) (r:=t.drop (4 * k)) (fun _=>rfl) (by rw [Nat.mul_comm]),?_⟩
      (conv=>whnf)
      refine CallLeaf.wa (hg2) rfl ?_
      (conv=>whnf)
      refine ⟨_,appL (f:=Ent.enc) (xs:=out) (ys:=[(s,(num (t.drop (4 * k)) : Int))]) (zs:=out ++ [(s,(num (t.drop (4 * k)) : Int))]) rfl rfl (fun _=>rfl) rfl (by rw [List.length_append]; show (_ + 1) * 24 ≤ _; omega),?_⟩
      (conv=>whnf)
      refine ⟨_,add64 (c:=((k + 1 : Nat) : Int)) (by omega) (by omega),?_⟩
      (conv=>whnf)
      refine ⟨(k + 1,out ++ [(s,(num (t.drop (4 * k)) : Int))],r'),⟨⟨by show k + 1 ≤ n; omega,by simp [hol],by show r'.length ≤ _; omega,?_⟩,by show n - (k + 1) < n - k; omega⟩,?_⟩
      ·show dec b = (decL t (k + 1) (n - (k + 1)) r').map (_ ++ ·)
       rw [hdec,show n - (k + 1) = m by omega]
       simp only [Option.map_map]
       congr 1
       funext q
       simp
      ·exact okT
    ·have hge : n - k = 0 := by have := of_decide_eq_false h2; omega
     rw [hge,decL] at hdec
     (conv=>whnf)
     refine CallLeaf.oa [3616] (left_ r) rfl rfl rfl rfl ?_
     (conv=>whnf)
     refine split_intro (fun h3=>?_) (fun h3=>?_)
     ·have hne : r ≠ [] := by have := of_decide_eq_true h3; intro e; subst e; simp at this
      rw [if_neg hne] at hdec
      rw [decR_none hdec]
      (conv=>whnf)
      exact Wk.tuple (Wks.cons (Wk.natN rfl) (Wks.cons (Wk.refl _) Wks.nil))
     ·have he : r = [] := by have := of_decide_eq_false h3; exact List.eq_nil_of_length_eq_zero (by omega)
      rw [if_pos he] at hdec
      rw [decR_some (q:=out) (by simpa using hdec)]
      (conv=>whnf)
      exact Wk.tuple (Wks.cons (Wk.nat' rfl) (Wks.cons (Wk.refl _) Wks.nil))
end Go.Proofs.YtimjnmbpbobfiaaGreatDoor.O

namespace Go.Proofs.YtimjnmbpbobfiaaGreatDoor.O
open Go Go.AL Go.AL.Ap
set_option maxRecDepth 100000
theorem num_take {x : List UInt8} (h : 4 ≤ x.length) : num (x.take 4) = num x := by
 obtain ⟨a,b,c,d,r,rfl⟩:=split4 h
 rfl
theorem sB_app (a b : Str) : sB a ++ sB b = sB (a ++ b) := by
 simp [sB,ByteArray.append]
 apply ByteArray.ext
 simp
theorem sB_sz (s : Str) : (sB s).size = s.length:=by simp [sB,ByteArray.size]
theorem rdecode_ [Go.AL.MX] (b : List UInt8) (hb : b.length ≤ 1000000000) : FCall Tryz.prog Gl 71 [LB b] [] (.tuple [LEn (decR b).1, vI (decR b).2]) [] := by
 refine FCall.enterL hT hmix [] Tryz.func71 rfl rfl rfl fun hbd=>?_
 (conv=>whnf)
 refine split_intro (fun h=>?_) (fun h=>?_)
 ·have hr := decR_none (b := b) (by have := of_decide_eq_true h; simp at this; simp [dec]; omega)
  rw [hr]
  (conv=>whnf)
  exact Wk.tuple (Wks.cons (Wk.natN rfl) (Wks.cons (Wk.refl _) Wks.nil))
 ·have h4 : 4 ≤ b.length := by have := of_decide_eq_false h; simp at this; omega
  have hd : dec b = if (b.length - 4) / 4 < num b then none else decL (b.drop 4) 0 (num b) (b.drop (4 + 4 * num b)) := by
   unfold dec; rw [if_neg (by omega),List.drop_drop]
  have hg:=number_ (b.take 4) (by simp; omega)
  rw [num_take h4] at hg
  have hn32:=num_lt b
  generalize hn : num b = n at hd hg hn32
  (conv=>whnf)
  refine ⟨_,slTake (f:=byteD) (l:=b) (b:=4) (r:=b.take 4) rfl h4 (fun _=>rfl) rfl,?_⟩
  (conv=>whnf)
  refine CallLeaf.wa (hg) rfl ?_
  (conv=>whnf)
  refine ⟨((4 * n : Nat) : Int),mul64 (by simp) (by omega),?_⟩
  (conv=>whnf)
  refine ⟨((4 + 4 * n : Nat) : Int),add64 (by simp) (by omega),?_⟩
  (conv=>whnf)
  refine split_intro (fun h1=>?_) (fun h1=>?_)
  ·have h1' : (b.length - 4) / 4 < n := by have := of_decide_eq_true h1; simp at this; omega
   rw [if_pos h1'] at hd
   rw [decR_none hd]
   (conv=>whnf)
   exact Wk.tuple (Wks.cons (Wk.natN rfl) (Wks.cons (Wk.refl _) Wks.nil))
  ·have h1' : ¬ (b.length - 4) / 4 < n := by have := of_decide_eq_false h1; simp at this; omega
   rw [if_neg h1'] at hd
   have hn4 : 4 + 4 * n ≤ b.length:=by omega
   (conv=>whnf)
   refine LWp.loop hT hmix [] (fun x : Nat × List Ent × Nat=>[(7,vI x.1),(6,.list (.tok 900001) (x.2.1.map Ent.enc)),(5,vI x.2.2)]) (fun x=>[(900001,.tok (x.2.1.map Ent.enc).length 2)]) (fun x=>x.1 ≤ n ∧ x.2.1.length = x.1 ∧ x.2.2 ≤ b.length ∧ dec b = (decL (b.drop 4) x.1 (n - x.1) (b.drop x.2.2)).map (x.2.1 ++ ·)) (fun x=>n - x.1) (0,[],4 + 4 * n) ⟨Nat.zero_le _,rfl,hn4,by rw [hd]; simp⟩ ?_
   (conv=>whnf)
   refine ⟨?_,fun ⟨k,out,p⟩ ⟨hk,hol,hp,hdec⟩=>?_⟩
   ·exact okT
   ·replace hk : k ≤ n := hk
    replace hol : out.length = k:=hol
    replace hp : p ≤ b.length:=hp
    replace hdec : dec b = (decL (b.drop 4) k (n - k) (b.drop p)).map (out ++ ·):=hdec
    (conv=>whnf)
    refine split_intro (fun h2=>?_) (fun h2=>?_)
    ·have hlt : k < n := by have := of_decide_eq_true h2; omega
     obtain ⟨m,hm⟩ : ∃ m,n - k = m + 1:=⟨n - k - 1,by omega⟩
     rw [hm,decL] at hdec
     (conv=>whnf)
     refine LWp.loop hT hmix [] (fun x : Str=>[(8,sD x),(5,vI (p + x.length : Nat))]) (fun _=>[]) (fun x=>p + x.length ≤ b.length ∧ (b.drop p).takeWhile isz = x ++ (b.drop (p + x.length)).takeWhile isz ∧ (b.drop p).dropWhile isz = (b.drop (p + x.length)).dropWhile isz) (fun x=>b.length - (p + x.length)) [] ⟨hp,rfl,rfl⟩ ?_
     (conv=>whnf)
     refine ⟨?_,fun x ⟨hx1,hx2,hx3⟩=>?_⟩
     ·exact okT
     ·(conv => whnf)
      refine split_intro (fun g1=>?_) (fun g1=>?_)
      ·have hpl : p + x.length < b.length := by have := of_decide_eq_true g1; simp at this; omega
       obtain ⟨u,hu⟩:=exI hpl
       have hdu : b.drop (p + x.length) = u :: b.drop (p + x.length + 1) := by
        rw [List.drop_eq_getElem_cons hpl]
        rw [List.getElem?_eq_getElem hpl] at hu
        injection hu with hu; rw [hu]
       (conv=>whnf)
       refine ⟨_,⟨by omega,getMap hu⟩,?_⟩
       (conv=>whnf)
       refine split_intro (fun g2=>?_) (fun g2=>?_)
       ·have hu0 : isz u = true := by
         simp only [isz,bne_iff_ne]
         intro e; subst e; simp at g2
        have hone : (b.take (p + x.length + 1)).drop (p + x.length) = [u] := by
         rw [List.drop_take,hdu,show p + x.length + 1 - (p + x.length) = 1 by omega]; rfl
        (conv=>whnf)
        refine ⟨((p + x.length + 1 : Nat) : Int),add64 (by omega) (by omega),?_⟩
        (conv=>whnf)
        refine ⟨_,slN (f:=byteD) (l:=b) (a:=p + x.length) (b:=p + x.length + 1) (r:=[u]) rfl rfl (by omega) (by omega) (fun _=>rfl) hone,?_⟩
        (conv=>whnf)
        refine ⟨[u],rfl,?_⟩
        (conv=>whnf)
        refine ⟨sB (x ++ [u]),⟨by have:=sB_sz x; have:=sB_sz [u]; show (sB x).size + (sB [u]).size ≤ _; simp at *; omega,sB_app x [u]⟩,?_⟩
        (conv=>whnf)
        refine ⟨((p + x.length + 1 : Nat) : Int),add64 (by omega) (by omega),?_⟩
        (conv=>whnf)
        refine ⟨x ++ [u],⟨⟨by simp; omega,?_,?_⟩,by simp; omega⟩,?_⟩
        ·rw [hx2,hdu,List.takeWhile_cons_of_pos hu0]; simp [Nat.add_assoc]
        ·rw [hx3,hdu,List.dropWhile_cons_of_pos hu0]; simp [Nat.add_assoc]
        ·(repeat' (first | exact trivial | exact Wk.refl _ | exact ObWk.refl _ | exact rfl | exact ⟨_, rfl⟩ | exact Nat.zero_lt_one | refine And.intro ?_ ?_ | unfold okTo | (unfold okO; conv => whnf) | (unfold okS; conv => whnf) | (unfold SlotOk; conv => whnf) | (unfold ObjOk; conv => whnf) | (unfold okCells; conv => whnf) | (unfold liveTo; conv => whnf) | exact Nat.zero_lt_succ _))
         all_goals exact Wk.int (by simp; omega)
       ·have hu0 : u = 0 := by
         have : (u.toNat : Int) = 0:=by simpa using g2
         exact UInt8.toNat_inj.1 (by simpa using this)
        subst hu0
        rw [hdu] at hx2 hx3
        have htw : (b.drop p).takeWhile isz = x:=by rw [hx2]; simp [isz]
        have hdw : (b.drop p).dropWhile isz = 0 :: b.drop (p + x.length + 1):=by rw [hx3]; simp [isz]
        (conv=>whnf)
        refine split_intro (fun g3=>?_) (fun g3=>?_)
        ·have hx0 : x = [] := of_decide_eq_true g3
         have hnx : next (b.drop p) = none:=by unfold next; rw [if_pos (.inl (by rw [htw,hx0]))]
         rw [hnx] at hdec
         rw [decR_none hdec]
         (conv=>whnf)
         exact Wk.tuple (Wks.cons (Wk.natN rfl) (Wks.cons (Wk.refl _) Wks.nil))
        ·have hx0 : ¬ x = [] := of_decide_eq_false g3
         have hnx : next (b.drop p) = some (x, b.drop (p + x.length + 1)) := by
          unfold next
          rw [if_neg (by rw [htw,hdw]; simp [hx0]),htw,hdw]
          rfl
         rw [hnx] at hdec
         simp only [List.drop_drop] at hdec
         have hg2:=number_ ((b.drop (4 + 4 * k)).take 4) (by simp; omega)
         rw [num_take (by simp; omega)] at hg2
         (conv=>whnf)
         refine split_intro (fun h=>absurd h (by (simp; omega))) (fun _=>?_)
         (conv=>whnf)
         refine ⟨((p + x.length + 1 : Nat) : Int),add64 (by omega) (by omega),?_⟩
         (conv=>whnf)
         refine ⟨((4 * k : Nat) : Int),mul64 (by simp) (by omega),?_⟩
         (conv=>whnf)
         refine ⟨((4 + 4 * k : Nat) : Int),add64 (by simp) (by omega),?_⟩
         (conv=>whnf)
         refine ⟨((4 * k : Nat) : Int),mul64 (by simp) (by omega),?_⟩
         (conv=>whnf)
         refine ⟨((8 + 4 * k : Nat) : Int),add64 (by simp) (by omega),?_⟩
         (conv=>whnf)
         refine ⟨_,slN (f:=byteD) (l:=b) (a:=4 + 4 * k) (b:=8 + 4 * k) (r:=(b.drop (4 + 4 * k)).take 4) rfl rfl (by omega) (by omega) (fun _=>rfl) (by rw [List.drop_take]; congr 1; omega),?_⟩
         (conv=>whnf)
         refine CallLeaf.wa (hg2) rfl ?_
         (conv=>whnf)
         refine ⟨_,appL (f:=Ent.enc) (xs:=out) (ys:=[(x,(num (b.drop (4 + 4 * k)) : Int))]) (zs:=out ++ [(x,(num (b.drop (4 + 4 * k)) : Int))]) rfl rfl (fun _=>rfl) rfl (by rw [List.length_append]; show (_ + 1) * 24 ≤ _; omega),?_⟩
         (conv=>whnf)
         refine ⟨_,add64 (c:=((k + 1 : Nat) : Int)) (by omega) (by omega),?_⟩
         (conv=>whnf)
         refine ⟨(k + 1,out ++ [(x,(num (b.drop (4 + 4 * k)) : Int))],p + x.length + 1),⟨⟨by show k + 1 ≤ n; omega,by simp [hol],by show p + x.length + 1 ≤ _; omega,?_⟩,by show n - (k + 1) < n - k; omega⟩,?_⟩
         ·show dec b = (decL (b.drop 4) (k + 1) (n - (k + 1)) (b.drop (p + x.length + 1))).map (_ ++ ·)
          rw [hdec,show n - (k + 1) = m by omega]
          simp only [Option.map_map]
          congr 1
          funext q
          simp
         ·exact okT
      ·have hpl : p + x.length = b.length := by have := of_decide_eq_false g1; simp at this; omega
       have hdn : b.drop (p + x.length) = []:=List.drop_of_length_le (by omega)
       rw [hdn] at hx2 hx3
       have hnx : next (b.drop p) = none:=by unfold next; rw [if_pos (.inr (by rw [hx3]; rfl))]
       rw [hnx] at hdec
       rw [decR_none hdec]
       (conv=>whnf)
       refine split_intro (fun g3=>?_) (fun g3=>?_)
       ·(conv => whnf)
        exact Wk.tuple (Wks.cons (Wk.natN rfl) (Wks.cons (Wk.refl _) Wks.nil))
       ·(conv => whnf)
        refine split_intro (fun _=>?_) (fun h=>absurd h (by (simp; omega)))
        (conv=>whnf)
        exact Wk.tuple (Wks.cons (Wk.natN rfl) (Wks.cons (Wk.refl _) Wks.nil))
    ·have hge : n - k = 0 := by have := of_decide_eq_false h2; omega
     rw [hge,decL] at hdec
     (conv=>whnf)
     refine split_intro (fun h3=>?_) (fun h3=>?_)
     ·have hne : b.drop p ≠ [] := by
       intro e
       have : p = b.length:=by have:=List.drop_eq_nil_iff.1 e; omega
       subst this
       simp at h3
      rw [if_neg hne] at hdec
      rw [decR_none hdec]
      (conv=>whnf)
      exact Wk.tuple (Wks.cons (Wk.natN rfl) (Wks.cons (Wk.refl _) Wks.nil))
     ·have he : b.drop p = [] := by
       have : (p : Int) = b.length:=by simpa using h3
       exact List.drop_of_length_le (by omega)
      rw [if_pos he] at hdec
      rw [decR_some (q:=out) (by simpa using hdec)]
      (conv=>whnf)
      exact Wk.tuple (Wks.cons (Wk.nat' rfl) (Wks.cons (Wk.refl _) Wks.nil))
end Go.Proofs.YtimjnmbpbobfiaaGreatDoor.O

namespace Go.Proofs.YtimjnmbpbobfiaaGreatDoor.O
open Go Go.AL Go.AL.Ap
set_option maxRecDepth 100000
theorem not_t {b : Bool} (h : (!b) = true) : b = false:=by cases b <;> simp_all
theorem not_f {b : Bool} (h : (!b) = false) : b = true:=by cases b <;> simp_all
theorem len_ne {a b : Nat} (h : ((a : Int) != (b : Int)) = true) : a ≠ b:=by intro e; subst e; simp at h
theorem len_eq {a b : Nat} (h : ((a : Int) != (b : Int)) = false) : a = b := by
 by_cases e : a = b
 ·exact e
 ·have : ((a : Int) != (b : Int)) = true := by simp; omega
  rw [this] at h; exact absurd h (by decide)
theorem u8_ne {x y : UInt8} (h : ((x.toNat : Int) != (y.toNat : Int)) = true) : x ≠ y:=fun e=>by subst e; simp at h
theorem u8_eq {x y : UInt8} (h : ((x.toNat : Int) != (y.toNat : Int)) = false) : x = y:=UInt8.toNat_inj.1 (len_eq h)
theorem same_ [Go.AL.MX] (a b : List UInt8) : FCall Tryz.prog Gl 22 [LB a, LB b] [] (vB (decide (a = b))) [] := by
 refine FCall.enterL hT hmix [] Tryz.func22 rfl rfl rfl fun hbd=>?_
 have ha:=bds_list hbd (.head _)
 (conv=>whnf)
 refine split_intro (fun h=>?_) (fun h=>?_)
 ·have hne : a.length ≠ b.length := by have := len_ne h; simpa using this
  (conv=>whnf)
  exact Wk.bool (by symm; simp; intro e; subst e; exact hne rfl)
 ·have hl : a.length = b.length := by have := len_eq h; simpa using this
  (conv=>whnf)
  refine LWp.loop hT hmix [] (fun k : Nat=>[(5,vI k)]) (fun _=>[]) (fun k=>k ≤ a.length ∧ a.take k = b.take k) (fun k=>a.length - k) 0 ⟨Nat.zero_le _,rfl⟩ ?_
  (conv=>whnf)
  refine ⟨?_,fun k ⟨hk,hkk⟩=>?_⟩
  ·exact okT
  ·(conv => whnf)
   refine split_intro (fun h1=>?_) (fun h1=>?_)
   ·have hlt : k < a.length := by have := of_decide_eq_true h1; simp at this; omega
    obtain ⟨x,hx⟩:=exI hlt
    obtain ⟨y,hy⟩:=exI (l:=b) (k:=k) (by omega)
    (conv=>whnf)
    refine ⟨_,⟨by omega,getMap hx⟩,?_⟩
    (conv=>whnf)
    refine ⟨_,⟨by omega,getMap hy⟩,?_⟩
    (conv=>whnf)
    refine split_intro (fun h2=>?_) (fun h2=>?_)
    ·have := u8_ne h2
     (conv=>whnf)
     exact Wk.bool (by
      symm; simp; intro e; subst e
      rw [hx] at hy; injection hy with hy; exact this hy)
    ·have := u8_eq h2
     subst this
     (conv=>whnf)
     refine ⟨_,add64 (c:=((k + 1 : Nat) : Int)) (by omega) (by omega),?_⟩
     (conv=>whnf)
     refine ⟨k + 1,⟨⟨by omega,by rw [List.take_add_one,List.take_add_one,hx,hy,hkk]⟩,by simp only []; omega⟩,?_⟩
     exact okT
   ·have hge : a.length ≤ k := by have := of_decide_eq_false h1; simp at this; omega
    rw [List.take_of_length_le hge,List.take_of_length_le (by omega)] at hkk
    (conv=>whnf)
    exact Wk.bool (by simp [hkk])
theorem plainE (e : Ent) : plainEq Tryz.prog 171 e.enc = true := by
 obtain ⟨s,n⟩:=e
 kernel_rfl
theorem eqE' (a b : Ent) : (decide (a.1 = b.1) && (a.2 == b.2 && true)) = decide (a = b) := by
 rw [Bool.eq_iff_iff]; simp [Prod.ext_iff]
theorem rsame_ [Go.AL.MX] (a b : List Ent) : FCall Tryz.prog Gl 72 [LE a, LE b] [] (vB (decide (a = b))) [] := by
 refine FCall.enterL hT hmix [] Tryz.func72 rfl rfl rfl fun hbd=>?_
 have ha:=bds_list hbd (.head _)
 (conv=>whnf)
 refine split_intro (fun h=>?_) (fun h=>?_)
 ·have hne : a.length ≠ b.length := by have := len_ne h; simpa using this
  (conv=>whnf)
  exact Wk.bool (by symm; simp; intro e; subst e; exact hne rfl)
 ·have hl : a.length = b.length := by have := len_eq h; simpa using this
  (conv=>whnf)
  refine LWp.loop hT hmix [] (fun k : Nat=>[(5,vI k)]) (fun _=>[]) (fun k=>k ≤ a.length ∧ a.take k = b.take k) (fun k=>a.length - k) 0 ⟨Nat.zero_le _,rfl⟩ ?_
  (conv=>whnf)
  refine ⟨?_,fun k ⟨hk,hkk⟩=>?_⟩
  ·exact okT
  ·(conv => whnf)
   refine split_intro (fun h1=>?_) (fun h1=>?_)
   ·have hlt : k < a.length := by have := of_decide_eq_true h1; simp at this; omega
    obtain ⟨x,hx⟩:=exI hlt
    obtain ⟨y,hy⟩:=exI (l:=b) (k:=k) (by omega)
    (conv=>whnf)
    refine ⟨_,⟨by omega,getMap hx⟩,?_⟩
    (conv=>whnf)
    refine ⟨_,⟨by omega,getMap hy⟩,?_⟩
    (conv=>whnf)
    refine ⟨plainE x,?_⟩
    (conv=>whnf)
    refine split_intro (fun h2=>?_) (fun h2=>?_)
    ·have h2' : decide (x = y) = false := by
      rw [← eqE']
      exact not_t h2
     (conv=>whnf)
     exact Wk.bool (by
      symm; simp; intro e; subst e
      rw [hx] at hy; injection hy with hy; subst hy; simp at h2')
    ·have h2' : decide (x = y) = true := by
      rw [← eqE']
      exact not_f h2
     have:=of_decide_eq_true h2'
     subst this
     (conv=>whnf)
     refine ⟨_,add64 (c:=((k + 1 : Nat) : Int)) (by omega) (by omega),?_⟩
     (conv=>whnf)
     refine ⟨k + 1,⟨⟨by omega,by rw [List.take_add_one,List.take_add_one,hx,hy,hkk]⟩,by simp only []; omega⟩,?_⟩
     exact okT
   ·have hge : a.length ≤ k := by have := of_decide_eq_false h1; simp at this; omega
    rw [List.take_of_length_le hge,List.take_of_length_le (by omega)] at hkk
    (conv=>whnf)
    exact Wk.bool (by simp [hkk])
end Go.Proofs.YtimjnmbpbobfiaaGreatDoor.O

namespace Go.Proofs.YtimjnmbpbobfiaaGreatDoor.H
open Go Go.AL Go.AL.Hd
set_option maxRecDepth 100000
set_option maxHeartbeats 4000000
theorem dparse_ [Go.AL.MX] (b : Nat) (hb : b = 8 ∨ b = 10) (l : List UInt8) : FCall Tryz.prog Gl 107 [LB l, vI b] [] (.tuple [vI (parseR b l).1, vI (parseR b l).2]) [] := by
 have B:=dbased_ b
 rw [based_of hb] at B
 have hb2 : 2 ≤ b:=by omega
 have hb10 : b ≤ 10:=by omega
 refine FCall.enterL hT hmix [] Tryz.func107 rfl rfl rfl fun hbd=>?_
 have ha:=bds_list hbd (.head _)
 (conv=>whnf)
 refine LWp.scope hT hmix [4] ?_
 (conv=>whnf)
 refine CallLeaf.wa (B) rfl ?_
 (conv=>whnf)
 refine split_intro (fun g1=>?_) (fun g1=>?_)
 ·have e : parseR b l = (0, 13) := by have := of_decide_eq_true g1; simp only [List.length_map] at this; unfold parseR; rw [if_pos (by omega)]
  rw [e]
  (conv=>whnf)
  refine Wk.tuple (Wks.cons (Wk.refl _) (Wks.cons (Wk.refl _) Wks.nil))
 ·have g1' := of_decide_eq_false g1
  simp only [List.length_map] at g1'
  (conv=>whnf)
  refine split_intro (fun g2=>?_) (fun g2=>?_)
  ·have e : parseR b l = (0, 13) := by have := of_decide_eq_true g2; simp only [List.length_map] at this; unfold parseR; rw [if_pos (by omega)]
   rw [e]
   (conv=>whnf)
   refine Wk.tuple (Wks.cons (Wk.refl _) (Wks.cons (Wk.refl _) Wks.nil))
  ·have g2' := of_decide_eq_false g2
   simp only [List.length_map] at g2'
   have e0 : parseR b l = opR (pf b l):=by unfold parseR; rw [if_neg (by omega)]
   rw [e0]
   (conv=>whnf)
   refine LWp.cut hT hmix [] [] (fun k : Nat=>[(6,vI (val b (l.take k))),(7,vI k)]) (fun _=>[]) [] (fun k=>k ≤ l.length ∧ (l.take k).all (isd b) = true ∧ (k < l.length → l[k]? = some 32)) ?_
   (conv=>whnf)
   refine ⟨?_,fun k ⟨hk,hd,hs⟩=>?_⟩
   ·refine LWp.loop hT hmix [] (fun k : Nat => [(25, vI k), (6, vI (val b (l.take k))), (7, vI k)]) (fun _ => []) (fun k => k ≤ l.length ∧ (l.take k).all (isd b) = true) (fun k => l.length - k) 0 ⟨Nat.zero_le _, rfl⟩ ?_
    (conv=>whnf)
    refine ⟨?_,fun k ⟨hk,hd⟩=>?_⟩
    ·exact okT
    ·(conv => whnf)
     refine split_intro (fun h=>?_) (fun h=>?_)
     ·have hlt : k < l.length := by have := of_decide_eq_true h; simp only [List.length_map] at this; omega
      obtain ⟨x,hx⟩ : ∃ x,l[k]? = some x:=⟨_,List.getElem?_eq_getElem hlt⟩
      (conv=>whnf)
      refine ⟨_,⟨by omega,getMap hx⟩,?_⟩
      (conv=>whnf)
      refine split_intro (fun h2=>?_) (fun h2=>?_)
      ·obtain rfl : x = 32 := byte_eq (c := 32) h2
       (conv=>whnf)
       refine ⟨k,⟨hk,hd,fun _=>hx⟩,?_⟩
       exact okT
      ·have hx32 : ¬ x = 32 := byte_ne (c := 32) h2
       (conv=>whnf)
       refine split_intro (fun h3=>?_) (fun h3=>?_)
       ·have h48 : x.toNat < 48 := by have := of_decide_eq_true h3; omega
        have e : pf b l = none:=pf_none hx hd (by cases hq : isd b x with|false=>rfl|true=>have:=isd_iff.1 hq; omega) hx32
        rw [e]
        (conv=>whnf)
        refine Wk.tuple (Wks.cons (Wk.refl _) (Wks.cons (Wk.refl _) Wks.nil))
       ·have h48 : 48 ≤ x.toNat := by have := of_decide_eq_false h3; omega
        (conv=>whnf)
        refine ⟨_,sub8 h48,?_⟩
        (conv=>whnf)
        refine ⟨_,wrap64 (by have:=x.toNat_lt; omega),?_⟩
        (conv=>whnf)
        refine split_intro (fun h4=>?_) (fun h4=>?_)
        ·have hge : b ≤ x.toNat - 48 := by have := of_decide_eq_true h4; omega
         have e : pf b l = none:=pf_none hx hd (by cases hq : isd b x with|false=>rfl|true=>have:=isd_iff.1 hq; omega) hx32
         rw [e]
         (conv=>whnf)
         refine Wk.tuple (Wks.cons (Wk.refl _) (Wks.cons (Wk.refl _) Wks.nil))
        ·have hlb : x.toNat - 48 < b := by have := of_decide_eq_false h4; omega
         have hix : isd b x = true:=isd_iff.2 ⟨h48,hlb⟩
         have hd2 : (l.take (k + 1)).all (isd b) = true:=by rw [List.take_add_one,hx]; simp [hd,hix]
         have ev:=val_take_succ (b:=b) hx
         have vl:=val_lt hb2 (l.take (k + 1)) (List.all_eq_true.1 hd2)
         have pw:=pow_le (b:=b) (k:=(l.take (k + 1)).length) hb10 (by rw [List.length_take]; omega)
         have hv1 : val b (l.take k) * b ≤ 1000000000000000000:=by omega
         (conv=>whnf)
         refine ⟨_,mul64 (c:=((val b (l.take k) * b : Nat) : Int)) (by omega) (by omega),?_⟩
         (conv=>whnf)
         refine ⟨_,sub8 h48,?_⟩
         (conv=>whnf)
         refine ⟨_,wrap64 (by have:=x.toNat_lt; omega),?_⟩
         (conv=>whnf)
         refine ⟨_,add64 (c:=((val b (l.take (k + 1)) : Nat) : Int)) (by omega) (by omega),?_⟩
         (conv=>whnf)
         refine ⟨_,add64 (c:=((k + 1 : Nat) : Int)) (by (try simp only []); omega) (by omega),?_⟩
         (conv=>whnf)
         refine ⟨_,add64 (c:=((k + 1 : Nat) : Int)) (by (try simp only []); omega) (by omega),?_⟩
         (conv=>whnf)
         refine ⟨k + 1,⟨⟨by omega,hd2⟩,by simp only []; omega⟩,?_⟩
         exact okT
     ·have hge : k = l.length := by have := of_decide_eq_false h; simp only [List.length_map] at this; omega
      (conv=>whnf)
      refine ⟨k,⟨hk,hd,fun h=>absurd h (by omega)⟩,?_⟩
      exact okT
   ·have hn : ∀ c, l[k]? = some c → isd b c = false := fun c hc => by
     have hkl:=(List.getElem?_eq_some_iff.1 hc).1
     rw [hs hkl] at hc
     injection hc with hc
     rw [← hc]; exact isd_sp hb10
    have pfa:=pf_at hk hd hn
    (conv=>whnf)
    refine split_intro (fun q1=>?_) (fun q1=>?_)
    ·obtain rfl : k = 0 := by have := eq_of_beq q1; omega
     have e : pf b l = none:=by rw [pfa,if_neg (by simp)]
     rw [e]
     (conv=>whnf)
     refine Wk.tuple (Wks.cons (Wk.refl _) (Wks.cons (Wk.refl _) Wks.nil))
    ·have hk0 : 0 < k := by
      rcases Nat.eq_zero_or_pos k with rfl|h
      ·simp at q1
      ·exact h
     obtain ⟨c,r,rfl⟩ : ∃ c r,l = c :: r:=by cases l with|nil=>simp at hk; omega|cons c r=>exact ⟨c,r,rfl⟩
     have hsz : ((c :: r).map byteD).length = (c :: r).length:=List.length_map _
     have fin : ∀ (hc : k = 1 ∨ c ≠ 48), pf b (c :: r) = if ((c :: r).drop k).all (· == 32) = true then some (val b ((c :: r).take k)) else none := fun hc => by
      rw [pfa]
      have : (k = 1 ∨ (c :: r).head? ≠ some 48):=hc.imp_right fun h=>by simpa using h
      by_cases hb : ((c :: r).drop k).all (· == 32) = true
      ·rw [if_pos ⟨hk0,hb,this⟩,if_pos hb]
      ·rw [if_neg (fun h=>hb h.2.1),if_neg hb]
     (conv=>whnf)
     refine split_intro (fun q2=>?_) (fun q2=>?_)
     ·have hk1 : 1 < k := by have := of_decide_eq_true q2; omega
      (conv=>whnf)
      refine ⟨_,⟨by omega,getMap (l:=c :: r) (x:=c) rfl⟩,?_⟩
      (conv=>whnf)
      refine split_intro (fun q3=>?_) (fun q3=>?_)
      ·obtain rfl : c = 48 := byte_eq (c := 48) q3
       have e : pf b (48 :: r) = none:=by rw [pfa,if_neg (fun h=>by rcases h.2.2 with h|h; omega; exact h rfl)]
       rw [e]
       (conv=>whnf)
       refine Wk.tuple (Wks.cons (Wk.refl _) (Wks.cons (Wk.refl _) Wks.nil))
      ·have hc48 : c ≠ 48 := byte_ne (c := 48) q3
       rw [fin (.inr hc48)]
       (conv=>whnf)
       (refine ⟨((c :: r).drop k).map byteD,⟨by omega,by rw [hsz]; omega,by omega,(fun q hq=>by obtain ⟨y,_,rfl⟩:=List.mem_map.1 hq; rfl),by rw [Int.toNat_natCast,Int.toNat_natCast,List.take_of_length_le (Nat.le_refl _),List.map_drop]⟩,?_⟩; ((conv=>whnf)); (refine CallLeaf.wa (blank_ ((c :: r).drop k)) rfl ?_); ((conv=>whnf)); (cases hbb : ((c :: r).drop k).all (· == 32) with|true=>(((conv=>whnf)); (exact Wk.tuple (Wks.cons (Wk.refl _) (Wks.cons (Wk.refl _) Wks.nil))))|false=>(((conv=>whnf)); (exact Wk.tuple (Wks.cons (Wk.refl _) (Wks.cons (Wk.refl _) Wks.nil))))))
     ·have hk1 : k = 1 := by have := of_decide_eq_false q2; omega
      rw [fin (.inl hk1)]
      (conv=>whnf)
      (refine ⟨((c :: r).drop k).map byteD,⟨by omega,by rw [hsz]; omega,by omega,(fun q hq=>by obtain ⟨y,_,rfl⟩:=List.mem_map.1 hq; rfl),by rw [Int.toNat_natCast,Int.toNat_natCast,List.take_of_length_le (Nat.le_refl _),List.map_drop]⟩,?_⟩; ((conv=>whnf)); (refine CallLeaf.wa (blank_ ((c :: r).drop k)) rfl ?_); ((conv=>whnf)); (cases hbb : ((c :: r).drop k).all (· == 32) with|true=>(((conv=>whnf)); (exact Wk.tuple (Wks.cons (Wk.refl _) (Wks.cons (Wk.refl _) Wks.nil))))|false=>(((conv=>whnf)); (exact Wk.tuple (Wks.cons (Wk.refl _) (Wks.cons (Wk.refl _) Wks.nil))))))
end Go.Proofs.YtimjnmbpbobfiaaGreatDoor.H

namespace Go.Proofs.YtimjnmbpbobfiaaGreatDoor.H
open Go Go.AL Go.AL.Hd
set_option maxRecDepth 100000
set_option maxHeartbeats 4000000
theorem rparse_ [Go.AL.MX] (b : Nat) (hb : b = 8 ∨ b = 10) (l : List UInt8) : FCall Tryz.prog Gl 100 [LB l, vI b] [] (.tuple [vI (parseR b l).1, vI (parseR b l).2]) [] := by
 have B:=based_ b
 rw [based_of hb] at B
 have hb2 : 2 ≤ b:=by omega
 have hb10 : b ≤ 10:=by omega
 refine FCall.enterL hT hmix [5] Tryz.func100 rfl rfl rfl fun hbd=>?_
 have ha:=bds_list hbd (.head _)
 (conv=>whnf)
 refine CallLeaf.wa (B) rfl ?_
 (conv=>whnf)
 refine split_intro (fun g1=>?_) (fun g1=>?_)
 ·have e : parseR b l = (0, 13) := by have := of_decide_eq_true g1; simp only [List.length_map] at this; unfold parseR; rw [if_pos (by omega)]
  rw [e]
  (conv=>whnf)
  refine Wk.tuple (Wks.cons (Wk.refl _) (Wks.cons (Wk.refl _) Wks.nil))
 ·have g1' := of_decide_eq_false g1
  simp only [List.length_map] at g1'
  (conv=>whnf)
  refine split_intro (fun g2=>?_) (fun g2=>?_)
  ·have e : parseR b l = (0, 13) := by have := of_decide_eq_true g2; simp only [List.length_map] at this; unfold parseR; rw [if_pos (by omega)]
   rw [e]
   (conv=>whnf)
   refine Wk.tuple (Wks.cons (Wk.refl _) (Wks.cons (Wk.refl _) Wks.nil))
  ·have g2' := of_decide_eq_false g2
   simp only [List.length_map] at g2'
   have e0 : parseR b l = opR (pf b l):=by unfold parseR; rw [if_neg (by omega)]
   rw [e0]
   (conv=>whnf)
   refine LWp.cut hT hmix [] [] (fun k : Nat=>[(6,vI (val b (l.take k))),(7,vI k)]) (fun _=>[]) [] (fun k=>k ≤ l.length ∧ (l.take k).all (isd b) = true ∧ (∀ c,l[k]? = some c → isd b c = false)) ?_
   (conv=>whnf)
   refine ⟨?_,fun k ⟨hk,hd,hn⟩=>?_⟩
   ·refine LWp.loop hT hmix [] (fun k : Nat => [(6, vI (val b (l.take k))), (7, vI k)]) (fun _ => []) (fun k => k ≤ l.length ∧ (l.take k).all (isd b) = true) (fun k => l.length - k) 0 ⟨Nat.zero_le _, rfl⟩ ?_
    (conv=>whnf)
    refine ⟨?_,fun k ⟨hk,hd⟩=>?_⟩
    ·exact okT
    ·(conv => whnf)
     refine split_intro (fun h=>?_) (fun h=>?_)
     ·have hlt : k < l.length := by have := of_decide_eq_true h; simp only [List.length_map] at this; omega
      obtain ⟨x,hx⟩ : ∃ x,l[k]? = some x:=⟨_,List.getElem?_eq_getElem hlt⟩
      have hnx : isd b x = false → ∀ c,l[k]? = some c → isd b c = false:=fun h c hc=>by rw [hx] at hc; injection hc with hc; rw [← hc]; exact h
      (conv=>whnf)
      refine ⟨_,⟨by omega,getMap hx⟩,?_⟩
      (conv=>whnf)
      refine split_intro (fun h3=>?_) (fun h3=>?_)
      ·have h48 : 48 ≤ x.toNat := by have := of_decide_eq_true h3; omega
       (conv=>whnf)
       refine ⟨_,⟨by omega,getMap hx⟩,?_⟩
       (conv=>whnf)
       refine ⟨_,wrap64 (by have:=x.toNat_lt; omega),?_⟩
       (conv=>whnf)
       refine ⟨_,sub64 (c:=((x.toNat - 48 : Nat) : Int)) (by omega) (by have:=x.toNat_lt; omega),?_⟩
       (conv=>whnf)
       refine split_intro (fun h4=>?_) (fun h4=>?_)
       ·have hlb : x.toNat - 48 < b := by have := of_decide_eq_true h4; omega
        have hix : isd b x = true:=isd_iff.2 ⟨h48,hlb⟩
        have hd2 : (l.take (k + 1)).all (isd b) = true:=by rw [List.take_add_one,hx]; simp [hd,hix]
        have ev:=val_take_succ (b:=b) hx
        have vl:=val_lt hb2 (l.take (k + 1)) (List.all_eq_true.1 hd2)
        have pw:=pow_le (b:=b) (k:=(l.take (k + 1)).length) hb10 (by rw [List.length_take]; omega)
        have hv1 : val b (l.take k) * b ≤ 1000000000000000000:=by omega
        (conv=>whnf)
        refine ⟨_,mul64 (c:=((val b (l.take k) * b : Nat) : Int)) (by omega) (by omega),?_⟩
        (conv=>whnf)
        refine ⟨_,⟨by omega,getMap hx⟩,?_⟩
        (conv=>whnf)
        refine ⟨_,wrap64 (by have:=x.toNat_lt; omega),?_⟩
        (conv=>whnf)
        refine ⟨_,add64 (c:=((val b (l.take k) * b + x.toNat : Nat) : Int)) (by omega) (by have:=x.toNat_lt; omega),?_⟩
        (conv=>whnf)
        refine ⟨_,sub64 (c:=((val b (l.take (k + 1)) : Nat) : Int)) (by omega) (by omega),?_⟩
        (conv=>whnf)
        refine ⟨_,add64 (c:=((k + 1 : Nat) : Int)) (by (try simp only []); omega) (by omega),?_⟩
        (conv=>whnf)
        refine ⟨k + 1,⟨⟨by omega,hd2⟩,by simp only []; omega⟩,?_⟩
        exact okT
       ·have hge : ¬ x.toNat - 48 < b := by have := of_decide_eq_false h4; omega
        (conv=>whnf)
        refine ⟨k,⟨hk,hd,hnx (by cases hq : isd b x with|false=>rfl|true=>have:=isd_iff.1 hq; omega)⟩,?_⟩
        exact okT
      ·have h48 : ¬ 48 ≤ x.toNat := by have := of_decide_eq_false h3; omega
       (conv=>whnf)
       refine ⟨k,⟨hk,hd,hnx (by cases hq : isd b x with|false=>rfl|true=>have:=isd_iff.1 hq; omega)⟩,?_⟩
       exact okT
     ·have hge : k = l.length := by have := of_decide_eq_false h; simp only [List.length_map] at this; omega
      (conv=>whnf)
      refine ⟨k,⟨hk,hd,fun c hc=>by rw [hge,List.getElem?_eq_none (Nat.le_refl _)] at hc; simp at hc⟩,?_⟩
      exact okT
   ·have pfa := pf_at hk hd hn
    have vl:=val_lt hb2 (l.take k) (List.all_eq_true.1 hd)
    have pw:=pow_le (b:=b) (k:=(l.take k).length) hb10 (by rw [List.length_take]; omega)
    have F:=format_ (val b (l.take k)) b l.length hb (by omega) (by omega) (by omega)
    have hnone : fmt b l.length (val b (l.take k)) ≠ some l → pf b l = none := fun h => by
     cases hp : pf b l with
     | none=>rfl
     | some n =>
      rw [pfa] at hp
      split at hp
      ·injection hp with hp; subst hp
       exact absurd ((pf_iff_fmt hb2 hb10).1 (by rw [pfa,if_pos (by assumption)])) h
      ·simp at hp
    (conv=>whnf)
    rw [show ((l.map byteD).length : Int) = ((l.length : Nat) : Int) by rw [List.length_map]]
    refine CallLeaf.wa (F) rfl ?_
    (conv=>whnf)
    refine split_intro (fun q1=>?_) (fun q1=>?_)
    ·obtain rfl : k = 0 := by have := eq_of_beq q1; omega
     have e : pf b l = none:=by rw [pfa,if_neg (by simp)]
     rw [e]
     (conv=>whnf)
     refine Wk.tuple (Wks.cons (Wk.refl _) (Wks.cons (Wk.refl _) Wks.nil))
    ·cases hf : fmt b l.length (val b (l.take k)) with
     | none =>
      rw [hnone (by rw [hf]; simp)]
      simp only [fmtR,hf]
      (conv=>whnf)
      refine Wk.tuple (Wks.cons (Wk.refl _) (Wks.cons (Wk.refl _) Wks.nil))
     | some w =>
      simp only [fmtR,hf]
      (conv=>whnf)
      refine CallLeaf.wa (O.same_ w l) rfl ?_
      (conv=>whnf)
      cases he : decide (w = l) with
      | true =>
       have hw : w = l:=of_decide_eq_true he
       rw [(pf_iff_fmt hb2 hb10).2 (by rw [hf,hw])]
       (conv=>whnf)
       refine Wk.tuple (Wks.cons (Wk.refl _) (Wks.cons (Wk.refl _) Wks.nil))
      | false =>
       have hw : ¬ w = l:=of_decide_eq_false he
       rw [hnone (by rw [hf]; simpa using hw)]
       (conv=>whnf)
       refine Wk.tuple (Wks.cons (Wk.refl _) (Wks.cons (Wk.refl _) Wks.nil))
theorem number_ [Go.AL.MX] (b : Nat) (hb : b = 8 ∨ b = 10) (l : List UInt8) (bl : Bool) (hl : l.length ≤ 1000) : FCall Tryz.prog Gl 86 [LB l, vI b, vB bl] [] (.tuple [vI (numR b l bl).1, vB (numR b l bl).2]) [] := by
 refine FCall.enterL hT hmix [] Tryz.func86 rfl rfl rfl fun hbd=>?_
 (conv=>whnf)
 cases bl with
 | true =>
  (conv=>whnf)
  rw [show ((l.map byteD).length : Int) = ((l.length : Nat) : Int) by rw [List.length_map]]
  refine CallLeaf.wa (spaces_ l.length hl) rfl ?_
  (conv=>whnf)
  refine CallLeaf.wa (O.same_ l (sp l.length)) rfl ?_
  (conv=>whnf)
  exact Wk.tuple (Wks.cons (Wk.refl _) (Wks.cons (Wk.refl _) Wks.nil))
 | false =>
  (conv=>whnf)
  refine CallLeaf.wa (rparse_ b hb l) rfl ?_
  (conv=>whnf)
  exact Wk.tuple (Wks.cons (Wk.refl _) (Wks.cons (Wk.refl _) Wks.nil))
end Go.Proofs.YtimjnmbpbobfiaaGreatDoor.H

namespace Go.Proofs
open Go.RowKit Go.Shelf
def YtimjnmbpbobfiaaGreatDoor.lays137_ren : Go.Shelf.Ren:=⟨fun|137=>153|217=>125|266=>143|n=>n,fun|9=>9|5=>5|3=>3|n=>n,fun|n=>n⟩
theorem YtimjnmbpbobfiaaGreatDoor.lays137 : Go.Proofs.Lays.n137 Tryz.prog YtimjnmbpbobfiaaGreatDoor.lays137_ren := {
 mixed:=by kernel_rfl
 f137:=Tryz.func153.trans (congrArg some (by kernel_rfl))
 f217:=Tryz.func125.trans (congrArg some (by kernel_rfl))
 f266:=Tryz.func143.trans (congrArg some (by kernel_rfl))
 t3:=Tryz.underlying3
 a3:=Tryz.isAgg3
 z3:=Tryz.sizeOf3
 v3:=Tryz.zeroValue3
 t5:=Tryz.underlying5
 a5:=Tryz.isAgg5
 z5:=Tryz.sizeOf5
 v5:=Tryz.zeroValue5
 t9:=Tryz.underlying9
 a9:=Tryz.isAgg9
 z9:=Tryz.sizeOf9
 v9:=Tryz.zeroValue9 }
def YtimjnmbpbobfiaaGreatDoor.lays162_ren : Go.Shelf.Ren:=⟨fun|162=>114|232=>129|227=>130|234=>131|236=>132|228=>145|271=>146|151=>147|120=>151|197=>152|152=>149|260=>155|137=>153|119=>154|224=>127|225=>126|217=>125|266=>143|n=>n,fun|9=>9|4=>4|3=>3|5=>5|117=>224|116=>223|0=>0|124=>227|21=>21|105=>233|46=>195|119=>239|139=>242|138=>241|n=>n,fun|3=>3|4=>4|n=>n⟩
theorem YtimjnmbpbobfiaaGreatDoor.lays162 : Go.Proofs.Lays.n162 Tryz.prog YtimjnmbpbobfiaaGreatDoor.lays162_ren := {
 mixed:=by kernel_rfl
 f119:=Tryz.func154.trans (congrArg some (by kernel_rfl))
 f120:=Tryz.func151.trans (congrArg some (by kernel_rfl))
 f137:=Tryz.func153.trans (congrArg some (by kernel_rfl))
 f151:=Tryz.func147.trans (congrArg some (by kernel_rfl))
 f152:=Tryz.func149.trans (congrArg some (by kernel_rfl))
 f162:=Tryz.func114.trans (congrArg some (by kernel_rfl))
 f197:=Tryz.func152.trans (congrArg some (by kernel_rfl))
 f217:=Tryz.func125.trans (congrArg some (by kernel_rfl))
 f224:=Tryz.func127.trans (congrArg some (by kernel_rfl))
 f225:=Tryz.func126.trans (congrArg some (by kernel_rfl))
 f227:=Tryz.func130.trans (congrArg some (by kernel_rfl))
 f228:=Tryz.func145.trans (congrArg some (by kernel_rfl))
 f232:=Tryz.func129.trans (congrArg some (by kernel_rfl))
 f234:=Tryz.func131.trans (congrArg some (by kernel_rfl))
 f236:=Tryz.func132.trans (congrArg some (by kernel_rfl))
 f260:=Tryz.func155.trans (congrArg some (by kernel_rfl))
 f266:=Tryz.func143.trans (congrArg some (by kernel_rfl))
 f271:=Tryz.func146.trans (congrArg some (by kernel_rfl))
 t0:=Tryz.underlying0
 a0:=Tryz.isAgg0
 z0:=Tryz.sizeOf0
 v0:=Tryz.zeroValue0
 t3:=Tryz.underlying3
 a3:=Tryz.isAgg3
 z3:=Tryz.sizeOf3
 v3:=Tryz.zeroValue3
 t4:=Tryz.underlying4
 a4:=Tryz.isAgg4
 z4:=Tryz.sizeOf4
 v4:=Tryz.zeroValue4
 t5:=Tryz.underlying5
 a5:=Tryz.isAgg5
 z5:=Tryz.sizeOf5
 v5:=Tryz.zeroValue5
 t9:=Tryz.underlying9
 a9:=Tryz.isAgg9
 z9:=Tryz.sizeOf9
 v9:=Tryz.zeroValue9
 t21:=Tryz.underlying21
 a21:=Tryz.isAgg21
 z21:=Tryz.sizeOf21
 v21:=Tryz.zeroValue21
 t46:=Tryz.underlying195
 a46:=Tryz.isAgg195
 z46:=Tryz.sizeOf195
 v46:=Tryz.zeroValue195
 t105:=Tryz.underlying233
 a105:=Tryz.isAgg233
 z105:=Tryz.sizeOf233
 v105:=Tryz.zeroValue233
 t116:=Tryz.underlying223
 a116:=Tryz.isAgg223
 z116:=Tryz.sizeOf223
 t117:=Tryz.underlying224
 a117:=Tryz.isAgg224
 z117:=Tryz.sizeOf224
 v117:=Tryz.zeroValue224
 t119:=Tryz.underlying239
 a119:=Tryz.isAgg239
 z119:=Tryz.sizeOf239
 t124:=Tryz.underlying227
 a124:=Tryz.isAgg227
 z124:=Tryz.sizeOf227
 v124:=Tryz.zeroValue227
 t138:=Tryz.underlying241
 a138:=Tryz.isAgg241
 z138:=Tryz.sizeOf241
 v138:=Tryz.zeroValue241
 t139:=Tryz.underlying242
 a139:=Tryz.isAgg242
 z139:=Tryz.sizeOf242
 v139:=Tryz.zeroValue242
 g3:=by kernel_rfl
 g4:=by kernel_rfl }
end Go.Proofs
namespace Go.Proofs.YtimjnmbpbobfiaaGreatDoor.H
open Go Go.AL Go.AL.Hd
set_option maxRecDepth 100000
theorem isIndexByte : IsFn Tryz.prog 153:=⟨_,Tryz.func153,by kernel_rfl,by kernel_rfl⟩
theorem isTrimRight : IsFn Tryz.prog 114:=⟨_,Tryz.func114,by kernel_rfl,by kernel_rfl⟩
theorem ibyte_ [Go.AL.MX] (s : Str) (c : UInt8) : FCall Tryz.prog Gl 153 [sD s, .v (.int .u8 c.toNat)] [] (vI (Lib.indexByte s c)) [] :=
 FCall.val (xs:=[.string (sB s),.int .u8 c.toNat]) isIndexByte fun w=>(Any.strings_IndexByte YtimjnmbpbobfiaaGreatDoor.lays137 (sB s) (c.toNat : Int) w).mono fun e w' ⟨he,hw⟩=>⟨by rw [he]; simp [sB],hw ▸ RowKit.Below.refl _ _⟩
theorem trim_ [Go.AL.MX] (s : Str) (hs : s.length ≤ 9223372036854775807) : FCall Tryz.prog Gl 114 [sD s, sD [32]] [] (sD (trimR s)) [] :=
 FCall.val (xs:=[.string (sB s),.string (sB [32])]) isTrimRight fun w=>(Any.strings_TrimRight_one YtimjnmbpbobfiaaGreatDoor.lays162 (sB s) 32 (by decide) w (by rw [sB_sz]; exact hs)).mono fun e w' ⟨he,hw⟩=>⟨he,hw ▸ RowKit.Below.refl _ _⟩
end Go.Proofs.YtimjnmbpbobfiaaGreatDoor.H
