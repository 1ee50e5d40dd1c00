/- Names of members: the laws. No condition. -/
import Derived.Test.YtimnnknfcfongaaDoorLAc
import Derived.Test.YtimnnknfcfongaaDoorLWc
import Derived.Test.YtimnnknfcfongaaDoorLPa
import Derived.Test.YtimnnknfcfongaaDoorLAd
import Derived.Test.YtimnnknfcfongaaDoorRows
import Derived.LaidMore
import Derived.Stop.Joined
import Derived.SevenTiedAt
import Derived.Lay
set_option linter.unusedVariables false
set_option linter.unusedSimpArgs false
namespace Go.Proofs.YtimnnknfcfongaaDoor.H
open Go Go.AL Go.AL.Hd Go.AL.Ln
set_option maxRecDepth 100000
set_option maxHeartbeats 8000000
theorem few_small {ns : List Str} (h : fewB ns = true) (k : Nat) : (tabP (longs (ns.take k))).length ≤ 12080 ∧ (tabP (ns.take k)).length ≤ 12080 := by
 obtain ⟨_, h1, h2⟩ := few_of h
 have a1 := tabP_len (l := longs (ns.take k)) (c := 300) fun n hn => h2 n (List.mem_of_mem_take (longs_mem hn))
 have a2 := tabP_len (l := ns.take k) (c := 300) fun n hn => h2 n (List.mem_of_mem_take hn)
 have b1 := longs_len (ns.take k)
 have b2 : (ns.take k).length ≤ 40 := by rw [List.length_take]; omega
 have c1 := Nat.mul_le_mul_right 302 (show (longs (ns.take k)).length ≤ 40 by omega)
 have c2 := Nat.mul_le_mul_right 302 b2
 omega
theorem lround_ [Go.AL.MX] (ns : List Str) : FCall Tryd.prog Gl 4 [LS ns] [] (vB true) [] := by
 refine FCall.enterL hT hmix [] Tryd.func4 rfl rfl rfl fun hbd => ?_
 (conv => whnf)
 refine CallLeaf.wa (lawake_) rfl ?_
 (conv => whnf)
 refine CallLeaf.wa (rfew_ ns) rfl ?_
 cases hfb : fewB ns with
 | false => ((conv => whnf); refine CallLeaf.wa (lawake_) rfl ?_; (conv => whnf); exact Wk.refl _)
 | true =>
  have hf := (few_of hfb).1
  have hcl := hf.1
  cases hv : ns.all validN with
  | false =>
   have BU := build_ ns hf
   rw [build_err hv] at BU
   (conv => whnf)
   refine CallLeaf.wa (BU) rfl ?_
   (conv => whnf)
   exact Wk.refl _
  | true =>
   have BU := build_ ns hf
   rw [build_ok hv] at BU
   have hfl := fldP_len ns 0
   have htl := (few_small hfb ns.length).1
   rw [List.take_length] at htl
   (conv => whnf)
   refine CallLeaf.wa (BU) rfl ?_
   (conv => whnf)
   refine split_intro (fun h => absurd h (by simp [fldP_len])) (fun _ => ?_)
   (conv => whnf)
   refine LWp.loop hT hmix [] (fun k : Nat => [(7, vI k), (6, .list (.tok 403) ((longs (ns.take k)).map eS))]) (fun k => [(403, .tok ((longs (ns.take k)).map eS).length 1)]) (fun k => k ≤ ns.length) (fun k => ns.length - k) 0 (Nat.zero_le _) ?_
   (conv => whnf)
   refine ⟨?_, fun k hk => ?_⟩
   ·(repeat' (first | exact trivial | exact Wk.refl _ | exact ObWk.refl _ | exact rfl | exact ⟨_, rfl⟩ | exact Nat.zero_lt_one | refine And.intro ?_ ?_ | unfold okTo | (unfold okO; conv => whnf) | (unfold okS; conv => whnf) | (unfold SlotOk; conv => whnf) | (unfold ObjOk; conv => whnf) | (unfold okCells; conv => whnf) | (unfold liveTo; conv => whnf) | exact Nat.zero_lt_succ _))
   ·replace hk : k ≤ ns.length := hk
    have hll := longs_len (ns.take k)
    have hkl : (ns.take k).length = k := by rw [List.length_take]; omega
    (conv => whnf)
    refine split_intro (fun h => ?_) (fun h => ?_)
    ·have hlt : k < ns.length := by have := of_decide_eq_true h; simp only [List.length_map] at this; omega
     obtain ⟨n, hx⟩ := exI hlt
     obtain ⟨f, hy⟩ := exI (l := fldP 0 ns) (k := k) (by omega)
     obtain ⟨hr, hfs⟩ := round_trip hv hx hy (by have := (few_small hfb k).1; omega)
     have hnl := hf.2 n (List.mem_of_getElem? hx)
     have RS := resolve_ f (tabP (longs ns)) (by omega) (by omega)
     rw [hr] at RS
     have hsf := sB_sz f
     have hlo := longs_snoc (ns.take k) n
     (conv => whnf)
     refine ⟨_, ⟨by omega, getMap hy⟩, ?_⟩
     (conv => whnf)
     refine CallLeaf.wa (RS) rfl ?_
     (conv => whnf)
     refine ⟨_, ⟨by omega, getMap hx⟩, ?_⟩
     (conv => whnf)
     refine split_intro (fun h => absurd h (by simp)) (fun _ => ?_)
     (conv => whnf)
     refine ⟨_, ⟨by omega, getMap hy⟩, ?_⟩
     (conv => whnf)
     refine split_intro (fun h2 => ?_) (fun h2 => ?_)
     ·exact absurd (of_decide_eq_true h2) (by omega)
     ·(conv => whnf)
      refine ⟨_, ⟨by omega, getMap hx⟩, ?_⟩
      (conv => whnf)
      refine CallLeaf.wa (lshort_ n (by omega)) rfl ?_
      (conv => whnf)
      cases hsn : shortN n with
      | true =>
       rw [hsn, if_pos rfl] at hlo
       (conv => whnf)
       refine ⟨_, add64 (c := ((k + 1 : Nat) : Int)) (by (try simp only []); omega) (by omega), ?_⟩
       (conv => whnf)
       refine ⟨k + 1, ⟨hlt, by show ns.length - (k + 1) < ns.length - k; omega⟩, ?_⟩
       dsimp only
       rw [show longs (ns.take (k + 1)) = longs (ns.take k) by rw [take_snoc hx]; exact hlo]
       (repeat' (first | exact trivial | exact Wk.refl _ | exact ObWk.refl _ | exact rfl | exact ⟨_, rfl⟩ | exact Nat.zero_lt_one | refine And.intro ?_ ?_ | unfold okTo | (unfold okO; conv => whnf) | (unfold okS; conv => whnf) | (unfold SlotOk; conv => whnf) | (unfold ObjOk; conv => whnf) | (unfold okCells; conv => whnf) | (unfold liveTo; conv => whnf) | exact Nat.zero_lt_succ _))
      | false =>
       rw [hsn, if_neg (by simp)] at hlo
       (conv => whnf)
       refine ⟨_, ⟨by omega, getMap hx⟩, ?_⟩
       (conv => whnf)
       refine ⟨_, appL (f := eS) (xs := longs (ns.take k)) (ys := [n]) (zs := longs (ns.take (k + 1))) (by simp) rfl (fun _ => rfl) (by rw [take_snoc hx, hlo]) (by rw [take_snoc hx, hlo]; show _ * 16 ≤ _; simp; omega), ?_⟩
       (conv => whnf)
       refine ⟨_, add64 (c := ((k + 1 : Nat) : Int)) (by (try simp only []); omega) (by omega), ?_⟩
       (conv => whnf)
       refine ⟨k + 1, ⟨hlt, by show ns.length - (k + 1) < ns.length - k; omega⟩, ?_⟩
       (repeat' (first | exact trivial | exact Wk.refl _ | exact ObWk.refl _ | exact rfl | exact ⟨_, rfl⟩ | exact Nat.zero_lt_one | refine And.intro ?_ ?_ | unfold okTo | (unfold okO; conv => whnf) | (unfold okS; conv => whnf) | (unfold SlotOk; conv => whnf) | (unfold ObjOk; conv => whnf) | (unfold okCells; conv => whnf) | (unfold liveTo; conv => whnf) | exact Nat.zero_lt_succ _))
    ·have hk' : k = ns.length := by have := of_decide_eq_false h; simp only [List.length_map] at this; omega
     subst hk'
     have ET := entries_ (tabP (longs ns)) (by omega)
     rw [ent_longs hv] at ET
     have TX := texts_ (longs ns) (longs (ns.take ns.length))
     rw [List.take_length, decide_eq_true rfl] at TX
     (conv => whnf)
     refine CallLeaf.wa (ET) rfl ?_
     (conv => whnf)
     rw [List.take_length]
     refine CallLeaf.wa (TX) rfl ?_
     (conv => whnf)
     exact Wk.refl _
theorem ltables_ [Go.AL.MX] (t : Str) : FCall Tryd.prog Gl 5 [LB t] [] (vB true) [] := by
 refine FCall.enterL hT hmix [] Tryd.func5 rfl rfl rfl fun hbd => ?_
 (conv => whnf)
 refine CallLeaf.wa (lawake_) rfl ?_
 (conv => whnf)
 refine split_intro (fun h1 => ?_) (fun h1 => ?_)
 ·((conv => whnf); refine CallLeaf.wa (lawake_) rfl ?_; (conv => whnf); exact Wk.refl _)
 ·have h1' : t.length ≤ 1000 := by have := of_decide_eq_false h1; simp only [List.length_map] at this; omega
  (conv => whnf)
  refine CallLeaf.wa (entries_ t (by omega)) rfl ?_
  (conv => whnf)
  refine split_intro (fun h2 => ?_) (fun h2 => ?_)
  ·have h2' : (entR t).2 ≠ 0 := by simpa using h2
   rw [ent_err h2']
   (conv => whnf)
   exact Wk.refl _
  ·have h2' : (entR t).2 = 0 := by simpa using h2
   obtain ⟨e1, e2⟩ := ent_good h2'
   have hfew := ent_few (t := t) (by omega)
   have SM := O.same_ (tabP (entR t).1) t
   rw [← e1, decide_eq_true rfl] at SM
   have RT := rtable_ (entR t).1 hfew
   rw [← e1] at RT
   (conv => whnf)
   refine CallLeaf.wa (RT) rfl ?_
   (conv => whnf)
   refine CallLeaf.wa (SM) rfl ?_
   (conv => whnf)
   refine split_intro (fun h3 => ?_) (fun h3 => ?_)
   ·have h3' : t = [] := by have := h3; simp at this; exact this
    subst h3'
    have e0 : entR [] = ([], 0) := by unfold entR; rw [entO_none rfl]; rfl
    (conv => whnf)
    exact Wk.bool (by rw [e0]; rfl)
   ·have h3' : t ≠ [] := fun e => by subst e; simp at h3
    have hp : 1 ≤ t.length := List.length_pos_iff.2 h3'
    have ED := entries_ t.dropLast (by simp; omega)
    rw [ent_cut h2' h3'] at ED
    (conv => whnf)
    refine ⟨_, sub64 (c := ((t.length - 1 : Nat) : Int)) (by simp; omega) (by omega), ?_⟩
    (conv => whnf)
    refine ⟨t.dropLast.map byteD, slL (by omega) (by omega) (by simp) (fun _ => rfl) (by rw [← dropLast_take]; rfl), ?_⟩
    (conv => whnf)
    refine CallLeaf.wa (ED) rfl ?_
    (conv => whnf)
    exact Wk.refl _
end Go.Proofs.YtimnnknfcfongaaDoor.H

namespace Go.Proofs.YtimnnknfcfongaaDoor.H
open Go Go.AL Go.AL.Hd Go.AL.Ln
set_option maxRecDepth 100000
set_option maxHeartbeats 8000000
theorem ladd_ [Go.AL.MX] (a b : Str) (h : a.length + b.length ≤ 140737488355328) : FCall Tryd.prog Gl 30 [LB a, LB b] [] (LBn (a ++ b)) [] := by
 refine FCall.enterL hT hmix [] Tryd.func30 rfl rfl rfl fun hbd => ?_
 (conv => whnf)
 refine ⟨_, appL (f := byteD) (xs := []) (ys := a) (zs := a) rfl rfl (fun _ => rfl) rfl (by show _ * 1 ≤ _; omega), ?_⟩
 (conv => whnf)
 refine ⟨_, appL (f := byteD) (xs := a) (ys := b) (zs := a ++ b) rfl rfl (fun _ => rfl) rfl (by rw [List.length_append]; show _ * 1 ≤ _; omega), ?_⟩
 (conv => whnf)
 exact Wk.nat' rfl
theorem lconcat_ [Go.AL.MX] (a b : List Str) : FCall Tryd.prog Gl 8 [LS a, LS b] [] (vB true) [] := by
 refine FCall.enterL hT hmix [] Tryd.func8 rfl rfl rfl fun hbd => ?_
 (conv => whnf)
 refine CallLeaf.wa (lawake_) rfl ?_
 (conv => whnf)
 refine CallLeaf.wa (rfew_ a) rfl ?_
 cases hfa : fewB a with
 | false => ((conv => whnf); refine CallLeaf.wa (lawake_) rfl ?_; (conv => whnf); exact Wk.refl _)
 | true =>
  (conv => whnf)
  refine CallLeaf.wa (rfew_ b) rfl ?_
  cases hfb : fewB b with
  | false => ((conv => whnf); refine CallLeaf.wa (lawake_) rfl ?_; (conv => whnf); exact Wk.refl _)
  | true =>
   obtain ⟨fa, a1, a2⟩ := few_of hfa
   obtain ⟨fb, b1, b2⟩ := few_of hfb
   have fab : Few (a ++ b) := ⟨by simp; omega, fun n hn => by
    rcases List.mem_append.1 hn with h | h
    ·have := a2 n h; omega
    ·have := b2 n h; omega⟩
   have ta := (few_small hfa a.length).1
   have tb := (few_small hfb b.length).1
   rw [List.take_length] at ta tb
   have la := fldP_len a 0
   (conv => whnf)
   refine CallLeaf.wa (build_ a fa) rfl ?_
   (conv => whnf)
   refine CallLeaf.wa (build_ b fb) rfl ?_
   (conv => whnf)
   refine ⟨_, appL (f := eS) (xs := []) (ys := a) (zs := a) (by simp) rfl (fun _ => rfl) rfl (by show _ * 16 ≤ _; omega), ?_⟩
   (conv => whnf)
   refine ⟨_, appL (f := eS) (xs := a) (ys := b) (zs := a ++ b) (by simp) rfl (fun _ => rfl) rfl (by rw [List.length_append]; show _ * 16 ≤ _; omega), ?_⟩
   (conv => whnf)
   refine CallLeaf.wa (build_ (a ++ b) fab) rfl ?_
   (conv => whnf)
   cases hva : a.all validN with
   | false =>
    rw [build_err hva, build_err (ns := a ++ b) (by rw [List.all_append, hva]; rfl)]
    (conv => whnf)
    exact Wk.refl _
   | true =>
    rw [build_ok hva]
    cases hvb : b.all validN with
    | false =>
     rw [build_err hvb, build_err (ns := a ++ b) (by rw [List.all_append, hva, hvb]; rfl)]
     (conv => whnf)
     exact Wk.refl _
    | true =>
     rw [build_ok hvb, build_ok (ns := a ++ b) (by rw [List.all_append, hva, hvb]; rfl), longs_app, tabP_app, fldP_app]
     have SM := O.same_ (tabP (longs a) ++ tabP (longs b)) (tabP (longs a) ++ tabP (longs b))
     have TX := texts_ (fldP 0 a) (fldP 0 a)
     rw [decide_eq_true rfl] at SM TX
     have lb := fldP_len b (0 + (tabP (longs a)).length)
     have lb0 := fldP_len b 0
     (conv => whnf)
     refine CallLeaf.wa (ladd_ (tabP (longs a)) (tabP (longs b)) (by omega)) rfl ?_
     (conv => whnf)
     refine CallLeaf.wa (SM) rfl ?_
     (conv => whnf)
     refine ⟨_, add64 (c := ((a.length + b.length : Nat) : Int)) (by simp [fldP_len]) (by omega), ?_⟩
     (conv => whnf)
     refine split_intro (fun _ => ?_) (fun h => absurd h (by simp [fldP_len]))
     (conv => whnf)
     refine ⟨(fldP 0 a).map eS, slL (by omega) (by omega) (by simp; omega) (fun _ => rfl) (by simp), ?_⟩
     (conv => whnf)
     refine CallLeaf.wa (TX) rfl ?_
     (conv => whnf)
     exact Wk.refl _
theorem loffs_ [Go.AL.MX] (ns : List Str) (at' : Int) (h0 : 0 ≤ at') (h1 : at' ≤ 65535) : FCall Tryd.prog Gl 6 [LS ns, .v (.int .u16 at')] [] (vB true) [] := by
 refine FCall.enterL hT hmix [] Tryd.func6 rfl rfl rfl fun hbd => ?_
 (conv => whnf)
 refine CallLeaf.wa (lawake_) rfl ?_
 (conv => whnf)
 refine CallLeaf.wa (rfew_ ns) rfl ?_
 cases hfb : fewB ns with
 | false => ((conv => whnf); refine CallLeaf.wa (lawake_) rfl ?_; (conv => whnf); exact Wk.refl _)
 | true =>
  obtain ⟨hf, c1, c2⟩ := few_of hfb
  (conv => whnf)
  refine LWp.loop hT hmix [] (fun k : Nat => [(5, vI k)]) (fun _ => []) (fun k => k ≤ ns.length ∧ (ns.take k).all validN = true) (fun k => ns.length - k) 0 ⟨Nat.zero_le _, rfl⟩ ?_
  (conv => whnf)
  refine ⟨?_, fun k ⟨hk, hv⟩ => ?_⟩
  ·(repeat' (first | exact trivial | exact Wk.refl _ | exact ObWk.refl _ | exact rfl | exact ⟨_, rfl⟩ | exact Nat.zero_lt_one | refine And.intro ?_ ?_ | unfold okTo | (unfold okO; conv => whnf) | (unfold okS; conv => whnf) | (unfold SlotOk; conv => whnf) | (unfold ObjOk; conv => whnf) | (unfold okCells; conv => whnf) | (unfold liveTo; conv => whnf) | exact Nat.zero_lt_succ _))
  ·(conv => whnf)
   refine split_intro (fun h => ?_) (fun h => ?_)
   ·have hlt : k < ns.length := by have := of_decide_eq_true h; simp only [List.length_map] at this; omega
    obtain ⟨n, hx⟩ := exI hlt
    have hnl := c2 n (List.mem_of_getElem? hx)
    (conv => whnf)
    refine ⟨_, ⟨by omega, getMap hx⟩, ?_⟩
    (conv => whnf)
    refine CallLeaf.wa (nvalid_ n (by omega)) rfl ?_
    (conv => whnf)
    cases hvn : validN n with
    | false =>
     (conv => whnf)
     exact Wk.refl _
    | true =>
     (conv => whnf)
     refine ⟨_, add64 (c := ((k + 1 : Nat) : Int)) (by (try simp only []); omega) (by omega), ?_⟩
     (conv => whnf)
     refine ⟨k + 1, ⟨⟨hlt, by rw [take_snoc hx, List.all_append, hv]; simp [hvn]⟩, by show ns.length - (k + 1) < ns.length - k; omega⟩, ?_⟩
     (repeat' (first | exact trivial | exact Wk.refl _ | exact ObWk.refl _ | exact rfl | exact ⟨_, rfl⟩ | exact Nat.zero_lt_one | refine And.intro ?_ ?_ | unfold okTo | (unfold okO; conv => whnf) | (unfold okS; conv => whnf) | (unfold SlotOk; conv => whnf) | (unfold ObjOk; conv => whnf) | (unfold okCells; conv => whnf) | (unfold liveTo; conv => whnf) | exact Nat.zero_lt_succ _))
   ·have hk' : k = ns.length := by have := of_decide_eq_false h; simp only [List.length_map] at this; omega
    subst hk'
    rw [List.take_length] at hv
    have hvv : ∀ m ∈ ns, validN m = true := List.all_eq_true.1 hv
    have htl := (few_small hfb ns.length).2
    rw [List.take_length] at htl
    (conv => whnf)
    refine CallLeaf.wa (rtable_ ns hf) rfl ?_
    obtain ⟨A, rfl⟩ : ∃ A : Nat, at' = A := Int.eq_ofNat_of_zero_le h0
    obtain ⟨k, hk⟩ : ∃ k, k = A % ((tabP ns).length + 2) := ⟨_, rfl⟩
    have hkl : k < (tabP ns).length + 2 := by rw [hk]; exact Nat.mod_lt _ (by omega)
    have hd := dig_small (k := k) (by omega)
    (conv => whnf)
    refine ⟨_, wrap64 ⟨by omega, by omega⟩, ?_⟩
    (conv => whnf)
    refine ⟨_, add64 (c := (((tabP ns).length + 2 : Nat) : Int)) (by simp) (by omega), ?_⟩
    (conv => whnf)
    refine ⟨_, rem64 (c := (k : Int)) (by rw [hk]; exact tmod_nat _ _) (by omega), ?_⟩
    (conv => whnf)
    refine CallLeaf.wa (text_ 10 (by omega) (by omega) k (by omega)) rfl ?_
    (conv => whnf)
    refine ⟨sB (47 :: dig 10 k), ⟨by rw [sB_sz]; show 1 + (dig 10 _).length ≤ _; omega, sB_ap [47] _⟩, ?_⟩
    (conv => whnf)
    refine CallLeaf.wa (resolve_ (47 :: dig 10 k) (tabP ns) (by simp; omega) (by omega)) rfl ?_
    (conv => whnf)
    refine LWp.loop hT hmix [] (fun i : Nat => [(10, vI i)]) (fun _ => []) (fun i => i ≤ ns.length ∧ ∀ j, j < i → (tabP (ns.take j)).length ≠ k) (fun i => ns.length - i) 0 ⟨Nat.zero_le _, fun j hj => by omega⟩ ?_
    (conv => whnf)
    refine ⟨?_, fun i ⟨hi, hno⟩ => ?_⟩
    ·(repeat' (first | exact trivial | exact Wk.refl _ | exact ObWk.refl _ | exact rfl | exact ⟨_, rfl⟩ | exact Nat.zero_lt_one | refine And.intro ?_ ?_ | unfold okTo | (unfold okO; conv => whnf) | (unfold okS; conv => whnf) | (unfold SlotOk; conv => whnf) | (unfold ObjOk; conv => whnf) | (unfold okCells; conv => whnf) | (unfold liveTo; conv => whnf) | exact Nat.zero_lt_succ _))
    ·have hti := (few_small hfb i).2
     (conv => whnf)
     refine split_intro (fun h => ?_) (fun h => ?_)
     ·have hlt : i < ns.length := by have := of_decide_eq_true h; simp only [List.length_map] at this; omega
      obtain ⟨n, hx⟩ := exI hlt
      (conv => whnf)
      refine ⟨(ns.take i).map eS, slL (by omega) (by omega) (by simp; omega) (fun _ => rfl) (by simp), ?_⟩
      (conv => whnf)
      refine CallLeaf.wa (rtable_ (ns.take i) (few_take hf i)) rfl ?_
      (conv => whnf)
      refine split_intro (fun h2 => ?_) (fun h2 => ?_)
      ·have h2' : (tabP (ns.take i)).length = k := by have := h2; simp at this; omega
       have hr := res_off hvv hx (by omega)
       rw [h2'] at hr
       rw [hr]
       (conv => whnf)
       refine ⟨_, ⟨by omega, getMap hx⟩, ?_⟩
       (conv => whnf)
       exact Wk.bool (by simp)
      ·have h2' : ¬ (tabP (ns.take i)).length = k := by have := h2; simp at this; omega
       (conv => whnf)
       refine ⟨_, add64 (c := ((i + 1 : Nat) : Int)) (by (try simp only []); omega) (by omega), ?_⟩
       (conv => whnf)
       refine ⟨i + 1, ⟨⟨hlt, fun j hj => by
        rcases Nat.lt_or_ge j i with h | h
        ·exact hno j h
        ·have : j = i := by omega
         subst this; exact h2'⟩, by show ns.length - (i + 1) < ns.length - i; omega⟩, ?_⟩
       (repeat' (first | exact trivial | exact Wk.refl _ | exact ObWk.refl _ | exact rfl | exact ⟨_, rfl⟩ | exact Nat.zero_lt_one | refine And.intro ?_ ?_ | unfold okTo | (unfold okO; conv => whnf) | (unfold okS; conv => whnf) | (unfold SlotOk; conv => whnf) | (unfold ObjOk; conv => whnf) | (unfold okCells; conv => whnf) | (unfold liveTo; conv => whnf) | exact Nat.zero_lt_succ _))
     ·have hi' : i = ns.length := by have := of_decide_eq_false h; simp only [List.length_map] at this; omega
      subst hi'
      rw [res_no hvv (by omega) hno]
      (conv => whnf)
      exact Wk.refl _
end Go.Proofs.YtimnnknfcfongaaDoor.H

namespace Go.Proofs.YtimnnknfcfongaaDoor.H
open Go Go.AL Go.AL.Hd Go.AL.Ln
set_option maxRecDepth 100000
set_option maxHeartbeats 8000000
abbrev eW (u : UInt8) : List D := [.sq (.int .u8)]
abbrev sW (u : Str) : List D := [.sq .str]
theorem al_Gl [Go.AL.MX] (g : Nat) : Al (.ro (Gl g)) := by
 refine .ro _ ?_
 simp only [Gl]
 split <;> (repeat' (first | exact Al.v _ | exact Al.nil | exact Al.junk | refine Al.map _ (fun _ => ?_) | refine Al.agg _ ?_ | refine Al.tuple _ ?_ | refine Al.cons ?_ ?_ | exact Al.none'))
theorem th_bld (x : Str) (y : List Str) (e : Int) : Th false (.tuple [LBn x, LSn y, vI e]) (.tuple [.slist (x.map eW), .slist (y.map sW), vI e]) := by
 refine Th.tupleL (ThL.cons (Th.map _ _ (fun u => ?_)) (ThL.cons (Th.map _ _ (fun u => ?_)) (ThL.cons (Th.v _) ThL.nil)))
 ·exact (ThL.cons (Th.int _ _) ThL.nil : ThL _ [.v (.int .u8 (u.toNat : Int))] [.sq (.int .u8)])
 ·exact (ThL.cons (Th.str _) ThL.nil : ThL _ [sD u] [.sq .str])
theorem buildW_ [Go.AL.MX] (ns : List Str) (hf : Few ns) : FCall Tryd.prog Gl 16 [LS ns] [] (.tuple [.slist ((buildR ns).1.map eW), .slist ((buildR ns).2.1.map sW), vI (buildR ns).2.2]) [] :=
 FCall.thaw (build_ ns hf) (by (repeat' (first | exact Al.v _ | exact Al.nil | exact Al.junk | refine Al.map _ (fun _ => ?_) | refine Al.agg _ ?_ | refine Al.tuple _ ?_ | refine Al.cons ?_ ?_ | exact Al.none'))) al_Gl (th_bld _ _ _)
theorem build_few {ns : List Str} (h : fewB ns = true) : (buildR ns).1.length ≤ 12080 ∧ (buildR ns).2.1.length ≤ 40 := by
 obtain ⟨_, h1, h2⟩ := few_of h
 cases hv : ns.all validN with
 | false => rw [build_err hv]; simp
 | true =>
  rw [build_ok hv]
  have := (few_small h ns.length).1
  rw [List.take_length] at this
  exact ⟨this, by rw [fldP_len]; exact h1⟩
theorem lkeeps_ [Go.AL.MX] (ns : List Str) (t : Str) : FCall Tryd.prog Gl 7 [LS ns, LB t] [] (vB true) [] := by
 refine FCall.enterL hT hmix [] Tryd.func7 rfl rfl rfl fun hbd => ?_
 (conv => whnf)
 refine CallLeaf.wa (lawake_) rfl ?_
 (conv => whnf)
 refine CallLeaf.wa (rfew_ ns) rfl ?_
 cases hfb : fewB ns with
 | false => ((conv => whnf); refine CallLeaf.wa (lawake_) rfl ?_; (conv => whnf); exact Wk.refl _)
 | true =>
  obtain ⟨hf, c1, c2⟩ := few_of hfb
  (conv => whnf)
  refine split_intro (fun h1 => ?_) (fun h1 => ?_)
  ·((conv => whnf); refine CallLeaf.wa (lawake_) rfl ?_; (conv => whnf); exact Wk.refl _)
  ·have h1' : t.length ≤ 1000 := by have := of_decide_eq_false h1; simp only [List.length_map] at this; omega
   have BF := build_few hfb
   have BW := buildW_ ns hf
   have B := build_ ns hf
   have RB := rbuild_ ns hf
   have S1 := O.same_ t t
   have S2 := O.same_ (buildR ns).1 (buildR ns).1
   have T1 := texts_ ns ns
   have T2 := texts_ (buildR ns).2.1 (buildR ns).2.1
   rw [decide_eq_true rfl] at S1 S2 T1 T2
   revert BF BW B RB S2 T2
   generalize buildR ns = p
   obtain ⟨x1, x2, r⟩ := p
   intro BF BW B RB S2 T2
   have B1 : x1.length ≤ 12080 := BF.1
   have B2 : x2.length ≤ 40 := BF.2
   (conv => whnf)
   refine ⟨_, appL (f := eS) (xs := []) (ys := ns) (zs := ns) rfl rfl (fun _ => rfl) rfl (by show _ * 16 ≤ _; omega), ?_⟩
   (conv => whnf)
   refine ⟨_, appL (f := byteD) (xs := []) (ys := t) (zs := t) rfl rfl (fun _ => rfl) rfl (by show _ * 1 ≤ _; omega), ?_⟩
   (conv => whnf)
   refine CallLeaf.wa (entries_ t (by omega)) rfl ?_
   (conv => whnf)
   refine CallLeaf.wa (BW) rfl ?_
   (conv => whnf)
   refine LWp.loop hT hmix [] (fun k : Nat => [(10, vI k)]) (fun _ => []) (fun k => k ≤ x1.length) (fun k => x1.length - k) 0 (Nat.zero_le _) ?_
   (conv => whnf)
   refine ⟨?_, fun k hk => ?_⟩
   ·(repeat' (first | exact trivial | exact Wk.refl _ | exact ObWk.refl _ | exact rfl | exact ⟨_, rfl⟩ | exact Nat.zero_lt_one | refine And.intro ?_ ?_ | unfold okTo | (unfold okO; conv => whnf) | (unfold okS; conv => whnf) | (unfold SlotOk; conv => whnf) | (unfold ObjOk; conv => whnf) | (unfold okCells; conv => whnf) | (unfold liveTo; conv => whnf) | exact Nat.zero_lt_succ _))
   ·replace hk : k ≤ x1.length := hk
    (conv => whnf)
    refine split_intro (fun h9 => ?_) (fun h9 => ?_)
    ·have hlt : k < x1.length := by have := of_decide_eq_true h9; simp only [List.length_map] at this; omega
     obtain ⟨y, hy⟩ : ∃ y, x1[k]? = some y := ⟨_, List.getElem?_eq_getElem hlt⟩
     (conv => whnf)
     refine ⟨_, ⟨by omega, getMap hy⟩, ?_⟩
     (conv => whnf)
     refine ⟨_, add64 (c := ((k + 1 : Nat) : Int)) (by (try simp only []); omega) (by omega), ?_⟩
     (conv => whnf)
     refine ⟨k + 1, ⟨hlt, by show x1.length - (k + 1) < x1.length - k; omega⟩, ?_⟩
     (repeat' (first | exact trivial | exact Wk.refl _ | exact ObWk.refl _ | exact rfl | exact ⟨_, rfl⟩ | exact Nat.zero_lt_one | refine And.intro ?_ ?_ | unfold okTo | (unfold okO; conv => whnf) | (unfold okS; conv => whnf) | (unfold SlotOk; conv => whnf) | (unfold ObjOk; conv => whnf) | (unfold okCells; conv => whnf) | (unfold liveTo; conv => whnf) | exact Nat.zero_lt_succ _))
    ·have hk' : k = x1.length := by have := of_decide_eq_false h9; simp only [List.length_map] at this; omega
     (conv => whnf)
     refine LWp.loop hT hmix [] (fun k : Nat => [(11, vI k)]) (fun _ => []) (fun k => k ≤ x2.length) (fun k => x2.length - k) 0 (Nat.zero_le _) ?_
     (conv => whnf)
     refine ⟨?_, fun j hj => ?_⟩
     ·(repeat' (first | exact trivial | exact Wk.refl _ | exact ObWk.refl _ | exact rfl | exact ⟨_, rfl⟩ | exact Nat.zero_lt_one | refine And.intro ?_ ?_ | unfold okTo | (unfold okO; conv => whnf) | (unfold okS; conv => whnf) | (unfold SlotOk; conv => whnf) | (unfold ObjOk; conv => whnf) | (unfold okCells; conv => whnf) | (unfold liveTo; conv => whnf) | exact Nat.zero_lt_succ _))
     ·replace hj : j ≤ x2.length := hj
      (conv => whnf)
      refine split_intro (fun h8 => ?_) (fun h8 => ?_)
      ·have hlt : j < x2.length := by have := of_decide_eq_true h8; simp only [List.length_map] at this; omega
       obtain ⟨y, hy⟩ : ∃ y, x2[j]? = some y := ⟨_, List.getElem?_eq_getElem hlt⟩
       (conv => whnf)
       refine ⟨_, ⟨by omega, getMap hy⟩, ?_⟩
       (conv => whnf)
       refine ⟨_, add64 (c := ((j + 1 : Nat) : Int)) (by (try simp only []); omega) (by omega), ?_⟩
       (conv => whnf)
       refine ⟨j + 1, ⟨hlt, by show x2.length - (j + 1) < x2.length - j; omega⟩, ?_⟩
       (repeat' (first | exact trivial | exact Wk.refl _ | exact ObWk.refl _ | exact rfl | exact ⟨_, rfl⟩ | exact Nat.zero_lt_one | refine And.intro ?_ ?_ | unfold okTo | (unfold okO; conv => whnf) | (unfold okS; conv => whnf) | (unfold SlotOk; conv => whnf) | (unfold ObjOk; conv => whnf) | (unfold okCells; conv => whnf) | (unfold liveTo; conv => whnf) | exact Nat.zero_lt_succ _))
      ·(conv => whnf)
       refine CallLeaf.wa (B) rfl ?_
       (conv => whnf)
       refine CallLeaf.wa (RB) rfl ?_
       (conv => whnf)
       refine CallLeaf.wa (T1) rfl ?_
       (conv => whnf)
       refine CallLeaf.wa (S1) rfl ?_
       (conv => whnf)
       refine CallLeaf.wa (S2) rfl ?_
       (conv => whnf)
       refine CallLeaf.wa (T2) rfl ?_
       (conv => whnf)
       exact Wk.refl _
end Go.Proofs.YtimnnknfcfongaaDoor.H

namespace Go.Proofs.YtimnnknfcfongaaDoor
open Go Go.AL Go.AL.Hd
open Go.ChangeShapes Go.WideShapes Go.ChangeAt Go.RowKit
set_option maxRecDepth 100000
theorem own : ownKnob Tryd.prog.godebug = none := by kernel_rfl
theorem laidOut : laidOutB Tryd.prog = true := by kernel_rfl
abbrev laidL : List (String × DataW Unit) := [("math/bits.deBruijn32tab", Rows.laid_math_bits_deBruijn32tab), ("math/bits.deBruijn64tab", Rows.laid_math_bits_deBruijn64tab), ("internal/strconv.uint64pow10", Rows.laid_internal_strconv_uint64pow10)]
theorem sMax : ((begin Tryd.prog (fun _ _ => 0) default).world.heap[0]?).bind Obj.row? = some (#[.int .i64 0], 3) := by kernel_rfl
theorem zMax : 0 < Tryd.prog.globals.size := of_decide_eq_true (by kernel_rfl)
theorem maxLen {W : World} (h : W.ShapedOpen Tryd.prog) : ∃ m, W.cell? ⟨0, 0, none⟩ = some (.int .i64 m) :=
 cell_of_shapedOpen_int h zMax sMax rfl (by kernel_rfl) (by kernel_rfl) Tryd.underlying3
theorem tPow : (Tryd.prog.globals[1]?).map (·.type) = some 144 := by kernel_rfl
theorem pow_of {W : World} (h : laidMetH Tryd.prog laidL W) : Lib.TabIs Tryd.prog W "internal/strconv.uint64pow10" .u64 Lib.pow10Tab := by
 rw [MakeChecks.laidMetH_plain _ _ _ (by kernel_rfl)] at h
 obtain ⟨ps, h1, _⟩ := h
 haveI : MX := ⟨0⟩
 exact tabIs_mem H.gPow tPow Tryd.underlying144 Tryd.underlying124 (by kernel_rfl) (by kernel_rfl) h1 (.tail _ (.tail _ (.head _)))
theorem globOk [MX] {W : World} (h : laidMetH Tryd.prog laidL W) (hs : W.ShapedOpen Tryd.prog) (hm : W.cell? ⟨0, 0, none⟩ = some (.int .i64 MX.val)) : GlobOk Gl W := by
 have key : ∀ g, (∀ j (hj : j < (Gl g).length), ∃ u, cellH W.heap g j = some u ∧ VR (env0 W.heap) W.heap (sto []) ((Gl g)[j]) u ∧ ((Gl g)[j]).idf = true) ∧ (Gl g = [] ∨ ∃ us e f, W.heap[g]? = some (.cells us e f) ∧ us.size = (Gl g).length) := by
  intro g
  by_cases hg : g = 1
  ·subst hg
   exact glob_tab H.gPow (pow_of h) rfl
  ·by_cases hg2 : g = 0
   ·subst hg2
    have e : Gl 0 = [vI MX.val] := rfl
    rw [e]
    refine ⟨fun j hj => ?_, .inr (glob_block hs zMax sMax)⟩
    have hj0 : j = 0 := by simp at hj; exact hj
    subst hj0
    rw [cell?_eq] at hm
    exact ⟨_, hm, .v _, rfl⟩
   ·have e : Gl g = [] := by
     first
      | (simp only [Gl]; done)
      | (simp only [Gl]; split; all_goals first | rfl | (exfalso; simp_all))
      | simp_all [Gl]
    rw [e]
    exact ⟨fun j hj => by simp at hj, .inl rfl⟩
 exact ⟨fun g j hj => (key g).1 j hj, fun g => (key g).2⟩
theorem byte_of {n : Nat} {ds : List D} (h : Rd Tryd.prog (n + 1) 5 ds) : ∃ u : UInt8, ds = byteD u := by
 simp only [Rd, Tryd.underlying5] at h
 obtain ⟨x, hw, rfl⟩ := h
 simp [Lit.wf] at hw
 have h1 : IntKind.u8.min = 0 := rfl
 have h2 : IntKind.u8.max = 255 := rfl
 obtain ⟨m, rfl⟩ := Int.eq_ofNat_of_zero_le (show 0 ≤ x by omega)
 refine ⟨UInt8.ofNat m, ?_⟩
 simp only [byteD, List.cons.injEq, and_true, D.v.injEq, Value.int.injEq, true_and]
 simp; omega
theorem list_ofP {n : Nat} {α : Type} {f : α → List D} {p : α → Prop} {e t : TypeId} {ds : List D} (hu : Tryd.prog.underlying t = some (.slice e)) (he : ∀ x, Rd Tryd.prog n e x → ∃ y, p y ∧ x = f y) (h : Rd Tryd.prog (n + 1) t ds) :
  ∃ l : List α, (∀ a ∈ l, p a) ∧ l.length * Tryd.prog.bytesOf e ≤ 140737488351232 ∧ ds = [.list .any (l.map f)] ∧ argD Tryd.prog t ds = .list .any (l.map f) := by
 simp only [Rd, hu] at h
 obtain ⟨xs, rfl, hb, hx⟩ := h
 have hc : ∀ x : { x // x ∈ xs }, ∃ y, p y ∧ x.1 = f y := fun x => he x.1 (hx x.1 x.2)
 have hm : (xs.attach.map fun x => (hc x).choose).map f = xs := by
  rw [List.map_map]
  have : (xs.attach.map (f ∘ fun x => (hc x).choose)) = xs.attach.map (fun x => x.1) := List.map_congr_left fun x _ => ((hc x).choose_spec).2.symm
  rw [this, List.attach_map_subtype_val]
 refine ⟨xs.attach.map fun x => (hc x).choose, fun a ha => ?_, by simpa using hb, by rw [hm], ?_⟩
 ·obtain ⟨x, _, rfl⟩ := List.mem_map.1 ha
  exact ((hc x).choose_spec).1
 ·rw [hm]; simp only [argD, hu]
theorem i64_of {x : Int} (h : (Lit.int .i64 x).wf = true) : x ≤ 9223372036854775807 := by
 have m1 : IntKind.i64.min = -9223372036854775808 := rfl
 have m2 : IntKind.i64.max = 9223372036854775807 := rfl
 simp only [Lit.wf, m1, m2, Bool.and_eq_true, decide_eq_true_eq] at h
 exact h.2
theorem arg_LB {ds : List D} (h : Rd Tryd.prog 8 23 ds) : ∃ l : Str, l.length ≤ 140737488351232 ∧ argD Tryd.prog 23 ds = LB l := by
 obtain ⟨l, _, h2, _, e⟩ := list_ofP (n := 7) (f := byteD) (p := fun _ => True) Tryd.underlying23 (fun x hx => by
  obtain ⟨u, e⟩ := byte_of (n := 6) hx
  exact ⟨u, trivial, e⟩) h
 rw [show Tryd.prog.bytesOf 5 = 1 by kernel_rfl, Nat.mul_one] at h2
 exact ⟨l, h2, e⟩
theorem str_of {n : Nat} {ds : List D} (h : Rd Tryd.prog (n + 1) 9 ds) : ∃ s : Str, ds = eS s := by
 simp only [Rd, Tryd.underlying9] at h
 obtain ⟨s, hs, rfl⟩ := h
 exact ⟨s, rfl⟩
theorem arg_sD {ds : List D} (h : Rd Tryd.prog 8 9 ds) : ∃ s : Str, True ∧ argD Tryd.prog 9 ds = sD s := by
 obtain ⟨s, rfl⟩ := str_of (n := 7) h
 exact ⟨s, trivial, by simp only [argD, Tryd.underlying9]⟩
theorem arg_LS {ds : List D} (h : Rd Tryd.prog 8 22 ds) : ∃ l : List Str, True ∧ argD Tryd.prog 22 ds = LS l := by
 obtain ⟨l, e⟩ := list_of (n := 7) (f := eS) Tryd.underlying22 (fun x hx => str_of (n := 6) hx) h
 exact ⟨l, trivial, e⟩
theorem arg_u16 {ds : List D} (h : Rd Tryd.prog 8 45 ds) : ∃ x : Int, (0 ≤ x ∧ x ≤ 65535) ∧ argD Tryd.prog 45 ds = .v (.int .u16 x) := by
 simp only [Rd, Tryd.underlying45] at h
 obtain ⟨x, hw, rfl⟩ := h
 refine ⟨x, ?_, by simp only [argD, Tryd.underlying45]⟩
 simp [Lit.wf] at hw
 have h1 : IntKind.u16.min = 0 := rfl
 have h2 : IntKind.u16.max = 65535 := rfl
 omega
end Go.Proofs.YtimnnknfcfongaaDoor
