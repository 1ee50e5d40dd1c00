/- Archives: parts appended. No condition. -/
import Derived.Test.YtimnnknfcfongaaDoorAAc
import Derived.Test.YtimnnknfcfongaaDoorAWd
set_option linter.unusedVariables false
set_option linter.unusedSimpArgs false
namespace Go.Proofs.YtimnnknfcfongaaDoor.H
open Go Go.AL Go.AL.Hd Go.AL.Ln Go.AL.Ar Go.AL.Sc
set_option maxRecDepth 100000
set_option maxHeartbeats 8000000
theorem encl (h : Hdr) (he : (encR h).2 = 0) : (encR h).1.length = 60 := (enc_dec h [] he).1
theorem addl_ [Go.AL.MX] (a b : Str) (h : a.length + b.length ≤ 140737488355328) : FCall Tryd.prog Gl 30 [LB a, LB b] [] (LBn (a ++ b)) [] := by
 refine FCall.enterL hT hmix [] Tryd.func30 rfl rfl rfl fun hbd => ?_
 (conv => whnf)
 refine ⟨_, appL (f := byteD) (xs := []) (ys := a) (zs := a) rfl rfl (fun _ => rfl) rfl (by show _ * 1 ≤ _; omega), ?_⟩
 (conv => whnf)
 refine ⟨_, appL (f := byteD) (xs := a) (ys := b) (zs := a ++ b) rfl rfl (fun _ => rfl) rfl (by rw [List.length_append]; show _ * 1 ≤ _; omega), ?_⟩
 (conv => whnf)
 exact Wk.nat' rfl
theorem aspecial_ [Go.AL.MX] (b : Str) (t : Bool) : FCall Tryd.prog Gl 12 [LB b, vB t] [] (vB true) [] := by
 refine FCall.enterL hT hmix [] Tryd.func12 rfl rfl rfl fun hbd => ?_
 (conv => whnf)
 refine CallLeaf.wa (aawake_) rfl ?_
 (conv => whnf)
 refine split_intro (fun h1 => ?_) (fun h1 => ?_)
 ·((conv => whnf); refine CallLeaf.wa (aawake_) rfl ?_; (conv => whnf); exact Wk.refl _)
 ·have h1' : b.length ≤ 10000 := by have := of_decide_eq_false h1; simp only [List.length_map] at this; omega
  have P := aparse_ b (by omega)
  by_cases hz : (arcP b).2.2 = 0
  ·obtain ⟨a1, a2, s, a3, a4⟩ := arc_ok hz
   rw [a4] at P
   (conv => whnf)
   refine CallLeaf.wa (P) rfl ?_
   (conv => whnf)
   refine split_intro (fun hm => ?_) (fun hm => ?_)
   ·(conv => whnf)
    exact Wk.refl _
   ·have hms : s.ms ≠ [] := fun h => by simp [h] at hm
    cases t with
    | true =>
     have hE := sp_ok true
     have hl := encl (hSp true) hE
     have E := encode_ (hSp true) (by decide) (by decide) (by decide) (by decide) (by decide) (by decide)
     have AS := arc_sp true a1 a2 a3 hms
     have AF := arc_front (b := b) true a1 a2
     have F8 : (b.take 8).length = 8 := by simp; omega
     have FD : (b.drop 8).length = b.length - 8 := by simp
     have P2 := aparse_ (b ++ (encR (hSp true)).1) (by simp only [List.length_append, hl]; omega)
     have P3 := aparse_ (b.take 8 ++ (encR (hSp true)).1 ++ b.drop 8) (by simp only [List.length_append, hl]; omega)
     rw [AS] at P2
     have A1 := addl_ b (encR (hSp true)).1 (by omega)
     have A2 := addl_ (b.take 8) (encR (hSp true)).1 (by omega)
     have A3 := addl_ (b.take 8 ++ (encR (hSp true)).1) (b.drop 8) (by simp only [List.length_append, hl]; omega)
     (conv => whnf)
     refine CallLeaf.wa (E) rfl ?_
     (conv => whnf)
     refine CallLeaf.wa (A1) rfl ?_
     (conv => whnf)
     refine CallLeaf.wa (P2) rfl ?_
     (conv => whnf)
     refine ⟨(b.take 8).map byteD, slL (by omega) (by omega) (by simp; omega) (fun _ => rfl) (by simp), ?_⟩
     (conv => whnf)
     refine CallLeaf.wa (A2) rfl ?_
     (conv => whnf)
     refine ⟨(b.drop 8).map byteD, slL (by omega) (by simp; omega) (by simp) (fun _ => rfl) (by simp), ?_⟩
     (conv => whnf)
     refine CallLeaf.wa (A3) rfl ?_
     (conv => whnf)
     refine CallLeaf.wa (P3) rfl ?_
     revert AF
     generalize arcP (b.take 8 ++ (encR (hSp true)).1 ++ b.drop 8) = q
     intro AF
     (conv => whnf)
     refine split_intro (fun _ => ?_) (fun h => absurd h (by simp))
     (conv => whnf)
     by_cases hhm : s.hm = true
     ·refine split_intro (fun h => absurd h (by simp [hhm])) (fun _ => ?_)
      (conv => whnf)
      by_cases hq : q.2.2 = 0
      ·refine split_intro (fun _ => ?_) (fun h => absurd h (by simp [hq]))
       (conv => whnf)
       exact Wk.refl _
      ·have h68 := AF hq
       refine split_intro (fun h => absurd h (by simpa using hq)) (fun _ => ?_)
       (conv => whnf)
       exact Wk.bool (by simp; omega)
     ·refine split_intro (fun _ => ?_) (fun h => absurd h (by simpa using hhm))
      (conv => whnf)
      by_cases hq : q.2.2 = 0
      ·refine split_intro (fun _ => ?_) (fun h => absurd h (by simp [hq]))
       (conv => whnf)
       exact Wk.refl _
      ·have h68 := AF hq
       refine split_intro (fun h => absurd h (by simpa using hq)) (fun _ => ?_)
       (conv => whnf)
       refine split_intro (fun h => absurd h (by simpa using hq)) (fun _ => ?_)
       (conv => whnf)
       exact Wk.bool (by simp; omega)
    | false =>
     have hE := sp_ok false
     have hl := encl (hSp false) hE
     have E := encode_ (hSp false) (by decide) (by decide) (by decide) (by decide) (by decide) (by decide)
     have AS := arc_sp false a1 a2 a3 hms
     have AF := arc_front (b := b) false a1 a2
     have F8 : (b.take 8).length = 8 := by simp; omega
     have FD : (b.drop 8).length = b.length - 8 := by simp
     have P2 := aparse_ (b ++ (encR (hSp false)).1) (by simp only [List.length_append, hl]; omega)
     have P3 := aparse_ (b.take 8 ++ (encR (hSp false)).1 ++ b.drop 8) (by simp only [List.length_append, hl]; omega)
     rw [AS] at P2
     have A1 := addl_ b (encR (hSp false)).1 (by omega)
     have A2 := addl_ (b.take 8) (encR (hSp false)).1 (by omega)
     have A3 := addl_ (b.take 8 ++ (encR (hSp false)).1) (b.drop 8) (by simp only [List.length_append, hl]; omega)
     (conv => whnf)
     refine CallLeaf.wa (E) rfl ?_
     (conv => whnf)
     refine CallLeaf.wa (A1) rfl ?_
     (conv => whnf)
     refine CallLeaf.wa (P2) rfl ?_
     (conv => whnf)
     refine ⟨(b.take 8).map byteD, slL (by omega) (by omega) (by simp; omega) (fun _ => rfl) (by simp), ?_⟩
     (conv => whnf)
     refine CallLeaf.wa (A2) rfl ?_
     (conv => whnf)
     refine ⟨(b.drop 8).map byteD, slL (by omega) (by simp; omega) (by simp) (fun _ => rfl) (by simp), ?_⟩
     (conv => whnf)
     refine CallLeaf.wa (A3) rfl ?_
     (conv => whnf)
     refine CallLeaf.wa (P3) rfl ?_
     revert AF
     generalize arcP (b.take 8 ++ (encR (hSp false)).1 ++ b.drop 8) = q
     intro AF
     (conv => whnf)
     refine split_intro (fun _ => ?_) (fun h => absurd h (by simp))
     (conv => whnf)
     by_cases hq : q.2.2 = 0
     ·refine split_intro (fun _ => ?_) (fun h => absurd h (by simp [hq]))
      (conv => whnf)
      exact Wk.refl _
     ·have h68 := AF hq
      refine split_intro (fun h => absurd h (by simpa using hq)) (fun _ => ?_)
      (conv => whnf)
      exact Wk.bool (by simp; omega)
  ·(conv => whnf)
   refine CallLeaf.wa (P) rfl ?_
   (conv => whnf)
   refine split_intro (fun _ => ?_) (fun h => absurd h (by simpa using hz))
   (conv => whnf)
   exact Wk.refl _
theorem aappends_ [Go.AL.MX] (b d : Str) (cut : Int) (h0 : 0 ≤ cut) (h6 : cut ≤ 65535) : FCall Tryd.prog Gl 11 [LB b, LB d, .v (.int .u16 cut)] [] (vB true) [] := by
 obtain ⟨cn, rfl⟩ := Int.eq_ofNat_of_zero_le h0
 refine FCall.enterL hT hmix [] Tryd.func11 rfl rfl rfl fun hbd => ?_
 (conv => whnf)
 refine CallLeaf.wa (aawake_) rfl ?_
 (conv => whnf)
 refine split_intro (fun h1 => ?_) (fun h1 => ?_)
 ·((conv => whnf); refine CallLeaf.wa (aawake_) rfl ?_; (conv => whnf); exact Wk.refl _)
 ·have h1' : b.length ≤ 10000 := by have := of_decide_eq_false h1; simp only [List.length_map] at this; omega
  (conv => whnf)
  refine split_intro (fun h2 => ?_) (fun h2 => ?_)
  ·((conv => whnf); refine CallLeaf.wa (aawake_) rfl ?_; (conv => whnf); exact Wk.refl _)
  ·have h2' : d.length ≤ 5000 := by have := of_decide_eq_false h2; simp only [List.length_map] at this; omega
   have P := aparse_ b (by omega)
   by_cases hz : (arcP b).2.2 = 0
   ·obtain ⟨a1, a2, s, a3, a4⟩ := arc_ok hz
    rw [a4] at P
    simp only [eArc, ms_t] at P
    (conv => whnf)
    refine CallLeaf.wa (P) rfl ?_
    (conv => whnf)
    have hEn := new_ok (n := d.length) (by omega)
    have hl := encl (hNew d.length) hEn
    have eN : hNew (d.map byteD).length = hNew d.length := by rw [List.length_map]
    have E := encode_ (hNew (d.map byteD).length) (by simp) (by simp) (by simp) (by simp) (by simp) (by show (((d.map byteD).length : Nat) : Int) ≤ _; simp only [List.length_map]; omega)
    have NN := arc_new d a1 a2 a3 (by omega)
    have hpl := padP_len d
    have A1 := addl_ b (encR (hNew d.length)).1 (by omega)
    obtain ⟨bh, hbh⟩ : ∃ x, x = b ++ (encR (hNew d.length)).1 := ⟨_, rfl⟩
    have hbl : bh.length = b.length + 60 := by rw [hbh, List.length_append, hl]
    rw [← hbh] at A1
    have A2 := laddT_ bh d (by omega)
    refine CallLeaf.wa (E) rfl ?_
    rw [eN]
    (conv => whnf)
    refine CallLeaf.wa (A1) rfl ?_
    (conv => whnf)
    refine CallLeaf.oa [3616] (A2) rfl rfl rfl rfl ?_
    (conv => whnf)
    refine ⟨_, rem64 (c := ((d.length % 2 : Nat) : Int)) (by simp only [List.length_map]; rfl) (by omega), ?_⟩
    (conv => whnf)
    have hms := ms_bd a3
    have hol := (chain_ok a1 a3).2
    have S1 := rsms_ ((s.ms ++ [mNew d]).map (fun m => (m, Tg.nat))) (s.ms.map (fun m => (m, Tg.nat)) ++ [(mNew d, Tg.any)])
    rw [decide_eq_true (by simp only [fsts, List.map_append, List.map_map, List.map_cons, List.map_nil]; try (congr 1 <;> exact List.map_id _))] at S1
    have S2 := rnums_ (s.os ++ [b.length]) (s.os ++ [(b.map byteD).length])
    rw [decide_eq_true (by rw [List.length_map])] at S2
    by_cases hodd : d.length % 2 = 1
    ·obtain ⟨cc, hcc⟩ : ∃ x, x = b ++ ((encR (hNew d.length)).1 ++ d ++ padP d) := ⟨_, rfl⟩
     have hcl : cc.length = b.length + (60 + d.length + d.length % 2) := by rw [hcc]; simp only [List.length_append, hl, hpl]
     have P2 := aparse_ cc (by omega)
     rw [← hcc] at NN
     rw [NN] at P2
     simp only [eArc, ms_t] at P2
     have hP : d.length % 2 = 1 := by omega
     refine split_intro (fun _ => ?_) (fun h => absurd h (by simp; omega))
     (conv => whnf)
     have hbb : bh ++ d ++ [10] = cc := by rw [hcc, hbh]; simp [padP, hP]
     refine ⟨_, appL (f := byteD) (xs := bh ++ d) (ys := [10]) (zs := cc) rfl rfl (fun _ => rfl) hbb (by show _ * 1 ≤ _; omega), ?_⟩
     (conv => whnf)
     refine CallLeaf.wa (P2) rfl ?_
     (conv => whnf)
     refine ⟨_, appL (f := eMt) (xs := []) (ys := s.ms.map (fun m => (m, Tg.nat))) (zs := s.ms.map (fun m => (m, Tg.nat))) rfl rfl (fun _ => rfl) rfl (by show _ * 72 ≤ _; simp; omega), ?_⟩
     (conv => whnf)
     refine ⟨_, appL (f := eMt) (xs := s.ms.map (fun m => (m, Tg.nat))) (ys := [(mNew d, Tg.any)]) (zs := s.ms.map (fun m => (m, Tg.nat)) ++ [(mNew d, Tg.any)]) rfl rfl (fun _ => rfl) rfl (by show _ * 72 ≤ _; simp; omega), ?_⟩
     (conv => whnf)
     refine CallLeaf.wa (S1) rfl ?_
     (conv => whnf)
     refine ⟨_, appL (f := eO) (xs := []) (ys := s.os) (zs := s.os) rfl rfl (fun _ => rfl) rfl (by show _ * 8 ≤ _; omega), ?_⟩
     (conv => whnf)
     refine ⟨_, appL (f := eO) (xs := s.os) (ys := [(b.map byteD).length]) (zs := s.os ++ [(b.map byteD).length]) rfl rfl (fun _ => rfl) rfl (by show _ * 8 ≤ _; simp; omega), ?_⟩
     (conv => whnf)
     refine CallLeaf.wa (S2) rfl ?_
     (conv => whnf)
     refine split_intro (fun h => absurd h (by simp)) (fun _ => ?_)
     (conv => whnf)
     refine ⟨_, add64 (c := ((b.length + 1 : Nat) : Int)) (by simp) (by omega), ?_⟩
     (conv => whnf)
     refine ⟨(cn : Int), by show IntKind.i64.wrap (cn : Int) = _; exact wrap64 ⟨by omega, by omega⟩, ?_⟩
     (conv => whnf)
     refine ⟨_, sub64 (c := ((60 + d.length + d.length % 2 : Nat) : Int)) (by simp only [List.length_map]; omega) (by omega), ?_⟩
     (conv => whnf)
     refine ⟨_, sub64 (c := ((59 + d.length + d.length % 2 : Nat) : Int)) (by omega) (by omega), ?_⟩
     (conv => whnf)
     refine ⟨_, rem64 (c := ((cn % (59 + d.length + d.length % 2) : Nat) : Int)) rfl (by omega), ?_⟩
     (conv => whnf)
     have hj := Nat.mod_lt cn (show 0 < 59 + d.length + d.length % 2 by omega)
     obtain ⟨j, hjj⟩ : ∃ j, j = cn % (59 + d.length + d.length % 2) := ⟨_, rfl⟩
     rw [← hjj] at hj ⊢
     have hck : cc.take (b.length + 1 + j) = b ++ ((encR (hNew d.length)).1 ++ d ++ padP d).take (1 + j) := by
      rw [hcc, Nat.add_assoc, List.take_length_add_append]
     have P3 := aparse_ (cc.take (b.length + 1 + j)) (by simp only [List.length_take]; omega)
     rw [hck, arc_cut a1 a2 a3 hEn rfl (by omega) (by omega), ← hck] at P3
     refine ⟨_, add64 (c := ((b.length + 1 + j : Nat) : Int)) (by omega) (by omega), ?_⟩
     (conv => whnf)
     refine ⟨(cc.take (b.length + 1 + j)).map byteD, slL (by omega) (by omega) (by simp only [List.length_map]; omega) (fun _ => rfl) (by show (cc.take (b.length + 1 + j)).drop 0 = _; rfl), ?_⟩
     (conv => whnf)
     refine CallLeaf.wa (P3) rfl ?_
     (conv => whnf)
     refine split_intro (fun _ => ?_) (fun h => absurd h (by simp))
     (conv => whnf)
     exact Wk.refl _
    ·obtain ⟨cc, hcc⟩ : ∃ x, x = b ++ ((encR (hNew d.length)).1 ++ d ++ padP d) := ⟨_, rfl⟩
     have hcl : cc.length = b.length + (60 + d.length + d.length % 2) := by rw [hcc]; simp only [List.length_append, hl, hpl]
     have P2 := aparse_ cc (by omega)
     rw [← hcc] at NN
     rw [NN] at P2
     simp only [eArc, ms_t] at P2
     have hP : d.length % 2 = 0 := by omega
     refine split_intro (fun h => absurd h (by simp; omega)) (fun _ => ?_)
     have hbb : bh ++ d = cc := by rw [hcc, hbh]; simp [padP, hP]
     rw [hbb]
     (conv => whnf)
     refine CallLeaf.wa (P2) rfl ?_
     (conv => whnf)
     refine ⟨_, appL (f := eMt) (xs := []) (ys := s.ms.map (fun m => (m, Tg.nat))) (zs := s.ms.map (fun m => (m, Tg.nat))) rfl rfl (fun _ => rfl) rfl (by show _ * 72 ≤ _; simp; omega), ?_⟩
     (conv => whnf)
     refine ⟨_, appL (f := eMt) (xs := s.ms.map (fun m => (m, Tg.nat))) (ys := [(mNew d, Tg.any)]) (zs := s.ms.map (fun m => (m, Tg.nat)) ++ [(mNew d, Tg.any)]) rfl rfl (fun _ => rfl) rfl (by show _ * 72 ≤ _; simp; omega), ?_⟩
     (conv => whnf)
     refine CallLeaf.wa (S1) rfl ?_
     (conv => whnf)
     refine ⟨_, appL (f := eO) (xs := []) (ys := s.os) (zs := s.os) rfl rfl (fun _ => rfl) rfl (by show _ * 8 ≤ _; omega), ?_⟩
     (conv => whnf)
     refine ⟨_, appL (f := eO) (xs := s.os) (ys := [(b.map byteD).length]) (zs := s.os ++ [(b.map byteD).length]) rfl rfl (fun _ => rfl) rfl (by show _ * 8 ≤ _; simp; omega), ?_⟩
     (conv => whnf)
     refine CallLeaf.wa (S2) rfl ?_
     (conv => whnf)
     refine split_intro (fun h => absurd h (by simp)) (fun _ => ?_)
     (conv => whnf)
     refine ⟨_, add64 (c := ((b.length + 1 : Nat) : Int)) (by simp) (by omega), ?_⟩
     (conv => whnf)
     refine ⟨(cn : Int), by show IntKind.i64.wrap (cn : Int) = _; exact wrap64 ⟨by omega, by omega⟩, ?_⟩
     (conv => whnf)
     refine ⟨_, sub64 (c := ((60 + d.length + d.length % 2 : Nat) : Int)) (by simp only [List.length_map]; omega) (by omega), ?_⟩
     (conv => whnf)
     refine ⟨_, sub64 (c := ((59 + d.length + d.length % 2 : Nat) : Int)) (by omega) (by omega), ?_⟩
     (conv => whnf)
     refine ⟨_, rem64 (c := ((cn % (59 + d.length + d.length % 2) : Nat) : Int)) rfl (by omega), ?_⟩
     (conv => whnf)
     have hj := Nat.mod_lt cn (show 0 < 59 + d.length + d.length % 2 by omega)
     obtain ⟨j, hjj⟩ : ∃ j, j = cn % (59 + d.length + d.length % 2) := ⟨_, rfl⟩
     rw [← hjj] at hj ⊢
     have hck : cc.take (b.length + 1 + j) = b ++ ((encR (hNew d.length)).1 ++ d ++ padP d).take (1 + j) := by
      rw [hcc, Nat.add_assoc, List.take_length_add_append]
     have P3 := aparse_ (cc.take (b.length + 1 + j)) (by simp only [List.length_take]; omega)
     rw [hck, arc_cut a1 a2 a3 hEn rfl (by omega) (by omega), ← hck] at P3
     refine ⟨_, add64 (c := ((b.length + 1 + j : Nat) : Int)) (by omega) (by omega), ?_⟩
     (conv => whnf)
     refine ⟨(cc.take (b.length + 1 + j)).map byteD, slL (by omega) (by omega) (by simp only [List.length_map]; omega) (fun _ => rfl) (by show (cc.take (b.length + 1 + j)).drop 0 = _; rfl), ?_⟩
     (conv => whnf)
     refine CallLeaf.wa (P3) rfl ?_
     (conv => whnf)
     refine split_intro (fun _ => ?_) (fun h => absurd h (by simp))
     (conv => whnf)
     exact Wk.refl _
   ·(conv => whnf)
    refine CallLeaf.wa (P) rfl ?_
    (conv => whnf)
    refine split_intro (fun _ => ?_) (fun h => absurd h (by simpa using hz))
    (conv => whnf)
    exact Wk.refl _
end Go.Proofs.YtimnnknfcfongaaDoor.H

namespace Go.Proofs.YtimnnknfcfongaaDoor.H
open Go Go.AL Go.AL.Hd Go.AL.Ln Go.AL.Ar Go.AL.Sc
set_option maxRecDepth 100000
set_option maxHeartbeats 8000000
abbrev eW (u : UInt8) : List D := [.sq (.int .u8)]
abbrev oW (u : Nat) : List D := [.sq (.int .i64)]
abbrev mW (m : Mem) : List D := [.sq .str, .sq (.int .i64), .sq (.int .i64), .sq (.int .i64), .sq (.int .i64), .slist (m.data.map eW)]
theorem al_Gl [Go.AL.MX] (g : Nat) : Al (.ro (Gl g)) := by
 refine .ro _ ?_
 simp only [Gl]
 split <;> (repeat' (first | exact Al.v _ | exact Al.nil | exact Al.junk | refine Al.map _ (fun _ => ?_) | refine Al.agg _ ?_ | refine Al.tuple _ ?_ | refine Al.cons ?_ ?_ | exact Al.none'))
theorem th_b (c : Bool) (x : Str) : Th c (LBn x) (.slist (x.map eW)) :=
 Th.map _ _ (fun u => (ThL.cons (Th.int _ _) ThL.nil : ThL _ [.v (.int .u8 (u.toNat : Int))] [.sq (.int .u8)]))
theorem th_arc (a : Arc) (n : Nat) (e : Int) : Th false (.tuple [.agg (eArc a), vI n, vI e]) (.tuple [.agg [vB a.hm, .slist (a.map.map eW), .slist (a.ms.map mW), .slist (a.os.map oW)], vI n, vI e]) := by
 refine Th.tupleL (ThL.cons (Th.aggL (ThL.cons (Th.bool _ _) (ThL.cons (th_b _ _) (ThL.cons (Th.map _ _ (fun m => ?_)) (ThL.cons (Th.map _ _ (fun u => ?_)) ThL.nil))))) (ThL.cons (Th.v _) (ThL.cons (Th.v _) ThL.nil)))
 ·exact (ThL.cons (Th.str _) (ThL.cons (Th.int _ _) (ThL.cons (Th.int _ _) (ThL.cons (Th.int _ _) (ThL.cons (Th.int _ _) (ThL.cons (th_b _ _) ThL.nil))))) : ThL true (eMn m) (mW m))
 ·exact (ThL.cons (Th.int _ _) ThL.nil : ThL true (eO u) (oW u))
theorem aparseW_ [Go.AL.MX] (b : Str) (hb : b.length < 4294967280) : FCall Tryd.prog Gl 32 [LB b] [] (.tuple [.agg [vB (arcP b).1.hm, .slist ((arcP b).1.map.map eW), .slist ((arcP b).1.ms.map mW), .slist ((arcP b).1.os.map oW)], vI (arcP b).2.1, vI (arcP b).2.2]) [] :=
 FCall.thaw (aparse_ b hb) (by (repeat' (first | exact Al.v _ | exact Al.nil | exact Al.junk | refine Al.map _ (fun _ => ?_) | refine Al.agg _ ?_ | refine Al.tuple _ ?_ | refine Al.cons ?_ ?_ | exact Al.none'))) al_Gl (th_arc _ _ _)
theorem akeeps_ [Go.AL.MX] (b : Str) : FCall Tryd.prog Gl 13 [LB b] [] (vB true) [] := by
 refine FCall.enterL hT hmix [] Tryd.func13 rfl rfl rfl fun hbd => ?_
 (conv => whnf)
 refine CallLeaf.wa (aawake_) rfl ?_
 (conv => whnf)
 refine split_intro (fun h1 => ?_) (fun h1 => ?_)
 ·((conv => whnf); refine CallLeaf.wa (aawake_) rfl ?_; (conv => whnf); exact Wk.refl _)
 ·have h1' : b.length ≤ 20000 := by have := of_decide_eq_false h1; simp only [List.length_map] at this; omega
  have S1 := O.same_ b b
  rw [decide_eq_true rfl] at S1
  have P := aparseW_ b (by omega)
  have B := arc_bd b
  revert P B
  generalize arcP b = q
  obtain ⟨⟨hm, mp, ms, os⟩, n, e⟩ := q
  intro P ⟨B1, B2, B3⟩
  replace B1 : ms.length ≤ b.length + 60 := B1
  replace B2 : ∀ m ∈ ms, m.data.length ≤ b.length := B2
  replace B3 : mp.length ≤ b.length := B3
  (conv => whnf)
  refine ⟨_, appL (f := byteD) (xs := []) (ys := b) (zs := b) rfl rfl (fun _ => rfl) rfl (by show _ * 1 ≤ _; omega), ?_⟩
  (conv => whnf)
  refine CallLeaf.wa (P) rfl ?_
  (conv => whnf)
  refine LWp.loop hT hmix [] (fun k : Nat => [(7, vI k)]) (fun _ => []) (fun k => k ≤ ms.length) (fun k => ms.length - k) 0 (Nat.zero_le _) ?_
  (conv => whnf)
  refine ⟨?_, fun i hi => ?_⟩
  ·(repeat' (first | exact trivial | exact Wk.refl _ | exact ObWk.refl _ | exact rfl | exact ⟨_, rfl⟩ | exact Nat.zero_lt_one | refine And.intro ?_ ?_ | unfold okTo | (unfold okO; conv => whnf) | (unfold okS; conv => whnf) | (unfold SlotOk; conv => whnf) | (unfold ObjOk; conv => whnf) | (unfold okCells; conv => whnf) | (unfold liveTo; conv => whnf) | exact Nat.zero_lt_succ _))
  ·replace hi : i ≤ ms.length := hi
   (conv => whnf)
   refine split_intro (fun h2 => ?_) (fun h2 => ?_)
   ·have hlt : i < ms.length := by have := of_decide_eq_true h2; simp only [List.length_map] at this; omega
    obtain ⟨m, hm'⟩ := exI hlt
    have hmd := B2 m (List.mem_of_getElem? hm')
    (conv => whnf)
    refine LWp.loop hT hmix [] (fun k : Nat => [(8, vI k)]) (fun _ => []) (fun k => k ≤ m.data.length) (fun k => m.data.length - k) 0 (Nat.zero_le _) ?_
    (conv => whnf)
    refine ⟨?_, fun k hk => ?_⟩
    ·(repeat' (first | exact trivial | exact Wk.refl _ | exact ObWk.refl _ | exact rfl | exact ⟨_, rfl⟩ | exact Nat.zero_lt_one | refine And.intro ?_ ?_ | unfold okTo | (unfold okO; conv => whnf) | (unfold okS; conv => whnf) | (unfold SlotOk; conv => whnf) | (unfold ObjOk; conv => whnf) | (unfold okCells; conv => whnf) | (unfold liveTo; conv => whnf) | exact Nat.zero_lt_succ _))
    ·replace hk : k ≤ m.data.length := hk
     (conv => whnf)
     refine ⟨_, ⟨Int.natCast_nonneg _, getMap hm'⟩, ?_⟩
     (conv => whnf)
     refine split_intro (fun h3 => ?_) (fun h3 => ?_)
     ·have hlt3 : k < m.data.length := by have := of_decide_eq_true h3; simp only [List.length_map] at this; omega
      obtain ⟨y, hy⟩ := exI hlt3
      (conv => whnf)
      refine ⟨_, ⟨Int.natCast_nonneg _, getMap hm'⟩, ?_⟩
      (conv => whnf)
      refine ⟨_, ⟨Int.natCast_nonneg _, getMap hy⟩, ?_⟩
      (conv => whnf)
      refine ⟨_, ⟨Int.natCast_nonneg _, getMap hy⟩, ?_⟩
      (conv => whnf)
      refine ⟨_, add64 (c := ((k + 1 : Nat) : Int)) (by (try simp only []); omega) (by omega), ?_⟩
      (conv => whnf)
      refine ⟨k + 1, ⟨hlt3, by show m.data.length - (k + 1) < m.data.length - k; omega⟩, ?_⟩
      (repeat' (first | exact trivial | exact Wk.refl _ | exact ObWk.refl _ | exact rfl | exact ⟨_, rfl⟩ | exact Nat.zero_lt_one | refine And.intro ?_ ?_ | unfold okTo | (unfold okO; conv => whnf) | (unfold okS; conv => whnf) | (unfold SlotOk; conv => whnf) | (unfold ObjOk; conv => whnf) | (unfold okCells; conv => whnf) | (unfold liveTo; conv => whnf) | exact Nat.zero_lt_succ _))
     ·(conv => whnf)
      refine ⟨_, add64 (c := ((i + 1 : Nat) : Int)) (by (try simp only []); omega) (by omega), ?_⟩
      (conv => whnf)
      refine ⟨i + 1, ⟨hlt, by show ms.length - (i + 1) < ms.length - i; omega⟩, ?_⟩
      (repeat' (first | exact trivial | exact Wk.refl _ | exact ObWk.refl _ | exact rfl | exact ⟨_, rfl⟩ | exact Nat.zero_lt_one | refine And.intro ?_ ?_ | unfold okTo | (unfold okO; conv => whnf) | (unfold okS; conv => whnf) | (unfold SlotOk; conv => whnf) | (unfold ObjOk; conv => whnf) | (unfold okCells; conv => whnf) | (unfold liveTo; conv => whnf) | exact Nat.zero_lt_succ _))
   ·(conv => whnf)
    refine LWp.loop hT hmix [] (fun k : Nat => [(9, vI k)]) (fun _ => []) (fun k => k ≤ mp.length) (fun k => mp.length - k) 0 (Nat.zero_le _) ?_
    (conv => whnf)
    refine ⟨?_, fun k hk => ?_⟩
    ·(repeat' (first | exact trivial | exact Wk.refl _ | exact ObWk.refl _ | exact rfl | exact ⟨_, rfl⟩ | exact Nat.zero_lt_one | refine And.intro ?_ ?_ | unfold okTo | (unfold okO; conv => whnf) | (unfold okS; conv => whnf) | (unfold SlotOk; conv => whnf) | (unfold ObjOk; conv => whnf) | (unfold okCells; conv => whnf) | (unfold liveTo; conv => whnf) | exact Nat.zero_lt_succ _))
    ·replace hk : k ≤ mp.length := hk
     (conv => whnf)
     refine split_intro (fun h3 => ?_) (fun h3 => ?_)
     ·have hlt3 : k < mp.length := by have := of_decide_eq_true h3; simp only [List.length_map] at this; omega
      obtain ⟨y, hy⟩ := exI hlt3
      (conv => whnf)
      refine ⟨_, ⟨Int.natCast_nonneg _, getMap hy⟩, ?_⟩
      (conv => whnf)
      refine ⟨_, ⟨Int.natCast_nonneg _, getMap hy⟩, ?_⟩
      (conv => whnf)
      refine ⟨_, add64 (c := ((k + 1 : Nat) : Int)) (by (try simp only []); omega) (by omega), ?_⟩
      (conv => whnf)
      refine ⟨k + 1, ⟨hlt3, by show mp.length - (k + 1) < mp.length - k; omega⟩, ?_⟩
      (repeat' (first | exact trivial | exact Wk.refl _ | exact ObWk.refl _ | exact rfl | exact ⟨_, rfl⟩ | exact Nat.zero_lt_one | refine And.intro ?_ ?_ | unfold okTo | (unfold okO; conv => whnf) | (unfold okS; conv => whnf) | (unfold SlotOk; conv => whnf) | (unfold ObjOk; conv => whnf) | (unfold okCells; conv => whnf) | (unfold liveTo; conv => whnf) | exact Nat.zero_lt_succ _))
     ·(conv => whnf)
      refine CallLeaf.wa (S1) rfl ?_
      (conv => whnf)
      exact Wk.refl _
end Go.Proofs.YtimnnknfcfongaaDoor.H
