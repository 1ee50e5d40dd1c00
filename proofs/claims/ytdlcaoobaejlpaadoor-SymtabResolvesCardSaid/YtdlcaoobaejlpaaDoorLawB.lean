/- SymtabResolves, walked. No condition. -/
import Derived.Test.YtdlcaoobaejlpaaDoorSyb
import Derived.Test.YtdlcaoobaejlpaaDoorAop
import Derived.Test.YtdlcaoobaejlpaaDoorRows
import Derived.Test.YtdlcaoobaejlpaaDoorCards
import Derived.Test.YtdlcaoobaejlpaaDoorTie
import Derived.SevenTiedAt
set_option linter.unusedVariables false
set_option linter.unusedSimpArgs false
namespace Go.Proofs.YtdlcaoobaejlpaaDoor
open Go Go.AL Go.AL.Bd
set_option maxRecDepth 100000
set_option maxHeartbeats 4000000
theorem okS_of {l : List Ob.Obj} (h : rightO l = true) : ∀ o ∈ l, ∀ s ∈ o.syms, Sy.OkS (Sy.toB s) := fun o ho s hs => by
  have hv := validO_mem ((rightO_iff.1 h).2 o ho).2.2 s hs
  obtain ⟨_, _, _, h4, _, h5⟩ := Ob.valid_iff.1 hv
  have h6 := Ob.bind_le h5
  refine ⟨⟨h6.1, h6.2.1⟩, fun h => ?_, fun h => ?_⟩
  · have : ¬ s.bind = 3 := by intro e; simp only [Sy.toB] at h; omega
    have h' : s.bind = 4 ∨ s.bind = 5 := by simp only [Sy.toB] at h; omega
    simp only [Ob.bindOk, this, h', if_true, if_false] at h5
    simpa [Sy.toB] using h5
  · have a1 : ¬ s.bind = 3 := by intro e; simp only [Sy.toB] at h; omega
    have a2 : ¬ (s.bind = 4 ∨ s.bind = 5) := by simp only [Sy.toB] at h; omega
    simp only [Ob.bindOk, a1, a2, if_false, Bool.and_eq_true, decide_eq_true_eq] at h5
    exact h5.2
theorem okS_us {l : List Ob.Obj} (h : rightO l = true) : ∀ u ∈ Us l, Sy.OkS u.sym := fun u hu => by
  obtain ⟨o, ho, s, hs, i, rfl⟩ := usesL_mem hu
  exact okS_of h o ho s hs
abbrev gI (l : List Ob.Obj) (n : Str) (i : Nat) : Sy.Gs := Sy.gall (Sy.of (Us (l.take i)) n)
abbrev gX (l : List Ob.Obj) (n : Str) (i : Nat) (t : List Ob.Sym) : Sy.Gs := Sy.gall (ofX l n i t)
abbrev gS (g : Sy.Gs) : Sl := [(9, vI g.best), (10, vI g.size), (11, vI g.align), (12, vI g.unit)]
theorem gX_step {l : List Ob.Obj} {n : Str} {i k : Nat} {t : List Ob.Sym} {s : Ob.Sym} (h : t[k]? = some s) (hn : s.name = n) : gX l n i (t.take (k + 1)) = Sy.gstep (gX l n i (t.take k)) ⟨Sy.toB s, (i : Int)⟩ := by
  simp only [gX]
  rw [show ofX l n i (t.take (k + 1)) = ofX l n i (t.take k) ++ if s.name = n then [⟨Sy.toB s, (i : Int)⟩] else [] from uses_step (Us (l.take i)) h n (i := i), if_pos hn, Sy.gall_snoc]
theorem gX_skip {l : List Ob.Obj} {n : Str} {i k : Nat} {t : List Ob.Sym} {s : Ob.Sym} (h : t[k]? = some s) (hn : ¬ s.name = n) : gX l n i (t.take (k + 1)) = gX l n i (t.take k) := by
  simp only [gX]
  rw [show ofX l n i (t.take (k + 1)) = ofX l n i (t.take k) ++ if s.name = n then [⟨Sy.toB s, (i : Int)⟩] else [] from uses_step (Us (l.take i)) h n (i := i), if_neg hn, List.append_nil]
theorem symRes_ (l : List Ob.Obj) (at' : Nat) (hat : at' ≤ 255) : FCall Tryd.prog Gl 4 [LO l, .v (.int .u8 (at' : Int))] [] (vB true) [] := by
  refine FCall.enterL hT hmix [] Tryd.func4 rfl rfl rfl fun hbd => ?_
  (conv => whnf)
  refine CallLeaf.w (by (repeat' (first | exact ArgsTo.nil | refine ArgsTo.cons ?_ ?_ | exact ArgTo.mk' rfl (Wk.refl _) | exact ArgTo.mk' rfl Wk.nilm | exact ArgTo.mk' rfl (Wk.int (by simp)) | exact ArgTo.mk' rfl (Wk.list _ _) | exact ArgTo.mk' rfl (Wk.agg (by (repeat' (first | exact Wks.nil | refine Wks.cons ?_ ?_ | exact Wk.refl _ | exact Wk.nilm | exact Wk.list _ _  | exact Wk.natN rfl | refine Wk.agg ?_))))))) (awake_) rfl ?_
  (conv => whnf)
  refine CallLeaf.w (by (repeat' (first | exact ArgsTo.nil | refine ArgsTo.cons ?_ ?_ | exact ArgTo.mk' rfl (Wk.refl _) | exact ArgTo.mk' rfl Wk.nilm | exact ArgTo.mk' rfl (Wk.int (by simp)) | exact ArgTo.mk' rfl (Wk.list _ _) | exact ArgTo.mk' rfl (Wk.agg (by (repeat' (first | exact Wks.nil | refine Wks.cons ?_ ?_ | exact Wk.refl _ | exact Wk.nilm | exact Wk.list _ _  | exact Wk.natN rfl | refine Wk.agg ?_))))))) (right_ l) rfl ?_
  (conv => whnf)
  refine split_intro (fun hr => ?_) (fun hr => ?_)
  · (((conv => whnf)); (refine CallLeaf.w (by (repeat' (first | exact ArgsTo.nil | refine ArgsTo.cons ?_ ?_ | exact ArgTo.mk' rfl (Wk.refl _) | exact ArgTo.mk' rfl Wk.nilm | exact ArgTo.mk' rfl (Wk.int (by simp)) | exact ArgTo.mk' rfl (Wk.list _ _) | exact ArgTo.mk' rfl (Wk.agg (by (repeat' (first | exact Wks.nil | refine Wks.cons ?_ ?_ | exact Wk.refl _ | exact Wk.nilm | exact Wk.list _ _  | exact Wk.natN rfl | refine Wk.agg ?_))))))) (awake_) rfl ?_); ((conv => whnf)); exact Wk.refl _)
  · have ok := right_ok (not_f hr)
    have okS := okS_us (not_f hr)
    have okO := okS_of (not_f hr)
    have hl := ok.len
    (conv => whnf)
    refine LWp.loop hT hmix [] (fun k : Nat => [(6, vI k)]) (fun k => TK 1536 3616 l k) (fun k => k ≤ l.length) (fun k => l.length - k) 0 (Nat.zero_le _) ?_
    (conv => whnf)
    refine ⟨?_, fun k hk => ?_⟩
    · (repeat' (first | exact trivial | exact Wk.refl _ | exact ObWk.refl _ | exact rfl | exact ⟨_, rfl⟩ | exact Nat.zero_lt_one | refine And.intro ?_ ?_ | unfold okTo | (unfold okO; conv => whnf) | (unfold okS; conv => whnf) | (unfold SlotOk; conv => whnf) | (unfold ObjOk; conv => whnf) | (unfold okCells; conv => whnf) | (unfold liveTo; conv => whnf) | exact Nat.zero_lt_succ _))
    · cases k with
      | zero =>
        (conv => whnf)
        refine split_intro (fun h => ?_) (fun h => ?_)
        · have hlt : 0 < l.length := by have := of_decide_eq_true h; simp at this; omega
          obtain ⟨o, ho⟩ := exI hlt
          (conv => whnf)
          refine ⟨_, ⟨by omega, getMap ho⟩, ?_⟩
          (conv => whnf)
          refine CallLeaf.o [1536, 3616] (by (repeat' (first | exact ArgsTo.nil | refine ArgsTo.cons ?_ ?_ | exact ArgTo.mk' rfl (Wk.refl _) | exact ArgTo.mk' rfl Wk.nilm | exact ArgTo.mk' rfl (Wk.int (by simp)) | exact ArgTo.mk' rfl (Wk.list _ _) | exact ArgTo.mk' rfl (Wk.agg (by (repeat' (first | exact Wks.nil | refine Wks.cons ?_ ?_ | exact Wk.refl _ | exact Wk.nilm | exact Wk.list _ _  | exact Wk.natN rfl | refine Wk.agg ?_))))))) (load0 ok ho) rfl rfl (by (repeat' (first | exact trivial | exact rfl | refine And.intro ?_ ?_))) (by (repeat' (first | exact trivial | exact rfl | refine And.intro ?_ ?_))) (by (repeat' (first | exact trivial | exact rfl | refine And.intro ?_ ?_))) rfl rfl ?_
          (conv => whnf)
          refine ⟨_, add64 (c := ((0 + 1 : Nat) : Int)) (by (try simp only []); omega) (by omega), ?_⟩
          (conv => whnf)
          refine ⟨0 + 1, ⟨by omega, by simp only []; omega⟩, ?_⟩
          (repeat' (first | exact trivial | exact Wk.refl _ | exact ObWk.refl _ | exact rfl | exact ⟨_, rfl⟩ | exact Nat.zero_lt_one | refine And.intro ?_ ?_ | unfold okTo | (unfold okO; conv => whnf) | (unfold okS; conv => whnf) | (unfold SlotOk; conv => whnf) | (unfold ObjOk; conv => whnf) | (unfold okCells; conv => whnf) | (unfold liveTo; conv => whnf) | exact Nat.zero_lt_succ _))
        · have h0 : l = [] := by have := of_decide_eq_false h; simpa using this
          subst h0
          (conv => whnf)
          refine CallLeaf.o [1536] (by (repeat' (first | exact ArgsTo.nil | refine ArgsTo.cons ?_ ?_ | exact ArgTo.mk' rfl (Wk.refl _) | exact ArgTo.mk' rfl Wk.nilm | exact ArgTo.mk' rfl (Wk.int (by simp)) | exact ArgTo.mk' rfl (Wk.list _ _) | exact ArgTo.mk' rfl (Wk.agg (by (repeat' (first | exact Wks.nil | refine Wks.cons ?_ ?_ | exact Wk.refl _ | exact Wk.nilm | exact Wk.list _ _  | exact Wk.natN rfl | refine Wk.agg ?_))))))) (tresZ_) rfl rfl (by (repeat' (first | exact trivial | exact rfl | refine And.intro ?_ ?_))) (by (repeat' (first | exact trivial | exact rfl | refine And.intro ?_ ?_))) (by (repeat' (first | exact trivial | exact rfl | refine And.intro ?_ ?_))) rfl rfl ?_
          (conv => whnf)
          refine CallLeaf.w (by (repeat' (first | exact ArgsTo.nil | refine ArgsTo.cons ?_ ?_ | exact ArgTo.mk' rfl (Wk.refl _) | exact ArgTo.mk' rfl Wk.nilm | exact ArgTo.mk' rfl (Wk.int (by simp)) | exact ArgTo.mk' rfl (Wk.list _ _) | exact ArgTo.mk' rfl (Wk.agg (by (repeat' (first | exact Wks.nil | refine Wks.cons ?_ ?_ | exact Wk.refl _ | exact Wk.nilm | exact Wk.list _ _  | exact Wk.natN rfl | refine Wk.agg ?_))))))) (rnames_ [] ok) rfl ?_
          (conv => whnf)
          exact Wk.bool (by simp [Us, usesL, Sy.names])
      | succ k =>
        (conv => whnf)
        refine split_intro (fun h => ?_) (fun h => ?_)
        · have hlt : k + 1 < l.length := by have := of_decide_eq_true h; simp at this; omega
          obtain ⟨o, ho⟩ := exI hlt
          (conv => whnf)
          refine ⟨_, ⟨by omega, getMap ho⟩, ?_⟩
          (conv => whnf)
          refine CallLeaf.o [1536, 3616] (by (repeat' (first | exact ArgsTo.nil | refine ArgsTo.cons ?_ ?_ | exact ArgTo.mk' rfl (Wk.refl _) | exact ArgTo.mk' rfl Wk.nilm | exact ArgTo.mk' rfl (Wk.int (by simp)) | exact ArgTo.mk' rfl (Wk.list _ _) | exact ArgTo.mk' rfl (Wk.agg (by (repeat' (first | exact Wks.nil | refine Wks.cons ?_ ?_ | exact Wk.refl _ | exact Wk.nilm | exact Wk.list _ _  | exact Wk.natN rfl | refine Wk.agg ?_))))))) (loadK ok ho) rfl rfl (by (repeat' (first | exact trivial | exact rfl | refine And.intro ?_ ?_))) (by (repeat' (first | exact trivial | exact rfl | refine And.intro ?_ ?_))) (by (repeat' (first | exact trivial | exact rfl | refine And.intro ?_ ?_))) rfl rfl ?_
          (conv => whnf)
          refine ⟨_, add64 (c := ((k + 1 + 1 : Nat) : Int)) (by (try simp only []); omega) (by omega), ?_⟩
          (conv => whnf)
          refine ⟨k + 1 + 1, ⟨by omega, by simp only []; omega⟩, ?_⟩
          (repeat' (first | exact trivial | exact Wk.refl _ | exact ObWk.refl _ | exact rfl | exact ⟨_, rfl⟩ | exact Nat.zero_lt_one | refine And.intro ?_ ?_ | unfold okTo | (unfold okO; conv => whnf) | (unfold okS; conv => whnf) | (unfold SlotOk; conv => whnf) | (unfold ObjOk; conv => whnf) | (unfold okCells; conv => whnf) | (unfold liveTo; conv => whnf) | exact Nat.zero_lt_succ _))
        · have hge : l.length ≤ k + 1 := by have := of_decide_eq_false h; simp at this; omega
          have e : l.take (k + 1) = l := List.take_of_length_le hge
          have B2 := resK ok (k + 1)
          obtain ⟨Rl, hRl⟩ : ∃ Rl, resL (Us (l.take (k + 1))) = Rl := ⟨_, rfl⟩
          rw [hRl] at B2
          rw [e] at hRl
          have hlen : Rl.length = (Sy.names (Us l)).length := by rw [← hRl]; simp [resL]
          have hnl := names_len (Us l)
          have hul := ok.le
          (conv => whnf)
          refine CallLeaf.o [1536, 3616] (by (repeat' (first | exact ArgsTo.nil | refine ArgsTo.cons ?_ ?_ | exact ArgTo.mk' rfl (Wk.refl _) | exact ArgTo.mk' rfl Wk.nilm | exact ArgTo.mk' rfl (Wk.int (by simp)) | exact ArgTo.mk' rfl (Wk.list _ _) | exact ArgTo.mk' rfl (Wk.agg (by (repeat' (first | exact Wks.nil | refine Wks.cons ?_ ?_ | exact Wk.refl _ | exact Wk.nilm | exact Wk.list _ _  | exact Wk.natN rfl | refine Wk.agg ?_))))))) (B2) rfl rfl (by (repeat' (first | exact trivial | exact rfl | refine And.intro ?_ ?_))) (by (repeat' (first | exact trivial | exact rfl | refine And.intro ?_ ?_))) (by (repeat' (first | exact trivial | exact rfl | refine And.intro ?_ ?_))) rfl rfl ?_
          (conv => whnf)
          refine split_intro (fun h1 => ?_) (fun h1 => ?_)
          · have h1' : Rl.length = 0 := by have := eq_of_beq h1; simp at this; rw [this]; rfl
            (conv => whnf)
            refine CallLeaf.w (by (repeat' (first | exact ArgsTo.nil | refine ArgsTo.cons ?_ ?_ | exact ArgTo.mk' rfl (Wk.refl _) | exact ArgTo.mk' rfl Wk.nilm | exact ArgTo.mk' rfl (Wk.int (by simp)) | exact ArgTo.mk' rfl (Wk.list _ _) | exact ArgTo.mk' rfl (Wk.agg (by (repeat' (first | exact Wks.nil | refine Wks.cons ?_ ?_ | exact Wk.refl _ | exact Wk.nilm | exact Wk.list _ _  | exact Wk.natN rfl | refine Wk.agg ?_))))))) (rnames_ l ok) rfl ?_
            (conv => whnf)
            exact Wk.bool (by simp; apply List.eq_nil_of_length_eq_zero; omega)
          · have h1' : 0 < Rl.length := by
              rcases Nat.eq_zero_or_pos Rl.length with hz | hz
              · simp [List.eq_nil_of_length_eq_zero hz] at h1
              · exact hz
            have hlt1 := Nat.mod_lt at' h1'
            obtain ⟨j, hj⟩ : ∃ j, at' % Rl.length = j := ⟨_, rfl⟩
            rw [hj] at hlt1
            obtain ⟨x, hx⟩ := exI hlt1
            obtain ⟨nm, hnm, hxv⟩ : ∃ nm, (Sy.names (Us l))[j]? = some nm ∧ resv (all (Sy.of (Us l) nm)) nm = x := by
              rw [← hRl] at hx
              simpa [resL] using hx
            have hof : Sy.of (Us l) nm ≠ [] := (Sy.mem_names nm (Us l)).1 (List.mem_of_getElem? hnm)
            have okN : ∀ u ∈ Sy.of (Us l) nm, Sy.OkS u.sym := fun u hu => okS u (List.mem_filter.1 hu).1
            have hxn : x.name = nm := by rw [← hxv]; rfl
            (conv => whnf)
            refine ⟨_, wrap64 (by omega), ?_⟩
            (conv => whnf)
            have hrem : intBin .rem .i64 (at' : Int) ((Rl.map Res.enc).length : Int) = some (j : Int) := by
              rw [List.length_map]; exact (rem64n (by omega) (by omega)).trans (by rw [hj])
            refine ⟨_, hrem, ?_⟩
            (conv => whnf)
            refine ⟨_, ⟨by omega, getMap hx⟩, ?_⟩
            (conv => whnf)
            refine LWp.loop hT hmix [] (fun x : Nat × Sy.Gs => (13, vI x.1) :: gS x.2) (fun _ => []) (fun x => x.1 ≤ l.length ∧ x.2 = gI l nm x.1) (fun x => l.length - x.1) (0, ⟨0, 0, 0, -1⟩) ⟨Nat.zero_le _, rfl⟩ ?_
            (conv => whnf)
            refine ⟨?_, fun ⟨i, ⟨f1, f2, f3, f4⟩⟩ ⟨hi, hif⟩ => ?_⟩
            · (repeat' (first | exact trivial | exact Wk.refl _ | exact ObWk.refl _ | exact rfl | exact ⟨_, rfl⟩ | exact Nat.zero_lt_one | refine And.intro ?_ ?_ | unfold okTo | (unfold okO; conv => whnf) | (unfold okS; conv => whnf) | (unfold SlotOk; conv => whnf) | (unfold ObjOk; conv => whnf) | (unfold okCells; conv => whnf) | (unfold liveTo; conv => whnf) | exact Nat.zero_lt_succ _))
            · replace hi : i ≤ l.length := hi
              replace hif : (⟨f1, f2, f3, f4⟩ : Sy.Gs) = gI l nm i := hif
              (conv => whnf)
              refine split_intro (fun h2 => ?_) (fun h2 => ?_)
              · have hlt2 : i < l.length := by have := of_decide_eq_true h2; simp at this; omega
                obtain ⟨o, ho⟩ := exI hlt2
                have hol := ok.syms o (List.mem_of_getElem? ho)
                have e0 : gX l nm i (o.syms.take 0) = gI l nm i := by simp [gX, gI, ofX, Sy.uses]
                (conv => whnf)
                refine LWp.loop hT hmix [] (fun x : Nat × Sy.Gs => (14, vI x.1) :: gS x.2) (fun _ => []) (fun x => x.1 ≤ o.syms.length ∧ x.2 = gX l nm i (o.syms.take x.1)) (fun x => o.syms.length - x.1) (0, ⟨f1, f2, f3, f4⟩) ⟨Nat.zero_le _, hif.trans e0.symm⟩ ?_
                (conv => whnf)
                refine ⟨?_, fun ⟨k, ⟨g1, g2, g3, g4⟩⟩ ⟨hk, hkg⟩ => ?_⟩
                · (repeat' (first | exact trivial | exact Wk.refl _ | exact ObWk.refl _ | exact rfl | exact ⟨_, rfl⟩ | exact Nat.zero_lt_one | refine And.intro ?_ ?_ | unfold okTo | (unfold okO; conv => whnf) | (unfold okS; conv => whnf) | (unfold SlotOk; conv => whnf) | (unfold ObjOk; conv => whnf) | (unfold okCells; conv => whnf) | (unfold liveTo; conv => whnf) | exact Nat.zero_lt_succ _))
                · replace hk : k ≤ o.syms.length := hk
                  replace hkg : (⟨g1, g2, g3, g4⟩ : Sy.Gs) = gX l nm i (o.syms.take k) := hkg
                  (conv => whnf)
                  refine ⟨_, ⟨by omega, getMap ho⟩, ?_⟩
                  (conv => whnf)
                  refine split_intro (fun h3 => ?_) (fun h3 => ?_)
                  · have hlt3 : k < o.syms.length := by have := of_decide_eq_true h3; simp at this; omega
                    obtain ⟨s, hs⟩ := exI hlt3
                    have okx := okO o (List.mem_of_getElem? ho) s (List.mem_of_getElem? hs)
                    have hgs := gX_step (l := l) (i := i) hs (n := nm)
                    have hgk := gX_skip (l := l) (i := i) hs (n := nm)
                    rw [← hkg] at hgs hgk
                    obtain ⟨sn, sb, ss, sa⟩ := s
                    (conv => whnf)
                    refine ⟨_, ⟨by omega, getMap ho⟩, ?_⟩
                    (conv => whnf)
                    refine ⟨_, ⟨by omega, getMap hs⟩, ?_⟩
                    (conv => whnf)
                    refine split_intro (fun h4 => ?_) (fun h4 => ?_)
                    · have h4' : ¬ sn = nm := by rw [← hxn]; simpa using h4
                      have hst := hgk h4'
                      (((conv => whnf)); (refine ⟨_, add64 (c := ((k + 1 : Nat) : Int)) (by (try simp only []); omega) (by omega), ?_⟩); ((conv => whnf)); (refine ⟨(k + 1, ⟨g1, g2, g3, g4⟩), ⟨⟨by show k + 1 ≤ o.syms.length; omega, hst.symm⟩, by show o.syms.length - (k + 1) < o.syms.length - k; omega⟩, ?_⟩); ((repeat' (first | exact trivial | exact Wk.refl _ | exact ObWk.refl _ | exact rfl | exact ⟨_, rfl⟩ | exact Nat.zero_lt_one | refine And.intro ?_ ?_ | unfold okTo | (unfold okO; conv => whnf) | (unfold okS; conv => whnf) | (unfold SlotOk; conv => whnf) | (unfold ObjOk; conv => whnf) | (unfold okCells; conv => whnf) | (unfold liveTo; conv => whnf) | exact Nat.zero_lt_succ _))))
                    · have h4' : sn = nm := by rw [← hxn]; simpa using h4
                      have hst := hgs h4'
                      have hb := okx.b
                      simp only [Sy.toB] at hb
                      have hb5 : sb = 1 ∨ sb = 2 ∨ sb = 3 ∨ sb = 4 ∨ sb = 5 := by omega
                      rcases hb5 with rfl | rfl | rfl | rfl | rfl
                      · (((conv => whnf)); (refine split_intro (fun hgt => by ((have hgt' : g1 < 5 := (of_decide_eq_true hgt)); ((((conv => whnf)); (refine ⟨_, add64 (c := ((k + 1 : Nat) : Int)) (by (try simp only []); omega) (by omega), ?_⟩); ((conv => whnf)); (refine ⟨(k + 1, ⟨5, ss, sa, (i : Int)⟩), ⟨⟨by show k + 1 ≤ o.syms.length; omega, by (rw [hst]; simp [Sy.gstep, Sy.toB, show Sy.rank 1 = 5 from rfl, hgt'])⟩, by show o.syms.length - (k + 1) < o.syms.length - k; omega⟩, ?_⟩); ((repeat' (first | exact trivial | exact Wk.refl _ | exact ObWk.refl _ | exact rfl | exact ⟨_, rfl⟩ | exact Nat.zero_lt_one | refine And.intro ?_ ?_ | unfold okTo | (unfold okO; conv => whnf) | (unfold okS; conv => whnf) | (unfold SlotOk; conv => whnf) | (unfold ObjOk; conv => whnf) | (unfold okCells; conv => whnf) | (unfold liveTo; conv => whnf) | exact Nat.zero_lt_succ _))))))) (fun hgt => by ((have hgt' : ¬ g1 < 5 := (of_decide_eq_false hgt)); ((((conv => whnf)); (refine ⟨_, add64 (c := ((k + 1 : Nat) : Int)) (by (try simp only []); omega) (by omega), ?_⟩); ((conv => whnf)); (refine ⟨(k + 1, ⟨g1, g2, g3, g4⟩), ⟨⟨by show k + 1 ≤ o.syms.length; omega, by (rw [hst]; simp [Sy.gstep, Sy.toB, show Sy.rank 1 = 5 from rfl, hgt', hgt'])⟩, by show o.syms.length - (k + 1) < o.syms.length - k; omega⟩, ?_⟩); ((repeat' (first | exact trivial | exact Wk.refl _ | exact ObWk.refl _ | exact rfl | exact ⟨_, rfl⟩ | exact Nat.zero_lt_one | refine And.intro ?_ ?_ | unfold okTo | (unfold okO; conv => whnf) | (unfold okS; conv => whnf) | (unfold SlotOk; conv => whnf) | (unfold ObjOk; conv => whnf) | (unfold okCells; conv => whnf) | (unfold liveTo; conv => whnf) | exact Nat.zero_lt_succ _)))))))))
                      · (((conv => whnf)); (refine split_intro (fun hgt => by ((have hgt' : g1 < 3 := (of_decide_eq_true hgt)); ((((conv => whnf)); (refine ⟨_, add64 (c := ((k + 1 : Nat) : Int)) (by (try simp only []); omega) (by omega), ?_⟩); ((conv => whnf)); (refine ⟨(k + 1, ⟨3, ss, sa, (i : Int)⟩), ⟨⟨by show k + 1 ≤ o.syms.length; omega, by (rw [hst]; simp [Sy.gstep, Sy.toB, show Sy.rank 2 = 3 from rfl, hgt'])⟩, by show o.syms.length - (k + 1) < o.syms.length - k; omega⟩, ?_⟩); ((repeat' (first | exact trivial | exact Wk.refl _ | exact ObWk.refl _ | exact rfl | exact ⟨_, rfl⟩ | exact Nat.zero_lt_one | refine And.intro ?_ ?_ | unfold okTo | (unfold okO; conv => whnf) | (unfold okS; conv => whnf) | (unfold SlotOk; conv => whnf) | (unfold ObjOk; conv => whnf) | (unfold okCells; conv => whnf) | (unfold liveTo; conv => whnf) | exact Nat.zero_lt_succ _))))))) (fun hgt => by ((have hgt' : ¬ g1 < 3 := (of_decide_eq_false hgt)); ((((conv => whnf)); (refine ⟨_, add64 (c := ((k + 1 : Nat) : Int)) (by (try simp only []); omega) (by omega), ?_⟩); ((conv => whnf)); (refine ⟨(k + 1, ⟨g1, g2, g3, g4⟩), ⟨⟨by show k + 1 ≤ o.syms.length; omega, by (rw [hst]; simp [Sy.gstep, Sy.toB, show Sy.rank 2 = 3 from rfl, hgt', hgt'])⟩, by show o.syms.length - (k + 1) < o.syms.length - k; omega⟩, ?_⟩); ((repeat' (first | exact trivial | exact Wk.refl _ | exact ObWk.refl _ | exact rfl | exact ⟨_, rfl⟩ | exact Nat.zero_lt_one | refine And.intro ?_ ?_ | unfold okTo | (unfold okO; conv => whnf) | (unfold okS; conv => whnf) | (unfold SlotOk; conv => whnf) | (unfold ObjOk; conv => whnf) | (unfold okCells; conv => whnf) | (unfold liveTo; conv => whnf) | exact Nat.zero_lt_succ _)))))))))
                      · (conv => whnf)
                        refine split_intro (fun c4 => ?_) (fun c4 => ?_)
                        · have c4' : g1 = 4 := eq_of_beq c4
                          subst c4'
                          (conv => whnf)
                          (((conv => whnf)); (refine ⟨_, add64 (c := ((k + 1 : Nat) : Int)) (by (try simp only []); omega) (by omega), ?_⟩); ((conv => whnf)); (refine ⟨(k + 1, ⟨4, max g2 ss, max g3 sa, g4⟩), ⟨⟨by show k + 1 ≤ o.syms.length; omega, by rw [hst]; simp [Sy.gstep, Sy.toB, Sy.rank]⟩, by show o.syms.length - (k + 1) < o.syms.length - k; omega⟩, ?_⟩); ((repeat' (first | exact trivial | exact Wk.refl _ | exact ObWk.refl _ | exact rfl | exact ⟨_, rfl⟩ | exact Nat.zero_lt_one | refine And.intro ?_ ?_ | unfold okTo | (unfold okO; conv => whnf) | (unfold okS; conv => whnf) | (unfold SlotOk; conv => whnf) | (unfold ObjOk; conv => whnf) | (unfold okCells; conv => whnf) | (unfold liveTo; conv => whnf) | exact Nat.zero_lt_succ _))))
                          all_goals exact Wk.int (goMax _ _)
                        · have c4' : ¬ g1 = 4 := by simpa using c4
                          (((conv => whnf)); (refine split_intro (fun hgt => by ((have hgt' : g1 < 4 := (of_decide_eq_true hgt)); ((((conv => whnf)); (refine ⟨_, add64 (c := ((k + 1 : Nat) : Int)) (by (try simp only []); omega) (by omega), ?_⟩); ((conv => whnf)); (refine ⟨(k + 1, ⟨4, ss, sa, (i : Int)⟩), ⟨⟨by show k + 1 ≤ o.syms.length; omega, by (rw [hst]; simp [Sy.gstep, Sy.toB, show Sy.rank 3 = 4 from rfl, hgt'])⟩, by show o.syms.length - (k + 1) < o.syms.length - k; omega⟩, ?_⟩); ((repeat' (first | exact trivial | exact Wk.refl _ | exact ObWk.refl _ | exact rfl | exact ⟨_, rfl⟩ | exact Nat.zero_lt_one | refine And.intro ?_ ?_ | unfold okTo | (unfold okO; conv => whnf) | (unfold okS; conv => whnf) | (unfold SlotOk; conv => whnf) | (unfold ObjOk; conv => whnf) | (unfold okCells; conv => whnf) | (unfold liveTo; conv => whnf) | exact Nat.zero_lt_succ _))))))) (fun hgt => by ((have hgt' : ¬ g1 < 4 := (of_decide_eq_false hgt)); ((((conv => whnf)); (refine ⟨_, add64 (c := ((k + 1 : Nat) : Int)) (by (try simp only []); omega) (by omega), ?_⟩); ((conv => whnf)); (refine ⟨(k + 1, ⟨g1, g2, g3, g4⟩), ⟨⟨by show k + 1 ≤ o.syms.length; omega, by (rw [hst]; simp [Sy.gstep, Sy.toB, show Sy.rank 3 = 4 from rfl, hgt', c4'])⟩, by show o.syms.length - (k + 1) < o.syms.length - k; omega⟩, ?_⟩); ((repeat' (first | exact trivial | exact Wk.refl _ | exact ObWk.refl _ | exact rfl | exact ⟨_, rfl⟩ | exact Nat.zero_lt_one | refine And.intro ?_ ?_ | unfold okTo | (unfold okO; conv => whnf) | (unfold okS; conv => whnf) | (unfold SlotOk; conv => whnf) | (unfold ObjOk; conv => whnf) | (unfold okCells; conv => whnf) | (unfold liveTo; conv => whnf) | exact Nat.zero_lt_succ _)))))))))
                      · (((conv => whnf)); (refine split_intro (fun hgt => by ((have hgt' : g1 < 2 := (of_decide_eq_true hgt)); ((((conv => whnf)); (refine ⟨_, add64 (c := ((k + 1 : Nat) : Int)) (by (try simp only []); omega) (by omega), ?_⟩); ((conv => whnf)); (refine ⟨(k + 1, ⟨2, ss, sa, (i : Int)⟩), ⟨⟨by show k + 1 ≤ o.syms.length; omega, by (rw [hst]; simp [Sy.gstep, Sy.toB, show Sy.rank 4 = 2 from rfl, hgt'])⟩, by show o.syms.length - (k + 1) < o.syms.length - k; omega⟩, ?_⟩); ((repeat' (first | exact trivial | exact Wk.refl _ | exact ObWk.refl _ | exact rfl | exact ⟨_, rfl⟩ | exact Nat.zero_lt_one | refine And.intro ?_ ?_ | unfold okTo | (unfold okO; conv => whnf) | (unfold okS; conv => whnf) | (unfold SlotOk; conv => whnf) | (unfold ObjOk; conv => whnf) | (unfold okCells; conv => whnf) | (unfold liveTo; conv => whnf) | exact Nat.zero_lt_succ _))))))) (fun hgt => by ((have hgt' : ¬ g1 < 2 := (of_decide_eq_false hgt)); ((((conv => whnf)); (refine ⟨_, add64 (c := ((k + 1 : Nat) : Int)) (by (try simp only []); omega) (by omega), ?_⟩); ((conv => whnf)); (refine ⟨(k + 1, ⟨g1, g2, g3, g4⟩), ⟨⟨by show k + 1 ≤ o.syms.length; omega, by (rw [hst]; simp [Sy.gstep, Sy.toB, show Sy.rank 4 = 2 from rfl, hgt', hgt'])⟩, by show o.syms.length - (k + 1) < o.syms.length - k; omega⟩, ?_⟩); ((repeat' (first | exact trivial | exact Wk.refl _ | exact ObWk.refl _ | exact rfl | exact ⟨_, rfl⟩ | exact Nat.zero_lt_one | refine And.intro ?_ ?_ | unfold okTo | (unfold okO; conv => whnf) | (unfold okS; conv => whnf) | (unfold SlotOk; conv => whnf) | (unfold ObjOk; conv => whnf) | (unfold okCells; conv => whnf) | (unfold liveTo; conv => whnf) | exact Nat.zero_lt_succ _)))))))))
                      · (((conv => whnf)); (refine split_intro (fun hgt => by ((have hgt' : g1 < 1 := (of_decide_eq_true hgt)); ((((conv => whnf)); (refine ⟨_, add64 (c := ((k + 1 : Nat) : Int)) (by (try simp only []); omega) (by omega), ?_⟩); ((conv => whnf)); (refine ⟨(k + 1, ⟨1, ss, sa, (i : Int)⟩), ⟨⟨by show k + 1 ≤ o.syms.length; omega, by (rw [hst]; simp [Sy.gstep, Sy.toB, show Sy.rank 5 = 1 from rfl, hgt'])⟩, by show o.syms.length - (k + 1) < o.syms.length - k; omega⟩, ?_⟩); ((repeat' (first | exact trivial | exact Wk.refl _ | exact ObWk.refl _ | exact rfl | exact ⟨_, rfl⟩ | exact Nat.zero_lt_one | refine And.intro ?_ ?_ | unfold okTo | (unfold okO; conv => whnf) | (unfold okS; conv => whnf) | (unfold SlotOk; conv => whnf) | (unfold ObjOk; conv => whnf) | (unfold okCells; conv => whnf) | (unfold liveTo; conv => whnf) | exact Nat.zero_lt_succ _))))))) (fun hgt => by ((have hgt' : ¬ g1 < 1 := (of_decide_eq_false hgt)); ((((conv => whnf)); (refine ⟨_, add64 (c := ((k + 1 : Nat) : Int)) (by (try simp only []); omega) (by omega), ?_⟩); ((conv => whnf)); (refine ⟨(k + 1, ⟨g1, g2, g3, g4⟩), ⟨⟨by show k + 1 ≤ o.syms.length; omega, by (rw [hst]; simp [Sy.gstep, Sy.toB, show Sy.rank 5 = 1 from rfl, hgt', hgt'])⟩, by show o.syms.length - (k + 1) < o.syms.length - k; omega⟩, ?_⟩); ((repeat' (first | exact trivial | exact Wk.refl _ | exact ObWk.refl _ | exact rfl | exact ⟨_, rfl⟩ | exact Nat.zero_lt_one | refine And.intro ?_ ?_ | unfold okTo | (unfold okO; conv => whnf) | (unfold okS; conv => whnf) | (unfold SlotOk; conv => whnf) | (unfold ObjOk; conv => whnf) | (unfold okCells; conv => whnf) | (unfold liveTo; conv => whnf) | exact Nat.zero_lt_succ _)))))))))
                  · have hge3 : o.syms.length ≤ k := by have := of_decide_eq_false h3; simp at this; omega
                    have e : gX l nm i (o.syms.take k) = gI l nm (i + 1) := by
                      simp only [gX, gI, ofX]
                      rw [List.take_of_length_le hge3, Us_take ho]
                    (conv => whnf)
                    refine ⟨_, add64 (c := ((i + 1 : Nat) : Int)) (by (try simp only []); omega) (by omega), ?_⟩
                    (conv => whnf)
                    refine ⟨(i + 1, ⟨g1, g2, g3, g4⟩), ⟨⟨by show i + 1 ≤ l.length; omega, hkg.trans e⟩, by show l.length - (i + 1) < l.length - i; omega⟩, ?_⟩
                    (repeat' (first | exact trivial | exact Wk.refl _ | exact ObWk.refl _ | exact rfl | exact ⟨_, rfl⟩ | exact Nat.zero_lt_one | refine And.intro ?_ ?_ | unfold okTo | (unfold okO; conv => whnf) | (unfold okS; conv => whnf) | (unfold SlotOk; conv => whnf) | (unfold ObjOk; conv => whnf) | (unfold okCells; conv => whnf) | (unfold liveTo; conv => whnf) | exact Nat.zero_lt_succ _))
              · have hge2 : l.length ≤ i := by have := of_decide_eq_false h2; simp at this; omega
                have ef : gI l nm i = Sy.gall (Sy.of (Us l) nm) := by simp only [gI]; rw [List.take_of_length_le hge2]
                rw [ef] at hif
                have G := Sy.gr_all okN
                have W := wf_all fun y hy => (okN y hy).b
                have P := Sy.best_pos okN hof
                have Q := Sy.best_unit okN
                rw [← hif] at G P Q
                obtain ⟨G1, G2, G3, G4⟩ := G
                simp only at G1 G2 G3 G4 P Q
                subst hxv
                generalize all (Sy.of (Us l) nm) = st at *
                obtain ⟨b1, b2, b3, b4, b5, b6, b7, b8⟩ := st
                simp only at G1 G2 G3 G4 Q
                obtain ⟨W1, W2⟩ := W
                simp only [] at W1
                subst G2; subst G3
                rcases W1 with rfl | rfl | rfl | rfl
                · have : f1 = 2 ∧ b6 = true ∨ f1 = 1 ∧ b6 = false := by
                    cases b6 <;> cases b7 <;> simp [Sy.bestOf] at G1 <;> simp_all
                  rcases this with ⟨rfl, rfl⟩ | ⟨rfl, rfl⟩
                  · (((conv => whnf)); (refine split_intro (fun _ => ?_) (fun h => absurd h (by simp [resv]))); ((conv => whnf)); (refine split_intro (fun _ => ?_) (fun h => absurd h (by simp [resv]))); ((conv => whnf)); (refine split_intro (fun _ => ?_) (fun h => absurd h (by (simp [resv]; simp at Q; omega)))); ((conv => whnf)); exact Wk.of_eq (by simp [resv]))
                  · (((conv => whnf)); (refine split_intro (fun _ => ?_) (fun h => absurd h (by simp [resv]))); ((conv => whnf)); (refine split_intro (fun _ => ?_) (fun h => absurd h (by simp [resv]))); ((conv => whnf)); (refine split_intro (fun _ => ?_) (fun h => absurd h (by (simp [resv]; simp at Q; omega)))); ((conv => whnf)); exact Wk.of_eq (by simp [resv]))
                · have : f1 = 5 := by simpa [Sy.bestOf] using G1
                  subst this
                  (((conv => whnf)); (refine split_intro (fun _ => ?_) (fun h => absurd h (by simp [resv]))); ((conv => whnf)); (refine split_intro (fun _ => ?_) (fun h => absurd h (by simp [resv]))); ((conv => whnf)); (refine split_intro (fun _ => ?_) (fun h => absurd h (by (simp [resv]; simp at Q; omega)))); ((conv => whnf)); exact Wk.of_eq (by simp [resv]))
                · have : f1 = 3 := by simpa [Sy.bestOf] using G1
                  subst this
                  (((conv => whnf)); (refine split_intro (fun _ => ?_) (fun h => absurd h (by simp [resv]))); ((conv => whnf)); (refine split_intro (fun _ => ?_) (fun h => absurd h (by simp [resv]))); ((conv => whnf)); (refine split_intro (fun _ => ?_) (fun h => absurd h (by (simp [resv]; simp at Q; omega)))); ((conv => whnf)); exact Wk.of_eq (by simp [resv]))
                · have : f1 = 4 := by simpa [Sy.bestOf] using G1
                  subst this
                  (((conv => whnf)); (refine split_intro (fun _ => ?_) (fun h => absurd h (by simp [resv]))); ((conv => whnf)); (refine split_intro (fun _ => ?_) (fun h => absurd h (by simp [resv]))); ((conv => whnf)); (refine split_intro (fun _ => ?_) (fun h => absurd h (by (simp [resv]; simp at Q; omega)))); ((conv => whnf)); exact Wk.of_eq (by simp [resv]))
end Go.Proofs.YtdlcaoobaejlpaaDoor

/- SymtabResolves: for every input the law returns true and leaves its arguments as they were. No condition but the given statement's own. -/
set_option linter.unusedVariables false
set_option linter.unusedSimpArgs false
namespace Go.Proofs.YtdlcaoobaejlpaaDoor
open Go Go.AL
open Go.ChangeShapes Go.WideShapes Go.ChangeAt Go.RowKit
set_option maxRecDepth 100000 in
theorem symtabResolves_lifted (os : Os) (started : os.Started) (H : Type) (enc : TypeId × Value → H) :
    ReturnsInHanded {} Tryd.checked os 4 .any (fun w args => (Rows.symtabResolvesSpec.pre enc Tryd.prog Tryd.f4 [] false w args ∧ laidMetH Tryd.prog laidL w) ∧ sizedMet enc Tryd.prog Tryd.f4 (OpenSpec.ofChange Rows.symtabResolvesSpec) false w args)
      (Rows.symtabResolvesSpec.post enc Tryd.prog Tryd.f4 false true false false) := by
  refine returnsInHanded_of_change_and (C := Tryd.checked) (X := fun w _ => laidMetH Tryd.prog laidL w) (fun _ _ _ hh h => h.of_heap hh) own started (by kernel_rfl) Tryd.func4
    (ChangeSpec.witness_shaped (enc := enc) (C := Tryd.checked) (os := os) (X := fun w _ => laidMetH Tryd.prog laidL w) false (World.doorLaid Tryd.prog doorSteps os) #[.slice none 0 0, .int .u8 0] 8 rfl (World.shaped_of_RefB (by kernel_rfl) (by kernel_rfl)) (by kernel_rfl) (by kernel_rfl) (by kernel_rfl) (door_met os _)) ?_
  intro W base args ds gs before hval hW _ hsz hL _
  exact law_contract (P := Tryd.prog) (G := Gl) (n := 8) laidOut (ts := [22, 5]) (by rw [Tryd.params4]) (by kernel_rfl)
    (fun t ht => by
      have : [22, 5].all (fun t => Tryd.prog.readableRec t && decide (t < Tryd.prog.types.size)) = true := by kernel_rfl
      have := List.all_eq_true.1 this t ht
      simpa using this) rfl rfl Tryd.underlying4
    (fun ds hd => by
      match ds, hd with
      | [d0, d1], _ => rfl)
    (fun xs ha => by
      cases ha with
      | cons h0 ha =>
        cases ha with
        | cons h1 ha =>
          cases ha
          obtain ⟨v0, c0, e0⟩ := arg_LO h0
          obtain ⟨v1, c1, e1⟩ := arg_u8 h1
          rw [e0, e1]
          exact symRes_ v0 v1 c1) hval hW hsz (globOk hL)

theorem symtabResolves_row : Rows.SymtabResolvesSaid :=
  OpenClaim.holds_of_wide 4 Tryd.f4 rfl rfl rfl rfl rfl rfl rfl ⟨rfl, rfl, rfl, rfl, rfl⟩ rfl rfl rfl rfl rfl (by kernel_rfl) Tryd.func4 (by kernel_rfl)
    (of_decide_eq_true (by kernel_rfl)) (by unfold Func.isWrapper; first | (rw [if_pos (by decide +kernel)]; kernel_rfl) | (rw [if_neg (by decide +kernel)]; exact ⟨rfl, rfl⟩))
    (fun os started H enc _ => symtabResolves_lifted os started H enc)

theorem symtabResolves_holds : Rows.SymtabResolvesCardSaid :=
  Claim7.holds_tied_plain_at .later [] [.data] true (true, "034a03f84f236c40f9ea70330cfa542203856bf18f59b8879aaf8906f2ac695d") true
    symtabResolves_row (fun _ h => by cases h) (by kernel_rfl) (fun _ h => by cases h) symtabResolves_row_tie rfl ⟨rfl, rfl⟩ (by kernel_rfl) rfl
    (fun f fn hf hfn => by
      obtain rfl : f = 4 := Option.some.inj ((show Tryd.prog.funcNamed "arlink/arlinklaw14.SymtabResolves" = some 4 by kernel_rfl).symm.trans hf) |>.symm
      obtain rfl : fn = Tryd.f4 := (Option.some.inj (Tryd.func4.symm.trans hfn)).symm
      exact ⟨by kernel_rfl, fun j t ht => by
        have hm : t ∈ [22, 5] := by
          have := Array.mem_of_getElem? ht
          rw [Tryd.params4] at this
          simpa using this
        have : [22, 5].all (fun t => !Tryd.prog.wantsStandIn t) = true := by kernel_rfl
        have := List.all_eq_true.1 this t hm
        exact (show Tryd.prog.wantsStandIn t = false by simpa using this)⟩)
    (by kernel_rfl)
#print axioms symtabResolves_holds
end Go.Proofs.YtdlcaoobaejlpaaDoor
