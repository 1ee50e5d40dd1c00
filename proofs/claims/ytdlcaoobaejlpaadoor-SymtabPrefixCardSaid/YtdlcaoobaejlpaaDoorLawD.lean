/- SymtabPrefix, walked. No condition. -/
import Derived.Test.YtdlcaoobaejlpaaDoorSyc
import Derived.Test.YtdlcaoobaejlpaaDoorSyb
import Derived.Test.YtdlcaoobaejlpaaDoorRows
import Derived.Test.YtdlcaoobaejlpaaDoorCards
import Derived.Test.YtdlcaoobaejlpaaDoorTie
import Derived.SevenTiedAt
set_option linter.unusedVariables false
set_option linter.unusedSimpArgs false
namespace Go.Proofs.YtdlcaoobaejlpaaDoor
open Go Go.AL Go.AL.Bd
set_option maxRecDepth 100000
set_option maxHeartbeats 4000000
theorem usesL_append : ∀ (a b : List Ob.Obj) (n : Nat), usesL n (a ++ b) = usesL n a ++ usesL (n + a.length) b
  | [], b, n => by simp [usesL]
  | x :: r, b, n => by
    have ih := usesL_append r b (n + 1)
    simp only [List.cons_append, usesL, ih, List.append_assoc, List.length_cons]
    rw [show n + 1 + r.length = n + (r.length + 1) by omega]
theorem Us_split (l : List Ob.Obj) (k : Nat) : ∃ V, Us l = Us (l.take k) ++ V := by
  refine ⟨usesL (0 + (l.take k).length) (l.drop k), ?_⟩
  rw [← usesL_append, List.take_append_drop]
structure Pre (S T : State) : Prop where
  st : ∃ r, T.strongs = S.strongs ++ r
  bd : S.bind ≠ 0 → T.bind ≠ 0
theorem pre_of {l : List Ob.Obj} (ok : OkL l) (k : Nat) (n : Str) : Pre (all (Sy.of (Us (l.take k)) n)) (all (Sy.of (Us l) n)) := by
  obtain ⟨V, hV⟩ := Us_split l k
  have hb := ok.okB
  rw [hV] at hb
  have h1 : ∀ x ∈ Sy.of (Us (l.take k)) n, 1 ≤ x.sym.bind ∧ x.sym.bind ≤ 5 := fun x hx => hb x (List.mem_append.2 (.inl (List.mem_filter.1 hx).1))
  have h2 : ∀ x ∈ Sy.of V n, 1 ≤ x.sym.bind ∧ x.sym.bind ≤ 5 := fun x hx => hb x (List.mem_append.2 (.inr (List.mem_filter.1 hx).1))
  rw [hV, of_app, all_append h1 h2]
  have w1 := wf_all h1
  have w2 := wf_all h2
  refine ⟨⟨_, rfl⟩, fun h h0 => ?_⟩
  rcases w1.b with e | e | e | e <;> rcases w2.b with e' | e' | e' | e' <;> simp [join, strength, e, e'] at h h0
theorem names_sub {l : List Ob.Obj} (k : Nat) : (Sy.names (Us l)).filter (fun s => decide (s ∈ Sy.names (Us (l.take k)))) = Sy.names (Us (l.take k)) := by
  obtain ⟨V, hV⟩ := Us_split l k
  have sa := Sy.names_srt (Us (l.take k))
  have sb := (Sy.names_srt (Us l)).filter (fun s => decide (s ∈ Sy.names (Us (l.take k))))
  have lt : ∀ {a b : Str}, Wt.lt a b = true → a ≤ b := fun {a b} h => by
    have := (Wt.lt_eq a b).symm.trans h
    exact List.le_of_lt (of_decide_eq_true this)
  refine List.Perm.eq_of_pairwise (le := fun a b : Str => a ≤ b) (fun a b _ _ h1 h2 => List.le_antisymm h1 h2) (sb.imp lt) (sa.imp lt) ?_
  refine (List.perm_ext_iff_of_nodup ((Sy.names_srt (Us l)).nodup.filter _) sa.nodup).2 fun s => ?_
  rw [List.mem_filter, decide_eq_true_eq]
  refine ⟨fun h => h.2, fun h => ⟨?_, h⟩⟩
  rw [Sy.mem_names] at h ⊢
  rw [hV, of_app]
  intro e
  exact h (List.append_eq_nil_iff.1 e).1
theorem symPrefix_ (l : List Ob.Obj) (cut : Nat) (name : Str) (hc : cut ≤ 255) : FCall Tryd.prog Gl 7 [LO l, .v (.int .u8 (cut : Int)), sD name] [] (vB true) [] := by
  refine FCall.enterL hT hmix [] Tryd.func7 rfl rfl rfl fun hbd => ?_
  (conv => whnf)
  refine CallLeaf.w (by (repeat' (first | exact ArgsTo.nil | refine ArgsTo.cons ?_ ?_ | exact ArgTo.mk' rfl (Wk.refl _) | exact ArgTo.mk' rfl Wk.nilm | exact ArgTo.mk' rfl (Wk.int (by simp)) | exact ArgTo.mk' rfl (Wk.list _ _) | exact ArgTo.mk' rfl (Wk.agg (by (repeat' (first | exact Wks.nil | refine Wks.cons ?_ ?_ | exact Wk.refl _ | exact Wk.nilm | exact Wk.list _ _  | exact Wk.natN rfl | refine Wk.agg ?_))))))) (awake_) rfl ?_
  (conv => whnf)
  refine CallLeaf.w (by (repeat' (first | exact ArgsTo.nil | refine ArgsTo.cons ?_ ?_ | exact ArgTo.mk' rfl (Wk.refl _) | exact ArgTo.mk' rfl Wk.nilm | exact ArgTo.mk' rfl (Wk.int (by simp)) | exact ArgTo.mk' rfl (Wk.list _ _) | exact ArgTo.mk' rfl (Wk.agg (by (repeat' (first | exact Wks.nil | refine Wks.cons ?_ ?_ | exact Wk.refl _ | exact Wk.nilm | exact Wk.list _ _  | exact Wk.natN rfl | refine Wk.agg ?_))))))) (right_ l) rfl ?_
  (conv => whnf)
  refine split_intro (fun hr => ?_) (fun hr => ?_)
  · (((conv => whnf)); (refine CallLeaf.w (by (repeat' (first | exact ArgsTo.nil | refine ArgsTo.cons ?_ ?_ | exact ArgTo.mk' rfl (Wk.refl _) | exact ArgTo.mk' rfl Wk.nilm | exact ArgTo.mk' rfl (Wk.int (by simp)) | exact ArgTo.mk' rfl (Wk.list _ _) | exact ArgTo.mk' rfl (Wk.agg (by (repeat' (first | exact Wks.nil | refine Wks.cons ?_ ?_ | exact Wk.refl _ | exact Wk.nilm | exact Wk.list _ _  | exact Wk.natN rfl | refine Wk.agg ?_))))))) (awake_) rfl ?_); ((conv => whnf)); exact Wk.refl _)
  · have ok := right_ok (not_f hr)
    have hl := ok.len
    have hlt0 := Nat.mod_lt cut (show 0 < l.length + 1 by omega)
    obtain ⟨K, hK⟩ : ∃ K, cut % (l.length + 1) = K := ⟨_, rfl⟩
    rw [hK] at hlt0
    have P := pre_of ok K name
    have N := names_sub (l := l) K
    (conv => whnf)
    refine ⟨_, wrap64 (by omega), ?_⟩
    (conv => whnf)
    refine ⟨_, add64 (c := ((l.length + 1 : Nat) : Int)) (by simp) (by omega), ?_⟩
    (conv => whnf)
    refine ⟨_, (rem64n (a := cut) (b := l.length + 1) (by omega) (by omega)).trans (by rw [hK]), ?_⟩
    cases K with
    | zero =>
      (conv => whnf)
      refine LWp.loop hT hmix [] (fun i : Nat => [(10, vI i)]) (fun i => TK 2560 5664 l i) (fun i => i ≤ l.length) (fun i => l.length - i) 0 (Nat.zero_le _) ?_
      (conv => whnf)
      refine ⟨?_, fun i hi => ?_⟩
      · (repeat' (first | exact trivial | exact Wk.refl _ | exact ObWk.refl _ | exact rfl | exact ⟨_, rfl⟩ | exact Nat.zero_lt_one | refine And.intro ?_ ?_ | unfold okTo | (unfold okO; conv => whnf) | (unfold okS; conv => whnf) | (unfold SlotOk; conv => whnf) | (unfold ObjOk; conv => whnf) | (unfold okCells; conv => whnf) | (unfold liveTo; conv => whnf) | exact Nat.zero_lt_succ _))
      · cases i with
        | zero =>
          (conv => whnf)
          refine split_intro (fun h => ?_) (fun h => ?_)
          · ((have hlt : 0 < l.length := by (have := of_decide_eq_true h; simp at this; omega)); (obtain ⟨o, ho⟩ := exI hlt); ((conv => whnf)))
            (try ((refine split_intro (fun h => absurd h (by simp)) (fun _ => ?_)); (conv => whnf)))
            ((refine ⟨_, ⟨by omega, getMap ho⟩, ?_⟩); ((conv => whnf)); (refine CallLeaf.o [2560, 5664] (by (repeat' (first | exact ArgsTo.nil | refine ArgsTo.cons ?_ ?_ | exact ArgTo.mk' rfl (Wk.refl _) | exact ArgTo.mk' rfl Wk.nilm | exact ArgTo.mk' rfl (Wk.int (by simp)) | exact ArgTo.mk' rfl (Wk.list _ _) | exact ArgTo.mk' rfl (Wk.agg (by (repeat' (first | exact Wks.nil | refine Wks.cons ?_ ?_ | exact Wk.refl _ | exact Wk.nilm | exact Wk.list _ _  | exact Wk.natN rfl | refine Wk.agg ?_))))))) (load0 ok ho) rfl rfl (by (repeat' (first | exact trivial | exact rfl | refine And.intro ?_ ?_))) (by (repeat' (first | exact trivial | exact rfl | refine And.intro ?_ ?_))) (by (repeat' (first | exact trivial | exact rfl | refine And.intro ?_ ?_))) rfl rfl ?_); ((conv => whnf)); (refine ⟨_, add64 (c := ((0 + 1 : Nat) : Int)) (by (try simp only []); omega) (by omega), ?_⟩); ((conv => whnf)))
            refine ⟨0 + 1, ⟨by omega, by simp only []; omega⟩, ?_⟩
            (repeat' (first | exact trivial | exact Wk.refl _ | exact ObWk.refl _ | exact rfl | exact ⟨_, rfl⟩ | exact Nat.zero_lt_one | refine And.intro ?_ ?_ | unfold okTo | (unfold okO; conv => whnf) | (unfold okS; conv => whnf) | (unfold SlotOk; conv => whnf) | (unfold ObjOk; conv => whnf) | (unfold okCells; conv => whnf) | (unfold liveTo; conv => whnf) | exact Nat.zero_lt_succ _))
          · have h0 : l = [] := by have := of_decide_eq_false h; simpa using this
            subst h0
            (conv => whnf)
            refine CallLeaf.o [2048] (by (repeat' (first | exact ArgsTo.nil | refine ArgsTo.cons ?_ ?_ | exact ArgTo.mk' rfl (Wk.refl _) | exact ArgTo.mk' rfl Wk.nilm | exact ArgTo.mk' rfl (Wk.int (by simp)) | exact ArgTo.mk' rfl (Wk.list _ _) | exact ArgTo.mk' rfl (Wk.agg (by (repeat' (first | exact Wks.nil | refine Wks.cons ?_ ?_ | exact Wk.refl _ | exact Wk.nilm | exact Wk.list _ _  | exact Wk.natN rfl | refine Wk.agg ?_))))))) (tnamesZ_) rfl rfl (by (repeat' (first | exact trivial | exact rfl | refine And.intro ?_ ?_))) (by (repeat' (first | exact trivial | exact rfl | refine And.intro ?_ ?_))) (by (repeat' (first | exact trivial | exact rfl | refine And.intro ?_ ?_))) rfl rfl ?_
            (conv => whnf)
            refine CallLeaf.o [2560] (by (repeat' (first | exact ArgsTo.nil | refine ArgsTo.cons ?_ ?_ | exact ArgTo.mk' rfl (Wk.refl _) | exact ArgTo.mk' rfl Wk.nilm | exact ArgTo.mk' rfl (Wk.int (by simp)) | exact ArgTo.mk' rfl (Wk.list _ _) | exact ArgTo.mk' rfl (Wk.agg (by (repeat' (first | exact Wks.nil | refine Wks.cons ?_ ?_ | exact Wk.refl _ | exact Wk.nilm | exact Wk.list _ _  | exact Wk.natN rfl | refine Wk.agg ?_))))))) (tnamesZ_) rfl rfl (by (repeat' (first | exact trivial | exact rfl | refine And.intro ?_ ?_))) (by (repeat' (first | exact trivial | exact rfl | refine And.intro ?_ ?_))) (by (repeat' (first | exact trivial | exact rfl | refine And.intro ?_ ?_))) rfl rfl ?_
            (conv => whnf)
            refine LWp.loop hT hmix [] (fun i : Nat => [(14, vI i), (13, vI 0)]) (fun _ => []) (fun i => i = 0) (fun i => 0) 0 rfl ?_
            (conv => whnf)
            refine ⟨?_, fun i hi => ?_⟩
            · (repeat' (first | exact trivial | exact Wk.refl _ | exact ObWk.refl _ | exact rfl | exact ⟨_, rfl⟩ | exact Nat.zero_lt_one | refine And.intro ?_ ?_ | unfold okTo | (unfold okO; conv => whnf) | (unfold okS; conv => whnf) | (unfold SlotOk; conv => whnf) | (unfold ObjOk; conv => whnf) | (unfold okCells; conv => whnf) | (unfold liveTo; conv => whnf) | exact Nat.zero_lt_succ _))
            · subst hi
              (conv => whnf)
              refine CallLeaf.o [2048] (by (repeat' (first | exact ArgsTo.nil | refine ArgsTo.cons ?_ ?_ | exact ArgTo.mk' rfl (Wk.refl _) | exact ArgTo.mk' rfl Wk.nilm | exact ArgTo.mk' rfl (Wk.int (by simp)) | exact ArgTo.mk' rfl (Wk.list _ _) | exact ArgTo.mk' rfl (Wk.agg (by (repeat' (first | exact Wks.nil | refine Wks.cons ?_ ?_ | exact Wk.refl _ | exact Wk.nilm | exact Wk.list _ _  | exact Wk.natN rfl | refine Wk.agg ?_))))))) (tstateZ_ name) rfl rfl (by (repeat' (first | exact trivial | exact rfl | refine And.intro ?_ ?_))) (by (repeat' (first | exact trivial | exact rfl | refine And.intro ?_ ?_))) (by (repeat' (first | exact trivial | exact rfl | refine And.intro ?_ ?_))) rfl rfl ?_
              (conv => whnf)
              refine CallLeaf.o [2560] (by (repeat' (first | exact ArgsTo.nil | refine ArgsTo.cons ?_ ?_ | exact ArgTo.mk' rfl (Wk.refl _) | exact ArgTo.mk' rfl Wk.nilm | exact ArgTo.mk' rfl (Wk.int (by simp)) | exact ArgTo.mk' rfl (Wk.list _ _) | exact ArgTo.mk' rfl (Wk.agg (by (repeat' (first | exact Wks.nil | refine Wks.cons ?_ ?_ | exact Wk.refl _ | exact Wk.nilm | exact Wk.list _ _  | exact Wk.natN rfl | refine Wk.agg ?_))))))) (tstateZ_ name) rfl rfl (by (repeat' (first | exact trivial | exact rfl | refine And.intro ?_ ?_))) (by (repeat' (first | exact trivial | exact rfl | refine And.intro ?_ ?_))) (by (repeat' (first | exact trivial | exact rfl | refine And.intro ?_ ?_))) rfl rfl ?_
              (conv => whnf)
              refine LWp.loop hT hmix [] (fun i : Nat => [(17, vI i)]) (fun _ => []) (fun i => i = 0) (fun i => 0) 0 rfl ?_
              (conv => whnf)
              refine ⟨?_, fun i hi => ?_⟩
              · (repeat' (first | exact trivial | exact Wk.refl _ | exact ObWk.refl _ | exact rfl | exact ⟨_, rfl⟩ | exact Nat.zero_lt_one | refine And.intro ?_ ?_ | unfold okTo | (unfold okO; conv => whnf) | (unfold okS; conv => whnf) | (unfold SlotOk; conv => whnf) | (unfold ObjOk; conv => whnf) | (unfold okCells; conv => whnf) | (unfold liveTo; conv => whnf) | exact Nat.zero_lt_succ _))
              · subst hi
                (conv => whnf)
                exact Wk.refl _
        | succ i =>
          (conv => whnf)
          refine split_intro (fun h => ?_) (fun h => ?_)
          · have hlt : i + 1 < l.length := by have := of_decide_eq_true h; simp at this; omega
            obtain ⟨o, ho⟩ := exI hlt
            (conv => whnf)
            (try ((refine split_intro (fun h => absurd h (by simp)) (fun _ => ?_)); (conv => whnf)))
            ((refine ⟨_, ⟨by omega, getMap ho⟩, ?_⟩); ((conv => whnf)); (refine CallLeaf.o [2560, 5664] (by (repeat' (first | exact ArgsTo.nil | refine ArgsTo.cons ?_ ?_ | exact ArgTo.mk' rfl (Wk.refl _) | exact ArgTo.mk' rfl Wk.nilm | exact ArgTo.mk' rfl (Wk.int (by simp)) | exact ArgTo.mk' rfl (Wk.list _ _) | exact ArgTo.mk' rfl (Wk.agg (by (repeat' (first | exact Wks.nil | refine Wks.cons ?_ ?_ | exact Wk.refl _ | exact Wk.nilm | exact Wk.list _ _  | exact Wk.natN rfl | refine Wk.agg ?_))))))) (loadK ok ho) rfl rfl (by (repeat' (first | exact trivial | exact rfl | refine And.intro ?_ ?_))) (by (repeat' (first | exact trivial | exact rfl | refine And.intro ?_ ?_))) (by (repeat' (first | exact trivial | exact rfl | refine And.intro ?_ ?_))) rfl rfl ?_); ((conv => whnf)); (refine ⟨_, add64 (c := (((i + 1) + 1 : Nat) : Int)) (by (try simp only []); omega) (by omega), ?_⟩); ((conv => whnf)))
            refine ⟨i + 1 + 1, ⟨by omega, by simp only []; omega⟩, ?_⟩
            (repeat' (first | exact trivial | exact Wk.refl _ | exact ObWk.refl _ | exact rfl | exact ⟨_, rfl⟩ | exact Nat.zero_lt_one | refine And.intro ?_ ?_ | unfold okTo | (unfold okO; conv => whnf) | (unfold okS; conv => whnf) | (unfold SlotOk; conv => whnf) | (unfold ObjOk; conv => whnf) | (unfold okCells; conv => whnf) | (unfold liveTo; conv => whnf) | exact Nat.zero_lt_succ _))
          · have hge : l.length ≤ i + 1 := by have := of_decide_eq_false h; simp at this; omega
            have hY := namesK ok (i + 1)
            have hS := stateK ok (i + 1) name
            (conv => whnf)
            refine CallLeaf.o [2048] (by (repeat' (first | exact ArgsTo.nil | refine ArgsTo.cons ?_ ?_ | exact ArgTo.mk' rfl (Wk.refl _) | exact ArgTo.mk' rfl Wk.nilm | exact ArgTo.mk' rfl (Wk.int (by simp)) | exact ArgTo.mk' rfl (Wk.list _ _) | exact ArgTo.mk' rfl (Wk.agg (by (repeat' (first | exact Wks.nil | refine Wks.cons ?_ ?_ | exact Wk.refl _ | exact Wk.nilm | exact Wk.list _ _  | exact Wk.natN rfl | refine Wk.agg ?_))))))) (tnamesZ_) rfl rfl (by (repeat' (first | exact trivial | exact rfl | refine And.intro ?_ ?_))) (by (repeat' (first | exact trivial | exact rfl | refine And.intro ?_ ?_))) (by (repeat' (first | exact trivial | exact rfl | refine And.intro ?_ ?_))) rfl rfl ?_
            (conv => whnf)
            refine CallLeaf.o [2560, 5664] (by (repeat' (first | exact ArgsTo.nil | refine ArgsTo.cons ?_ ?_ | exact ArgTo.mk' rfl (Wk.refl _) | exact ArgTo.mk' rfl Wk.nilm | exact ArgTo.mk' rfl (Wk.int (by simp)) | exact ArgTo.mk' rfl (Wk.list _ _) | exact ArgTo.mk' rfl (Wk.agg (by (repeat' (first | exact Wks.nil | refine Wks.cons ?_ ?_ | exact Wk.refl _ | exact Wk.nilm | exact Wk.list _ _  | exact Wk.natN rfl | refine Wk.agg ?_))))))) (hY) rfl rfl (by (repeat' (first | exact trivial | exact rfl | refine And.intro ?_ ?_))) (by (repeat' (first | exact trivial | exact rfl | refine And.intro ?_ ?_))) (by (repeat' (first | exact trivial | exact rfl | refine And.intro ?_ ?_))) rfl rfl ?_
            (conv => whnf)
            refine LWp.loop hT hmix [] (fun j : Nat => [(14, vI j), (13, vI 0)]) (fun _ => []) (fun j => j = 0) (fun j => 0) 0 rfl ?_
            (conv => whnf)
            refine ⟨?_, fun j hj => ?_⟩
            · (repeat' (first | exact trivial | exact Wk.refl _ | exact ObWk.refl _ | exact rfl | exact ⟨_, rfl⟩ | exact Nat.zero_lt_one | refine And.intro ?_ ?_ | unfold okTo | (unfold okO; conv => whnf) | (unfold okS; conv => whnf) | (unfold SlotOk; conv => whnf) | (unfold ObjOk; conv => whnf) | (unfold okCells; conv => whnf) | (unfold liveTo; conv => whnf) | exact Nat.zero_lt_succ _))
            · subst hj
              (conv => whnf)
              refine split_intro (fun h1 => by ((((conv => whnf)); (refine CallLeaf.o [2048] (by (repeat' (first | exact ArgsTo.nil | refine ArgsTo.cons ?_ ?_ | exact ArgTo.mk' rfl (Wk.refl _) | exact ArgTo.mk' rfl Wk.nilm | exact ArgTo.mk' rfl (Wk.int (by simp)) | exact ArgTo.mk' rfl (Wk.list _ _) | exact ArgTo.mk' rfl (Wk.agg (by (repeat' (first | exact Wks.nil | refine Wks.cons ?_ ?_ | exact Wk.refl _ | exact Wk.nilm | exact Wk.list _ _  | exact Wk.natN rfl | refine Wk.agg ?_))))))) (tstateZ_ name) rfl rfl (by (repeat' (first | exact trivial | exact rfl | refine And.intro ?_ ?_))) (by (repeat' (first | exact trivial | exact rfl | refine And.intro ?_ ?_))) (by (repeat' (first | exact trivial | exact rfl | refine And.intro ?_ ?_))) rfl rfl ?_); ((conv => whnf)); (refine CallLeaf.o [2560, 5664] (by (repeat' (first | exact ArgsTo.nil | refine ArgsTo.cons ?_ ?_ | exact ArgTo.mk' rfl (Wk.refl _) | exact ArgTo.mk' rfl Wk.nilm | exact ArgTo.mk' rfl (Wk.int (by simp)) | exact ArgTo.mk' rfl (Wk.list _ _) | exact ArgTo.mk' rfl (Wk.agg (by (repeat' (first | exact Wks.nil | refine Wks.cons ?_ ?_ | exact Wk.refl _ | exact Wk.nilm | exact Wk.list _ _  | exact Wk.natN rfl | refine Wk.agg ?_))))))) (hS) rfl rfl (by (repeat' (first | exact trivial | exact rfl | refine And.intro ?_ ?_))) (by (repeat' (first | exact trivial | exact rfl | refine And.intro ?_ ?_))) (by (repeat' (first | exact trivial | exact rfl | refine And.intro ?_ ?_))) rfl rfl ?_); ((conv => whnf)); ((try ((refine split_intro (fun h => absurd h (by simp)) (fun _ => ?_)); (conv => whnf)))); (refine LWp.loop hT hmix [] (fun i : Nat => [(17, vI i)]) (fun _ => []) (fun i => i = 0) (fun i => 0) 0 rfl ?_); ((conv => whnf)); (refine ⟨by (repeat' (first | exact trivial | exact Wk.refl _ | exact ObWk.refl _ | exact rfl | exact ⟨_, rfl⟩ | exact Nat.zero_lt_one | refine And.intro ?_ ?_ | unfold okTo | (unfold okO; conv => whnf) | (unfold okS; conv => whnf) | (unfold SlotOk; conv => whnf) | (unfold ObjOk; conv => whnf) | (unfold okCells; conv => whnf) | (unfold liveTo; conv => whnf) | exact Nat.zero_lt_succ _)), fun i hi => ?_⟩); (subst hi); ((conv => whnf)); exact Wk.refl _))) (fun h1 => by ((((conv => whnf)); (refine CallLeaf.o [2048] (by (repeat' (first | exact ArgsTo.nil | refine ArgsTo.cons ?_ ?_ | exact ArgTo.mk' rfl (Wk.refl _) | exact ArgTo.mk' rfl Wk.nilm | exact ArgTo.mk' rfl (Wk.int (by simp)) | exact ArgTo.mk' rfl (Wk.list _ _) | exact ArgTo.mk' rfl (Wk.agg (by (repeat' (first | exact Wks.nil | refine Wks.cons ?_ ?_ | exact Wk.refl _ | exact Wk.nilm | exact Wk.list _ _  | exact Wk.natN rfl | refine Wk.agg ?_))))))) (tstateZ_ name) rfl rfl (by (repeat' (first | exact trivial | exact rfl | refine And.intro ?_ ?_))) (by (repeat' (first | exact trivial | exact rfl | refine And.intro ?_ ?_))) (by (repeat' (first | exact trivial | exact rfl | refine And.intro ?_ ?_))) rfl rfl ?_); ((conv => whnf)); (refine CallLeaf.o [2560, 5664] (by (repeat' (first | exact ArgsTo.nil | refine ArgsTo.cons ?_ ?_ | exact ArgTo.mk' rfl (Wk.refl _) | exact ArgTo.mk' rfl Wk.nilm | exact ArgTo.mk' rfl (Wk.int (by simp)) | exact ArgTo.mk' rfl (Wk.list _ _) | exact ArgTo.mk' rfl (Wk.agg (by (repeat' (first | exact Wks.nil | refine Wks.cons ?_ ?_ | exact Wk.refl _ | exact Wk.nilm | exact Wk.list _ _  | exact Wk.natN rfl | refine Wk.agg ?_))))))) (hS) rfl rfl (by (repeat' (first | exact trivial | exact rfl | refine And.intro ?_ ?_))) (by (repeat' (first | exact trivial | exact rfl | refine And.intro ?_ ?_))) (by (repeat' (first | exact trivial | exact rfl | refine And.intro ?_ ?_))) rfl rfl ?_); ((conv => whnf)); ((try ((refine split_intro (fun h => absurd h (by simp)) (fun _ => ?_)); (conv => whnf)))); (refine LWp.loop hT hmix [] (fun i : Nat => [(17, vI i)]) (fun _ => []) (fun i => i = 0) (fun i => 0) 0 rfl ?_); ((conv => whnf)); (refine ⟨by (repeat' (first | exact trivial | exact Wk.refl _ | exact ObWk.refl _ | exact rfl | exact ⟨_, rfl⟩ | exact Nat.zero_lt_one | refine And.intro ?_ ?_ | unfold okTo | (unfold okO; conv => whnf) | (unfold okS; conv => whnf) | (unfold SlotOk; conv => whnf) | (unfold ObjOk; conv => whnf) | (unfold okCells; conv => whnf) | (unfold liveTo; conv => whnf) | exact Nat.zero_lt_succ _)), fun i hi => ?_⟩); (subst hi); ((conv => whnf)); exact Wk.refl _)))
    | succ K =>
      have e0 : l.length ≠ 0 := by omega
      have hKl : K + 1 ≤ l.length := by omega
      (conv => whnf)
      refine LWp.loop hT hmix [] (fun x : Nat × Nat => [(10, vI x.1)]) (fun x => TK 2048 5152 l x.2 ++ TK 2560 5664 l x.1) (fun x => x.1 ≤ l.length ∧ x.2 = min x.1 (K + 1)) (fun x => l.length - x.1) (0, 0) ⟨Nat.zero_le _, by simp⟩ ?_
      (conv => whnf)
      refine ⟨?_, fun ⟨i, j⟩ ⟨hi, hij⟩ => ?_⟩
      · (repeat' (first | exact trivial | exact Wk.refl _ | exact ObWk.refl _ | exact rfl | exact ⟨_, rfl⟩ | exact Nat.zero_lt_one | refine And.intro ?_ ?_ | unfold okTo | (unfold okO; conv => whnf) | (unfold okS; conv => whnf) | (unfold SlotOk; conv => whnf) | (unfold ObjOk; conv => whnf) | (unfold okCells; conv => whnf) | (unfold liveTo; conv => whnf) | exact Nat.zero_lt_succ _))
      · replace hi : i ≤ l.length := hi
        replace hij : j = min i (K + 1) := hij
        cases i with
        | zero =>
          obtain rfl : j = 0 := by omega
          obtain ⟨o, ho⟩ := exI (l := l) (k := 0) (by omega)
          (conv => whnf)
          refine split_intro (fun _ => ?_) (fun h => absurd h (by (intro hc; have hc' := of_decide_eq_false hc; rw [List.length_map] at hc'; omega)))
          (conv => whnf)
          (try ((refine split_intro (fun _ => ?_) (fun h => absurd h (by simp))); (conv => whnf)))
          (conv => whnf)
          ((refine ⟨_, ⟨by omega, getMap ho⟩, ?_⟩); ((conv => whnf)); (refine CallLeaf.o [2048, 5152] (by (repeat' (first | exact ArgsTo.nil | refine ArgsTo.cons ?_ ?_ | exact ArgTo.mk' rfl (Wk.refl _) | exact ArgTo.mk' rfl Wk.nilm | exact ArgTo.mk' rfl (Wk.int (by simp)) | exact ArgTo.mk' rfl (Wk.list _ _) | exact ArgTo.mk' rfl (Wk.agg (by (repeat' (first | exact Wks.nil | refine Wks.cons ?_ ?_ | exact Wk.refl _ | exact Wk.nilm | exact Wk.list _ _  | exact Wk.natN rfl | refine Wk.agg ?_))))))) (load0 ok ho) rfl rfl (by (repeat' (first | exact trivial | exact rfl | refine And.intro ?_ ?_))) (by (repeat' (first | exact trivial | exact rfl | refine And.intro ?_ ?_))) (by (repeat' (first | exact trivial | exact rfl | refine And.intro ?_ ?_))) rfl rfl ?_); ((conv => whnf)))
          ((refine ⟨_, ⟨by omega, getMap ho⟩, ?_⟩); ((conv => whnf)); (refine CallLeaf.o [2560, 5664] (by (repeat' (first | exact ArgsTo.nil | refine ArgsTo.cons ?_ ?_ | exact ArgTo.mk' rfl (Wk.refl _) | exact ArgTo.mk' rfl Wk.nilm | exact ArgTo.mk' rfl (Wk.int (by simp)) | exact ArgTo.mk' rfl (Wk.list _ _) | exact ArgTo.mk' rfl (Wk.agg (by (repeat' (first | exact Wks.nil | refine Wks.cons ?_ ?_ | exact Wk.refl _ | exact Wk.nilm | exact Wk.list _ _  | exact Wk.natN rfl | refine Wk.agg ?_))))))) (load0 ok ho) rfl rfl (by (repeat' (first | exact trivial | exact rfl | refine And.intro ?_ ?_))) (by (repeat' (first | exact trivial | exact rfl | refine And.intro ?_ ?_))) (by (repeat' (first | exact trivial | exact rfl | refine And.intro ?_ ?_))) rfl rfl ?_); ((conv => whnf)); (refine ⟨_, add64 (c := ((0 + 1 : Nat) : Int)) (by (try simp only []); omega) (by omega), ?_⟩); ((conv => whnf)))
          refine ⟨(0 + 1, 0 + 1), ⟨⟨by show 0 + 1 ≤ _; omega, by show 0 + 1 = min (0 + 1) (K + 1); omega⟩, by show l.length - (0 + 1) < l.length - 0; omega⟩, ?_⟩
          (repeat' (first | exact trivial | exact Wk.refl _ | exact ObWk.refl _ | exact rfl | exact ⟨_, rfl⟩ | exact Nat.zero_lt_one | refine And.intro ?_ ?_ | unfold okTo | (unfold okO; conv => whnf) | (unfold okS; conv => whnf) | (unfold SlotOk; conv => whnf) | (unfold ObjOk; conv => whnf) | (unfold okCells; conv => whnf) | (unfold liveTo; conv => whnf) | exact Nat.zero_lt_succ _))
        | succ i =>
          obtain ⟨j, rfl⟩ : ∃ j', j = j' + 1 := ⟨j - 1, by omega⟩
          (conv => whnf)
          refine split_intro (fun h => ?_) (fun h => ?_)
          · have hlt : i + 1 < l.length := by have := of_decide_eq_true h; simp at this; omega
            obtain ⟨o, ho⟩ := exI hlt
            (conv => whnf)
            refine split_intro (fun h1 => ?_) (fun h1 => ?_)
            · have h1' : i + 1 < K + 1 := by have := of_decide_eq_true h1; simp at this; omega
              obtain rfl : j = i := by omega
              (conv => whnf)
              ((refine ⟨_, ⟨by omega, getMap ho⟩, ?_⟩); ((conv => whnf)); (refine CallLeaf.o [2048, 5152] (by (repeat' (first | exact ArgsTo.nil | refine ArgsTo.cons ?_ ?_ | exact ArgTo.mk' rfl (Wk.refl _) | exact ArgTo.mk' rfl Wk.nilm | exact ArgTo.mk' rfl (Wk.int (by simp)) | exact ArgTo.mk' rfl (Wk.list _ _) | exact ArgTo.mk' rfl (Wk.agg (by (repeat' (first | exact Wks.nil | refine Wks.cons ?_ ?_ | exact Wk.refl _ | exact Wk.nilm | exact Wk.list _ _  | exact Wk.natN rfl | refine Wk.agg ?_))))))) (loadK ok ho) rfl rfl (by (repeat' (first | exact trivial | exact rfl | refine And.intro ?_ ?_))) (by (repeat' (first | exact trivial | exact rfl | refine And.intro ?_ ?_))) (by (repeat' (first | exact trivial | exact rfl | refine And.intro ?_ ?_))) rfl rfl ?_); ((conv => whnf)))
              ((refine ⟨_, ⟨by omega, getMap ho⟩, ?_⟩); ((conv => whnf)); (refine CallLeaf.o [2560, 5664] (by (repeat' (first | exact ArgsTo.nil | refine ArgsTo.cons ?_ ?_ | exact ArgTo.mk' rfl (Wk.refl _) | exact ArgTo.mk' rfl Wk.nilm | exact ArgTo.mk' rfl (Wk.int (by simp)) | exact ArgTo.mk' rfl (Wk.list _ _) | exact ArgTo.mk' rfl (Wk.agg (by (repeat' (first | exact Wks.nil | refine Wks.cons ?_ ?_ | exact Wk.refl _ | exact Wk.nilm | exact Wk.list _ _  | exact Wk.natN rfl | refine Wk.agg ?_))))))) (loadK ok ho) rfl rfl (by (repeat' (first | exact trivial | exact rfl | refine And.intro ?_ ?_))) (by (repeat' (first | exact trivial | exact rfl | refine And.intro ?_ ?_))) (by (repeat' (first | exact trivial | exact rfl | refine And.intro ?_ ?_))) rfl rfl ?_); ((conv => whnf)); (refine ⟨_, add64 (c := (((j + 1) + 1 : Nat) : Int)) (by (try simp only []); omega) (by omega), ?_⟩); ((conv => whnf)))
              refine ⟨(j + 1 + 1, j + 1 + 1), ⟨⟨by show j + 1 + 1 ≤ _; omega, by show j + 1 + 1 = min (j + 1 + 1) (K + 1); omega⟩, by show l.length - (j + 1 + 1) < l.length - (j + 1); omega⟩, ?_⟩
              (repeat' (first | exact trivial | exact Wk.refl _ | exact ObWk.refl _ | exact rfl | exact ⟨_, rfl⟩ | exact Nat.zero_lt_one | refine And.intro ?_ ?_ | unfold okTo | (unfold okO; conv => whnf) | (unfold okS; conv => whnf) | (unfold SlotOk; conv => whnf) | (unfold ObjOk; conv => whnf) | (unfold okCells; conv => whnf) | (unfold liveTo; conv => whnf) | exact Nat.zero_lt_succ _))
            · have h1' : ¬ i + 1 < K + 1 := by have := of_decide_eq_false h1; simp at this; omega
              (conv => whnf)
              ((refine ⟨_, ⟨by omega, getMap ho⟩, ?_⟩); ((conv => whnf)); (refine CallLeaf.o [2560, 5664] (by (repeat' (first | exact ArgsTo.nil | refine ArgsTo.cons ?_ ?_ | exact ArgTo.mk' rfl (Wk.refl _) | exact ArgTo.mk' rfl Wk.nilm | exact ArgTo.mk' rfl (Wk.int (by simp)) | exact ArgTo.mk' rfl (Wk.list _ _) | exact ArgTo.mk' rfl (Wk.agg (by (repeat' (first | exact Wks.nil | refine Wks.cons ?_ ?_ | exact Wk.refl _ | exact Wk.nilm | exact Wk.list _ _  | exact Wk.natN rfl | refine Wk.agg ?_))))))) (loadK ok ho) rfl rfl (by (repeat' (first | exact trivial | exact rfl | refine And.intro ?_ ?_))) (by (repeat' (first | exact trivial | exact rfl | refine And.intro ?_ ?_))) (by (repeat' (first | exact trivial | exact rfl | refine And.intro ?_ ?_))) rfl rfl ?_); ((conv => whnf)); (refine ⟨_, add64 (c := (((i + 1) + 1 : Nat) : Int)) (by (try simp only []); omega) (by omega), ?_⟩); ((conv => whnf)))
              refine ⟨(i + 1 + 1, j + 1), ⟨⟨by show i + 1 + 1 ≤ _; omega, by show j + 1 = min (i + 1 + 1) (K + 1); omega⟩, by show l.length - (i + 1 + 1) < l.length - (i + 1); omega⟩, ?_⟩
              (repeat' (first | exact trivial | exact Wk.refl _ | exact ObWk.refl _ | exact rfl | exact ⟨_, rfl⟩ | exact Nat.zero_lt_one | refine And.intro ?_ ?_ | unfold okTo | (unfold okO; conv => whnf) | (unfold okS; conv => whnf) | (unfold SlotOk; conv => whnf) | (unfold ObjOk; conv => whnf) | (unfold okCells; conv => whnf) | (unfold liveTo; conv => whnf) | exact Nat.zero_lt_succ _))
          · have hge : l.length ≤ i + 1 := by have := of_decide_eq_false h; simp at this; omega
            obtain rfl : j = K := by omega
            have e : l.take (i + 1) = l := List.take_of_length_le hge
            have hX := namesK ok (j + 1)
            have hY := namesK ok (i + 1)
            have hS := stateK ok (j + 1) name
            have hTs := stateK ok (i + 1) name
            have hnb : Sy.names (Us (l.take (i + 1))) = Sy.names (Us l) := by rw [e]
            have hsb : all (Sy.of (Us (l.take (i + 1))) name) = all (Sy.of (Us l) name) := by rw [e]
            have hnl := names_len (Us l)
            have hul := ok.le
            have hsl := Sy.all_strongs (Sy.of (Us l) name)
            have hsl2 := Sy.of_le (Us l) name
            rw [hnb] at hY
            rw [hsb] at hTs
            rw [← N] at hX
            generalize Sy.names (Us l) = b at *
            generalize (fun s => decide (s ∈ Sy.names (Us (l.take (j + 1))))) = p at *
            obtain ⟨⟨r, hr1⟩, hr2⟩ := P
            generalize all (Sy.of (Us l) name) = T at *
            generalize all (Sy.of (Us (l.take (j + 1))) name) = S at *
            have hsle : S.strongs.length ≤ 240 := by rw [hr1, List.length_append] at hsl; omega
            (conv => whnf)
            refine CallLeaf.o [2048, 5152] (by (repeat' (first | exact ArgsTo.nil | refine ArgsTo.cons ?_ ?_ | exact ArgTo.mk' rfl (Wk.refl _) | exact ArgTo.mk' rfl Wk.nilm | exact ArgTo.mk' rfl (Wk.int (by simp)) | exact ArgTo.mk' rfl (Wk.list _ _) | exact ArgTo.mk' rfl (Wk.agg (by (repeat' (first | exact Wks.nil | refine Wks.cons ?_ ?_ | exact Wk.refl _ | exact Wk.nilm | exact Wk.list _ _  | exact Wk.natN rfl | refine Wk.agg ?_))))))) (hX) rfl rfl (by (repeat' (first | exact trivial | exact rfl | refine And.intro ?_ ?_))) (by (repeat' (first | exact trivial | exact rfl | refine And.intro ?_ ?_))) (by (repeat' (first | exact trivial | exact rfl | refine And.intro ?_ ?_))) rfl rfl ?_
            (conv => whnf)
            refine CallLeaf.o [2560, 5664] (by (repeat' (first | exact ArgsTo.nil | refine ArgsTo.cons ?_ ?_ | exact ArgTo.mk' rfl (Wk.refl _) | exact ArgTo.mk' rfl Wk.nilm | exact ArgTo.mk' rfl (Wk.int (by simp)) | exact ArgTo.mk' rfl (Wk.list _ _) | exact ArgTo.mk' rfl (Wk.agg (by (repeat' (first | exact Wks.nil | refine Wks.cons ?_ ?_ | exact Wk.refl _ | exact Wk.nilm | exact Wk.list _ _  | exact Wk.natN rfl | refine Wk.agg ?_))))))) (hY) rfl rfl (by (repeat' (first | exact trivial | exact rfl | refine And.intro ?_ ?_))) (by (repeat' (first | exact trivial | exact rfl | refine And.intro ?_ ?_))) (by (repeat' (first | exact trivial | exact rfl | refine And.intro ?_ ?_))) rfl rfl ?_
            (conv => whnf)
            refine LWp.loop hT hmix [] (fun i : Nat => [(14, vI i), (13, vI (((b.take i).filter p).length : Nat))]) (fun _ => []) (fun i => i ≤ b.length) (fun i => b.length - i) 0 (Nat.zero_le _) ?_
            (conv => whnf)
            refine ⟨?_, fun i hi => ?_⟩
            · (repeat' (first | exact trivial | exact Wk.refl _ | exact ObWk.refl _ | exact rfl | exact ⟨_, rfl⟩ | exact Nat.zero_lt_one | refine And.intro ?_ ?_ | unfold okTo | (unfold okO; conv => whnf) | (unfold okS; conv => whnf) | (unfold SlotOk; conv => whnf) | (unfold ObjOk; conv => whnf) | (unfold okCells; conv => whnf) | (unfold liveTo; conv => whnf) | exact Nat.zero_lt_succ _))
            · have hfl := List.length_filter_le p b
              have hcle : ((b.take i).filter p).length ≤ (b.filter p).length := by
                have : (b.take i).filter p ++ (b.drop i).filter p = b.filter p := by rw [← List.filter_append, List.take_append_drop]
                rw [← this, List.length_append]; omega
              (conv => whnf)
              refine split_intro (fun g1 => ?_) (fun g1 => ?_)
              · have hlt : i < b.length := by have := of_decide_eq_true g1; simp at this; omega
                obtain ⟨s, hs⟩ := exI hlt
                have hst := filter_step (p := p) hs
                (conv => whnf)
                refine split_intro (fun g2 => ?_) (fun g2 => ?_)
                · have hlt2 : ((b.take i).filter p).length < (b.filter p).length := by have := of_decide_eq_true g2; rw [List.length_map] at this; omega
                  obtain ⟨t, ht⟩ := exI hlt2
                  (conv => whnf)
                  refine ⟨_, ⟨by omega, getMap hs⟩, ?_⟩
                  (conv => whnf)
                  refine ⟨_, ⟨by omega, getMap ht⟩, ?_⟩
                  (conv => whnf)
                  refine split_intro (fun g3 => ?_) (fun g3 => ?_)
                  · have g3' : s = t := of_decide_eq_true g3
                    have hp : p s = true := by rw [g3']; exact (List.mem_filter.1 (List.mem_of_getElem? ht)).2
                    rw [if_pos hp] at hst
                    (conv => whnf)
                    refine ⟨_, add64 (c := ((((b.take i).filter p).length + 1 : Nat) : Int)) (by (try simp only []); omega) (by omega), ?_⟩
                    (conv => whnf)
                    refine ⟨_, add64 (c := ((i + 1 : Nat) : Int)) (by (try simp only []); omega) (by omega), ?_⟩
                    (conv => whnf)
                    refine ⟨i + 1, ⟨by omega, by simp only []; omega⟩, ?_⟩
                    dsimp only
                    rw [hst, List.length_append]
                    (repeat' (first | exact trivial | exact Wk.refl _ | exact ObWk.refl _ | exact rfl | exact ⟨_, rfl⟩ | exact Nat.zero_lt_one | refine And.intro ?_ ?_ | unfold okTo | (unfold okO; conv => whnf) | (unfold okS; conv => whnf) | (unfold SlotOk; conv => whnf) | (unfold ObjOk; conv => whnf) | (unfold okCells; conv => whnf) | (unfold liveTo; conv => whnf) | exact Nat.zero_lt_succ _))
                  · have g3' : ¬ s = t := of_decide_eq_false g3
                    have hp : ¬ p s = true := fun hp => by
                      have := filter_at hs hp
                      rw [ht] at this
                      injection this with this
                      exact g3' this.symm
                    rw [if_neg hp, List.append_nil] at hst
                    (conv => whnf)
                    refine ⟨_, add64 (c := ((i + 1 : Nat) : Int)) (by (try simp only []); omega) (by omega), ?_⟩
                    (conv => whnf)
                    refine ⟨i + 1, ⟨by omega, by simp only []; omega⟩, ?_⟩
                    dsimp only
                    rw [hst]
                    (repeat' (first | exact trivial | exact Wk.refl _ | exact ObWk.refl _ | exact rfl | exact ⟨_, rfl⟩ | exact Nat.zero_lt_one | refine And.intro ?_ ?_ | unfold okTo | (unfold okO; conv => whnf) | (unfold okS; conv => whnf) | (unfold SlotOk; conv => whnf) | (unfold ObjOk; conv => whnf) | (unfold okCells; conv => whnf) | (unfold liveTo; conv => whnf) | exact Nat.zero_lt_succ _))
                · have hfin : ((b.take i).filter p).length = (b.filter p).length := by have := of_decide_eq_false g2; rw [List.length_map] at this; omega
                  (((conv => whnf)); (refine CallLeaf.o [2048, 5152] (by (repeat' (first | exact ArgsTo.nil | refine ArgsTo.cons ?_ ?_ | exact ArgTo.mk' rfl (Wk.refl _) | exact ArgTo.mk' rfl Wk.nilm | exact ArgTo.mk' rfl (Wk.int (by simp)) | exact ArgTo.mk' rfl (Wk.list _ _) | exact ArgTo.mk' rfl (Wk.agg (by (repeat' (first | exact Wks.nil | refine Wks.cons ?_ ?_ | exact Wk.refl _ | exact Wk.nilm | exact Wk.list _ _  | exact Wk.natN rfl | refine Wk.agg ?_))))))) (hS) rfl rfl (by (repeat' (first | exact trivial | exact rfl | refine And.intro ?_ ?_))) (by (repeat' (first | exact trivial | exact rfl | refine And.intro ?_ ?_))) (by (repeat' (first | exact trivial | exact rfl | refine And.intro ?_ ?_))) rfl rfl ?_); ((conv => whnf)); (refine CallLeaf.o [2560, 5664] (by (repeat' (first | exact ArgsTo.nil | refine ArgsTo.cons ?_ ?_ | exact ArgTo.mk' rfl (Wk.refl _) | exact ArgTo.mk' rfl Wk.nilm | exact ArgTo.mk' rfl (Wk.int (by simp)) | exact ArgTo.mk' rfl (Wk.list _ _) | exact ArgTo.mk' rfl (Wk.agg (by (repeat' (first | exact Wks.nil | refine Wks.cons ?_ ?_ | exact Wk.refl _ | exact Wk.nilm | exact Wk.list _ _  | exact Wk.natN rfl | refine Wk.agg ?_))))))) (hTs) rfl rfl (by (repeat' (first | exact trivial | exact rfl | refine And.intro ?_ ?_))) (by (repeat' (first | exact trivial | exact rfl | refine And.intro ?_ ?_))) (by (repeat' (first | exact trivial | exact rfl | refine And.intro ?_ ?_))) rfl rfl ?_); ((conv => whnf)); (refine split_intro (fun h => absurd h (by simp [hfin])) (fun _ => ?_)); ((conv => whnf)); (refine split_intro (fun h => absurd h (by (intro hc; have hc' := of_decide_eq_true hc; rw [List.length_map, List.length_map, hr1, List.length_append] at hc'; omega))) (fun _ => ?_)); ((conv => whnf)); (refine split_intro (fun hb => by ((have hb' : T.bind ≠ 0 := hr2 (by simpa using hb)); ((conv => whnf)); (refine split_intro (fun h => absurd h (by simpa using hb')) (fun _ => ?_)); ((((conv => whnf)); (refine LWp.loop hT hmix [] (fun q : Nat => [(17, vI q)]) (fun _ => []) (fun q => q ≤ S.strongs.length) (fun q => S.strongs.length - q) 0 (Nat.zero_le _) ?_); ((conv => whnf)); (refine ⟨by (repeat' (first | exact trivial | exact Wk.refl _ | exact ObWk.refl _ | exact rfl | exact ⟨_, rfl⟩ | exact Nat.zero_lt_one | refine And.intro ?_ ?_ | unfold okTo | (unfold okO; conv => whnf) | (unfold okS; conv => whnf) | (unfold SlotOk; conv => whnf) | (unfold ObjOk; conv => whnf) | (unfold okCells; conv => whnf) | (unfold liveTo; conv => whnf) | exact Nat.zero_lt_succ _)), fun q hq => ?_⟩); ((conv => whnf)); (refine split_intro (fun g => by ((have hlt : q < S.strongs.length := by (have := of_decide_eq_true g; rw [List.length_map] at this; omega)); (obtain ⟨x, hx⟩ := exI hlt); (have hy : T.strongs[q]? = some x := by (rw [hr1, List.getElem?_append_left hlt]; exact hx)); ((conv => whnf)); (refine ⟨_, ⟨by omega, getMap hx⟩, ?_⟩); ((conv => whnf)); (refine ⟨_, ⟨by omega, getMap hy⟩, ?_⟩); ((conv => whnf)); (refine split_intro (fun h => absurd h (by simp)) (fun _ => ?_)); ((conv => whnf)); (refine ⟨_, add64 (c := ((q + 1 : Nat) : Int)) (by (try simp only []); omega) (by omega), ?_⟩); ((conv => whnf)); (refine ⟨q + 1, ⟨by omega, by simp only []; omega⟩, ?_⟩); ((repeat' (first | exact trivial | exact Wk.refl _ | exact ObWk.refl _ | exact rfl | exact ⟨_, rfl⟩ | exact Nat.zero_lt_one | refine And.intro ?_ ?_ | unfold okTo | (unfold okO; conv => whnf) | (unfold okS; conv => whnf) | (unfold SlotOk; conv => whnf) | (unfold ObjOk; conv => whnf) | (unfold okCells; conv => whnf) | (unfold liveTo; conv => whnf) | exact Nat.zero_lt_succ _))))) (fun g => by (((conv => whnf)); exact Wk.refl _))))))) (fun hb => by ((((conv => whnf)); (refine LWp.loop hT hmix [] (fun q : Nat => [(17, vI q)]) (fun _ => []) (fun q => q ≤ S.strongs.length) (fun q => S.strongs.length - q) 0 (Nat.zero_le _) ?_); ((conv => whnf)); (refine ⟨by (repeat' (first | exact trivial | exact Wk.refl _ | exact ObWk.refl _ | exact rfl | exact ⟨_, rfl⟩ | exact Nat.zero_lt_one | refine And.intro ?_ ?_ | unfold okTo | (unfold okO; conv => whnf) | (unfold okS; conv => whnf) | (unfold SlotOk; conv => whnf) | (unfold ObjOk; conv => whnf) | (unfold okCells; conv => whnf) | (unfold liveTo; conv => whnf) | exact Nat.zero_lt_succ _)), fun q hq => ?_⟩); ((conv => whnf)); (refine split_intro (fun g => by ((have hlt : q < S.strongs.length := by (have := of_decide_eq_true g; rw [List.length_map] at this; omega)); (obtain ⟨x, hx⟩ := exI hlt); (have hy : T.strongs[q]? = some x := by (rw [hr1, List.getElem?_append_left hlt]; exact hx)); ((conv => whnf)); (refine ⟨_, ⟨by omega, getMap hx⟩, ?_⟩); ((conv => whnf)); (refine ⟨_, ⟨by omega, getMap hy⟩, ?_⟩); ((conv => whnf)); (refine split_intro (fun h => absurd h (by simp)) (fun _ => ?_)); ((conv => whnf)); (refine ⟨_, add64 (c := ((q + 1 : Nat) : Int)) (by (try simp only []); omega) (by omega), ?_⟩); ((conv => whnf)); (refine ⟨q + 1, ⟨by omega, by simp only []; omega⟩, ?_⟩); ((repeat' (first | exact trivial | exact Wk.refl _ | exact ObWk.refl _ | exact rfl | exact ⟨_, rfl⟩ | exact Nat.zero_lt_one | refine And.intro ?_ ?_ | unfold okTo | (unfold okO; conv => whnf) | (unfold okS; conv => whnf) | (unfold SlotOk; conv => whnf) | (unfold ObjOk; conv => whnf) | (unfold okCells; conv => whnf) | (unfold liveTo; conv => whnf) | exact Nat.zero_lt_succ _))))) (fun g => by (((conv => whnf)); exact Wk.refl _))))))))
              · have hge2 : b.length ≤ i := by have := of_decide_eq_false g1; simp at this; omega
                have hfin : ((b.take i).filter p).length = (b.filter p).length := by rw [List.take_of_length_le hge2]
                (((conv => whnf)); (refine CallLeaf.o [2048, 5152] (by (repeat' (first | exact ArgsTo.nil | refine ArgsTo.cons ?_ ?_ | exact ArgTo.mk' rfl (Wk.refl _) | exact ArgTo.mk' rfl Wk.nilm | exact ArgTo.mk' rfl (Wk.int (by simp)) | exact ArgTo.mk' rfl (Wk.list _ _) | exact ArgTo.mk' rfl (Wk.agg (by (repeat' (first | exact Wks.nil | refine Wks.cons ?_ ?_ | exact Wk.refl _ | exact Wk.nilm | exact Wk.list _ _  | exact Wk.natN rfl | refine Wk.agg ?_))))))) (hS) rfl rfl (by (repeat' (first | exact trivial | exact rfl | refine And.intro ?_ ?_))) (by (repeat' (first | exact trivial | exact rfl | refine And.intro ?_ ?_))) (by (repeat' (first | exact trivial | exact rfl | refine And.intro ?_ ?_))) rfl rfl ?_); ((conv => whnf)); (refine CallLeaf.o [2560, 5664] (by (repeat' (first | exact ArgsTo.nil | refine ArgsTo.cons ?_ ?_ | exact ArgTo.mk' rfl (Wk.refl _) | exact ArgTo.mk' rfl Wk.nilm | exact ArgTo.mk' rfl (Wk.int (by simp)) | exact ArgTo.mk' rfl (Wk.list _ _) | exact ArgTo.mk' rfl (Wk.agg (by (repeat' (first | exact Wks.nil | refine Wks.cons ?_ ?_ | exact Wk.refl _ | exact Wk.nilm | exact Wk.list _ _  | exact Wk.natN rfl | refine Wk.agg ?_))))))) (hTs) rfl rfl (by (repeat' (first | exact trivial | exact rfl | refine And.intro ?_ ?_))) (by (repeat' (first | exact trivial | exact rfl | refine And.intro ?_ ?_))) (by (repeat' (first | exact trivial | exact rfl | refine And.intro ?_ ?_))) rfl rfl ?_); ((conv => whnf)); (refine split_intro (fun h => absurd h (by simp [hfin])) (fun _ => ?_)); ((conv => whnf)); (refine split_intro (fun h => absurd h (by (intro hc; have hc' := of_decide_eq_true hc; rw [List.length_map, List.length_map, hr1, List.length_append] at hc'; omega))) (fun _ => ?_)); ((conv => whnf)); (refine split_intro (fun hb => by ((have hb' : T.bind ≠ 0 := hr2 (by simpa using hb)); ((conv => whnf)); (refine split_intro (fun h => absurd h (by simpa using hb')) (fun _ => ?_)); ((((conv => whnf)); (refine LWp.loop hT hmix [] (fun q : Nat => [(17, vI q)]) (fun _ => []) (fun q => q ≤ S.strongs.length) (fun q => S.strongs.length - q) 0 (Nat.zero_le _) ?_); ((conv => whnf)); (refine ⟨by (repeat' (first | exact trivial | exact Wk.refl _ | exact ObWk.refl _ | exact rfl | exact ⟨_, rfl⟩ | exact Nat.zero_lt_one | refine And.intro ?_ ?_ | unfold okTo | (unfold okO; conv => whnf) | (unfold okS; conv => whnf) | (unfold SlotOk; conv => whnf) | (unfold ObjOk; conv => whnf) | (unfold okCells; conv => whnf) | (unfold liveTo; conv => whnf) | exact Nat.zero_lt_succ _)), fun q hq => ?_⟩); ((conv => whnf)); (refine split_intro (fun g => by ((have hlt : q < S.strongs.length := by (have := of_decide_eq_true g; rw [List.length_map] at this; omega)); (obtain ⟨x, hx⟩ := exI hlt); (have hy : T.strongs[q]? = some x := by (rw [hr1, List.getElem?_append_left hlt]; exact hx)); ((conv => whnf)); (refine ⟨_, ⟨by omega, getMap hx⟩, ?_⟩); ((conv => whnf)); (refine ⟨_, ⟨by omega, getMap hy⟩, ?_⟩); ((conv => whnf)); (refine split_intro (fun h => absurd h (by simp)) (fun _ => ?_)); ((conv => whnf)); (refine ⟨_, add64 (c := ((q + 1 : Nat) : Int)) (by (try simp only []); omega) (by omega), ?_⟩); ((conv => whnf)); (refine ⟨q + 1, ⟨by omega, by simp only []; omega⟩, ?_⟩); ((repeat' (first | exact trivial | exact Wk.refl _ | exact ObWk.refl _ | exact rfl | exact ⟨_, rfl⟩ | exact Nat.zero_lt_one | refine And.intro ?_ ?_ | unfold okTo | (unfold okO; conv => whnf) | (unfold okS; conv => whnf) | (unfold SlotOk; conv => whnf) | (unfold ObjOk; conv => whnf) | (unfold okCells; conv => whnf) | (unfold liveTo; conv => whnf) | exact Nat.zero_lt_succ _))))) (fun g => by (((conv => whnf)); exact Wk.refl _))))))) (fun hb => by ((((conv => whnf)); (refine LWp.loop hT hmix [] (fun q : Nat => [(17, vI q)]) (fun _ => []) (fun q => q ≤ S.strongs.length) (fun q => S.strongs.length - q) 0 (Nat.zero_le _) ?_); ((conv => whnf)); (refine ⟨by (repeat' (first | exact trivial | exact Wk.refl _ | exact ObWk.refl _ | exact rfl | exact ⟨_, rfl⟩ | exact Nat.zero_lt_one | refine And.intro ?_ ?_ | unfold okTo | (unfold okO; conv => whnf) | (unfold okS; conv => whnf) | (unfold SlotOk; conv => whnf) | (unfold ObjOk; conv => whnf) | (unfold okCells; conv => whnf) | (unfold liveTo; conv => whnf) | exact Nat.zero_lt_succ _)), fun q hq => ?_⟩); ((conv => whnf)); (refine split_intro (fun g => by ((have hlt : q < S.strongs.length := by (have := of_decide_eq_true g; rw [List.length_map] at this; omega)); (obtain ⟨x, hx⟩ := exI hlt); (have hy : T.strongs[q]? = some x := by (rw [hr1, List.getElem?_append_left hlt]; exact hx)); ((conv => whnf)); (refine ⟨_, ⟨by omega, getMap hx⟩, ?_⟩); ((conv => whnf)); (refine ⟨_, ⟨by omega, getMap hy⟩, ?_⟩); ((conv => whnf)); (refine split_intro (fun h => absurd h (by simp)) (fun _ => ?_)); ((conv => whnf)); (refine ⟨_, add64 (c := ((q + 1 : Nat) : Int)) (by (try simp only []); omega) (by omega), ?_⟩); ((conv => whnf)); (refine ⟨q + 1, ⟨by omega, by simp only []; omega⟩, ?_⟩); ((repeat' (first | exact trivial | exact Wk.refl _ | exact ObWk.refl _ | exact rfl | exact ⟨_, rfl⟩ | exact Nat.zero_lt_one | refine And.intro ?_ ?_ | unfold okTo | (unfold okO; conv => whnf) | (unfold okS; conv => whnf) | (unfold SlotOk; conv => whnf) | (unfold ObjOk; conv => whnf) | (unfold okCells; conv => whnf) | (unfold liveTo; conv => whnf) | exact Nat.zero_lt_succ _))))) (fun g => by (((conv => whnf)); exact Wk.refl _))))))))
end Go.Proofs.YtdlcaoobaejlpaaDoor

/- SymtabPrefix: for every input the law returns true and leaves its arguments as they were. No condition but the given statement's own. -/
set_option linter.unusedVariables false
set_option linter.unusedSimpArgs false
namespace Go.Proofs.YtdlcaoobaejlpaaDoor
open Go Go.AL
open Go.ChangeShapes Go.WideShapes Go.ChangeAt Go.RowKit
set_option maxRecDepth 100000 in
theorem symtabPrefix_lifted (os : Os) (started : os.Started) (H : Type) (enc : TypeId × Value → H) :
    ReturnsInHanded {} Tryd.checked os 7 .any (fun w args => (Rows.symtabPrefixSpec.pre enc Tryd.prog Tryd.f7 [] false w args ∧ laidMetH Tryd.prog laidL w) ∧ sizedMet enc Tryd.prog Tryd.f7 (OpenSpec.ofChange Rows.symtabPrefixSpec) false w args)
      (Rows.symtabPrefixSpec.post enc Tryd.prog Tryd.f7 false true false false) := by
  refine returnsInHanded_of_change_and (C := Tryd.checked) (X := fun w _ => laidMetH Tryd.prog laidL w) (fun _ _ _ hh h => h.of_heap hh) own started (by kernel_rfl) Tryd.func7
    (ChangeSpec.witness_shaped (enc := enc) (C := Tryd.checked) (os := os) (X := fun w _ => laidMetH Tryd.prog laidL w) false (World.doorLaid Tryd.prog doorSteps os) #[.slice none 0 0, .int .u8 0, .string ⟨#[]⟩] 8 rfl (World.shaped_of_RefB (by kernel_rfl) (by kernel_rfl)) (by kernel_rfl) (by kernel_rfl) (by kernel_rfl) (door_met os _)) ?_
  intro W base args ds gs before hval hW _ hsz hL _
  exact law_contract (P := Tryd.prog) (G := Gl) (n := 8) laidOut (ts := [22, 5, 9]) (by rw [Tryd.params7]) (by kernel_rfl)
    (fun t ht => by
      have : [22, 5, 9].all (fun t => Tryd.prog.readableRec t && decide (t < Tryd.prog.types.size)) = true := by kernel_rfl
      have := List.all_eq_true.1 this t ht
      simpa using this) rfl rfl Tryd.underlying4
    (fun ds hd => by
      match ds, hd with
      | [d0, d1, d2], _ => rfl)
    (fun xs ha => by
      cases ha with
      | cons h0 ha =>
        cases ha with
        | cons h1 ha =>
          cases ha with
          | cons h2 ha =>
            cases ha
            obtain ⟨v0, c0, e0⟩ := arg_LO h0
            obtain ⟨v1, c1, e1⟩ := arg_u8 h1
            obtain ⟨v2, c2, e2⟩ := arg_sD h2
            rw [e0, e1, e2]
            exact symPrefix_ v0 v1 v2 c1) hval hW hsz (globOk hL)

theorem symtabPrefix_row : Rows.SymtabPrefixSaid :=
  OpenClaim.holds_of_wide 7 Tryd.f7 rfl rfl rfl rfl rfl rfl rfl ⟨rfl, rfl, rfl, rfl, rfl⟩ rfl rfl rfl rfl rfl (by kernel_rfl) Tryd.func7 (by kernel_rfl)
    (of_decide_eq_true (by kernel_rfl)) (by unfold Func.isWrapper; first | (rw [if_pos (by decide +kernel)]; kernel_rfl) | (rw [if_neg (by decide +kernel)]; exact ⟨rfl, rfl⟩))
    (fun os started H enc _ => symtabPrefix_lifted os started H enc)

theorem symtabPrefix_holds : Rows.SymtabPrefixCardSaid :=
  Claim7.holds_tied_plain_at .later [] [.data] true (true, "034a03f84f236c40f9ea70330cfa542203856bf18f59b8879aaf8906f2ac695d") true
    symtabPrefix_row (fun _ h => by cases h) (by kernel_rfl) (fun _ h => by cases h) symtabPrefix_row_tie rfl ⟨rfl, rfl⟩ (by kernel_rfl) rfl
    (fun f fn hf hfn => by
      obtain rfl : f = 7 := Option.some.inj ((show Tryd.prog.funcNamed "arlink/arlinklaw14.SymtabPrefix" = some 7 by kernel_rfl).symm.trans hf) |>.symm
      obtain rfl : fn = Tryd.f7 := (Option.some.inj (Tryd.func7.symm.trans hfn)).symm
      exact ⟨by kernel_rfl, fun j t ht => by
        have hm : t ∈ [22, 5, 9] := by
          have := Array.mem_of_getElem? ht
          rw [Tryd.params7] at this
          simpa using this
        have : [22, 5, 9].all (fun t => !Tryd.prog.wantsStandIn t) = true := by kernel_rfl
        have := List.all_eq_true.1 this t hm
        exact (show Tryd.prog.wantsStandIn t = false by simpa using this)⟩)
    (by kernel_rfl)
#print axioms symtabPrefix_holds
end Go.Proofs.YtdlcaoobaejlpaaDoor
