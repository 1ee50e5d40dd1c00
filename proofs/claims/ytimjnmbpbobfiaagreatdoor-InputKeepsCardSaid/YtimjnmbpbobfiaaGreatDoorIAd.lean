/- AL46: functions that defer a function that recovers,after other code. No condition. -/
import Derived.Test.YtimjnmbpbobfiaaGreatDoorIAc
import Derived.Handed
import Derived.Lib.LaidTab
import Derived.MakeChecks
import Derived.Shelf.Vars
set_option linter.unusedVariables false
set_option linter.unusedSimpArgs false
namespace Go.AL
open Go
variable {P : Program} {T : Tab} {G : Glob}
def RetOk (G : Glob) (pre post : List AObj) (d : D) (E0 : Env) (w0 : World) (e : Ending) (w' : World) : Prop :=
 ∃ E' v,e = .returned v ∧ VR E' w'.heap (sto post) d v ∧ Core G E' w'.heap (sto post) post.length ∧ Guar pre.length E0 w0.heap (sto pre) E' w'.heap (sto post) ∧ WSame w0 w'
structure DGo (P : Program) (T : Tab) (G : Glob) (fn : Func) (pre post : List AObj) (d : D) (c : Code) (l : Sl) (o : So) : Prop where
 sem : ∀ E0 w0 E w a, Rel G E w (stOf (pre.length + 1048576) fn.ntmps l o) a → Guar pre.length E0 w0.heap (sto pre) E w.heap (mkσ o) → WSame w0 w →
  c.wp P (bodyPostD P fn (RetOk G pre post d E0 w0)) a w
theorem FCall.enterG (hT : TOk P T) (hmix : P.follows .mixedOrders = true) {f : FuncId} {fn : Func} {c : Code} {args : List D} {pre : List AObj} {d : D} {post : List AObj}
  (hf : P.funcs[f]? = some fn) (hn : (fn.name == "runtime.NumGoroutine") = false) (hb : fn.body = some c) (ha : Nat.ble args.length fn.ntmps = true)
  (h : bds args → forceS (initS args 0) fun l=>DGo P T G fn pre post d c l (initO pre 0))
  (hdf : G.df = []:=by rfl) (hmk : G.mks = none:=by rfl) : FCall P G f args pre d post:=by
 refine FCall.bound ⟨fn,hf,hn,by simp [hb]⟩ fun hbd=>?_
 replace h:=h hbd
 rw [forceS_eq] at h
 refine ⟨⟨fn,hf,hn,by simp [hb]⟩,fun E w vs C hv=>calls_of_wp_defers hf hb ?_⟩
 have hvl : vs.length = args.length:=hv.1
 have ha':=Nat.le_of_ble_eq_true ha
 have q1 : mkρ (initS args 0) = fun t=>args.getD t .junk:=by funext t; rw [mkρ_initS]; simp
 have q2 : mkσ (initO pre 0) = sto pre:=by funext t; rw [mkσ_initO]; simp [sto]
 have R : Rel G E w (stOf (pre.length + 1048576) fn.ntmps (initS args 0) (initO pre 0))
   { tmps:=vs.toArray ++ Array.replicate (fn.ntmps - vs.toArray.size) undef,defers:=[] }:=by
  rw [stOf,q1,q2]
  refine ⟨⟨C.objs,C.bnd,C.sc,C.nf,fun k hk=>C.dead k (by simp at hk; omega),C.glob⟩,by simp; omega,fun t=>?_,Dfs.of_eq hmk hdf.symm⟩
  show VR E w.heap (sto pre) (args.getD t .junk) _
  by_cases ht : t < args.length
  ·have := hv.2 t ht (by omega)
   have e1 : args.getD t .junk = args[t]:=by simp [List.getD,ht]
   have e2 : (vs.toArray ++ Array.replicate (fn.ntmps - vs.toArray.size) undef).getD t undef = vs[t]'(by omega) := by
    simp [Array.getElem?_append,show t < vs.length by omega]
   rw [e1,e2]; exact this
  ·have e1 : args.getD t .junk = .junk := by simp [List.getD, List.getElem?_eq_none (Nat.le_of_not_lt ht)]
   rw [e1]; exact .junk _
 exact h.sem E w E w _ R (by rw [q2]; exact Guar.refl _ _ _ _) (WSame.refl _)
theorem DGo.seq (hT : TOk P T) (hmix : P.follows .mixedOrders = true) {fn : Func} {pre post : List AObj} {d : D} {x y : Code} {l : Sl} {o : So} (S : List Nat)
  (h : wpc P T G pre.length (pre.length + 1048576) fn.ntmps S x (fun e l o => match e with
   | .normal=>DGo P T G fn pre post d y l o
   | .ret=>resK T (stOf (pre.length + 1048576) fn.ntmps l o) fn.results.toList (FinO pre.length post d o)
   | _=>False) l o)
  (hdf : G.df = []:=by rfl) (hpk : ∀ q ρ σ,¬ G.pk q ρ σ:=by exact fun _ _ _ h=>h) (hmk : G.mks = none:=by rfl) : DGo P T G fn pre post d (.seq x y) l o:=by
 refine ⟨fun E0 w0 E w a R g0 s0=>?_⟩
 refine wp_seq (wp_mono ((wpc_sound hT hmix x _ _ _ h).sem.sem (by simp) E a w R) fun e a' w' hp=>?_)
 rcases hp with ⟨E',st',⟨l',o',rfl,q⟩,hm,R',g,s⟩|⟨q,_,_,st',_,hq,_⟩
 case inr=>exact absurd hq (hpk _ _ _)
 have g1:=g0.trans g
 have s1:=s0.trans s
 cases e with
 | normal=>exact q.sem E0 w0 E' w' a' R' g1 s1
 | ret =>
  show bodyPostD P fn _ .ret a' w'
  replace q : resK T (stOf (pre.length + 1048576) fn.ntmps l' o') fn.results.toList (FinO pre.length post d o'):=q
  unfold resK at q
  split at q
  case h_2=>exact q.elim
  rename_i ds hds
  rw [forceL_eq] at q
  obtain ⟨srcs,hs,hp,hd⟩:=q
  obtain ⟨v,hr,hv'⟩:=results_sound hT R' hds
  obtain ⟨E2,o1,o2,o3⟩:=FinS.out ⟨srcs,hs,hp,hd⟩ R'.core hv' g1
  show Leaves P fn a'.tmps _ a'.defers .returning w'
  rw [(R'.defers.eq hmk).trans hdf]
  exact ⟨v,hr,E2,v,rfl,o1,o2,o3,s1⟩
 | _=>exact q.elim
theorem DGo.defer (hT : TOk P T) (hmix : P.follows .mixedOrders = true) {fc : FuncId} {fn : Func} {pre post : List AObj} {d : D} {l : Sl} {o : So} {r1 : Nat} {o1 o2 : Oper} {c2 : Code} {t : Nat} {caps : Array Operand} {ts : Array TypeId}
  (g1 : o1.guard = none) (e1 : o1.op = .makeFunc (.func fc) #[] caps) (d1 : o1.dst = some t) (g2 : o2.guard = none) (e2 : o2.op = .defer ⟨.value (.tmp t),#[],ts⟩) (d2 : o2.dst = none)
  (ht : Nat.blt t fn.ntmps = true)
  (h : ∃ ks : List (Nat × Nat), caps.toList.map (ev G (mkρ l)) = ptrs ks ∧ (∀ k ∈ ks, k.1 < pre.length + 4096) ∧
    ∀ ds, wpc P T ⟨G.g, fun q ρ σ => Door P G fc (ptrs ks) (some q) σ (fun σ' => resK T ⟨ρ, σ', pre.length + 1048576, fn.ntmps⟩ fn.results.toList (FinS pre.length post d σ')), ds, none, fun _ _ _ => False⟩ (pre.length + 4096) (pre.length + 1048576) fn.ntmps [] c2
     (fun e l o => match e with
      | .normal=>Door P G fc (ptrs ks) none (mkσ o) (fun σ'=>resK T ⟨mkρ l,σ',pre.length + 1048576,fn.ntmps⟩ fn.results.toList (FinS pre.length post d σ'))
      | .ret=>Door P G fc (ptrs ks) none (mkσ o) (fun σ'=>resK T ⟨mkρ l,σ',pre.length + 1048576,fn.ntmps⟩ fn.results.toList (FinS pre.length post d σ'))
      | _=>False) ((t,.func (.func fc) [] (ptrs ks)) :: l) o)
  (hdf : G.df = []:=by rfl) (hmk : G.mks = none:=by rfl) : DGo P T G fn pre post d (.seq (.region r1 #[o1,o2] false) c2) l o:=by
 refine ⟨fun E w E' w' a' R' gg s=>?_⟩
 have ht' : t < fn.ntmps:=by simpa [Nat.blt_eq] using ht
 obtain ⟨ks,hcaps,hks,hrest⟩:=h
 refine (wpIn_wide (n:=0)).1 (wpIn_seq (wpIn_region (F:=fen none) ?_))
 have hrange : List.range (#[o1,o2] : Array Oper).size = [0,1]:=rfl
 rw [hrange,wpOpsIn_cons]
 have hw1 : ∀ tmps,Region.wanted o1 (yielded #[o1,o2] tmps) = true:=fun tmps=>by simp [Region.wanted,g1]
 have hw2 : ∀ tmps,Region.wanted o2 (yielded #[o1,o2] tmps) = true:=fun tmps=>by simp [Region.wanted,g2]
 unfold wpOpIn
 simp only [show (#[o1,o2] : Array Oper)[0]? = some o1 from rfl,hw1,if_true]
 refine wq_in (r:=none) (.inl rfl) ?_
 have hmkf:=makeFunc_op (P:=P) (G:=G) (ρ:=mkρ l) (σ:=mkσ o) (id:=0) e1 E' a' w' _ R' (fun _ _=>rfl) (fun k hk=>by simp [keysOf] at hk) (by show 0 < pre.length + 1048576; omega)
 refine wp_mono2 (fun a1 w1 hh=>?_) (fun e a w hh=>hh.elim) hmkf
 obtain ⟨E1,v1,rfl,S1⟩:=hh
 have R1:=S1.rel.put S1.vr ht'
 rw [d1]
 rw [wpOpsIn_cons]
 unfold wpOpIn
 simp only [show (#[o1,o2] : Array Oper)[1]? = some o2 from rfl,hw2,if_true]
 refine wq_in (r:=none) (.inl rfl) ?_
 have hv1 : VR E1 w1.heap (mkσ o) (.func (.func fc) [] (ptrs ks)) v1 := by
  have:=S1.vr
  rw [hcaps] at this
  exact this
 obtain ⟨cvs, rfl, hcv⟩ : ∃ cvs : List Value, v1 = .func (.func fc) #[] cvs.toArray ∧ VRs E1 w1.heap (mkσ o) (ptrs ks) cvs := by
  cases hv1 with
  | func _ _ _ us vs l1 l2 f1 f2 =>
   have : us = []:=List.eq_nil_of_length_eq_zero l1
   subst this
   exact ⟨vs,rfl,l2,f2⟩
 have hrun : (execOp (a'.put (some t) (.func (.func fc) #[] cvs.toArray)).eval o2).run P w1 = .ok (.defer { target := .fn (.func fc) cvs.toArray, args := #[] }) w1 := by
  have hsz : t < a'.tmps.size:=by rw [R'.n]; exact ht'
  have : (a'.put (some t) (.func (.func fc) #[] cvs.toArray)).eval (.tmp t) = .func (.func fc) #[] cvs.toArray := by
   simp [Act.put,Act.eval,hsz]
  simp [execOp,e2,resolve,this,Deferred.ofValue]
 unfold Oper.wq
 rw [hrun,Oper.uponIn_defer,d2]
 show Code.wpIn (fen none) 0 P c2 _ _ w1
 refine wpIn_wide.2 ?_
 have hdf' : (a'.put (some t) (Value.func (.func fc) #[] cvs.toArray)).defers = [] := by
  show a'.defers = []
  rw [R'.defers.eq hmk,hdf]
 generalize hD : ({ target:=.fn (.func fc) cvs.toArray,args:=#[] } : Deferred) = dd
 have hrest:=hrest [dd]
 generalize hG2 : (⟨G.g,_,[dd],none,fun _ _ _=>False⟩ : Glob) = G2 at hrest
 have R2 : Rel G2 E1 w1 (stOf (pre.length + 1048576) fn.ntmps ((t, .func (.func fc) [] (ptrs ks)) :: l) o)
   { (a'.put (some t) (Value.func (.func fc) #[] cvs.toArray)) with defers:=[dd] }:=by
  refine ⟨R1.core.congr (by rw [← hG2]),R1.n,fun q=>?_,Dfs.of_eq (by rw [← hG2]) (by rw [← hG2])⟩
  have:=R1.slots q
  rw [hcaps] at this
  exact this
 have gg : Guar pre.length E w.heap (sto pre) E1 w1.heap (mkσ o):=gg.trans (S1.guar.mono (by show pre.length ≤ pre.length + 1048576; omega))
 have ss:=s.trans S1.ws
 have hc2:=(wpc_sound (P:=P) hT hmix c2 _ _ _ hrest).sem.sem (by show pre.length + 4096 ≤ pre.length + 1048576; omega) E1 _ w1 R2
 rw [hdf']
 refine wp_mono hc2 fun e a2 w2 hp=>?_
 -- the door
 have hcv2 : ∀ {E2 : Env} {h2 : Heap} {σ2 : Store}, Guar (pre.length + 4096) E1 w1.heap (mkσ o) E2 h2 σ2 → VRs E2 h2 σ2 (ptrs ks) cvs := by
  intro E2 h2 σ2 gd
  refine ⟨hcv.1,fun i a1 b1=>?_⟩
  have h3:=hcv.2 i a1 b1
  simp only [ptrs,List.getElem_map] at h3 ⊢
  exact gd.ptr (hks _ (List.getElem_mem _)) h3
 have door : ∀ {E2 : Env} {st2 : St} {qo : Option D} {ov : Option Value}, pre.length + 4096 ≤ st2.nx → Rel G2 E2 w2 st2 a2 → Thrown E2 w2.heap st2.σ qo ov → Guar (pre.length + 4096) E1 w1.heap (mkσ o) E2 w2.heap st2.σ → WSame w1 w2 →
   Door P G fc (ptrs ks) qo st2.σ (fun σ'=>resK T ⟨st2.ρ,σ',pre.length + 1048576,fn.ntmps⟩ fn.results.toList (FinS pre.length post d σ')) →
   Leaves P fn a2.tmps (RetOk G pre post d E w) a2.defers (modeOf ov) w2:=by
  intro E2 st2 qo ov hnx R3 ht3 g3 s3 hdoor
  unfold Door at hdoor
  obtain ⟨ups,ok,hres⟩:=hdoor
  have hdd : a2.defers = [dd]:=by rw [R3.defers.eq (by rw [← hG2]),← hG2]
  rw [hdd,← hD]
  have R4 : Rel G E2 w2 st2 { a2 with defers:=[] }:=⟨R3.core.congr (by rw [← hG2]),R3.n,R3.slots,Dfs.of_eq hmk hdf.symm⟩
  refine leaves_cons (f:=fc) (args:=cvs.toArray) (by cases ov <;> simp [modeOf]) ?_ ?_
  ·simp only [invoke]
   have:=run_callFunc ok.fn (#[] ++ cvs.toArray) w2
   simpa using this
  ·refine CallsD.mono (ok.sem E2 w2 st2 _ cvs ov R4 (hcv2 g3) ht3 rfl) fun e u' w3 ⟨⟨rv, hrv⟩, hset, E3, S3⟩ => ?_
   subst hrv
   show Leaves P fn a2.tmps _ [] (settle u') w3
   rw [hset]
   replace hres : resK T ⟨st2.ρ,updAll st2.σ ups,pre.length + 1048576,fn.ntmps⟩ fn.results.toList (FinS pre.length post d (updAll st2.σ ups)):=hres
   unfold resK at hres
   split at hres
   case h_2=>exact hres.elim
   rename_i ds hds
   rw [forceL_eq] at hres
   rw [resDs_eq (st:=⟨st2.ρ,updAll st2.σ ups,pre.length + 1048576,fn.ntmps⟩) (st':={ st2 with σ:=updAll st2.σ ups }) rfl rfl] at hds
   obtain ⟨v,hr,hv'⟩:=results_sound hT S3.rel hds
   have g4:=gg.trans (g3.mono (by omega))
   have g5:=g4.trans (S3.guar.mono (by omega))
   obtain ⟨E4,o1',o2',o3'⟩:=FinS.out hres S3.rel.core hv' g5
   exact ⟨v,hr,E4,v,rfl,o1',o2',o3',ss.trans (s3.trans S3.ws)⟩
 rcases hp with ⟨E2,st2,⟨l2,ob2,rfl,q⟩,hm2,R3,g3,s3⟩|⟨q,v,E2,st2,rfl,hq,hv2,hm2,R3,g3,s3⟩
 ·cases e with
  | normal=>exact door (qo:=none) (ov:=none) hm2 R3 trivial g3 s3 q
  | ret=>exact door (qo:=none) (ov:=none) hm2 R3 trivial g3 s3 q
  | _=>exact q.elim
 ·refine door (qo := some q) (ov := some v) hm2 R3 hv2 g3 s3 ?_
  rw [← hG2] at hq
  exact hq
end Go.AL

namespace Go.AL
open Go
variable {P : Program} {T : Tab} {G : Glob}
def rvT : ResultVar → Nat
 | .tmp t=>t
 | .cell a _=>a
def rvOut (W : List Nat) : List ResultVar → Bool
 | []=>true
 | r :: rs=>match memN (rvT r) W with|true=>false|false=>rvOut W rs
theorem resD_slot {ρ ρ' : Nat → D} {σ : Store} {a b : Nat} {r : ResultVar} (h : ρ' (rvT r) = ρ (rvT r)) : resD T ⟨ρ', σ, a, b⟩ r = resD T ⟨ρ, σ, a, b⟩ r := by
 cases r <;> simp only [rvT] at h <;> simp only [resD,h]
theorem resDs_slot {W : List Nat} {ρ ρ' : Nat → D} {σ : Store} {a b : Nat} (h : ∀ t, memN t W = false → ρ' t = ρ t) : ∀ {rs : List ResultVar}, rvOut W rs = true →
  resDs T ⟨ρ',σ,a,b⟩ rs = resDs T ⟨ρ,σ,a,b⟩ rs
 | [],_=>rfl
 | r :: rs, hr => by
  unfold rvOut at hr
  split at hr
  ·simp at hr
  ·rename_i hm
   simp only [resDs,resD_slot (h _ hm),resDs_slot h hr]
theorem Door.vk {fc : FuncId} {ks : List D} {q : Option D} {σ : Store} {W : List Nat} {ρ : Nat → D} {a b : Nat} {rs : List ResultVar} {F : Store → D → Prop}
  (h : Door P G fc ks q σ (fun σ'=>resK T ⟨ρ,σ',a,b⟩ rs (F σ'))) (hr : rvOut W rs = true) :
  ∀ ρ',(∀ t,memN t W = false → ρ' t = ρ t) → Door P G fc ks q σ (fun σ'=>resK T ⟨ρ',σ',a,b⟩ rs (F σ')):=by
 intro ρ' hρ
 unfold Door at h ⊢
 obtain ⟨ups,h1,h2⟩:=h
 refine ⟨ups,h1,?_⟩
 unfold resK at h2 ⊢
 simp only [] at h2 ⊢
 rw [resDs_slot hρ hr]
 exact h2
def liveL (m : Nat) (σ σ' : Store) : So → Prop
 | []=>True
 | (k,_) :: r=>(match Nat.blt k m with|true=>(match σ' k with|.dead=>σ k = .dead|_=>True)|false=>True) ∧ liveL m σ σ' r
theorem liveL_at {m : Nat} {σ σ' : Store} : ∀ {o : So} {k : Nat}, liveL m σ σ' o → k < m → mkσ o k ≠ .dead → (match σ' k with | .dead => σ k = .dead | _ => True)
 | [],k,_,_,h=>absurd rfl h
 | (q, x) :: r, k, ⟨h1, h2⟩, hk, h => by
  by_cases e : k = q
  ·subst e
   have : Nat.blt k m = true:=by simpa [Nat.blt_eq] using hk
   rw [this] at h1
   exact h1
  ·refine liveL_at h2 hk fun h3 => h ?_
   have : Nat.beq k q = false := by
    cases hb : Nat.beq k q with
    | false=>rfl
    | true=>exact absurd (Nat.eq_of_beq_eq_true hb) e
   simp only [mkσ,this]
   exact h3
theorem liveTo_of {σ σ' : Store} : ∀ {m : Nat}, (∀ k, k < m → (match σ' k with | .dead => σ k = .dead | _ => True)) → liveTo m σ σ'
 | 0,_=>trivial
 | m + 1,h=>⟨h m (by omega),liveTo_of fun k hk=>h k (by omega)⟩
theorem liveTo_fast {m : Nat} {o : So} {σ' : Store} (h : liveL m (mkσ o) σ' o) : liveTo m (mkσ o) σ' := by
 refine liveTo_of fun k hk=>?_
 by_cases e : mkσ o k = .dead
 ·cases σ' k <;> first|exact e|exact trivial
 ·exact liveL_at h hk e
end Go.AL

namespace Go.AL
open Go Go.RowKit
theorem rih {H : Type} {enc : TypeId × Value → H} {a : Assume} {C : Checked} {os : Os} {f : FuncId} {fn : Func} {s : ChangeSpec} {conds : List PathCond} {apart fresh handsOn again : Bool} {X : World → Array Value → Prop}
  (hX : ∀ (w w' : World) (args : Array Value),w.heap = w'.heap → X w args → X w' args)
  (own : ownKnob C.prog.godebug = none) (started : os.Started) (noInit : C.prog.inits.idxOf? f = none) (hfn : C.prog.funcs[f]? = some fn)
  (witness : ∃ (w : World) (tape : Tape) (i : Input), w.os = os ∧ (w.forCall tape i).Shaped C.prog ∧ i.vars = [] ∧ Input.okWide C.prog (w.forCall tape i) .any w.heap.size f i ∧
   ((s.pre enc C.prog fn conds apart (w.forCall tape i).memory i.args ∧ X (w.forCall tape i).memory i.args) ∧ sizedMet enc C.prog fn (OpenSpec.ofChange s) apart (w.forCall tape i).memory i.args) ∧ a.holds C.prog (lone (Frame.enter C.prog f i.args .normal) [] (w.forCall tape i)))
  (contract : ∀ (W : World) (base : Nat) (args : Array Value) (ds gs : List (DataW H)) (before : List MemPlace), W.ShapedOpen C.prog →
   (∀ (j : Nat) t v,fn.params[j]? = some t → args[j]? = some v → Value.okWide C.prog W .any base t v) →
   DataW.Whole enc C.prog fn.params.toList s.vars apart W args.toList ds gs before →
   (DataW.weightsEach C.prog (fn.params.toList ++ s.plain.varTypes C.prog) (ds ++ gs)).all (· ≤ reachBytes) = true → X W args →
   Calls C.prog f args W fun e W'=>∃ v,e = .returned v ∧ s.post enc C.prog fn apart fresh handsOn again W args v W') :
  ReturnsInHanded a C os f .any (fun w args=>(s.pre enc C.prog fn conds apart w args ∧ X w args) ∧ sizedMet enc C.prog fn (OpenSpec.ofChange s) apart w args) (s.post enc C.prog fn apart fresh handsOn again):=by
 refine returnsInHanded_of_calls own started noInit witness ?_
 intro w tape i _ hsh _ hok hpre hholds
 obtain ⟨_,_,_,fn',hfn',_,_,_,_,hval⟩:=hok
 have e : fn' = fn:=Option.some.inj (hfn'.symm.trans hfn)
 subst e
 obtain ⟨⟨⟨ds,gs,before,hw,hc⟩,hx⟩,hz⟩:=hpre
 have hw':=DataW.Whole.of_heap (w':=w.forCall tape i) (by rfl) hw
 refine (contract (w.forCall tape i) w.heap.size i.args ds gs before hsh hval hw' (hz.weights hw) (hX _ _ _ (by rfl) hx)).mono fun e W' ⟨v,he,hp⟩=>?_
 subst he
 exact ChangeSpec.post_blind hp
theorem glob_block {P : Program} {w : World} {g : Nat} {t : TypeId} {zero : Array Value}
  (h : w.ShapedOpen P) (hg : g < P.globals.size) (h0 : ((begin P (fun _ _=>0) default).world.heap[g]?).bind Obj.row? = some (zero,t)) : ∃ us e f,w.heap[g]? = some (.cells us e f) ∧ us.size = zero.size:=by
 obtain ⟨cs,hh,hs,hr⟩:=h.1 g zero t hg h0
 exact ⟨cs,_,_,hh,hs⟩
end Go.AL

namespace Go.AL
open Go Go.RowKit
theorem trod_strs {H : Type} {enc : TypeId × Value → H} {P : Program} {w : World} {base fuel : Nat} {spare : Nat → Bool} {held : Bool} {t e : TypeId} {cs : List Value} {ss : List Str} {ps : List MemPlace}
  (hu : P.underlying t = some (.slice e)) (hse : P.underlying e = some .string) (hc : P.cellsOf e = 1) (hl : ss.length ≤ 1000) (hn : 0 < ss.length)
  (h : DataW.trod enc P w base spare held fuel t cs = some (.slice (ss.map fun s=>.lit (.string s)) [],ps)) : VRs (env0 w.heap) w.heap (sto []) [LS ss] cs:=by
 rcases DataW.trod_slice hu h with ⟨_,hx⟩|⟨a,len,cap,elems,rest,m,rfl,rfl,hx,_,hlc,hcm,hel,hrd,_,_⟩
 ·simp at hx
 ·injection hx with hx _
  injection hx with hx _
  have hlen : ss.length = len:=by have:=congrArg List.length hx; simp at this; omega
  have key1 : ∀ i (hi : i < ss.length), w.cells? base (a.add (i * P.cellsOf e)) (P.cellsOf e) = some [.string (sB ss[i])] := by
   intro i hi
   have h1:=hrd i (by omega)
   have h2 : elems[i]? = some (elems[i]'(by omega)):=by simp
   cases hq : w.cells? base (a.add (i * P.cellsOf e)) (P.cellsOf e) with
   | none=>rw [hq,h2] at h1; simp at h1
   | some cs =>
    rw [hq,h2] at h1
    simp only [Option.bind_some] at h1
    obtain ⟨s,rfl,e1,_⟩:=DataW.trod_string hse h1
    have h3 : (ss.map fun s=>(DataW.lit (.string s) : DataW H))[i]'(by simpa using hi) = (elems.map (·.1))[i]'(by simp; omega):=by simp only [hx]
    simp only [List.getElem_map,e1] at h3
    injection h3 with h3
    injection h3 with h3
    rw [h3]
  have hspot : a.spot = none := by
   obtain ⟨e1,e2⟩:=cells?_spec (key1 0 hn)
   have:=e2 0 (by simp)
   unfold World.cell? at this
   have h3 : (a.add (0 * P.cellsOf e)).add 0 = a:=by simp [Addr.add]
   rw [h3] at this
   split at this
   ·split at this
    ·simp at this
    ·rename_i hs; simpa using hs
   ·simp at this
  refine VRs_cons.2 ⟨?_,VRs_nil.2 rfl⟩
  have key : VR (env0 w.heap) w.heap (sto []) (.list .any (ss.map eS)) (.slice (some a) (ss.map eS).length cap) := by
   refine .list .any _ (some a) cap 1 (fun i j=>.string (sB (ss.getD i []))) (by simp; omega) (by simp; omega) (fun i hi=>by simp) (by simp) (fun a' ha'=>?_) (fun i j hi hj=>?_) (fun i j hi hj=>?_) (by simp)
   ·simp at ha'; subst ha'
    refine ⟨fun _=>hspot,fun i j hi hj=>?_⟩
    have hi' : i < ss.length:=by simpa using hi
    obtain ⟨e1,e2⟩:=cells?_spec (key1 i hi')
    have hj0 : j = 0:=by omega
    subst hj0
    have h3:=e2 0 (by simp)
    obtain ⟨ab,ao,asp⟩:=a
    simp only at hspot
    subst hspot
    rw [hc,add_none,add_none,cell?_eq] at h3
    refine ⟨by show Own.frz _ = true; rw [VR.fz0 h3]; rfl,?_⟩
    rw [h3]
    simp [List.getD,hi']
   ·have hi' : i < ss.length := by simpa using hi
    have hj0 : j = 0:=by simp at hj; exact hj
    subst hj0
    simp [List.getD,hi']
    exact .v _
   ·have hj0 : j = 0 := by simp at hj; exact hj
    subst hj0
    simp; rfl
  rw [show (ss.map eS).length = len by simpa using hlen] at key
  exact key
theorem strs_mem {P : Program} {W : World} {name : String} {ss : List Str} {g : Nat} {t e : TypeId}
  (hg : P.globalNamed name = some g) (hty : (P.globals[g]?).map (·.type) = some t) (hu : P.underlying t = some (.slice e)) (hse : P.underlying e = some .string) (hc : P.cellsOf e = 1) (hl : ss.length ≤ 1000) (hn : 0 < ss.length) :
  ∀ {laid : List (String × DataW Unit)} {ps : List MemPlace},DataW.LaidVars P W laid ps → (name,.slice (ss.map fun s=>.lit (.string s)) []) ∈ laid → ∃ cs,W.var? P name = some cs ∧ VRs (env0 W.heap) W.heap (sto []) [LS ss] cs.toList
 | [],ps,h,hm=>by simp at hm
 | (nm, d) :: r, ps, h, hm => by
  obtain ⟨g',t',cs,fuel,p,q,hg',ht',hvar,hd,hr,_⟩:=h
  rcases List.mem_cons.1 hm with e1|e1
  ·injection e1 with e2 e3
   subst e2
   subst e3
   obtain rfl:=Option.some.inj (hg.symm.trans hg')
   obtain rfl:=Option.some.inj (hty.symm.trans ht')
   exact ⟨cs,hvar,trod_strs hu hse hc hl hn hd⟩
  ·exact strs_mem hg hty hu hse hc hl hn hr e1
theorem glob_strs {P : Program} {G : Glob} {W : World} {name : String} {ss : List Str} {g : Nat} (hg : P.globalNamed name = some g) (h : ∃ cs, W.var? P name = some cs ∧ VRs (env0 W.heap) W.heap (sto []) [LS ss] cs.toList) (hG : G g = [LS ss]) :
  (∀ j (hj : j < (G g).length),∃ u,cellH W.heap g j = some u ∧ VR (env0 W.heap) W.heap (sto []) ((G g)[j]) u ∧ ((G g)[j]).idf = true) ∧ (G g = [] ∨ ∃ us e f,W.heap[g]? = some (.cells us e f) ∧ us.size = (G g).length):=by
 rw [hG]
 obtain ⟨cs,h1,h2⟩:=h
 unfold World.var? at h1
 rw [hg] at h1
 simp only [Option.bind_some] at h1
 split at h1
 case h_2=>simp at h1
 rename_i cs' e f hc
 injection h1 with h1
 subst h1
 have hl : cs'.toList.length = 1:=h2.1.symm ▸ rfl
 have hl' : cs'.size = 1:=by simpa using hl
 refine ⟨fun j hj=>?_,.inr ⟨cs',e,f,hc,by simp [hl']⟩⟩
 have hj0 : j = 0:=by simp at hj; exact hj
 subst hj0
 have:=h2.2 0 (by simp) (by omega)
 refine ⟨cs'.toList[0]'(by omega),?_,this,?_⟩
 ·unfold cellH
  rw [hc]
  simp [hl']
 ·simp [D.idf]
end Go.AL
