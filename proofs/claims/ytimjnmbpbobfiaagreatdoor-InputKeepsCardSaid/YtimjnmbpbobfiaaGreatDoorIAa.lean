/- AL1: abstract values,abstract objects,and their relation to the model's memory. No condition. -/
import Derived.Calls
import Derived.Orders
import Derived.Laws.Sem
import Derived.Laws.Cells
import Derived.Laws.Append
import Derived.OrdersIn
import Derived.Laws.Strings
import Derived.IntWalk
import Derived.Laws.MakeOwn
import Derived.Laws.StructEq
import Derived.Laws.BytesString
set_option linter.unusedVariables false
set_option linter.unusedSimpArgs false
namespace Go.AL
open Go

inductive Tg where
 | any
 | nat
 | al
 | tok (k : Nat)

inductive ScK where
 | int (k : IntKind)
 | str
 | bool

def ScK.ok (q : ScK) (x : Value) : Prop :=
 match q with
 | .int k=>∃ n,x = .int k n
 | .str=>∃ s,x = .string s
 | .bool=>∃ b,x = .bool b

inductive D where
 | v (x : Value)
 | nil
 | list (t : Tg) (xs : List (List D))
 | slist (xs : List (List D))
 | sro (cs : List D)
 | sq (q : ScK)
 | sl (k g off n : Nat)
 | raw (k : Nat) (n : Nat)
 | ptr (k : Nat) (o : Nat)
 | ro (cs : List D)
 | ep (k g s i o : Nat)
 | map (k : Nat)
 | func (fn : Fn) (first captured : List D)
 | iface (t : TypeId) (x : D)
 | agg (cs : List D)
 | tuple (cs : List D)
 | junk

inductive Own where
 | ext
 | fz
 | fa
 | sc (q : ScK)
 | ob (k : Nat)

def Own.frz : Own → Bool
 | .fz=>true
 | .fa=>true
 | _=>false

def Tg.ow : Tg → Own → Prop
 | .any,o=>o.frz = true
 | .al,o=>o = .fa
 | _,o=>o = .fz

def Tg.ren (r : Nat → Option Nat) : Tg → Tg
 | .tok k=>(match r k with|some k'=>.tok k'|none=>.nat)
 | t=>t

def Tg.str : Tg → Tg
 | .tok _=>.nat
 | t=>t

theorem Tg.ow_frz {t : Tg} {o : Own} (h : t.ow o) : o.frz = true := by
 cases t <;> simp only [Tg.ow] at h <;> first|exact h|(rw [h]; rfl)
theorem Tg.ow_ren {t : Tg} {o : Own} (r) (h : t.ow o) : (t.ren r).ow o := by
 cases t with
 | tok k=>simp only [Tg.ren]; split <;> exact h
 | _=>exact h
theorem Tg.ow_str {t : Tg} {o : Own} (h : t.ow o) : t.str.ow o:=by cases t <;> exact h
theorem Tg.ow_any {t : Tg} {o : Own} (h : t.ow o) : Tg.any.ow o:=Tg.ow_frz h

structure Env where
 own : Nat → Nat → Own
 φ : Nat → Nat
 hdr : Nat → Option Addr × Nat

abbrev Heap:=Array Obj

def cellH (h : Heap) (b o : Nat) : Option Value :=
 match h[b]? with
 | some (.cells c _ _)=>c[o]?
 | _=>none

def Fz (n : Nat) (f : Nat × Nat) : Prop:=f.1 = f.2 ∨ n ≤ f.1
def FzT (n : Nat) (f f' : Nat × Nat) : Prop:=f' = f ∨ (Fz n f ∧ n ≤ f'.1)
theorem FzT.refl (n : Nat) (f : Nat × Nat) : FzT n f f:=.inl rfl
theorem FzT.trans {n : Nat} {f g k : Nat × Nat} (a : FzT n f g) (b : FzT n g k) : FzT n f k := by
 rcases a with rfl|⟨a1,a2⟩
 ·exact b
 ·rcases b with rfl | ⟨b1, b2⟩
  ·exact .inr ⟨a1,a2⟩
  ·exact .inr ⟨a1,b2⟩
theorem FzT.fz {n : Nat} {f g : Nat × Nat} (a : FzT n f g) (h : Fz n f) : Fz n g := by
 rcases a with rfl|⟨a1,a2⟩
 ·exact h
 ·exact .inr a2
theorem FzT.free {n : Nat} {f g : Nat × Nat} (a : FzT n f g) {o : Nat} (ho : o < n) (h : ¬ (f.1 ≤ o ∧ o < f.2)) : ¬ (g.1 ≤ o ∧ o < g.2) := by
 rcases a with rfl|⟨a1,a2⟩
 ·exact h
 ·omega
def Shp (h h' : Heap) : Prop:=∀ (b : Nat) (c : Array Value) (e : TypeId) (f : Nat × Nat),h[b]? = some (.cells c e f) → ∃ (c' : Array Value) (f' : Nat × Nat),h'[b]? = some (.cells c' e f') ∧ c'.size = c.size ∧ FzT c.size f f'
structure BFr (E1 : Env) (h1 : Heap) (k : Nat) (E2 : Env) (h2 : Heap) (k' : Nat) : Prop where
 φ : E2.φ k' = E1.φ k
 hdr : E2.hdr k' = E1.hdr k
 cell : ∀ b o,(E1.own b o).frz = true → E2.own b o = E1.own b o ∧ cellH h2 b o = cellH h1 b o
 sc : ∀ b o q,E1.own b o = .sc q → E2.own b o = .sc q
 own : ∀ b o,b < h1.size → E1.own b o = .ob k → E2.own b o = .ob k' ∧ cellH h2 b o = cellH h1 b o
 blk : ∀ b,b < h1.size → (∀ o,E1.own b o = .ob k) → h2[b]? = h1[b]?
 shp : Shp h1 h2
 sz : h1.size ≤ h2.size
structure Bag where
 R : Env → Heap → Nat → Prop
 st : ∀ {E1 h1 k E2 h2 k'},BFr E1 h1 k E2 h2 k' → R E1 h1 k → R E2 h2 k'
inductive AObj where
 | dead
 | cells (cs : List D)
 | tok (n s : Nat)
 | arr (g s : Nat) (xs : List (List D))
 | fra (g s : Nat) (xs : List (List D))
 | arx (g s : Nat) (xs : List (List D)) (hs : List (Nat × Nat × D))
 | map (es : List (Value × D))
 | bag (B : Bag)

abbrev Store:=Nat → AObj
theorem cell?_eq (w : World) (b o : Nat) : w.cell? ⟨b, o, none⟩ = cellH w.heap b o := by
 unfold World.cell? cellH
 simp only []
 split <;> simp_all

def D.idf : D → Bool
 | .v (.agg _)=>false
 | .v (.tuple _)=>false
 | .v _=>true
 | .nil=>true
 | .list (.tok _) _=>false
 | .list _ _=>true
 | .slist _=>true
 | .func _ [] []=>true
 | .iface _ (.v _)=>true
 | _=>false

def D.idfV : D → Bool
 | .agg cs=>cs.all D.idf
 | d=>d.idf

def tlen (σ : Store) (k : Nat) : Option Nat :=
 match σ k with
 | .tok n _=>some n
 | .arr g _ _=>some g
 | .fra g _ _=>some g
 | .arx g _ _ _=>some g
 | _=>none

def tstr (σ : Store) (k : Nat) : Option Nat :=
 match σ k with
 | .tok _ s=>some s
 | .arr _ s _=>some s
 | .fra _ s _=>some s
 | .arx _ s _ _=>some s
 | _=>none

def live (σ : Store) (k : Nat) : Prop:=σ k ≠ .dead

def SlH (H : Option Addr × Nat) (s off n : Nat) (A : Option Addr) (c : Nat) : Prop :=
 off + n ≤ H.2 ∧ c = H.2 - off ∧ (H.1 = none → A = none) ∧ ∀ a,H.1 = some a → ∃ j,j ≤ H.2 ∧ (off < H.2 → j = off) ∧ A = some ⟨a.block,a.off + j * s,none⟩

def D.isSq : D → Bool
 | .sq _=>true
 | _=>false
def SqR (E : Env) (h : Heap) (d : D) (b o : Nat) (u : Value) : Prop :=
 match d with
 | .sq q=>E.own b o = .sc q
 | _=>(E.own b o).frz = true ∧ cellH h b o = some u

inductive VR (E : Env) (h : Heap) (σ : Store) : D → Value → Prop where
 | v (x : Value) : VR E h σ (.v x) x
 | junk (x : Value) : VR E h σ .junk x
 | nil : VR E h σ .nil (.slice none 0 0)
 | ptr (k o : Nat) (hk : live σ k) : VR E h σ (.ptr k o) (.pointer (some ⟨E.φ k,o,none⟩))
 | map (k : Nat) (hk : live σ k) : VR E h σ (.map k) (.map (some (E.φ k)))
 | iface (t : TypeId) (d : D) (x : Value) (hx : VR E h σ d x) : VR E h σ (.iface t d) (.iface t x)
 | func (fn : Fn) (fs cs : List D) (us vs : List Value) (l1 : us.length = fs.length) (l2 : vs.length = cs.length)
   (h1 : ∀ i (a : i < fs.length) (b : i < us.length),VR E h σ fs[i] us[i])
   (h2 : ∀ i (a : i < cs.length) (b : i < vs.length),VR E h σ cs[i] vs[i]) : VR E h σ (.func fn fs cs) (.func fn us.toArray vs.toArray)
 | agg (cs : List D) (us : List Value) (l : us.length = cs.length)
   (h1 : ∀ i (a : i < cs.length) (b : i < us.length),VR E h σ cs[i] us[i]) : VR E h σ (.agg cs) (.agg us.toArray)
 | tuple (cs : List D) (us : List Value) (l : us.length = cs.length)
   (h1 : ∀ i (a : i < cs.length) (b : i < us.length),VR E h σ cs[i] us[i]) : VR E h σ (.tuple cs) (.tuple us.toArray)
 | ro (cs : List D) (b o : Nat) (u : Nat → Value)
   (hr : ∀ j,j < cs.length → (E.own b (o + j)).frz = true ∧ cellH h b (o + j) = some (u j))
   (hv : ∀ j (hj : j < cs.length),VR E h σ cs[j] (u j))
   (hf : ∀ j (hj : j < cs.length),cs[j].idf = true) : VR E h σ (.ro cs) (.pointer (some ⟨b,o,none⟩))
 | sq (q : ScK) (x : Value) (hq : q.ok x) : VR E h σ (.sq q) x
 | sro (cs : List D) (b o : Nat) (u : Nat → Value)
   (hr : ∀ j (hj : j < cs.length),SqR E h cs[j] b (o + j) (u j))
   (hv : ∀ j (hj : j < cs.length),VR E h σ cs[j] (u j))
   (hf : ∀ j (hj : j < cs.length),(cs[j].idf || cs[j].isSq) = true) : VR E h σ (.sro cs) (.pointer (some ⟨b,o,none⟩))
 | slist (xs : List (List D)) (A : Option Addr) (c s : Nat) (u : Nat → Nat → Value)
   (hc : xs.length ≤ c) (hb : xs.length ≤ 140737488355328) (hs : ∀ i (hi : i < xs.length),xs[i].length = s)
   (hn : A = none → xs = [] ∧ c = 0)
   (ha : ∀ a, A = some a → (xs ≠ [] → a.spot = none) ∧ ∀ i j (hi : i < xs.length) (hj : j < xs[i].length),
    SqR E h xs[i][j] a.block (a.off + i * s + j) (u i j))
   (hv : ∀ i j (hi : i < xs.length) (hj : j < xs[i].length),VR E h σ xs[i][j] (u i j))
   (hf : ∀ i j (hi : i < xs.length) (hj : j < xs[i].length),(xs[i][j].idf || xs[i][j].isSq) = true) :
   VR E h σ (.slist xs) (.slice A xs.length c)
 | list (t : Tg) (xs : List (List D)) (A : Option Addr) (c s : Nat) (u : Nat → Nat → Value)
   (hc : xs.length ≤ c) (hb : xs.length ≤ 140737488355328) (hs : ∀ i (hi : i < xs.length),xs[i].length = s)
   (hn : A = none → xs = [] ∧ c = 0)
   (ha : ∀ a, A = some a → (xs ≠ [] → a.spot = none) ∧ ∀ i j, i < xs.length → j < s →
    t.ow (E.own a.block (a.off + i * s + j)) ∧ cellH h a.block (a.off + i * s + j) = some (u i j))
   (hv : ∀ i j (hi : i < xs.length) (hj : j < xs[i].length),VR E h σ xs[i][j] (u i j))
   (hf : ∀ i j (hi : i < xs.length) (hj : j < xs[i].length),xs[i][j].idf = true)
   (ht : ∀ k, t = .tok k → live σ k ∧ (∀ m, tlen σ k = some m → xs.length ≤ m ∧ (xs.length = m → E.hdr k = (A, c))) ∧
    ∀ s0,tstr σ k = some s0 → ∀ i (hi : i < xs.length),xs[i].length = s0) :
   VR E h σ (.list t xs) (.slice A xs.length c)
 | sl (k g off n : Nat) (A : Option Addr) (c : Nat) (hk : live σ k)
   (ht : ∀ m s,tlen σ k = some m → tstr σ k = some s → g ≤ m ∧ (g = m → SlH (E.hdr k) s off n A c)) : VR E h σ (.sl k g off n) (.slice A n c)
 | raw (k n : Nat) (A : Option Addr) (c : Nat) (hk : live σ k) (ht : tlen σ k = some 0 → E.hdr k = (A,c) ∧ n ≤ c) : VR E h σ (.raw k n) (.slice A n c)
 | ep (k g s i o : Nat) (y : Value) (hk : live σ k)
   (ht : ∀ m,tlen σ k = some m → g ≤ m ∧ (g = m → ∃ a,(E.hdr k).1 = some a ∧ y = .pointer (some ⟨a.block,a.off + i * s + o,none⟩))) :
   VR E h σ (.ep k g s i o) y

def VRs (E : Env) (h : Heap) (σ : Store) (ds : List D) (us : List Value) : Prop :=
 us.length = ds.length ∧ ∀ i (a : i < ds.length) (b : i < us.length),VR E h σ ds[i] us[i]

mutual
def D.ren (r : Nat → Option Nat) : D → Option D
 | .v x=>some (.v x)
 | .junk=>some .junk
 | .nil=>some .nil
 | .list t xs=>some (.list (t.ren r) xs)
 | .slist xs=>some (.slist xs)
 | .sro cs=>some (.sro cs)
 | .sq q=>some (.sq q)
 | .sl k g off n=>match r k with|some k'=>some (.sl k' g off n)|none=>none
 | .raw k n=>match r k with|some k'=>some (.raw k' n)|none=>none
 | .ptr k o=>match r k with|some k'=>some (.ptr k' o)|none=>none
 | .ep k n s i o=>match r k with|some k'=>some (.ep k' n s i o)|none=>none
 | .map k=>match r k with|some k'=>some (.map k')|none=>none
 | .ro cs=>some (.ro cs)
 | .iface t d=>match D.ren r d with|some d'=>some (.iface t d')|none=>none
 | .func fn fs cs => match D.renL r fs with
  | some fs'=>match D.renL r cs with
   | some cs'=>some (.func fn fs' cs')
   | none=>none
  | none=>none
 | .agg cs=>match D.renL r cs with|some cs'=>some (.agg cs')|none=>none
 | .tuple cs=>match D.renL r cs with|some cs'=>some (.tuple cs')|none=>none
def D.renL (r : Nat → Option Nat) : List D → Option (List D)
 | []=>some []
 | d :: ds => match D.ren r d with
  | some d'=>match D.renL r ds with
   | some ds'=>some (d' :: ds')
   | none=>none
  | none=>none
end

theorem D.renL_spec {r : Nat → Option Nat} : ∀ {ds ds' : List D}, D.renL r ds = some ds' →
  ds'.length = ds.length ∧ ∀ i (a : i < ds.length) (b : i < ds'.length),D.ren r ds[i] = some ds'[i]
 | [],ds',h=>by simp [D.renL] at h; subst h; simp
 | d :: ds, ds', h => by
  cases hd : D.ren r d with
  | none=>simp [D.renL,hd] at h
  | some d1 =>
   cases hds : D.renL r ds with
   | none=>simp [D.renL,hd,hds] at h
   | some ds2 =>
    simp [D.renL,hd,hds] at h
    obtain ⟨hl,hi⟩:=D.renL_spec hds
    subst h
    refine ⟨by simp [hl],fun i a b=>?_⟩
    cases i with
    | zero=>simpa using hd
    | succ i=>exact hi i (by simpa using a) (by simpa using b)

theorem D.idf_ren_some (r : Nat → Option Nat) {d : D} (hd : d.idf = true) : D.ren r d = some d := by
 cases d with
 | list t xs=>cases t <;> simp [D.idf,D.ren,Tg.ren] at hd ⊢
 | slist xs=>simp [D.ren]
 | func fn fs cs=>cases fs <;> cases cs <;> simp [D.idf,D.ren,D.renL] at hd ⊢
 | iface t x=>cases x <;> simp [D.idf,D.ren] at hd ⊢
 | v x=>simp [D.ren]
 | nil=>simp [D.ren]
 | _=>simp [D.idf] at hd

theorem D.sq_ren_some (r : Nat → Option Nat) {d : D} (hd : (d.idf || d.isSq) = true) : D.ren r d = some d := by
 cases d with
 | sq q=>simp [D.ren]
 | _=>exact D.idf_ren_some r (by simpa [D.isSq] using hd)

structure CMap (r : Nat → Option Nat) (E1 : Env) (h1 : Heap) (σ1 : Store) (E2 : Env) (h2 : Heap) (σ2 : Store) : Prop where
 cell : ∀ b o,(E1.own b o).frz = true → E2.own b o = E1.own b o ∧ cellH h2 b o = cellH h1 b o
 sc : ∀ b o q,E1.own b o = .sc q → E2.own b o = .sc q
 id : ∀ k k', live σ1 k → r k = some k' → live σ2 k' ∧ E2.φ k' = E1.φ k ∧
  (∀ m',tlen σ2 k' = some m' → ∃ m,tlen σ1 k = some m ∧ m ≤ m' ∧ (m = m' → E2.hdr k' = E1.hdr k)) ∧
  ∀ s',tstr σ2 k' = some s' → tstr σ1 k = some s'

theorem SqR.map {r E1 h1 σ1 E2 h2 σ2} (M : CMap r E1 h1 σ1 E2 h2 σ2) {d : D} {b o : Nat} {u : Value} (H : SqR E1 h1 d b o u) : SqR E2 h2 d b o u := by
 cases d with
 | sq q=>exact M.sc _ _ _ H
 | _=>exact ⟨by rw [(M.cell _ _ H.1).1]; exact H.1,(M.cell _ _ H.1).2.trans H.2⟩

theorem VR.map' {r : Nat → Option Nat} {E1 E2 : Env} {h1 h2 : Heap} {σ1 σ2 : Store} (M : CMap r E1 h1 σ1 E2 h2 σ2)
  {d : D} {x : Value} (hx : VR E1 h1 σ1 d x) : ∀ {d' : D},D.ren r d = some d' → VR E2 h2 σ2 d' x:=by
 induction hx with
 | v x=>intro d' h; simp [D.ren] at h; subst h; exact .v x
 | junk x=>intro d' h; simp [D.ren] at h; subst h; exact .junk x
 | nil=>intro d' h; simp [D.ren] at h; subst h; exact .nil
 | ptr k o hk =>
  intro d' h
  simp only [D.ren] at h
  split at h
  ·rename_i k' hr
   simp at h; subst h
   obtain ⟨l,e,_⟩:=M.id k k' hk hr
   rw [← e]; exact .ptr k' o l
  ·simp at h
 | map k hk =>
  intro d' h
  simp only [D.ren] at h
  split at h
  ·rename_i k' hr
   simp at h; subst h
   obtain ⟨l,e,_⟩:=M.id k k' hk hr
   rw [← e]; exact .map k' l
  ·simp at h
 | iface t d x hx ih =>
  intro d' h
  simp only [D.ren] at h
  split at h
  ·rename_i d2 hr
   simp at h; subst h
   exact .iface t d2 x (ih hr)
  ·simp at h
 | func fn fs cs us vs l1 l2 a1 a2 ih1 ih2 =>
  intro d' h
  simp only [D.ren] at h
  split at h
  ·rename_i fs' hf
   split at h
   ·rename_i cs' hc
    simp at h; subst h
    obtain ⟨e1,s1⟩:=D.renL_spec hf
    obtain ⟨e2,s2⟩:=D.renL_spec hc
    exact .func fn fs' cs' us vs (by omega) (by omega) (fun i a b => ih1 i (by omega) b (s1 i (by omega) a))
     (fun i a b=>ih2 i (by omega) b (s2 i (by omega) a))
   ·simp at h
  ·simp at h
 | agg cs us l a1 ih =>
  intro d' h
  simp only [D.ren] at h
  split at h
  ·rename_i cs' hc
   simp at h; subst h
   obtain ⟨e1,s1⟩:=D.renL_spec hc
   exact .agg cs' us (by omega) (fun i a b=>ih i (by omega) b (s1 i (by omega) a))
  ·simp at h
 | tuple cs us l a1 ih =>
  intro d' h
  simp only [D.ren] at h
  split at h
  ·rename_i cs' hc
   simp at h; subst h
   obtain ⟨e1,s1⟩:=D.renL_spec hc
   exact .tuple cs' us (by omega) (fun i a b=>ih i (by omega) b (s1 i (by omega) a))
  ·simp at h
 | ro cs b o u hr hv hf ih =>
  intro d' h
  simp [D.ren] at h; subst h
  refine .ro cs b o u (fun j hj=>?_) (fun j hj=>ih j hj (D.idf_ren_some r (hf j hj))) hf
  obtain ⟨a1,a2⟩:=hr j hj
  obtain ⟨b1,b2⟩:=M.cell _ _ a1
  exact ⟨by rw [b1]; exact a1,b2.trans a2⟩
 | sq q x hq=>intro d' h; simp [D.ren] at h; subst h; exact .sq q x hq
 | sro cs b o u hr hv hf ih =>
  intro d' h
  simp [D.ren] at h; subst h
  exact .sro cs b o u (fun j hj=>(hr j hj).map M) (fun j hj=>ih j hj (D.sq_ren_some r (hf j hj))) hf
 | slist xs A c s u hc hb hs hn ha hv hf ih =>
  intro d' h
  simp [D.ren] at h; subst h
  refine .slist xs A c s u hc hb hs hn (fun a e=>?_) (fun i j hi hj=>ih i j hi hj (D.sq_ren_some r (hf i j hi hj))) hf
  obtain ⟨sp,hh⟩:=ha a e
  exact ⟨sp,fun i j hi hj=>(hh i j hi hj).map M⟩
 | list t xs A c s u hc hb hs hn ha hv hf ht ih =>
  intro d' h
  simp [D.ren] at h; subst h
  refine .list _ xs A c s u hc hb hs hn (fun a e=>?_) (fun i j hi hj=>ih i j hi hj (D.idf_ren_some r (hf i j hi hj))) hf (fun k e=>?_)
  ·obtain ⟨sp, hh⟩ := ha a e
   refine ⟨sp,fun i j hi hj=>?_⟩
   obtain ⟨a1,a2⟩:=hh i j hi hj
   obtain ⟨b1,b2⟩:=M.cell _ _ (Tg.ow_frz a1)
   exact ⟨by rw [b1]; exact Tg.ow_ren r a1,b2.trans a2⟩
  ·cases t with
   | any=>simp [Tg.ren] at e
   | nat=>simp [Tg.ren] at e
   | al=>simp [Tg.ren] at e
   | tok k0 =>
    simp only [Tg.ren] at e
    split at e
    case h_2=>simp at e
    rename_i k1 hk1
    simp at e
    subst e
    obtain ⟨l0,t0,z0⟩:=ht k0 rfl
    obtain ⟨l,_,q,z⟩:=M.id k0 k1 l0 hk1
    refine ⟨l,fun m' hm'=>?_,fun s' hs'=>z0 s' (z s' hs')⟩
    obtain ⟨m,hm,le,hh⟩:=q m' hm'
    obtain ⟨u1,u2⟩:=t0 m hm
    refine ⟨by omega,fun he=>?_⟩
    rw [hh (by omega)]; exact u2 (by omega)
 | sl k g off n A c hk ht =>
  intro d' h
  simp only [D.ren] at h
  split at h
  ·rename_i k' hr
   simp at h; subst h
   obtain ⟨l,e,q,z⟩:=M.id k k' hk hr
   refine .sl k' g off n A c l (fun m' s' hm' hs'=>?_)
   obtain ⟨m,hm,le,hh⟩:=q m' hm'
   obtain ⟨u1,u2⟩:=ht m s' hm (z s' hs')
   refine ⟨by omega,fun he=>?_⟩
   rw [hh (by omega)]; exact u2 (by omega)
  ·simp at h
 | raw k n A c hk ht =>
  intro d' h
  simp only [D.ren] at h
  split at h
  ·rename_i k' hr
   simp at h; subst h
   obtain ⟨l,e,q,_⟩:=M.id k k' hk hr
   refine .raw k' n A c l (fun hm'=>?_)
   obtain ⟨m,hm,le,hh⟩:=q 0 hm'
   have : m = 0:=by omega
   subst this
   rw [hh rfl]; exact ht hm
  ·simp at h
 | ep k n s i o y hk ht =>
  intro d' h
  simp only [D.ren] at h
  split at h
  ·rename_i k' hr
   simp at h; subst h
   obtain ⟨l,e,q,_⟩:=M.id k k' hk hr
   refine .ep k' n s i o y l (fun m' hm'=>?_)
   obtain ⟨m,hm,le,hh⟩:=q m' hm'
   obtain ⟨u1,u2⟩:=ht m hm
   refine ⟨by omega,fun he=>?_⟩
   rw [hh (by omega)]; exact u2 (by omega)
  ·simp at h

mutual
theorem D.ren_id : ∀ (d : D), D.ren some d = some d
 | .v x=>rfl
 | .junk=>rfl
 | .nil=>rfl
 | .list t xs=>by cases t <;> rfl
 | .slist xs=>rfl
 | .sro cs=>rfl
 | .sq q=>rfl
 | .sl k g off n=>rfl
 | .raw k n=>rfl
 | .ptr k o=>rfl
 | .ep k n s i o=>rfl
 | .map k=>rfl
 | .ro cs=>rfl
 | .iface t d=>by simp [D.ren,D.ren_id d]
 | .func fn fs cs=>by simp [D.ren,D.renL_id fs,D.renL_id cs]
 | .agg cs=>by simp [D.ren,D.renL_id cs]
 | .tuple cs=>by simp [D.ren,D.renL_id cs]
theorem D.renL_id : ∀ (ds : List D), D.renL some ds = some ds
 | []=>rfl
 | d :: ds=>by simp [D.renL,D.ren_id d,D.renL_id ds]
end

theorem VR.keep {E1 E2 : Env} {h1 h2 : Heap} {σ1 σ2 : Store} (M : CMap some E1 h1 σ1 E2 h2 σ2)
  {d : D} {x : Value} (hx : VR E1 h1 σ1 d x) : VR E2 h2 σ2 d x:=hx.map' M (D.ren_id d)

theorem VRs.keep {E1 E2 : Env} {h1 h2 : Heap} {σ1 σ2 : Store} (M : CMap some E1 h1 σ1 E2 h2 σ2)
  {d : List D} {x : List Value} (hx : VRs E1 h1 σ1 d x) : VRs E2 h2 σ2 d x :=
 ⟨hx.1,fun i a b=>(hx.2 i a b).keep M⟩

theorem VRs.map' {r : Nat → Option Nat} {E1 E2 : Env} {h1 h2 : Heap} {σ1 σ2 : Store} (M : CMap r E1 h1 σ1 E2 h2 σ2)
  {d d' : List D} {x : List Value} (hx : VRs E1 h1 σ1 d x) (hr : D.renL r d = some d') : VRs E2 h2 σ2 d' x:=by
 obtain ⟨e,s⟩:=D.renL_spec hr
 exact ⟨by rw [hx.1,e],fun i a b=>(hx.2 i (by omega) b).map' M (s i (by omega) a)⟩

structure Wk (d d' : D) : Prop where
 sem : ∀ E h σ x,VR E h σ d x → VR E h σ d' x

theorem Wk.refl (d : D) : Wk d d:=⟨fun _ _ _ _ h=>h⟩
theorem Wk.of_eq {d d' : D} (h : d = d') : Wk d d':=h ▸ Wk.refl d
theorem Wk.junk (d : D) : Wk d .junk:=⟨fun _ _ _ _ _=>.junk _⟩
theorem Wk.listG {t t' : Tg} (xs : List (List D)) (hw : ∀ o, t.ow o → t'.ow o) (hk : ∀ k, t' ≠ .tok k) : Wk (.list t xs) (.list t' xs) := by
 refine ⟨?_⟩
 intro E h σ x hx
 cases hx with
 | list _ _ A c s u hc hb hs hn ha hv hf ht=>exact .list t' xs A c s u hc hb hs hn (fun a e=>⟨(ha a e).1,fun i j hi hj=>⟨hw _ ((ha a e).2 i j hi hj).1,((ha a e).2 i j hi hj).2⟩⟩) hv hf (fun k e=>absurd e (hk k))
theorem Wk.list (t : Tg) (xs : List (List D)) : Wk (.list t xs) (.list .any xs):=Wk.listG xs (fun o h=>Tg.ow_any h) (fun k e=>by simp at e)
theorem Wk.lstr (t : Tg) (xs : List (List D)) : Wk (.list t xs) (.list t.str xs):=Wk.listG xs (fun o h=>Tg.ow_str h) (fun k e=>by cases t <;> simp [Tg.str] at e)
theorem Wk.nilG (t : Tg) (hk : ∀ k, t ≠ .tok k) : Wk .nil (.list t []) := by
 refine ⟨?_⟩
 intro E h σ x hx
 cases hx
 exact .list t [] none 0 0 (fun _ _=>undef) (by simp) (by simp) (by simp) (by simp) (by simp) (by simp) (by simp) (fun k e=>absurd e (hk k))
theorem Wk.nat' {xs ys : List (List D)} (h : xs = ys) : Wk (.list .nat xs) (.list .nat ys):=h ▸ Wk.refl _
theorem Wk.natN {ys : List (List D)} (h : [] = ys) : Wk .nil (.list .nat ys):=h ▸ Wk.nilG .nat (fun k e=>by simp at e)
theorem Wk.nil : Wk .nil (.list .any []) := by
 refine ⟨?_⟩
 intro E h σ x hx
 cases hx
 exact .list .any [] none 0 0 (fun _ _=>undef) (by simp) (by simp) (by simp) (by simp) (by simp) (by simp) (by simp) (by simp)
theorem Wk.nil' {ys : List (List D)} (h : [] = ys) : Wk .nil (.list .any ys):=h ▸ Wk.nil

structure Wks (ds ds' : List D) : Prop where
 sem : ∀ E h σ xs,VRs E h σ ds xs → VRs E h σ ds' xs
theorem Wks.nil : Wks [] []:=⟨fun _ _ _ _ h=>h⟩
theorem VRs_cons {E h σ d ds x xs} : VRs E h σ (d :: ds) (x :: xs) ↔ VR E h σ d x ∧ VRs E h σ ds xs := by
 constructor
 ·intro ⟨l, f⟩
  exact ⟨f 0 (by simp) (by simp),by simpa using l,fun i a b=>f (i+1) (by simpa using a) (by simpa using b)⟩
 ·intro ⟨h1, l, f⟩
  refine ⟨by simp [l],fun i a b=>?_⟩
  cases i with
  | zero=>exact h1
  | succ i=>exact f i (by simpa using a) (by simpa using b)
theorem VRs_nil {E h σ xs} : VRs E h σ [] xs ↔ xs = [] := by
 constructor
 ·intro ⟨l,_⟩; simpa using l
 ·intro e; subst e; exact ⟨rfl,fun i a=>by simp at a⟩
theorem VRs_cons_inv {E h σ d ds xs} (hh : VRs E h σ (d :: ds) xs) : ∃ x r, xs = x :: r ∧ VR E h σ d x ∧ VRs E h σ ds r := by
 cases xs with
 | nil=>have:=hh.1; simp at this
 | cons x r=>exact ⟨x,r,rfl,VRs_cons.1 hh⟩
theorem Wks.cons {d d' : D} {ds ds' : List D} (h : Wk d d') (hs : Wks ds ds') : Wks (d :: ds) (d' :: ds') := by
 refine ⟨?_⟩
 intro E hh σ xs hx
 obtain ⟨x,r,rfl,h1,h2⟩:=VRs_cons_inv hx
 exact VRs_cons.2 ⟨h.sem _ _ _ _ h1,hs.sem _ _ _ _ h2⟩
theorem Wk.agg {ds ds' : List D} (h : Wks ds ds') : Wk (.agg ds) (.agg ds') := by
 refine ⟨?_⟩
 intro E hh σ x hx
 cases hx with
 | agg _ us l a=>obtain ⟨l',a'⟩:=h.sem E hh σ us ⟨l,a⟩; exact .agg ds' us l' a'
theorem Wk.tuple {ds ds' : List D} (h : Wks ds ds') : Wk (.tuple ds) (.tuple ds') := by
 refine ⟨?_⟩
 intro E hh σ x hx
 cases hx with
 | tuple _ us l a=>obtain ⟨l',a'⟩:=h.sem E hh σ us ⟨l,a⟩; exact .tuple ds' us l' a'

def D.frz1 : D → D
 | .list t xs=>.list t.str xs
 | d=>d
theorem Wk.frz1 (d : D) : Wk d d.frz1 := by
 cases d <;> simp only [D.frz1] <;> first|exact Wk.refl _|exact Wk.lstr _ _
theorem Wks.frz1 : ∀ (ds : List D), Wks ds (ds.map D.frz1)
 | []=>Wks.nil
 | d :: ds=>Wks.cons (Wk.frz1 d) (Wks.frz1 ds)
def forceD {α : Sort _} (d : D) (k : D → α) : α :=
 match d with
 | .v x=>k (.v x)
 | .nil=>k .nil
 | .list t xs=>k (.list t xs)
 | .slist xs=>k (.slist xs)
 | .sro cs=>k (.sro cs)
 | .sq q=>k (.sq q)
 | .sl a b c d=>k (.sl a b c d)
 | .raw a b=>k (.raw a b)
 | .ptr a b=>k (.ptr a b)
 | .ro cs=>k (.ro cs)
 | .ep a b c d e=>k (.ep a b c d e)
 | .map a=>k (.map a)
 | .func a b c=>k (.func a b c)
 | .iface t x=>k (.iface t x)
 | .agg cs=>k (.agg cs)
 | .tuple cs=>k (.tuple cs)
 | .junk=>k .junk
theorem forceD_eq {α : Sort _} (d : D) (k : D → α) : forceD d k = k d:=by cases d <;> rfl
noncomputable def forceL {α : Sort _} (ds : List D) : (List D → α) → α :=
 List.rec (motive:=fun _=>(List D → α) → α) (fun k=>k []) (fun d _ ih k=>forceD d fun d=>ih fun ds=>k (d :: ds)) ds
theorem forceL_eq {α : Sort _} : ∀ (ds : List D) (k : List D → α), forceL ds k = k ds
 | [],k=>rfl
 | d :: ds,k=>by
  show forceD d (fun d=>forceL ds fun ds=>k (d :: ds)) = _
  rw [forceD_eq,forceL_eq ds]

end Go.AL

namespace Go.AL
open Go

def D.one : D → Bool
 | .v (.agg _)=>false
 | .v (.tuple _)=>false
 | .v _=>true
 | .agg _=>false
 | .tuple _=>false
 | .junk=>false
 | .ep _ _ _ _ _=>false
 | _=>true

theorem VR.one {E h σ d x} (hx : VR E h σ d x) (hd : d.one = true) : x.oneCell' = true := by
 cases hx with
 | v x=>cases x <;> simp_all [D.one,Value.oneCell']
 | sq q x hq=>cases q <;> cases x <;> simp_all [ScK.ok,Value.oneCell']
 | _=>simp_all [D.one,Value.oneCell']

theorem D.one_of_idf {d : D} (h : d.idf = true) : d.one = true := by
 cases d with
 | v x=>cases x <;> simp_all [D.idf,D.one]
 | list t xs=>rfl
 | slist xs=>rfl
 | _=>simp_all [D.idf,D.one]

theorem VRs.one {E h σ ds xs} (hx : VRs E h σ ds xs) (hd : ds.all D.one = true) : ∀ x ∈ xs, x.oneCell' = true := by
 intro x hm
 obtain ⟨i,hi,e⟩:=List.getElem_of_mem hm
 subst e
 have hi' : i < ds.length:=by rw [← hx.1]; exact hi
 exact (hx.2 i hi' hi).one (List.all_eq_true.1 hd _ (List.getElem_mem hi'))

def Stp (ents : Array MapEntry) (clk : Nat) : Prop :=
 (∀ x ∈ ents.toList,x.born < clk) ∧ (ents.toList.map (·.born)).Nodup ∧ (ents.toList.map (·.key)).Nodup
def Tail (E : Env) (h : Heap) (k n s : Nat) : Prop :=
 n ≤ (E.hdr k).2 ∧ ((E.hdr k).1 = none → (E.hdr k).2 = 0) ∧ ∀ a, (E.hdr k).1 = some a → a.spot = none ∧
  ∃ us e f,h[a.block]? = some (.cells us e f) ∧ (a.off + (E.hdr k).2 * s ≤ us.size ∧ Fz us.size f ∧ E.own a.block us.size = .ob k) ∧
   ∀ o,a.off + n * s ≤ o → o < a.off + (E.hdr k).2 * s → E.own a.block o = .ob k ∧ ¬ (f.1 ≤ o ∧ o < f.2)

def Cont (E : Env) (h : Heap) (σ : Store) (k s : Nat) (xs : List (List D)) : Prop :=
 (∀ i (hi : i < xs.length),xs[i].length = s ∧ ∀ j (hj : j < xs[i].length),xs[i][j].idf = true ∧ xs[i][j].one = true) ∧
 ((E.hdr k).1 = none → xs = []) ∧
 ∀ a,(E.hdr k).1 = some a → ∀ i j (hi : i < xs.length) (hj : j < xs[i].length),∃ u,cellH h a.block (a.off + i * s + j) = some u ∧ VR E h σ xs[i][j] u

def FrC (E : Env) (h : Heap) (σ : Store) (k s : Nat) (xs : List (List D)) : Prop :=
 (∀ i (hi : i < xs.length),xs[i].length = s ∧ ∀ j (hj : j < xs[i].length),xs[i][j].idf = true ∧ xs[i][j].one = true) ∧
 ((E.hdr k).1 = none → xs = [] ∧ (E.hdr k).2 = 0) ∧
 ∀ a,(E.hdr k).1 = some a → a.spot = none ∧ ∀ i j (hi : i < xs.length) (hj : j < xs[i].length),(E.own a.block (a.off + i * s + j)).frz = true ∧ ∃ u,cellH h a.block (a.off + i * s + j) = some u ∧ VR E h σ xs[i][j] u

def ContX (E : Env) (h : Heap) (σ : Store) (k s : Nat) (xs : List (List D)) (hs : List (Nat × Nat × D)) : Prop :=
 (∀ i (hi : i < xs.length),xs[i].length = s) ∧ ((E.hdr k).1 = none → xs = []) ∧ (∀ p ∈ hs,p.1 < xs.length ∧ p.2.1 < s ∧ p.2.2.one = true) ∧
 ∀ a,(E.hdr k).1 = some a → (∀ i j (hi : i < xs.length) (hj : j < xs[i].length),(∃ d,(i,j,d) ∈ hs) ∨ (xs[i][j].idf = true ∧ ∃ u,cellH h a.block (a.off + i * s + j) = some u ∧ VR E h σ xs[i][j] u)) ∧
  ∀ p ∈ hs,∃ u,cellH h a.block (a.off + p.1 * s + p.2.1) = some u ∧ VR E h σ p.2.2 u
theorem ContX.map {E h σ k s xs hs E' h' σ' k' hs'} (C : ContX E h σ k s xs hs) (hh : E'.hdr k' = E.hdr k) (hx : xs.length ≤ (E.hdr k).2)
  (hc : ∀ a,(E.hdr k).1 = some a → ∀ q,q < (E.hdr k).2 * s → ∀ u,cellH h a.block (a.off + q) = some u → cellH h' a.block (a.off + q) = some u)
  (hi : ∀ d u,d.idf = true → VR E h σ d u → VR E' h' σ' d u)
  (h1 : ∀ p' ∈ hs',∃ p ∈ hs,p'.1 = p.1 ∧ p'.2.1 = p.2.1 ∧ (p.2.2.one = true → p'.2.2.one = true) ∧ ∀ u,VR E h σ p.2.2 u → VR E' h' σ' p'.2.2 u)
  (h2 : ∀ i j d,(i,j,d) ∈ hs → ∃ d',(i,j,d') ∈ hs') : ContX E' h' σ' k' s xs hs':=by
 obtain ⟨c1,c2,c3,c4⟩:=C
 have lt : ∀ i j, i < xs.length → j < s → i * s + j < (E.hdr k).2 * s := by
  intro i j hi hj
  have : (i + 1) * s ≤ (E.hdr k).2 * s:=Nat.mul_le_mul_right _ (by omega)
  rw [Nat.add_mul,Nat.one_mul] at this; omega
 refine ⟨c1,by rw [hh]; exact c2,fun p' hp=>?_,fun a ha=>?_⟩
 ·obtain ⟨p, m, e1, e2, e3, _⟩ := h1 p' hp
  obtain ⟨f1,f2,f3⟩:=c3 p m
  exact ⟨by omega,by omega,e3 f3⟩
 ·rw [hh] at ha
  obtain ⟨d1,d2⟩:=c4 a ha
  refine ⟨fun i j hi' hj=>?_,fun p' hp=>?_⟩
  ·rcases d1 i j hi' hj with ⟨d, hd⟩ | ⟨f1, u, f2, f3⟩
   ·exact .inl (h2 i j d hd)
   ·refine .inr ⟨f1, u, ?_, hi _ _ f1 f3⟩
    have:=hc a ha (i * s + j) (lt i j hi' (by rw [← c1 i hi']; exact hj)) u (by rw [← Nat.add_assoc]; exact f2)
    rwa [← Nat.add_assoc] at this
  ·obtain ⟨p, m, e1, e2, _, e4⟩ := h1 p' hp
   obtain ⟨f1,f2,_⟩:=c3 p m
   obtain ⟨u,hu,hv⟩:=d2 p m
   refine ⟨u,?_,e4 u hv⟩
   rw [e1,e2]
   have:=hc a ha (p.1 * s + p.2.1) (lt _ _ f1 f2) u (by rw [← Nat.add_assoc]; exact hu)
   rwa [← Nat.add_assoc] at this

def OR (E : Env) (h : Heap) (σ : Store) (k : Nat) : AObj → Prop
 | .dead=>True
 | .cells cs=>∃ us e,h[E.φ k]? = some (.cells us e (0,0)) ∧ VRs E h σ cs us.toList ∧ ∀ o,E.own (E.φ k) o = .ob k
 | .map es => ∃ ents clk, h[E.φ k]? = some (.map ents clk) ∧ (ents.size = es.length ∧ Stp ents clk) ∧
   (∀ i (a : i < es.length) (b : i < ents.size),ents[i].key = es[i].1 ∧ VR E h σ es[i].2 ents[i].val ∧ es[i].2.idfV = true) ∧ ∀ o,E.own (E.φ k) o = .ob k
 | .tok n s=>0 < s ∧ Tail E h k n s
 | .arr g s xs=>0 < s ∧ xs.length ≤ (E.hdr k).2 ∧ Tail E h k 0 s ∧ Cont E h σ k s xs
 | .fra g s xs=>0 < s ∧ xs.length ≤ (E.hdr k).2 ∧ FrC E h σ k s xs
 | .arx g s xs hs=>0 < s ∧ xs.length ≤ (E.hdr k).2 ∧ Tail E h k 0 s ∧ ContX E h σ k s xs hs
 | .bag B=>B.R E h k

def up {α : Type} (f : Nat → α) (k : Nat) (x : α) : Nat → α:=fun j=>match Nat.beq j k with|true=>x|false=>f j
theorem up_self {α : Type} (f : Nat → α) (k : Nat) (x : α) : up f k x k = x:=by simp [up]
theorem up_ne {α : Type} (f : Nat → α) {k j : Nat} (x : α) (h : j ≠ k) : up f k x j = f j := by
 have this : Nat.beq j k = false := by
  cases e : Nat.beq j k with
  | false=>rfl
  | true=>exact absurd (Nat.eq_of_beq_eq_true e) h
 simp [up,this]
theorem up_apply {α : Type} (f : Nat → α) (k j : Nat) (x : α) : up f k x j = if j = k then x else f j := by
 by_cases h : j = k
 ·subst h; simp [up_self]
 ·simp [up_ne f x h,h]

def Free (h : Heap) (b o : Nat) : Prop:=∃ us e f,h[b]? = some (.cells us e f) ∧ (o < us.size → ¬ (f.1 ≤ o ∧ o < f.2))
structure HStep (k0 : Nat) (E : Env) (h : Heap) (σ : Store) (E' : Env) (h' : Heap) (ob : AObj) : Prop where
 sz : h.size ≤ h'.size
 lab : ∀ b o,b < h.size → E.own b o ≠ .ob k0 → E'.own b o = E.own b o ∧ ((∀ q,E.own b o ≠ .sc q) → cellH h' b o = cellH h b o)
 sc : ∀ b o q,E'.own b o = .sc q → E.own b o = .sc q ∧ (cellH h' b o = cellH h b o ∨ ∃ u,cellH h' b o = some u ∧ q.ok u)
 nf : ∀ b o,E'.own b o = .fz → E.own b o = .fz ∨ Free h' b o
 bnd : ∀ b o,E'.own b o ≠ .ext → b < h'.size
 shp : Shp h h'
 blk : ∀ b,b < h.size → (∀ o,E.own b o ≠ .ob k0 ∧ ∀ q,E.own b o ≠ .sc q) → h'[b]? = h[b]?
 ids : ∀ k,k ≠ k0 → E'.φ k = E.φ k ∧ E'.hdr k = E.hdr k
 idk : live σ k0 → ob ≠ .dead ∧ E'.φ k0 = E.φ k0 ∧ (∀ m', tlen (up σ k0 ob) k0 = some m' → ∃ m, tlen σ k0 = some m ∧ m ≤ m' ∧ (m = m' → E'.hdr k0 = E.hdr k0)) ∧
  ∀ s',tstr (up σ k0 ob) k0 = some s' → tstr σ k0 = some s'

theorem Free.mono {h h' : Heap} {b o : Nat} (shp : Shp h h')
  (H : Free h b o) : Free h' b o:=by
 obtain ⟨us,e,f,h1,h2⟩:=H
 obtain ⟨c',f',h3,h4,h5⟩:=shp _ _ _ _ h1
 exact ⟨c',e,f',h3,fun ho=>h5.free (by omega) (h2 (by omega))⟩

structure Glob where
 g : Nat → List D
 pk : D → (Nat → D) → Store → Prop:=fun _ _ _=>False
 df : List Deferred:=[]
 mks : Option Nat:=none
 vk : D → (Nat → D) → Store → Prop:=fun _ _ _=>False
instance : CoeFun Glob (fun _=>Nat → List D):=⟨Glob.g⟩

theorem Shp.refl (h : Heap) : Shp h h:=fun b c e f hb=>⟨c,f,hb,rfl,.refl _ _⟩
def GV (G : Glob) (E : Env) (h : Heap) (σ : Store) (g : Nat) : Prop :=
 VR E h σ (.ro (G g)) (.pointer (some ⟨g,0,none⟩)) ∧ (G g = [] ∨ ∃ us e f,h[g]? = some (.cells us e f) ∧ us.size = (G g).length)
theorem GV.map' {G : Glob} {r E h σ E' h' σ' g} (H : GV G E h σ g) (M : CMap r E h σ E' h' σ') (s : Shp h h') : GV G E' h' σ' g :=
 ⟨H.1.map' M rfl, H.2.imp id fun ⟨us, e, f, h1, h2⟩ => by
  obtain ⟨c',f',h3,h4,_⟩:=s _ _ _ _ h1
  exact ⟨c',e,f',h3,h4.trans h2⟩⟩
structure Core (G : Glob) (E : Env) (h : Heap) (σ : Store) (nx : Nat) : Prop where
 objs : ∀ k,OR E h σ k (σ k)
 bnd : ∀ b o,E.own b o ≠ .ext → b < h.size
 sc : ∀ b o q,E.own b o = .sc q → Free h b o ∧ ∃ u,cellH h b o = some u ∧ q.ok u
 nf : ∀ b o,E.own b o = .fz → Free h b o
 dead : ∀ k,nx ≤ k → σ k = .dead
 glob : ∀ g,GV G E h σ g

theorem live_up_ne {σ : Store} {k k0 ob} (h : k ≠ k0) : live (up σ k0 ob) k ↔ live σ k:=by simp [live,up_ne σ ob h]
theorem tlen_up_ne {σ : Store} {k k0 ob} (h : k ≠ k0) : tlen (up σ k0 ob) k = tlen σ k:=by simp [tlen,up_ne σ ob h]

theorem tstr_up_ne {σ : Store} {k k0 ob} (h : k ≠ k0) : tstr (up σ k0 ob) k = tstr σ k:=by simp [tstr,up_ne σ ob h]

theorem Own.frz_sc {x : Own} (h : x.frz = true) (q : ScK) : x ≠ .sc q:=fun e=>by subst e; simp [Own.frz] at h
theorem Own.frz_ob {x : Own} (h : x.frz = true) (k : Nat) : x ≠ .ob k:=fun e=>by subst e; simp [Own.frz] at h
theorem Own.frz_ext {x : Own} (h : x.frz = true) : x ≠ .ext:=fun e=>by subst e; simp [Own.frz] at h

theorem HStep.cmap {k0 E h σ E' h' ob} (S : HStep k0 E h σ E' h' ob) (bnd : ∀ b o, E.own b o ≠ .ext → b < h.size) :
  CMap some E h σ E' h' (up σ k0 ob) where
 cell b o hf := by
  have hb : b < h.size:=bnd b o (Own.frz_ext hf)
  obtain ⟨a,c⟩:=S.lab b o hb (Own.frz_ob hf _)
  exact ⟨a,c (Own.frz_sc hf)⟩
 sc b o q hq := by
  have hb : b < h.size:=bnd b o (by simp [hq])
  exact (S.lab b o hb (by simp [hq])).1.trans hq
 id k k' hl e := by
  simp at e; subst e
  by_cases hk : k = k0
  ·subst hk
   obtain ⟨a,b,c⟩:=S.idk hl
   exact ⟨by simpa [live,up_self] using a,b,c⟩
  ·obtain ⟨a, b⟩ := S.ids k hk
   refine ⟨(live_up_ne hk).2 hl,a,fun m' hm'=>⟨m',?_,Nat.le_refl _,fun _=>b⟩,fun s' hs'=>by rwa [tstr_up_ne hk] at hs'⟩
   rwa [tlen_up_ne hk] at hm'

theorem Tail.step {k0 E h σ E' h' ob k n s} (S : HStep k0 E h σ E' h' ob) (hk : k ≠ k0) (T : Tail E h k n s) : Tail E' h' k n s := by
 obtain ⟨a1,a2,a3⟩:=T
 obtain ⟨e1,e2⟩:=S.ids k hk
 rw [Tail,e2]
 refine ⟨a1,a2,fun a ha=>?_⟩
 obtain ⟨sp,us,e,f,hb,hs,ho⟩:=a3 a ha
 obtain ⟨c',f',hc',hsz,hft⟩:=S.shp _ _ _ _ hb
 have hlt : a.block < h.size := by
  rcases Nat.lt_or_ge a.block h.size with hx|hx
  ·exact hx
  ·simp [Array.getElem?_eq_none hx] at hb
 refine ⟨sp,c',e,f',hc',⟨by omega,by rw [hsz]; exact hft.fz hs.2.1,?_⟩,fun o h1 h2=>?_⟩
 ·rw [hsz]; exact (S.lab a.block _ hlt (by rw [hs.2.2]; simp; exact hk)).1.trans hs.2.2
 obtain ⟨q1,q2⟩:=ho o h1 h2
 obtain ⟨r1,r2⟩:=S.lab a.block o hlt (by rw [q1]; simp; exact hk)
 exact ⟨r1.trans q1,hft.free (by omega) q2⟩

theorem lt_of_get {h : Heap} {b : Nat} {x : Obj} (hb : h[b]? = some x) : b < h.size := by
 rcases Nat.lt_or_ge b h.size with hx|hx
 ·exact hx
 ·simp [Array.getElem?_eq_none hx] at hb

theorem FrC.step {E h σ E' h' σ' k s xs} (M : CMap some E h σ E' h' σ') (e : E'.hdr k = E.hdr k) (H : FrC E h σ k s xs) : FrC E' h' σ' k s xs := by
 obtain ⟨h1,h2,h3⟩:=H
 refine ⟨h1,by rw [e]; exact h2,fun a ha=>?_⟩
 rw [e] at ha
 obtain ⟨sp,hc⟩:=h3 a ha
 refine ⟨sp,fun i j hi hj=>?_⟩
 obtain ⟨q,u,hu,hv⟩:=hc i j hi hj
 obtain ⟨q',hq⟩:=M.cell _ _ q
 exact ⟨by rw [q']; exact q,u,hq.trans hu,hv.keep M⟩

theorem OR.step {k0 E h σ E' h' ob k} (S : HStep k0 E h σ E' h' ob) (bnd : ∀ b o, E.own b o ≠ .ext → b < h.size) (hk : k ≠ k0) {x : AObj}
  (H : OR E h σ k x) : OR E' h' (up σ k0 ob) k x:=by
 have M:=S.cmap bnd
 obtain ⟨e1,e2⟩:=S.ids k hk
 cases x with
 | dead=>trivial
 | cells cs =>
  obtain ⟨us,e,hb,hv,ho⟩:=H
  have hlt:=lt_of_get hb
  refine ⟨us,e,by rw [e1,S.blk _ hlt (fun o=>by rw [ho o]; exact ⟨by simpa using hk,fun q=>by simp⟩)]; exact hb,hv.keep M,fun o=>?_⟩
  rw [e1,(S.lab _ o hlt (by rw [ho o]; simpa using hk)).1]; exact ho o
 | map es =>
  obtain ⟨ents,clk,hb,hl,hv,ho⟩:=H
  have hlt:=lt_of_get hb
  refine ⟨ents,clk,by rw [e1,S.blk _ hlt (fun o=>by rw [ho o]; exact ⟨by simpa using hk,fun q=>by simp⟩)]; exact hb,hl,fun i a b=>?_,fun o=>?_⟩
  ·obtain ⟨p, q, r⟩ := hv i a b
   exact ⟨p,q.keep M,r⟩
  ·rw [e1,(S.lab _ o hlt (by rw [ho o]; simpa using hk)).1]; exact ho o
 | tok n s=>exact ⟨H.1,H.2.step S hk⟩
 | arr g s xs =>
  obtain ⟨h0,h1,h2,h3,h4,h5⟩:=H
  refine ⟨h0,by rw [e2]; exact h1,h2.step S hk,h3,by rw [e2]; exact h4,fun a ha i j hi hj=>?_⟩
  rw [e2] at ha
  obtain ⟨u,hu,hv⟩:=h5 a ha i j hi hj
  obtain ⟨sp,us,e,f,hb,hs,ho⟩:=h2.2.2 a ha
  have hlt:=lt_of_get hb
  have hoff : a.off + i * s + j < a.off + (E.hdr k).2 * s := by
   have hj' : j < s:=by rw [(h3 i hi).1] at hj; exact hj
   have : i + 1 ≤ (E.hdr k).2:=by omega
   have:=Nat.mul_le_mul_right s this
   rw [Nat.add_mul] at this; omega
  have q1:=(ho (a.off + i * s + j) (by omega) hoff).1
  refine ⟨u,?_,hv.keep M⟩
  rw [(S.lab a.block _ hlt (by rw [q1]; simpa using hk)).2 (by rw [q1]; simp)]; exact hu
 | fra g s xs =>
  obtain ⟨h0,h1,h2⟩:=H
  exact ⟨h0,by rw [e2]; exact h1,h2.step M e2⟩
 | arx g s xs hs =>
  obtain ⟨h0,h1,h2,h3⟩:=H
  refine ⟨h0,by rw [e2]; exact h1,h2.step S hk,h3.map e2 h1 (fun a ha q hq u hu=>?_) (fun d u _ hv=>hv.keep M) (fun p hp=>⟨p,hp,rfl,rfl,id,fun u hv=>hv.keep M⟩) (fun i j d hd=>⟨d,hd⟩)⟩
  obtain ⟨sp,us,e,f,hb,hs',ho⟩:=h2.2.2 a ha
  have q1:=(ho (a.off + q) (by omega) (by omega)).1
  rw [(S.lab a.block _ (lt_of_get hb) (by rw [q1]; simpa using hk)).2 (by rw [q1]; simp)]; exact hu
 | bag B =>
  exact B.st ⟨e1, e2, M.cell, M.sc, fun b o hb ho => by
   obtain ⟨a,c⟩:=S.lab b o hb (by rw [ho]; simpa using hk)
   exact ⟨a.trans ho,c (fun q=>by rw [ho]; simp)⟩,fun b hb ho=>S.blk b hb (fun o=>by rw [ho o]; exact ⟨by simpa using hk,fun q=>by simp⟩),S.shp,S.sz⟩ H

theorem Core.step {G k0 E h σ E' h' ob nx nx'} (C : Core G E h σ nx) (S : HStep k0 E h σ E' h' ob) (hk : OR E' h' (up σ k0 ob) k0 ob)
  (hn : nx ≤ nx') (h0 : k0 < nx') : Core G E' h' (up σ k0 ob) nx' where
 objs k := by
  by_cases e : k = k0
  ·subst e; rw [up_self]; exact hk
  ·rw [up_ne _ _ e]; exact (C.objs k).step S C.bnd e
 bnd:=S.bnd
 sc b o q hq := by
  obtain ⟨h1,h2⟩:=S.sc b o q hq
  obtain ⟨h3,h4⟩:=C.sc b o q h1
  refine ⟨h3.mono S.shp,?_⟩
  rcases h2 with h2|h2
  ·rw [h2]; exact h4
  ·exact h2
 nf b o hq := by
  rcases S.nf b o hq with h1|h1
  ·exact (C.nf b o h1).mono S.shp
  ·exact h1
 dead k hh:=by rw [up_ne _ _ (by omega)]; exact C.dead k (by omega)
 glob g:=(C.glob g).map' (S.cmap C.bnd) S.shp

structure Guar (m : Nat) (E : Env) (h : Heap) (σ : Store) (E' : Env) (h' : Heap) (σ' : Store) : Prop where
 sz : h.size ≤ h'.size
 fz : ∀ b o,b < h.size → (E.own b o).frz = true → E'.own b o = E.own b o ∧ cellH h' b o = cellH h b o
 sc : ∀ b o q,b < h.size → E.own b o = .sc q → E'.own b o = .sc q
 sc' : ∀ b o q,b < h.size → E'.own b o = .sc q → E.own b o = .sc q
 ext : ∀ b o,b < h.size → E.own b o = .ext → E'.own b o = .ext ∧ cellH h' b o = cellH h b o
 shp : Shp h h'
 blk : ∀ b,b < h.size → (∀ o,E.own b o = .ext ∨ (E.own b o).frz = true) → h'[b]? = h[b]?
 ids : ∀ k, k < m → live σ k → live σ' k ∧ E'.φ k = E.φ k ∧
  (∀ m',tlen σ' k = some m' → ∃ m,tlen σ k = some m ∧ m ≤ m' ∧ (m = m' → E'.hdr k = E.hdr k)) ∧
  ∀ s',tstr σ' k = some s' → tstr σ k = some s'

theorem Guar.refl (m E h σ) : Guar m E h σ E h σ where
 sz:=Nat.le_refl _
 fz b o _ hf:=⟨rfl,rfl⟩
 sc b o q _ hf:=hf
 sc' b o q _ hf:=hf
 ext b o _ hf:=⟨hf,rfl⟩
 shp b c e f hb:=⟨c,f,hb,rfl,.refl _ _⟩
 blk b _ _:=rfl
 ids k _ hl:=⟨hl,rfl,fun m' hm=>⟨m',hm,Nat.le_refl _,fun _=>rfl⟩,fun _ h=>h⟩

theorem Guar.trans {m E h σ E1 h1 σ1 E2 h2 σ2} (A : Guar m E h σ E1 h1 σ1) (B : Guar m E1 h1 σ1 E2 h2 σ2) : Guar m E h σ E2 h2 σ2 where
 sz:=Nat.le_trans A.sz B.sz
 fz b o hb hf := by
  obtain ⟨a1,a2⟩:=A.fz b o hb hf
  obtain ⟨b1,b2⟩:=B.fz b o (Nat.lt_of_lt_of_le hb A.sz) (by rw [a1]; exact hf)
  exact ⟨b1.trans a1,b2.trans a2⟩
 sc b o q hb hf:=B.sc b o q (Nat.lt_of_lt_of_le hb A.sz) (A.sc b o q hb hf)
 sc' b o q hb hf:=A.sc' b o q hb (B.sc' b o q (Nat.lt_of_lt_of_le hb A.sz) hf)
 ext b o hb hf := by
  obtain ⟨a1,a2⟩:=A.ext b o hb hf
  obtain ⟨b1,b2⟩:=B.ext b o (Nat.lt_of_lt_of_le hb A.sz) a1
  exact ⟨b1,b2.trans a2⟩
 shp b c e f hb := by
  obtain ⟨c1,f1,h1,s1,t1⟩:=A.shp b c e f hb
  obtain ⟨c2,f2,h2,s2,t2⟩:=B.shp b c1 e f1 h1
  exact ⟨c2,f2,h2,s2.trans s1,t1.trans (by rw [← s1]; exact t2)⟩
 blk b hb ho := by
  rw [B.blk b (Nat.lt_of_lt_of_le hb A.sz) (fun o=>?_),A.blk b hb ho]
  rcases ho o with q|q
  ·exact .inl (A.ext b o hb q).1
  ·exact .inr (by rw [(A.fz b o hb q).1]; exact q)
 ids k hk hl := by
  obtain ⟨a1,a2,a3,a4⟩:=A.ids k hk hl
  obtain ⟨b1,b2,b3,b4⟩:=B.ids k hk a1
  refine ⟨b1,b2.trans a2,fun m2 hm2=>?_,fun s hs=>a4 s (b4 s hs)⟩
  obtain ⟨m1,hm1,l1,e1⟩:=b3 m2 hm2
  obtain ⟨m0,hm0,l0,e0⟩:=a3 m1 hm1
  exact ⟨m0,hm0,Nat.le_trans l0 l1,fun e=>(e1 (by omega)).trans (e0 (by omega))⟩

theorem Guar.mono {m m' E h σ E1 h1 σ1} (A : Guar m E h σ E1 h1 σ1) (hm : m' ≤ m) : Guar m' E h σ E1 h1 σ1 :=
 { A with ids:=fun k hk=>A.ids k (by omega) }

theorem HStep.guar {k0 E h σ E' h' ob m} (S : HStep k0 E h σ E' h' ob) : Guar m E h σ E' h' (up σ k0 ob) where
 sz:=S.sz
 fz b o hb hf := by
  obtain ⟨a,c⟩:=S.lab b o hb (Own.frz_ob hf _)
  exact ⟨a,c (Own.frz_sc hf)⟩
 sc b o q hb hf:=(S.lab b o hb (by simp [hf])).1.trans hf
 sc' b o q hb hf:=(S.sc b o q hf).1
 ext b o hb hf := by
  obtain ⟨a,c⟩:=S.lab b o hb (by simp [hf])
  exact ⟨a.trans hf,c (by simp [hf])⟩
 shp:=S.shp
 blk b hb ho := S.blk b hb fun o => by
  rcases ho o with q|q
  ·simp [q]
  ·exact ⟨Own.frz_ob q _,Own.frz_sc q⟩
 ids k hk hl := by
  by_cases e : k = k0
  ·subst e
   obtain ⟨a,b,c⟩:=S.idk hl
   exact ⟨by simpa [live,up_self] using a,b,c⟩
  ·obtain ⟨a, b⟩ := S.ids k e
   refine ⟨(live_up_ne e).2 hl,a,fun m' hm'=>⟨m',?_,Nat.le_refl _,fun _=>b⟩,fun s' hs'=>by rwa [tstr_up_ne e] at hs'⟩
   rwa [tlen_up_ne e] at hm'

abbrev markOf (D : Nat) : Deferred:={ target:=.collected D,args:=#[] }
def Dfs (G : Glob) (E : Env) (h : Heap) (ds : List Deferred) : Prop :=
 match G.mks with
 | none=>ds = G.df
 | some base=>base ≤ h.size ∧ ∃ Ds : List Nat,ds = Ds.map markOf ++ G.df ∧ Ds.Nodup ∧ ∀ D ∈ Ds,base ≤ D ∧ h[D]? = some (.deferred (some [])) ∧ ∀ o,E.own D o = .ext
theorem Dfs.of_eq {G : Glob} {E h ds} (hm : G.mks = none) (e : ds = G.df) : Dfs G E h ds := by
 unfold Dfs
 rw [hm]
 exact e
theorem Dfs.of_eqS {G : Glob} {E h ds base} (hm : G.mks = some base) (hb : base ≤ h.size) (e : ds = G.df) : Dfs G E h ds := by
 unfold Dfs
 rw [hm]
 exact ⟨hb,[],by simpa using e,List.nodup_nil,fun D hD=>by simp at hD⟩
theorem Dfs.eq {G : Glob} {E h ds} (hm : G.mks = none) (H : Dfs G E h ds) : ds = G.df := by
 unfold Dfs at H
 rw [hm] at H
 exact H
theorem Dfs.congr {G G' : Glob} {E h ds} (hd : G'.df = G.df) (hm : G'.mks = G.mks) (H : Dfs G E h ds) : Dfs G' E h ds := by
 unfold Dfs at *
 rw [hm,hd]; exact H
theorem Dfs.keep {G : Glob} {m E h σ E' h' σ' ds} (g : Guar m E h σ E' h' σ') (H : Dfs G E h ds) : Dfs G E' h' ds := by
 unfold Dfs at *
 split at H
 ·exact H
 ·obtain ⟨h0, Ds, h1, h2, h3⟩ := H
  refine ⟨Nat.le_trans h0 g.sz,Ds,h1,h2,fun D hD=>?_⟩
  obtain ⟨c,a,b⟩:=h3 D hD
  have hlt : D < h.size := by
   rcases Nat.lt_or_ge D h.size with hx|hx
   ·exact hx
   ·simp [Array.getElem?_eq_none hx] at a
  exact ⟨c,(g.blk D hlt (fun o=>.inl (b o))).trans a,fun o=>(g.ext D o hlt (b o)).1⟩
theorem Dfs.ext {G : Glob} {E E' h ds} (e : ∀ b o, E.own b o = .ext → E'.own b o = .ext) (H : Dfs G E h ds) : Dfs G E' h ds := by
 unfold Dfs at *
 split at H
 ·exact H
 ·obtain ⟨h0, Ds, h1, h2, h3⟩ := H
  exact ⟨h0,Ds,h1,h2,fun D hD=>⟨(h3 D hD).1,(h3 D hD).2.1,fun o=>e _ _ ((h3 D hD).2.2 o)⟩⟩

structure St where
 ρ : Nat → D
 σ : Store
 nx : Nat
 n : Nat

structure Rel (G : Glob) (E : Env) (w : World) (st : St) (a : Act) : Prop where
 core : Core G E w.heap st.σ st.nx
 n : a.tmps.size = st.n
 slots : ∀ t,VR E w.heap st.σ (st.ρ t) (a.tmps.getD t undef)
 defers : Dfs G E w.heap a.defers

structure TyI where
 d : TypeDesc
 size : Nat
 bytes : Nat
 zero : Option Value

abbrev Tab:=TypeId → Option TyI

def TOk (P : Program) (T : Tab) : Prop :=
 ∀ t i,T t = some i → P.underlying t = some i.d ∧ ∃ inf,P.info? t = some inf ∧ inf.size = i.size ∧ inf.bytes = i.bytes ∧ inf.zero = i.zero

section
variable {P : Program} {T : Tab} (hT : TOk P T) {t : TypeId} {i : TyI} (w : World)
include hT
theorem run_und (h : T t = some i) : (underlying t).run P w = .ok i.d w := by
 simp [underlying,(hT t i h).1]
theorem run_size (h : T t = some i) : (sizeOf t).run P w = .ok i.size w := by
 obtain ⟨_,inf,h1,h2,h3,h4⟩:=hT t i h
 simp [sizeOf,typeInfo,h1,h2]
theorem run_zero {z : Value} (h : T t = some i) (hz : i.zero = some z) : (zeroValue t).run P w = .ok z w := by
 obtain ⟨_,inf,h1,h2,h3,h4⟩:=hT t i h
 simp [zeroValue,typeInfo,h1,h4,hz]
def TyI.agg (i : TyI) : Bool:=match i.d with|.struct _=>true|.array _ _=>true|_=>false
theorem run_isAgg (h : T t = some i) : (isAgg t).run P w = .ok i.agg w := by
 simp only [isAgg,Sem.run_bind,run_und hT w h,Result.andThen_ok,TyI.agg]
 split <;> simp_all
end

def constD : Value → D
 | .slice none 0 0=>.nil
 | x=>.v x

theorem constD_vr (E h σ) (x : Value) : VR E h σ (constD x) x := by
 cases x with
 | slice a l c =>
  cases a with
  | none =>
   cases l with
   | zero =>
    cases c with
    | zero=>exact .nil
    | succ c=>exact .v _
   | succ l=>exact .v _
  | some a=>exact .v _
 | _=>exact .v _

def ev (G : Glob) (ρ : Nat → D) : Operand → D
 | .tmp t=>ρ t
 | .const x=>constD x
 | .global g=>.ro (G g)
 | .func f=>.func (.func f) [] []

theorem Rel.evl {G E w st a} (R : Rel G E w st a) (x : Operand) : VR E w.heap st.σ (ev G st.ρ x) (a.eval x) := by
 cases x with
 | tmp t=>exact R.slots t
 | const v=>exact constD_vr _ _ _ _
 | global g=>exact (R.core.glob g).1
 | func f=>exact VR.func _ [] [] [] [] rfl rfl (fun i a=>by simp at a) (fun i a=>by simp at a)

end Go.AL

namespace Go.AL
open Go

structure WSame (w w' : World) : Prop where
 os : w'.os = w.os
 tape : w'.tape = w.tape
 output : w'.output = w.output
theorem WSame.refl (w : World) : WSame w w:=⟨rfl,rfl,rfl⟩
theorem WSame.trans {a b c : World} (h : WSame a b) (k : WSame b c) : WSame a c:=⟨k.os.trans h.os,k.tape.trans h.tape,k.output.trans h.output⟩

def _root_.Go.Oper.wq (P : Program) (o : Oper) (a : Act) (w : World) (next : Act → World → Prop) (Q : Exit → Act → World → Prop) : Prop :=
 o.uponIn Fence.wide 0 P a next Q ((execOp a.eval o).run P w)
def fen (r : Option Nat) : Fence:={ Fence.wide with round:=r }

def updAll (σ : Store) : List (Nat × AObj) → Store
 | []=>σ
 | (k,o) :: r=>updAll (up σ k o) r

def keysOf (ups : List (Nat × AObj)) : List Nat:=ups.map (·.1)

structure StepTo (G : Glob) (E : Env) (w : World) (st : St) (a : Act) (E' : Env) (w' : World) (d : D) (v : Value) (ups : List (Nat × AObj)) : Prop where
 vr : VR E' w'.heap (updAll st.σ ups) d v
 rel : Rel G E' w' { st with σ:=updAll st.σ ups } a
 guar : Guar st.nx E w.heap st.σ E' w'.heap (updAll st.σ ups)
 ws : WSame w w'

def OpStep (P : Program) (G : Glob) (o : Oper) (ρ : Nat → D) (σ : Store) (id : Nat) (d : D) (ups : List (Nat × AObj)) (rds : List Nat) : Prop :=
 ∀ E a w st,Rel G E w st a → (∀ x ∈ o.op.operands,ev G st.ρ x = ev G ρ x) → (∀ k,k ∈ rds ∨ k ∈ keysOf ups → st.σ k = σ k) → id < st.nx →
  o.wq P a w (fun a' w'=>∃ E' v,a' = a.put o.dst v ∧ StepTo G E w st a E' w' d v ups) (fun _ _ _=>False)

theorem StepTo.same {G E w st a d v} (R : Rel G E w st a) (h : VR E w.heap st.σ d v) : StepTo G E w st a E w d v [] :=
 ⟨h,R,Guar.refl _ _ _ _,WSame.refl _⟩

theorem StepTo.one {G E w st a E' w' d v k0 ob} (R : Rel G E w st a) (S : HStep k0 E w.heap st.σ E' w'.heap ob)
  (hk : OR E' w'.heap (up st.σ k0 ob) k0 ob) (h0 : k0 < st.nx) (h : VR E' w'.heap (up st.σ k0 ob) d v) (ws : WSame w w') : StepTo G E w st a E' w' d v [(k0,ob)] :=
 ⟨h,⟨R.core.step S hk (Nat.le_refl _) h0,R.n,fun t=>(R.slots t).keep (S.cmap R.core.bnd),R.defers.keep (S.guar (m:=0))⟩,S.guar,ws⟩

variable {P : Program} {G : Glob} {T : Tab}

theorem opwp_value {o : Oper} {a : Act} {w w' : World} {v : Value} {next : Act → World → Prop} {Q}
  (h : (execOp a.eval o).run P w = .ok (.value v) w') (hn : next (a.put o.dst v) w') : o.wq P a w next Q:=by
 unfold Oper.wq; rw [h]; exact hn
theorem opwp_skip {o : Oper} {a : Act} {w w' : World} {next : Act → World → Prop} {Q}
  (h : (execOp a.eval o).run P w = .ok .skip w') (hn : next (a.put o.dst undef) w') : o.wq P a w next Q:=by
 unfold Oper.wq; rw [h]; exact hn

theorem opstep_pure {o : Oper} {ρ σ id d rds}
  (h : ∀ E a w st, Rel G E w st a → (∀ x ∈ o.op.operands, ev G st.ρ x = ev G ρ x) → (∀ k, k ∈ rds → st.σ k = σ k) →
   ∃ v,(execOp a.eval o).run P w = .ok (.value v) w ∧ VR E w.heap st.σ d v) : OpStep P G o ρ σ id d [] rds:=by
 intro E a w st R hx hk _
 obtain ⟨v,hr,hv⟩:=h E a w st R hx (fun k hm=>hk k (.inl hm))
 exact opwp_value hr ⟨E,v,rfl,.same R hv⟩

theorem Rel.evo {G E w st a} (R : Rel G E w st a) {ρ : Nat → D} {ops : Array Operand} (hx : ∀ x ∈ ops, ev G st.ρ x = ev G ρ x) (x : Operand) (hm : x ∈ ops) :
  VR E w.heap st.σ (ev G ρ x) (a.eval x):=by rw [← hx x hm]; exact R.evl x

def Env.neu (E : Env) (id b : Nat) (x : Own) : Env where
 own b' o:=if b' = b then x else match E.own b' o with|.ob k=>if k = id then .ext else .ob k|y=>y
 φ:=up E.φ id b
 hdr:=E.hdr

theorem neu_own_old (E : Env) {id b b' o} {x : Own} (hb : b' ≠ b) (ho : E.own b' o ≠ .ob id) : (E.neu id b x).own b' o = E.own b' o := by
 simp only [Env.neu,hb,if_false]
 split
 ·rename_i k hk
  by_cases e : k = id
  ·subst e; exact absurd hk ho
  ·simp [e,hk]
 ·rfl

theorem cellH_push_old {h : Heap} {x : Obj} {b o} (hb : b < h.size) : cellH (h.push x) b o = cellH h b o := by
 simp [cellH,Array.getElem?_push,Nat.ne_of_lt hb]
theorem get_push_old {h : Heap} {x : Obj} {b} (hb : b < h.size) : (h.push x)[b]? = h[b]? := by
 simp [Array.getElem?_push,Nat.ne_of_lt hb]
theorem get_push_new {h : Heap} {x : Obj} : (h.push x)[h.size]? = some x:=by simp

theorem HStep.push {E : Env} {h : Heap} {σ : Store} {id : Nat} {x : Obj} {ob : AObj} (hd : σ id = .dead) (bnd : ∀ b o, E.own b o ≠ .ext → b < h.size) :
  HStep id E h σ (E.neu id h.size (.ob id)) (h.push x) ob where
 sz:=by simp
 lab b o hb ho:=⟨neu_own_old E (by omega) ho,fun _=>cellH_push_old hb⟩
 sc b o q hq := by
  by_cases e : b = h.size
  ·subst e; simp [Env.neu] at hq
  ·have hq' : E.own b o = .sc q := by
    simp only [Env.neu,e,if_false] at hq
    split at hq
    ·split at hq <;> simp at hq
    ·exact hq
   exact ⟨hq',.inl (cellH_push_old (bnd b o (by simp [hq'])))⟩
 nf b o hq := by
  by_cases e : b = h.size
  ·subst e; simp [Env.neu] at hq
  ·left
   simp only [Env.neu,e,if_false] at hq
   split at hq
   ·split at hq <;> simp at hq
   ·exact hq
 bnd b o hh := by
  by_cases e : b = h.size
  ·simp [e]
  ·have : E.own b o ≠ .ext := by
    intro he; apply hh; rw [neu_own_old E e (by simp [he]),he]
   have:=bnd b o this
   simp; omega
 shp b c e f hb:=⟨c,f,by rw [get_push_old (lt_of_get hb)]; exact hb,rfl,.refl _ _⟩
 blk b hb _:=get_push_old hb
 ids k hk:=⟨up_ne _ _ hk,rfl⟩
 idk hl:=absurd hd hl

def toCells : D → List D
 | .agg cs=>cs
 | d=>[d]

theorem VR.cells {E h σ d x} (hx : VR E h σ d x) (hd : ∀ y, d = .v (.agg y) → False) (hj : d ≠ .junk) (he : ∀ a b c e f, d ≠ .ep a b c e f) : VRs E h σ (toCells d) x.cells.toList := by
 have one : ∀ y : Value, (∀ z, y ≠ .agg z) → y.cells.toList = [y] := by
  intro y hy; cases y <;> simp [Value.cells] at hy ⊢
 cases hx with
 | v x =>
  rw [one _ (fun z e=>hd z (by rw [e]))]
  exact VRs_cons.2 ⟨.v x,VRs_nil.2 rfl⟩
 | junk=>exact absurd rfl hj
 | agg cs us l a=>exact (⟨l,a⟩ : VRs E h σ cs us)
 | nil=>exact VRs_cons.2 ⟨.nil,VRs_nil.2 rfl⟩
 | ptr k o hk=>exact VRs_cons.2 ⟨.ptr k o hk,VRs_nil.2 rfl⟩
 | map k hk=>exact VRs_cons.2 ⟨.map k hk,VRs_nil.2 rfl⟩
 | iface t d x hx=>exact VRs_cons.2 ⟨.iface t d x hx,VRs_nil.2 rfl⟩
 | func a b c d e l1 l2 h1 h2=>exact VRs_cons.2 ⟨.func a b c d e l1 l2 h1 h2,VRs_nil.2 rfl⟩
 | tuple a b c d=>exact VRs_cons.2 ⟨.tuple a b c d,VRs_nil.2 rfl⟩
 | ro a b c d e f g=>exact VRs_cons.2 ⟨.ro a b c d e f g,VRs_nil.2 rfl⟩
 | list a b c d e f f2 g h' i j k l m=>exact VRs_cons.2 ⟨.list a b c d e f f2 g h' i j k l m,VRs_nil.2 rfl⟩
 | slist a b c d e f f2 g h' i j k=>exact VRs_cons.2 ⟨.slist a b c d e f f2 g h' i j k,VRs_nil.2 rfl⟩
 | sq q x hq =>
  rw [one _ (fun z e=>by subst e; cases q <;> simp [ScK.ok] at hq)]
  exact VRs_cons.2 ⟨.sq q x hq,VRs_nil.2 rfl⟩
 | sro a b c d e f g=>exact VRs_cons.2 ⟨.sro a b c d e f g,VRs_nil.2 rfl⟩
 | sl a b c d e f g h'=>exact VRs_cons.2 ⟨.sl a b c d e f g h',VRs_nil.2 rfl⟩
 | raw a b c d e f=>exact VRs_cons.2 ⟨.raw a b c d e f,VRs_nil.2 rfl⟩
 | ep a b c d e f g h'=>exact absurd rfl (he _ _ _ _ _)

def D.boxable : D → Bool
 | .v (.agg _)=>false
 | .junk=>false
 | .ep _ _ _ _ _=>false
 | _=>true
theorem VR.cells' {E h σ d x} (hx : VR E h σ d x) (hb : d.boxable = true) : VRs E h σ (toCells d) x.cells.toList :=
 hx.cells (fun y e=>by subst e; simp [D.boxable] at hb) (fun e=>by subst e; simp [D.boxable] at hb) (fun _ _ _ _ _ e=>by subst e; simp [D.boxable] at hb)

def zcells : Value → List D
 | .agg cs=>cs.toList.map constD
 | x=>[constD x]
theorem zcells_vr (E h σ) (z : Value) : VRs E h σ (zcells z) z.cells.toList := by
 cases z <;> simp only [zcells, Value.cells] <;> first
  | exact VRs_cons.2 ⟨constD_vr _ _ _ _,VRs_nil.2 rfl⟩
  | exact ⟨by simp,fun i a b=>by simpa using constD_vr E h σ _⟩

theorem alloc_step {E w st a id} {cs : List D} {us : Array Value} {e : TypeId} (R : Rel G E w st a) (hd : st.σ id = .dead) (h0 : id < st.nx) (hv : VRs E w.heap st.σ cs us.toList) :
  ∃ E',StepTo G E w st a E' { w with heap:=w.heap.push (.cells us e) } (.ptr id 0) (.pointer (some ⟨w.heap.size,0,none⟩)) [(id,.cells cs)]:=by
 have S : HStep id E w.heap st.σ (E.neu id w.heap.size (.ob id)) (w.heap.push (.cells us e)) (.cells cs):=HStep.push hd R.core.bnd
 refine ⟨_,StepTo.one R S ⟨us,e,?_,hv.keep (S.cmap R.core.bnd),fun o=>?_⟩ h0 ?_ ⟨rfl,rfl,rfl⟩⟩
 ·simp [Env.neu,up_self]
 ·simp [Env.neu,up_self]
 ·have := VR.ptr (E := E.neu id w.heap.size (.ob id)) (h := w.heap.push (.cells us e)) (σ := up st.σ id (.cells cs)) id 0 (by simp [live, up_self])
  simpa [Env.neu,up_self] using this

theorem box_op {o : Oper} {t x ρ σ id} (ho : o.op = .box t x) (hd : σ id = .dead) (hb : (ev G ρ x).boxable = true) :
  OpStep P G o ρ σ id (.ptr id 0) [(id,.cells (toCells (ev G ρ x)))] []:=by
 intro E a w st R hx hk h0
 have hv:=(R.evo (ρ:=ρ) (ops:=o.op.operands) hx x (by simp [ho,Op.operands])).cells' hb
 obtain ⟨E',S⟩:=alloc_step (e:=t) R ((hk id (.inr (by simp [keysOf]))).trans hd) h0 hv
 refine opwp_value (v:=.pointer (some ⟨w.heap.size,0,none⟩)) ?_ ⟨E',_,rfl,S⟩
 simp [execOp,ho,Instr.box,newVar,newRow]

theorem alloc_op (hT : TOk P T) {o : Oper} {t ρ σ id i z} (ho : o.op = .alloc t) (ht : T t = some i) (hz : i.zero = some z) (hd : σ id = .dead) :
  OpStep P G o ρ σ id (.ptr id 0) [(id,.cells (zcells z))] []:=by
 intro E a w st R hx hk h0
 obtain ⟨E',S⟩:=alloc_step (us:=z.cells) (e:=t) R ((hk id (.inr (by simp [keysOf]))).trans hd) h0 (zcells_vr _ _ _ z)
 refine opwp_value (v:=.pointer (some ⟨w.heap.size,0,none⟩)) ?_ ⟨E',_,rfl,S⟩
 simp [execOp,ho,Instr.alloc,newVar,newRow,run_zero hT w ht hz]

theorem map_step {E w st a id} (R : Rel G E w st a) (hd : st.σ id = .dead) (h0 : id < st.nx) :
  ∃ E',StepTo G E w st a E' { w with heap:=w.heap.push (.map #[] 0) } (.map id) (.map (some w.heap.size)) [(id,.map [])]:=by
 have S : HStep id E w.heap st.σ (E.neu id w.heap.size (.ob id)) (w.heap.push (.map #[] 0)) (.map []):=HStep.push hd R.core.bnd
 refine ⟨_,StepTo.one R S ⟨#[],0,?_,⟨rfl,by simp [Stp]⟩,fun i a=>by simp at a,fun o=>?_⟩ h0 ?_ ⟨rfl,rfl,rfl⟩⟩
 ·simp [Env.neu,up_self]
 ·simp [Env.neu,up_self]
 ·have := VR.map (E := E.neu id w.heap.size (.ob id)) (h := w.heap.push (.map #[] 0)) (σ := up st.σ id (.map [])) id (by simp [live, up_self])
  simpa [Env.neu,up_self] using this

theorem makeMap_op {o : Oper} {t ρ σ id} (ho : o.op = .makeMap t none) (hd : σ id = .dead) :
  OpStep P G o ρ σ id (.map id) [(id,.map [])] []:=by
 intro E a w st R hx hk h0
 obtain ⟨E',S⟩:=map_step R ((hk id (.inr (by simp [keysOf]))).trans hd) h0
 refine opwp_value (v:=.map (some w.heap.size)) ?_ ⟨E',_,rfl,S⟩
 simp [execOp,ho,Instr.makeMap]

theorem VR.v_inv {E h σ x y} (hx : VR E h σ (.v x) y) : y = x:=by cases hx; rfl
theorem VR.ptr_inv {E h σ k o y} (hx : VR E h σ (.ptr k o) y) : y = .pointer (some ⟨E.φ k,o,none⟩) ∧ live σ k:=by cases hx; exact ⟨rfl,by assumption⟩
theorem VR.map_inv {E h σ k y} (hx : VR E h σ (.map k) y) : y = .map (some (E.φ k)) ∧ live σ k:=by cases hx; exact ⟨rfl,by assumption⟩
theorem VR.agg_inv {E h σ cs y} (hx : VR E h σ (.agg cs) y) : ∃ us : List Value, y = .agg us.toArray ∧ VRs E h σ cs us := by
 cases hx with
 | agg _ us l a=>exact ⟨us,rfl,l,a⟩
theorem VR.tuple_inv {E h σ cs y} (hx : VR E h σ (.tuple cs) y) : ∃ us : List Value, y = .tuple us.toArray ∧ VRs E h σ cs us := by
 cases hx with
 | tuple _ us l a=>exact ⟨us,rfl,l,a⟩

theorem move_op {o : Oper} {x ρ σ id} (ho : o.op = .move x ∨ o.op = .assign x) : OpStep P G o ρ σ id (ev G ρ x) [] [] := by
 refine opstep_pure fun E a w st R hx _=>⟨a.eval x,?_,R.evo (ops:=o.op.operands) hx x (by rcases ho with h|h <;> simp [h,Op.operands])⟩
 rcases ho with h|h <;> simp [execOp,h]

theorem pick_op {o : Oper} {c x y b ρ σ id} (ho : o.op = .pick c x y) (hc : ev G ρ c = .v (.bool b)) : OpStep P G o ρ σ id (cond b (ev G ρ x) (ev G ρ y)) [] [] := by
 refine opstep_pure fun E a w st R hx _=>?_
 have h1:=R.evo (ops:=o.op.operands) hx c (by simp [ho,Op.operands])
 rw [hc] at h1
 have e : a.eval c = .bool b:=h1.v_inv
 have h2:=R.evo (ops:=o.op.operands) hx x (by simp [ho,Op.operands])
 have h3:=R.evo (ops:=o.op.operands) hx y (by simp [ho,Op.operands])
 cases b
 ·exact ⟨a.eval y,by simp [execOp,ho,e,asBool],h3⟩
 ·exact ⟨a.eval x,by simp [execOp,ho,e,asBool],h2⟩

theorem add_none (b o n : Nat) : (⟨b, o, none⟩ : Addr).add n = ⟨b, o + n, none⟩ := by
 unfold Addr.add; split
 ·rename_i h; subst h; simp
 ·rfl

theorem VR.ro_drop {E h σ cs x} (n : Nat) (hx : VR E h σ (.ro cs) x) : ∃ b o, x = .pointer (some ⟨b, o, none⟩) ∧ VR E h σ (.ro (cs.drop n)) (.pointer (some ⟨b, o + n, none⟩)) := by
 cases hx with
 | ro _ b o u hr hv hf =>
  refine ⟨b,o,rfl,.ro _ b (o + n) (fun j=>u (n + j)) (fun j hj=>?_) (fun j hj=>?_) (fun j hj=>?_)⟩
  ·have := hr (n + j) (by simp at hj; omega)
   rwa [show o + (n + j) = o + n + j by omega] at this
  ·have := hv (n + j) (by simp at hj; omega)
   simpa using this
  ·have := hf (n + j) (by simp at hj; omega)
   simpa using this

theorem run_fieldAt (hT : TOk P T) {s : TypeId} {i : TyI} {fs : Array Field} {f : Nat} {fd : Field} {j : TyI} {b o : Nat} (w : World)
  (hs : T s = some i) (hd : i.d = .struct fs) (hf : fs[f]? = some fd) (hj : T fd.type = some j) (hz : j.size ≠ 0) :
  (Instr.fieldAt s (.pointer (some ⟨b,o,none⟩)) f).run P w = .ok (.pointer (some ⟨b,o + fd.offset,none⟩)) w:=by
 have h1 : (underlying s).run P w = .ok (.struct fs) w:=by rw [← hd]; exact run_und hT w hs
 simp only [Instr.fieldAt,Sem.run_bind,h1,Result.andThen_ok,hf,Instr.sureAddr,Sem.run_pure,fieldPlace,run_size hT w hj,hz,if_false,add_none]

def faddr (off : Nat) : D → Option D
 | .ptr k o=>some (.ptr k (o + off))
 | .ro cs=>some (.ro (cs.drop off))
 | .ep k n s i o=>some (.ep k n s i (o + off))
 | _=>none

theorem fieldAddr_op (hT : TOk P T) {o : Oper} {s x f ρ σ id i fs fd j d} (ho : o.op = .fieldAddr s x f) (hs : T s = some i) (hd : i.d = .struct fs) (hf : fs[f]? = some fd)
  (hj : T fd.type = some j) (hz : j.size ≠ 0) (hx : faddr fd.offset (ev G ρ x) = some d) (he : ∀ k n s i o,ev G ρ x ≠ .ep k n s i o) : OpStep P G o ρ σ id d [] []:=by
 refine opstep_pure fun E a w st R hh _=>?_
 have h1:=R.evo (ops:=o.op.operands) hh x (by simp [ho,Op.operands])
 revert hx h1 he
 generalize ev G ρ x = dx
 intro h1 he hx
 cases dx with
 | ptr k off =>
  simp [faddr] at h1; subst h1
  cases hx' : a.eval x with
  | pointer p =>
   rw [hx'] at hx
   cases hx with
   | ptr _ _ hk=>exact ⟨_,by simp [execOp,ho,hx',run_fieldAt hT w hs hd hf hj hz],.ptr k _ hk⟩
  | _=>rw [hx'] at hx; cases hx
 | ro cs =>
  simp [faddr] at h1; subst h1
  obtain ⟨b,off,e,hv⟩:=hx.ro_drop fd.offset
  exact ⟨_,by simp [execOp,ho,e,run_fieldAt hT w hs hd hf hj hz],hv⟩
 | ep k n s i o=>exact absurd rfl (he _ _ _ _ _)
 | _=>simp [faddr] at h1

def ofCells (i : TyI) (cs : List D) : Option D :=
 match i.agg with
 | true=>match Nat.beq cs.length i.size with|true=>some (.agg cs)|false=>none
 | false=>match cs with|[x]=>some x|_=>none

theorem run_loadVar_cells (hT : TOk P T) {t : TypeId} {i : TyI} {b o : Nat} {cs : List D} {d : D} {w : World} {E : Env} {σ : Store} (ht : T t = some i) (hd : ofCells i cs = some d)
  (u : Nat → Value) (hr : ∀ j,j < cs.length → cellH w.heap b (o + j) = some (u j)) (hv : ∀ j (hj : j < cs.length),VR E w.heap σ cs[j] (u j)) :
  ∃ v,(loadVar t ⟨b,o,none⟩).run P w = .ok v w ∧ VR E w.heap σ d v:=by
 unfold ofCells at hd
 cases ha : i.agg with
 | true =>
  simp only [ha] at hd
  split at hd
  ·rename_i hl
   have hl:=Nat.eq_of_beq_eq_true hl
   simp at hd; subst hd
   refine ⟨.agg ((List.range i.size).map u).toArray,?_,?_⟩
   ·have := run_loadCells (P := P) w ⟨b, o, none⟩ i.size u (fun j hj => by rw [add_none, cell?_eq]; exact hr j (by omega))
    simp [loadVar,run_isAgg hT w ht,ha,run_size hT w ht,this]
   ·refine .agg cs _ (by simp [hl]) (fun j h1 h2 => ?_)
    simpa using hv j h1
  ·simp at hd
 | false =>
  simp only [ha] at hd
  split at hd
  ·rename_i x
   simp at hd; subst hd
   refine ⟨u 0,?_,by simpa using hv 0 (by simp)⟩
   have:=hr 0 (by simp)
   simp only [Nat.add_zero] at this
   simp [loadVar,run_isAgg hT w ht,ha,cell?_eq,this]
  ·simp at hd

theorem load_ptr_op (hT : TOk P T) {o : Oper} {t x ρ σ id i k off cs d} (ho : o.op = .load t x) (ht : T t = some i) (hx : ev G ρ x = .ptr k off) (hk : σ k = .cells cs)
  (hd : ofCells i ((cs.drop off).take i.size) = some d) : OpStep P G o ρ σ id d [] [k]:=by
 refine opstep_pure fun E a w st R hh hs=>?_
 have h1:=R.evo (ops:=o.op.operands) hh x (by simp [ho,Op.operands])
 rw [hx] at h1
 have hO:=R.core.objs k
 rw [hs k (by simp),hk] at hO
 obtain ⟨us,e,hb,hv,hown⟩:=hO
 cases hp : a.eval x with
 | pointer p =>
  rw [hp] at h1
  cases h1 with
  | ptr _ _ hl =>
   have hlen : us.toList.length = cs.length:=hv.1
   obtain ⟨v, hr, hvr⟩ := run_loadVar_cells (P := P) (w := w) (E := E) (σ := st.σ) hT (b := E.φ k) (o := off) ht hd (fun j => us.toList.getD (off + j) undef)
    (fun j hj => by
     simp at hj
     simp at hlen
     have : off + j < us.size:=by omega
     simp [cellH,hb,this])
    (fun j hj => by
     simp at hj
     have h2 : off + j < us.toList.length:=by omega
     have:=hv.2 (off + j) (by omega) h2
     simp at h2
     simpa [h2] using this)
   exact ⟨v,by simp [execOp,ho,hp,Instr.loadAt,Instr.sureAddr,hr],hvr⟩
 | _=>rw [hp] at h1; cases h1

theorem VR.ro_take {E h σ cs x} (n : Nat) (hx : VR E h σ (.ro cs) x) : VR E h σ (.ro (cs.take n)) x := by
 cases hx with
 | ro _ b o u hr hv hf =>
  refine .ro _ b o u (fun j hj=>hr j (by simp at hj; omega)) (fun j hj=>?_) (fun j hj=>?_)
  ·have:=hv j (by simp at hj; omega); simpa using this
  ·have:=hf j (by simp at hj; omega); simpa using this

theorem load_ro_op (hT : TOk P T) {o : Oper} {t x ρ σ id i cs d} (ho : o.op = .load t x) (ht : T t = some i) (hx : ev G ρ x = .ro cs)
  (hd : ofCells i (cs.take i.size) = some d) : OpStep P G o ρ σ id d [] []:=by
 refine opstep_pure fun E a w st R hh hs=>?_
 have h1:=R.evo (ops:=o.op.operands) hh x (by simp [ho,Op.operands])
 rw [hx] at h1
 have h2:=h1.ro_take i.size
 cases hp : a.eval x with
 | pointer p =>
  rw [hp] at h2
  cases h2 with
  | ro _ b off u hr hv hf =>
   obtain ⟨v,hr,hvr⟩:=run_loadVar_cells (P:=P) (w:=w) (E:=E) (σ:=st.σ) hT (b:=b) (o:=off) ht hd u (fun j hj=>(hr j hj).2) hv
   exact ⟨v,by simp [execOp,ho,hp,Instr.loadAt,Instr.sureAddr,hr],hvr⟩
 | _=>rw [hp] at h2; cases h2

end Go.AL

namespace Go.AL
open Go
variable {P : Program} {G : Glob} {T : Tab}

theorem get_set_same {h : Heap} {b : Nat} {x : Obj} (hb : b < h.size) : (h.setIfInBounds b x)[b]? = some x:=by simp [hb]
theorem get_set_ne {h : Heap} {b c : Nat} {x : Obj} (hb : b ≠ c) : (h.setIfInBounds b x)[c]? = h[c]?:=Array.getElem?_setIfInBounds_ne hb

def writeAt (us : Array Value) (o : Nat) : List Value → Array Value
 | []=>us
 | v :: vs=>writeAt (us.setIfInBounds o v) (o + 1) vs

theorem writeAt_size : ∀ (vs : List Value) (us : Array Value) (o : Nat), (writeAt us o vs).size = us.size
 | [],us,o=>rfl
 | v :: vs,us,o=>by simp [writeAt,writeAt_size vs]

theorem writeAt_get : ∀ (vs : List Value) (us : Array Value) (o j : Nat), o + vs.length ≤ us.size →
  (writeAt us o vs)[j]? = if o ≤ j ∧ j < o + vs.length then vs[j - o]? else us[j]?
 | [],us,o,j,h=>by
  have : ¬ (o ≤ j ∧ j < o + ([] : List Value).length):=by simp
  simp [writeAt,this]
  omega
 | v :: vs, us, o, j, h => by
  simp only [List.length_cons] at h ⊢
  rw [writeAt,writeAt_get vs _ _ _ (by simp; omega)]
  by_cases h1 : o + 1 ≤ j ∧ j < o + 1 + vs.length
  ·rw [if_pos h1, if_pos (by omega)]
   rw [show j - o = (j - (o + 1)) + 1 by omega]; simp
  ·rw [if_neg h1]
   by_cases h2 : j = o
   ·subst h2
    rw [if_pos (by omega)]
    simp [show j < us.size by omega]
   ·rw [if_neg (by omega)]
    simp [Array.getElem?_setIfInBounds_ne (Ne.symm h2)]

theorem setCell_heap {w : World} {b o : Nat} {us : Array Value} {e : TypeId} {f : Nat × Nat} {v : Value} (hb : w.heap[b]? = some (.cells us e f)) :
  (w.setCell ⟨b,o,none⟩ v) = { w with heap:=w.heap.setIfInBounds b (.cells (us.setIfInBounds o v) e f) }:=by
 unfold World.setCell
 have hlt:=lt_of_get hb
 have hb' : w.heap[b] = .cells us e f:=by simpa [Array.getElem?_eq_getElem hlt] using hb
 congr 1
 apply Array.ext
 ·simp
 ·intro i h1 h2
  simp only [Array.getElem_modify,Array.getElem_setIfInBounds]
  by_cases e1 : b = i
  ·subst e1; simp [hb']
  ·rw [if_neg e1,Array.getElem_setIfInBounds_ne _ e1]

theorem frozen?_eq {w : World} {b o : Nat} {us : Array Value} {e : TypeId} {f : Nat × Nat} (hb : w.heap[b]? = some (.cells us e f)) :
  w.frozen? ⟨b,o,none⟩ = decide (f.1 ≤ o ∧ o < f.2):=by
 obtain ⟨lo,hi⟩:=f
 simp [World.frozen?,hb]

theorem run_storeCells {b off : Nat} {e : TypeId} {f : Nat × Nat} : ∀ (vs : List Value) (i : Nat) (us : Array Value) (w : World),
  w.heap[b]? = some (.cells us e f) → off + i + vs.length ≤ us.size → (∀ v ∈ vs,v.oneCell' = true) →
  (∀ o,off + i ≤ o → o < off + i + vs.length → ¬ (f.1 ≤ o ∧ o < f.2)) →
  (storeCells ⟨b,off,none⟩ vs i).run P w = .ok () { w with heap:=w.heap.setIfInBounds b (.cells (writeAt us (off + i) vs) e f) }
 | [], i, us, w, hb, hl, h1, hf => by
  have hlt:=lt_of_get hb
  have : w.heap.setIfInBounds b (.cells us e f) = w.heap := by
   apply Array.ext_getElem?
   intro j
   by_cases e1 : b = j
   ·subst e1; rw [get_set_same hlt,hb]
   ·rw [get_set_ne e1]
  simp [storeCells,writeAt,this]
 | v :: vs, i, us, w, hb, hl, h1, hf => by
  have hlt:=lt_of_get hb
  simp only [List.length_cons] at hl hf
  have hc : w.cell? ⟨b, off + i, none⟩ = some (us[off + i]'(by omega)) := by
   rw [cell?_eq]; simp [cellH,hb]
  have hfz : w.frozen? ⟨b, off + i, none⟩ = false := by
   have hq : ¬ (f.1 ≤ off + i ∧ off + i < f.2):=hf (off + i) (by omega) (by omega)
   rw [frozen?_eq hb]; exact decide_eq_false hq
  have hst:=run_store P w ⟨b,off + i,none⟩ v .plain (h1 v (by simp))
  rw [hc] at hst
  simp only [hfz] at hst
  have hb2 : (w.setCell ⟨b, off + i, none⟩ v).heap[b]? = some (.cells (us.setIfInBounds (off + i) v) e f) := by
   rw [setCell_heap hb]; simp [hlt]
  have ih:=run_storeCells (off:=off) (e:=e) (f:=f) vs (i + 1) (us.setIfInBounds (off + i) v) (w.setCell ⟨b,off + i,none⟩ v) hb2 (by simp; omega) (fun u hu=>h1 u (by simp [hu])) (fun o a1 a2=>hf o (by omega) (by omega))
  simp only [storeCells,Sem.run_bind,add_none]
  rw [hst]
  simp only [Bool.false_eq_true,if_false,Result.andThen_ok]
  rw [ih,setCell_heap hb]
  congr 1
  simp [writeAt,Nat.add_assoc]

theorem HStep.write {k : Nat} {E E' : Env} {h : Heap} {σ : Store} {b : Nat} {us us' : Array Value} {e : TypeId} {f : Nat × Nat} {ob : AObj}
  (bnd : ∀ b o,E.own b o ≠ .ext → b < h.size)
  (hb : h[b]? = some (.cells us e f)) (hsz : us'.size = us.size) (hlab : ∀ b' o,E.own b' o ≠ .ob k → E'.own b' o = E.own b' o)
  (hext : ∀ b' o,E.own b' o = .ob k → (E'.own b' o ≠ .ext → b' < h.size) ∧ (∀ q,E'.own b' o ≠ .sc q) ∧ (E'.own b' o = .fz → b' = b ∧ ¬ (f.1 ≤ o ∧ o < f.2)))
  (hcell : ∀ o,E.own b o ≠ .ob k → us'[o]? = us[o]?) (hids : ∀ j,j ≠ k → E'.φ j = E.φ j ∧ E'.hdr j = E.hdr j)
  (idk : live σ k → ob ≠ .dead ∧ E'.φ k = E.φ k ∧ (∀ m', tlen (up σ k ob) k = some m' → ∃ m, tlen σ k = some m ∧ m ≤ m' ∧ (m = m' → E'.hdr k = E.hdr k)) ∧
   ∀ s',tstr (up σ k ob) k = some s' → tstr σ k = some s') :
  HStep k E h σ E' (h.setIfInBounds b (.cells us' e f)) ob where
 sz:=by simp
 lab b' o hb' ho := by
  refine ⟨hlab b' o ho,fun _=>?_⟩
  unfold cellH
  by_cases e1 : b = b'
  ·subst e1
   have hlt:=lt_of_get hb
   rw [get_set_same hlt,hb]
   exact hcell o ho
  ·rw [get_set_ne e1]
 sc b' o q hq := by
  by_cases e0 : E.own b' o = .ob k
  ·exact absurd hq ((hext b' o e0).2.1 q)
  ·have hq' : E.own b' o = .sc q := by rw [hlab b' o e0] at hq; exact hq
   refine ⟨hq',.inl ?_⟩
   unfold cellH
   by_cases e1 : b = b'
   ·subst e1
    have hlt:=lt_of_get hb
    rw [get_set_same hlt,hb]
    exact hcell o e0
   ·rw [get_set_ne e1]
 nf b' o hq := by
  by_cases e0 : E.own b' o = .ob k
  ·obtain ⟨rfl, h2⟩ := (hext b' o e0).2.2 hq
   exact .inr ⟨us',e,f,get_set_same (lt_of_get hb),fun _=>h2⟩
  ·exact .inl (by rw [hlab b' o e0] at hq; exact hq)
 bnd b' o ho := by
  simp
  by_cases e1 : E.own b' o = .ob k
  ·exact (hext b' o e1).1 ho
  ·exact bnd b' o (by rw [hlab b' o e1] at ho; exact ho)
 shp b' c e' f' hc := by
  by_cases e1 : b = b'
  ·subst e1
   have hlt:=lt_of_get hb
   rw [hb] at hc
   simp at hc
   obtain ⟨rfl,rfl,rfl⟩:=hc
   exact ⟨us',_,get_set_same hlt,hsz,.refl _ _⟩
  ·exact ⟨c,_,by rw [get_set_ne e1]; exact hc,rfl,.refl _ _⟩
 blk b' hb' ho := by
  by_cases e1 : b = b'
  ·subst e1
   have : us' = us := by
    apply Array.ext_getElem?
    intro o
    exact hcell o (ho o).1
   rw [this,get_set_same hb',hb]
  ·rw [get_set_ne e1]
 ids:=hids
 idk:=idk

def setCells (cs : List D) (off : Nat) (ds : List D) : List D:=cs.take off ++ (ds ++ cs.drop (off + ds.length))

theorem setCells_vr {E h σ} {cs ds : List D} {us vs : List Value} {off : Nat} (hc : VRs E h σ cs us) (hd : VRs E h σ ds vs) (hl : off + ds.length ≤ cs.length) :
  VRs E h σ (setCells cs off ds) (us.take off ++ (vs ++ us.drop (off + vs.length))):=by
 obtain ⟨l1,f1⟩:=hc
 obtain ⟨l2,f2⟩:=hd
 refine ⟨by simp [setCells,l1,l2],fun i a b=>?_⟩
 simp only [setCells] at a ⊢
 rw [List.getElem_append,List.getElem_append]
 have e1 : (List.take off cs).length = off:=by simp; omega
 have e2 : (List.take off us).length = off:=by simp; omega
 simp only [e1,e2]
 split
 ·rename_i hi
  simpa using f1 i (by omega) (by omega)
 ·rename_i hi
  rw [List.getElem_append,List.getElem_append]
  simp only [l2]
  split
  ·exact f2 (i - off) (by assumption) (by omega)
  ·rename_i h3
   simp only [List.getElem_drop]
   have e : off + ds.length + (i - off - ds.length) = i:=by omega
   have a' : i < cs.length := by
    simp at a; omega
   simpa [e,l2] using f1 i a' (by omega)

theorem writeAt_toList {us : Array Value} {off : Nat} {vs : List Value} (h : off + vs.length ≤ us.size) :
  (writeAt us off vs).toList = us.toList.take off ++ (vs ++ us.toList.drop (off + vs.length)):=by
 apply List.ext_getElem?
 intro j
 rw [← Array.getElem?_toList.symm,writeAt_get vs us off j h]
 rw [List.getElem?_append,List.getElem?_append]
 have e1 : (List.take off us.toList).length = off:=by simp; omega
 simp only [e1]
 by_cases h1 : j < off
 ·rw [if_neg (by omega),if_pos h1]; simp [h1]
 ·rw [if_neg h1]
  by_cases h2 : j - off < vs.length
  ·rw [if_pos (by omega),if_pos h2]
  ·rw [if_neg (by omega), if_neg h2]
   simp only [List.getElem?_drop]
   rw [show off + vs.length + (j - off - vs.length) = j by omega]
   simp

theorem store_ptr_op (hT : TOk P T) {o : Oper} {t x y ρ σ id i k off cs} (ho : o.op = .store t x y) (ht : T t = some i) (hx : ev G ρ x = .ptr k off) (hk : σ k = .cells cs)
  (hb : (ev G ρ y).boxable = true) (hs : (toCells (ev G ρ y)).length = i.size) (hl : off + i.size ≤ cs.length) (h1 : (toCells (ev G ρ y)).all D.one = true) :
  OpStep P G o ρ σ id (.v undef) [(k,.cells (setCells cs off (toCells (ev G ρ y))))] [k]:=by
 intro E a w st R hh hkk h0
 have hv:=R.evo (ops:=o.op.operands) hh y (by simp [ho,Op.operands])
 have hp:=R.evo (ops:=o.op.operands) hh x (by simp [ho,Op.operands])
 rw [hx] at hp
 obtain ⟨hp,hl0⟩:=hp.ptr_inv
 have hds:=hv.cells' hb
 have hO:=R.core.objs k
 rw [hkk k (by simp),hk] at hO
 obtain ⟨us,e,hbk,hvs,hown⟩:=hO
 have hul : us.size = cs.length:=by simpa using hvs.1
 have hdl : (a.eval y).cells.toList.length = i.size:=by rw [hds.1,hs]
 have hrun:=run_storeCells (P:=P) (off:=off) (a.eval y).cells.toList 0 us w hbk (by omega) (fun u hu=>hds.one h1 u hu) (fun o _ _=>by simp)
 have S : HStep k E w.heap st.σ E (w.heap.setIfInBounds (E.φ k) (.cells (writeAt us off (a.eval y).cells.toList) e (0, 0))) (.cells (setCells cs off (toCells (ev G ρ y)))) := by
  refine HStep.write R.core.bnd hbk (writeAt_size _ _ _) (fun _ _ _=>rfl) (fun b' o h=>⟨fun h=>R.core.bnd b' o h,fun q=>by simp [h],by simp [h]⟩) (fun o ho=>absurd (hown o) ho) (fun _ _=>⟨rfl,rfl⟩) (fun _=>⟨by simp,rfl,fun m' hm'=>?_,fun s' hs'=>?_⟩)
  ·simp [tlen,up_self] at hm'
  ·simp [tstr,up_self] at hs'
 have hlt:=lt_of_get hbk
 refine opwp_skip (w':={ w with heap:=w.heap.setIfInBounds (E.φ k) (.cells (writeAt us off (a.eval y).cells.toList) e (0,0)) }) ?_ ⟨E,undef,rfl,StepTo.one R S ⟨writeAt us off (a.eval y).cells.toList,e,?_,?_,hown⟩ ?_ (.v _) ⟨rfl,rfl,rfl⟩⟩
 ·have hsz : (a.eval y).cells.size = i.size := by simpa using hdl
  simp only [execOp,ho,Instr.storeAt,Instr.sureAddr,storeVar,Sem.run_bind,hp,Sem.run_pure,Result.andThen_ok,run_size hT w ht,hsz,ne_eq,not_true_eq_false,if_false]
  rw [show storeCells ⟨E.φ k,off,none⟩ (a.eval y).cells.toList = storeCells ⟨E.φ k,off,none⟩ (a.eval y).cells.toList 0 from rfl]
  simp only [Sem.run_pure,Result.andThen_ok,hrun,Nat.add_zero]
 ·simp [hlt]
 ·rw [writeAt_toList (by omega)]
  exact (setCells_vr hvs hds (by omega)).keep (S.cmap R.core.bnd)
 ·rcases Nat.lt_or_ge k st.nx with hx | hx
  ·exact hx
  ·exact absurd (R.core.dead k hx) hl0

end Go.AL

namespace Go.AL
open Go
variable {P : Program} {G : Glob} {T : Tab}

structure Row (E : Env) (h : Heap) (σ : Store) (xs : List (List D)) (s : Nat) (cs : List Value) : Prop where
 len : cs.length = xs.length * s
 each : ∀ i (hi : i < xs.length),xs[i].length = s
 vr : ∀ i j (hi : i < xs.length) (hj : j < xs[i].length),VR E h σ xs[i][j] (cs.getD (i * s + j) undef)
 idf : ∀ i j (hi : i < xs.length) (hj : j < xs[i].length),xs[i][j].idf = true

theorem Row.nil (E h σ s) : Row E h σ [] s []:=⟨by simp,fun i hi=>by simp at hi,fun i j hi=>by simp at hi,fun i j hi=>by simp at hi⟩

theorem mul_lt_row {i n s j : Nat} (hi : i < n) (hj : j < s) : i * s + j < n * s := by
 have : (i + 1) * s ≤ n * s:=Nat.mul_le_mul_right s hi
 rw [Nat.add_mul] at this; omega

theorem Row.keep {E h σ E' h' σ' xs s cs} (M : CMap some E h σ E' h' σ') (R : Row E h σ xs s cs) : Row E' h' σ' xs s cs :=
 ⟨R.len,R.each,fun i j hi hj=>(R.vr i j hi hj).keep M,R.idf⟩

theorem Row.append {E h σ xs ys s cs ds} (A : Row E h σ xs s cs) (B : Row E h σ ys s ds) : Row E h σ (xs ++ ys) s (cs ++ ds) where
 len:=by simp [A.len,B.len,Nat.add_mul]
 each i hi := by
  rw [List.getElem_append]; split
  ·exact A.each i _
  ·exact B.each _ _
 vr i j hi hj := by
  simp only [List.getElem_append] at hj ⊢
  split
  ·rename_i h1
   simp only [h1,dif_pos] at hj
   have h2 : i * s + j < cs.length:=by rw [A.len]; exact mul_lt_row h1 (by rw [← A.each i h1]; exact hj)
   have:=A.vr i j h1 hj
   simpa [List.getD,List.getElem?_append,h2] using this
  ·rename_i h1
   simp only [h1,dif_neg,not_false_eq_true] at hj
   have hi' : i - xs.length < ys.length:=by simp at hi; omega
   have:=B.vr (i - xs.length) j hi' hj
   have e : i * s + j - cs.length = (i - xs.length) * s + j := by
    rw [A.len,Nat.sub_mul]
    have : xs.length * s ≤ i * s:=Nat.mul_le_mul_right s (by omega)
    omega
   have h2 : ¬ i * s + j < cs.length := by
    rw [A.len]
    have : xs.length * s ≤ i * s:=Nat.mul_le_mul_right s (by omega)
    omega
   simpa [List.getD,List.getElem?_append,h2,e] using this
 idf i j hi hj := by
  simp only [List.getElem_append] at hj ⊢
  split
  ·rename_i h1
   simp only [h1,dif_pos] at hj
   exact A.idf i j h1 hj
  ·rename_i h1
   simp only [h1,dif_neg,not_false_eq_true] at hj
   exact B.idf _ j (by simp at hi; omega) hj

theorem Row.one {E h σ xs s cs} (R : Row E h σ xs s cs) : ∀ v ∈ cs, v.oneCell' = true := by
 intro v hv
 obtain ⟨q,hq,e⟩:=List.getElem_of_mem hv
 have hl:=R.len
 have hs : 0 < s := by
  rcases Nat.eq_zero_or_pos s with h0|h0
  ·subst h0; simp at hl; subst hl; simp at hq
  ·exact h0
 have hi : q / s < xs.length:=by rw [Nat.div_lt_iff_lt_mul hs]; omega
 have hj : q % s < xs[q / s].length:=by rw [R.each _ hi]; exact Nat.mod_lt _ hs
 have h1:=R.vr (q / s) (q % s) hi hj
 have h2:=R.idf (q / s) (q % s) hi hj
 have h3 : q / s * s + q % s = q:=by rw [Nat.mul_comm]; exact Nat.div_add_mod q s
 rw [h3] at h1
 have h4 : cs.getD q undef = v:=by simp [List.getD,hq,e]
 rw [h4] at h1
 exact h1.one (D.one_of_idf h2)

structure SlR (E : Env) (h : Heap) (σ : Store) (t : Tg) (xs : List (List D)) (s : Nat) (A : Option Addr) (c : Nat) (cs : List Value) : Prop where
 row : Row E h σ xs s cs
 le : xs.length ≤ c
 bd : xs.length ≤ 140737488355328
 nn : A = none → xs = [] ∧ c = 0
 cells : ∀ a,A = some a → (xs ≠ [] → a.spot = none) ∧ ∀ q,q < xs.length * s → t.ow (E.own a.block (a.off + q)) ∧ cellH h a.block (a.off + q) = some (cs.getD q undef)
 tok : ∀ k, t = .tok k → live σ k ∧ (∀ m, tlen σ k = some m → xs.length ≤ m ∧ (xs.length = m → E.hdr k = (A, c))) ∧
  ∀ s0,tstr σ k = some s0 → ∀ i (hi : i < xs.length),xs[i].length = s0

theorem VR.slr {E h σ t xs y} (hx : VR E h σ (.list t xs) y) (s : Nat) (hs : ∀ i (hi : i < xs.length), xs[i].length = s) :
  ∃ A c cs,y = .slice A xs.length c ∧ SlR E h σ t xs s A c cs:=by
 cases hx with
 | list _ _ A c s' u hc hb hs' hn ha hv hf ht =>
  by_cases hne : xs = []
  ·subst hne
   exact ⟨A,c,[],rfl,Row.nil _ _ _ _,by simp,by simp,hn,fun a e=>⟨(ha a e).1,fun q hq=>by simp at hq⟩,ht⟩
  ·have hpos : 0 < xs.length := List.length_pos_iff.2 hne
   have e : s' = s:=by rw [← hs' 0 hpos,hs 0 hpos]
   subst e
   refine ⟨A,c,(List.range (xs.length * s')).map (fun q=>u (q / s') (q % s')),rfl,⟨by simp,hs,fun i j hi hj=>?_,hf⟩,hc,hb,hn,fun a ea=>⟨(ha a ea).1,fun q hq=>?_⟩,ht⟩
   ·have hj' : j < s' := by rw [← hs i hi]; exact hj
    have:=hv i j hi hj
    have e1 : (i * s' + j) / s' = i := by
     rw [Nat.mul_comm,Nat.mul_add_div (by omega),Nat.div_eq_of_lt hj']; simp
    have e2 : (i * s' + j) % s' = j := by
     rw [Nat.mul_comm,Nat.mul_add_mod,Nat.mod_eq_of_lt hj']
    simpa [List.getD,mul_lt_row hi hj',e1,e2] using this
   ·have hs0 : 0 < s' := by
     rcases Nat.eq_zero_or_pos s' with h0|h0
     ·subst h0; simp at hq
     ·exact h0
    have hi : q / s' < xs.length:=by rw [Nat.div_lt_iff_lt_mul hs0]; exact hq
    have hj:=Nat.mod_lt q hs0
    have h3 : q / s' * s' + q % s' = q:=by rw [Nat.mul_comm]; exact Nat.div_add_mod q s'
    have:=(ha a ea).2 (q / s') (q % s') hi hj
    rw [Nat.add_assoc,h3] at this
    simpa [List.getD,hq] using this

theorem SlR.vr {E h σ t xs s A c cs} (R : SlR E h σ t xs s A c cs) : VR E h σ (.list t xs) (.slice A xs.length c) := by
 refine .list t xs A c s (fun i j=>cs.getD (i * s + j) undef) R.le R.bd R.row.each R.nn (fun a e=>⟨(R.cells a e).1,fun i j hi hj=>?_⟩) R.row.vr R.row.idf R.tok
 have:=(R.cells a e).2 (i * s + j) (mul_lt_row hi hj)
 rwa [← Nat.add_assoc] at this

theorem SlR.vr' {E h σ t xs s A c cs n} (hn : xs.length = n) (R : SlR E h σ t xs s A c cs) : VR E h σ (.list t xs) (.slice A n c) := by
 subst hn; exact R.vr

theorem VR.nil_slr {E h σ y} (hx : VR E h σ .nil y) (s : Nat) : y = .slice none 0 0 ∧ SlR E h σ .nat [] s none 0 [] := by
 cases hx
 exact ⟨rfl,Row.nil _ _ _ _,by simp,by simp,fun _=>⟨rfl,rfl⟩,fun a e=>by simp at e,fun k e=>by simp at e⟩

theorem SlR.firstCells {E σ t xs s A c cs} {w : World} (R : SlR E w.heap σ t xs s A c cs) {w' : World} (he : w'.heap = w.heap) :
  (Builtin.firstCells s xs.length (.slice A xs.length c)).run P w' = .ok cs.toArray w':=by
 cases A with
 | none =>
  obtain ⟨e,_⟩:=R.nn rfl
  subst e
  have:=R.row.len
  simp at this; subst this
  simp [Builtin.firstCells]
 | some a =>
  obtain ⟨sp,hc⟩:=R.cells a rfl
  refine run_firstCells_some w' s _ a _ _ cs R.row.len (fun j v hj=>?_)
  have hlt : j < cs.length := by
   rcases Nat.lt_or_ge j cs.length with h1|h1
   ·exact h1
   ·simp [List.getElem?_eq_none h1] at hj
  obtain ⟨b,o,spot⟩:=a
  have sp:=sp (fun e=>by have:=R.row.len; rw [e] at this; simp at this; rw [this] at hlt; simp at hlt)
  simp at sp; subst sp
  rw [add_none,cell?_eq,he,(hc j (by rw [← R.row.len]; exact hlt)).2]
  simp [List.getD,hj]

theorem zeroCells_size (z : Array Value) (n : Nat) : (Builtin.zeroCells z n).size = n * z.size:=by simp [Builtin.zeroCells]

def isSrc : TypeDesc → Bool|.slice _=>true|.string=>true|_=>false

def baseStore (P : Program) (A : Option Addr) (n : Nat) (news : List Value) (w : World) : Result Unit :=
 match A with
 | some a=>(storeCells (a.add n) news).run P w
 | none=>.ok () w

theorem run_append_gen (hT : TOk P T) {t t2 ty e : TypeId} {it i j : TyI} {z : Value} (ht : T t = some it) (hd : it.d = .slice e) (he : T e = some i) (hz : i.zero = some z)
  (h2 : T t2 = some j) (hj : isSrc j.d = true) (hb0 : 0 < i.bytes)
  {base : Option Addr} {sLen sCap m : Nat} {x : Value} {news olds : List Value} {w : World}
  (hlen : ∀ w',(Builtin.lenOf x).run P w' = .ok m w') (hfirst : ∀ w',w'.heap = w.heap → (Builtin.firstCells i.size m x).run P w' = .ok news.toArray w')
  (hold : ∀ w',w'.heap = w.heap → (Builtin.firstCells i.size sLen (.slice base sLen sCap)).run P w' = .ok olds.toArray w')
  (hb : (sLen + m) * i.bytes ≤ 140737488355328) :
  (Builtin.append_ #[t, t2] ty #[.slice base sLen sCap, x]).run P w =
   if sLen + m ≤ sCap then
    (baseStore P base (sLen * i.size) news w).andThen fun _ w'=>.ok (.slice base (sLen + m) sCap) w'
   else .ok (.slice (some ⟨w.heap.size, 0, none⟩) (sLen + m) (grownCap w (sLen + m) sCap e))
    (w.drew.alloc (.cells (olds.toArray ++ (news.toArray ++ Builtin.zeroCells z.cells (grownCap w (sLen + m) sCap e - (sLen + m)))) e)):=by
 obtain ⟨_,inf,q1,q2,q3,q4⟩:=hT e i he
 have hund2 : ∀ w',(underlying t2).run P w' = .ok j.d w':=fun w'=>run_und hT w' h2
 have hundt : ∀ w',(underlying t).run P w' = .ok (.slice e) w':=fun w'=>by rw [run_und hT w' ht,hd]
 have hjj : (∃ e2, j.d = .slice e2) ∨ j.d = .string := by
  revert hj; cases j.d <;> simp [isSrc]
 unfold Builtin.append_ baseStore
 by_cases hfit : sLen + m ≤ sCap
 ·rcases hjj with ⟨e2, hj2⟩ | hj2
  ·rw [hj2] at hund2
   cases base with
   | none=>simp [hundt,hund2,run_size hT _ he,hlen,hfit,hfirst w rfl]
   | some a=>simp [hundt,hund2,run_size hT _ he,hlen,hfit,hfirst w rfl]
  ·rw [hj2] at hund2
   cases base with
   | none=>simp [hundt,hund2,run_size hT _ he,hlen,hfit,hfirst w rfl]
   | some a=>simp [hundt,hund2,run_size hT _ he,hlen,hfit,hfirst w rfl]
 ·have hb' : Builtin.nextslicecap (sLen + m) sCap * i.bytes ≤ 281474976710656 := growslice_fits (by omega) hb
  have hnb : ¬ (281474976710656 < Builtin.nextslicecap (sLen + m) sCap * i.bytes):=by omega
  have hnb0 : ¬ (i.bytes = 0):=by omega
  have e1:=hold w.drew rfl
  have e2:=hfirst w.drew rfl
  rcases hjj with ⟨e3,hj2⟩|hj2
  ·rw [hj2] at hund2
   simp [hundt,hund2,run_size hT _ he,hlen,hfit,typeInfo,q1,q3,hnb,hnb0,Question.forced,e1,e2,zeroValue,q4,hz,newRow,grownCap]
  ·rw [hj2] at hund2
   simp [hundt,hund2,run_size hT _ he,hlen,hfit,typeInfo,q1,q3,hnb,hnb0,Question.forced,e1,e2,zeroValue,q4,hz,newRow,grownCap]

end Go.AL

namespace Go.AL
open Go
variable {P : Program} {G : Glob} {T : Tab}

def Env.grown (E : Env) (k b m c : Nat) : Env where
 own b' o:=if b' = b then (if o < m then .fz else .ob k) else match E.own b' o with|.ob j=>if j = k then .ext else .ob j|y=>y
 φ:=E.φ
 hdr:=up E.hdr k (some ⟨b,0,none⟩,c)

theorem grown_own_old (E : Env) {k b m c b' o} (hb : b' ≠ b) (ho : E.own b' o ≠ .ob k) : (E.grown k b m c).own b' o = E.own b' o := by
 simp only [Env.grown,hb,if_false]
 split
 ·rename_i j hj
  by_cases e : j = k
  ·subst e; exact absurd hj ho
  ·simp [e,hj]
 ·rfl

theorem HStep.grow {E : Env} {h : Heap} {σ : Store} {k : Nat} {us : Array Value} {e : TypeId} {ob : AObj} {m c : Nat} (bnd : ∀ b o, E.own b o ≠ .ext → b < h.size)
  (idk : live σ k → ob ≠ .dead ∧ (∀ m',tlen (up σ k ob) k = some m' → ∃ m,tlen σ k = some m ∧ m < m') ∧ ∀ s',tstr (up σ k ob) k = some s' → tstr σ k = some s') :
  HStep k E h σ (E.grown k h.size m c) (h.push (.cells us e)) ob where
 sz:=by simp
 lab b o hb ho:=⟨grown_own_old E (by omega) ho,fun _=>cellH_push_old hb⟩
 sc b o q hq := by
  by_cases e : b = h.size
  ·subst e
   simp only [Env.grown,if_true] at hq
   split at hq <;> simp at hq
  ·have hq' : E.own b o = .sc q := by
    simp only [Env.grown,e,if_false] at hq
    split at hq
    ·split at hq <;> simp at hq
    ·exact hq
   exact ⟨hq',.inl (cellH_push_old (bnd b o (by simp [hq'])))⟩
 nf b o hq := by
  by_cases e1 : b = h.size
  ·subst e1; exact .inr ⟨us,e,(0,0),get_push_new,by simp⟩
  ·left
   simp only [Env.grown,e1,if_false] at hq
   split at hq
   ·split at hq <;> simp at hq
   ·exact hq
 bnd b o hh := by
  by_cases e : b = h.size
  ·simp [e]
  ·have : E.own b o ≠ .ext := by
    intro he; apply hh; rw [grown_own_old E e (by simp [he]),he]
   have:=bnd b o this
   simp; omega
 shp b c e f hb:=⟨c,f,by rw [get_push_old (lt_of_get hb)]; exact hb,rfl,.refl _ _⟩
 blk b hb _:=get_push_old hb
 ids j hj:=⟨rfl,up_ne _ _ hj⟩
 idk hl := by
  obtain ⟨a,b,c⟩:=idk hl
  refine ⟨a,rfl,fun m' hm'=>?_,c⟩
  obtain ⟨m0,h0,h1⟩:=b m' hm'
  exact ⟨m0,h0,by omega,fun e=>by omega⟩

def Env.placed (E : Env) (k b lo hi : Nat) : Env where
 own b' o:=if b' = b ∧ lo ≤ o ∧ o < hi then .fz else E.own b' o
 φ:=E.φ
 hdr:=E.hdr

def Env.nilled (E : Env) (k : Nat) : Env where
 own b' o:=match E.own b' o with|.ob j=>if j = k then .ext else .ob j|y=>y
 φ:=E.φ
 hdr:=up E.hdr k (none,0)

theorem HStep.nilled {E : Env} {h : Heap} {σ : Store} {k : Nat} {ob : AObj} (bnd : ∀ b o, E.own b o ≠ .ext → b < h.size) (hd : σ k = .dead) :
  HStep k E h σ (E.nilled k) h ob where
 sz:=Nat.le_refl _
 lab b o hb ho := by
  refine ⟨?_,fun _=>rfl⟩
  simp only [Env.nilled]
  split
  ·rename_i j hj
   by_cases e : j = k
   ·subst e; exact absurd hj ho
   ·simp [e,hj]
  ·rfl
 sc b o q hq := by
  refine ⟨?_,.inl rfl⟩
  simp only [Env.nilled] at hq
  split at hq
  ·split at hq <;> simp at hq
  ·exact hq
 nf b o hq := by
  left
  simp only [Env.nilled] at hq
  split at hq
  ·split at hq <;> simp at hq
  ·exact hq
 bnd b o hh := by
  refine bnd b o (fun he=>hh ?_)
  simp [Env.nilled,he]
 shp b c e f hb:=⟨c,f,hb,rfl,.refl _ _⟩
 blk b hb _:=rfl
 ids j hj:=⟨rfl,up_ne _ _ hj⟩
 idk hl:=absurd hd hl


def Base (σ : Store) (E : Env) (k n s : Nat) (A : Option Addr) (c : Nat) : Prop :=
 (σ k = .dead ∧ n = 0 ∧ A = none ∧ c = 0) ∨ (σ k = .tok n s ∧ E.hdr k = (A,c))

theorem append_step {E w st a} {k s cap : Nat} {A : Option Addr} {c : Nat} {t : Tg} {xs ys : List (List D)} {olds news : List Value} {e : TypeId} {z : Value}
  (R : Rel G E w st a) (htk : ∀ o,t.ow o → o = .fz) (h0 : k < st.nx) (hs : 0 < s) (hB : Base st.σ E k xs.length s A c) (R1 : SlR E w.heap st.σ t xs s A c olds) (R2 : Row E w.heap st.σ ys s news)
  (hz : z.cells.size = s) (hbd : xs.length + ys.length ≤ 140737488355328) :
  (xs.length + ys.length ≤ c →
   ∃ E' w',baseStore P A (xs.length * s) news w = .ok () w' ∧
    StepTo G E w st a E' w' (.list (.tok k) (xs ++ ys)) (.slice A (xs.length + ys.length) c) [(k,.tok (xs.length + ys.length) s)]) ∧
  (¬ xs.length + ys.length ≤ c → xs.length + ys.length ≤ cap →
   ∃ E',StepTo G E w st a E' (w.drew.alloc (.cells (olds.toArray ++ (news.toArray ++ Builtin.zeroCells z.cells (cap - (xs.length + ys.length)))) e))
    (.list (.tok k) (xs ++ ys)) (.slice (some ⟨w.heap.size,0,none⟩) (xs.length + ys.length) cap) [(k,.tok (xs.length + ys.length) s)]):=by
 have hlen1 : olds.length = xs.length * s:=R1.row.len
 have hlen2 : news.length = ys.length * s:=R2.len
 have hmul : (xs.length + ys.length) * s = xs.length * s + ys.length * s:=Nat.add_mul _ _ _
 constructor
 ·intro hfit
  cases A with
  | none =>
   obtain ⟨hx0,hc0⟩:=R1.nn rfl
   subst hx0
   have hy0 : ys = [] := by
    cases ys with
    | nil=>rfl
    | cons y ys=>simp at hfit; omega
   subst hy0
   subst hc0
   rcases hB with ⟨hd,_,_,_⟩|⟨hd,hh⟩
   ·have S : HStep k E w.heap st.σ (E.nilled k) w.heap (.tok 0 s) := HStep.nilled R.core.bnd hd
    refine ⟨_,w,rfl,StepTo.one R S ⟨hs,?_,?_,?_⟩ h0 ?_ (WSame.refl _)⟩
    ·simp
    ·simp [Env.nilled,up_self]
    ·intro a ha; simp [Env.nilled,up_self] at ha
    ·refine SlR.vr (s := s) (cs := []) ⟨Row.nil _ _ _ _, by simp, by simp, fun _ => ⟨rfl, rfl⟩, fun a e => by simp at e, fun k' e => ?_⟩
     simp at e; subst e
     refine ⟨by simp [live,up_self],fun m hm=>?_,fun s0 hs0 i hi=>by simp at hi⟩
     simp [Env.nilled,up_self]
   ·have S : HStep k E w.heap st.σ E w.heap (.tok 0 s) := by
     refine ⟨Nat.le_refl _,fun _ _ _ _=>⟨rfl,fun _=>rfl⟩,fun _ _ _ h=>⟨h,.inl rfl⟩,fun _ _ h=>.inl h,R.core.bnd,fun b c e f hb=>⟨c,f,hb,rfl,.refl _ _⟩,fun _ _ _=>rfl,fun _ _=>⟨rfl,rfl⟩,fun _=>⟨by simp,rfl,fun m' hm'=>?_,fun s' hs'=>?_⟩⟩
     ·simp [tlen, up_self] at hm'; subst hm'
      exact ⟨0,by simp [tlen,hd],Nat.le_refl _,fun _=>rfl⟩
     ·simp [tstr, up_self] at hs'; subst hs'
      simp [tstr,hd]
    have hO:=R.core.objs k
    rw [hd] at hO
    refine ⟨_,w,rfl,StepTo.one R S hO h0 ?_ (WSame.refl _)⟩
    refine SlR.vr (s:=s) (cs:=[]) ⟨Row.nil _ _ _ _,by simp,by simp,fun _=>⟨rfl,rfl⟩,fun a e=>by simp at e,fun k' e=>?_⟩
    simp at e; subst e
    refine ⟨by simp [live,up_self],fun m hm=>⟨by simp,fun _=>hh⟩,fun s0 hs0 i hi=>by simp at hi⟩
  | some ad =>
   obtain ⟨b,off,spot⟩:=ad
   rcases hB with ⟨_,_,hA,_⟩|⟨hd,hh⟩
   ·simp at hA
   ·have hO := R.core.objs k
    rw [hd] at hO
    obtain ⟨_,q1,q2,q3⟩:=hO
    rw [hh] at q1 q3
    obtain ⟨sp,us,e',f,hb,hsz,hown⟩:=q3 _ rfl
    simp only at sp hsz hown hb
    subst sp
    have hcs : (xs.length + ys.length) * s ≤ c * s:=Nat.mul_le_mul_right s hfit
    have hlt:=lt_of_get hb
    have hrun := run_storeCells (P := P) (b := b) (off := off + xs.length * s) (e := e') (f := f) news 0 us w hb (by omega) R2.one
     (fun o a1 a2=>(hown o (by omega) (by omega)).2)
    have S : HStep k E w.heap st.σ (E.placed k b (off + xs.length * s) (off + (xs.length + ys.length) * s)) (w.heap.setIfInBounds b (.cells (writeAt us (off + xs.length * s) news) e' f)) (.tok (xs.length + ys.length) s) := by
     refine HStep.write R.core.bnd hb (writeAt_size _ _ _) (fun b' o ho => ?_) (fun b' o ho => ⟨fun _ => R.core.bnd b' o (by simp [ho]), fun q => by simp only [Env.placed]; split <;> simp [ho], fun hf => by
      simp only [Env.placed] at hf
      split at hf
      ·rename_i hc; obtain ⟨rfl,h1,h2⟩:=hc; exact ⟨rfl,(hown o h1 (by omega)).2⟩
      ·simp [ho] at hf⟩) (fun o ho=>?_) (fun _ _=>⟨rfl,rfl⟩) (fun _=>⟨by simp,rfl,fun m' hm'=>?_,fun s' hs'=>?_⟩)
     ·simp only [Env.placed]
      split
      ·rename_i hc
       obtain ⟨rfl,h1,h2⟩:=hc
       exact absurd (hown o h1 (by omega)).1 ho
      ·rfl
     ·rw [writeAt_get _ _ _ _ (by omega)]
      rw [if_neg]
      intro ⟨h1,h2⟩
      exact ho (hown o h1 (by omega)).1
     ·simp [tlen, up_self] at hm'; subst hm'
      exact ⟨xs.length,by simp [tlen,hd],by omega,fun _=>rfl⟩
     ·simp [tstr, up_self] at hs'; subst hs'
      simp [tstr,hd]
    have M:=S.cmap R.core.bnd
    refine ⟨_,{ w with heap:=w.heap.setIfInBounds b (.cells (writeAt us (off + xs.length * s) news) e' f) },?_,StepTo.one R S ⟨hs,?_,?_,?_⟩ h0 ?_ ⟨rfl,rfl,rfl⟩⟩
    ·simp only [baseStore, add_none]
     simpa using hrun
    ·simp [Env.placed,hh]; exact hfit
    ·simp [Env.placed,hh]
    ·intro a ha
     simp [Env.placed,hh] at ha
     subst ha
     refine ⟨rfl, _, e', f, get_set_same hlt, ⟨by simp [Env.placed, hh, writeAt_size]; exact hsz.1, by simp only [writeAt_size]; exact hsz.2.1, by
      simp only [writeAt_size,Env.placed]
      rw [if_neg (by omega)]; exact hsz.2.2⟩,fun o h1 h2=>?_⟩
     simp only [Env.placed,hh] at h2 ⊢
     obtain ⟨p1,p2⟩:=hown o (by simp only at h1; omega) h2
     refine ⟨?_,p2⟩
     rw [if_neg (by simp only at h1; omega)]
     exact p1
    ·have hl : (xs ++ ys).length = xs.length + ys.length := by simp
     refine SlR.vr' hl (s:=s) (cs:=olds ++ news) ⟨(R1.row.keep M).append (R2.keep M),by rw [hl]; exact hfit,by rw [hl]; exact hbd,fun e=>by simp at e,fun a ea=>?_,fun k' ek=>?_⟩
     ·simp at ea; subst ea
      refine ⟨fun _=>rfl,fun q hq=>?_⟩
      rw [hl] at hq
      simp only
      by_cases hq1 : q < xs.length * s
      ·obtain ⟨p1, p2⟩ := (R1.cells _ rfl).2 q hq1
       simp only at p1 p2
       obtain ⟨p3,p4⟩:=M.cell _ _ (Tg.ow_frz p1)
       refine ⟨p3.trans (htk _ p1),p4.trans (p2.trans ?_)⟩
       simp [List.getD,List.getElem?_append,show q < olds.length by omega]
      ·refine ⟨?_, ?_⟩
       ·show _ = Own.fz
        simp only [Env.placed]
        rw [if_pos (by refine ⟨?_,?_,?_⟩ <;> first|trivial|omega)]
       ·simp only [cellH, get_set_same hlt]
        rw [writeAt_get _ _ _ _ (by omega),if_pos (by omega)]
        have e1 : off + q - (off + xs.length * s) = q - olds.length:=by omega
        have e2 : q - olds.length < news.length:=by omega
        rw [e1]
        simp [List.getD,List.getElem?_append,show ¬ q < olds.length by omega,e2]
     ·simp at ek; subst ek
      refine ⟨by simp [live,up_self],fun m hm=>?_,fun s0 hs0 i hi=>?_⟩
      ·simp [tlen, up_self] at hm
       exact ⟨by simp; omega,fun _=>hh⟩
      ·simp [tstr, up_self] at hs0; subst hs0
       exact ((R1.row.keep M).append (R2.keep M)).each i hi
 ·intro hfit hcap
  have S : HStep k E w.heap st.σ (E.grown k w.heap.size ((xs.length + ys.length) * s) cap) (w.heap.push (.cells (olds.toArray ++ (news.toArray ++ Builtin.zeroCells z.cells (cap - (xs.length + ys.length)))) e)) (.tok (xs.length + ys.length) s) := by
   refine HStep.grow R.core.bnd (fun hl=>⟨by simp,fun m' hm'=>?_,fun s' hs'=>?_⟩)
   ·rcases hB with ⟨hd, _⟩ | ⟨hd, hh⟩
    ·exact absurd hd hl
    ·simp [tlen, up_self] at hm'; subst hm'
     have:=R1.le
     exact ⟨xs.length,by simp [tlen,hd],by omega⟩
   ·rcases hB with ⟨hd, _⟩ | ⟨hd, hh⟩
    ·exact absurd hd hl
    ·simp [tstr, up_self] at hs'; subst hs'
     simp [tstr,hd]
  have M:=S.cmap R.core.bnd
  have hcap' : (xs.length + ys.length) * s ≤ cap * s:=Nat.mul_le_mul_right s hcap
  have hzs : (Builtin.zeroCells z.cells (cap - (xs.length + ys.length))).size = cap * s - (xs.length + ys.length) * s := by
   rw [zeroCells_size,hz,Nat.sub_mul]
  refine ⟨_,StepTo.one R S ⟨hs,?_,?_,?_⟩ h0 ?_ ⟨rfl,rfl,rfl⟩⟩
  ·simp [Env.grown,up_self]; exact hcap
  ·simp [Env.grown,up_self]
  ·intro a ha
   simp [Env.grown,up_self] at ha
   subst ha
   refine ⟨rfl,_,e,(0,0),get_push_new,?_,fun o h1 h2=>?_⟩
   ·simp only [Env.grown, up_self, Array.size_append, List.size_toArray, hzs, Nat.zero_add]
    refine ⟨by omega,.inl rfl,?_⟩
    rw [if_pos trivial,if_neg (by omega)]
   ·simp only [Env.grown, up_self, Nat.zero_add, if_true] at h1 h2 ⊢
    rw [if_neg (by omega)]
    simp
  ·have hl : (xs ++ ys).length = xs.length + ys.length := by simp
   refine SlR.vr' hl (s:=s) (cs:=olds ++ news) ⟨(R1.row.keep M).append (R2.keep M),by rw [hl]; exact hcap,by rw [hl]; exact hbd,fun e=>by simp at e,fun a ea=>?_,fun k' ek=>?_⟩
   ·simp at ea; subst ea
    refine ⟨fun _=>rfl,fun q hq=>?_⟩
    rw [hl] at hq
    refine ⟨?_,?_⟩
    ·show _ = Own.fz
     simp only [Env.grown,Nat.zero_add,if_true]
     rw [if_pos hq]
    ·have e1 : (w.drew.alloc (.cells (olds.toArray ++ (news.toArray ++ Builtin.zeroCells z.cells (cap - (xs.length + ys.length)))) e)).heap = w.heap.push (.cells (olds.toArray ++ (news.toArray ++ Builtin.zeroCells z.cells (cap - (xs.length + ys.length)))) e) := rfl
     rw [e1]
     simp only [cellH,get_push_new,Nat.zero_add]
     rw [← Array.append_assoc,Array.getElem?_append]
     have h3 : q < (olds.toArray ++ news.toArray).size:=by simp; omega
     rw [if_pos h3]
     have h4 : q < (olds ++ news).length:=by simp; omega
     rw [List.getD,List.getElem?_eq_getElem h4]
     simp [h4]
   ·simp at ek; subst ek
    refine ⟨by simp [live,up_self],fun m hm=>?_,fun s0 hs0 i hi=>?_⟩
    ·simp [tlen, up_self] at hm
     exact ⟨by simp; omega,fun _=>by simp [Env.grown,up_self]⟩
    ·simp [tstr, up_self] at hs0; subst hs0
     exact ((R1.row.keep M).append (R2.keep M)).each i hi

def byteD (u : UInt8) : List D:=[.v (.int .u8 u.toNat)]

def srcOf : D → Option (List (List D))
 | .nil=>some []
 | .list _ ys=>some ys
 | .v (.string b)=>some (b.data.toList.map byteD)
 | _=>none

theorem src_row {E σ d x ys s} {w : World} (hx : VR E w.heap σ d x) (hd : srcOf d = some ys) (hl : ∀ c ∈ ys, c.length = s) :
  ∃ news,Row E w.heap σ ys s news ∧ (∀ w',(Builtin.lenOf x).run P w' = .ok ys.length w') ∧
   ∀ w' : World,w'.heap = w.heap → (Builtin.firstCells s ys.length x).run P w' = .ok news.toArray w':=by
 have hl' : ∀ i (hi : i < ys.length),ys[i].length = s:=fun i hi=>hl _ (List.getElem_mem hi)
 cases d with
 | nil =>
  simp [srcOf] at hd; subst hd
  obtain ⟨rfl,S⟩:=hx.nil_slr s
  exact ⟨[],S.row,fun w'=>by simp [Builtin.lenOf],fun w' he=>S.firstCells he⟩
 | list t xs =>
  simp [srcOf] at hd; subst hd
  obtain ⟨A,c,cs,rfl,S⟩:=hx.slr s hl'
  exact ⟨cs,S.row,fun w'=>by simp [Builtin.lenOf],fun w' he=>S.firstCells he⟩
 | v y =>
  cases y with
  | string b =>
   simp [srcOf] at hd; subst hd
   have e:=hx.v_inv
   subst e
   have hsz : b.data.size = b.size:=rfl
   refine ⟨b.data.toList.map fun u=>.int .u8 u.toNat,⟨?_,hl',fun i j hi hj=>?_,fun i j hi hj=>?_⟩,fun w'=>by simp [Builtin.lenOf,hsz],fun w' he=>?_⟩
   ·simp
    rcases Nat.eq_zero_or_pos b.data.size with h0|h0
    ·rw [show b.size = 0 from h0]; simp
    ·have := hl' 0 (by simpa using h0)
     simp [byteD] at this
     subst this; simp
   ·simp [byteD] at hj
    subst hj
    have hs1:=hl' i hi
    simp [byteD] at hs1
    subst hs1
    simp at hi
    simp [byteD,List.getD,hi]
    exact .v _
   ·simp [byteD] at hj
    subst hj
    simp [byteD,D.idf]
   ·simp only [Builtin.firstCells, Sem.run_pure, List.length_map]
    congr 1
    have : (b.extract 0 b.data.toList.length).data = b.data:=by simp [ByteArray.data_extract,hsz]
    simp only [this]
    apply Array.ext'
    simp
  | _=>simp [srcOf] at hd
 | _=>simp [srcOf] at hd

theorem append_op (hT : TOk P T) {o : Oper} {t t2 e it i j z x y k ρ σ id xs ys} (ho : o.op = .call { callee := .builtin .append, args := #[x, y], argTypes := #[t, t2] })
  (ht : T t = some it) (hd : it.d = .slice e) (he : T e = some i) (hz : i.zero = some z) (hzs : z.cells.size = i.size) (hs : 0 < i.size) (hb0 : 0 < i.bytes)
  (h2 : T t2 = some j) (hj : isSrc j.d = true)
  (hx : (ev G ρ x = .nil ∧ k = id ∧ σ id = .dead ∧ xs = []) ∨ (ev G ρ x = .list (.tok k) xs ∧ σ k = .tok xs.length i.size))
  (hy : srcOf (ev G ρ y) = some ys) (hl : ∀ c ∈ ys,c.length = i.size) (hb : (xs.length + ys.length) * i.bytes ≤ 140737488355328) :
  OpStep P G o ρ σ id (.list (.tok k) (xs ++ ys)) [(k,.tok (xs.length + ys.length) i.size)] [k]:=by
 intro E a w st R hh hkk h0
 have hvx:=R.evo (ops:=o.op.operands) hh x (by simp [ho,Op.operands,Call.operands])
 have hvy:=R.evo (ops:=o.op.operands) hh y (by simp [ho,Op.operands,Call.operands])
 have hk':=hkk k (by simp)
 obtain ⟨news,R2,hlen,hfirst⟩:=src_row (P:=P) hvy hy hl
 -- the base
 have hbase : ∃ A c olds t', a.eval x = .slice A xs.length c ∧ SlR E w.heap st.σ t' xs i.size A c olds ∧ (∀ o, t'.ow o → o = .fz) ∧ Base st.σ E k xs.length i.size A c ∧ k < st.nx := by
  rcases hx with ⟨h1,rfl,h3,rfl⟩|⟨h1,h3⟩
  ·rw [h1] at hvx
   obtain ⟨e1,S⟩:=hvx.nil_slr i.size
   exact ⟨none,0,[],.nat,e1,S,fun o h=>h,.inl ⟨hk'.trans h3,rfl,rfl,rfl⟩,h0⟩
  ·rw [h1] at hvx
   have hkt : st.σ k = .tok xs.length i.size:=hk'.trans h3
   have hlen' : ∀ q (hq : q < xs.length), xs[q].length = i.size := by
    revert hvx
    generalize a.eval x = vx
    intro hvx
    cases hvx with
    | list _ _ A c s u _ _ _ _ _ _ _ ht'=>exact (ht' k rfl).2.2 i.size (by simp [tstr,hkt])
   obtain ⟨A,c,cs,e1,S⟩:=hvx.slr i.size hlen'
   obtain ⟨_,q2,_⟩:=S.tok k rfl
   refine ⟨A,c,cs,_,e1,S,fun o h=>h,.inr ⟨hkt,(q2 xs.length (by simp [tlen,hkt])).2 rfl⟩,?_⟩
   rcases Nat.lt_or_ge k st.nx with hq|hq
   ·exact hq
   ·have := R.core.dead k hq
    rw [this] at hkt; simp at hkt
 obtain ⟨A,c,olds,t',e1,S1,htk,hB,hk0⟩:=hbase
 have hrun := run_append_gen (P := P) (ty := o.type) hT ht hd he hz h2 hj hb0 (base := A) (sLen := xs.length) (sCap := c) (m := ys.length) (x := a.eval y) (w := w) hlen hfirst
  (fun w' he=>S1.firstCells he) hb
 obtain ⟨h1,h2'⟩:=append_step (P:=P) (cap:=grownCap w (xs.length + ys.length) c e) (e:=e) (z:=z) R htk hk0 hs hB S1 R2 hzs (Nat.le_trans (Nat.le_mul_of_pos_right _ hb0) hb)
 by_cases hfit : xs.length + ys.length ≤ c
 ·obtain ⟨E', w', hw, S⟩ := h1 hfit
  rw [if_pos hfit,hw] at hrun
  refine opwp_value (v:=.slice A (xs.length + ys.length) c) (w':=w') ?_ ⟨E',_,rfl,S⟩
  simp [execOp,ho,resolve,invoke,builtin,e1]
  rw [hrun]; simp
 ·have hcap : xs.length + ys.length ≤ grownCap w (xs.length + ys.length) c e := by
   unfold grownCap Question.cut
   exact Nat.le_add_right _ _
  obtain ⟨E',S⟩:=h2' hfit hcap
  rw [if_neg hfit] at hrun
  refine opwp_value ?_ ⟨E',_,rfl,S⟩
  simp [execOp,ho,resolve,invoke,builtin,e1]
  rw [hrun]; simp

end Go.AL

namespace Go.AL
open Go
variable {P : Program} {G : Glob} {T : Tab}

def partsOk (s : Nat) : Nat → List (Nat × List D) → Bool
 | _,[]=>true
 | n,(i,cs) :: r=>Nat.beq i n && Nat.beq cs.length s && cs.all D.idf && partsOk s (n + 1) r

theorem fill_row {E h σ} {s : Nat} : ∀ (ds : List (Nat × List D)) (vs : List (Nat × Value)) (n : Nat) (acc rest : List Value),
  partsOk s n ds = true → vs.length = ds.length → (∀ i (a : i < ds.length) (b : i < vs.length),vs[i].1 = ds[i].1 ∧ VRs E h σ ds[i].2 vs[i].2.cells.toList) →
  acc.length = n * s → rest.length = ds.length * s →
  ∃ out,Instr.fill (fun i=>some (i * s,s)) (acc ++ rest).toArray vs = some out ∧ ∃ news,out.toList = acc ++ news ∧ Row E h σ (ds.map (·.2)) s news
 | [],vs,n,acc,rest,hp,hl,hv,ha,hr=>by
  have : vs = []:=by simpa using hl
  subst this
  simp at hr
  subst hr
  exact ⟨_,rfl,[],by simp,Row.nil _ _ _ _⟩
 | (i,cs) :: ds,[],n,acc,rest,hp,hl,hv,ha,hr=>by simp at hl
 | (i, cs) :: ds, (j, v) :: vs, n, acc, rest, hp, hl, hv, ha, hr => by
  simp only [partsOk,Bool.and_eq_true] at hp
  obtain ⟨⟨⟨hi,hc⟩,hf⟩,hp'⟩:=hp
  have hi:=Nat.eq_of_beq_eq_true hi
  have hc:=Nat.eq_of_beq_eq_true hc
  obtain ⟨e0,hv0⟩:=hv 0 (by simp) (by simp)
  simp at e0 hv0
  subst e0
  subst hi
  have hcl : v.cells.toList.length = s:=by rw [hv0.1,hc]
  have hcs : v.cells.size = s:=by simpa using hcl
  simp only [List.length_cons] at hr
  have hr' : rest.length = ds.length * s + s:=by rw [hr,Nat.add_mul]; omega
  have hfold : ∀ (l : List Value) (k0 : Nat) (m : Nat) (us : Array Value), (l.zipIdx k0).foldl (fun cs (p : Value × Nat) => cs.setIfInBounds (m + p.2) p.1) us = writeAt us (m + k0) l := by
   intro l
   induction l with
   | nil=>intro k0 m us; simp [writeAt]
   | cons x l ih=>intro k0 m us; simp only [List.zipIdx_cons,List.foldl_cons,writeAt]; rw [ih]; simp [Nat.add_assoc]
  have hw : v.cells.zipIdx.foldl (fun cs (p : Value × Nat) => cs.setIfInBounds (j * s + p.2) p.1) (acc ++ rest).toArray = ((acc ++ v.cells.toList) ++ rest.drop s).toArray := by
   rw [← Array.foldl_toList,Array.toList_zipIdx,hfold]
   apply Array.ext'
   rw [writeAt_toList (by simp [ha,hr',hcs])]
   simp only [Nat.add_zero]
   rw [List.take_append_of_le_length (by omega),List.take_of_length_le (by omega)]
   rw [List.drop_append,List.drop_of_length_le (by omega)]
   simp [hcs,ha]
  have hsz : ¬ (v.cells.size ≠ s ∨ (acc ++ rest).toArray.size < j * s + v.cells.size) := by
   simp [hcs,ha,hr']
  obtain ⟨out, ho, news, hn, hR⟩ := fill_row (E := E) (h := h) (σ := σ) ds vs (j + 1) (acc ++ v.cells.toList) (rest.drop s) hp' (by simpa using hl)
   (fun i a b=>hv (i + 1) (by simpa using a) (by simpa using b)) (by simp [ha,hcs,Nat.add_mul]) (by simp [hr'])
  refine ⟨out,?_,v.cells.toList ++ news,by simp [hn],?_⟩
  ·simp only [Instr.fill]
   rw [if_neg (by simpa using hsz)]
   have:=hw
   rw [show (Array.foldl (fun cs x=>match x with|(c,j_1)=>cs.setIfInBounds (j * s + j_1) c) (acc ++ rest).toArray v.cells.zipIdx) = ((acc ++ v.cells.toList) ++ rest.drop s).toArray from this]
   exact ho
  ·have h1 : Row E h σ [cs] s v.cells.toList := by
    refine ⟨by simp [hcs],fun q hq=>?_,fun q r hq hr=>?_,fun q r hq hr=>?_⟩
    ·simp at hq; subst hq; simpa using hc
    ·simp at hq; subst hq
     simp at hr
     have:=hv0.2 r hr (by omega)
     have h2 : r < v.cells.size:=by omega
     simpa [List.getD,h2] using this
    ·simp at hq; subst hq
     simp at hr
     exact List.all_eq_true.1 hf _ (List.getElem_mem hr)
   have:=h1.append hR
   simpa using this

theorem buildSlice_op (hT : TOk P T) {o : Oper} {t n ps e it i z ρ σ id} (ho : o.op = .buildSlice t n ps) (ht : T t = some it) (hd : it.d = .slice e) (he : T e = some i)
  (hz : i.zero = some z) (hzs : z.cells.size = i.size) (hs : 0 < i.size) (hid : σ id = .dead) (hn : ps.size = n) (hbig : n * i.size ≤ 16777216)
  (hb : ∀ p ∈ ps,(ev G ρ p.2).boxable = true)
  (hp : partsOk i.size 0 (ps.toList.map fun p=>(p.1,(toCells (ev G ρ p.2)).map D.frz1)) = true) :
  OpStep P G o ρ σ id (.list (.tok id) (ps.toList.map fun p=>(toCells (ev G ρ p.2)).map D.frz1)) [(id,.tok n i.size)] []:=by
 intro E a w st R hh hk h0
 have hid':=(hk id (.inr (by simp [keysOf]))).trans hid
 have hvs : ∀ q (a1 : q < ps.size), VRs E w.heap st.σ ((toCells (ev G ρ (ps[q]).2)).map D.frz1) (a.eval (ps[q]).2).cells.toList := by
  intro q a1
  have hm : ps[q] ∈ ps:=by simp
  have:=R.evo (ops:=o.op.operands) hh (ps[q]).2 (by simp only [ho,Op.operands]; simp; exact ⟨_,hm⟩)
  exact (Wks.frz1 _).sem _ _ _ _ (this.cells' (hb _ hm))
 obtain ⟨out, h1, news, h2, hR⟩ := fill_row (E := E) (h := w.heap) (σ := st.σ) (s := i.size) (ps.toList.map fun p => (p.1, (toCells (ev G ρ p.2)).map D.frz1))
  (ps.toList.map fun p=>(p.1,a.eval p.2)) 0 [] ((List.range (n * i.size)).map fun q=>z.cells[q % z.cells.size]!) hp (by simp) (fun q a1 a2=>by simpa using hvs q (by simpa using a1)) (by simp) (by simp [hn])
 have hxs : (List.map (fun x=>x.2) (List.map (fun p=>(p.1,(toCells (ev G ρ p.2)).map D.frz1)) ps.toList)) = (ps.toList.map fun p=>(toCells (ev G ρ p.2)).map D.frz1):=by simp
 rw [hxs] at hR
 simp at h2
 obtain ⟨S0,_⟩ : (∃ x : Nat,x = 0) ∧ True:=⟨⟨0,rfl⟩,trivial⟩
 have hlen : (ps.toList.map fun p=>(toCells (ev G ρ p.2)).map D.frz1).length = n:=by simp [hn]
 -- the new block
 have S : HStep id E w.heap st.σ (E.grown id w.heap.size (n * i.size) n) (w.heap.push (.cells out e)) (.tok n i.size) :=
  HStep.grow R.core.bnd (fun hl=>absurd hid' hl)
 have M:=S.cmap R.core.bnd
 have hnl : news.length = n * i.size:=by rw [hR.len,hlen]
 refine opwp_value (v:=.slice (some ⟨w.heap.size,0,none⟩) n n) (w':={ w with heap:=w.heap.push (.cells out e) }) ?_ ⟨_,_,rfl,StepTo.one R S ⟨hs,?_,?_,?_⟩ h0 ?_ ⟨rfl,rfl,rfl⟩⟩
 ·have hparts : (Array.map (fun x => match x with | (i, x) => (i, a.eval x)) ps).toList = ps.toList.map fun p => (p.1, a.eval p.2) := by simp
  have hrange : ((Array.range (n * i.size)).map (fun x => z.cells[x % z.cells.size]!)) = ((List.range (n * i.size)).map fun q => z.cells[q % z.cells.size]!).toArray := by
   apply Array.ext'; simp
  have hund : ∀ w',(underlying t).run P w' = .ok (.slice e) w':=fun w'=>by rw [run_und hT w' ht,hd]
  have hz' : ¬ 16777216 < n * i.size:=by omega
  simp only [execOp,ho,Instr.buildSlice,Sem.run_bind,hund,Result.andThen_ok,run_size hT w he]
  rw [if_neg (by simpa using hz')]
  simp only [Sem.run_pure,Result.andThen_ok]
  by_cases h00 : n * i.size = 0
  ·have hempty : ∀ f : Nat → Value, (Array.range (n * i.size)).map f = #[] := by intro f; simp [h00]
   have h1' : Instr.fill (fun q => some (q * i.size, i.size)) #[] (ps.toList.map fun p => (p.1, a.eval p.2)) = some out := by
    simpa [h00] using h1
   simp only [h00,if_true]
   rw [hparts]
   simp only [Sem.run_bind,Sem.run_pure,Result.andThen_ok]
   rw [show (Array.map (fun x=>(#[] : Array Value)[x % (#[] : Array Value).size]!) (Array.range 0)) = #[] by simp]
   rw [h1']
   simp [newRow]
  ·simp only [h00, if_false]
   rw [hparts]
   simp only [Sem.run_bind,Sem.run_pure,Result.andThen_ok]
   rw [run_zero hT w he hz]
   simp only [Result.andThen_ok]
   rw [hrange]
   simp only [List.nil_append] at h1
   rw [h1]
   simp [newRow]
 ·simp [Env.grown,up_self]
 ·simp [Env.grown,up_self]
 ·intro a ha
  simp [Env.grown,up_self] at ha
  subst ha
  refine ⟨rfl,_,e,(0,0),get_push_new,?_,fun o h1 h2=>?_⟩
  ·have : out.size = n * i.size := by rw [← hnl, ← h2]; simp
   simp [Env.grown,up_self,this,Fz]
  ·simp only [Env.grown, up_self, Nat.zero_add] at h1 h2
   omega
 ·refine SlR.vr' hlen (s := i.size) (cs := news) ⟨hR.keep M, by rw [hlen]; exact Nat.le_refl _, by rw [hlen]; have := Nat.le_mul_of_pos_right n hs; omega, fun e => by simp at e, fun a ea => ?_, fun k' ek => ?_⟩
  ·simp at ea; subst ea
   refine ⟨fun _=>rfl,fun q hq=>?_⟩
   rw [hlen] at hq
   refine ⟨by simp [Env.grown,hq,Tg.ow],?_⟩
   simp only [cellH,get_push_new,Nat.zero_add]
   have h4 : q < news.length:=by omega
   have : out.toList[q]? = news[q]?:=by rw [h2]
   simp at this
   rw [this]
   simp [List.getD,h4]
  ·simp at ek; subst ek
   refine ⟨by simp [live,up_self],fun m hm=>?_,fun s0 hs0 q hq=>?_⟩
   ·simp [tlen, up_self] at hm
    exact ⟨by omega,fun _=>by simp [Env.grown,up_self]⟩
   ·simp [tstr, up_self] at hs0; subst hs0
    exact hR.each q hq

end Go.AL

namespace Go.AL
open Go
variable {P : Program} {G : Glob} {T : Tab}

theorem Rel.ev_v {E w st a} (R : Rel G E w st a) {ρ : Nat → D} {ops : Array Operand} (hx : ∀ x ∈ ops, ev G st.ρ x = ev G ρ x) {x : Operand} {y : Value} (hm : x ∈ ops)
  (h : ev G ρ x = .v y) : a.eval x = y:=by
 have:=R.evo hx x hm
 rw [h] at this; exact this.v_inv

theorem indexAddr_list_op (hT : TOk P T) {o : Oper} {t x y ρ σ id it e i kk n tk xs cs} (ho : o.op = .indexAddr t x y) (ht : T t = some it) (hd : it.d = .slice e) (he : T e = some i)
  (hx : ev G ρ x = .list tk xs) (hy : ev G ρ y = .v (.int kk n)) (h0 : 0 ≤ n) (hg : xs[n.toNat]? = some cs) (hl : cs.length = i.size) : OpStep P G o ρ σ id (.ro cs) [] []:=by
 refine opstep_pure fun E a w st R hh _=>?_
 have hvx:=R.evo (ops:=o.op.operands) hh x (by simp [ho,Op.operands])
 have hey:=R.ev_v (ops:=o.op.operands) hh (x:=y) (by simp [ho,Op.operands]) hy
 rw [hx] at hvx
 have hi : n.toNat < xs.length := by
  rcases Nat.lt_or_ge n.toNat xs.length with h|h
  ·exact h
  ·simp [List.getElem?_eq_none h] at hg
 have hcs : xs[n.toNat] = cs:=by simpa [hi] using hg
 revert hvx
 generalize hex : a.eval x = vx
 intro hvx
 cases hvx with
 | list _ _ A c s u hc hb hs hn ha hv hf ht' =>
  have hss : s = i.size:=by rw [← hs n.toNat hi,hcs,hl]
  subst hss
  cases A with
  | none=>have:=(hn rfl).1; subst this; simp at hi
  | some ad =>
   obtain ⟨b,off,spot⟩:=ad
   obtain ⟨sp,hr⟩:=ha _ rfl
   have sp:=sp (fun e=>by subst e; simp at hi)
   simp at sp; subst sp
   refine ⟨.pointer (some ⟨b,off + n.toNat * i.size,none⟩),?_,?_⟩
   ·have hlt : n < xs.length := by omega
    have hund : ∀ w',(underlying t).run P w' = .ok (.slice e) w':=fun w'=>by rw [run_und hT w' ht,hd]
    simp [execOp,ho,hex,hey,Instr.indexAt,asIntOf,hund,h0,hlt,run_size hT w he,add_none]
   ·subst hcs
    exact .ro _ b _ (fun j=>u n.toNat j) (fun j hj=>⟨Tg.ow_frz (hr n.toNat j hi (by omega)).1,(hr n.toNat j hi (by omega)).2⟩) (fun j hj=>hv n.toNat j hi hj) (fun j hj=>hf n.toNat j hi hj)

theorem indexAddr_ro_op (hT : TOk P T) {o : Oper} {t x y ρ σ id it e len i kk n cs ds} (ho : o.op = .indexAddr t x y) (ht : T t = some it) (hd : it.d = .array len e) (he : T e = some i)
  (hx : ev G ρ x = .ro cs) (hy : ev G ρ y = .v (.int kk n)) (h0 : 0 ≤ n) (hn : n < len) (hds : cs.drop (n.toNat * i.size) = ds) : OpStep P G o ρ σ id (.ro ds) [] []:=by
 refine opstep_pure fun E a w st R hh _=>?_
 have hvx:=R.evo (ops:=o.op.operands) hh x (by simp [ho,Op.operands])
 have hey:=R.ev_v (ops:=o.op.operands) hh (x:=y) (by simp [ho,Op.operands]) hy
 rw [hx] at hvx
 obtain ⟨b,off,e1,hv⟩:=hvx.ro_drop (n.toNat * i.size)
 rw [hds] at hv
 refine ⟨_,?_,hv⟩
 have hund : ∀ w',(underlying t).run P w' = .ok (.array len e) w':=fun w'=>by rw [run_und hT w' ht,hd]
 simp [execOp,ho,e1,hey,Instr.indexAt,asIntOf,hund,h0,hn,run_size hT w he,add_none,Instr.sureAddr]

theorem indexAddr_ptr_op (hT : TOk P T) {o : Oper} {t x y ρ σ id it e len i kk n k off} (ho : o.op = .indexAddr t x y) (ht : T t = some it) (hd : it.d = .array len e) (he : T e = some i)
  (hx : ev G ρ x = .ptr k off) (hy : ev G ρ y = .v (.int kk n)) (h0 : 0 ≤ n) (hn : n < len) : OpStep P G o ρ σ id (.ptr k (off + n.toNat * i.size)) [] []:=by
 refine opstep_pure fun E a w st R hh _=>?_
 have hvx:=R.evo (ops:=o.op.operands) hh x (by simp [ho,Op.operands])
 have hey:=R.ev_v (ops:=o.op.operands) hh (x:=y) (by simp [ho,Op.operands]) hy
 rw [hx] at hvx
 obtain ⟨e1,hl⟩:=hvx.ptr_inv
 refine ⟨_,?_,.ptr k _ hl⟩
 have hund : ∀ w',(underlying t).run P w' = .ok (.array len e) w':=fun w'=>by rw [run_und hT w' ht,hd]
 simp [execOp,ho,e1,hey,Instr.indexAt,asIntOf,hund,h0,hn,run_size hT w he,add_none,Instr.sureAddr]

theorem index_string_op (hT : TOk P T) {o : Oper} {t x y ρ σ id it kk n s b} (ho : o.op = .index t x y) (ht : T t = some it) (hd : it.d = .string)
  (hx : ev G ρ x = .v (.string s)) (hy : ev G ρ y = .v (.int kk n)) (h0 : 0 ≤ n) (hg : s.data.toList[n.toNat]? = some b) : OpStep P G o ρ σ id (.v (.int .u8 b.toNat)) [] []:=by
 refine opstep_pure fun E a w st R hh _=>?_
 have hex:=R.ev_v (ops:=o.op.operands) hh (x:=x) (by simp [ho,Op.operands]) hx
 have hey:=R.ev_v (ops:=o.op.operands) hh (x:=y) (by simp [ho,Op.operands]) hy
 refine ⟨_,?_,.v _⟩
 have hund : ∀ w',(underlying t).run P w' = .ok .string w':=fun w'=>by rw [run_und hT w' ht,hd]
 have hlt : n.toNat < s.data.size := by
  rcases Nat.lt_or_ge n.toNat s.data.toList.length with h|h
  ·simpa using h
  ·simp only [List.getElem?_eq_none h] at hg; simp at hg
 have hgb : s[n.toNat]? = some b := by
  have : n.toNat < s.size:=hlt
  rw [getElem?_pos s n.toNat this,← hg,Array.getElem?_toList,getElem?_pos s.data n.toNat hlt]; rfl
 simp [execOp,ho,hex,hey,Instr.index,asIntOf,hund,h0,hgb]

def lenD (σ : Store) : D → Option (Nat × List Nat)
 | .v (.string s)=>some (s.size,[])
 | .nil=>some (0,[])
 | .list _ xs=>some (xs.length,[])
 | .slist xs=>some (xs.length,[])
 | .sl _ _ _ n=>some (n,[])
 | .v (.map none)=>some (0,[])
 | .map k=>match σ k with|.map es=>some (es.length,[k])|_=>none
 | _=>none

def isLen : TypeDesc → D → Bool
 | .string,.v (.string _)=>true
 | .slice _,.nil=>true
 | .slice _,.list _ _=>true
 | .slice _,.slist _=>true
 | .slice _,.sl _ _ _ _=>true
 | .map _ _,.v (.map none)=>true
 | .map _ _,.map _=>true
 | _,_=>false

theorem len_op (hT : TOk P T) {o : Oper} {t x ρ σ id it n rds} (ho : o.op = .call { callee := .builtin .len, args := #[x], argTypes := #[t] }) (ht : T t = some it)
  (hl : lenD σ (ev G ρ x) = some (n,rds)) (hk : isLen it.d (ev G ρ x) = true) : OpStep P G o ρ σ id (.v (.int .i64 n)) [] rds:=by
 refine opstep_pure fun E a w st R hh hr=>⟨_,?_,.v _⟩
 have hvx:=R.evo (ops:=o.op.operands) hh x (by simp [ho,Op.operands,Call.operands])
 have hund : ∀ w',(underlying t).run P w' = .ok it.d w':=fun w'=>run_und hT w' ht
 revert hl hk hvx
 generalize ev G ρ x = dx
 generalize hex : a.eval x = vx
 intro hl hk hvx
 revert hk hund
 cases hvx with
 | v =>
  cases vx with
  | string s =>
   simp [lenD] at hl; obtain ⟨rfl,rfl⟩:=hl
   cases it.d <;> simp [isLen]
   intro hund
   simp [execOp,ho,resolve,invoke,builtin,hex,Builtin.len_,hund,goInt]
  | map r =>
   cases r with
   | none =>
    simp [lenD] at hl; obtain ⟨rfl,rfl⟩:=hl
    cases it.d <;> simp [isLen]
    intro hund
    simp [execOp,ho,resolve,invoke,builtin,hex,Builtin.len_,hund,goInt]
   | some r=>simp [lenD] at hl
  | _=>simp [lenD] at hl
 | nil =>
  simp [lenD] at hl; obtain ⟨rfl,rfl⟩:=hl
  cases it.d <;> simp [isLen]
  intro hund
  simp [execOp,ho,resolve,invoke,builtin,hex,Builtin.len_,hund,goInt]
 | list t' xs A c s u hc hb hs hn ha hv hf ht' =>
  simp [lenD] at hl; obtain ⟨rfl,rfl⟩:=hl
  cases it.d <;> simp [isLen]
  intro hund
  simp [execOp,ho,resolve,invoke,builtin,hex,Builtin.len_,hund,goInt]
 | slist xs A c s u hc hb hs hn ha hv hf =>
  simp [lenD] at hl; obtain ⟨rfl,rfl⟩:=hl
  cases it.d <;> simp [isLen]
  intro hund
  simp [execOp,ho,resolve,invoke,builtin,hex,Builtin.len_,hund,goInt]
 | sl k g off m A c hk ht' =>
  simp [lenD] at hl; obtain ⟨rfl,rfl⟩:=hl
  cases it.d <;> simp [isLen]
  intro hund
  simp [execOp,ho,resolve,invoke,builtin,hex,Builtin.len_,hund,goInt]
 | map k hk =>
  simp only [lenD] at hl
  split at hl
  ·rename_i es hes
   simp at hl; obtain ⟨rfl,rfl⟩:=hl
   have hO:=R.core.objs k
   rw [hr k (by simp),hes] at hO
   obtain ⟨ents,clk,hb,hlen,_,_⟩:=hO
   cases it.d <;> simp [isLen]
   intro hund
   simp [execOp,ho,resolve,invoke,builtin,hex,Builtin.len_,hund,goInt,getObj,Sem.run,hb,hlen]
  ·simp at hl
 | _=>simp [lenD] at hl

def intBin (op : BinOp) (k : IntKind) (x y : Int) : Option Int :=
 match op with
 | .add=>some (k.wrap (x + y))
 | .sub=>some (k.wrap (x - y))
 | .mul=>some (k.wrap (x * y))
 | .quo=>if y = 0 then none else some (k.wrap (x.tdiv y))
 | .rem=>if y = 0 then none else some (x.tmod y)
 | .and=>some (k.wrap ((BitVec.ofInt k.bits x &&& BitVec.ofInt k.bits y).toNat))
 | .or=>some (k.wrap ((BitVec.ofInt k.bits x ||| BitVec.ofInt k.bits y).toNat))
 | .xor=>some (k.wrap ((BitVec.ofInt k.bits x ^^^ BitVec.ofInt k.bits y).toNat))
 | _=>none

def intCmpB (op : BinOp) (x y : Int) : Option Bool :=
 match op with
 | .eql=>some (x == y)
 | .neq=>some (x != y)
 | .lss=>some (decide (x < y))
 | .leq=>some (decide (x ≤ y))
 | .gtr=>some (decide (y < x))
 | .geq=>some (decide (y ≤ x))
 | _=>none

theorem intBin_op {o : Oper} {op t x y t2 ρ σ id k a' b' c} (ho : o.op = .binOp op t x y t2) (hx : ev G ρ x = .v (.int k a')) (hy : ev G ρ y = .v (.int k b'))
  (hc : intBin op k a' b' = some c) : OpStep P G o ρ σ id (.v (.int k c)) [] []:=by
 refine opstep_pure fun E a w st R hh hr=>⟨_,?_,.v _⟩
 have hex:=R.ev_v (ops:=o.op.operands) hh (x:=x) (by simp [ho,Op.operands]) hx
 have hey:=R.ev_v (ops:=o.op.operands) hh (x:=y) (by simp [ho,Op.operands]) hy
 cases op <;> simp only [intBin,Option.some.injEq,reduceCtorEq] at hc
 case quo =>
  split at hc
  ·simp at hc
  ·rename_i h0; simp at hc; subst hc
   simp [execOp,ho,hex,hey,eqGuard,binOp,Op.intDiv,h0]
 case rem =>
  split at hc
  ·simp at hc
  ·rename_i h0; simp at hc; subst hc
   simp [execOp,ho,hex,hey,eqGuard,binOp,Op.intDiv,h0]
 all_goals (subst hc; simp [execOp,ho,hex,hey,eqGuard,binOp,Op.intArith,Op.intBits])

theorem intCmp_op {o : Oper} {op t x y t2 ρ σ id k a' b' c} (ho : o.op = .binOp op t x y t2) (hx : ev G ρ x = .v (.int k a')) (hy : ev G ρ y = .v (.int k b'))
  (hc : intCmpB op a' b' = some c) : OpStep P G o ρ σ id (.v (.bool c)) [] []:=by
 refine opstep_pure fun E a w st R hh hr=>⟨_,?_,.v _⟩
 have hex:=R.ev_v (ops:=o.op.operands) hh (x:=x) (by simp [ho,Op.operands]) hx
 have hey:=R.ev_v (ops:=o.op.operands) hh (x:=y) (by simp [ho,Op.operands]) hy
 cases op <;> simp only [intCmpB,Option.some.injEq,reduceCtorEq] at hc
 all_goals (subst hc; simp [execOp,ho,hex,hey,eqGuard,binOp,Op.intCmp])

def shiftB (op : BinOp) (k : IntKind) (x y : Int) : Option Int :=
 match op with
 | .shl=>if y < 0 then none else some (k.wrap (x * 2 ^ (min y.toNat k.bits)))
 | .shr=>if y < 0 then none else some (x.fdiv (2 ^ (min y.toNat k.bits)))
 | _=>none

theorem shift_op {o : Oper} {op t x y t2 ρ σ id k k2 a' b' c} (ho : o.op = .binOp op t x y t2) (hx : ev G ρ x = .v (.int k a')) (hy : ev G ρ y = .v (.int k2 b'))
  (hc : shiftB op k a' b' = some c) : OpStep P G o ρ σ id (.v (.int k c)) [] []:=by
 refine opstep_pure fun E a w st R hh hr=>⟨_,?_,.v _⟩
 have hex:=R.ev_v (ops:=o.op.operands) hh (x:=x) (by simp [ho,Op.operands]) hx
 have hey:=R.ev_v (ops:=o.op.operands) hh (x:=y) (by simp [ho,Op.operands]) hy
 cases op <;> simp only [shiftB,reduceCtorEq] at hc
 all_goals
  split at hc
  ·simp at hc
  ·rename_i h0
   simp at hc; subst hc
   simp [execOp,ho,hex,hey,eqGuard,binOp,Op.shift,h0]

theorem bytes_eq_iff (x y : ByteArray) : (x.toList == y.toList) = decide (x = y) := by
 rw [ByteArray.toList_eq,ByteArray.toList_eq]
 by_cases h : x = y
 ·subst h; simp
 ·have : x.data.toList ≠ y.data.toList := fun e => h (by cases x; cases y; simp only [ByteArray.mk.injEq]; exact Array.ext' e)
  simp only [h,decide_false,beq_eq_false_iff_ne,ne_eq]; exact this

theorem bytes_dec (x y : ByteArray) : decide (x.data.toList = y.data.toList) = decide (x = y) := by
 by_cases h : x = y
 ·subst h; simp
 ·have : x.data.toList ≠ y.data.toList := fun e => h (by cases x; cases y; simp only [ByteArray.mk.injEq]; exact Array.ext' e)
  rw [decide_eq_false h,decide_eq_false this]

def strCmp (op : BinOp) (x y : ByteArray) : Option Bool :=
 match op with
 | .eql=>some (decide (x.data.toList = y.data.toList))
 | .neq=>some (!decide (x.data.toList = y.data.toList))
 | .lss=>some (Op.bytesLess x.data.toList y.data.toList)
 | .leq=>some (Op.bytesLess x.data.toList y.data.toList || decide (x.data.toList = y.data.toList))
 | .gtr=>some (!(Op.bytesLess x.data.toList y.data.toList || decide (x.data.toList = y.data.toList)))
 | .geq=>some (!Op.bytesLess x.data.toList y.data.toList)
 | _=>none

theorem strCmp_op {o : Oper} {op t x y t2 ρ σ id a' b' c} (ho : o.op = .binOp op t x y t2) (hx : ev G ρ x = .v (.string a')) (hy : ev G ρ y = .v (.string b'))
  (hc : strCmp op a' b' = some c) : OpStep P G o ρ σ id (.v (.bool c)) [] []:=by
 refine opstep_pure fun E a w st R hh hr=>⟨_,?_,.v _⟩
 have hex:=R.ev_v (ops:=o.op.operands) hh (x:=x) (by simp [ho,Op.operands]) hx
 have hey:=R.ev_v (ops:=o.op.operands) hh (x:=y) (by simp [ho,Op.operands]) hy
 cases op <;> simp only [strCmp,bytes_dec,Option.some.injEq,reduceCtorEq] at hc
 all_goals (subst hc; simp [execOp,ho,hex,hey,eqGuard,binOp,Op.stringOp,bytes_eq_iff,ByteArray.toList_eq])
 all_goals (rw [← bytes_eq_iff]; simp [ByteArray.toList_eq])

theorem strAdd_op {o : Oper} {t x y t2 ρ σ id a' b' c} (ho : o.op = .binOp .add t x y t2) (hx : ev G ρ x = .v (.string a')) (hy : ev G ρ y = .v (.string b'))
  (hb : a'.size + b'.size ≤ 9223372036854775807) (hc : a' ++ b' = c) : OpStep P G o ρ σ id (.v (.string c)) [] []:=by
 refine opstep_pure fun E a w st R hh hr=>⟨_,?_,.v _⟩
 have hex:=R.ev_v (ops:=o.op.operands) hh (x:=x) (by simp [ho,Op.operands]) hx
 have hey:=R.ev_v (ops:=o.op.operands) hh (x:=y) (by simp [ho,Op.operands]) hy
 subst hc
 have hm : ¬ IntKind.i64.max < (a'.size : Int) + (b'.size : Int) := by
  have : IntKind.i64.max = 9223372036854775807:=by decide
  rw [this]; omega
 simp [execOp,ho,hex,hey,eqGuard,binOp,Op.stringOp,hm]
 omega

theorem not_op {o : Oper} {t x ρ σ id b} (ho : o.op = .unOp .not t x) (hx : ev G ρ x = .v (.bool b)) : OpStep P G o ρ σ id (.v (.bool (!b))) [] [] := by
 refine opstep_pure fun E a w st R hh hr=>⟨_,?_,.v _⟩
 have hex:=R.ev_v (ops:=o.op.operands) hh (x:=x) (by simp [ho,Op.operands]) hx
 simp [execOp,ho,hex,Op.unary]

theorem neg_op {o : Oper} {t x ρ σ id k n c} (ho : o.op = .unOp .neg t x) (hx : ev G ρ x = .v (.int k n)) (hc : k.wrap (0 - n) = c) : OpStep P G o ρ σ id (.v (.int k c)) [] [] := by
 refine opstep_pure fun E a w st R hh hr=>⟨_,?_,.v _⟩
 have hex:=R.ev_v (ops:=o.op.operands) hh (x:=x) (by simp [ho,Op.operands]) hx
 subst hc
 simp [execOp,ho,hex,Op.unary,Op.intArith]

theorem convInt_op (hT : TOk P T) {o : Oper} {s t x ρ σ id is it k k' n c} (ho : o.op = .convert s t x) (hs : T s = some is) (ht : T t = some it) (hd : it.d = .int k')
  (hx : ev G ρ x = .v (.int k n)) (hc : k'.wrap n = c) : OpStep P G o ρ σ id (.v (.int k' c)) [] []:=by
 refine opstep_pure fun E a w st R hh hr=>⟨_,?_,.v _⟩
 have hex:=R.ev_v (ops:=o.op.operands) hh (x:=x) (by simp [ho,Op.operands]) hx
 subst hc
 have h2 : ∀ w',(underlying t).run P w' = .ok (.int k') w':=fun w'=>by rw [run_und hT w' ht,hd]
 simp [execOp,ho,hex,convert,run_und hT _ hs,h2,Conv.intToInt]

def minmax (b : Builtin) (x y : Int) : Option Int :=
 match b with
 | .max=>some (if y > x then y else x)
 | .min=>some (if y < x then y else x)
 | _=>none

theorem minmax_op {o : Oper} {b x y ts ρ σ id k n m c} (ho : o.op = .call { callee := .builtin b, args := #[x, y], argTypes := ts })
  (hx : ev G ρ x = .v (.int k n)) (hy : ev G ρ y = .v (.int k m)) (hc : minmax b n m = some c) : OpStep P G o ρ σ id (.v (.int k c)) [] []:=by
 refine opstep_pure fun E a w st R hh hr=>⟨_,?_,.v _⟩
 have hex:=R.ev_v (ops:=o.op.operands) hh (x:=x) (by simp [ho,Op.operands,Call.operands]) hx
 have hey:=R.ev_v (ops:=o.op.operands) hh (x:=y) (by simp [ho,Op.operands,Call.operands]) hy
 cases b <;> simp only [minmax,reduceCtorEq,Option.some.injEq] at hc
 all_goals
  subst hc
  simp [execOp,ho,hex,hey,resolve,invoke,builtin,Builtin.max_,Builtin.min_,Builtin.max2,Builtin.min2]

theorem extract_op {o : Oper} {x n ρ σ id cs d} (ho : o.op = .extract x n) (hx : ev G ρ x = .tuple cs) (hd : cs[n]? = some d) : OpStep P G o ρ σ id d [] [] := by
 refine opstep_pure fun E a w st R hh hr=>?_
 have hvx:=R.evo (ops:=o.op.operands) hh x (by simp [ho,Op.operands])
 rw [hx] at hvx
 obtain ⟨us,e,l,f⟩:=hvx.tuple_inv
 have hn : n < cs.length := by
  rcases Nat.lt_or_ge n cs.length with h|h
  ·exact h
  ·simp [List.getElem?_eq_none h] at hd
 have hn' : n < us.length:=by omega
 refine ⟨us[n],?_,?_⟩
 ·simp [execOp,ho,e,Instr.extract,hn']
 ·have := f n hn hn'
  have e2 : cs[n] = d:=by simpa [hn] using hd
  rw [e2] at this; exact this

end Go.AL

namespace Go.AL
open Go
variable {P : Program} {G : Glob} {T : Tab}

theorem cap_nil_op (hT : TOk P T) {o : Oper} {t x ρ σ id it e} (ho : o.op = .call { callee := .builtin .cap, args := #[x], argTypes := #[t] }) (ht : T t = some it) (hd : it.d = .slice e)
  (hx : ev G ρ x = .nil) : OpStep P G o ρ σ id (.v (.int .i64 0)) [] []:=by
 refine opstep_pure fun E a w st R hh hr=>⟨_,?_,.v _⟩
 have hvx:=R.evo (ops:=o.op.operands) hh x (by simp [ho,Op.operands,Call.operands])
 rw [hx] at hvx
 obtain ⟨e1,_⟩:=hvx.nil_slr 1
 have hund : ∀ w',(underlying t).run P w' = .ok (.slice e) w':=fun w'=>by rw [run_und hT w' ht,hd]
 simp [execOp,ho,resolve,invoke,builtin,e1,Builtin.cap_,hund,goInt]

def bnd (G : Glob) (ρ : Nat → D) (d : Nat) : Option Operand → Option Int
 | none=>some d
 | some x=>match ev G ρ x with
  | .v (.int _ n)=>some n
  | _=>none

theorem bnd_eval {E w st a} (R : Rel G E w st a) {ρ : Nat → D} {ops : Array Operand} (hx : ∀ x ∈ ops, ev G st.ρ x = ev G ρ x) {d : Nat} {b : Option Operand} {n : Int}
  (hm : ∀ x,b = some x → x ∈ ops) (h : bnd G ρ d b = some n) : (b = none ∧ n = d) ∨ ∃ x k,b = some x ∧ a.eval x = .int k n:=by
 cases b with
 | none=>simp [bnd] at h; exact .inl ⟨rfl,h.symm⟩
 | some x =>
  right
  simp only [bnd] at h
  split at h
  ·rename_i k m hv
   simp at h; subst h
   exact ⟨x,k,rfl,R.ev_v hx (hm x rfl) hv⟩
  ·simp at h

theorem run_sliceBounds {a : Act} {isS : Bool} {len cap : Nat} {lo hi : Option Operand} {l h : Int} (hl : (lo = none ∧ l = 0) ∨ ∃ x k, lo = some x ∧ a.eval x = .int k l)
  (hh : (hi = none ∧ h = len) ∨ ∃ x k,hi = some x ∧ a.eval x = .int k h) (h0 : 0 ≤ l) (h1 : l ≤ h) (h2 : h ≤ cap) (w : World) :
  (Instr.sliceBounds isS len cap (lo.map a.eval) (hi.map a.eval) none).run P w = .ok (l.toNat,h.toNat,cap) w:=by
 unfold Instr.sliceBounds Instr.sliceBound
 have c2 : (h.toNat : Int) = h:=by omega
 rcases hh with ⟨rfl,rfl⟩|⟨x,k,rfl,hx⟩
 ·rcases hl with ⟨rfl, rfl⟩ | ⟨y, k', rfl, hy⟩
  ·simp
  ·have : 0 ≤ l ∧ l ≤ (len : Int) := ⟨h0, h1⟩
   simp [hy,asIntOf,this]
 ·rcases hl with ⟨rfl, rfl⟩ | ⟨y, k', rfl, hy⟩
  ·have : 0 ≤ h ∧ h ≤ (cap : Int) := ⟨by omega, h2⟩
   simp [hx,asIntOf,this]
  ·have a1 : 0 ≤ h ∧ h ≤ (cap : Int) := ⟨by omega, h2⟩
   have a2 : 0 ≤ l ∧ l ≤ h:=⟨h0,h1⟩
   have a3 : l ≤ max h 0:=by omega
   simp [hx,hy,asIntOf,a1,a2,a3]

theorem slice_string_op (hT : TOk P T) {o : Oper} {t x lo hi ρ σ id it s l h r} (ho : o.op = .slice t x lo hi none) (ht : T t = some it) (hd : it.d = .string) (hx : ev G ρ x = .v (.string s))
  (hl : bnd G ρ 0 lo = some l) (hh : bnd G ρ s.size hi = some h) (h0 : 0 ≤ l) (h1 : l ≤ h) (h2 : h ≤ s.size) (hr : s.extract l.toNat h.toNat = r) :
  OpStep P G o ρ σ id (.v (.string r)) [] []:=by
 refine opstep_pure fun E a w st R hhx _=>⟨_,?_,.v _⟩
 have hex:=R.ev_v (ops:=o.op.operands) hhx (x:=x) (by simp [ho,Op.operands]) hx
 have bl:=bnd_eval R hhx (b:=lo) (fun x e=>by simp [ho,Op.operands,e]) hl
 have bh:=bnd_eval R hhx (b:=hi) (fun x e=>by simp [ho,Op.operands,e]) hh
 have hund : ∀ w',(underlying t).run P w' = .ok .string w':=fun w'=>by rw [run_und hT w' ht,hd]
 have:=run_sliceBounds (P:=P) (isS:=false) (len:=s.size) (cap:=s.size) (lo:=lo) (hi:=hi) (by simpa using bl) bh h0 h1 h2 w
 subst hr
 simp [execOp,ho,hex,Instr.sliceAt,Instr.slice,hund,this]

theorem slice_nil_op (hT : TOk P T) {o : Oper} {t x lo hi ρ σ id it e l h i} (ho : o.op = .slice t x lo hi none) (ht : T t = some it) (hd : it.d = .slice e) (he : T e = some i) (hx : ev G ρ x = .nil)
  (hl : bnd G ρ 0 lo = some l) (hh : bnd G ρ 0 hi = some h) (h0 : l = 0) (h1 : h = 0) : OpStep P G o ρ σ id .nil [] []:=by
 refine opstep_pure fun E a w st R hhx _=>⟨.slice none 0 0,?_,.nil⟩
 have hvx:=R.evo (ops:=o.op.operands) hhx x (by simp [ho,Op.operands])
 rw [hx] at hvx
 obtain ⟨e1,_⟩:=hvx.nil_slr 1
 have bl:=bnd_eval R hhx (b:=lo) (fun x e=>by simp [ho,Op.operands,e]) hl
 have bh:=bnd_eval R hhx (b:=hi) (fun x e=>by simp [ho,Op.operands,e]) hh
 have hund : ∀ w',(underlying t).run P w' = .ok (.slice e) w':=fun w'=>by rw [run_und hT w' ht,hd]
 subst h0; subst h1
 have:=run_sliceBounds (P:=P) (isS:=true) (a:=a) (len:=0) (cap:=0) (lo:=lo) (hi:=hi) (l:=0) (h:=0) bl bh (by omega) (by omega) (by omega) w
 simp [execOp,ho,e1,Instr.sliceAt,Instr.slice,hund,this,run_size hT _ he]

theorem slice_raw_op (hT : TOk P T) {o : Oper} {t x hi ρ σ id it e k n s i} (ho : o.op = .slice t x none hi none) (ht : T t = some it) (hd : it.d = .slice e) (he : T e = some i) (hx : ev G ρ x = .raw k n)
  (hk : σ k = .tok 0 s) (hh : bnd G ρ n hi = some 0) : OpStep P G o ρ σ id (.list (.tok k) []) [] [k]:=by
 refine opstep_pure fun E a w st R hhx hkk=>?_
 have hvx:=R.evo (ops:=o.op.operands) hhx x (by simp [ho,Op.operands])
 rw [hx] at hvx
 have hk':=(hkk k (by simp)).trans hk
 have bh:=bnd_eval R hhx (b:=hi) (fun x e=>by simp [ho,Op.operands,e]) hh
 have hund : ∀ w',(underlying t).run P w' = .ok (.slice e) w':=fun w'=>by rw [run_und hT w' ht,hd]
 revert hvx
 generalize hex : a.eval x = vx
 intro hvx
 cases hvx with
 | raw _ _ A c hl ht' =>
  obtain ⟨hhdr,hnc⟩:=ht' (by simp [tlen,hk'])
  have:=run_sliceBounds (P:=P) (isS:=true) (len:=n) (cap:=c) (lo:=none) (hi:=hi) (l:=0) (h:=0) (.inl ⟨rfl,rfl⟩) bh (by omega) (by omega) (by omega) w
  refine ⟨.slice A 0 c,?_,?_⟩
  ·simp only [Option.map_none] at this
   simp [execOp,ho,hex,Instr.sliceAt,Instr.slice,hund,this,run_size hT _ he]
   cases A with
   | none=>simp
   | some ad=>simp [Addr.add]
  ·have hO := R.core.objs k
   rw [hk'] at hO
   obtain ⟨_,q1,q2,q3⟩:=hO
   rw [hhdr] at q2 q3
   refine SlR.vr (s:=s) (cs:=[]) ⟨Row.nil _ _ _ _,by simp,by simp,fun e=>⟨rfl,by subst e; exact q2 rfl⟩,fun ad e=>⟨?_,fun q hq=>by simp at hq⟩,fun k' e=>?_⟩
   ·subst e; exact fun _=>(q3 ad rfl).1
   ·simp at e; subst e
    refine ⟨hl,fun m hm=>⟨by simp,fun _=>hhdr⟩,fun s0 hs0 i hi=>by simp at hi⟩

theorem slice_list_op (hT : TOk P T) {o : Oper} {t x lo hi ρ σ id it e tk xs l h ys i} (ho : o.op = .slice t x lo hi none) (ht : T t = some it) (hd : it.d = .slice e) (he : T e = some i)
  (hx : ev G ρ x = .list tk xs) (hl : bnd G ρ 0 lo = some l) (hh : bnd G ρ xs.length hi = some h) (h0 : 0 ≤ l) (h1 : l ≤ h) (h2 : h ≤ xs.length) (hlen : ∀ c ∈ xs,c.length = i.size)
  (hy : (xs.take h.toNat).drop l.toNat = ys) : OpStep P G o ρ σ id (.list tk.str ys) [] []:=by
 refine opstep_pure fun E a w st R hhx _=>?_
 have hvx:=R.evo (ops:=o.op.operands) hhx x (by simp [ho,Op.operands])
 rw [hx] at hvx
 obtain ⟨A,c,cs,e1,S⟩:=hvx.slr i.size (fun q hq=>hlen _ (List.getElem_mem hq))
 have bl:=bnd_eval R hhx (b:=lo) (fun x e=>by simp [ho,Op.operands,e]) hl
 have bh:=bnd_eval R hhx (b:=hi) (fun x e=>by simp [ho,Op.operands,e]) hh
 have hund : ∀ w',(underlying t).run P w' = .ok (.slice e) w':=fun w'=>by rw [run_und hT w' ht,hd]
 have hle:=S.le
 have:=run_sliceBounds (P:=P) (isS:=true) (len:=xs.length) (cap:=c) (lo:=lo) (hi:=hi) (by simpa using bl) bh h0 h1 (by omega) w
 obtain ⟨ln,hln⟩ : ∃ n : Nat,l = n:=⟨l.toNat,by omega⟩
 obtain ⟨hn,hhn⟩ : ∃ n : Nat,h = n:=⟨h.toNat,by omega⟩
 subst hln; subst hhn
 simp only [Int.toNat_natCast] at this hy
 have hyl : ys.length = hn - ln:=by rw [← hy]; simp; omega
 refine ⟨.slice (if c = ln then A else A.map (·.add (ln * i.size))) (hn - ln) (c - ln),?_,?_⟩
 ·simp [execOp,ho,e1,Instr.sliceAt,Instr.slice,hund,this,run_size hT _ he]
 ·rw [← hyl]
  have hg : ∀ q (hq : q < ys.length), ∃ hq' : ln + q < xs.length, ys[q] = xs[ln + q] := by
   intro q hq
   have h3 : ln + q < xs.length:=by omega
   refine ⟨h3,?_⟩
   subst hy
   simp
  have hrow : Row E w.heap st.σ ys i.size ((cs.take (hn * i.size)).drop (ln * i.size)) := by
   refine ⟨?_,fun q hq=>?_,fun q j hq hj=>?_,fun q j hq hj=>?_⟩
   ·have h3 : hn * i.size ≤ xs.length * i.size := Nat.mul_le_mul_right _ (by omega)
    rw [hyl,List.length_drop,List.length_take,S.row.len,Nat.min_eq_left h3,Nat.sub_mul]
   ·obtain ⟨h3,e3⟩:=hg q hq; rw [e3]; exact S.row.each _ h3
   ·obtain ⟨h3, e3⟩ := hg q hq
    have hj' : j < xs[ln + q].length:=by rw [← e3]; exact hj
    have h5:=S.row.vr (ln + q) j h3 hj'
    have hjs : j < i.size:=by rw [← S.row.each _ h3]; exact hj'
    have h6 : ln * i.size + (q * i.size + j) = (ln + q) * i.size + j:=by rw [Nat.add_mul]; omega
    have h7 : (ln + q) * i.size + j < hn * i.size:=mul_lt_row (by omega) hjs
    have : ((cs.take (hn * i.size)).drop (ln * i.size)).getD (q * i.size + j) undef = cs.getD ((ln + q) * i.size + j) undef := by
     simp only [List.getD,List.getElem?_drop,h6,List.getElem?_take,h7,if_true]
    rw [this]
    have h8 : ys[q][j] = xs[ln + q][j]:=by simp only [e3]
    rw [h8]; exact h5
   ·obtain ⟨h3, e3⟩ := hg q hq
    have hj' : j < xs[ln + q].length:=by rw [← e3]; exact hj
    have h8 : ys[q][j] = xs[ln + q][j]:=by simp only [e3]
    rw [h8]; exact S.row.idf _ _ h3 hj'
  refine SlR.vr (s:=i.size) ⟨hrow,by omega,by have:=S.bd; omega,fun e=>?_,fun ad e=>?_,fun k' e=>by cases tk <;> simp [Tg.str] at e⟩
  ·by_cases hc : c = ln
   ·have : hn - ln = 0 := by omega
    exact ⟨List.eq_nil_of_length_eq_zero (by omega),by omega⟩
   ·rw [if_neg hc] at e
    have:=S.nn (by simpa using e)
    obtain ⟨h3,h4⟩:=this
    omega
  ·by_cases hc : c = ln
   ·rw [if_pos hc] at e
    have hy0 : ys.length = 0:=by omega
    refine ⟨fun h=>absurd (List.eq_nil_of_length_eq_zero hy0) h,fun q hq=>?_⟩
    rw [hy0] at hq; simp at hq
   ·rw [if_neg hc] at e
    cases A with
    | none=>simp at e
    | some a0 =>
     simp at e
     obtain ⟨sp,hcell⟩:=S.cells a0 rfl
     obtain ⟨b,off,spot⟩:=a0
     by_cases hxs : xs = []
     ·have hy0 : ys.length = 0 := by rw [hyl]; subst hxs; simp at h2; omega
      refine ⟨fun h=>absurd (List.eq_nil_of_length_eq_zero hy0) h,fun q hq=>?_⟩
      rw [hy0] at hq; simp at hq
     have sp:=sp hxs
     simp at sp; subst sp
     rw [add_none] at e
     subst e
     refine ⟨fun _=>rfl,fun q hq=>?_⟩
     rw [hyl] at hq
     have h3 : ln * i.size + q < hn * i.size := by
      have : (hn - ln) * i.size = hn * i.size - ln * i.size:=Nat.sub_mul _ _ _
      omega
     have h4 : hn * i.size ≤ xs.length * i.size:=Nat.mul_le_mul_right _ (by omega)
     obtain ⟨c1,c2⟩:=hcell (ln * i.size + q) (by omega)
     simp only at c1 c2 ⊢
     rw [← Nat.add_assoc] at c1 c2
     refine ⟨Tg.ow_str c1,c2.trans ?_⟩
     simp only [List.getD,List.getElem?_drop,List.getElem?_take,h3,if_true]

set_option maxRecDepth 20000 in
theorem append_zeros_op (hT : TOk P T) {o : Oper} {t t2 e it i j z x y k2 n ρ σ id} (ho : o.op = .call { callee := .builtin .append, args := #[x, y], argTypes := #[t, t2] })
  (ht : T t = some it) (hd : it.d = .slice e) (he : T e = some i) (hz : i.zero = some z) (hzs : z.cells.size = i.size) (hs : 0 < i.size) (hb0 : 0 < i.bytes)
  (h2 : T t2 = some j) (hj : j.d = .int k2) (hx : ev G ρ x = .nil) (hid : σ id = .dead) (hy : ev G ρ y = .v (.int .i64 n)) (hn : 0 < n) (hb : n.toNat * i.bytes ≤ 140737488355328) :
  OpStep P G o ρ σ id (.raw id n.toNat) [(id,.tok 0 i.size)] [id]:=by
 intro E a w st R hh hkk h0
 have hvx:=R.evo (ops:=o.op.operands) hh x (by simp [ho,Op.operands,Call.operands])
 have hey:=R.ev_v (ops:=o.op.operands) hh (x:=y) (by simp [ho,Op.operands,Call.operands]) hy
 rw [hx] at hvx
 obtain ⟨hex,_⟩:=hvx.nil_slr 1
 have hid':=(hkk id (by simp)).trans hid
 obtain ⟨m,hm⟩ : ∃ m : Nat,n = m:=⟨n.toNat,by omega⟩
 subst hm
 simp only [Int.toNat_natCast] at hb ⊢
 have hm0 : 0 < m:=by omega
 have hmb : m ≤ 140737488355328:=Nat.le_trans (Nat.le_mul_of_pos_right m hb0) hb
 obtain ⟨_,inf,q1,q2,q3,q4⟩:=hT e i he
 have hundt : ∀ w',(underlying t).run P w' = .ok (.slice e) w':=fun w'=>by rw [run_und hT w' ht,hd]
 have hund2 : ∀ w',(underlying t2).run P w' = .ok (.int k2) w':=fun w'=>by rw [run_und hT w' h2,hj]
 have hwrap : IntKind.i64.wrap (m : Int) = m := by
  exact IntWalk.i64_in _ (by omega)
 have hcap : m ≤ grownCap w m 0 e:=by unfold grownCap Question.cut; exact Nat.le_add_right _ _
 have hrun : (Builtin.append_ #[t, t2] o.type #[.slice none 0 0, .int .i64 m]).run P w =
   .ok (.slice (some ⟨w.heap.size,0,none⟩) m (grownCap w m 0 e)) (w.drew.alloc (.cells (Builtin.zeroCells z.cells m ++ Builtin.zeroCells z.cells (grownCap w m 0 e - m)) e)):=by
  have hc1 : Builtin.nextslicecap m 0 * i.bytes ≤ 281474976710656:=growslice_fits hm0 hb
  have hnn : ¬ ((m : Int) < 0):=by omega
  have h48 : ¬ (281474976710656 < (m : Int) * (i.bytes : Int)) := by
   have : ((m * i.bytes : Nat) : Int) ≤ ((140737488355328 : Nat) : Int):=Int.ofNat_le.2 hb
   rw [Int.natCast_mul] at this
   omega
  have hnb : ¬ (281474976710656 < Builtin.nextslicecap m 0 * i.bytes):=by omega
  have hm0' : ¬ m = 0:=by omega
  have h63 : ¬ (9223372036854775807 < (m : Int)):=by omega
  have hms : ¬ (m * i.size = 0) := by
   have:=Nat.mul_pos hm0 hs; omega
  have hmx : max (m : Int) 0 = m:=by omega
  simp [Builtin.append_,hundt,hund2,run_size hT _ he,asInt,asIntOf,hwrap,hnn,typeInfo,q1,q3,h48,hm0',h63,hnb,Question.forced,Builtin.firstCells,hms,zeroValue,q4,hz,newRow,grownCap,hmx]
 have S : HStep id E w.heap st.σ (E.grown id w.heap.size 0 (grownCap w m 0 e)) (w.heap.push (.cells (Builtin.zeroCells z.cells m ++ Builtin.zeroCells z.cells (grownCap w m 0 e - m)) e)) (.tok 0 i.size) :=
  HStep.grow R.core.bnd (fun hl=>absurd hid' hl)
 refine opwp_value (v := .slice (some ⟨w.heap.size, 0, none⟩) m (grownCap w m 0 e)) (w' := w.drew.alloc (.cells (Builtin.zeroCells z.cells m ++ Builtin.zeroCells z.cells (grownCap w m 0 e - m)) e)) ?_
  ⟨_,_,rfl,StepTo.one R S ⟨hs,?_,?_,?_⟩ h0 ?_ ⟨rfl,rfl,rfl⟩⟩
 ·simp [execOp, ho, resolve, invoke, builtin, hex, hey]
  rw [hrun]; simp
 ·simp [Env.grown,up_self]
 ·simp [Env.grown,up_self]
 ·intro ad ha
  simp [Env.grown,up_self] at ha
  subst ha
  refine ⟨rfl,_,e,(0,0),get_push_new,?_,fun o h1 h2=>?_⟩
  ·simp only [Env.grown, up_self, Array.size_append, zeroCells_size, hzs, Nat.zero_add]
   rw [← Nat.add_mul]
   exact ⟨Nat.mul_le_mul_right _ (by omega),.inl rfl,by simp⟩
  ·simp [Env.grown]
 ·refine .raw id m _ _ (by simp [live,up_self]) (fun _=>⟨by simp [Env.grown,up_self],hcap⟩)

end Go.AL

namespace Go.AL
open Go
variable {P : Program} {G : Glob} {T : Tab}

def buildCells (T : Tab) (fs : List Field) : List D → List (Nat × D) → Option (List D)
 | cs,[]=>some cs
 | cs, (i, d) :: r => match fs[i]? with
  | some fd => match T fd.type with
   | some j=>match d.boxable && Nat.beq (toCells d).length j.size && Nat.ble (fd.offset + j.size) cs.length with
    | true=>buildCells T fs (setCells cs fd.offset (toCells d)) r
    | false=>none
   | none=>none
  | none=>none

theorem fill_struct {E h σ} {fs : List Field} {pl : Nat → Option (Nat × Nat)} (hpl : ∀ i fd j, fs[i]? = some fd → T fd.type = some j → pl i = some (fd.offset, j.size)) :
  ∀ (ds : List (Nat × D)) (vs : List (Nat × Value)) (cs : List D) (us : Array Value) (out : List D),buildCells T fs cs ds = some out → vs.length = ds.length →
   (∀ i (a : i < ds.length) (b : i < vs.length),vs[i].1 = ds[i].1 ∧ VR E h σ ds[i].2 vs[i].2) → VRs E h σ cs us.toList →
   ∃ us',Instr.fill pl us vs = some us' ∧ VRs E h σ out us'.toList
 | [],vs,cs,us,out,hb,hl,hv,hu=>by
  have : vs = []:=by simpa using hl
  subst this
  simp [buildCells] at hb; subst hb
  exact ⟨us,rfl,hu⟩
 | (i,d) :: ds,[],cs,us,out,hb,hl,hv,hu=>by simp at hl
 | (i, d) :: ds, (i', v) :: vs, cs, us, out, hb, hl, hv, hu => by
  obtain ⟨e0,hv0⟩:=hv 0 (by simp) (by simp)
  simp at e0 hv0
  subst e0
  simp only [buildCells] at hb
  split at hb
  ·rename_i fd hfd
   split at hb
   ·rename_i j hj
    split at hb
    ·rename_i hc
     simp only [Bool.and_eq_true] at hc
     obtain ⟨⟨h1,h2⟩,h3⟩:=hc
     have h2:=Nat.eq_of_beq_eq_true h2
     have h3:=Nat.le_of_ble_eq_true h3
     have hcs:=hv0.cells' h1
     have hcl : v.cells.size = j.size:=by have:=hcs.1; simp at this; omega
     have hul : us.size = cs.length:=by simpa using hu.1
     have hfold : ∀ (l : List Value) (k0 : Nat) (m : Nat) (us : Array Value), (l.zipIdx k0).foldl (fun cs (p : Value × Nat) => cs.setIfInBounds (m + p.2) p.1) us = writeAt us (m + k0) l := by
      intro l
      induction l with
      | nil=>intro k0 m us; simp [writeAt]
      | cons x l ih=>intro k0 m us; simp only [List.zipIdx_cons,List.foldl_cons,writeAt]; rw [ih]; simp [Nat.add_assoc]
     have hw : v.cells.zipIdx.foldl (fun cs (p : Value × Nat) => cs.setIfInBounds (fd.offset + p.2) p.1) us = writeAt us fd.offset v.cells.toList := by
      rw [← Array.foldl_toList,Array.toList_zipIdx,hfold]; rfl
     have hu' : VRs E h σ (setCells cs fd.offset (toCells d)) (writeAt us fd.offset v.cells.toList).toList := by
      rw [writeAt_toList (by simp; omega)]
      exact setCells_vr hu hcs (by omega)
     obtain ⟨us',h4,h5⟩:=fill_struct hpl ds vs _ _ out hb (by simpa using hl) (fun i a b=>hv (i + 1) (by simpa using a) (by simpa using b)) hu'
     refine ⟨us',?_,h5⟩
     simp only [Instr.fill,hpl i' fd j hfd hj]
     have hsz : ¬ ((v.cells.size ≠ j.size || decide (fd.offset + v.cells.size > us.size)) = true) := by
      simp [hcl]; omega
     rw [if_neg (by simpa using hsz)]
     rw [show (Array.foldl (fun cs x=>match x with|(c,j)=>cs.setIfInBounds (fd.offset + j) c) us v.cells.zipIdx) = writeAt us fd.offset v.cells.toList from hw]
     exact h4
    ·simp at hb
   ·simp at hb
  ·simp at hb

theorem run_places (hT : TOk P T) (w : World) : ∀ (fs : List Field), (∀ f ∈ fs, (T f.type).isSome = true) →
  (fs.mapM fun f=>(do pure (f.offset,← sizeOf f.type) : Sem (Nat × Nat))).run P w = .ok (fs.map fun f=>(f.offset,((T f.type).map (·.size)).getD 0)) w
 | [],_=>rfl
 | f :: fs,h=>by
  have ih:=run_places hT w fs (fun g hg=>h g (by simp [hg]))
  have h0:=h f (by simp)
  obtain ⟨i,hi⟩:=Option.isSome_iff_exists.1 h0
  simp only [List.mapM_cons,Sem.run_bind,run_size hT w hi,Result.andThen_ok,Sem.run_pure,ih,List.map_cons,hi,Option.map_some,Option.getD_some]

theorem build_op (hT : TOk P T) {o : Oper} {t ps ρ σ id i fs z out} (ho : o.op = .build t ps) (ht : T t = some i) (hd : i.d = .struct fs) (hz : i.zero = some z)
  (hfs : ∀ f ∈ fs.toList,(T f.type).isSome = true) (hb : buildCells T fs.toList (zcells z) (ps.toList.map fun p=>(p.1,ev G ρ p.2)) = some out) :
  OpStep P G o ρ σ id (.agg out) [] []:=by
 refine opstep_pure fun E a w st R hh _=>?_
 have hv : ∀ q (a1 : q < ps.size), VR E w.heap st.σ (ev G ρ ps[q].2) (a.eval ps[q].2) := fun q a1 =>
  R.evo (ops:=o.op.operands) hh _ (by simp only [ho,Op.operands]; simp; exact ⟨ps[q].1,Array.getElem_mem a1⟩)
 obtain ⟨us', h1, h2⟩ := fill_struct (E := E) (h := w.heap) (σ := st.σ) (T := T) (fs := fs.toList) (pl := fun q => ((fs.toList.map fun f => (f.offset, ((T f.type).map (·.size)).getD 0)).toArray)[q]?)
  (fun q fd j h1 h2=>by rw [List.getElem?_toArray,List.getElem?_map,h1]; simp [h2]) (ps.toList.map fun p=>(p.1,ev G ρ p.2)) (ps.toList.map fun p=>(p.1,a.eval p.2)) (zcells z) z.cells out hb (by simp)
  (fun q a1 b1=>by simpa using hv q (by simpa using a1)) (zcells_vr _ _ _ z)
 refine ⟨.agg us',?_,?_⟩
 ·have hund : ∀ w', (underlying t).run P w' = .ok (.struct fs) w' := fun w' => by rw [run_und hT w' ht, hd]
  have hparts : (Array.map (fun x=>match x with|(i,x)=>(i,a.eval x)) ps).toList = ps.toList.map fun p=>(p.1,a.eval p.2):=by simp
  have hpl : Sem.run P (Array.mapM (fun f : Field => (do let z ← sizeOf f.type; pure (f.offset, z) : Sem (Nat × Nat))) fs) w = .ok (fs.toList.map fun f => (f.offset, ((T f.type).map (·.size)).getD 0)).toArray w := by
   rw [Array.mapM_eq_mapM_toList,Sem.run_map,run_places hT w fs.toList hfs]; rfl
  simp only [execOp,ho,Instr.build,Sem.run_bind,run_zero hT w ht hz,Result.andThen_ok,hund]
  rw [hpl]
  simp only [Result.andThen_ok]
  rw [hparts,h1]
  simp
 ·have := VR.agg (E := E) (h := w.heap) (σ := st.σ) out us'.toList h2.1 h2.2
  simpa using this

theorem field_op (hT : TOk P T) {o : Oper} {t x f ρ σ id i fs fd j cs d} (ho : o.op = .field t x f) (ht : T t = some i) (hd : i.d = .struct fs) (hf : fs[f]? = some fd) (hj : T fd.type = some j)
  (hx : ev G ρ x = .agg cs) (hc : ofCells j ((cs.drop fd.offset).take j.size) = some d) : OpStep P G o ρ σ id d [] []:=by
 refine opstep_pure fun E a w st R hh _=>?_
 have hvx:=R.evo (ops:=o.op.operands) hh x (by simp [ho,Op.operands])
 rw [hx] at hvx
 obtain ⟨us,e1,l,fv⟩:=hvx.agg_inv
 have hund : ∀ w',(underlying t).run P w' = .ok (.struct fs) w':=fun w'=>by rw [run_und hT w' ht,hd]
 unfold ofCells at hc
 cases ha : j.agg with
 | true =>
  simp only [ha] at hc
  split at hc
  ·rename_i hl
   have hl:=Nat.eq_of_beq_eq_true hl
   simp at hc; subst hc
   refine ⟨.agg (us.toArray.extract fd.offset (fd.offset + j.size)),?_,?_⟩
   ·simp [execOp,ho,e1,Instr.field,hund,hf,part,run_isAgg hT w hj,ha,run_size hT w hj,asAgg]
   ·have hle : fd.offset + j.size ≤ cs.length ∨ j.size = 0 := by
     simp at hl; omega
    have := VR.agg (E := E) (h := w.heap) (σ := st.σ) ((cs.drop fd.offset).take j.size) ((us.drop fd.offset).take j.size) (by simp [l]) (fun q a1 b1 => by
     simp at a1 b1
     have:=fv (fd.offset + q) (by omega) (by omega)
     simpa using this)
    have e : us.toArray.extract fd.offset (fd.offset + j.size) = ((us.drop fd.offset).take j.size).toArray := by
     apply Array.ext'
     simp [List.extract_eq_take_drop]
    rw [e]; exact this
  ·simp at hc
 | false =>
  simp only [ha] at hc
  split at hc
  ·rename_i y hy
   simp at hc; subst hc
   have h1 : ((cs.drop fd.offset).take j.size)[0]? = some y:=by rw [hy]; rfl
   have hlt : fd.offset < cs.length := by
    rcases Nat.lt_or_ge fd.offset cs.length with h|h
    ·exact h
    ·rw [List.drop_of_length_le h] at hy; simp at hy
   have h2 : cs[fd.offset] = y := by
    have hs : 0 < j.size := by
     rcases Nat.eq_zero_or_pos j.size with h|h
     ·rw [h] at hy; simp at hy
     ·exact h
    simp [List.getElem?_take,hs,hlt] at h1
    exact h1
   refine ⟨us[fd.offset]'(by omega),?_,?_⟩
   ·have : fd.offset < us.length := by omega
    simp [execOp,ho,e1,Instr.field,hund,hf,part,run_isAgg hT w hj,ha,asAgg,this]
   ·have := fv fd.offset hlt (by omega)
    rw [h2] at this; exact this
  ·simp at hc

theorem index_arr_op (hT : TOk P T) {o : Oper} {t x y ρ σ id it n0 e j kk n cs d} (ho : o.op = .index t x y) (ht : T t = some it) (hd : it.d = .array n0 e) (hj : T e = some j)
  (hx : ev G ρ x = .agg cs) (hy : ev G ρ y = .v (.int kk n)) (h0 : 0 ≤ n) (hn : n < n0) (hc : ofCells j ((cs.drop (n.toNat * j.size)).take j.size) = some d) : OpStep P G o ρ σ id d [] []:=by
 refine opstep_pure fun E a w st R hh _=>?_
 have hvx:=R.evo (ops:=o.op.operands) hh x (by simp [ho,Op.operands])
 have hey:=R.ev_v (ops:=o.op.operands) hh (x:=y) (by simp [ho,Op.operands]) hy
 rw [hx] at hvx
 obtain ⟨us,e1,l,fv⟩:=hvx.agg_inv
 have hund : ∀ w',(underlying t).run P w' = .ok (.array n0 e) w':=fun w'=>by rw [run_und hT w' ht,hd]
 generalize hoff : n.toNat * j.size = off at hc
 unfold ofCells at hc
 cases ha : j.agg with
 | true =>
  simp only [ha] at hc
  split at hc
  ·rename_i hl
   have hl:=Nat.eq_of_beq_eq_true hl
   simp at hc; subst hc
   refine ⟨.agg (us.toArray.extract off (off + j.size)),?_,?_⟩
   ·simp [execOp,ho,e1,hey,Instr.index,asIntOf,hund,h0,hn,part,run_isAgg hT w hj,ha,run_size hT w hj,asAgg,hoff]
   ·have hle : off + j.size ≤ cs.length ∨ j.size = 0 := by
     simp at hl; omega
    have := VR.agg (E := E) (h := w.heap) (σ := st.σ) ((cs.drop off).take j.size) ((us.drop off).take j.size) (by simp [l]) (fun q a1 b1 => by
     simp at a1 b1
     have:=fv (off + q) (by omega) (by omega)
     simpa using this)
    have e : us.toArray.extract off (off + j.size) = ((us.drop off).take j.size).toArray := by
     apply Array.ext'
     simp [List.extract_eq_take_drop]
    rw [e]; exact this
  ·simp at hc
 | false =>
  simp only [ha] at hc
  split at hc
  ·rename_i y' hy'
   simp at hc; subst hc
   have h1 : ((cs.drop off).take j.size)[0]? = some y':=by rw [hy']; rfl
   have hlt : off < cs.length := by
    rcases Nat.lt_or_ge off cs.length with h|h
    ·exact h
    ·rw [List.drop_of_length_le h] at hy'; simp at hy'
   have h2 : cs[off] = y' := by
    have hs : 0 < j.size := by
     rcases Nat.eq_zero_or_pos j.size with h|h
     ·rw [h] at hy'; simp at hy'
     ·exact h
    simp [List.getElem?_take,hs,hlt] at h1
    exact h1
   refine ⟨us[off]'(by omega),?_,?_⟩
   ·have : off < us.length := by omega
    simp [execOp,ho,e1,hey,Instr.index,asIntOf,hund,h0,hn,part,run_isAgg hT w hj,run_size hT w hj,ha,asAgg,hoff,this]
   ·have := fv off hlt (by omega)
    rw [h2] at this; exact this
  ·simp at hc

theorem makeInterface_op (hT : TOk P T) {o : Oper} {t x ρ σ id i} (ho : o.op = .makeInterface t x) (ht : T t = some i) (hd : (match i.d with | .interface _ => false | _ => true) = true) :
  OpStep P G o ρ σ id (.iface t (ev G ρ x)) [] []:=by
 refine opstep_pure fun E a w st R hh _=>⟨_,?_,.iface t _ _ (R.evo (ops:=o.op.operands) hh x (by simp [ho,Op.operands]))⟩
 have hund : ∀ w',(underlying t).run P w' = .ok i.d w':=fun w'=>run_und hT w' ht
 revert hund hd
 cases i.d <;> intro hd hund <;> simp at hd <;> simp [execOp,ho,Instr.makeInterface,hund]

theorem makeFunc_op {o : Oper} {fn fs cs ρ σ id} (ho : o.op = .makeFunc fn fs cs) : OpStep P G o ρ σ id (.func fn (fs.toList.map (ev G ρ)) (cs.toList.map (ev G ρ))) [] [] := by
 refine opstep_pure fun E a w st R hh _=>⟨.func fn (fs.map a.eval) (cs.map a.eval),by simp [execOp,ho,Instr.makeFunc],?_⟩
 have h1 : ∀ (l : Array Operand), (∀ x ∈ l, x ∈ o.op.operands) → VRs E w.heap st.σ (l.toList.map (ev G ρ)) (l.toList.map a.eval) := by
  intro l hl
  refine ⟨by simp,fun i a1 b1=>?_⟩
  have : l[i]'(by simpa using a1) ∈ o.op.operands:=hl _ (by simp)
  simpa using R.evo (ops:=o.op.operands) hh _ this
 have a1:=h1 fs (fun x hx=>by simp [ho,Op.operands,hx])
 have a2:=h1 cs (fun x hx=>by simp [ho,Op.operands,hx])
 have:=VR.func (E:=E) (h:=w.heap) (σ:=st.σ) fn _ _ _ _ a1.1 a2.1 a1.2 a2.2
 have e : ∀ l : Array Operand,(l.toList.map a.eval).toArray = l.map a.eval:=fun l=>by apply Array.ext'; simp
 rw [e,e] at this; exact this

theorem nilCheck_op {o : Oper} {x ρ σ id} (ho : o.op = .nilCheck x) (hx : (match ev G ρ x with | .ptr _ _ => true | .ro _ => true | _ => false) = true) : OpStep P G o ρ σ id (ev G ρ x) [] [] := by
 refine opstep_pure fun E a w st R hh _=>⟨a.eval x,?_,R.evo (ops:=o.op.operands) hh x (by simp [ho,Op.operands])⟩
 have hv:=R.evo (ops:=o.op.operands) hh x (by simp [ho,Op.operands])
 revert hx hv
 generalize ev G ρ x = d
 generalize hvx : a.eval x = vx
 intro hx hv
 cases hv <;> simp at hx <;> simp [execOp,ho,hvx]

def eqD : BinOp → Bool → Option Bool
 | .eql,b=>some b
 | .neq,b=>some (!b)
 | _,_=>none

def eqNil (x y : D) : Option Bool :=
 match x with
 | .v (.bool a)=>match y with|.v (.bool b)=>some (a == b)|_=>none
 | .ptr _ _=>match y with|.v (.pointer none)=>some false|_=>none
 | .ro _=>match y with|.v (.pointer none)=>some false|_=>none
 | .v (.pointer none)=>match y with|.v (.pointer none)=>some true|.ptr _ _=>some false|.ro _=>some false|_=>none
 | .map _=>match y with|.v (.map none)=>some false|_=>none
 | .v (.map none)=>match y with|.v (.map none)=>some true|.map _=>some false|_=>none
 | .iface _ _=>match y with|.v .nilIface=>some false|_=>none
 | .nil=>match y with|.nil=>some true|_=>none
 | _=>none

def eqTy : TypeDesc → D → Bool
 | .bool,.v (.bool _)=>true
 | .pointer _,.ptr _ _=>true
 | .pointer _,.ro _=>true
 | .pointer _,.v (.pointer none)=>true
 | .map _ _,.map _=>true
 | .map _ _,.v (.map none)=>true
 | .interface _,.iface _ _=>true
 | .slice _,.nil=>true
 | _,_=>false

theorem run_eq {t : TypeId} {op : BinOp} {vx vy : Value} {b c : Bool} {w : World} (he : (Op.equal t vx vy).run P w = .ok b w) (hc : eqD op b = some c)
  (hb : ∀ op',(op' = .eql ∨ op' = .neq) → binOp op' t vx vy = (match op' with|.eql=>do pure (.bool (← Op.equal t vx vy))|_=>do pure (.bool (!(← Op.equal t vx vy))))) :
  (binOp op t vx vy).run P w = .ok (.bool c) w:=by
 cases op <;> simp only [eqD,reduceCtorEq,Option.some.injEq] at hc
 ·subst hc; rw [hb .eql (.inl rfl)]; simp [he]
 ·subst hc; rw [hb .neq (.inr rfl)]; simp [he]

theorem run_guard {op : BinOp} {t : TypeId} {x y : Operand} {vx vy : Value} {w : World} (h1 : ¬ (vx = .nilIface ∧ vy = .nilIface)) (h2 : ∀ us, vx ≠ .agg us) : (eqGuard op t x y vx vy).run P w = .ok () w := by
 unfold eqGuard
 cases op <;> simp <;> (split <;> simp_all)

theorem eqNil_op (hT : TOk P T) {o : Oper} {op t x y t2 ρ σ id i b c} (ho : o.op = .binOp op t x y t2) (ht : T t = some i) (hty : eqTy i.d (ev G ρ x) = true)
  (he : eqNil (ev G ρ x) (ev G ρ y) = some b) (hc : eqD op b = some c) : OpStep P G o ρ σ id (.v (.bool c)) [] []:=by
 refine opstep_pure fun E a w st R hh _=>⟨_,?_,.v _⟩
 have hvx:=R.evo (ops:=o.op.operands) hh x (by simp [ho,Op.operands])
 have hvy:=R.evo (ops:=o.op.operands) hh y (by simp [ho,Op.operands])
 have hund : ∀ w',(underlying t).run P w' = .ok i.d w':=fun w'=>run_und hT w' ht
 have hgo : (∀ vx vy, a.eval x = vx → a.eval y = vy → (eqGuard op t x y vx vy).run P w = .ok () w ∧ (binOp op t vx vy).run P w = .ok (.bool c) w) → (execOp a.eval o).run P w = .ok (.value (.bool c)) w := by
  intro h
  obtain ⟨h1,h2⟩:=h _ _ rfl rfl
  simp [execOp,ho,h1,h2]
 refine hgo fun vx vy hex hey=>?_
 rw [hex] at hvx
 rw [hey] at hvy
 clear hgo hex hey
 revert hty he hvx hvy hund
 generalize ev G ρ x = dx
 generalize ev G ρ y = dy
 generalize i.d = dd
 intro hty he hund hvx hvy
 have fin : ∀ (vx vy : Value), ¬ (vx = .nilIface ∧ vy = .nilIface) → (∀ us, vx ≠ .agg us) → (Op.equal t vx vy).run P w = .ok b w →
   (∀ op',(op' = .eql ∨ op' = .neq) → binOp op' t vx vy = (match op' with|.eql=>do pure (.bool (← Op.equal t vx vy))|_=>do pure (.bool (!(← Op.equal t vx vy))))) →
   (eqGuard op t x y vx vy).run P w = .ok () w ∧ (binOp op t vx vy).run P w = .ok (.bool c) w:=fun vx vy a1 a2 a3 a4=>⟨run_guard a1 a2,run_eq a3 hc a4⟩
 cases dx with
 | v xx =>
  have:=hvx.v_inv.symm; subst this
  cases xx with
  | bool a1 =>
   cases dy with
   | v yy =>
    have:=hvy.v_inv.symm; subst this
    cases yy <;> simp [eqNil] at he
    subst he
    cases dd <;> simp [eqTy] at hty
    exact fin _ _ (by simp) (by simp) (by show (Op.equalIn (9999 + 1) t _ _).run P w = _; rw [Op.equalIn]; simp [hund]) (by rintro op' (rfl|rfl) <;> rfl)
   | _=>simp [eqNil] at he
  | pointer p =>
   cases p with
   | some p=>simp [eqNil] at he
   | none =>
    cases dd <;> simp [eqTy] at hty
    cases dy with
    | v yy =>
     have:=hvy.v_inv.symm; subst this
     cases yy with
     | pointer q =>
      cases q <;> simp [eqNil] at he
      subst he
      exact fin _ _ (by simp) (by simp) (by show (Op.equalIn (9999 + 1) t _ _).run P w = _; rw [Op.equalIn]; simp [hund]) (by rintro op' (rfl|rfl) <;> rfl)
     | _=>simp [eqNil] at he
    | ptr k o2 =>
     simp [eqNil] at he; subst he
     obtain ⟨rfl,_⟩:=hvy.ptr_inv
     exact fin _ _ (by simp) (by simp) (by show (Op.equalIn (9999 + 1) t _ _).run P w = _; rw [Op.equalIn]; simp [hund]) (by rintro op' (rfl|rfl) <;> rfl)
    | ro cs =>
     simp [eqNil] at he; subst he
     cases hvy
     exact fin _ _ (by simp) (by simp) (by show (Op.equalIn (9999 + 1) t _ _).run P w = _; rw [Op.equalIn]; simp [hund]) (by rintro op' (rfl|rfl) <;> rfl)
    | _=>simp [eqNil] at he
  | map p =>
   cases p with
   | some p=>simp [eqNil] at he
   | none =>
    cases dd <;> simp [eqTy] at hty
    cases dy with
    | v yy =>
     have:=hvy.v_inv.symm; subst this
     cases yy with
     | map q =>
      cases q <;> simp [eqNil] at he
      subst he
      exact fin _ _ (by simp) (by simp) (by show (Op.equalIn (9999 + 1) t _ _).run P w = _; rw [Op.equalIn]; simp [hund]) (by rintro op' (rfl|rfl) <;> rfl)
     | _=>simp [eqNil] at he
    | map k =>
     simp [eqNil] at he; subst he
     obtain ⟨rfl,_⟩:=hvy.map_inv
     exact fin _ _ (by simp) (by simp) (by show (Op.equalIn (9999 + 1) t _ _).run P w = _; rw [Op.equalIn]; simp [hund]) (by rintro op' (rfl|rfl) <;> rfl)
    | _=>simp [eqNil] at he
  | _=>simp [eqNil] at he
 | ptr k o2 =>
  obtain ⟨rfl,_⟩:=hvx.ptr_inv
  cases dy with
  | v yy =>
   have:=hvy.v_inv.symm; subst this
   cases yy with
   | pointer q =>
    cases q <;> simp [eqNil] at he
    subst he
    cases dd <;> simp [eqTy] at hty
    exact fin _ _ (by simp) (by simp) (by show (Op.equalIn (9999 + 1) t _ _).run P w = _; rw [Op.equalIn]; simp [hund]) (by rintro op' (rfl|rfl) <;> rfl)
   | _=>simp [eqNil] at he
  | _=>simp [eqNil] at he
 | ro cs =>
  cases dy with
  | v yy =>
   have:=hvy.v_inv.symm; subst this
   cases yy with
   | pointer q =>
    cases q <;> simp [eqNil] at he
    subst he
    cases dd <;> simp [eqTy] at hty
    cases hvx
    exact fin _ _ (by simp) (by simp) (by show (Op.equalIn (9999 + 1) t _ _).run P w = _; rw [Op.equalIn]; simp [hund]) (by rintro op' (rfl|rfl) <;> rfl)
   | _=>simp [eqNil] at he
  | _=>simp [eqNil] at he
 | map k =>
  obtain ⟨rfl,_⟩:=hvx.map_inv
  cases dy with
  | v yy =>
   have:=hvy.v_inv.symm; subst this
   cases yy with
   | map q =>
    cases q <;> simp [eqNil] at he
    subst he
    cases dd <;> simp [eqTy] at hty
    exact fin _ _ (by simp) (by simp) (by show (Op.equalIn (9999 + 1) t _ _).run P w = _; rw [Op.equalIn]; simp [hund]) (by rintro op' (rfl|rfl) <;> rfl)
   | _=>simp [eqNil] at he
  | _=>simp [eqNil] at he
 | iface t' d' =>
  cases dy with
  | v yy =>
   have:=hvy.v_inv.symm; subst this
   cases yy with
   | nilIface =>
    simp [eqNil] at he
    subst he
    cases dd <;> simp [eqTy] at hty
    cases hvx
    exact fin _ _ (by simp) (by simp) (by show (Op.equalIn (9999 + 1) t _ _).run P w = _; rw [Op.equalIn]; simp [hund]) (by rintro op' (rfl|rfl) <;> rfl)
   | _=>simp [eqNil] at he
  | _=>simp [eqNil] at he
 | nil =>
  cases dy with
  | nil =>
   simp [eqNil] at he
   subst he
   cases dd <;> simp [eqTy] at hty
   cases hvx; cases hvy
   exact fin _ _ (by simp) (by simp) (by show (Op.equalIn (9999 + 1) t _ _).run P w = _; rw [Op.equalIn]; simp [hund]) (by rintro op' (rfl|rfl) <;> rfl)
  | _=>simp [eqNil] at he
 | _=>simp [eqNil] at he

end Go.AL

namespace Go.AL
open Go
variable {P : Program} {G : Glob} {T : Tab}

theorem VR.sl_inv {E h σ k g off n y} (hx : VR E h σ (.sl k g off n) y) : ∃ A c, y = .slice A n c ∧ live σ k ∧ ∀ m s, tlen σ k = some m → tstr σ k = some s → g ≤ m ∧ (g = m → SlH (E.hdr k) s off n A c) := by
 cases hx with
 | sl _ _ _ _ A c hk ht=>exact ⟨A,c,rfl,hk,ht⟩
theorem VR.ep_inv {E h σ k g s i o y} (hx : VR E h σ (.ep k g s i o) y) : live σ k ∧ ∀ m, tlen σ k = some m → g ≤ m ∧ (g = m → ∃ a, (E.hdr k).1 = some a ∧ y = .pointer (some ⟨a.block, a.off + i * s + o, none⟩)) := by
 cases hx with
 | ep _ _ _ _ _ y hk ht=>exact ⟨hk,ht⟩

theorem cont_row {E h σ k s xs} (C : Cont E h σ k s xs) : ∃ cs, Row E h σ xs s cs ∧ ∀ a, (E.hdr k).1 = some a → ∀ q, q < xs.length * s → cellH h a.block (a.off + q) = some (cs.getD q undef) := by
 obtain ⟨c1,c2,c3⟩:=C
 cases hA : (E.hdr k).1 with
 | none =>
  have:=c2 hA
  subst this
  exact ⟨[],Row.nil _ _ _ _,fun a ha=>by simp at ha⟩
 | some a =>
  have key : ∀ q, ∃ u, q < xs.length * s → cellH h a.block (a.off + q) = some u ∧ ∀ i j (hi : i < xs.length) (hj : j < xs[i].length), q = i * s + j → VR E h σ xs[i][j] u := by
   intro q
   by_cases hq : q < xs.length * s
   ·have hs0 : 0 < s := by
     rcases Nat.eq_zero_or_pos s with h0|h0
     ·subst h0; simp at hq
     ·exact h0
    have hi : q / s < xs.length:=by rw [Nat.div_lt_iff_lt_mul hs0]; exact hq
    have hj : q % s < xs[q / s].length:=by rw [(c1 _ hi).1]; exact Nat.mod_lt _ hs0
    have h3 : q / s * s + q % s = q:=by rw [Nat.mul_comm]; exact Nat.div_add_mod q s
    obtain ⟨u,hu,hv⟩:=c3 a hA (q / s) (q % s) hi hj
    rw [Nat.add_assoc,h3] at hu
    refine ⟨u,fun _=>⟨hu,fun i j hi' hj' e=>?_⟩⟩
    have hj2 : j < s:=by rw [← (c1 i hi').1]; exact hj'
    have e1 : q / s = i := by
     rw [e,Nat.mul_comm,Nat.mul_add_div (by omega),Nat.div_eq_of_lt hj2]; simp
    have e2 : q % s = j := by
     rw [e,Nat.mul_comm,Nat.mul_add_mod,Nat.mod_eq_of_lt hj2]
    subst e1; subst e2; exact hv
   ·exact ⟨undef,fun h=>absurd h hq⟩
  obtain ⟨f,hf⟩:=Classical.axiomOfChoice key
  refine ⟨(List.range (xs.length * s)).map f,⟨by simp,fun i hi=>(c1 i hi).1,fun i j hi hj=>?_,fun i j hi hj=>((c1 i hi).2 j hj).1⟩,fun a' ha' q hq=>?_⟩
  ·have hq : i * s + j < xs.length * s := mul_lt_row hi (by rw [← (c1 i hi).1]; exact hj)
   have:=(hf _ hq).2 i j hi hj rfl
   simpa [List.getD,hq] using this
  ·simp at ha'; subst ha'
   rw [(hf q hq).1]; simp [List.getD,hq]

theorem row_cont {E h σ k s xs cs} (R : Row E h σ xs s cs) (hn : (E.hdr k).1 = none → xs = []) (hc : ∀ a, (E.hdr k).1 = some a → ∀ q, q < xs.length * s → cellH h a.block (a.off + q) = some (cs.getD q undef)) : Cont E h σ k s xs := by
 refine ⟨fun i hi=>⟨R.each i hi,fun j hj=>⟨R.idf i j hi hj,D.one_of_idf (R.idf i j hi hj)⟩⟩,hn,fun a ha i j hi hj=>⟨cs.getD (i * s + j) undef,?_,R.vr i j hi hj⟩⟩
 have:=hc a ha (i * s + j) (mul_lt_row hi (by rw [← R.each i hi]; exact hj))
 rwa [← Nat.add_assoc] at this

theorem Row.cut {E h σ xs s cs} (R : Row E h σ xs s cs) (off n : Nat) (hb : off + n ≤ xs.length) : Row E h σ ((xs.drop off).take n) s ((cs.drop (off * s)).take (n * s)) := by
 have hl : cs.length = xs.length * s:=R.len
 have hm : off * s + n * s ≤ xs.length * s:=by rw [← Nat.add_mul]; exact Nat.mul_le_mul_right _ hb
 have hxl : ((xs.drop off).take n).length = n:=by simp; omega
 have hg : ∀ i (hi : i < ((xs.drop off).take n).length), ∃ hi' : off + i < xs.length, ((xs.drop off).take n)[i] = xs[off + i] := by
  intro i hi
  refine ⟨by omega,by simp⟩
 refine ⟨by rw [hxl]; simp; omega,fun i hi=>?_,fun i j hi hj=>?_,fun i j hi hj=>?_⟩
 ·obtain ⟨h1,h2⟩:=hg i hi; rw [h2]; exact R.each _ h1
 ·obtain ⟨h1, h2⟩ := hg i hi
  have hj' : j < xs[off + i].length:=by rw [← h2]; exact hj
  have h3:=R.vr (off + i) j h1 hj'
  have h8 : ((xs.drop off).take n)[i][j] = xs[off + i][j]:=by simp only [h2]
  rw [h8]
  have hjs : j < s:=by rw [← R.each _ h1]; exact hj'
  have h4 : i * s + j < n * s:=mul_lt_row (by omega) hjs
  have : ((cs.drop (off * s)).take (n * s)).getD (i * s + j) undef = cs.getD ((off + i) * s + j) undef := by
   simp only [List.getD,List.getElem?_take,h4,if_true,List.getElem?_drop]
   rw [show off * s + (i * s + j) = (off + i) * s + j by rw [Nat.add_mul]; omega]
  rw [this]; exact h3
 ·obtain ⟨h1, h2⟩ := hg i hi
  have hj' : j < xs[off + i].length:=by rw [← h2]; exact hj
  have h8 : ((xs.drop off).take n)[i][j] = xs[off + i][j]:=by simp only [h2]
  rw [h8]; exact R.idf _ _ h1 hj'

theorem view_row {E σ k s xs} {w : World} {off n : Nat} {A : Option Addr} {c : Nat} (C : Cont E w.heap σ k s xs) (hH : SlH (E.hdr k) s off n A c) (hb : off + n ≤ xs.length) (hx : xs.length ≤ (E.hdr k).2) (h0 : (E.hdr k).1 = none → (E.hdr k).2 = 0) :
  ∃ cs,Row E w.heap σ ((xs.drop off).take n) s cs ∧ (∀ a,A = some a → a.spot = none ∧ ∀ q,q < n * s → cellH w.heap a.block (a.off + q) = some (cs.getD q undef)) ∧ (A = none → n = 0 ∧ c = 0) ∧
   ∀ w' : World,w'.heap = w.heap → (Builtin.firstCells s n (.slice A n c)).run P w' = .ok cs.toArray w':=by
 obtain ⟨cs,R,hc⟩:=cont_row C
 obtain ⟨s1,s2,s3,s4⟩:=hH
 have hR:=R.cut off n hb
 have hlen:=hR.len
 rw [show ((xs.drop off).take n).length = n by simp; omega] at hlen
 have hcell : ∀ a, A = some a → a.spot = none ∧ ∀ q, q < n * s → cellH w.heap a.block (a.off + q) = some (((cs.drop (off * s)).take (n * s)).getD q undef) := by
  intro a ha
  cases hA : (E.hdr k).1 with
  | none=>rw [s3 hA] at ha; simp at ha
  | some a0 =>
   obtain ⟨j,j1,j2,j3⟩:=s4 a0 hA
   rw [j3] at ha
   simp at ha; subst ha
   refine ⟨rfl,fun q hq=>?_⟩
   have hn0 : 0 < n := by
    rcases Nat.eq_zero_or_pos n with h|h
    ·subst h; simp at hq
    ·exact h
   obtain rfl:=j2 (by omega)
   have h4 : j * s + q < xs.length * s := by
    have : (j + n) * s ≤ xs.length * s:=Nat.mul_le_mul_right _ hb
    rw [Nat.add_mul] at this; omega
   have:=hc a0 hA (j * s + q) h4
   simp only
   rw [Nat.add_assoc,this]
   simp only [List.getD,List.getElem?_take,hq,if_true,List.getElem?_drop]
 refine ⟨_,hR,hcell,fun e=>?_,fun w' hw'=>?_⟩
 ·cases hA : (E.hdr k).1 with
  | none=>have:=h0 hA; omega
  | some a0=>obtain ⟨j,_,_,j3⟩:=s4 a0 hA; rw [j3] at e; simp at e
 ·cases A with
  | none =>
   have hn0 : n = 0 := by
    cases hA : (E.hdr k).1 with
    | none=>have:=h0 hA; omega
    | some a0=>obtain ⟨j,_,_,j3⟩:=s4 a0 hA; simp at j3
   subst hn0
   simp [Builtin.firstCells]
  | some a =>
   obtain ⟨sp,hq⟩:=hcell a rfl
   refine run_firstCells_some w' s n a n c _ hlen (fun j v hj=>?_)
   have hlt : j < ((cs.drop (off * s)).take (n * s)).length := by
    rcases Nat.lt_or_ge j ((cs.drop (off * s)).take (n * s)).length with h1|h1
    ·exact h1
    ·rw [List.getElem?_eq_none h1] at hj; simp at hj
   obtain ⟨b,o,spot⟩:=a
   simp at sp; subst sp
   rw [add_none,cell?_eq,hw',hq j (by omega)]
   simp [List.getD,hj]

theorem indexAddr_sl_op (hT : TOk P T) {o : Oper} {t x y ρ σ id it e i kk m k g off n s xs} (ho : o.op = .indexAddr t x y) (ht : T t = some it) (hd : it.d = .slice e) (he : T e = some i)
  (hx : ev G ρ x = .sl k g off n) (hy : ev G ρ y = .v (.int kk m)) (hk : σ k = .arr g s xs) (hs : s = i.size) (h0 : 0 ≤ m) (hn : m < n) (hb : off + n ≤ xs.length) :
  OpStep P G o ρ σ id (.ep k g s (off + m.toNat) 0) [] [k]:=by
 refine opstep_pure fun E a w st R hh hk'=>?_
 have hvx:=R.evo (ops:=o.op.operands) hh x (by simp [ho,Op.operands])
 have hey:=R.ev_v (ops:=o.op.operands) hh (x:=y) (by simp [ho,Op.operands]) hy
 rw [hx] at hvx
 have hσ:=(hk' k (by simp)).trans hk
 obtain ⟨A,c,hex,hl,hv⟩:=hvx.sl_inv
 obtain ⟨_,hv2⟩:=hv g s (by simp [tlen,hσ]) (by simp [tstr,hσ])
 obtain ⟨s1,s2,s3,s4⟩:=hv2 rfl
 have hO:=R.core.objs k
 rw [hσ] at hO
 obtain ⟨h00,hxl,hT',hC⟩:=hO
 cases hA : (E.hdr k).1 with
 | none=>have:=hT'.2.1 hA; omega
 | some a0 =>
  obtain ⟨j,j1,j2,j3⟩:=s4 a0 hA
  obtain rfl:=j2 (by omega)
  subst j3
  refine ⟨.pointer (some ⟨a0.block,a0.off + (j + m.toNat) * s,none⟩),?_,.ep k g s (j + m.toNat) 0 _ hl (fun m' hm'=>?_)⟩
  ·have hund : ∀ w', (underlying t).run P w' = .ok (.slice e) w' := fun w' => by rw [run_und hT w' ht, hd]
   simp [execOp,ho,hex,hey,Instr.indexAt,asIntOf,hund,h0,hn,run_size hT w he,add_none]
   subst hs
   rw [Nat.add_mul]; omega
  ·simp [tlen, hσ] at hm'
   exact ⟨by omega,fun _=>⟨a0,hA,by simp⟩⟩

theorem fieldAddr_ep_op (hT : TOk P T) {o : Oper} {s x f ρ σ id i fs fd j k g st' ix off} (ho : o.op = .fieldAddr s x f) (hs : T s = some i) (hd : i.d = .struct fs) (hf : fs[f]? = some fd)
  (hj : T fd.type = some j) (hz : j.size ≠ 0) (hx : ev G ρ x = .ep k g st' ix off) {s2 : Nat} {xs : List (List D)} (hk : σ k = .arr g s2 xs) : OpStep P G o ρ σ id (.ep k g st' ix (off + fd.offset)) [] [k]:=by
 refine opstep_pure fun E a w st R hh hk'=>?_
 have hvx:=R.evo (ops:=o.op.operands) hh x (by simp [ho,Op.operands])
 rw [hx] at hvx
 have hσ:=(hk' k (by simp)).trans hk
 obtain ⟨hl,hv⟩:=hvx.ep_inv
 obtain ⟨_,hv2⟩:=hv g (by simp [tlen,hσ])
 obtain ⟨a0,hA,e1⟩:=hv2 rfl
 refine ⟨.pointer (some ⟨a0.block,a0.off + ix * st' + (off + fd.offset),none⟩),?_,.ep k g st' ix _ _ hl (fun m' hm'=>?_)⟩
 ·simp [execOp,ho,e1,run_fieldAt hT w hs hd hf hj hz,Nat.add_assoc]
 ·simp [tlen, hσ] at hm'
  exact ⟨by omega,fun _=>⟨a0,hA,rfl⟩⟩

theorem load_ep_op (hT : TOk P T) {o : Oper} {t x ρ σ id i k g s ix off xs cs d} (ho : o.op = .load t x) (ht : T t = some i) (hx : ev G ρ x = .ep k g s ix off) (hk : σ k = .arr g s xs) (hg : xs[ix]? = some cs)
  (hd : ofCells i ((cs.drop off).take i.size) = some d) : OpStep P G o ρ σ id d [] [k]:=by
 refine opstep_pure fun E a w st R hh hk'=>?_
 have hvx:=R.evo (ops:=o.op.operands) hh x (by simp [ho,Op.operands])
 rw [hx] at hvx
 have hσ:=(hk' k (by simp)).trans hk
 obtain ⟨hl,hv⟩:=hvx.ep_inv
 obtain ⟨_,hv2⟩:=hv g (by simp [tlen,hσ])
 obtain ⟨a0,hA,e1⟩:=hv2 rfl
 have hO:=R.core.objs k
 rw [hσ] at hO
 obtain ⟨h00,hxl,hT',hC⟩:=hO
 have hi : ix < xs.length := by
  rcases Nat.lt_or_ge ix xs.length with h|h
  ·exact h
  ·simp [List.getElem?_eq_none h] at hg
 have hcs : xs[ix] = cs:=by simpa [hi] using hg
 obtain ⟨c1,c2,c3⟩:=hC
 have key : ∀ j, ∃ u, j < cs.length → cellH w.heap a0.block (a0.off + ix * s + j) = some u ∧ ∀ hj : j < cs.length, VR E w.heap st.σ cs[j] u := by
  intro j
  by_cases hj : j < cs.length
  ·obtain ⟨u, hu, hv⟩ := c3 a0 hA ix j hi (by rw [hcs]; exact hj)
   exact ⟨u,fun _=>⟨hu,fun hj'=>by simpa [hcs] using hv⟩⟩
  ·exact ⟨undef,fun h=>absurd h hj⟩
 obtain ⟨f,hf⟩:=Classical.axiomOfChoice key
 obtain ⟨v, hr, hvr⟩ := run_loadVar_cells (P := P) (w := w) (E := E) (σ := st.σ) hT (b := a0.block) (o := a0.off + ix * s + off) ht hd (fun j => f (off + j))
  (fun j hj => by
   simp at hj
   have:=(hf (off + j) (by omega)).1
   rwa [← Nat.add_assoc] at this)
  (fun j hj => by
   simp at hj
   simpa using (hf (off + j) (by omega)).2 (by omega))
 exact ⟨v,by simp [execOp,ho,e1,Instr.loadAt,Instr.sureAddr,hr],hvr⟩

theorem toCells_idf {d : D} (h : d.boxable = true) (hi : d.idfV = true) : ∀ c ∈ toCells d, c.idf = true := by
 cases d with
 | agg cs=>exact fun c hc=>List.all_eq_true.1 hi c hc
 | _ =>
  intro c hc
  simp [toCells] at hc
  subst hc
  exact hi

theorem store_ep_op (hT : TOk P T) {o : Oper} {t x y ρ σ id i k g s ix off xs cs} (ho : o.op = .store t x y) (ht : T t = some i) (hx : ev G ρ x = .ep k g s ix off) (hk : σ k = .arr g s xs) (hg : xs[ix]? = some cs)
  (hb : (ev G ρ y).boxable = true) (hi' : (ev G ρ y).idfV = true) (hs : (toCells (ev G ρ y)).length = i.size) (hl : off + i.size ≤ cs.length) :
  OpStep P G o ρ σ id (.v undef) [(k,.arr g s (xs.set ix (setCells cs off (toCells (ev G ρ y)))))] [k]:=by
 intro E a w st R hh hk' h0
 have hvx:=R.evo (ops:=o.op.operands) hh x (by simp [ho,Op.operands])
 have hv:=R.evo (ops:=o.op.operands) hh y (by simp [ho,Op.operands])
 rw [hx] at hvx
 have hσ:=(hk' k (.inl (by simp))).trans hk
 obtain ⟨hl0,hvv⟩:=hvx.ep_inv
 obtain ⟨_,hv2⟩:=hvv g (by simp [tlen,hσ])
 obtain ⟨a0,hA,e1⟩:=hv2 rfl
 have hO:=R.core.objs k
 rw [hσ] at hO
 obtain ⟨h00,hxl,hT',hC⟩:=hO
 have hi : ix < xs.length := by
  rcases Nat.lt_or_ge ix xs.length with h|h
  ·exact h
  ·simp [List.getElem?_eq_none h] at hg
 have hcs : xs[ix] = cs:=by simpa [hi] using hg
 have hcl : cs.length = s:=by rw [← hcs]; exact (hC.1 ix hi).1
 obtain ⟨t1,t2,t3⟩:=hT'
 obtain ⟨sp,us,e,f,hbk,hsz,hown⟩:=t3 a0 hA
 have hds:=hv.cells' hb
 have hdl : (a.eval y).cells.toList.length = i.size:=by rw [hds.1,hs]
 have hixs : ix * s + s ≤ (E.hdr k).2 * s := by
  have : (ix + 1) * s ≤ (E.hdr k).2 * s:=Nat.mul_le_mul_right _ (by omega)
  rwa [Nat.add_mul,Nat.one_mul] at this
 have hone : ∀ u ∈ (a.eval y).cells.toList,u.oneCell' = true:=fun u hu=>hds.one (List.all_eq_true.2 fun c hc=>D.one_of_idf (toCells_idf hb hi' c hc)) u hu
 have hrun:=run_storeCells (P:=P) (b:=a0.block) (off:=a0.off + ix * s + off) (e:=e) (f:=f) (a.eval y).cells.toList 0 us w hbk (by omega) hone (fun o' h1 h2=>(hown o' (by omega) (by omega)).2)
 have S : HStep k E w.heap st.σ E (w.heap.setIfInBounds a0.block (.cells (writeAt us (a0.off + ix * s + off) (a.eval y).cells.toList) e f)) (.arr g s (xs.set ix (setCells cs off (toCells (ev G ρ y))))) := by
  refine HStep.write R.core.bnd hbk (writeAt_size _ _ _) (fun _ _ _=>rfl) (fun b' o' h=>⟨fun h=>R.core.bnd b' o' h,fun q=>by simp [h],by simp [h]⟩) (fun o' ho'=>?_) (fun _ _=>⟨rfl,rfl⟩) (fun _=>⟨by simp,rfl,fun m' hm'=>?_,fun s' hs'=>?_⟩)
  ·rw [writeAt_get _ _ _ _ (by omega), if_neg]
   intro ⟨h1,h2⟩
   exact ho' (hown o' (by omega) (by omega)).1
  ·simp [tlen, up_self] at hm'; subst hm'
   exact ⟨g,by simp [tlen,hσ],Nat.le_refl _,fun _=>rfl⟩
  ·simp [tstr, up_self] at hs'; subst hs'
   simp [tstr,hσ]
 have M:=S.cmap R.core.bnd
 have hlt:=lt_of_get hbk
 obtain ⟨c1,c2,c3⟩:=hC
 refine opwp_skip (w':={ w with heap:=w.heap.setIfInBounds a0.block (.cells (writeAt us (a0.off + ix * s + off) (a.eval y).cells.toList) e f) }) ?_ ⟨E,undef,rfl,StepTo.one R S ⟨h00,by simpa using hxl,⟨t1,t2,fun a' ha'=>?_⟩,⟨fun q hq=>?_,fun e0=>?_,fun a' ha' q j hq hj=>?_⟩⟩ ?_ (.v _) ⟨rfl,rfl,rfl⟩⟩
 ·have hsz' : (a.eval y).cells.size = i.size := by simpa using hdl
  simp only [execOp,ho,Instr.storeAt,Instr.sureAddr,storeVar,Sem.run_bind,e1,Sem.run_pure,Result.andThen_ok,run_size hT w ht,hsz',ne_eq,not_true_eq_false,if_false]
  rw [show storeCells ⟨a0.block,a0.off + ix * s + off,none⟩ (a.eval y).cells.toList = storeCells ⟨a0.block,a0.off + ix * s + off,none⟩ (a.eval y).cells.toList 0 from rfl]
  simp only [Sem.run_pure,Result.andThen_ok,hrun,Nat.add_zero]
 ·rw [hA] at ha'; simp at ha'; subst ha'
  exact ⟨sp,_,e,f,get_set_same hlt,by rw [writeAt_size]; exact hsz,hown⟩
 ·have hscl : (setCells cs off (toCells (ev G ρ y))).length = s := by simp [setCells, hs]; omega
  by_cases hqi : ix = q
  ·subst hqi
   simp only [List.getElem_set_self]
   refine ⟨hscl,fun j hj=>?_⟩
   have hm : (setCells cs off (toCells (ev G ρ y)))[j] ∈ setCells cs off (toCells (ev G ρ y)):=List.getElem_mem hj
   have hcidf : ∀ c ∈ cs, c.idf = true := by
    rw [← hcs]
    intro c hc
    obtain ⟨j',hj',e'⟩:=List.getElem_of_mem hc
    rw [← e']; exact ((c1 ix hi).2 j' hj').1
   have hall : ∀ c ∈ setCells cs off (toCells (ev G ρ y)), c.idf = true := by
    intro c hm
    unfold setCells at hm
    rcases List.mem_append.1 hm with hm|hm
    ·exact hcidf _ (List.mem_of_mem_take hm)
    ·rcases List.mem_append.1 hm with hm | hm
     ·exact toCells_idf hb hi' _ hm
     ·exact hcidf _ (List.mem_of_mem_drop hm)
   have hidf:=hall _ hm
   exact ⟨hidf,D.one_of_idf hidf⟩
  ·simp only [List.length_set] at hq
   have e2 : (xs.set ix (setCells cs off (toCells (ev G ρ y))))[q]'(by simpa using hq) = xs[q]:=List.getElem_set_ne hqi _
   rw [e2]
   exact c1 q hq
 ·rw [hA] at e0; simp at e0
 ·rw [hA] at ha'; simp at ha'; subst ha'
  simp only [List.length_set] at hq
  have hjs : j < s := by
   by_cases hqi : ix = q
   ·subst hqi
    simp only [List.getElem_set_self] at hj
    have : (setCells cs off (toCells (ev G ρ y))).length = s:=by simp [setCells,hs]; omega
    omega
   ·rw [List.getElem_set_ne hqi] at hj
    rw [(c1 q hq).1] at hj; exact hj
  have hql : q * s + j < (E.hdr k).2 * s := by
   have : (q + 1) * s ≤ (E.hdr k).2 * s:=Nat.mul_le_mul_right _ (by omega)
   rw [Nat.add_mul,Nat.one_mul] at this; omega
  simp only [cellH,get_set_same hlt]
  rw [writeAt_get _ _ _ _ (by omega)]
  have hold : ∀ (hq : q < xs.length) (hj : j < xs[q].length), ∃ u, us[a0.off + q * s + j]? = some u ∧ VR E w.heap st.σ xs[q][j] u := by
   intro hq hj
   obtain ⟨u,hu,hvu⟩:=c3 a0 hA q j hq hj
   refine ⟨u,?_,hvu⟩
   simpa [cellH,hbk] using hu
  by_cases hqi : ix = q
  ·subst hqi
   simp only [List.getElem_set_self] at hj ⊢
   have hset := setCells_vr (E := E) (h := w.heap) (σ := st.σ) (cs := cs) (ds := toCells (ev G ρ y)) (us := (List.range s).map fun r => (us[a0.off + ix * s + r]?).getD undef) (vs := (a.eval y).cells.toList) (off := off)
    ⟨by simp [hcl], fun r h1 h2 => by
     obtain ⟨u,hu,hvu⟩:=c3 a0 hA ix r hi (by rw [hcs]; exact h1)
     have hu' : us[a0.off + ix * s + r]? = some u:=by simpa [cellH,hbk] using hu
     simp only [List.getElem_map,List.getElem_range,hu',Option.getD_some]
     simpa [hcs] using hvu⟩ hds (by omega)
   have hvj:=hset.2 j hj (by rw [hset.1]; exact hj)
   have hdl' : (a.eval y).cells.size = i.size:=by simpa using hdl
   by_cases hin : a0.off + ix * s + off ≤ a0.off + ix * s + j ∧ a0.off + ix * s + j < a0.off + ix * s + off + (a.eval y).cells.toList.length
   ·rw [if_pos hin]
    have hjo : j - off < (a.eval y).cells.toList.length:=by omega
    refine ⟨(a.eval y).cells.toList[j - off],?_,?_⟩
    ·rw [show a0.off + ix * s + j - (a0.off + ix * s + off) = j - off by omega]
     simp [hjo]
    ·refine VR.keep M ?_
     have e3 : ∀ (l : List Value) (hl : j < l.length) (x : Value),l[j]? = some x → l[j] = x:=fun l hl x hx=>by simpa [hl] using hx
     have e4 : (((List.range s).map fun r => (us[a0.off + ix * s + r]?).getD undef).take off ++ ((a.eval y).cells.toList ++ ((List.range s).map fun r => (us[a0.off + ix * s + r]?).getD undef).drop (off + (a.eval y).cells.toList.length)))[j]? = some (a.eval y).cells.toList[j - off] := by
      rw [List.getElem?_append_right (by simp; omega),List.getElem?_append_left (by simp; omega)]
      simp only [List.length_take,List.length_map,List.length_range,Nat.min_eq_left (show off ≤ s by omega)]
      simp [hjo]
     rw [e3 _ _ _ e4] at hvj
     exact hvj
   ·rw [if_neg hin]
    obtain ⟨u,hu,hvu⟩:=c3 a0 hA ix j hi (by rw [hcs]; omega)
    have hu' : us[a0.off + ix * s + j]? = some u:=by simpa [cellH,hbk] using hu
    refine ⟨u,hu',?_⟩
    refine VR.keep M ?_
    have e3 : ∀ (l : List Value) (hl : j < l.length) (x : Value),l[j]? = some x → l[j] = x:=fun l hl x hx=>by simpa [hl] using hx
    have e4 : (((List.range s).map fun r => (us[a0.off + ix * s + r]?).getD undef).take off ++ ((a.eval y).cells.toList ++ ((List.range s).map fun r => (us[a0.off + ix * s + r]?).getD undef).drop (off + (a.eval y).cells.toList.length)))[j]? = some u := by
     by_cases hjo : j < off
     ·rw [List.getElem?_append_left (by simp; omega)]
      simp [hjo,hu',show j < s by omega]
     ·rw [List.getElem?_append_right (by simp; omega), List.getElem?_append_right (by simp; omega)]
      simp only [List.length_take,List.length_map,List.length_range,Nat.min_eq_left (show off ≤ s by omega)]
      rw [List.getElem?_drop]
      rw [show off + (a.eval y).cells.toList.length + (j - off - (a.eval y).cells.toList.length) = j by omega]
      simp [hu',show j < s by omega]
    rw [e3 _ _ _ e4] at hvj
    exact hvj
  ·have hj' : j < xs[q].length := by rw [(c1 q hq).1]; exact hjs
   obtain ⟨u,hu,hvu⟩:=hold hq hj'
   have hnot : ¬ (a0.off + ix * s + off ≤ a0.off + q * s + j ∧ a0.off + q * s + j < a0.off + ix * s + off + (a.eval y).cells.toList.length) := by
    intro ⟨h1,h2⟩
    have h5 : off + i.size ≤ s:=by omega
    rcases Nat.lt_or_gt_of_ne hqi with h|h
    ·have : (ix + 1) * s ≤ q * s := Nat.mul_le_mul_right _ h
     rw [Nat.add_mul,Nat.one_mul] at this; omega
    ·have : (q + 1) * s ≤ ix * s := Nat.mul_le_mul_right _ h
     rw [Nat.add_mul,Nat.one_mul] at this; omega
   rw [if_neg hnot]
   refine ⟨u,hu,?_⟩
   have e2 : (xs.set ix (setCells cs off (toCells (ev G ρ y))))[q]'(by simpa using hq) = xs[q]:=List.getElem_set_ne hqi _
   have e5 : (xs.set ix (setCells cs off (toCells (ev G ρ y))))[q][j] = xs[q][j]:=by simp only [e2]
   rw [e5]; exact hvu.keep M
 ·rcases Nat.lt_or_ge k st.nx with hx' | hx'
  ·exact hx'
  ·exact absurd (R.core.dead k hx') hl0

def Env.hdrTo (E : Env) (k : Nat) (H : Option Addr × Nat) : Env:={ own:=E.own,φ:=E.φ,hdr:=up E.hdr k H }

def OwnTail (E : Env) (h : Heap) (k s : Nat) (A : Option Addr) (c : Nat) : Prop :=
 ∀ a,A = some a → a.spot = none ∧ ∃ us e f,h[a.block]? = some (.cells us e f) ∧ (a.off + c * s ≤ us.size ∧ Fz us.size f ∧ E.own a.block us.size = .ob k) ∧ ∀ o,a.off ≤ o → o < a.off + c * s → E.own a.block o = .ob k ∧ ¬ (f.1 ≤ o ∧ o < f.2)

theorem append_arr_step {E w st a} {k s cap g g' : Nat} {A : Option Addr} {c : Nat} {xs ys : List (List D)} {olds news : List Value} {e : TypeId} {z : Value}
  (R : Rel G E w st a) (h0 : k < st.nx) (hs : 0 < s) (hB : (st.σ k = .dead ∧ c = 0) ∨ (∃ x0,st.σ k = .arr g s x0 ∧ g < g')) (hO : OwnTail E w.heap k s A c)
  (R1 : Row E w.heap st.σ xs s olds) (hc1 : ∀ a,A = some a → ∀ q,q < xs.length * s → cellH w.heap a.block (a.off + q) = some (olds.getD q undef)) (hnA : A = none → xs = [] ∧ c = 0) (hle : xs.length ≤ c)
  (R2 : Row E w.heap st.σ ys s news) (hz : z.cells.size = s) :
  (xs.length + ys.length ≤ c →
   ∃ E' w',baseStore P A (xs.length * s) news w = .ok () w' ∧
    StepTo G E w st a E' w' (.sl k g' 0 (xs.length + ys.length)) (.slice A (xs.length + ys.length) c) [(k,.arr g' s (xs ++ ys))]) ∧
  (¬ xs.length + ys.length ≤ c → xs.length + ys.length ≤ cap →
   ∃ E',StepTo G E w st a E' (w.drew.alloc (.cells (olds.toArray ++ (news.toArray ++ Builtin.zeroCells z.cells (cap - (xs.length + ys.length)))) e))
    (.sl k g' 0 (xs.length + ys.length)) (.slice (some ⟨w.heap.size,0,none⟩) (xs.length + ys.length) cap) [(k,.arr g' s (xs ++ ys))]):=by
 have hlen1 : olds.length = xs.length * s:=R1.len
 have hlen2 : news.length = ys.length * s:=R2.len
 have hmul : (xs.length + ys.length) * s = xs.length * s + ys.length * s:=Nat.add_mul _ _ _
 have hl : (xs ++ ys).length = xs.length + ys.length:=by simp
 have idk : ∀ (H : Option Addr × Nat), live st.σ k → AObj.arr g' s (xs ++ ys) ≠ .dead ∧ (∀ m', tlen (up st.σ k (.arr g' s (xs ++ ys))) k = some m' → ∃ m, tlen st.σ k = some m ∧ m < m') ∧
   ∀ s',tstr (up st.σ k (.arr g' s (xs ++ ys))) k = some s' → tstr st.σ k = some s':=by
  intro H hlv
  rcases hB with ⟨hd,_⟩|⟨x0,hx0,hg⟩
  ·exact absurd hd hlv
  ·refine ⟨by simp, fun m' hm' => ?_, fun s' hs' => ?_⟩
   ·simp [tlen, up_self] at hm'; subst hm'
    exact ⟨g,by simp [tlen,hx0],hg⟩
   ·simp [tstr, up_self] at hs'; subst hs'
    simp [tstr,hx0]
 have viewVR : ∀ (E' : Env) (h' : Heap) (A' : Option Addr) (c' : Nat), E'.hdr k = (A', c') → xs.length + ys.length ≤ c' → (∀ a, A' = some a → a.spot = none) →
   VR E' h' (up st.σ k (.arr g' s (xs ++ ys))) (.sl k g' 0 (xs.length + ys.length)) (.slice A' (xs.length + ys.length) c'):=by
  intro E' h' A' c' hh hle' hsp
  refine .sl k g' 0 _ A' c' (by simp [live,up_self]) (fun m s1 hm hs1=>?_)
  simp [tlen,up_self] at hm; subst hm
  refine ⟨Nat.le_refl _,fun _=>?_⟩
  rw [hh]
  refine ⟨by omega,by omega,fun h=>h,fun a ha=>⟨0,Nat.zero_le _,fun _=>rfl,?_⟩⟩
  simp only at ha
  have:=hsp a ha
  rw [ha]
  obtain ⟨b,o,sp⟩:=a
  simp only at this
  subst this
  simp
 constructor
 ·intro hfit
  cases A with
  | none =>
   obtain ⟨hx0,hc0⟩:=hnA rfl
   subst hx0
   have hy0 : ys = [] := by
    cases ys with
    | nil=>rfl
    | cons y ys=>simp at hfit; omega
   subst hy0
   subst hc0
   have S : HStep k E w.heap st.σ (E.nilled k) w.heap (.arr g' s ([] ++ [])) := by
    rcases hB with ⟨hd,_⟩|⟨x0,hx0,hg⟩
    ·exact HStep.nilled R.core.bnd hd
    ·have S0 := idk (none, 0)
     refine ⟨Nat.le_refl _,fun b o hb ho=>⟨?_,fun _=>rfl⟩,fun b o q hq=>⟨?_,.inl rfl⟩,fun b o hq=>.inl ?_,fun b o hh=>R.core.bnd b o (fun he=>hh (by simp [Env.nilled,he])),fun b c e f hb=>⟨c,f,hb,rfl,.refl _ _⟩,fun _ _ _=>rfl,fun j hj=>⟨rfl,up_ne _ _ hj⟩,fun hlv=>?_⟩
     ·simp only [Env.nilled]
      split
      ·rename_i j hj
       by_cases e : j = k
       ·subst e; exact absurd hj ho
       ·simp [e,hj]
      ·rfl
     ·simp only [Env.nilled] at hq
      split at hq
      ·split at hq <;> simp at hq
      ·exact hq
     ·simp only [Env.nilled] at hq
      split at hq
      ·split at hq <;> simp at hq
      ·exact hq
     ·obtain ⟨p1, p2, p3⟩ := S0 hlv
      refine ⟨p1,rfl,fun m' hm'=>?_,p3⟩
      obtain ⟨m,q1,q2⟩:=p2 m' hm'
      exact ⟨m,q1,by omega,fun e=>by omega⟩
   refine ⟨E.nilled k,w,rfl,StepTo.one R S ⟨hs,?_,⟨?_,?_,?_⟩,?_⟩ h0 (viewVR _ _ none 0 (by simp [Env.nilled,up_self]) (by simp) (by simp)) (WSame.refl _)⟩
   ·simp
   ·simp
   ·simp [Env.nilled,up_self]
   ·intro a ha; simp [Env.nilled,up_self] at ha
   ·exact ⟨fun i hi=>by simp at hi,fun _=>rfl,fun a ha=>by simp [Env.nilled,up_self] at ha⟩
  | some ad =>
   obtain ⟨sp,us,e',f,hb,hsz,hown⟩:=hO ad rfl
   obtain ⟨b,off,spot⟩:=ad
   simp only at sp hsz hown hb
   subst sp
   have hcs : (xs.length + ys.length) * s ≤ c * s:=Nat.mul_le_mul_right s hfit
   have hlt:=lt_of_get hb
   have hrun := run_storeCells (P := P) (b := b) (off := off + xs.length * s) (e := e') (f := f) news 0 us w hb (by omega) R2.one
    (fun o a1 a2=>(hown o (by omega) (by omega)).2)
   have S : HStep k E w.heap st.σ (E.hdrTo k (some ⟨b, off, none⟩, c)) (w.heap.setIfInBounds b (.cells (writeAt us (off + xs.length * s) news) e' f)) (.arr g' s (xs ++ ys)) := by
    refine HStep.write R.core.bnd hb (writeAt_size _ _ _) (fun b' o ho=>rfl) (fun b' o ho=>⟨fun _=>R.core.bnd b' o (by simp [ho]),fun q=>by simp [Env.hdrTo,ho],by simp [Env.hdrTo,ho]⟩) (fun o ho=>?_) (fun j hj=>⟨rfl,up_ne _ _ hj⟩) (fun hlv=>?_)
    ·rw [writeAt_get _ _ _ _ (by omega)]
     rw [if_neg]
     intro ⟨h1,h2⟩
     exact ho (hown o (by omega) (by omega)).1
    ·obtain ⟨p1, p2, p3⟩ := idk (some ⟨b, off, none⟩, c) hlv
     refine ⟨p1,rfl,fun m' hm'=>?_,p3⟩
     obtain ⟨m,q1,q2⟩:=p2 m' hm'
     exact ⟨m,q1,by omega,fun e=>by omega⟩
   have M:=S.cmap R.core.bnd
   refine ⟨_,{ w with heap:=w.heap.setIfInBounds b (.cells (writeAt us (off + xs.length * s) news) e' f) },?_,StepTo.one R S ⟨hs,?_,⟨?_,?_,?_⟩,?_⟩ h0 (viewVR _ _ (some ⟨b,off,none⟩) c (by simp [Env.hdrTo,up_self]) hfit (fun a ha=>by simp at ha; subst ha; rfl)) ⟨rfl,rfl,rfl⟩⟩
   ·simp only [baseStore, add_none]
    simpa using hrun
   ·rw [hl]; simp [Env.hdrTo,up_self]; exact hfit
   ·simp
   ·simp [Env.hdrTo,up_self]
   ·intro a ha
    simp [Env.hdrTo,up_self] at ha
    subst ha
    refine ⟨rfl,_,e',f,get_set_same hlt,⟨by simp [Env.hdrTo,up_self,writeAt_size]; exact hsz.1,by simp only [writeAt_size]; exact hsz.2.1,by simp only [writeAt_size,Env.hdrTo]; exact hsz.2.2⟩,fun o h1 h2=>?_⟩
    simp [Env.hdrTo,up_self] at h1 h2 ⊢
    have:=hown o h1 h2
    exact ⟨this.1,by simpa using this.2⟩
   ·refine row_cont (cs := olds ++ news) ((R1.keep M).append (R2.keep M)) (by simp [Env.hdrTo, up_self]) (fun a ha q hq => ?_)
    simp [Env.hdrTo,up_self] at ha
    subst ha
    rw [hl] at hq
    simp only [cellH,get_set_same hlt]
    rw [writeAt_get _ _ _ _ (by omega)]
    by_cases hq1 : q < xs.length * s
    ·rw [if_neg (by omega)]
     have:=hc1 _ rfl q hq1
     simp only [cellH,hb] at this
     rw [this]
     simp [List.getD,List.getElem?_append,show q < olds.length by omega]
    ·rw [if_pos (by omega)]
     have e1 : off + q - (off + xs.length * s) = q - olds.length:=by omega
     have e2 : q - olds.length < news.length:=by omega
     rw [e1]
     simp [List.getD,List.getElem?_append,show ¬ q < olds.length by omega,e2]
 ·intro hfit hcap
  have S : HStep k E w.heap st.σ (E.grown k w.heap.size 0 cap) (w.heap.push (.cells (olds.toArray ++ (news.toArray ++ Builtin.zeroCells z.cells (cap - (xs.length + ys.length)))) e)) (.arr g' s (xs ++ ys)) := by
   refine HStep.grow R.core.bnd (fun hlv=>idk (none,0) hlv)
  have M:=S.cmap R.core.bnd
  have hcap' : (xs.length + ys.length) * s ≤ cap * s:=Nat.mul_le_mul_right s hcap
  have hzs : (Builtin.zeroCells z.cells (cap - (xs.length + ys.length))).size = cap * s - (xs.length + ys.length) * s := by
   rw [zeroCells_size,hz,Nat.sub_mul]
  refine ⟨_,StepTo.one R S ⟨hs,?_,⟨?_,?_,?_⟩,?_⟩ h0 (viewVR _ _ (some ⟨w.heap.size,0,none⟩) cap (by simp [Env.grown,up_self]) hcap (fun a ha=>by simp at ha; subst ha; rfl)) ⟨rfl,rfl,rfl⟩⟩
  ·rw [hl]; simp [Env.grown,up_self]; exact hcap
  ·simp
  ·simp [Env.grown,up_self]
  ·intro a ha
   simp [Env.grown,up_self] at ha
   subst ha
   refine ⟨rfl,_,e,(0,0),get_push_new,?_,fun o h1 h2=>?_⟩
   ·simp only [Env.grown, up_self, Array.size_append, List.size_toArray, hzs, Nat.zero_add]
    refine ⟨by omega,.inl rfl,by simp⟩
   ·simp [Env.grown,up_self]
  ·refine row_cont (cs := olds ++ news) ((R1.keep M).append (R2.keep M)) (by simp [Env.grown, up_self]) (fun a ha q hq => ?_)
   simp [Env.grown,up_self] at ha
   subst ha
   rw [hl] at hq
   have e1 : (w.drew.alloc (.cells (olds.toArray ++ (news.toArray ++ Builtin.zeroCells z.cells (cap - (xs.length + ys.length)))) e)).heap = w.heap.push (.cells (olds.toArray ++ (news.toArray ++ Builtin.zeroCells z.cells (cap - (xs.length + ys.length)))) e):=rfl
   rw [e1]
   simp only [cellH,get_push_new,Nat.zero_add]
   rw [← Array.append_assoc,Array.getElem?_append]
   have h3 : q < (olds.toArray ++ news.toArray).size:=by simp; omega
   rw [if_pos h3]
   have h4 : q < (olds ++ news).length:=by simp; omega
   rw [List.getD,List.getElem?_eq_getElem h4]
   simp [h4]

theorem append_sl_op (hT : TOk P T) {o : Oper} {t t2 e it i j z x y k ρ σ id ys g off n s xs} (ho : o.op = .call { callee := .builtin .append, args := #[x, y], argTypes := #[t, t2] })
  (ht : T t = some it) (hd : it.d = .slice e) (he : T e = some i) (hz : i.zero = some z) (hzs : z.cells.size = i.size) (hs : 0 < i.size) (hb0 : 0 < i.bytes)
  (h2 : T t2 = some j) (hj : isSrc j.d = true) (hx : ev G ρ x = .sl k g off n) (hk : σ k = .arr g s xs) (hss : s = i.size) (hin : off + n ≤ xs.length)
  (hy : srcOf (ev G ρ y) = some ys) (hl : ∀ c ∈ ys,c.length = i.size) (hb : (n + ys.length) * i.bytes ≤ 140737488355328) :
  OpStep P G o ρ σ id (.sl k (g + 1) 0 (n + ys.length)) [(k,.arr (g + 1) i.size ((xs.drop off).take n ++ ys))] [k]:=by
 intro E a w st R hh hkk h0
 have hvx:=R.evo (ops:=o.op.operands) hh x (by simp [ho,Op.operands,Call.operands])
 have hvy:=R.evo (ops:=o.op.operands) hh y (by simp [ho,Op.operands,Call.operands])
 have hσ:=(hkk k (.inl (by simp))).trans hk
 subst hss
 obtain ⟨news,R2,hlen,hfirst⟩:=src_row (P:=P) hvy hy hl
 rw [hx] at hvx
 obtain ⟨A,c,e1,hlv,hv⟩:=hvx.sl_inv
 obtain ⟨_,hv2⟩:=hv g i.size (by simp [tlen,hσ]) (by simp [tstr,hσ])
 have hH:=hv2 rfl
 have hO:=R.core.objs k
 rw [hσ] at hO
 obtain ⟨h00,hxl,hT',hC⟩:=hO
 obtain ⟨olds,R1,hcell,hnone,hold⟩:=view_row (P:=P) hC hH hin hxl hT'.2.1
 have hvl : ((xs.drop off).take n).length = n:=by simp; omega
 have hk0 : k < st.nx := by
  rcases Nat.lt_or_ge k st.nx with hq|hq
  ·exact hq
  ·have := R.core.dead k hq
   rw [this] at hσ; simp at hσ
 have hOT : OwnTail E w.heap k i.size A c := by
  intro a' ha'
  obtain ⟨s1,s2,s3,s4⟩:=hH
  cases hA : (E.hdr k).1 with
  | none=>rw [s3 hA] at ha'; simp at ha'
  | some a0 =>
   obtain ⟨j',j1,j2,j3⟩:=s4 a0 hA
   rw [j3] at ha'
   simp at ha'; subst ha'
   obtain ⟨sp,us,e',f,hb',hsz,hown⟩:=hT'.2.2 a0 hA
   have hjs : j' * i.size ≤ (E.hdr k).2 * i.size:=Nat.mul_le_mul_right _ j1
   refine ⟨rfl,us,e',f,hb',⟨?_,hsz.2⟩,fun o' h1 h2=>?_⟩
   ·simp only
    by_cases hoc : off < (E.hdr k).2
    ·obtain rfl := j2 hoc
     have : c * i.size = (E.hdr k).2 * i.size - j' * i.size:=by rw [s2,Nat.sub_mul]
     omega
    ·have : c = 0 := by omega
     subst this; omega
   ·simp only at h1 h2
    have hc0 : 0 < c := by
     rcases Nat.eq_zero_or_pos c with h|h
     ·subst h; omega
     ·exact h
    obtain rfl:=j2 (by omega)
    have : c * i.size = (E.hdr k).2 * i.size - j' * i.size:=by rw [s2,Nat.sub_mul]
    exact hown o' (by omega) (by omega)
 have hnc : n ≤ c:=by have:=hH.1; have:=hH.2.1; omega
 have hrun:=run_append_gen (P:=P) (ty:=o.type) hT ht hd he hz h2 hj hb0 (base:=A) (sLen:=n) (sCap:=c) (m:=ys.length) (x:=a.eval y) (w:=w) hlen hfirst hold hb
 obtain ⟨q1, q2⟩ := append_arr_step (P := P) (g := g) (g' := g + 1) (cap := grownCap w (n + ys.length) c e) (e := e) (z := z) R hk0 hs (.inr ⟨xs, hσ, by omega⟩) hOT R1
  (fun a' ha' q hq=>(hcell a' ha').2 q (by rw [hvl] at hq; exact hq)) (fun e=>⟨List.eq_nil_of_length_eq_zero (by rw [hvl]; exact (hnone e).1),(hnone e).2⟩) (by rw [hvl]; exact hnc) R2 hzs
 rw [hvl] at q1 q2
 by_cases hfit : n + ys.length ≤ c
 ·obtain ⟨E', w', hw, S⟩ := q1 hfit
  rw [if_pos hfit,hw] at hrun
  refine opwp_value (v:=.slice A (n + ys.length) c) (w':=w') ?_ ⟨E',_,rfl,S⟩
  simp [execOp,ho,resolve,invoke,builtin,e1]
  rw [hrun]; simp
 ·have hcap : n + ys.length ≤ grownCap w (n + ys.length) c e := by
   unfold grownCap Question.cut
   exact Nat.le_add_right _ _
  obtain ⟨E',S⟩:=q2 hfit hcap
  rw [if_neg hfit] at hrun
  refine opwp_value ?_ ⟨E',_,rfl,S⟩
  simp [execOp,ho,resolve,invoke,builtin,e1]
  rw [hrun]; simp
end Go.AL

namespace Go.AL
open Go
variable {P : Program} {G : Glob} {T : Tab}

theorem VR.sro_inv {E h σ cs x} (hx : VR E h σ (.sro cs) x) : ∃ b o, x = .pointer (some ⟨b, o, none⟩) ∧ ∃ u : Nat → Value,
  (∀ j (hj : j < cs.length),SqR E h cs[j] b (o + j) (u j)) ∧ (∀ j (hj : j < cs.length),VR E h σ cs[j] (u j)) ∧ (∀ j (hj : j < cs.length),(cs[j].idf || cs[j].isSq) = true):=by
 cases hx with
 | sro _ b o u hr hv hf=>exact ⟨b,o,rfl,u,hr,hv,hf⟩

theorem VR.sq_inv {E h σ q x} (hx : VR E h σ (.sq q) x) : q.ok x := by
 cases hx with
 | sq _ _ hq=>exact hq

theorem indexAddr_slist_op (hT : TOk P T) {o : Oper} {t x y ρ σ id it e i kk n xs cs} (ho : o.op = .indexAddr t x y) (ht : T t = some it) (hd : it.d = .slice e) (he : T e = some i)
  (hx : ev G ρ x = .slist xs) (hy : ev G ρ y = .v (.int kk n)) (h0 : 0 ≤ n) (hg : xs[n.toNat]? = some cs) (hl : cs.length = i.size) : OpStep P G o ρ σ id (.sro cs) [] []:=by
 refine opstep_pure fun E a w st R hh _=>?_
 have hvx:=R.evo (ops:=o.op.operands) hh x (by simp [ho,Op.operands])
 have hey:=R.ev_v (ops:=o.op.operands) hh (x:=y) (by simp [ho,Op.operands]) hy
 rw [hx] at hvx
 have hi : n.toNat < xs.length := by
  rcases Nat.lt_or_ge n.toNat xs.length with h|h
  ·exact h
  ·simp [List.getElem?_eq_none h] at hg
 have hcs : xs[n.toNat] = cs:=by simpa [hi] using hg
 revert hvx
 generalize hex : a.eval x = vx
 intro hvx
 cases hvx with
 | slist _ A c s u hc hb hs hn ha hv hf =>
  have hss : s = i.size:=by rw [← hs n.toNat hi,hcs,hl]
  subst hss
  cases A with
  | none=>have:=(hn rfl).1; subst this; simp at hi
  | some ad =>
   obtain ⟨b,off,spot⟩:=ad
   obtain ⟨sp,hr⟩:=ha _ rfl
   have sp:=sp (fun e=>by subst e; simp at hi)
   simp at sp; subst sp
   refine ⟨.pointer (some ⟨b,off + n.toNat * i.size,none⟩),?_,?_⟩
   ·have hlt : n < xs.length := by omega
    have hund : ∀ w',(underlying t).run P w' = .ok (.slice e) w':=fun w'=>by rw [run_und hT w' ht,hd]
    simp [execOp,ho,hex,hey,Instr.indexAt,asIntOf,hund,h0,hlt,run_size hT w he,add_none]
   ·subst hcs
    exact .sro _ b _ (fun j=>u n.toNat j) (fun j hj=>hr n.toNat j hi hj) (fun j hj=>hv n.toNat j hi hj) (fun j hj=>hf n.toNat j hi hj)

theorem fieldAddr_sro_op (hT : TOk P T) {o : Oper} {s x f ρ σ id i fs fd j cs} (ho : o.op = .fieldAddr s x f) (hs : T s = some i) (hd : i.d = .struct fs) (hf : fs[f]? = some fd)
  (hj : T fd.type = some j) (hz : j.size ≠ 0) (hx : ev G ρ x = .sro cs) : OpStep P G o ρ σ id (.sro (cs.drop fd.offset)) [] []:=by
 refine opstep_pure fun E a w st R hh _=>?_
 have hvx:=R.evo (ops:=o.op.operands) hh x (by simp [ho,Op.operands])
 rw [hx] at hvx
 obtain ⟨b,off,e,u,hr,hv,hf'⟩:=hvx.sro_inv
 refine ⟨_,by simp [execOp,ho,e,run_fieldAt hT w hs hd hf hj hz],.sro _ b (off + fd.offset) (fun j=>u (fd.offset + j)) (fun j hj=>?_) (fun j hj=>?_) (fun j hj=>?_)⟩
 ·simp at hj
  have:=hr (fd.offset + j) (by omega)
  rw [← Nat.add_assoc] at this
  simpa using this
 ·simp at hj
  simpa using hv (fd.offset + j) (by omega)
 ·simp at hj
  simpa using hf' (fd.offset + j) (by omega)

theorem load_sro_op (hT : TOk P T) {o : Oper} {t x ρ σ id i cs d} (ho : o.op = .load t x) (ht : T t = some i) (hx : ev G ρ x = .sro cs)
  (hd : ofCells i (cs.take i.size) = some d) : OpStep P G o ρ σ id d [] []:=by
 refine opstep_pure fun E a w st R hh hs=>?_
 have hvx:=R.evo (ops:=o.op.operands) hh x (by simp [ho,Op.operands])
 rw [hx] at hvx
 obtain ⟨b,off,e,u,hr,hv,hf'⟩:=hvx.sro_inv
 have key : ∀ j, ∃ y, j < cs.length → cellH w.heap b (off + j) = some y ∧ ∀ hj : j < cs.length, VR E w.heap st.σ cs[j] y := by
  intro j
  by_cases hj : j < cs.length
  ·have h1 := hr j hj
   cases hc : cs[j] with
   | sq q =>
    rw [hc] at h1
    obtain ⟨_,y,hy,hq⟩:=R.core.sc b (off + j) q h1
    refine ⟨y,fun _=>⟨hy,fun _=>?_⟩⟩
    rw [hc]; exact .sq q y hq
   | _ =>
    refine ⟨u j,fun _=>⟨?_,fun _=>hv j hj⟩⟩
    rw [hc] at h1
    exact h1.2
  ·exact ⟨undef,fun h=>absurd h hj⟩
 obtain ⟨f,hf⟩:=Classical.axiomOfChoice key
 obtain ⟨v, hr2, hvr⟩ := run_loadVar_cells (P := P) (w := w) (E := E) (σ := st.σ) hT (b := b) (o := off) ht hd f
  (fun j hj=>by simp at hj; exact (hf j (by omega)).1)
  (fun j hj=>by simp at hj; simpa using (hf j (by omega)).2 (by omega))
 exact ⟨v,by simp [execOp,ho,e,Instr.loadAt,Instr.sureAddr,hr2],hvr⟩

def sqFits : ScK → D → Bool
 | .int k,.v (.int k' _)=>decide (k = k')
 | .int k,.sq (.int k')=>decide (k = k')
 | .str,.v (.string _)=>true
 | .str,.sq .str=>true
 | _,_=>false
theorem sqFits_ok {E h σ q d x} (hf : sqFits q d = true) (hx : VR E h σ d x) : q.ok x := by
 cases hx with
 | v x=>cases q <;> cases x <;> simp [sqFits] at hf <;> simp [ScK.ok,hf]
 | sq q' x hq=>cases q <;> cases q' <;> simp [sqFits] at hf <;> first|exact hq|(subst hf; exact hq)
 | _=>cases q <;> simp [sqFits] at hf

theorem ScK.one {q : ScK} {x : Value} (h : q.ok x) : x.oneCell' = true ∧ x.cells = #[x] := by
 cases q with
 | int k=>obtain ⟨n,rfl⟩:=h; exact ⟨rfl,rfl⟩
 | str=>obtain ⟨s,rfl⟩:=h; exact ⟨rfl,rfl⟩
 | bool=>obtain ⟨s,rfl⟩:=h; exact ⟨rfl,rfl⟩

theorem store_sro_op (hT : TOk P T) {o : Oper} {t x y ρ σ id i cs q} (ho : o.op = .store t x y) (ht : T t = some i) (hs : i.size = 1) (hx : ev G ρ x = .sro (.sq q :: cs)) (hid : σ id = .dead)
  (hf : sqFits q (ev G ρ y) = true) : OpStep P G o ρ σ id (.v undef) [] [id]:=by
 intro E a w st R hh hkk h0
 have hv:=R.evo (ops:=o.op.operands) hh y (by simp [ho,Op.operands])
 have hp:=R.evo (ops:=o.op.operands) hh x (by simp [ho,Op.operands])
 rw [hx] at hp
 obtain ⟨b,off,e,u,hr,_,_⟩:=hp.sro_inv
 have hown : E.own b off = .sc q:=hr 0 (by simp)
 have hq:=sqFits_ok hf hv
 obtain ⟨h1,h2⟩:=ScK.one hq
 obtain ⟨⟨us,e',f,hb,hnf⟩,y0,hy0,_⟩:=R.core.sc b off q hown
 have hlt:=lt_of_get hb
 have hol : off < us.size := by
  simp only [cellH,hb] at hy0
  rcases Nat.lt_or_ge off us.size with h|h
  ·exact h
  ·simp [Array.getElem?_eq_none h] at hy0
 have hidσ : st.σ id = .dead:=(hkk id (.inl (by simp))).trans hid
 have hcl : (a.eval y).cells.toList = [a.eval y]:=by rw [h2]
 have hrun := run_storeCells (P := P) (off := off) (e := e') (f := f) [a.eval y] 0 us w hb (by simp; omega) (fun v hv => by simp at hv; subst hv; exact h1) (fun o h1 h2 => by
  simp at h2
  have : o = off:=by omega
  rw [this]; exact hnf hol)
 have hup : up st.σ id .dead = st.σ := by
  funext k; rw [up_apply]; split
  ·rename_i e; subst e; exact hidσ.symm
  ·rfl
 have S : HStep id E w.heap st.σ E (w.heap.setIfInBounds b (.cells (us.setIfInBounds off (a.eval y)) e' f)) .dead := by
  have hcell : ∀ b' o', (b' = b ∧ o' = off) ∨ cellH (w.heap.setIfInBounds b (.cells (us.setIfInBounds off (a.eval y)) e' f)) b' o' = cellH w.heap b' o' := by
   intro b' o'
   by_cases e1 : b = b'
   ·subst e1
    by_cases e2 : o' = off
    ·exact .inl ⟨rfl,e2⟩
    ·right
     simp only [cellH,get_set_same hlt,hb]
     rw [Array.getElem?_setIfInBounds_ne (by omega)]
   ·right; simp only [cellH,get_set_ne e1]
  refine ⟨by simp,fun b' o' hb' ho'=>⟨rfl,fun hns=>?_⟩,fun b' o' q' hq'=>⟨hq',?_⟩,fun b' o' h=>.inl h,fun b' o' h=>by simpa using R.core.bnd b' o' h,fun b' c' e2 f' hc'=>?_,fun b' hb' hno=>?_,fun _ _=>⟨rfl,rfl⟩,fun hl=>absurd hidσ hl⟩
  ·rcases hcell b' o' with ⟨rfl, rfl⟩ | h
   ·exact absurd hown (hns q)
   ·exact h
  ·rcases hcell b' o' with ⟨rfl, rfl⟩ | h
   ·right
    rw [hown] at hq'
    simp at hq'; subst hq'
    exact ⟨_,by simp [cellH,get_set_same hlt,hol],hq⟩
   ·exact .inl h
  ·by_cases e1 : b = b'
   ·subst e1
    rw [hb] at hc'
    simp at hc'
    obtain ⟨rfl,rfl,rfl⟩:=hc'
    exact ⟨_,_,get_set_same hlt,by simp,.refl _ _⟩
   ·exact ⟨c',_,by rw [get_set_ne e1]; exact hc',rfl,.refl _ _⟩
  ·by_cases e1 : b = b'
   ·subst e1; exact absurd hown ((hno off).2 q)
   ·exact get_set_ne e1
 have C:=R.core.step S (by trivial) (Nat.le_refl _) h0
 have M:=S.cmap R.core.bnd
 rw [hup] at C M
 refine opwp_skip (w':={ w with heap:=w.heap.setIfInBounds b (.cells (us.setIfInBounds off (a.eval y)) e' f) }) ?_ ⟨E,undef,rfl,⟨.v _,⟨C,R.n,fun t=>(R.slots t).keep M,R.defers.keep (S.guar (m:=0))⟩,?_,⟨rfl,rfl,rfl⟩⟩⟩
 ·have hsz' : (a.eval y).cells.size = i.size := by rw [h2, hs]; rfl
  simp only [execOp,ho,Instr.storeAt,Instr.sureAddr,storeVar,Sem.run_bind,e,Sem.run_pure,Result.andThen_ok,run_size hT w ht,hsz',ne_eq,not_true_eq_false,if_false]
  rw [show storeCells ⟨b,off,none⟩ (a.eval y).cells.toList = storeCells ⟨b,off,none⟩ (a.eval y).cells.toList 0 from rfl,hcl]
  simp only [Sem.run_pure,Result.andThen_ok,hrun,Nat.add_zero]
  rfl
 ·have := S.guar (m := st.nx)
  rw [hup] at this
  exact this

def sqBin (op : BinOp) (d d' : D) : Option ScK :=
 match op with
 | .add|.sub|.mul=>(match d,d' with
  | .sq (.int k),.v (.int k' _)=>(match decide (k = k') with|true=>some (.int k)|false=>none)
  | _,_=>none)
 | _=>none
theorem sqBin_op {o : Oper} {op t x y t2 ρ σ id q} (ho : o.op = .binOp op t x y t2) (hq : sqBin op (ev G ρ x) (ev G ρ y) = some q) : OpStep P G o ρ σ id (.sq q) [] [] := by
 refine opstep_pure fun E a w st R hh hs=>?_
 have h1:=R.evo (ops:=o.op.operands) hh x (by simp [ho,Op.operands])
 have h2:=R.evo (ops:=o.op.operands) hh y (by simp [ho,Op.operands])
 revert hq h1 h2
 generalize ev G ρ x = dx
 generalize ev G ρ y = dy
 intro hq h1 h2
 unfold sqBin at hq
 split at hq
 case h_4=>simp at hq
 all_goals
  split at hq
  case h_2=>simp at hq
  rename_i k k' n
  split at hq
  case h_2=>simp at hq
  rename_i hkk
  obtain rfl:=of_decide_eq_true hkk
  simp at hq; subst hq
  obtain ⟨m,hm⟩:=h1.sq_inv
  have e2:=h2.v_inv
  exact ⟨_,by simp [execOp,ho,hm,e2,eqGuard,binOp]; rfl,.sq _ _ ⟨_,rfl⟩⟩
end Go.AL

namespace Go.AL
open Go
variable {P : Program} {G : Glob} {T : Tab}

def zeroD (z : Value) : D:=match z with|.agg cs=>.agg (cs.toList.map constD)|x=>constD x
theorem zeroD_vr (E h σ) (z : Value) : VR E h σ (zeroD z) z := by
 cases z with
 | agg cs =>
  have:=zcells_vr E h σ (.agg cs)
  exact .agg _ cs.toList this.1 this.2
 | slice a l c=>exact constD_vr E h σ (.slice a l c)
 | _=>exact .v _

abbrev Ents:=List (Value × D)
def keyB (k : Value) (x : Value) : Bool :=
 match k,x with
 | .string a,.string b=>decide (a.data.toList = b.data.toList)
 | _,_=>false
def mget : Ents → Value → Option D
 | [],_=>none
 | e :: r,k=>match keyB k e.1 with|true=>some e.2|false=>mget r k
def mset : Ents → Value → D → Ents
 | [],k,v=>[(k,v)]
 | e :: r,k,v=>match keyB k e.1 with|true=>(k,v) :: r|false=>e :: mset r k v
def strKeys (es : Ents) : Prop:=∀ e ∈ es,∃ s,e.1 = .string s

theorem ba_beq (a b : ByteArray) : (a == b) = decide (a.data.toList = b.data.toList) := by
 rw [beq_toListBytes,bytes_eq_iff]
 by_cases h : a = b
 ·subst h; simp
 ·have : ¬ a.data.toList = b.data.toList := fun e => h (by
   cases a with|mk a=>cases b with|mk b=>simp at e; rw [e])
  simp [h,this]

structure EntR (E : Env) (h : Heap) (σ : Store) (es : Ents) (ents : List MapEntry) : Prop where
 len : ents.length = es.length
 each : ∀ i (a : i < es.length) (b : i < ents.length),ents[i].key = es[i].1 ∧ VR E h σ es[i].2 ents[i].val ∧ es[i].2.idfV = true

theorem EntR.tail {E h σ e es m ents} (R : EntR E h σ (e :: es) (m :: ents)) : EntR E h σ es ents :=
 ⟨by have:=R.len; simpa using this,fun i a b=>R.each (i + 1) (by simpa using a) (by simpa using b)⟩
theorem EntR.head {E h σ e es m ents} (R : EntR E h σ (e :: es) (m :: ents)) : m.key = e.1 ∧ VR E h σ e.2 m.val ∧ e.2.idfV = true:=R.each 0 (by simp) (by simp)
theorem EntR.cons {E h σ e es m ents} (h1 : m.key = e.1 ∧ VR E h σ e.2 m.val ∧ e.2.idfV = true) (R : EntR E h σ es ents) : EntR E h σ (e :: es) (m :: ents) := by
 refine ⟨by simp [R.len],fun i a b=>?_⟩
 cases i with
 | zero=>exact h1
 | succ i=>exact R.each i (by simpa using a) (by simpa using b)

theorem find_spec {E h σ} (b : ByteArray) : ∀ (es : Ents) (ents : List MapEntry) (i0 : Nat), EntR E h σ es ents → strKeys es →
  (mget es (.string b) = none ∧ Instr.findNow .string (.string b) ents i0 = some none ∧ ∀ v,mset es (.string b) v = es ++ [(.string b,v)]) ∨
  ∃ j d v0,mget es (.string b) = some d ∧ VR E h σ d v0 ∧ d.idfV = true ∧ j < ents.length ∧ Instr.findNow .string (.string b) ents i0 = some (some (i0 + j,v0)) ∧
   (∀ (hj : j < ents.length),ents[j].key = .string b) ∧
   ∀ (v : D) (x : Value) (E' : Env) (h' : Heap) (σ' : Store),EntR E' h' σ' es ents → VR E' h' σ' v x → v.idfV = true → ∀ f : MapEntry → MapEntry,(∀ m,(f m).key = .string b ∧ (f m).val = x) → EntR E' h' σ' (mset es (.string b) v) (ents.modify j f)
 | [],[],i0,R,hk=>.inl ⟨rfl,rfl,fun v=>rfl⟩
 | [],_ :: _,i0,R,hk=>by have:=R.len; simp at this
 | _ :: _,[],i0,R,hk=>by have:=R.len; simp at this
 | e :: es, m :: ents, i0, R, hk => by
  obtain ⟨s,hs⟩:=hk e (by simp)
  obtain ⟨k1,k2,k3⟩:=R.head
  have hsame : Instr.sameNow .string (.string b) m.key = some (b == s):=by rw [k1,hs]; rfl
  rw [ba_beq] at hsame
  have hkb : keyB (.string b) e.1 = decide (b.data.toList = s.data.toList):=by rw [hs]; rfl
  cases hb : decide (b.data.toList = s.data.toList) with
  | true =>
   right
   have hbs : b = s := by
    have:=of_decide_eq_true hb
    cases b with|mk b=>cases s with|mk s=>simp at this; rw [this]
   refine ⟨0,e.2,m.val,?_,k2,k3,by simp,?_,?_,?_⟩
   ·simp only [mget,hkb,hb]
   ·simp only [Instr.findNow,hsame,hb,Nat.add_zero]
   ·intro _; simp [k1,hs,hbs]
   ·intro v x E' h' σ' R' hv hi f hf
    have : mset (e :: es) (.string b) v = (.string b,v) :: es:=by simp only [mset,hkb,hb]
    rw [this]
    simp only [List.modify_zero_cons]
    exact EntR.cons ⟨(hf m).1,by rw [(hf m).2]; exact hv,hi⟩ R'.tail
  | false =>
   have hms : ∀ v,mset (e :: es) (.string b) v = e :: mset es (.string b) v:=fun v=>by simp only [mset,hkb,hb]
   have hmg : mget (e :: es) (.string b) = mget es (.string b):=by simp only [mget,hkb,hb]
   have hfn : Instr.findNow .string (.string b) (m :: ents) i0 = Instr.findNow .string (.string b) ents (i0 + 1):=by simp only [Instr.findNow,hsame,hb]
   rcases find_spec (E:=E) (h:=h) (σ:=σ) b es ents (i0 + 1) R.tail (fun e' he'=>hk e' (by simp [he'])) with ⟨h1,h2,h3⟩|⟨j,d,v0,h1,h2,h3,h4,h5,h6,h7⟩
   ·exact .inl ⟨hmg.trans h1,hfn.trans h2,fun v=>by rw [hms,h3]; rfl⟩
   ·right
    refine ⟨j + 1,d,v0,hmg.trans h1,h2,h3,by simpa using h4,?_,fun hj=>by simpa using h6 (by simpa using hj),?_⟩
    ·rw [hfn,h5]; simp; omega
    ·intro v x E' h' σ' R' hv hi f hf
     rw [hms]
     simp only [List.modify_succ_cons]
     exact EntR.cons R'.head (h7 v x E' h' σ' R'.tail hv hi f hf)

theorem OR.ents {E h σ k es} (H : OR E h σ k (.map es)) : ∃ ents clk, h[E.φ k]? = some (.map ents clk) ∧ EntR E h σ es ents.toList ∧ ∀ o, E.own (E.φ k) o = .ob k := by
 obtain ⟨ents,clk,hb,⟨hl,_⟩,hv,ho⟩:=H
 refine ⟨ents,clk,hb,⟨by simpa using hl,fun i a b=>by simpa using hv i a (by simpa using b)⟩,ho⟩

theorem OR.stp {E h σ k es} (H : OR E h σ k (.map es)) {ents clk} (hb : h[E.φ k]? = some (.map ents clk)) : Stp ents clk := by
 obtain ⟨ents',clk',hb',⟨_,hl⟩,_⟩:=H
 rw [hb'] at hb
 injection hb with hb
 injection hb with h1 h2
 subst h1; subst h2; exact hl
theorem Stp.push {ents : Array MapEntry} {clk : Nat} {key val : Value} (h : Stp ents clk) (hk : key ∉ ents.toList.map (·.key)) : Stp (ents.push { key, val, born := clk }) (clk + 1) := by
 obtain ⟨h1,h2,h3⟩:=h
 refine ⟨fun x hx=>?_,?_,?_⟩
 ·simp only [Array.toList_push, List.mem_append, List.mem_singleton] at hx
  rcases hx with hx|rfl
  ·exact Nat.lt_succ_of_lt (h1 x hx)
  ·exact Nat.lt_succ_self _
 ·simp only [Array.toList_push, List.map_append, List.map_cons, List.map_nil]
  rw [List.nodup_append]
  refine ⟨h2,by simp,fun a ha b hb=>?_⟩
  simp only [List.mem_singleton] at hb
  obtain ⟨x,hx,rfl⟩:=List.mem_map.1 ha
  have:=h1 x hx
  omega
 ·simp only [Array.toList_push, List.map_append, List.map_cons, List.map_nil]
  rw [List.nodup_append]
  refine ⟨h3,by simp,fun a ha b hb=>?_⟩
  simp only [List.mem_singleton] at hb
  subst hb
  exact fun e=>hk (e ▸ ha)
theorem map_modify {α β : Type} (g : α → β) (f : α → α) : ∀ (l : List α) (j : Nat), (∀ (hj : j < l.length), g (f l[j]) = g l[j]) → (l.modify j f).map g = l.map g
 | [],j,_=>by simp
 | a :: l,0,h=>by have:=h (by simp); simp at this; simp [this]
 | a :: l,j + 1,h=>by simp only [List.modify_succ_cons,List.map_cons]; rw [map_modify g f l j (fun hj=>by have:=h (by simpa using hj); simpa using this)]
theorem Stp.modify {ents : Array MapEntry} {clk j : Nat} {f : MapEntry → MapEntry} (h : Stp ents clk) (hb : ∀ m, (f m).born = m.born) (hk : ∀ (hj : j < ents.toList.length), (f ents.toList[j]).key = ents.toList[j].key) : Stp (ents.modify j f) clk := by
 obtain ⟨h1,h2,h3⟩:=h
 have e1 : ((ents.modify j f).toList.map (·.born)) = ents.toList.map (·.born) := by
  rw [Array.toList_modify]; exact map_modify (fun m : MapEntry=>m.born) f _ _ (fun hj=>hb _)
 refine ⟨fun x hx=>?_,by rw [e1]; exact h2,?_⟩
 ·have : x.born ∈ ents.toList.map (·.born) := by rw [← e1]; exact List.mem_map.2 ⟨x, hx, rfl⟩
  obtain ⟨y,hy,e⟩:=List.mem_map.1 this
  rw [← e]; exact h1 y hy
 ·rw [Array.toList_modify,map_modify (fun m : MapEntry=>m.key) f _ _ hk]; exact h3
theorem mget_none_key {es : Ents} {b : ByteArray} (hs : strKeys es) (h : mget es (.string b) = none) : ∀ e ∈ es, e.1 ≠ .string b := by
 intro e he e1
 induction es with
 | nil=>simp at he
 | cons x es ih =>
  simp only [mget] at h
  split at h
  ·simp at h
  ·rename_i hk
   rcases List.mem_cons.1 he with rfl|he
   ·rw [e1] at hk; simp [keyB] at hk
   ·exact ih (fun y hy=>hs y (by simp [hy])) h he
def lookD (es : Ents) (b : ByteArray) (z : Value) (ok : Bool) : D :=
 match ok with
 | true=>.tuple [(mget es (.string b)).getD (zeroD z),.v (.bool (mget es (.string b)).isSome)]
 | false=>(mget es (.string b)).getD (zeroD z)

theorem lookup_op (hT : TOk P T) {o : Oper} {t x y ok ρ σ id it kt et ik ie z k es b} (ho : o.op = .lookup t x y ok) (ht : T t = some it) (hd : it.d = .map kt et) (hk : T kt = some ik) (hkd : ik.d = .string)
  (he : T et = some ie) (hz : ie.zero = some z) (hx : ev G ρ x = .map k) (hσ : σ k = .map es) (hy : ev G ρ y = .v (.string b)) (hs : strKeys es) :
  OpStep P G o ρ σ id (lookD es b z ok) [] [k]:=by
 refine opstep_pure fun E a w st R hh hr=>?_
 have hvx:=R.evo (ops:=o.op.operands) hh x (by simp [ho,Op.operands])
 have hey:=R.ev_v (ops:=o.op.operands) hh (x:=y) (by simp [ho,Op.operands]) hy
 rw [hx] at hvx
 obtain ⟨e1,hl⟩:=hvx.map_inv
 have hO:=R.core.objs k
 rw [hr k (by simp),hσ] at hO
 obtain ⟨ents,clk,hb,R',_⟩:=hO.ents
 have hund : ∀ w',(underlying t).run P w' = .ok (.map kt et) w':=fun w'=>by rw [run_und hT w' ht,hd]
 have hundk : ∀ w',(underlying kt).run P w' = .ok .string w':=fun w'=>by rw [run_und hT w' hk,hkd]
 have hzr : ∀ w',(zeroValue et).run P w' = .ok z w':=fun w'=>run_zero hT w' he hz
 have hck1 : ∀ n,(Instr.checkKey ents.isEmpty (n + 1) kt (.string b)).run P w = .ok () w:=fun n=>by simp [Instr.checkKey,hundk]
 have hck : (Instr.checkKey ents.isEmpty 10000 kt (.string b)).run P w = .ok () w:=hck1 9999
 have hgo : (getObj (E.φ k)).run P w = .ok (.map ents clk) w:=by simp [getObj,Sem.run,hb]
 rcases find_spec b es ents.toList 0 R' hs with ⟨h1,h2,_⟩|⟨j,d,v0,h1,h2,h3,h4,h5,h6,_⟩
 ·cases ok with
  | true =>
   refine ⟨.tuple #[z,.bool false],?_,?_⟩
   ·simp [execOp,ho,e1,hey,Instr.lookup,hund,hgo,hck,Instr.findKey,hundk,h2,hzr]
   ·simp only [lookD, h1]
    exact .tuple _ [z, .bool false] rfl (fun i a' b' => by
     match i with
     | 0=>exact zeroD_vr _ _ _ _
     | 1=>exact .v _
     | i + 2=>simp at a'; omega)
  | false =>
   refine ⟨z,?_,?_⟩
   ·simp [execOp,ho,e1,hey,Instr.lookup,hund,hgo,hck,Instr.findKey,hundk,h2,hzr]
   ·simp only [lookD,h1]; exact zeroD_vr _ _ _ _
 ·rw [Nat.zero_add] at h5
  cases ok with
  | true =>
   refine ⟨.tuple #[v0,.bool true],?_,?_⟩
   ·simp [execOp,ho,e1,hey,Instr.lookup,hund,hgo,hck,Instr.findKey,hundk,h5]
   ·simp only [lookD, h1]
    exact .tuple _ [v0, .bool true] rfl (fun i a' b' => by
     match i with
     | 0=>exact h2
     | 1=>exact .v _
     | i + 2=>simp at a'; omega)
  | false =>
   refine ⟨v0,?_,?_⟩
   ·simp [execOp,ho,e1,hey,Instr.lookup,hund,hgo,hck,Instr.findKey,hundk,h5]
   ·simp only [lookD,h1]; exact h2

theorem lookup_nil_op (hT : TOk P T) {o : Oper} {t x y ok ρ σ id it kt et ik ie z b} (ho : o.op = .lookup t x y ok) (ht : T t = some it) (hd : it.d = .map kt et) (hk : T kt = some ik) (hkd : ik.d = .string)
  (he : T et = some ie) (hz : ie.zero = some z) (hx : ev G ρ x = .v (.map none)) (hy : ev G ρ y = .v (.string b)) :
  OpStep P G o ρ σ id (lookD [] b z ok) [] []:=by
 refine opstep_pure fun E a w st R hh hr=>?_
 have e1:=R.ev_v (ops:=o.op.operands) hh (x:=x) (by simp [ho,Op.operands]) hx
 have hey:=R.ev_v (ops:=o.op.operands) hh (x:=y) (by simp [ho,Op.operands]) hy
 have hund : ∀ w',(underlying t).run P w' = .ok (.map kt et) w':=fun w'=>by rw [run_und hT w' ht,hd]
 have hundk : ∀ w',(underlying kt).run P w' = .ok .string w':=fun w'=>by rw [run_und hT w' hk,hkd]
 have hzr : ∀ w',(zeroValue et).run P w' = .ok z w':=fun w'=>run_zero hT w' he hz
 have hck1 : ∀ n,(Instr.checkKey true (n + 1) kt (.string b)).run P w = .ok () w:=fun n=>by simp [Instr.checkKey,hundk]
 have hck : (Instr.checkKey true 10000 kt (.string b)).run P w = .ok () w:=hck1 9999
 cases ok with
 | true =>
  refine ⟨.tuple #[z,.bool false],?_,?_⟩
  ·simp [execOp,ho,e1,hey,Instr.lookup,hund,hck,Instr.findKey,hundk,Instr.findNow,hzr]
  ·exact .tuple _ [z, .bool false] rfl (fun i a' b' => by
    match i with
    | 0=>exact zeroD_vr _ _ _ _
    | 1=>exact .v _
    | i + 2=>simp at a'; omega)
 | false =>
  refine ⟨z,?_,?_⟩
  ·simp [execOp,ho,e1,hey,Instr.lookup,hund,hck,Instr.findKey,hundk,Instr.findNow,hzr]
  ·exact zeroD_vr _ _ _ _

def taD (ok : Bool) (d : D) : D:=match ok with|true=>.tuple [d,.v (.bool true)]|false=>d
theorem typeAssert_op (hT : TOk P T) {o : Oper} {x xt t ok ρ σ id i d} (ho : o.op = .typeAssert x xt t ok) (ht : T t = some i) (hd : (match i.d with | .interface _ => false | _ => true) = true)
  (hx : ev G ρ x = .iface t d) : OpStep P G o ρ σ id (taD ok d) [] []:=by
 refine opstep_pure fun E a w st R hh hr=>?_
 have hvx:=R.evo (ops:=o.op.operands) hh x (by simp [ho,Op.operands])
 rw [hx] at hvx
 obtain ⟨v, e1, hv⟩ : ∃ v, a.eval x = .iface t v ∧ VR E w.heap st.σ d v := by
  revert hvx
  generalize a.eval x = vx
  intro hvx
  cases hvx with
  | iface _ _ v hv=>exact ⟨v,rfl,hv⟩
 have hund : ∀ w',(underlying t).run P w' = .ok i.d w':=fun w'=>run_und hT w' ht
 cases ok with
 | true =>
  refine ⟨.tuple #[v, .bool true], ?_, .tuple _ [v, .bool true] rfl (fun i a' b' => by
   match i with
   | 0=>exact hv
   | 1=>exact .v _
   | i + 2=>simp at a'; omega)⟩
  revert hund hd
  cases i.d <;> intro hd hund <;> simp at hd <;> simp [execOp,ho,Instr.typeAssert,hund,e1]
 | false =>
  refine ⟨v,?_,hv⟩
  revert hund hd
  cases i.d <;> intro hd hund <;> simp at hd <;> simp [execOp,ho,Instr.typeAssert,hund,e1]

theorem HStep.mapSet {E : Env} {h : Heap} {σ : Store} {k : Nat} {ents ents' : Array MapEntry} {clk clk' : Nat} {es es' : Ents} (bnd : ∀ b o, E.own b o ≠ .ext → b < h.size) (hσ : σ k = .map es)
  (hb : h[E.φ k]? = some (.map ents clk)) (ho : ∀ o,E.own (E.φ k) o = .ob k) : HStep k E h σ E (h.setIfInBounds (E.φ k) (.map ents' clk')) (.map es'):=by
 have hlt:=lt_of_get hb
 have hcell : ∀ b o, cellH (h.setIfInBounds (E.φ k) (.map ents' clk')) b o = cellH h b o := by
  intro b o
  by_cases e : E.φ k = b
  ·subst e; simp only [cellH,get_set_same hlt,hb]
  ·simp only [cellH,get_set_ne e]
 refine ⟨by simp,fun b o _ _=>⟨rfl,fun _=>hcell b o⟩,fun b o q hq=>⟨hq,.inl (hcell b o)⟩,fun b o h=>.inl h,fun b o hh=>by simpa using bnd b o hh,fun b c e f hc=>?_,fun b hb' hno=>?_,fun _ _=>⟨rfl,rfl⟩,fun _=>⟨by simp,rfl,fun m' hm'=>?_,fun s' hs'=>?_⟩⟩
 ·by_cases e1 : E.φ k = b
  ·subst e1; rw [hb] at hc; simp at hc
  ·exact ⟨c,_,by rw [get_set_ne e1]; exact hc,rfl,.refl _ _⟩
 ·by_cases e1 : E.φ k = b
  ·subst e1; exact absurd (ho 0) (hno 0).1
  ·exact get_set_ne e1
 ·simp [tlen,up_self] at hm'
 ·simp [tstr,up_self] at hs'

theorem EntR.keep {E h σ E' h' σ' es ents} (M : CMap some E h σ E' h' σ') (R : EntR E h σ es ents) : EntR E' h' σ' es ents :=
 ⟨R.len,fun i a b=>⟨(R.each i a b).1,(R.each i a b).2.1.keep M,(R.each i a b).2.2⟩⟩
theorem EntR.snoc {E h σ} {e : Value × D} {m : MapEntry} : ∀ {es : Ents} {ents : List MapEntry}, EntR E h σ es ents → (m.key = e.1 ∧ VR E h σ e.2 m.val ∧ e.2.idfV = true) → EntR E h σ (es ++ [e]) (ents ++ [m])
 | [],[],R,h1=>EntR.cons h1 ⟨rfl,fun i a=>by simp at a⟩
 | [],_ :: _,R,h1=>by have:=R.len; simp at this
 | _ :: _,[],R,h1=>by have:=R.len; simp at this
 | _ :: _,_ :: _,R,h1=>EntR.cons R.head (R.tail.snoc h1)
theorem EntR.obj {E h σ k es} {ents : Array MapEntry} {clk} (hb : h[E.φ k]? = some (.map ents clk)) (R : EntR E h σ es ents.toList) (ho : ∀ o, E.own (E.φ k) o = .ob k) (hst : Stp ents clk) : OR E h σ k (.map es) :=
 ⟨ents, clk, hb, ⟨by simpa using R.len, hst⟩, fun i a b => by
  have:=R.each i a (by simpa using b)
  simp only [Array.getElem_toList] at this
  exact this,ho⟩

def D.any1 : D → D
 | .list t xs=>.list .any xs
 | d=>d
def D.anyz : D → D
 | .list t xs=>.list .any xs
 | .agg cs=>.agg (cs.map D.any1)
 | d=>d
theorem Wk.any1 (d : D) : Wk d d.any1 := by
 cases d <;> simp only [D.any1] <;> first|exact Wk.refl _|exact Wk.list _ _
theorem Wks.any1 : ∀ (ds : List D), Wks ds (ds.map D.any1)
 | []=>Wks.nil
 | d :: ds=>Wks.cons (Wk.any1 d) (Wks.any1 ds)
theorem Wk.anyz (d : D) : Wk d d.anyz := by
 cases d <;> simp only [D.anyz] <;> first|exact Wk.refl _|exact Wk.list _ _|exact Wk.agg (Wks.any1 _)
theorem D.anyz_vr {E h σ d x} (hx : VR E h σ d x) : VR E h σ d.anyz x:=(Wk.anyz d).sem _ _ _ _ hx

theorem keyThatStays_same (b : ByteArray) (w : World) : (Instr.keyThatStays (.string b) (.string b)).run P w = .ok (.string b) w := by
 have h1 : ∀ n, Instr.sameBits (n + 1) (.string b) (.string b) = true := fun n => by
  simp only [Instr.sameBits]; rw [ba_beq]; simp
 have h2 : Instr.sameBits 10000 (.string b) (.string b) = true:=h1 9999
 simp [Instr.keyThatStays,h2]

theorem mapUpdate_op (hT : TOk P T) {o : Oper} {t x y v ρ σ id it kt et ik k es b} (ho : o.op = .mapUpdate t x y v) (ht : T t = some it) (hd : it.d = .map kt et) (hk : T kt = some ik) (hkd : ik.d = .string)
  (hx : ev G ρ x = .map k) (hσ : σ k = .map es) (hy : ev G ρ y = .v (.string b)) (hs : strKeys es) (hv : (ev G ρ v).anyz.idfV = true) :
  OpStep P G o ρ σ id (.v undef) [(k,.map (mset es (.string b) (ev G ρ v).anyz))] [k]:=by
 intro E a w st R hh hr h0
 have hvx:=R.evo (ops:=o.op.operands) hh x (by simp [ho,Op.operands])
 have hey:=R.ev_v (ops:=o.op.operands) hh (x:=y) (by simp [ho,Op.operands]) hy
 have hvv:=D.anyz_vr (R.evo (ops:=o.op.operands) hh v (by simp [ho,Op.operands]))
 rw [hx] at hvx
 obtain ⟨e1,hl⟩:=hvx.map_inv
 have hk' : st.σ k = .map es:=(hr k (.inl (by simp))).trans hσ
 have hk0 : k < st.nx := by
  rcases Nat.lt_or_ge k st.nx with h|h
  ·exact h
  ·have:=R.core.dead k h; rw [hk'] at this; simp at this
 have hO:=R.core.objs k
 rw [hk'] at hO
 obtain ⟨ents,clk,hb,R',hown⟩:=hO.ents
 have hst:=hO.stp hb
 have hlt:=lt_of_get hb
 have hund : ∀ w',(underlying t).run P w' = .ok (.map kt et) w':=fun w'=>by rw [run_und hT w' ht,hd]
 have hundk : ∀ w',(underlying kt).run P w' = .ok .string w':=fun w'=>by rw [run_und hT w' hk,hkd]
 have hck1 : ∀ n,(Instr.checkKey false (n + 1) kt (.string b)).run P w = .ok () w:=fun n=>by simp [Instr.checkKey,hundk]
 have hck : (Instr.checkKey false 10000 kt (.string b)).run P w = .ok () w:=hck1 9999
 have hgo : (getObj (E.φ k)).run P w = .ok (.map ents clk) w:=by simp [getObj,Sem.run,hb]
 have hset : ∀ ob, (setObj (E.φ k) ob).run P w = .ok () { w with heap := w.heap.setIfInBounds (E.φ k) ob } := fun ob => by
  have hb' : w.heap[E.φ k]? = some (.map ents clk):=hb
  simp only [setObj,Sem.run,hb']
 rcases find_spec b es ents.toList 0 R' hs with ⟨h1,h2,h3⟩|⟨j,d,v0,h1,h2,h3,h4,h5,h6,h7⟩
 ·have S := HStep.mapSet (ents' := ents.push { key := .string b, val := a.eval v, born := clk }) (clk' := clk + 1) (es' := mset es (.string b) (ev G ρ v).anyz) R.core.bnd hk' hb hown
  refine opwp_skip (w' := { w with heap := w.heap.setIfInBounds (E.φ k) (.map (ents.push { key := .string b, val := a.eval v, born := clk }) (clk + 1)) }) ?_ ⟨E, undef, rfl, StepTo.one R S (EntR.obj (get_set_same hlt) ?_ hown (hst.push (fun hm => by
   obtain ⟨m,hm1,hm2⟩:=List.mem_map.1 hm
   obtain ⟨i,hi,rfl⟩:=List.getElem_of_mem hm1
   have hi' : i < es.length:=by rw [← R'.len]; exact hi
   exact mget_none_key hs h1 _ (List.getElem_mem hi') ((R'.each i hi' hi).1.symm.trans hm2)))) hk0 (.v _) ⟨rfl,rfl,rfl⟩⟩
  ·simp [execOp,ho,e1,hey,Instr.mapUpdate,hund,hgo,hck,Instr.findKey,hundk,h2,hset]
  ·have hn := (R'.keep (S.cmap R.core.bnd)).snoc (e := (.string b, (ev G ρ v).anyz)) (m := { key := .string b, val := a.eval v, born := clk }) ⟨rfl, hvv.keep (S.cmap R.core.bnd), hv⟩
   rw [← h3] at hn
   simp only [Array.toList_push]
   exact hn
 ·rw [Nat.zero_add] at h5
  have hj : j < ents.size:=by simpa using h4
  have hkey : (ents[j]?.map (·.key)).getD (.string b) = .string b := by
   have:=h6 h4
   simp only [Array.getElem_toList] at this
   simp [hj,this]
  have S:=HStep.mapSet (ents':=ents.modify j fun e=>{ e with key:=.string b,val:=a.eval v }) (clk':=clk) (es':=mset es (.string b) (ev G ρ v).anyz) R.core.bnd hk' hb hown
  refine opwp_skip (w':={ w with heap:=w.heap.setIfInBounds (E.φ k) (.map (ents.modify j fun e=>{ e with key:=.string b,val:=a.eval v }) clk) }) ?_ ⟨E,undef,rfl,StepTo.one R S (EntR.obj (get_set_same hlt) ?_ hown (hst.modify (fun _=>rfl) (fun hj=>(h6 hj).symm))) hk0 (.v _) ⟨rfl,rfl,rfl⟩⟩
  ·simp [execOp,ho,e1,hey,Instr.mapUpdate,hund,hgo,hck,Instr.findKey,hundk,h5,hkey,keyThatStays_same,hset]
  ·rw [Array.toList_modify]
   exact h7 _ (a.eval v) _ _ _ (R'.keep (S.cmap R.core.bnd)) (hvv.keep (S.cmap R.core.bnd)) hv _ (fun m=>⟨rfl,rfl⟩)
end Go.AL

namespace Go.AL
open Go
variable {P : Program} {G : Glob} {T : Tab}

theorem slice_sl_op (hT : TOk P T) {o : Oper} {t x lo hi ρ σ id it e l h i k g off n s xs} (ho : o.op = .slice t x lo hi none) (ht : T t = some it) (hd : it.d = .slice e) (he : T e = some i)
  (hx : ev G ρ x = .sl k g off n) (hk : σ k = .arr g s xs) (hss : s = i.size) (hin : off + n ≤ xs.length) (hl : bnd G ρ 0 lo = some l) (hh : bnd G ρ n hi = some h) (h0 : 0 ≤ l) (h1 : l ≤ h) (h2 : h ≤ n) :
  OpStep P G o ρ σ id (.sl k g (off + l.toNat) (h.toNat - l.toNat)) [] [k]:=by
 refine opstep_pure fun E a w st R hhx hr=>?_
 have hvx:=R.evo (ops:=o.op.operands) hhx x (by simp [ho,Op.operands])
 have hσ:=(hr k (by simp)).trans hk
 rw [hx] at hvx
 obtain ⟨A,c,e1,hlv,hv⟩:=hvx.sl_inv
 have bl:=bnd_eval R hhx (b:=lo) (fun x e=>by simp [ho,Op.operands,e]) hl
 have bh:=bnd_eval R hhx (b:=hi) (fun x e=>by simp [ho,Op.operands,e]) hh
 have hund : ∀ w',(underlying t).run P w' = .ok (.slice e) w':=fun w'=>by rw [run_und hT w' ht,hd]
 obtain ⟨_,hv2⟩:=hv g s (by simp [tlen,hσ]) (by simp [tstr,hσ])
 obtain ⟨s1,s2,s3,s4⟩:=hv2 rfl
 have hO:=R.core.objs k
 rw [hσ] at hO
 obtain ⟨h00,hxl,hT',hC⟩:=hO
 have hnc : n ≤ c:=by omega
 have:=run_sliceBounds (P:=P) (isS:=true) (len:=n) (cap:=c) (lo:=lo) (hi:=hi) (by simpa using bl) bh h0 h1 (by omega) w
 obtain ⟨ln,hln⟩ : ∃ n : Nat,l = n:=⟨l.toNat,by omega⟩
 obtain ⟨hn,hhn⟩ : ∃ n : Nat,h = n:=⟨h.toNat,by omega⟩
 subst hln; subst hhn
 simp only [Int.toNat_natCast] at this ⊢
 have h1' : ln ≤ hn:=by omega
 have h2' : hn ≤ n:=by omega
 refine ⟨.slice (if c = ln then A else A.map (·.add (ln * i.size))) (hn - ln) (c - ln),?_,.sl k g (off + ln) (hn - ln) _ _ hlv (fun m' s' hm' hs'=>?_)⟩
 ·simp [execOp,ho,e1,Instr.sliceAt,Instr.slice,hund,this,run_size hT _ he]
 ·simp [tlen, hσ] at hm'
  simp [tstr,hσ] at hs'
  subst hm'; subst hs'
  refine ⟨Nat.le_refl _,fun _=>⟨by omega,by omega,fun e=>?_,fun a ha=>?_⟩⟩
  ·rw [s3 e]; simp
  ·obtain ⟨j, j1, j2, j3⟩ := s4 a ha
   by_cases hc : c = ln
   ·rw [if_pos hc]
    exact ⟨j,j1,fun hlt=>by omega,j3⟩
   ·rw [if_neg hc, j3]
    obtain rfl:=j2 (by omega)
    refine ⟨j + ln,by omega,fun _=>rfl,?_⟩
    simp only [Option.map_some,add_none]
    rw [hss,Nat.add_mul,Nat.add_assoc]
end Go.AL

namespace Go.AL
open Go
variable {P : Program} {G : Glob} {T : Tab}

theorem foldl_push : ∀ (l : List UInt8) (acc : ByteArray), (l.map fun u => ((u.toNat : Nat) : Int)).foldl (fun r n => r.push (UInt8.ofNat n.toNat)) acc = ⟨acc.data ++ l.toArray⟩
 | [],acc=>by simp
 | u :: l,acc=>by
  simp only [List.map_cons,List.foldl_cons]
  rw [foldl_push l]
  simp [ByteArray.push]
theorem byteD_one (l : List UInt8) : ∀ i (hi : i < (l.map byteD).length),(l.map byteD)[i].length = 1:=fun i hi=>by simp [byteD]

theorem bytesStr_op (hT : TOk P T) {o : Oper} {s t x ρ σ id is it e ie tg} {l : List UInt8} (ho : o.op = .convert s t x) (hs : T s = some is) (hsd : is.d = .slice e) (he : T e = some ie)
  (hed : ie.d = .int .u8) (ht : T t = some it) (hd : it.d = .string) (hx : ev G ρ x = .list tg (l.map byteD)) : OpStep P G o ρ σ id (.v (.string ⟨l.toArray⟩)) [] []:=by
 refine opstep_pure fun E a w st R hh hr=>⟨_,?_,.v _⟩
 have hvx:=R.evo (ops:=o.op.operands) hh x (by simp [ho,Op.operands])
 rw [hx] at hvx
 obtain ⟨A,c,cs,hex,S⟩:=hvx.slr 1 (byteD_one l)
 have hu1 : ∀ w',(underlying s).run P w' = .ok (.slice e) w':=fun w'=>by rw [run_und hT w' hs,hsd]
 have hu2 : ∀ w',(underlying t).run P w' = .ok .string w':=fun w'=>by rw [run_und hT w' ht,hd]
 have hu3 : ∀ w',(underlying e).run P w' = .ok (.int .u8) w':=fun w'=>by rw [run_und hT w' he,hed]
 simp only [execOp,ho,hex,convert,Sem.run_bind,hu1,hu2,hu3,Result.andThen_ok]
 have hcs : cs = l.map fun u => .int .u8 ((u.toNat : Nat) : Int) := by
  apply List.ext_getElem
  ·rw [S.row.len]; simp
  ·intro i h1 h2
   have hi : i < (l.map byteD).length:=by simpa using h2
   have:=S.row.vr i 0 hi (by rw [byteD_one l i hi]; omega)
   have e0 : ((l.map byteD)[i]'hi)[0]'(by rw [byteD_one l i hi]; omega) = .v (.int .u8 ((l[i]'(by simpa using h2)).toNat : Nat)):=by simp [byteD]
   rw [e0] at this
   have:=this.v_inv
   simp only [Nat.mul_one,Nat.add_zero,List.getD,List.getElem?_eq_getElem h1,Option.getD_some] at this
   rw [this]; simp
 cases A with
 | none =>
  have hl : l = []:=by simpa using (S.nn rfl).1
  subst hl
  simp [Conv.bytesToString]
  rfl
 | some ad =>
  obtain ⟨h1,h2⟩:=S.cells ad rfl
  have hload : (loadCells ad (l.map byteD).length).run P w = .ok ((l.map fun u => ((u.toNat : Nat) : Int)).map (Value.int .u8)).toArray w := by
   rcases List.eq_nil_or_concat l with h0|⟨l',x',h0⟩
   ·subst h0; rfl
   ·have hne : l.map byteD ≠ [] := by rw [h0]; simp
    have hsp:=h1 hne
    obtain ⟨b,off,sp⟩:=ad
    simp only at hsp; subst hsp
    rw [run_loadCells (P := P) w ⟨b, off, none⟩ (l.map byteD).length (fun j => cs.getD j undef) (fun j hj => by
     rw [add_none,cell?_eq]
     exact (h2 j (by omega)).2)]
    congr 2
    rw [hcs]
    apply List.ext_getElem
    ·simp
    ·intro i a1 a2
     simp at a1 a2
     simp [List.getD,a1]
  simp only [Sem.run_bind,Sem.run_pure]
  rw [run_bytesToString w ad _ c _ hload]
  rw [foldl_push]
  simp [Result.andThen]

def eqCellD : D → D → Option Bool
 | .v (.int k a),.v (.int k' b)=>match decide (k = k') with|true=>some (a == b)|false=>none
 | .v (.string a),.v (.string b)=>some (decide (a.data.toList = b.data.toList))
 | .v (.bool a),.v (.bool b)=>some (a == b)
 | _,_=>none
def eqCellsD : List D → List D → Option Bool
 | [],[]=>some true
 | x :: xs,y :: ys=>match eqCellD x y with|some b=>(match eqCellsD xs ys with|some c=>some (b && c)|none=>none)|none=>none
 | _,_=>none
def plainT (P : Program) (t : TypeId) (d : D) : Bool :=
 match P.underlying t,d with
 | some (.int _),.v (.int _ _)=>true
 | some .string,.v (.string _)=>true
 | some .bool,.v (.bool _)=>true
 | _,_=>false
def plainFs (P : Program) : List Field → Nat → List D → Bool
 | [],_,[]=>true
 | f :: fs,i,d :: ds=>(f.name != "_") && Nat.beq f.offset i && plainT P f.type d && plainFs P fs (i + 1) ds
 | _,_,_=>false
def plainEq (P : Program) (t : TypeId) (ds : List D) : Bool :=
 (match P.underlying t with|some (.struct _)=>true|_=>false) && !P.stoodInHeld t && !P.eqGuardType P.depth t && plainFs P (P.fieldsOf t).toList 0 ds

theorem eqFields_run {w : World} {E h σ} {xs ys : Array Value} (d : Nat) : ∀ (fs : List Field) (i : Nat) (cx cy : List D) (b : Bool), plainFs P fs i cx = true → eqCellsD cx cy = some b →
  (∀ j (hj : j < cx.length),∃ v,xs[i + j]? = some v ∧ VR E h σ cx[j] v) → (∀ j (hj : j < cy.length),∃ v,ys[i + j]? = some v ∧ VR E h σ cy[j] v) →
  (Op.eqFields (d + 1) xs ys fs).run P w = .ok b w:=by
 intro fs
 induction fs with
 | nil =>
  intro i cx cy b hp he hx hy
  cases cx with
  | nil =>
   cases cy with
   | nil=>simp [eqCellsD] at he; subst he; simp [Op.eqFields]
   | cons y cy=>simp [eqCellsD] at he
  | cons x cx=>simp [plainFs] at hp
 | cons f fs ih =>
  intro i cx cy b hp he hx hy
  cases cx with
  | nil=>simp [plainFs] at hp
  | cons x cx =>
   cases cy with
   | nil=>simp [eqCellsD] at he
   | cons y cy =>
    simp only [plainFs,Bool.and_eq_true] at hp
    obtain ⟨⟨⟨hn,ho⟩,ht⟩,hr⟩:=hp
    have ho:=Nat.eq_of_beq_eq_true ho
    simp only [eqCellsD] at he
    split at he
    case h_2=>simp at he
    rename_i b1 hb1
    split at he
    case h_2=>simp at he
    rename_i b2 hb2
    simp at he; subst he
    have ih' := ih (i + 1) cx cy b2 hr hb2 (fun j hj => by
     obtain ⟨v,h1,h2⟩:=hx (j + 1) (by simpa using hj)
     exact ⟨v,by rw [← h1]; congr 1; omega,by simpa using h2⟩) (fun j hj=>by
     obtain ⟨v,h1,h2⟩:=hy (j + 1) (by simpa using hj)
     exact ⟨v,by rw [← h1]; congr 1; omega,by simpa using h2⟩)
    obtain ⟨vx,hx1,hx2⟩:=hx 0 (by simp)
    obtain ⟨vy,hy1,hy2⟩:=hy 0 (by simp)
    simp only [Nat.add_zero,List.getElem_cons_zero] at hx1 hx2 hy1 hy2
    have hn' : f.name ≠ "_" := by simpa using hn
    have key : ∃ hagg : (∀ w', (isAgg f.type).run P w' = .ok false w'), ∀ w', (Op.equalIn (d + 1) f.type vx vy).run P w' = .ok b1 w' := by
     unfold plainT at ht
     split at ht
     ·rename_i k' k n hu
      have:=hx2.v_inv; subst this
      cases y with
      | v yy =>
       have:=hy2.v_inv; subst this
       cases vy with
       | int k2 b2' =>
        simp only [eqCellD] at hb1
        split at hb1
        case h_2=>simp at hb1
        rename_i hk
        have hk:=of_decide_eq_true hk
        subst hk
        simp only [Option.some.injEq] at hb1
        subst hb1
        exact ⟨fun w'=>by simp [isAgg,run_underlying hu],fun w'=>by rw [run_equalIn_int w' d _ _ _ _ _ hu]⟩
       | _=>simp [eqCellD] at hb1
      | _=>simp [eqCellD] at hb1
     ·rename_i n hu
      have:=hx2.v_inv; subst this
      cases y with
      | v yy =>
       have:=hy2.v_inv; subst this
       cases vy with
       | string b2' =>
        simp only [eqCellD,Option.some.injEq] at hb1
        subst hb1
        exact ⟨fun w'=>by simp [isAgg,run_underlying hu],fun w'=>by rw [run_equalIn_string w' d _ _ _ hu]; congr 1; rw [Bool.eq_iff_iff]; simp [ByteArray.toList_eq]⟩
       | _=>simp [eqCellD] at hb1
      | _=>simp [eqCellD] at hb1
     ·rename_i n hu
      have:=hx2.v_inv; subst this
      cases y with
      | v yy =>
       have:=hy2.v_inv; subst this
       cases vy with
       | bool b2' =>
        simp only [eqCellD,Option.some.injEq] at hb1
        subst hb1
        exact ⟨fun w'=>by simp [isAgg,run_underlying hu],fun w'=>by rw [run_equalIn_bool' w' d _ _ _ hu]⟩
       | _=>simp [eqCellD] at hb1
      | _=>simp [eqCellD] at hb1
     ·simp at ht
    obtain ⟨hagg,heq⟩:=key
    have hpx : ∀ w', (part f.type xs f.offset).run P w' = .ok vx w' := fun w' => by
     simp [part,hagg,ho,hx1]
    have hpy : ∀ w', (part f.type ys f.offset).run P w' = .ok vy w' := fun w' => by
     simp [part,hagg,ho,hy1]
    simp only [Op.eqFields,if_pos hn',Sem.run_bind,hpx,hpy,heq,Result.andThen_ok]
    cases b1 with
    | true=>simpa using ih'
    | false=>simp
theorem structEq_op {o : Oper} {op t x y t2 ρ σ id cx cy b c} (ho : o.op = .binOp op t x y t2) (hx : ev G ρ x = .agg cx) (hy : ev G ρ y = .agg cy) (hp : plainEq P t cx = true)
  (he : eqCellsD cx cy = some b) (hc : eqD op b = some c) : OpStep P G o ρ σ id (.v (.bool c)) [] []:=by
 refine opstep_pure fun E a w st R hh hr=>⟨_,?_,.v _⟩
 have hvx:=R.evo (ops:=o.op.operands) hh x (by simp [ho,Op.operands])
 have hvy:=R.evo (ops:=o.op.operands) hh y (by simp [ho,Op.operands])
 rw [hx] at hvx
 rw [hy] at hvy
 obtain ⟨us,e1,l1,f1⟩:=hvx.agg_inv
 obtain ⟨vs,e2,l2,f2⟩:=hvy.agg_inv
 simp only [plainEq,Bool.and_eq_true,Bool.not_eq_true'] at hp
 obtain ⟨⟨⟨h1,h2⟩,h3⟩,h4⟩:=hp
 have hst : P.underlying t = some (.struct (P.fieldsOf t)) := by
  unfold Program.fieldsOf
  split at h1
  ·rename_i fs hu; rw [hu]
  ·simp at h1
 have heq : (Op.equal t (.agg us.toArray) (.agg vs.toArray)).run P w = .ok b w := by
  have := eqFields_run (P := P) (w := w) (E := E) (h := w.heap) (σ := st.σ) (xs := us.toArray) (ys := vs.toArray) 9998 _ 0 cx cy b h4 he
   (fun j hj => by
    have hj' : j < us.length:=by omega
    exact ⟨us[j],by simp [hj'],f1 j hj hj'⟩)
   (fun j hj => by
    have hj' : j < vs.length:=by omega
    exact ⟨vs[j],by simp [hj'],f2 j hj hj'⟩)
  show (Op.equalIn 10000 t _ _).run P w = _
  rw [run_equalIn_struct w 9999 t _ _ hst h2]
  exact this
 have hg : (eqGuard op t x y (.agg us.toArray) (.agg vs.toArray)).run P w = .ok () w:=run_eqGuard_agg w op t x y _ _ h3
 have hb : (binOp op t (.agg us.toArray) (.agg vs.toArray)).run P w = .ok (.bool c) w := by
  cases op <;> simp only [eqD,reduceCtorEq,Option.some.injEq] at hc
  ·subst hc
   rw [run_eql_struct]
   show Result.andThen ((Op.equal t _ _).run P w) _ = _
   rw [heq]; rfl
  ·subst hc
   rw [run_neq_struct]
   show Result.andThen ((Op.equal t _ _).run P w) _ = _
   rw [heq]; rfl
 simp [execOp,ho,e1,e2,hg,hb]
end Go.AL
