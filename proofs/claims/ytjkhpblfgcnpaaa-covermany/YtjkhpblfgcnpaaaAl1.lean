/- The abstract layer, part 1: abstract values, what they stand for in a world, and how worlds may go on. No program in sight. -/
import Derived.Calls
import Derived.Orders
import Derived.Laws.Sem
namespace Go.AL

/-- How a slice may be used: 'imm' (read alone), 'full' (its capacity is its length), 'own' (it may be appended to, while its token has the version). -/
inductive Mode where
  | imm | full | own (id ver : Nat)

/-- Abstract values. -/
inductive SV where
  | any
  | sc (v : Value)
  | slice (m : Mode) (z : Nat) (l : List SV)
  | ref (cells : List SV)
  | ptr (id off : Nat)
  | func (fn : Fn) (first captured : List SV)
  | agg (cells : List SV)
  | tuple (l : List SV)
  | gd (g : Bool) (x : SV)
  | slc (id z off len cap : Nat)

instance : Inhabited SV := ⟨.any⟩

def SV.cells : SV → List SV
  | .agg l => l
  | x => [x]

/-- Objects: cells that may be written; tokens of slices that may be appended to. -/
inductive Ob where
  | cells (l : List SV)
  | tok (ver : Nat)

abbrev St := List Ob

inductive Lock where
  | upto (n : Nat)
  | all
  /-- Written no more, and read only up to a place. -/
  | fix (n : Nat)

structure Sig where
  lock : Nat → Lock
  μ : Nat → Option Nat

def Lock.has : Lock → Nat → Prop
  | .upto n, o => o < n
  | .all, _ => True
  | .fix n, o => o < n

/-- Is the block written no more? -/
def Lock.still : Lock → Bool
  | .upto _ => false
  | _ => true

def ModeOk (st : St) (σ : Sig) (w : World) (z : Nat) (a : Addr) (len cap : Nat) : Mode → Prop
  | .imm => True
  | .full => cap = len
  | .own id ver => ∃ v0, st[id]? = some (.tok v0) ∧ ver ≤ v0 ∧ (ver = v0 → cap = len ∨ (a.spot = none ∧ σ.μ id = some a.block ∧
      σ.lock a.block = .upto (a.off + len * z) ∧ ∃ cs T, w.heap[a.block]? = some (.cells cs T (0, 0)) ∧ a.off + cap * z ≤ cs.size))

def ModeNil (st : St) : Mode → Prop
  | .imm => True
  | .full => True
  | .own id ver => ∃ v0, st[id]? = some (.tok v0) ∧ ver ≤ v0

inductive Rep (st : St) (σ : Sig) (w : World) : SV → Value → Prop where
  | any (v : Value) : Rep st σ w .any v
  | sc (v : Value) : Rep st σ w (.sc v) v
  | nil (m : Mode) (z : Nat) (hm : ModeNil st m) : Rep st σ w (.slice m z []) (.slice none 0 0)
  | slice (m : Mode) (z : Nat) (l : List SV) (a : Addr) (cap : Nat) (vals : Nat → Nat → Value) (hcap : l.length ≤ cap)
      (hsp : l ≠ [] → a.spot = none)
      (hz : ∀ i, i < l.length → (l.getD i .any).cells.length = z)
      (hc : ∀ i j, i < l.length → j < z → w.cell? ⟨a.block, a.off + i * z + j, none⟩ = some (vals i j) ∧ (σ.lock a.block).has (a.off + i * z + j))
      (hr : ∀ i j, i < l.length → j < z → Rep st σ w ((l.getD i .any).cells.getD j .any) (vals i j))
      (hm : ModeOk st σ w z a l.length cap m) : Rep st σ w (.slice m z l) (.slice (some a) l.length cap)
  | ref (cells : List SV) (b o : Nat) (vals : Nat → Value)
      (hc : ∀ j, j < cells.length → w.cell? ⟨b, o + j, none⟩ = some (vals j) ∧ (σ.lock b).has (o + j))
      (hr : ∀ j, j < cells.length → Rep st σ w (cells.getD j .any) (vals j)) : Rep st σ w (.ref cells) (.pointer (some ⟨b, o, none⟩))
  | ptr (id off b : Nat) (hk : ∃ l, st[id]? = some (.cells l)) (hb : σ.μ id = some b) : Rep st σ w (.ptr id off) (.pointer (some ⟨b, off, none⟩))
  | func (fn : Fn) (first captured : List SV) (vf vc : Array Value) (h1 : vf.size = first.length) (h2 : vc.size = captured.length)
      (r1 : ∀ i, i < first.length → Rep st σ w (first.getD i .any) (vf.getD i default))
      (r2 : ∀ i, i < captured.length → Rep st σ w (captured.getD i .any) (vc.getD i default)) : Rep st σ w (.func fn first captured) (.func fn vf vc)
  | agg (l : List SV) (vs : Array Value) (h : vs.size = l.length) (r : ∀ i, i < l.length → Rep st σ w (l.getD i .any) (vs.getD i default)) : Rep st σ w (.agg l) (.agg vs)
  | tuple (l : List SV) (vs : Array Value) (h : vs.size = l.length) (r : ∀ i, i < l.length → Rep st σ w (l.getD i .any) (vs.getD i default)) : Rep st σ w (.tuple l) (.tuple vs)
  | gd (g : Bool) (x : SV) (v : Value) (h : g = true → Rep st σ w x v) (h' : g = false → v = undef) : Rep st σ w (.gd g x) v
  | slc (id z off len cap b : Nat) (hk : ∃ l, st[id]? = some (.cells l)) (hb : σ.μ id = some b) (hc : len ≤ cap) : Rep st σ w (.slc id z off len cap) (.slice (some ⟨b, off, none⟩) len cap)

structure Inv (st : St) (σ : Sig) (w : World) : Prop where
  cells : ∀ id l, st[id]? = some (.cells l) → ∃ b cs T, σ.μ id = some b ∧ w.heap[b]? = some (.cells cs T (0, 0)) ∧ cs.size = l.length ∧
    (∀ j, j < l.length → Rep st σ w (l.getD j .any) (cs.getD j default)) ∧ σ.lock b = .upto 0
  tok : ∀ id v b, st[id]? = some (.tok v) → σ.μ id = some b → b < w.heap.size ∧ (σ.lock b).still = false
  inj : ∀ i j b, i < st.length → j < st.length → σ.μ i = some b → σ.μ j = some b → i = j
  fresh : ∀ b, w.heap.size ≤ b → σ.lock b = .upto 0

structure Ext (st : St) (σ : Sig) (w : World) (st' : St) (σ' : Sig) (w' : World) : Prop where
  os : w'.os = w.os
  tape : w'.tape = w.tape
  output : w'.output = w.output
  size : w.heap.size ≤ w'.heap.size
  lock : ∀ b o v, (σ.lock b).has o → w.cell? ⟨b, o, none⟩ = some v → (σ'.lock b).has o ∧ w'.cell? ⟨b, o, none⟩ = some v
  all : ∀ b, b < w.heap.size → (σ.lock b).still = true → σ'.lock b = σ.lock b ∧ w'.heap[b]? = w.heap[b]?
  kcells : ∀ id l, st[id]? = some (.cells l) → (∃ l', st'[id]? = some (.cells l')) ∧ σ'.μ id = σ.μ id
  ktok : ∀ id v, st[id]? = some (.tok v) → ∃ v', st'[id]? = some (.tok v') ∧ v ≤ v' ∧
    (v' = v → σ'.μ id = σ.μ id ∧ ∀ b, σ.μ id = some b → σ'.lock b = σ.lock b ∧ w'.heap[b]? = w.heap[b]?)

theorem Ext.refl (st : St) (σ : Sig) (w : World) : Ext st σ w st σ w :=
  ⟨rfl, rfl, rfl, Nat.le_refl _, fun _ _ _ h k => ⟨h, k⟩, fun _ _ h => ⟨rfl, rfl⟩, fun _ l h => ⟨⟨l, h⟩, rfl⟩,
    fun _ v h => ⟨v, h, Nat.le_refl _, fun _ => ⟨rfl, fun _ _ => ⟨rfl, rfl⟩⟩⟩⟩

theorem Ext.trans {s0 s1 s2 : St} {a b c : Sig} {u v w : World} (h : Ext s0 a u s1 b v) (k : Ext s1 b v s2 c w) : Ext s0 a u s2 c w where
  os := k.os.trans h.os
  tape := k.tape.trans h.tape
  output := k.output.trans h.output
  size := Nat.le_trans h.size k.size
  lock := fun x o y hl hc => by obtain ⟨h1, h2⟩ := h.lock x o y hl hc; exact k.lock x o y h1 h2
  all := fun x hx hl => by
    obtain ⟨h1, h2⟩ := h.all x hx hl
    obtain ⟨h3, h4⟩ := k.all x (Nat.lt_of_lt_of_le hx h.size) (by rw [h1]; exact hl)
    exact ⟨h3.trans h1, h4.trans h2⟩
  kcells := fun id l hl => by
    obtain ⟨⟨l', h1⟩, h2⟩ := h.kcells id l hl
    obtain ⟨h3, h4⟩ := k.kcells id l' h1
    exact ⟨h3, h4.trans h2⟩
  ktok := fun id x hx => by
    obtain ⟨v1, h1, h2, h3⟩ := h.ktok id x hx
    obtain ⟨v2, k1, k2, k3⟩ := k.ktok id v1 h1
    refine ⟨v2, k1, Nat.le_trans h2 k2, fun e => ?_⟩
    obtain rfl : v1 = x := by omega
    obtain ⟨p1, p2⟩ := h3 rfl
    obtain ⟨q1, q2⟩ := k3 e
    refine ⟨q1.trans p1, fun b hb => ?_⟩
    obtain ⟨r1, r2⟩ := p2 b hb
    obtain ⟨t1, t2⟩ := q2 b (p1.trans hb)
    exact ⟨t1.trans r1, t2.trans r2⟩

theorem ModeNil.ext {st st' : St} {σ σ' : Sig} {w w' : World} {m : Mode} (h : ModeNil st m) (k : Ext st σ w st' σ' w') : ModeNil st' m := by
  cases m with
  | imm => trivial
  | full => trivial
  | own id ver =>
    obtain ⟨v0, h1, h2⟩ := h
    obtain ⟨v', h3, h4, _⟩ := k.ktok id v0 h1
    exact ⟨v', h3, Nat.le_trans h2 h4⟩

theorem ModeOk.ext {st st' : St} {σ σ' : Sig} {w w' : World} {m : Mode} {z : Nat} {a : Addr} {len cap : Nat} (h : ModeOk st σ w z a len cap m)
    (k : Ext st σ w st' σ' w') : ModeOk st' σ' w' z a len cap m := by
  cases m with
  | imm => trivial
  | full => exact h
  | own id ver =>
    obtain ⟨v0, h1, h2, h3⟩ := h
    obtain ⟨v', k1, k2, k3⟩ := k.ktok id v0 h1
    refine ⟨v', k1, Nat.le_trans h2 k2, fun e => ?_⟩
    obtain rfl : v0 = v' := by omega
    rcases h3 e with h3 | ⟨hsp, h4, h5, cs, T, h6, h7⟩
    · exact .inl h3
    · obtain ⟨k4, k5⟩ := k3 rfl
      obtain ⟨k6, k7⟩ := k5 _ h4
      exact .inr ⟨hsp, k4.trans h4, k6.trans h5, cs, T, k7.trans h6, h7⟩

theorem Rep.ext {st st' : St} {σ σ' : Sig} {w w' : World} (k : Ext st σ w st' σ' w') {x : SV} {v : Value} (h : Rep st σ w x v) : Rep st' σ' w' x v := by
  induction h with
  | any v => exact .any v
  | sc v => exact .sc v
  | nil m z hm => exact .nil m z (hm.ext k)
  | slice m z l a cap vals hcap hsp hz hc hr hm ih =>
    refine .slice m z l a cap vals hcap hsp hz (fun i j hi hj => ?_) ih (hm.ext k)
    obtain ⟨h1, h2⟩ := hc i j hi hj
    obtain ⟨h3, h4⟩ := k.lock _ _ _ h2 h1
    exact ⟨h4, h3⟩
  | ref cells b o vals hc hr ih =>
    refine .ref cells b o vals (fun j hj => ?_) ih
    obtain ⟨h1, h2⟩ := hc j hj
    obtain ⟨h3, h4⟩ := k.lock _ _ _ h2 h1
    exact ⟨h4, h3⟩
  | ptr id off b hk hb =>
    obtain ⟨l, hl⟩ := hk
    obtain ⟨h1, h2⟩ := k.kcells id l hl
    exact .ptr id off b h1 (h2.trans hb)
  | func fn first captured vf vc h1 h2 _ _ i1 i2 => exact .func fn first captured vf vc h1 h2 i1 i2
  | agg l vs h _ ih => exact .agg l vs h ih
  | tuple l vs h _ ih => exact .tuple l vs h ih
  | gd g x v _ h' ih => exact .gd g x v ih h'
  | slc id z off len cap b hk hb hc =>
    obtain ⟨l, hl⟩ := hk
    obtain ⟨h1, h2⟩ := k.kcells id l hl
    exact .slc id z off len cap b h1 (h2.trans hb) hc

/-- A slot's frame. -/
def RepEnv (st : St) (σ : Sig) (w : World) (env : List SV) (tmps : Array Value) : Prop :=
  tmps.size = env.length ∧ ∀ i, i < env.length → Rep st σ w (env.getD i .any) (tmps.getD i undef)

theorem RepEnv.ext {st st' : St} {σ σ' : Sig} {w w' : World} (k : Ext st σ w st' σ' w') {env : List SV} {t : Array Value} (h : RepEnv st σ w env t) :
    RepEnv st' σ' w' env t := ⟨h.1, fun i hi => (h.2 i hi).ext k⟩

theorem RepEnv.get {st : St} {σ : Sig} {w : World} {env : List SV} {t : Array Value} (h : RepEnv st σ w env t) (i : Nat) :
    Rep st σ w (env.getD i .any) (t.getD i undef) := by
  by_cases hi : i < env.length
  · exact h.2 i hi
  · rw [List.getD_eq_getElem?_getD, List.getElem?_eq_none (by omega)]; exact .any _

theorem RepEnv.set {st : St} {σ : Sig} {w : World} {env : List SV} {t : Array Value} (h : RepEnv st σ w env t) (d : Nat) {x : SV} {v : Value} (hx : Rep st σ w x v) :
    RepEnv st σ w (env.set d x) (t.setIfInBounds d v) := by
  refine ⟨by simp [h.1], fun i hi => ?_⟩
  simp only [List.length_set] at hi
  have := h.2 i hi
  by_cases e : d = i
  · subst e
    have e2 : d < t.size := by rw [h.1]; exact hi
    simp [List.getD_eq_getElem?_getD, hi, e2]; exact hx
  · simp [List.getD_eq_getElem?_getD, List.getElem?_set_ne e, Array.getElem?_setIfInBounds_ne e] at this ⊢; exact this

/-- Weakening at the top: an own or full slice is a slice. -/
def norm1 : SV → SV
  | .slice _ z l => .slice .imm z l
  | x => x

theorem Rep.norm1 {st : St} {σ : Sig} {w : World} {x : SV} {v : Value} (h : Rep st σ w x v) : Rep st σ w (norm1 x) v := by
  cases h with
  | nil m z hm => exact .nil .imm z trivial
  | slice m z l a cap vals hcap hsp hz hc hr hm => exact .slice .imm z l a cap vals hcap hsp hz hc hr trivial
  | any v => exact .any v
  | sc v => exact .sc v
  | ref cells b o vals hc hr => exact .ref cells b o vals hc hr
  | ptr id off b hk hb => exact .ptr id off b hk hb
  | func fn first captured vf vc h1 h2 i1 i2 => exact .func fn first captured vf vc h1 h2 i1 i2
  | agg l vs h ih => exact .agg l vs h ih
  | tuple l vs h ih => exact .tuple l vs h ih
  | gd g x v h h' => exact .gd g x v h h'
  | slc id z off len cap b hk hb hc => exact .slc id z off len cap b hk hb hc

def norm : SV → SV
  | .agg l => .agg (l.map norm1)
  | .tuple l => .tuple (l.map norm1)
  | x => norm1 x

theorem getD_map_norm1 (l : List SV) (i : Nat) : (l.map norm1).getD i .any = AL.norm1 (l.getD i .any) := by
  simp only [List.getD_eq_getElem?_getD, List.getElem?_map]
  cases l[i]? <;> rfl

theorem Rep.norm {st : St} {σ : Sig} {w : World} {x : SV} {v : Value} (h : Rep st σ w x v) : Rep st σ w (norm x) v := by
  cases h with
  | agg l vs h ih => exact .agg _ vs (by simpa using h) fun i hi => by rw [getD_map_norm1]; exact (ih i (by simpa using hi)).norm1
  | tuple l vs h ih => exact .tuple _ vs (by simpa using h) fun i hi => by rw [getD_map_norm1]; exact (ih i (by simpa using hi)).norm1
  | nil m z hm => exact (Rep.nil m z hm).norm1
  | slice m z l a cap vals hcap hsp hz hc hr hm => exact (Rep.slice m z l a cap vals hcap hsp hz hc hr hm).norm1
  | any v => exact .any v
  | sc v => exact .sc v
  | ref cells b o vals hc hr => exact .ref cells b o vals hc hr
  | ptr id off b hk hb => exact .ptr id off b hk hb
  | func fn first captured vf vc h1 h2 i1 i2 => exact .func fn first captured vf vc h1 h2 i1 i2
  | gd g x v h h' => exact .gd g x v h h'
  | slc id z off len cap b hk hb hc => exact .slc id z off len cap b hk hb hc

/-! How the world goes on. -/

/-- Something was drawn. -/
theorem Ext.drew {st : St} {σ : Sig} {w : World} (n : Nat) : Ext st σ w st σ { w with drawn := n } :=
  ⟨rfl, rfl, rfl, Nat.le_refl _, fun _ _ _ h k => ⟨h, k⟩, fun _ _ h => ⟨rfl, rfl⟩, fun _ l h => ⟨⟨l, h⟩, rfl⟩,
    fun _ v h => ⟨v, h, Nat.le_refl _, fun _ => ⟨rfl, fun _ _ => ⟨rfl, rfl⟩⟩⟩⟩

theorem Inv.of_ext {st : St} {σ : Sig} {w w' : World} (h : Inv st σ w) (k : Ext st σ w st σ w') (hh : w'.heap = w.heap) : Inv st σ w' where
  cells := fun id l hl => by
    obtain ⟨b, cs, T, h1, h2, h3, h4, h5⟩ := h.cells id l hl
    exact ⟨b, cs, T, h1, by rw [hh]; exact h2, h3, fun j hj => (h4 j hj).ext k, h5⟩
  tok := by rw [hh]; exact h.tok
  inj := h.inj
  fresh := by rw [hh]; exact h.fresh

theorem Inv.drew {st : St} {σ : Sig} {w : World} (h : Inv st σ w) (n : Nat) : Inv st σ { w with drawn := n } := h.of_ext (Ext.drew n) rfl

def Sig.setLock (σ : Sig) (b : Nat) (L : Lock) : Sig := { σ with lock := fun x => if x = b then L else σ.lock x }
def Sig.setMu (σ : Sig) (id : Nat) (b : Option Nat) : Sig := { σ with μ := fun x => if x = id then b else σ.μ x }

theorem cell?_push_old {w : World} (o : Obj) {a : Addr} {v : Value} (h : w.cell? a = some v) : World.cell? { w with heap := w.heap.push o } a = some v := by
  unfold World.cell? at *
  cases hb : w.heap[a.block]? with
  | none => simp [hb] at h
  | some x =>
    have hlt : a.block < w.heap.size := by
      rcases Nat.lt_or_ge a.block w.heap.size with g | g
      · exact g
      · rw [Array.getElem?_eq_none g] at hb; cases hb
    have e : (w.heap.push o)[a.block]? = w.heap[a.block]? := by rw [Array.getElem?_push, if_neg (by omega)]
    simp only [e]
    exact h

theorem heap_push_old {w : World} (o : Obj) {b : Nat} (h : b < w.heap.size) : (w.heap.push o)[b]? = w.heap[b]? := by
  rw [Array.getElem?_push, if_neg (by omega)]

theorem lt_of_some {α : Type} {xs : Array α} {i : Nat} {x : α} (h : xs[i]? = some x) : i < xs.size := by
  rcases Nat.lt_or_ge i xs.size with g | g
  · exact g
  · rw [Array.getElem?_eq_none g] at h; cases h

/-- A new block, of which so much is locked. -/
theorem Ext.alloc {st : St} {σ : Sig} {w : World} (hI : Inv st σ w) (o : Obj) (L : Lock) :
    Ext st σ w st (σ.setLock w.heap.size L) { w with heap := w.heap.push o } where
  os := rfl
  tape := rfl
  output := rfl
  size := by simp
  lock := fun b o' v hl hc => by
    have hb : b < w.heap.size := by
      unfold World.cell? at hc
      cases hx : w.heap[b]? with
      | none => simp [hx] at hc
      | some x => exact lt_of_some hx
    refine ⟨?_, cell?_push_old _ hc⟩
    simp only [Sig.setLock, if_neg (show ¬ b = w.heap.size by omega)]; exact hl
  all := fun b hb hl => ⟨by simp only [Sig.setLock, if_neg (show ¬ b = w.heap.size by omega)], heap_push_old o hb⟩
  kcells := fun _ l h => ⟨⟨l, h⟩, rfl⟩
  ktok := fun id v h => ⟨v, h, Nat.le_refl _, fun _ => ⟨rfl, fun b hb => by
    have := (hI.tok id v b h hb).1
    exact ⟨by simp only [Sig.setLock, if_neg (show ¬ b = w.heap.size by omega)], heap_push_old o this⟩⟩⟩

theorem Inv.alloc {st : St} {σ : Sig} {w : World} (hI : Inv st σ w) (o : Obj) (L : Lock) :
    Inv st (σ.setLock w.heap.size L) { w with heap := w.heap.push o } where
  cells := fun id l hl => by
    obtain ⟨b, cs, T, h1, h2, h3, h4, h5⟩ := hI.cells id l hl
    have hb := lt_of_some h2
    exact ⟨b, cs, T, h1, by rw [heap_push_old o hb]; exact h2, h3, fun j hj => (h4 j hj).ext (Ext.alloc hI o L),
      by simp only [Sig.setLock, if_neg (show ¬ b = w.heap.size by omega)]; exact h5⟩
  tok := fun id v b h hb => by
    obtain ⟨h1, h2⟩ := hI.tok id v b h hb
    exact ⟨by simp; omega, by simp only [Sig.setLock, if_neg (show ¬ b = w.heap.size by omega)]; exact h2⟩
  inj := hI.inj
  fresh := fun b hb => by
    simp at hb
    simp only [Sig.setLock, if_neg (show ¬ b = w.heap.size by omega)]
    exact hI.fresh b (by omega)

/-- The facts on a new id: nothing has it. -/
theorem Ext.newTok {st : St} {σ : Sig} {w : World} (b : Option Nat) : Ext st σ w (st ++ [.tok 0]) (σ.setMu st.length b) w where
  os := rfl
  tape := rfl
  output := rfl
  size := Nat.le_refl _
  lock := fun _ _ _ h k => ⟨h, k⟩
  all := fun _ _ h => ⟨rfl, rfl⟩
  kcells := fun id l h => by
    have hlt : id < st.length := by
      rcases Nat.lt_or_ge id st.length with g | g
      · exact g
      · rw [List.getElem?_eq_none g] at h; cases h
    exact ⟨⟨l, by rw [List.getElem?_append_left hlt]; exact h⟩, by simp only [Sig.setMu, if_neg (show ¬ id = st.length by omega)]⟩
  ktok := fun id v h => by
    have hlt : id < st.length := by
      rcases Nat.lt_or_ge id st.length with g | g
      · exact g
      · rw [List.getElem?_eq_none g] at h; cases h
    exact ⟨v, by rw [List.getElem?_append_left hlt]; exact h, Nat.le_refl _, fun _ => ⟨by simp only [Sig.setMu, if_neg (show ¬ id = st.length by omega)], fun _ _ => ⟨rfl, rfl⟩⟩⟩

theorem lt_of_get {α : Type} {xs : List α} {i : Nat} {x : α} (h : xs[i]? = some x) : i < xs.length := by
  rcases Nat.lt_or_ge i xs.length with g | g
  · exact g
  · rw [List.getElem?_eq_none g] at h; cases h

theorem Inv.newTok {st : St} {σ : Sig} {w : World} (hI : Inv st σ w) (b : Option Nat)
    (hb : ∀ c, b = some c → c < w.heap.size ∧ (σ.lock c).still = false ∧ ∀ i, i < st.length → σ.μ i ≠ some c) :
    Inv (st ++ [.tok 0]) (σ.setMu st.length b) w where
  cells := fun id l hl => by
    have hlt : id < st.length := by
      have := lt_of_get hl
      simp at this
      rcases Nat.lt_or_ge id st.length with g | g
      · exact g
      · obtain rfl : id = st.length := by omega
        simp at hl
    rw [List.getElem?_append_left hlt] at hl
    obtain ⟨b, cs, T, h1, h2, h3, h4, h5⟩ := hI.cells id l hl
    exact ⟨b, cs, T, by simp only [Sig.setMu, if_neg (show ¬ id = st.length by omega)]; exact h1, h2, h3, fun j hj => (h4 j hj).ext (Ext.newTok _), h5⟩
  tok := fun id v c h hc => by
    by_cases e : id = st.length
    · subst e
      simp only [Sig.setMu, if_true] at hc
      obtain ⟨h1, h2, _⟩ := hb c hc
      exact ⟨h1, h2⟩
    · have hlt : id < st.length := by have := lt_of_get h; simp at this; omega
      rw [List.getElem?_append_left hlt] at h
      simp only [Sig.setMu, if_neg e] at hc
      exact hI.tok id v c h hc
  inj := fun i j c hi hj h1 h2 => by
    simp at hi hj
    by_cases e : i = st.length <;> by_cases e' : j = st.length
    · omega
    · simp only [Sig.setMu, if_pos e] at h1
      simp only [Sig.setMu, if_neg e'] at h2
      exact absurd h2 ((hb c h1).2.2 j (by omega))
    · simp only [Sig.setMu, if_pos e'] at h2
      simp only [Sig.setMu, if_neg e] at h1
      exact absurd h1 ((hb c h2).2.2 i (by omega))
    · simp only [Sig.setMu, if_neg e] at h1
      simp only [Sig.setMu, if_neg e'] at h2
      exact hI.inj i j c (by omega) (by omega) h1 h2
  fresh := hI.fresh

/-- A block that is there when the object is new is nobody's. -/
theorem Inv.mu_lt {st : St} {σ : Sig} {w : World} (hI : Inv st σ w) {i b : Nat} (hi : i < st.length) (h : σ.μ i = some b) : b < w.heap.size := by
  have : ∃ x, st[i]? = some x := ⟨st[i], by simp [hi]⟩
  obtain ⟨x, hx⟩ := this
  cases x with
  | cells l =>
    obtain ⟨c, cs, T, h1, h2, _⟩ := hI.cells i l hx
    rw [h] at h1; cases h1
    exact lt_of_some h2
  | tok v => exact (hI.tok i v b hx h).1


theorem set_get {st : St} {id : Nat} {x : Ob} (h : id < st.length) : (st.set id x)[id]? = some x := by simp [h]
theorem set_get_ne {st : St} {id j : Nat} {x : Ob} (h : j ≠ id) : (st.set id x)[j]? = st[j]? := by rw [List.getElem?_set_ne (by omega)]

/-- A token goes on to a block that is nobody's. -/
theorem Ext.tokNew {st : St} {σ : Sig} {w : World} {id ver : Nat} (hid : st[id]? = some (.tok ver)) (b : Option Nat) :
    Ext st σ w (st.set id (.tok (ver + 1))) (σ.setMu id b) w where
  os := rfl
  tape := rfl
  output := rfl
  size := Nat.le_refl _
  lock := fun _ _ _ h k => ⟨h, k⟩
  all := fun _ _ h => ⟨rfl, rfl⟩
  kcells := fun j l h => by
    have hne : j ≠ id := by rintro rfl; rw [hid] at h; cases h
    exact ⟨⟨l, by rw [set_get_ne hne]; exact h⟩, by simp only [Sig.setMu, if_neg hne]⟩
  ktok := fun j v h => by
    by_cases hne : j = id
    · subst hne
      rw [hid] at h; cases h
      exact ⟨ver + 1, set_get (lt_of_get hid), Nat.le_succ _, fun e => by omega⟩
    · exact ⟨v, by rw [set_get_ne hne]; exact h, Nat.le_refl _, fun _ => ⟨by simp only [Sig.setMu, if_neg hne], fun _ _ => ⟨rfl, rfl⟩⟩⟩

theorem Inv.tokNew {st : St} {σ : Sig} {w : World} (hI : Inv st σ w) {id ver : Nat} (hid : st[id]? = some (.tok ver)) (b : Option Nat)
    (hb : ∀ c, b = some c → c < w.heap.size ∧ (σ.lock c).still = false ∧ ∀ i, i < st.length → i ≠ id → σ.μ i ≠ some c) :
    Inv (st.set id (.tok (ver + 1))) (σ.setMu id b) w where
  cells := fun j l hl => by
    have hlt := lt_of_get hid
    have hne : j ≠ id := by rintro rfl; rw [set_get hlt] at hl; cases hl
    rw [set_get_ne hne] at hl
    obtain ⟨b, cs, T, h1, h2, h3, h4, h5⟩ := hI.cells j l hl
    exact ⟨b, cs, T, by simp only [Sig.setMu, if_neg hne]; exact h1, h2, h3, fun k hk => (h4 k hk).ext (Ext.tokNew hid _), h5⟩
  tok := fun j v c h hc => by
    by_cases e : j = id
    · subst e
      simp only [Sig.setMu, if_true] at hc
      obtain ⟨h1, h2, _⟩ := hb c hc
      exact ⟨h1, h2⟩
    · rw [set_get_ne e] at h
      simp only [Sig.setMu, if_neg e] at hc
      exact hI.tok j v c h hc
  inj := fun i j c hi hj h1 h2 => by
    simp at hi hj
    by_cases e : i = id <;> by_cases e' : j = id
    · omega
    · simp only [Sig.setMu, if_pos e] at h1
      simp only [Sig.setMu, if_neg e'] at h2
      exact absurd h2 ((hb c h1).2.2 j (by omega) e')
    · simp only [Sig.setMu, if_pos e'] at h2
      simp only [Sig.setMu, if_neg e] at h1
      exact absurd h1 ((hb c h2).2.2 i (by omega) e)
    · simp only [Sig.setMu, if_neg e] at h1
      simp only [Sig.setMu, if_neg e'] at h2
      exact hI.inj i j c (by omega) (by omega) h1 h2
  fresh := hI.fresh

theorem has_mono {n m o : Nat} (h : n ≤ m) (k : (Lock.upto n).has o) : (Lock.upto m).has o := Nat.lt_of_lt_of_le k h

/-- A block that a token has is written behind what is locked, and more of it is locked. -/
theorem Ext.tokWrite {st : St} {σ : Sig} {w w' : World} {id ver b n n' : Nat} (hI : Inv st σ w) (hid : st[id]? = some (.tok ver)) (hb : σ.μ id = some b)
    (hl : σ.lock b = .upto n) (hn : n ≤ n') (hos : w'.os = w.os) (htape : w'.tape = w.tape) (hout : w'.output = w.output) (hsz : w'.heap.size = w.heap.size)
    (hoth : ∀ c, c ≠ b → w'.heap[c]? = w.heap[c]?) (hold : ∀ o, o < n → w'.cell? ⟨b, o, none⟩ = w.cell? ⟨b, o, none⟩) :
    Ext st σ w (st.set id (.tok (ver + 1))) (σ.setLock b (.upto n')) w' where
  os := hos
  tape := htape
  output := hout
  size := by omega
  lock := fun c o v h k => by
    by_cases e : c = b
    · subst e
      rw [hl] at h
      exact ⟨by simp only [Sig.setLock, if_true]; exact has_mono hn h, by rw [hold o h]; exact k⟩
    · refine ⟨by simp only [Sig.setLock, if_neg e]; exact h, ?_⟩
      unfold World.cell? at *
      simp only [hoth c e]; exact k
  all := fun c hc h => by
    have e : c ≠ b := by rintro rfl; rw [hl] at h; cases h
    exact ⟨by simp only [Sig.setLock, if_neg e], hoth c e⟩
  kcells := fun j l h => by
    have hne : j ≠ id := by rintro rfl; rw [hid] at h; cases h
    exact ⟨⟨l, by rw [set_get_ne hne]; exact h⟩, rfl⟩
  ktok := fun j v h => by
    by_cases hne : j = id
    · subst hne
      rw [hid] at h; cases h
      exact ⟨ver + 1, set_get (lt_of_get hid), Nat.le_succ _, fun e => by omega⟩
    · refine ⟨v, by rw [set_get_ne hne]; exact h, Nat.le_refl _, fun _ => ⟨rfl, fun c hc => ?_⟩⟩
      have e : c ≠ b := by rintro rfl; exact hne (hI.inj j id c (lt_of_get h) (lt_of_get hid) hc hb)
      exact ⟨by simp only [Sig.setLock, if_neg e], hoth c e⟩

theorem Inv.tokWrite {st : St} {σ : Sig} {w w' : World} {id ver b n n' : Nat} (hI : Inv st σ w) (hid : st[id]? = some (.tok ver)) (hb : σ.μ id = some b)
    (hl : σ.lock b = .upto n) (hn : n ≤ n') (hos : w'.os = w.os) (htape : w'.tape = w.tape) (hout : w'.output = w.output) (hsz : w'.heap.size = w.heap.size)
    (hoth : ∀ c, c ≠ b → w'.heap[c]? = w.heap[c]?) (hold : ∀ o, o < n → w'.cell? ⟨b, o, none⟩ = w.cell? ⟨b, o, none⟩) :
    Inv (st.set id (.tok (ver + 1))) (σ.setLock b (.upto n')) w' where
  cells := fun j l h => by
    have hlt := lt_of_get hid
    have hne : j ≠ id := by rintro rfl; rw [set_get hlt] at h; cases h
    rw [set_get_ne hne] at h
    obtain ⟨c, cs, T, h1, h2, h3, h4, h5⟩ := hI.cells j l h
    have e : c ≠ b := by rintro rfl; exact hne (hI.inj j id c (lt_of_get h) hlt h1 hb)
    exact ⟨c, cs, T, h1, by rw [hoth c e]; exact h2, h3, fun k hk => (h4 k hk).ext (Ext.tokWrite hI hid hb hl hn hos htape hout hsz hoth hold),
      by simp only [Sig.setLock, if_neg e]; exact h5⟩
  tok := fun j v c h hc => by
    have h' : ∃ v, st[j]? = some (.tok v) := by
      by_cases e : j = id
      · exact ⟨ver, e ▸ hid⟩
      · rw [set_get_ne e] at h; exact ⟨v, h⟩
    obtain ⟨v', h'⟩ := h'
    obtain ⟨h1, h2⟩ := hI.tok j v' c h' hc
    refine ⟨by omega, ?_⟩
    simp only [Sig.setLock]
    split
    · rfl
    · exact h2
  inj := fun i j c hi hj h1 h2 => by simp at hi hj; exact hI.inj i j c hi hj h1 h2
  fresh := fun c hc => by
    have := (hI.tok id ver b hid hb).1
    simp only [Sig.setLock, if_neg (show ¬ c = b by omega)]
    exact hI.fresh c (by omega)

/-- A new object over a block that is nobody's and of which nothing is locked. -/
theorem Ext.newOb {st : St} {σ : Sig} {w : World} (x : Ob) (b : Option Nat) : Ext st σ w (st ++ [x]) (σ.setMu st.length b) w where
  os := rfl
  tape := rfl
  output := rfl
  size := Nat.le_refl _
  lock := fun _ _ _ h k => ⟨h, k⟩
  all := fun _ _ h => ⟨rfl, rfl⟩
  kcells := fun id l h => by
    have hlt := lt_of_get h
    exact ⟨⟨l, by rw [List.getElem?_append_left hlt]; exact h⟩, by simp only [Sig.setMu, if_neg (show ¬ id = st.length by omega)]⟩
  ktok := fun id v h => by
    have hlt := lt_of_get h
    exact ⟨v, by rw [List.getElem?_append_left hlt]; exact h, Nat.le_refl _, fun _ => ⟨by simp only [Sig.setMu, if_neg (show ¬ id = st.length by omega)], fun _ _ => ⟨rfl, rfl⟩⟩⟩

theorem Inv.newCells {st : St} {σ : Sig} {w : World} (hI : Inv st σ w) {b : Nat} {l : List SV} {cs : Array Value} {T : TypeId}
    (hb : w.heap[b]? = some (.cells cs T (0, 0))) (hl : σ.lock b = .upto 0) (hno : ∀ i, i < st.length → σ.μ i ≠ some b) (hsz : cs.size = l.length)
    (hr : ∀ j, j < l.length → Rep st σ w (l.getD j .any) (cs.getD j default)) : Inv (st ++ [.cells l]) (σ.setMu st.length (some b)) w where
  cells := fun id l' hl' => by
    by_cases e : id = st.length
    · subst e
      simp at hl'
      subst hl'
      exact ⟨b, cs, T, by simp only [Sig.setMu, if_true], hb, hsz, fun j hj => (hr j hj).ext (Ext.newOb _ _), hl⟩
    · have hlt : id < st.length := by have := lt_of_get hl'; simp at this; omega
      rw [List.getElem?_append_left hlt] at hl'
      obtain ⟨c, cs, T, h1, h2, h3, h4, h5⟩ := hI.cells id l' hl'
      exact ⟨c, cs, T, by simp only [Sig.setMu, if_neg e]; exact h1, h2, h3, fun j hj => (h4 j hj).ext (Ext.newOb _ _), h5⟩
  tok := fun id v c h hc => by
    by_cases e : id = st.length
    · subst e; simp at h
    · have hlt : id < st.length := by have := lt_of_get h; simp at this; omega
      rw [List.getElem?_append_left hlt] at h
      simp only [Sig.setMu, if_neg e] at hc
      exact hI.tok id v c h hc
  inj := fun i j c hi hj h1 h2 => by
    simp at hi hj
    by_cases e : i = st.length <;> by_cases e' : j = st.length
    · omega
    · simp only [Sig.setMu, if_pos e] at h1
      simp only [Sig.setMu, if_neg e'] at h2
      cases h1
      exact absurd h2 (hno j (by omega))
    · simp only [Sig.setMu, if_pos e'] at h2
      simp only [Sig.setMu, if_neg e] at h1
      cases h2
      exact absurd h1 (hno i (by omega))
    · simp only [Sig.setMu, if_neg e] at h1
      simp only [Sig.setMu, if_neg e'] at h2
      exact hI.inj i j c (by omega) (by omega) h1 h2
  fresh := hI.fresh

/-- An object is written. -/
theorem Ext.write {st : St} {σ : Sig} {w w' : World} {id b : Nat} {l l' : List SV} (hI : Inv st σ w) (hid : st[id]? = some (.cells l)) (hb : σ.μ id = some b)
    (hl : σ.lock b = .upto 0) (hos : w'.os = w.os) (htape : w'.tape = w.tape) (hout : w'.output = w.output) (hsz : w'.heap.size = w.heap.size)
    (hoth : ∀ c, c ≠ b → w'.heap[c]? = w.heap[c]?) : Ext st σ w (st.set id (.cells l')) σ w' where
  os := hos
  tape := htape
  output := hout
  size := by omega
  lock := fun c o v h k => by
    by_cases e : c = b
    · subst e
      rw [hl] at h
      exact absurd h (Nat.not_lt_zero _)
    · refine ⟨h, ?_⟩
      unfold World.cell? at *
      simp only [hoth c e]; exact k
  all := fun c hc h => by
    have e : c ≠ b := by rintro rfl; rw [hl] at h; cases h
    exact ⟨rfl, hoth c e⟩
  kcells := fun j x h => by
    by_cases hne : j = id
    · subst hne; exact ⟨⟨l', set_get (lt_of_get hid)⟩, rfl⟩
    · exact ⟨⟨x, by rw [set_get_ne hne]; exact h⟩, rfl⟩
  ktok := fun j v h => by
    have hne : j ≠ id := by rintro rfl; rw [hid] at h; cases h
    refine ⟨v, by rw [set_get_ne hne]; exact h, Nat.le_refl _, fun _ => ⟨rfl, fun c hc => ?_⟩⟩
    have e : c ≠ b := by rintro rfl; exact hne (hI.inj j id c (lt_of_get h) (lt_of_get hid) hc hb)
    exact ⟨rfl, hoth c e⟩

theorem Inv.write {st : St} {σ : Sig} {w w' : World} {id b : Nat} {l l' : List SV} {cs : Array Value} {T : TypeId} (hI : Inv st σ w) (hid : st[id]? = some (.cells l))
    (hb : σ.μ id = some b) (hl : σ.lock b = .upto 0) (hos : w'.os = w.os) (htape : w'.tape = w.tape) (hout : w'.output = w.output) (hsz : w'.heap.size = w.heap.size)
    (hoth : ∀ c, c ≠ b → w'.heap[c]? = w.heap[c]?) (hcs : w'.heap[b]? = some (.cells cs T (0, 0))) (hlen : cs.size = l'.length)
    (hr : ∀ j, j < l'.length → Rep st σ w (l'.getD j .any) (cs.getD j default)) : Inv (st.set id (.cells l')) σ w' where
  cells := fun j x h => by
    have k := Ext.write (l' := l') hI hid hb hl hos htape hout hsz hoth
    by_cases hne : j = id
    · subst hne
      rw [set_get (lt_of_get hid)] at h
      cases h
      exact ⟨b, cs, T, hb, hcs, hlen, fun i hi => (hr i hi).ext k, hl⟩
    · rw [set_get_ne hne] at h
      obtain ⟨c, cs', T', h1, h2, h3, h4, h5⟩ := hI.cells j x h
      have e : c ≠ b := by rintro rfl; exact hne (hI.inj j id c (lt_of_get h) (lt_of_get hid) h1 hb)
      exact ⟨c, cs', T', h1, by rw [hoth c e]; exact h2, h3, fun i hi => (h4 i hi).ext k, h5⟩
  tok := fun j v c h hc => by
    have hne : j ≠ id := by rintro rfl; rw [set_get (lt_of_get hid)] at h; cases h
    rw [set_get_ne hne] at h
    obtain ⟨h1, h2⟩ := hI.tok j v c h hc
    exact ⟨by omega, h2⟩
  inj := fun i j c hi hj h1 h2 => by simp at hi hj; exact hI.inj i j c hi hj h1 h2
  fresh := fun c hc => hI.fresh c (by omega)

end Go.AL
