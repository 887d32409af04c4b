/- The abstract layer, part 1: abstract values, what they stand for in a world, and how worlds may go on. No program in sight. -/
import Derived.Calls
import Derived.Orders
import Derived.Laws.Sem
import Derived.Laws.Entries
import Derived.Laws.Cells
import Derived.Laws.Small
import Derived.Laws.CopyRow
set_option linter.all false
set_option linter.unusedVariables false
namespace Go.AL
inductive Mode where
  | imm | full | own (id ver : Nat)
inductive SV where
  | any
  | sc (v : Value)
  | slice (m : Mode) (z : Nat) (l : List SV)
  | ref (cells : List SV)
  | ptr (id off : Nat)
  | func (fn : Fn) (first captured : List SV)
  | agg (cells : List SV)
  | tuple (l : List SV)
  | gd (g : Bool) (x : SV)
  | slc (id z off len cap : Nat)
  | mp (id : Nat)
  | stamp (id j : Nat)
  /-- The first n elements of what may be written and appended to,while its version is this one. -/
  | arr (id ver n : Nat)
  /-- The address of one of its cells. -/
  | aptr (id ver off : Nat)
instance : Inhabited SV := ⟨.any⟩
def SV.cells : SV → List SV
  | .agg l => l
  | x => [x]
inductive Ob where
  | cells (l : List SV)
  | tok (ver : Nat)
  | map (es : List (Value × SV))
  | arr (ver z : Nat) (cs : List SV)
  /-- A package's variable that nobody writes: its block,its value. -/
  | glob (b : Nat) (v : Value)
abbrev St := List Ob
inductive Lock where
  | upto (n : Nat)
  | all
  /-- Written no more,and read only up to a place. -/
  | fix (n : Nat)
structure Sig where
  lock : Nat → Lock
  μ : Nat → Option Nat
def Lock.has : Lock → Nat → Prop
  | .upto n,o => o < n
  | .all,_ => True
  | .fix n,o => o < n
def Lock.still : Lock → Bool
  | .upto _ => false
  | _ => true
def ModeOk (st : St) (σ : Sig) (w : World) (z : Nat) (a : Addr) (len cap : Nat) : Mode → Prop
  | .imm => True
  | .full => cap = len
  | .own id ver => ∃ v0,st[id]? = some (.tok v0) ∧ ver ≤ v0 ∧ (ver = v0 → cap = len ∨ (a.spot = none ∧ σ.μ id = some a.block ∧
      σ.lock a.block = .upto (a.off + len * z) ∧ ∃ cs T,w.heap[a.block]? = some (.cells cs T (0,0)) ∧ a.off + cap * z ≤ cs.size))
def ModeNil (st : St) : Mode → Prop
  | .imm => True
  | .full => True
  | .own id ver => ∃ v0,st[id]? = some (.tok v0) ∧ ver ≤ v0
inductive Rep (st : St) (σ : Sig) (w : World) : SV → Value → Prop where
  | any (v : Value) : Rep st σ w .any v
  | sc (v : Value) : Rep st σ w (.sc v) v
  | nil (m : Mode) (z : Nat) (hm : ModeNil st m) : Rep st σ w (.slice m z []) (.slice none 0 0)
  | slice (m : Mode) (z : Nat) (l : List SV) (a : Addr) (cap : Nat) (vals : Nat → Nat → Value) (hcap : l.length ≤ cap)
      (hsp : l ≠ [] → a.spot = none)
      (hz : ∀ i,i < l.length → (l.getD i .any).cells.length = z)
      (hc : ∀ i j,i < l.length → j < z → w.cell? ⟨a.block,a.off + i * z + j,none⟩ = some (vals i j) ∧ (σ.lock a.block).has (a.off + i * z + j))
      (hr : ∀ i j,i < l.length → j < z → Rep st σ w ((l.getD i .any).cells.getD j .any) (vals i j))
      (hm : ModeOk st σ w z a l.length cap m) : Rep st σ w (.slice m z l) (.slice (some a) l.length cap)
  | ref (cells : List SV) (b o : Nat) (vals : Nat → Value)
      (hc : ∀ j,j < cells.length → w.cell? ⟨b,o + j,none⟩ = some (vals j) ∧ (σ.lock b).has (o + j))
      (hr : ∀ j,j < cells.length → Rep st σ w (cells.getD j .any) (vals j)) : Rep st σ w (.ref cells) (.pointer (some ⟨b,o,none⟩))
  | ptr (id off b : Nat) (hk : ∃ l,st[id]? = some (.cells l)) (hb : σ.μ id = some b) : Rep st σ w (.ptr id off) (.pointer (some ⟨b,off,none⟩))
  | func (fn : Fn) (first captured : List SV) (vf vc : Array Value) (h1 : vf.size = first.length) (h2 : vc.size = captured.length)
      (r1 : ∀ i,i < first.length → Rep st σ w (first.getD i .any) (vf.getD i default))
      (r2 : ∀ i,i < captured.length → Rep st σ w (captured.getD i .any) (vc.getD i default)) : Rep st σ w (.func fn first captured) (.func fn vf vc)
  | agg (l : List SV) (vs : Array Value) (h : vs.size = l.length) (r : ∀ i,i < l.length → Rep st σ w (l.getD i .any) (vs.getD i default)) : Rep st σ w (.agg l) (.agg vs)
  | tuple (l : List SV) (vs : Array Value) (h : vs.size = l.length) (r : ∀ i,i < l.length → Rep st σ w (l.getD i .any) (vs.getD i default)) : Rep st σ w (.tuple l) (.tuple vs)
  | gd (g : Bool) (x : SV) (v : Value) (h : g = true → Rep st σ w x v) (h' : g = false → v = undef) : Rep st σ w (.gd g x) v
  | slc (id z off len cap b : Nat) (hk : ∃ l,st[id]? = some (.cells l)) (hb : σ.μ id = some b) (hc : len ≤ cap) : Rep st σ w (.slc id z off len cap) (.slice (some ⟨b,off,none⟩) len cap)
  | mp (id b : Nat) (hk : ∃ es,st[id]? = some (.map es)) (hb : σ.μ id = some b) : Rep st σ w (.mp id) (.map (some b))
  | stamp (id j b : Nat) (ents : Array MapEntry) (clock : Nat) (hk : ∃ es,st[id]? = some (.map es)) (hb : σ.μ id = some b) (hh : w.heap[b]? = some (.map ents clock)) (hj : j < ents.size) :
      Rep st σ w (.stamp id j) (.int .i64 (ents.getD j default).born)
  | arr (id ver n v0 z : Nat) (cs : List SV) (v : Value) (ho : v.oneCell' = true) (hk : st[id]? = some (.arr v0 z cs)) (hv : ver ≤ v0)
      (h : ver = v0 → n * z ≤ cs.length ∧ ((σ.μ id = none ∧ n = 0 ∧ ∃ a,v = .slice a 0 0) ∨
        ∃ b cap vals T,σ.μ id = some b ∧ v = .slice (some ⟨b,0,none⟩) n cap ∧ n ≤ cap ∧ w.heap[b]? = some (.cells vals T (0,0)) ∧ cap * z ≤ vals.size)) : Rep st σ w (.arr id ver n) v
  | aptr (id ver off v0 z : Nat) (cs : List SV) (v : Value) (ho : v.oneCell' = true) (hk : st[id]? = some (.arr v0 z cs)) (hv : ver ≤ v0)
      (h : ver = v0 → ∃ b,σ.μ id = some b ∧ v = .pointer (some ⟨b,off,none⟩)) : Rep st σ w (.aptr id ver off) v
def MapRep (st : St) (σ : Sig) (w : World) (es : List (Value × SV)) (ents : Array MapEntry) (clock : Nat) : Prop :=
  ents.size = es.length ∧ (∀ j,j < es.length → (ents.getD j default).key = (es.getD j (default,.any)).1 ∧ Rep st σ w (es.getD j (default,.any)).2 (ents.getD j default).val) ∧
  (∀ j,j < ents.size → (ents.getD j default).born < clock) ∧ ∀ i j,i < ents.size → j < ents.size → (ents.getD i default).born = (ents.getD j default).born → i = j
structure Inv (st : St) (σ : Sig) (w : World) : Prop where
  cells : ∀ id l,st[id]? = some (.cells l) → ∃ b cs T,σ.μ id = some b ∧ w.heap[b]? = some (.cells cs T (0,0)) ∧ cs.size = l.length ∧
    (∀ j,j < l.length → Rep st σ w (l.getD j .any) (cs.getD j default)) ∧ σ.lock b = .upto 0
  tok : ∀ id v b,st[id]? = some (.tok v) → σ.μ id = some b → b < w.heap.size ∧ (σ.lock b).still = false
  inj : ∀ i j b,i < st.length → j < st.length → σ.μ i = some b → σ.μ j = some b → i = j
  fresh : ∀ b,w.heap.size ≤ b → σ.lock b = .upto 0
  arrs : ∀ id ver z cs,st[id]? = some (.arr ver z cs) → (σ.μ id = none ∧ cs = []) ∨ ∃ b vals T,σ.μ id = some b ∧ w.heap[b]? = some (.cells vals T (0,0)) ∧ cs.length ≤ vals.size ∧
    (∀ j,j < cs.length → Rep st σ w (cs.getD j .any) (vals.getD j default)) ∧ σ.lock b = .upto 0
  maps : ∀ id es,st[id]? = some (.map es) → ∃ b ents clock,σ.μ id = some b ∧ w.heap[b]? = some (.map ents clock) ∧ MapRep st σ w es ents clock ∧ σ.lock b = .upto 0
  globs : ∀ id b v,st[id]? = some (.glob b v) → σ.μ id = none ∧ w.cell? ⟨b,0,none⟩ = some v ∧ (σ.lock b).has 0
structure Ext (st : St) (σ : Sig) (w : World) (st' : St) (σ' : Sig) (w' : World) : Prop where
  os : w'.os = w.os
  tape : w'.tape = w.tape
  output : w'.output = w.output
  size : w.heap.size ≤ w'.heap.size
  lock : ∀ b o v,(σ.lock b).has o → w.cell? ⟨b,o,none⟩ = some v → (σ'.lock b).has o ∧ w'.cell? ⟨b,o,none⟩ = some v
  all : ∀ b,b < w.heap.size → (σ.lock b).still = true → σ'.lock b = σ.lock b ∧ w'.heap[b]? = w.heap[b]?
  kcells : ∀ id l,st[id]? = some (.cells l) → (∃ l',st'[id]? = some (.cells l')) ∧ σ'.μ id = σ.μ id
  ktok : ∀ id v,st[id]? = some (.tok v) → ∃ v',st'[id]? = some (.tok v') ∧ v ≤ v' ∧
    (v' = v → σ'.μ id = σ.μ id ∧ ∀ b,σ.μ id = some b → σ'.lock b = σ.lock b ∧ w'.heap[b]? = w.heap[b]?)
  karrs : ∀ id ver z cs,st[id]? = some (.arr ver z cs) → ∃ ver' cs',st'[id]? = some (.arr ver' z cs') ∧ ver ≤ ver' ∧ (ver' = ver → σ'.μ id = σ.μ id ∧ cs'.length = cs.length ∧
    ∀ b vals T fr,σ.μ id = some b → w.heap[b]? = some (.cells vals T fr) → ∃ vals' : Array Value,w'.heap[b]? = some (.cells vals' T fr) ∧ vals'.size = vals.size)
  kmaps : ∀ id es,st[id]? = some (.map es) → (∃ es',st'[id]? = some (.map es')) ∧ σ'.μ id = σ.μ id ∧
    ∀ b ents clock,σ.μ id = some b → w.heap[b]? = some (.map ents clock) → ∃ ents' clock',w'.heap[b]? = some (.map ents' clock') ∧ ents.size ≤ ents'.size ∧ ∀ j,j < ents.size → (ents'.getD j default).born = (ents.getD j default).born
theorem Inv.globs_ext {st st' : St} {σ σ' : Sig} {w w' : World} (hI : Inv st σ w) (k : Ext st σ w st' σ' w') (hg : ∀ id b v,st'[id]? = some (.glob b v) → st[id]? = some (.glob b v) ∧ σ'.μ id = σ.μ id) :
    ∀ id b v,st'[id]? = some (.glob b v) → σ'.μ id = none ∧ w'.cell? ⟨b,0,none⟩ = some v ∧ (σ'.lock b).has 0 := by
  intro id b v h
  obtain ⟨h1,h2⟩ := hg id b v h
  obtain ⟨h3,h4,h5⟩ := hI.globs id b v h1
  obtain ⟨h6,h7⟩ := k.lock b 0 v h5 h4
  exact ⟨h2.trans h3,h7,h6⟩
theorem glob_app {st : St} {σ : Sig} {m : Nat → Option Nat} {x : Ob} (hm : ∀ id,id < st.length → m id = σ.μ id) (hx : ∀ b v,x ≠ .glob b v) : ∀ id b v,(st ++ [x])[id]? = some (.glob b v) → st[id]? = some (.glob b v) ∧ m id = σ.μ id := by
  intro id b v h
  rcases Nat.lt_trichotomy id st.length with g | g | g
  · rw [List.getElem?_append_left g] at h; exact ⟨h,hm id g⟩
  · subst g; simp at h; exact absurd h (hx b v)
  · rw [List.getElem?_eq_none (by simp; omega)] at h; cases h
theorem glob_set {st : St} {σ : Sig} {m : Nat → Option Nat} {id : Nat} {x : Ob} (hm : ∀ j,j ≠ id → m j = σ.μ j) (hx : ∀ b v,x ≠ .glob b v) : ∀ j b v,(st.set id x)[j]? = some (.glob b v) → st[j]? = some (.glob b v) ∧ m j = σ.μ j := by
  intro j b v h
  by_cases e : j = id
  · subst e
    rw [List.getElem?_set] at h
    simp only [if_true] at h
    split at h
    · exact absurd (Option.some.inj h) (hx b v)
    · cases h
  · rw [List.getElem?_set_ne (fun q => e q.symm)] at h; exact ⟨h,hm j e⟩
theorem Ext.refl (st : St) (σ : Sig) (w : World) : Ext st σ w st σ w :=
  ⟨rfl,rfl,rfl,Nat.le_refl _,fun _ _ _ h k => ⟨h,k⟩,fun _ _ _ => ⟨rfl,rfl⟩,fun _ l h => ⟨⟨l,h⟩,rfl⟩,
    fun _ v h => ⟨v,h,Nat.le_refl _,fun _ => ⟨rfl,fun _ _ => ⟨rfl,rfl⟩⟩⟩,fun _ v _ c h => ⟨v,c,h,Nat.le_refl _,fun _ => ⟨rfl,rfl,fun _ vals _ _ _ hh => ⟨vals,hh,rfl⟩⟩⟩,fun _ l h => ⟨⟨l,h⟩,rfl,fun b e c _ hh => ⟨e,c,hh,Nat.le_refl _,fun _ _ => rfl⟩⟩⟩
theorem Ext.trans {s0 s1 s2 : St} {a b c : Sig} {u v w : World} (h : Ext s0 a u s1 b v) (k : Ext s1 b v s2 c w) : Ext s0 a u s2 c w where
  os := k.os.trans h.os
  tape := k.tape.trans h.tape
  output := k.output.trans h.output
  size := Nat.le_trans h.size k.size
  lock := fun x o y hl hc => by obtain ⟨h1,h2⟩ := h.lock x o y hl hc; exact k.lock x o y h1 h2
  all := fun x hx hl => by
    obtain ⟨h1,h2⟩ := h.all x hx hl
    obtain ⟨h3,h4⟩ := k.all x (Nat.lt_of_lt_of_le hx h.size) (by rw [h1]; exact hl)
    exact ⟨h3.trans h1,h4.trans h2⟩
  kcells := fun id l hl => by
    obtain ⟨⟨l',h1⟩,h2⟩ := h.kcells id l hl
    obtain ⟨h3,h4⟩ := k.kcells id l' h1
    exact ⟨h3,h4.trans h2⟩
  ktok := fun id x hx => by
    obtain ⟨v1,h1,h2,h3⟩ := h.ktok id x hx
    obtain ⟨v2,k1,k2,k3⟩ := k.ktok id v1 h1
    refine ⟨v2,k1,Nat.le_trans h2 k2,fun e => ?_⟩
    obtain rfl : v1 = x := by omega
    obtain ⟨p1,p2⟩ := h3 rfl
    obtain ⟨q1,q2⟩ := k3 e
    refine ⟨q1.trans p1,fun b hb => ?_⟩
    obtain ⟨r1,r2⟩ := p2 b hb
    obtain ⟨t1,t2⟩ := q2 b (p1.trans hb)
    exact ⟨t1.trans r1,t2.trans r2⟩
  karrs := fun id v z c hc => by
    obtain ⟨v1,c1,h1,h2,h3⟩ := h.karrs id v z c hc
    obtain ⟨v2,c2,k1,k2,k3⟩ := k.karrs id v1 z c1 h1
    refine ⟨v2,c2,k1,Nat.le_trans h2 k2,fun e => ?_⟩
    obtain rfl : v1 = v := by omega
    obtain ⟨p1,p2,p3⟩ := h3 rfl
    obtain ⟨q1,q2,q3⟩ := k3 e
    refine ⟨q1.trans p1,q2.trans p2,fun b vals T fr hb hh => ?_⟩
    obtain ⟨x1,r1,r2⟩ := p3 b vals T fr hb hh
    obtain ⟨x2,t1,t2⟩ := q3 b x1 T fr (p1.trans hb) r1
    exact ⟨x2,t1,t2.trans r2⟩
  kmaps := fun id l hl => by
    obtain ⟨⟨l',h1⟩,h2,g2⟩ := h.kmaps id l hl
    obtain ⟨h3,h4,g4⟩ := k.kmaps id l' h1
    refine ⟨h3,h4.trans h2,fun b e c hb hh => ?_⟩
    obtain ⟨e1,c1,q1,q2,q3⟩ := g2 b e c hb hh
    obtain ⟨e2,c2,r1,r2,r3⟩ := g4 b e1 c1 (h2.trans hb) q1
    exact ⟨e2,c2,r1,Nat.le_trans q2 r2,fun j hj => (r3 j (Nat.lt_of_lt_of_le hj q2)).trans (q3 j hj)⟩
theorem ModeNil.ext {st st' : St} {σ σ' : Sig} {w w' : World} {m : Mode} (h : ModeNil st m) (k : Ext st σ w st' σ' w') : ModeNil st' m := by
  cases m with
  | imm => trivial
  | full => trivial
  | own id ver =>
    obtain ⟨v0,h1,h2⟩ := h
    obtain ⟨v',h3,h4,_⟩ := k.ktok id v0 h1
    exact ⟨v',h3,Nat.le_trans h2 h4⟩
theorem ModeOk.ext {st st' : St} {σ σ' : Sig} {w w' : World} {m : Mode} {z : Nat} {a : Addr} {len cap : Nat} (h : ModeOk st σ w z a len cap m)
    (k : Ext st σ w st' σ' w') : ModeOk st' σ' w' z a len cap m := by
  cases m with
  | imm => trivial
  | full => exact h
  | own id ver =>
    obtain ⟨v0,h1,h2,h3⟩ := h
    obtain ⟨v',k1,k2,k3⟩ := k.ktok id v0 h1
    refine ⟨v',k1,Nat.le_trans h2 k2,fun e => ?_⟩
    obtain rfl : v0 = v' := by omega
    rcases h3 e with h3 | ⟨hsp,h4,h5,cs,T,h6,h7⟩
    · exact .inl h3
    · obtain ⟨k4,k5⟩ := k3 rfl
      obtain ⟨k6,k7⟩ := k5 _ h4
      exact .inr ⟨hsp,k4.trans h4,k6.trans h5,cs,T,k7.trans h6,h7⟩
theorem Rep.ext {st st' : St} {σ σ' : Sig} {w w' : World} (k : Ext st σ w st' σ' w') {x : SV} {v : Value} (h : Rep st σ w x v) : Rep st' σ' w' x v := by
  induction h with
  | any v => exact .any v
  | sc v => exact .sc v
  | nil m z hm => exact .nil m z (hm.ext k)
  | slice m z l a cap vals hcap hsp hz hc hr hm ih =>
    refine .slice m z l a cap vals hcap hsp hz (fun i j hi hj => ?_) ih (hm.ext k)
    obtain ⟨h1,h2⟩ := hc i j hi hj
    obtain ⟨h3,h4⟩ := k.lock _ _ _ h2 h1
    exact ⟨h4,h3⟩
  | ref cells b o vals hc hr ih =>
    refine .ref cells b o vals (fun j hj => ?_) ih
    obtain ⟨h1,h2⟩ := hc j hj
    obtain ⟨h3,h4⟩ := k.lock _ _ _ h2 h1
    exact ⟨h4,h3⟩
  | ptr id off b hk hb =>
    obtain ⟨l,hl⟩ := hk
    obtain ⟨h1,h2⟩ := k.kcells id l hl
    exact .ptr id off b h1 (h2.trans hb)
  | func fn first captured vf vc h1 h2 _ _ i1 i2 => exact .func fn first captured vf vc h1 h2 i1 i2
  | agg l vs h _ ih => exact .agg l vs h ih
  | tuple l vs h _ ih => exact .tuple l vs h ih
  | gd g x v _ h' ih => exact .gd g x v ih h'
  | slc id z off len cap b hk hb hc =>
    obtain ⟨l,hl⟩ := hk
    obtain ⟨h1,h2⟩ := k.kcells id l hl
    exact .slc id z off len cap b h1 (h2.trans hb) hc
  | mp id b hk hb =>
    obtain ⟨l,hl⟩ := hk
    obtain ⟨h1,h2,_⟩ := k.kmaps id l hl
    exact .mp id b h1 (h2.trans hb)
  | stamp id j b ents clock hk hb hh hj =>
    obtain ⟨l,hl⟩ := hk
    obtain ⟨h1,h2,h3⟩ := k.kmaps id l hl
    obtain ⟨e,c,q1,q2,q3⟩ := h3 b ents clock hb hh
    rw [← q3 j hj]
    exact .stamp id j b e c h1 (h2.trans hb) q1 (Nat.lt_of_lt_of_le hj q2)
  | arr id ver n v0 z cs v ho hk hv h =>
    obtain ⟨v1,c1,h1,h2,h3⟩ := k.karrs id v0 z cs hk
    refine .arr id ver n v1 z c1 v ho h1 (Nat.le_trans hv h2) fun e => ?_
    obtain rfl : v0 = v1 := by omega
    obtain ⟨p1,p2,p3⟩ := h3 rfl
    obtain ⟨q1,q2⟩ := h e
    refine ⟨by rw [p2]; exact q1,q2.imp (fun ⟨r1,r2⟩ => ⟨p1.trans r1,r2⟩) fun ⟨b,cap,vals,T,r1,r2,r3,r4,r5⟩ => ?_⟩
    obtain ⟨x,t1,t2⟩ := p3 b vals T (0,0) r1 r4
    exact ⟨b,cap,x,T,p1.trans r1,r2,r3,t1,by rw [t2]; exact r5⟩
  | aptr id ver off v0 z cs v ho hk hv h =>
    obtain ⟨v1,c1,h1,h2,h3⟩ := k.karrs id v0 z cs hk
    refine .aptr id ver off v1 z c1 v ho h1 (Nat.le_trans hv h2) fun e => ?_
    obtain rfl : v0 = v1 := by omega
    obtain ⟨p1,p2,p3⟩ := h3 rfl
    obtain ⟨b,q1,q2⟩ := h e
    exact ⟨b,p1.trans q1,q2⟩
theorem MapRep.ext {st st' : St} {σ σ' : Sig} {w w' : World} (k : Ext st σ w st' σ' w') {es : List (Value × SV)} {ents : Array MapEntry} {clock : Nat} (h : MapRep st σ w es ents clock) : MapRep st' σ' w' es ents clock :=
  ⟨h.1,fun j hj => ⟨(h.2.1 j hj).1,((h.2.1 j hj).2).ext k⟩,h.2.2.1,h.2.2.2⟩
def RepEnv (st : St) (σ : Sig) (w : World) (env : List SV) (tmps : Array Value) : Prop :=
  tmps.size = env.length ∧ ∀ i,i < env.length → Rep st σ w (env.getD i .any) (tmps.getD i undef)
theorem RepEnv.ext {st st' : St} {σ σ' : Sig} {w w' : World} (k : Ext st σ w st' σ' w') {env : List SV} {t : Array Value} (h : RepEnv st σ w env t) :
    RepEnv st' σ' w' env t := ⟨h.1,fun i hi => (h.2 i hi).ext k⟩
theorem RepEnv.get {st : St} {σ : Sig} {w : World} {env : List SV} {t : Array Value} (h : RepEnv st σ w env t) (i : Nat) :
    Rep st σ w (env.getD i .any) (t.getD i undef) := by
  by_cases hi : i < env.length
  · exact h.2 i hi
  · rw [List.getD_eq_getElem?_getD,List.getElem?_eq_none (by omega)]; exact .any _
theorem RepEnv.set {st : St} {σ : Sig} {w : World} {env : List SV} {t : Array Value} (h : RepEnv st σ w env t) (d : Nat) {x : SV} {v : Value} (hx : Rep st σ w x v) :
    RepEnv st σ w (env.set d x) (t.setIfInBounds d v) := by
  refine ⟨by simp [h.1],fun i hi => ?_⟩
  simp only [List.length_set] at hi
  have := h.2 i hi
  by_cases e : d = i
  · subst e
    have e2 : d < t.size := by rw [h.1]; exact hi
    simp [List.getD_eq_getElem?_getD,hi,e2]; exact hx
  · simp [List.getD_eq_getElem?_getD,List.getElem?_set_ne e,Array.getElem?_setIfInBounds_ne e] at this ⊢; exact this
def norm1 : SV → SV
  | .slice _ z l => .slice .imm z l
  | x => x
theorem Rep.norm1 {st : St} {σ : Sig} {w : World} {x : SV} {v : Value} (h : Rep st σ w x v) : Rep st σ w (norm1 x) v := by
  cases h with
  | nil m z hm => exact .nil .imm z trivial
  | slice m z l a cap vals hcap hsp hz hc hr hm => exact .slice .imm z l a cap vals hcap hsp hz hc hr trivial
  | any v => exact .any v
  | sc v => exact .sc v
  | ref cells b o vals hc hr => exact .ref cells b o vals hc hr
  | ptr id off b hk hb => exact .ptr id off b hk hb
  | func fn first captured vf vc h1 h2 i1 i2 => exact .func fn first captured vf vc h1 h2 i1 i2
  | agg l vs h ih => exact .agg l vs h ih
  | tuple l vs h ih => exact .tuple l vs h ih
  | gd g x v h h' => exact .gd g x v h h'
  | slc id z off len cap b hk hb hc => exact .slc id z off len cap b hk hb hc
  | mp id b hk hb => exact .mp id b hk hb
  | stamp id j b ents clock hk hb hh hj => exact .stamp id j b ents clock hk hb hh hj
  | arr id ver n v0 z cs v ho hk hv h => exact .arr id ver n v0 z cs v ho hk hv h
  | aptr id ver off v0 z cs v ho hk hv h => exact .aptr id ver off v0 z cs v ho hk hv h
def norm : SV → SV
  | .agg l => .agg (l.map norm1)
  | .tuple l => .tuple (l.map norm1)
  | x => norm1 x
theorem getD_map_norm1 (l : List SV) (i : Nat) : (l.map norm1).getD i .any = AL.norm1 (l.getD i .any) := by
  simp only [List.getD_eq_getElem?_getD,List.getElem?_map]
  cases l[i]? <;> rfl
theorem Rep.norm {st : St} {σ : Sig} {w : World} {x : SV} {v : Value} (h : Rep st σ w x v) : Rep st σ w (norm x) v := by
  cases h with
  | agg l vs h ih => exact .agg _ vs (by simpa using h) fun i hi => by rw [getD_map_norm1]; exact (ih i (by simpa using hi)).norm1
  | tuple l vs h ih => exact .tuple _ vs (by simpa using h) fun i hi => by rw [getD_map_norm1]; exact (ih i (by simpa using hi)).norm1
  | nil m z hm => exact (Rep.nil m z hm).norm1
  | slice m z l a cap vals hcap hsp hz hc hr hm => exact (Rep.slice m z l a cap vals hcap hsp hz hc hr hm).norm1
  | any v => exact .any v
  | sc v => exact .sc v
  | ref cells b o vals hc hr => exact .ref cells b o vals hc hr
  | ptr id off b hk hb => exact .ptr id off b hk hb
  | func fn first captured vf vc h1 h2 i1 i2 => exact .func fn first captured vf vc h1 h2 i1 i2
  | gd g x v h h' => exact .gd g x v h h'
  | slc id z off len cap b hk hb hc => exact .slc id z off len cap b hk hb hc
  | mp id b hk hb => exact .mp id b hk hb
  | stamp id j b ents clock hk hb hh hj => exact .stamp id j b ents clock hk hb hh hj
  | arr id ver n v0 z cs v ho hk hv h => exact .arr id ver n v0 z cs v ho hk hv h
  | aptr id ver off v0 z cs v ho hk hv h => exact .aptr id ver off v0 z cs v ho hk hv h
theorem Ext.drew {st : St} {σ : Sig} {w : World} (n : Nat) : Ext st σ w st σ { w with drawn := n } :=
  ⟨rfl,rfl,rfl,Nat.le_refl _,fun _ _ _ h k => ⟨h,k⟩,fun _ _ _ => ⟨rfl,rfl⟩,fun _ l h => ⟨⟨l,h⟩,rfl⟩,
    fun _ v h => ⟨v,h,Nat.le_refl _,fun _ => ⟨rfl,fun _ _ => ⟨rfl,rfl⟩⟩⟩,fun _ v _ c h => ⟨v,c,h,Nat.le_refl _,fun _ => ⟨rfl,rfl,fun _ vals _ _ _ hh => ⟨vals,hh,rfl⟩⟩⟩,fun _ l h => ⟨⟨l,h⟩,rfl,fun b e c _ hh => ⟨e,c,hh,Nat.le_refl _,fun _ _ => rfl⟩⟩⟩
theorem Inv.of_ext {st : St} {σ : Sig} {w w' : World} (h : Inv st σ w) (k : Ext st σ w st σ w') (hh : w'.heap = w.heap) : Inv st σ w' where
  cells := fun id l hl => by
    obtain ⟨b,cs,T,h1,h2,h3,h4,h5⟩ := h.cells id l hl
    exact ⟨b,cs,T,h1,by rw [hh]; exact h2,h3,fun j hj => (h4 j hj).ext k,h5⟩
  tok := by rw [hh]; exact h.tok
  inj := h.inj
  fresh := by rw [hh]; exact h.fresh
  arrs := fun id v z cs hc => (h.arrs id v z cs hc).imp (fun h => h) fun ⟨b,vals,T,h1,h2,h3,h4,h5⟩ => ⟨b,vals,T,h1,by rw [hh]; exact h2,h3,fun j hj => (h4 j hj).ext k,h5⟩
  maps := fun id l hl => by
    obtain ⟨b,es,c,h1,h2,h3,h4⟩ := h.maps id l hl
    exact ⟨b,es,c,h1,by rw [hh]; exact h2,h3.ext k,h4⟩
  globs := h.globs_ext k fun _ _ _ h => ⟨h,rfl⟩
theorem Inv.drew {st : St} {σ : Sig} {w : World} (h : Inv st σ w) (n : Nat) : Inv st σ { w with drawn := n } := h.of_ext (Ext.drew n) rfl
def Sig.setLock (σ : Sig) (b : Nat) (L : Lock) : Sig := { σ with lock := fun x => if x = b then L else σ.lock x }
def Sig.setMu (σ : Sig) (id : Nat) (b : Option Nat) : Sig := { σ with μ := fun x => if x = id then b else σ.μ x }
theorem cell?_push_old {w : World} (o : Obj) {a : Addr} {v : Value} (h : w.cell? a = some v) : World.cell? { w with heap := w.heap.push o } a = some v := by
  unfold World.cell? at *
  cases hb : w.heap[a.block]? with
  | none => simp [hb] at h
  | some x =>
    have hlt : a.block < w.heap.size := by
      rcases Nat.lt_or_ge a.block w.heap.size with g | g
      · exact g
      · rw [Array.getElem?_eq_none g] at hb; cases hb
    have e : (w.heap.push o)[a.block]? = w.heap[a.block]? := by rw [Array.getElem?_push,if_neg (by omega)]
    simp only [e]
    exact h
theorem heap_push_old {w : World} (o : Obj) {b : Nat} (h : b < w.heap.size) : (w.heap.push o)[b]? = w.heap[b]? := by
  rw [Array.getElem?_push,if_neg (by omega)]
theorem lt_of_some {α : Type} {xs : Array α} {i : Nat} {x : α} (h : xs[i]? = some x) : i < xs.size := by
  rcases Nat.lt_or_ge i xs.size with g | g
  · exact g
  · rw [Array.getElem?_eq_none g] at h; cases h
theorem Ext.alloc {st : St} {σ : Sig} {w : World} (hI : Inv st σ w) (o : Obj) (L : Lock) :
    Ext st σ w st (σ.setLock w.heap.size L) { w with heap := w.heap.push o } where
  os := rfl
  tape := rfl
  output := rfl
  size := by simp
  lock := fun b o' v hl hc => by
    have hb : b < w.heap.size := by
      unfold World.cell? at hc
      cases hx : w.heap[b]? with
      | none => simp [hx] at hc
      | some x => exact lt_of_some hx
    refine ⟨?_,cell?_push_old _ hc⟩
    simp only [Sig.setLock,if_neg (show ¬ b = w.heap.size by omega)]; exact hl
  all := fun b hb hl => ⟨by simp only [Sig.setLock,if_neg (show ¬ b = w.heap.size by omega)],heap_push_old o hb⟩
  kcells := fun _ l h => ⟨⟨l,h⟩,rfl⟩
  ktok := fun id v h => ⟨v,h,Nat.le_refl _,fun _ => ⟨rfl,fun b hb => by
    have := (hI.tok id v b h hb).1
    exact ⟨by simp only [Sig.setLock,if_neg (show ¬ b = w.heap.size by omega)],heap_push_old o this⟩⟩⟩
  karrs := fun _ v _ c h => ⟨v,c,h,Nat.le_refl _,fun _ => ⟨rfl,rfl,fun b vals T fr _ hh => ⟨vals,by rw [heap_push_old o (lt_of_some hh)]; exact hh,rfl⟩⟩⟩
  kmaps := fun _ l h => ⟨⟨l,h⟩,rfl,fun b e c _ hh => ⟨e,c,by rw [heap_push_old o (lt_of_some hh)]; exact hh,Nat.le_refl _,fun _ _ => rfl⟩⟩
theorem Inv.alloc {st : St} {σ : Sig} {w : World} (hI : Inv st σ w) (o : Obj) (L : Lock) :
    Inv st (σ.setLock w.heap.size L) { w with heap := w.heap.push o } where
  cells := fun id l hl => by
    obtain ⟨b,cs,T,h1,h2,h3,h4,h5⟩ := hI.cells id l hl
    have hb := lt_of_some h2
    exact ⟨b,cs,T,h1,by rw [heap_push_old o hb]; exact h2,h3,fun j hj => (h4 j hj).ext (Ext.alloc hI o L),
      by simp only [Sig.setLock,if_neg (show ¬ b = w.heap.size by omega)]; exact h5⟩
  tok := fun id v b h hb => by
    obtain ⟨h1,h2⟩ := hI.tok id v b h hb
    exact ⟨by simp; omega,by simp only [Sig.setLock,if_neg (show ¬ b = w.heap.size by omega)]; exact h2⟩
  inj := hI.inj
  fresh := fun b hb => by
    simp at hb
    simp only [Sig.setLock,if_neg (show ¬ b = w.heap.size by omega)]
    exact hI.fresh b (by omega)
  arrs := fun id v z cs hc => (hI.arrs id v z cs hc).imp (fun h => h) fun ⟨b,vals,T,h1,h2,h3,h4,h5⟩ => by
    have hb := lt_of_some h2
    exact ⟨b,vals,T,h1,by rw [heap_push_old o hb]; exact h2,h3,fun j hj => (h4 j hj).ext (Ext.alloc hI o L),by simp only [Sig.setLock,if_neg (show ¬ b = w.heap.size by omega)]; exact h5⟩
  maps := fun id l hl => by
    obtain ⟨b,es,c,h1,h2,h3,h4⟩ := hI.maps id l hl
    have hb := lt_of_some h2
    exact ⟨b,es,c,h1,by rw [heap_push_old o hb]; exact h2,h3.ext (Ext.alloc hI o L),by simp only [Sig.setLock,if_neg (show ¬ b = w.heap.size by omega)]; exact h4⟩
  globs := hI.globs_ext (Ext.alloc hI o L) fun _ _ _ h => ⟨h,rfl⟩
theorem lt_of_get {α : Type} {xs : List α} {i : Nat} {x : α} (h : xs[i]? = some x) : i < xs.length := by
  rcases Nat.lt_or_ge i xs.length with g | g
  · exact g
  · rw [List.getElem?_eq_none g] at h; cases h
theorem Ext.newTok {st : St} {σ : Sig} {w : World} (b : Option Nat) : Ext st σ w (st ++ [.tok 0]) (σ.setMu st.length b) w where
  os := rfl
  tape := rfl
  output := rfl
  size := Nat.le_refl _
  lock := fun _ _ _ h k => ⟨h,k⟩
  all := fun _ _ h => ⟨rfl,rfl⟩
  kcells := fun id l h => by
    have hlt : id < st.length := by
      rcases Nat.lt_or_ge id st.length with g | g
      · exact g
      · rw [List.getElem?_eq_none g] at h; cases h
    exact ⟨⟨l,by rw [List.getElem?_append_left hlt]; exact h⟩,by simp only [Sig.setMu,if_neg (show ¬ id = st.length by omega)]⟩
  ktok := fun id v h => by
    have hlt : id < st.length := by
      rcases Nat.lt_or_ge id st.length with g | g
      · exact g
      · rw [List.getElem?_eq_none g] at h; cases h
    exact ⟨v,by rw [List.getElem?_append_left hlt]; exact h,Nat.le_refl _,fun _ => ⟨by simp only [Sig.setMu,if_neg (show ¬ id = st.length by omega)],fun _ _ => ⟨rfl,rfl⟩⟩⟩
  karrs := fun id v z c h => by
    have hlt := lt_of_get h
    exact ⟨v,c,by rw [List.getElem?_append_left hlt]; exact h,Nat.le_refl _,fun _ => ⟨by simp only [Sig.setMu,if_neg (show ¬ id = st.length by omega)],rfl,fun _ vals _ _ _ hh => ⟨vals,hh,rfl⟩⟩⟩
  kmaps := fun id l h => by
    have hlt := lt_of_get h
    exact ⟨⟨l,by rw [List.getElem?_append_left hlt]; exact h⟩,by simp only [Sig.setMu,if_neg (show ¬ id = st.length by omega)],fun b e c _ hh => ⟨e,c,hh,Nat.le_refl _,fun _ _ => rfl⟩⟩
theorem Inv.newTok {st : St} {σ : Sig} {w : World} (hI : Inv st σ w) (b : Option Nat)
    (hb : ∀ c,b = some c → c < w.heap.size ∧ (σ.lock c).still = false ∧ ∀ i,i < st.length → σ.μ i ≠ some c) :
    Inv (st ++ [.tok 0]) (σ.setMu st.length b) w where
  cells := fun id l hl => by
    have hlt : id < st.length := by
      have := lt_of_get hl
      simp at this
      rcases Nat.lt_or_ge id st.length with g | g
      · exact g
      · obtain rfl : id = st.length := by omega
        simp at hl
    rw [List.getElem?_append_left hlt] at hl
    obtain ⟨b,cs,T,h1,h2,h3,h4,h5⟩ := hI.cells id l hl
    exact ⟨b,cs,T,by simp only [Sig.setMu,if_neg (show ¬ id = st.length by omega)]; exact h1,h2,h3,fun j hj => (h4 j hj).ext (Ext.newTok _),h5⟩
  tok := fun id v c h hc => by
    by_cases e : id = st.length
    · subst e
      simp only [Sig.setMu,if_true] at hc
      obtain ⟨h1,h2,_⟩ := hb c hc
      exact ⟨h1,h2⟩
    · have hlt : id < st.length := by have := lt_of_get h; simp at this; omega
      rw [List.getElem?_append_left hlt] at h
      simp only [Sig.setMu,if_neg e] at hc
      exact hI.tok id v c h hc
  inj := fun i j c hi hj h1 h2 => by
    simp at hi hj
    by_cases e : i = st.length <;> by_cases e' : j = st.length
    · omega
    · simp only [Sig.setMu,if_pos e] at h1
      simp only [Sig.setMu,if_neg e'] at h2
      exact absurd h2 ((hb c h1).2.2 j (by omega))
    · simp only [Sig.setMu,if_pos e'] at h2
      simp only [Sig.setMu,if_neg e] at h1
      exact absurd h1 ((hb c h2).2.2 i (by omega))
    · simp only [Sig.setMu,if_neg e] at h1
      simp only [Sig.setMu,if_neg e'] at h2
      exact hI.inj i j c (by omega) (by omega) h1 h2
  fresh := hI.fresh
  arrs := fun id v z cs hc => by
    have hlt : id < st.length := by
      have := lt_of_get hc
      simp at this
      rcases Nat.lt_or_ge id st.length with g | g
      · exact g
      · obtain rfl : id = st.length := by omega
        simp at hc
    rw [List.getElem?_append_left hlt] at hc
    refine (hI.arrs id v z cs hc).imp (fun ⟨h1,h2⟩ => ⟨by simp only [Sig.setMu,if_neg (show ¬ id = st.length by omega)]; exact h1,h2⟩) fun ⟨b,vals,T,h1,h2,h3,h4,h5⟩ => ?_
    exact ⟨b,vals,T,by simp only [Sig.setMu,if_neg (show ¬ id = st.length by omega)]; exact h1,h2,h3,fun j hj => (h4 j hj).ext (Ext.newTok _),h5⟩
  maps := fun id l hl => by
    have hlt : id < st.length := by
      have := lt_of_get hl
      simp at this
      rcases Nat.lt_or_ge id st.length with g | g
      · exact g
      · obtain rfl : id = st.length := by omega
        simp at hl
    rw [List.getElem?_append_left hlt] at hl
    obtain ⟨b,es,c,h1,h2,h3,h4⟩ := hI.maps id l hl
    exact ⟨b,es,c,by simp only [Sig.setMu,if_neg (show ¬ id = st.length by omega)]; exact h1,h2,h3.ext (Ext.newTok _),h4⟩
  globs := hI.globs_ext (Ext.newTok b) (glob_app (fun id hid => by simp only [Sig.setMu,if_neg (show ¬ id = st.length by omega)]) (fun b v h => by cases h))
theorem Inv.mu_lt {st : St} {σ : Sig} {w : World} (hI : Inv st σ w) {i b : Nat} (hi : i < st.length) (h : σ.μ i = some b) : b < w.heap.size := by
  have : ∃ x,st[i]? = some x := ⟨st[i],by simp [hi]⟩
  obtain ⟨x,hx⟩ := this
  cases x with
  | cells l =>
    obtain ⟨c,cs,T,h1,h2,_⟩ := hI.cells i l hx
    rw [h] at h1; cases h1
    exact lt_of_some h2
  | tok v => exact (hI.tok i v b hx h).1
  | map es =>
    obtain ⟨c,en,k,h1,h2,_⟩ := hI.maps i es hx
    rw [h] at h1; cases h1
    exact lt_of_some h2
  | arr v z cs =>
    rcases hI.arrs i v z cs hx with ⟨h1,_⟩ | ⟨c,vals,T,h1,h2,_⟩
    · rw [h] at h1; cases h1
    · rw [h] at h1; cases h1
      exact lt_of_some h2
  | glob c v => rw [(hI.globs i c v hx).1] at h; cases h
theorem set_get {st : St} {id : Nat} {x : Ob} (h : id < st.length) : (st.set id x)[id]? = some x := by simp [h]
theorem set_get_ne {st : St} {id j : Nat} {x : Ob} (h : j ≠ id) : (st.set id x)[j]? = st[j]? := by rw [List.getElem?_set_ne (by omega)]
theorem Ext.tokNew {st : St} {σ : Sig} {w : World} {id ver : Nat} (hid : st[id]? = some (.tok ver)) (b : Option Nat) :
    Ext st σ w (st.set id (.tok (ver + 1))) (σ.setMu id b) w where
  os := rfl
  tape := rfl
  output := rfl
  size := Nat.le_refl _
  lock := fun _ _ _ h k => ⟨h,k⟩
  all := fun _ _ h => ⟨rfl,rfl⟩
  kcells := fun j l h => by
    have hne : j ≠ id := by rintro rfl; rw [hid] at h; cases h
    exact ⟨⟨l,by rw [set_get_ne hne]; exact h⟩,by simp only [Sig.setMu,if_neg hne]⟩
  ktok := fun j v h => by
    by_cases hne : j = id
    · subst hne
      rw [hid] at h; cases h
      exact ⟨ver + 1,set_get (lt_of_get hid),Nat.le_succ _,fun e => by omega⟩
    · exact ⟨v,by rw [set_get_ne hne]; exact h,Nat.le_refl _,fun _ => ⟨by simp only [Sig.setMu,if_neg hne],fun _ _ => ⟨rfl,rfl⟩⟩⟩
  karrs := fun j v z c h => by
    have hne : j ≠ id := by rintro rfl; rw [hid] at h; cases h
    exact ⟨v,c,by rw [set_get_ne hne]; exact h,Nat.le_refl _,fun _ => ⟨by simp only [Sig.setMu,if_neg hne],rfl,fun _ vals _ _ _ hh => ⟨vals,hh,rfl⟩⟩⟩
  kmaps := fun j l h => by
    have hne : j ≠ id := by rintro rfl; rw [hid] at h; cases h
    exact ⟨⟨l,by rw [set_get_ne hne]; exact h⟩,by simp only [Sig.setMu,if_neg hne],fun b e c _ hh => ⟨e,c,hh,Nat.le_refl _,fun _ _ => rfl⟩⟩
theorem Inv.tokNew {st : St} {σ : Sig} {w : World} (hI : Inv st σ w) {id ver : Nat} (hid : st[id]? = some (.tok ver)) (b : Option Nat)
    (hb : ∀ c,b = some c → c < w.heap.size ∧ (σ.lock c).still = false ∧ ∀ i,i < st.length → i ≠ id → σ.μ i ≠ some c) :
    Inv (st.set id (.tok (ver + 1))) (σ.setMu id b) w where
  cells := fun j l hl => by
    have hlt := lt_of_get hid
    have hne : j ≠ id := by rintro rfl; rw [set_get hlt] at hl; cases hl
    rw [set_get_ne hne] at hl
    obtain ⟨b,cs,T,h1,h2,h3,h4,h5⟩ := hI.cells j l hl
    exact ⟨b,cs,T,by simp only [Sig.setMu,if_neg hne]; exact h1,h2,h3,fun k hk => (h4 k hk).ext (Ext.tokNew hid _),h5⟩
  tok := fun j v c h hc => by
    by_cases e : j = id
    · subst e
      simp only [Sig.setMu,if_true] at hc
      obtain ⟨h1,h2,_⟩ := hb c hc
      exact ⟨h1,h2⟩
    · rw [set_get_ne e] at h
      simp only [Sig.setMu,if_neg e] at hc
      exact hI.tok j v c h hc
  inj := fun i j c hi hj h1 h2 => by
    simp at hi hj
    by_cases e : i = id <;> by_cases e' : j = id
    · omega
    · simp only [Sig.setMu,if_pos e] at h1
      simp only [Sig.setMu,if_neg e'] at h2
      exact absurd h2 ((hb c h1).2.2 j (by omega) e')
    · simp only [Sig.setMu,if_pos e'] at h2
      simp only [Sig.setMu,if_neg e] at h1
      exact absurd h1 ((hb c h2).2.2 i (by omega) e)
    · simp only [Sig.setMu,if_neg e] at h1
      simp only [Sig.setMu,if_neg e'] at h2
      exact hI.inj i j c (by omega) (by omega) h1 h2
  fresh := hI.fresh
  arrs := fun j v z cs hc => by
    have hlt := lt_of_get hid
    have hne : j ≠ id := by rintro rfl; rw [set_get hlt] at hc; cases hc
    rw [set_get_ne hne] at hc
    refine (hI.arrs j v z cs hc).imp (fun ⟨h1,h2⟩ => ⟨by simp only [Sig.setMu,if_neg hne]; exact h1,h2⟩) fun ⟨b,vals,T,h1,h2,h3,h4,h5⟩ => ?_
    exact ⟨b,vals,T,by simp only [Sig.setMu,if_neg hne]; exact h1,h2,h3,fun k hk => (h4 k hk).ext (Ext.tokNew hid _),h5⟩
  maps := fun j l hl => by
    have hlt := lt_of_get hid
    have hne : j ≠ id := by rintro rfl; rw [set_get hlt] at hl; cases hl
    rw [set_get_ne hne] at hl
    obtain ⟨b,es,c,h1,h2,h3,h4⟩ := hI.maps j l hl
    exact ⟨b,es,c,by simp only [Sig.setMu,if_neg hne]; exact h1,h2,h3.ext (Ext.tokNew hid _),h4⟩
  globs := hI.globs_ext (Ext.tokNew hid b) (glob_set (fun j hj => by simp only [Sig.setMu,if_neg hj]) (fun b v h => by cases h))
theorem has_mono {n m o : Nat} (h : n ≤ m) (k : (Lock.upto n).has o) : (Lock.upto m).has o := Nat.lt_of_lt_of_le k h
theorem Ext.tokWrite {st : St} {σ : Sig} {w w' : World} {id ver b n n' : Nat} (hI : Inv st σ w) (hid : st[id]? = some (.tok ver)) (hb : σ.μ id = some b)
    (hl : σ.lock b = .upto n) (hn : n ≤ n') (hos : w'.os = w.os) (htape : w'.tape = w.tape) (hout : w'.output = w.output) (hsz : w'.heap.size = w.heap.size)
    (hoth : ∀ c,c ≠ b → w'.heap[c]? = w.heap[c]?) (hold : ∀ o,o < n → w'.cell? ⟨b,o,none⟩ = w.cell? ⟨b,o,none⟩) :
    Ext st σ w (st.set id (.tok (ver + 1))) (σ.setLock b (.upto n')) w' where
  os := hos
  tape := htape
  output := hout
  size := by omega
  lock := fun c o v h k => by
    by_cases e : c = b
    · subst e
      rw [hl] at h
      exact ⟨by simp only [Sig.setLock,if_true]; exact has_mono hn h,by rw [hold o h]; exact k⟩
    · refine ⟨by simp only [Sig.setLock,if_neg e]; exact h,?_⟩
      unfold World.cell? at *
      simp only [hoth c e]; exact k
  all := fun c hc h => by
    have e : c ≠ b := by rintro rfl; rw [hl] at h; cases h
    exact ⟨by simp only [Sig.setLock,if_neg e],hoth c e⟩
  kcells := fun j l h => by
    have hne : j ≠ id := by rintro rfl; rw [hid] at h; cases h
    exact ⟨⟨l,by rw [set_get_ne hne]; exact h⟩,rfl⟩
  ktok := fun j v h => by
    by_cases hne : j = id
    · subst hne
      rw [hid] at h; cases h
      exact ⟨ver + 1,set_get (lt_of_get hid),Nat.le_succ _,fun e => by omega⟩
    · refine ⟨v,by rw [set_get_ne hne]; exact h,Nat.le_refl _,fun _ => ⟨rfl,fun c hc => ?_⟩⟩
      have e : c ≠ b := by rintro rfl; exact hne (hI.inj j id c (lt_of_get h) (lt_of_get hid) hc hb)
      exact ⟨by simp only [Sig.setLock,if_neg e],hoth c e⟩
  karrs := fun j v z x h => by
    have hne : j ≠ id := by rintro rfl; rw [hid] at h; cases h
    refine ⟨v,x,by rw [set_get_ne hne]; exact h,Nat.le_refl _,fun _ => ⟨rfl,rfl,fun c vals T fr hc hh => ⟨vals,?_,rfl⟩⟩⟩
    rw [hoth c (by rintro rfl; exact hne (hI.inj j id c (lt_of_get h) (lt_of_get hid) hc hb))]; exact hh
  kmaps := fun j l h => by
    have hne : j ≠ id := by rintro rfl; rw [hid] at h; cases h
    refine ⟨⟨l,by rw [set_get_ne hne]; exact h⟩,rfl,fun c e cl hc hh => ⟨e,cl,?_,Nat.le_refl _,fun _ _ => rfl⟩⟩
    rw [hoth c (by rintro rfl; exact hne (hI.inj j id c (lt_of_get h) (lt_of_get hid) hc hb))]; exact hh
theorem Inv.tokWrite {st : St} {σ : Sig} {w w' : World} {id ver b n n' : Nat} (hI : Inv st σ w) (hid : st[id]? = some (.tok ver)) (hb : σ.μ id = some b)
    (hl : σ.lock b = .upto n) (hn : n ≤ n') (hos : w'.os = w.os) (htape : w'.tape = w.tape) (hout : w'.output = w.output) (hsz : w'.heap.size = w.heap.size)
    (hoth : ∀ c,c ≠ b → w'.heap[c]? = w.heap[c]?) (hold : ∀ o,o < n → w'.cell? ⟨b,o,none⟩ = w.cell? ⟨b,o,none⟩) :
    Inv (st.set id (.tok (ver + 1))) (σ.setLock b (.upto n')) w' where
  cells := fun j l h => by
    have hlt := lt_of_get hid
    have hne : j ≠ id := by rintro rfl; rw [set_get hlt] at h; cases h
    rw [set_get_ne hne] at h
    obtain ⟨c,cs,T,h1,h2,h3,h4,h5⟩ := hI.cells j l h
    have e : c ≠ b := by rintro rfl; exact hne (hI.inj j id c (lt_of_get h) hlt h1 hb)
    exact ⟨c,cs,T,h1,by rw [hoth c e]; exact h2,h3,fun k hk => (h4 k hk).ext (Ext.tokWrite hI hid hb hl hn hos htape hout hsz hoth hold),
      by simp only [Sig.setLock,if_neg e]; exact h5⟩
  tok := fun j v c h hc => by
    have h' : ∃ v,st[j]? = some (.tok v) := by
      by_cases e : j = id
      · exact ⟨ver,e ▸ hid⟩
      · rw [set_get_ne e] at h; exact ⟨v,h⟩
    obtain ⟨v',h'⟩ := h'
    obtain ⟨h1,h2⟩ := hI.tok j v' c h' hc
    refine ⟨by omega,?_⟩
    simp only [Sig.setLock]
    split
    · rfl
    · exact h2
  inj := fun i j c hi hj h1 h2 => by simp at hi hj; exact hI.inj i j c hi hj h1 h2
  fresh := fun c hc => by
    have := (hI.tok id ver b hid hb).1
    simp only [Sig.setLock,if_neg (show ¬ c = b by omega)]
    exact hI.fresh c (by omega)
  arrs := fun j v z cs h => by
    have hlt := lt_of_get hid
    have hne : j ≠ id := by rintro rfl; rw [set_get hlt] at h; cases h
    rw [set_get_ne hne] at h
    refine (hI.arrs j v z cs h).imp (fun h => h) fun ⟨c,vals,T,h1,h2,h3,h4,h5⟩ => ?_
    have e : c ≠ b := by rintro rfl; exact hne (hI.inj j id c (lt_of_get h) hlt h1 hb)
    exact ⟨c,vals,T,h1,by rw [hoth c e]; exact h2,h3,fun k hk => (h4 k hk).ext (Ext.tokWrite hI hid hb hl hn hos htape hout hsz hoth hold),
      by simp only [Sig.setLock,if_neg e]; exact h5⟩
  maps := fun j l h => by
    have hlt := lt_of_get hid
    have hne : j ≠ id := by rintro rfl; rw [set_get hlt] at h; cases h
    rw [set_get_ne hne] at h
    obtain ⟨c,es,cl,h1,h2,h3,h4⟩ := hI.maps j l h
    have e : c ≠ b := by rintro rfl; exact hne (hI.inj j id c (lt_of_get h) hlt h1 hb)
    exact ⟨c,es,cl,h1,by rw [hoth c e]; exact h2,h3.ext (Ext.tokWrite hI hid hb hl hn hos htape hout hsz hoth hold),
      by simp only [Sig.setLock,if_neg e]; exact h4⟩
  globs := hI.globs_ext (Ext.tokWrite hI hid hb hl hn hos htape hout hsz hoth hold) (glob_set (fun _ _ => rfl) (fun b v h => by cases h))
theorem Ext.newOb {st : St} {σ : Sig} {w : World} (x : Ob) (b : Option Nat) : Ext st σ w (st ++ [x]) (σ.setMu st.length b) w where
  os := rfl
  tape := rfl
  output := rfl
  size := Nat.le_refl _
  lock := fun _ _ _ h k => ⟨h,k⟩
  all := fun _ _ h => ⟨rfl,rfl⟩
  kcells := fun id l h => by
    have hlt := lt_of_get h
    exact ⟨⟨l,by rw [List.getElem?_append_left hlt]; exact h⟩,by simp only [Sig.setMu,if_neg (show ¬ id = st.length by omega)]⟩
  ktok := fun id v h => by
    have hlt := lt_of_get h
    exact ⟨v,by rw [List.getElem?_append_left hlt]; exact h,Nat.le_refl _,fun _ => ⟨by simp only [Sig.setMu,if_neg (show ¬ id = st.length by omega)],fun _ _ => ⟨rfl,rfl⟩⟩⟩
  karrs := fun id v z c h => by
    have hlt := lt_of_get h
    exact ⟨v,c,by rw [List.getElem?_append_left hlt]; exact h,Nat.le_refl _,fun _ => ⟨by simp only [Sig.setMu,if_neg (show ¬ id = st.length by omega)],rfl,fun _ vals _ _ _ hh => ⟨vals,hh,rfl⟩⟩⟩
  kmaps := fun id l h => by
    have hlt := lt_of_get h
    exact ⟨⟨l,by rw [List.getElem?_append_left hlt]; exact h⟩,by simp only [Sig.setMu,if_neg (show ¬ id = st.length by omega)],fun b e c _ hh => ⟨e,c,hh,Nat.le_refl _,fun _ _ => rfl⟩⟩
theorem Inv.newCells {st : St} {σ : Sig} {w : World} (hI : Inv st σ w) {b : Nat} {l : List SV} {cs : Array Value} {T : TypeId}
    (hb : w.heap[b]? = some (.cells cs T (0,0))) (hl : σ.lock b = .upto 0) (hno : ∀ i,i < st.length → σ.μ i ≠ some b) (hsz : cs.size = l.length)
    (hr : ∀ j,j < l.length → Rep st σ w (l.getD j .any) (cs.getD j default)) : Inv (st ++ [.cells l]) (σ.setMu st.length (some b)) w where
  cells := fun id l' hl' => by
    by_cases e : id = st.length
    · subst e
      simp at hl'
      subst hl'
      exact ⟨b,cs,T,by simp only [Sig.setMu,if_true],hb,hsz,fun j hj => (hr j hj).ext (Ext.newOb _ _),hl⟩
    · have hlt : id < st.length := by have := lt_of_get hl'; simp at this; omega
      rw [List.getElem?_append_left hlt] at hl'
      obtain ⟨c,cs,T,h1,h2,h3,h4,h5⟩ := hI.cells id l' hl'
      exact ⟨c,cs,T,by simp only [Sig.setMu,if_neg e]; exact h1,h2,h3,fun j hj => (h4 j hj).ext (Ext.newOb _ _),h5⟩
  tok := fun id v c h hc => by
    by_cases e : id = st.length
    · subst e; simp at h
    · have hlt : id < st.length := by have := lt_of_get h; simp at this; omega
      rw [List.getElem?_append_left hlt] at h
      simp only [Sig.setMu,if_neg e] at hc
      exact hI.tok id v c h hc
  inj := fun i j c hi hj h1 h2 => by
    simp at hi hj
    by_cases e : i = st.length <;> by_cases e' : j = st.length
    · omega
    · simp only [Sig.setMu,if_pos e] at h1
      simp only [Sig.setMu,if_neg e'] at h2
      cases h1
      exact absurd h2 (hno j (by omega))
    · simp only [Sig.setMu,if_pos e'] at h2
      simp only [Sig.setMu,if_neg e] at h1
      cases h2
      exact absurd h1 (hno i (by omega))
    · simp only [Sig.setMu,if_neg e] at h1
      simp only [Sig.setMu,if_neg e'] at h2
      exact hI.inj i j c (by omega) (by omega) h1 h2
  fresh := hI.fresh
  arrs := fun id v z cs' hc => by
    by_cases e : id = st.length
    · subst e; simp at hc
    · have hlt : id < st.length := by have := lt_of_get hc; simp at this; omega
      rw [List.getElem?_append_left hlt] at hc
      refine (hI.arrs id v z cs' hc).imp (fun ⟨h1,h2⟩ => ⟨by simp only [Sig.setMu,if_neg e]; exact h1,h2⟩) fun ⟨c,vals,T,h1,h2,h3,h4,h5⟩ => ?_
      exact ⟨c,vals,T,by simp only [Sig.setMu,if_neg e]; exact h1,h2,h3,fun j hj => (h4 j hj).ext (Ext.newOb _ _),h5⟩
  maps := fun id l' hl' => by
    by_cases e : id = st.length
    · subst e; simp at hl'
    · have hlt : id < st.length := by have := lt_of_get hl'; simp at this; omega
      rw [List.getElem?_append_left hlt] at hl'
      obtain ⟨c,es,cl,h1,h2,h3,h4⟩ := hI.maps id l' hl'
      exact ⟨c,es,cl,by simp only [Sig.setMu,if_neg e]; exact h1,h2,h3.ext (Ext.newOb _ _),h4⟩
  globs := hI.globs_ext (Ext.newOb _ _) (glob_app (fun id hid => by simp only [Sig.setMu,if_neg (show ¬ id = st.length by omega)]) (fun b v h => by cases h))
theorem Ext.write {st : St} {σ : Sig} {w w' : World} {id b : Nat} {l l' : List SV} (hI : Inv st σ w) (hid : st[id]? = some (.cells l)) (hb : σ.μ id = some b)
    (hl : σ.lock b = .upto 0) (hos : w'.os = w.os) (htape : w'.tape = w.tape) (hout : w'.output = w.output) (hsz : w'.heap.size = w.heap.size)
    (hoth : ∀ c,c ≠ b → w'.heap[c]? = w.heap[c]?) : Ext st σ w (st.set id (.cells l')) σ w' where
  os := hos
  tape := htape
  output := hout
  size := by omega
  lock := fun c o v h k => by
    by_cases e : c = b
    · subst e
      rw [hl] at h
      exact absurd h (Nat.not_lt_zero _)
    · refine ⟨h,?_⟩
      unfold World.cell? at *
      simp only [hoth c e]; exact k
  all := fun c hc h => by
    have e : c ≠ b := by rintro rfl; rw [hl] at h; cases h
    exact ⟨rfl,hoth c e⟩
  kcells := fun j x h => by
    by_cases hne : j = id
    · subst hne; exact ⟨⟨l',set_get (lt_of_get hid)⟩,rfl⟩
    · exact ⟨⟨x,by rw [set_get_ne hne]; exact h⟩,rfl⟩
  ktok := fun j v h => by
    have hne : j ≠ id := by rintro rfl; rw [hid] at h; cases h
    refine ⟨v,by rw [set_get_ne hne]; exact h,Nat.le_refl _,fun _ => ⟨rfl,fun c hc => ?_⟩⟩
    have e : c ≠ b := by rintro rfl; exact hne (hI.inj j id c (lt_of_get h) (lt_of_get hid) hc hb)
    exact ⟨rfl,hoth c e⟩
  karrs := fun j v z x h => by
    have hne : j ≠ id := by rintro rfl; rw [hid] at h; cases h
    refine ⟨v,x,by rw [set_get_ne hne]; exact h,Nat.le_refl _,fun _ => ⟨rfl,rfl,fun c vals T fr hc hh => ⟨vals,?_,rfl⟩⟩⟩
    rw [hoth c (by rintro rfl; exact hne (hI.inj j id c (lt_of_get h) (lt_of_get hid) hc hb))]; exact hh
  kmaps := fun j x h => by
    have hne : j ≠ id := by rintro rfl; rw [hid] at h; cases h
    refine ⟨⟨x,by rw [set_get_ne hne]; exact h⟩,rfl,fun c e cl hc hh => ⟨e,cl,?_,Nat.le_refl _,fun _ _ => rfl⟩⟩
    rw [hoth c (by rintro rfl; exact hne (hI.inj j id c (lt_of_get h) (lt_of_get hid) hc hb))]; exact hh
theorem Inv.write {st : St} {σ : Sig} {w w' : World} {id b : Nat} {l l' : List SV} {cs : Array Value} {T : TypeId} (hI : Inv st σ w) (hid : st[id]? = some (.cells l))
    (hb : σ.μ id = some b) (hl : σ.lock b = .upto 0) (hos : w'.os = w.os) (htape : w'.tape = w.tape) (hout : w'.output = w.output) (hsz : w'.heap.size = w.heap.size)
    (hoth : ∀ c,c ≠ b → w'.heap[c]? = w.heap[c]?) (hcs : w'.heap[b]? = some (.cells cs T (0,0))) (hlen : cs.size = l'.length)
    (hr : ∀ j,j < l'.length → Rep st σ w (l'.getD j .any) (cs.getD j default)) : Inv (st.set id (.cells l')) σ w' where
  cells := fun j x h => by
    have k := Ext.write (l' := l') hI hid hb hl hos htape hout hsz hoth
    by_cases hne : j = id
    · subst hne
      rw [set_get (lt_of_get hid)] at h
      cases h
      exact ⟨b,cs,T,hb,hcs,hlen,fun i hi => (hr i hi).ext k,hl⟩
    · rw [set_get_ne hne] at h
      obtain ⟨c,cs',T',h1,h2,h3,h4,h5⟩ := hI.cells j x h
      have e : c ≠ b := by rintro rfl; exact hne (hI.inj j id c (lt_of_get h) (lt_of_get hid) h1 hb)
      exact ⟨c,cs',T',h1,by rw [hoth c e]; exact h2,h3,fun i hi => (h4 i hi).ext k,h5⟩
  tok := fun j v c h hc => by
    have hne : j ≠ id := by rintro rfl; rw [set_get (lt_of_get hid)] at h; cases h
    rw [set_get_ne hne] at h
    obtain ⟨h1,h2⟩ := hI.tok j v c h hc
    exact ⟨by omega,h2⟩
  inj := fun i j c hi hj h1 h2 => by simp at hi hj; exact hI.inj i j c hi hj h1 h2
  fresh := fun c hc => hI.fresh c (by omega)
  arrs := fun j v z x h => by
    have k := Ext.write (l' := l') hI hid hb hl hos htape hout hsz hoth
    have hne : j ≠ id := by rintro rfl; rw [set_get (lt_of_get hid)] at h; cases h
    rw [set_get_ne hne] at h
    refine (hI.arrs j v z x h).imp (fun h => h) fun ⟨c,vals,T',h1,h2,h3,h4,h5⟩ => ?_
    have e : c ≠ b := by rintro rfl; exact hne (hI.inj j id c (lt_of_get h) (lt_of_get hid) h1 hb)
    exact ⟨c,vals,T',h1,by rw [hoth c e]; exact h2,h3,fun i hi => (h4 i hi).ext k,h5⟩
  maps := fun j x h => by
    have k := Ext.write (l' := l') hI hid hb hl hos htape hout hsz hoth
    have hne : j ≠ id := by rintro rfl; rw [set_get (lt_of_get hid)] at h; cases h
    rw [set_get_ne hne] at h
    obtain ⟨c,es,cl,h1,h2,h3,h4⟩ := hI.maps j x h
    have e : c ≠ b := by rintro rfl; exact hne (hI.inj j id c (lt_of_get h) (lt_of_get hid) h1 hb)
    exact ⟨c,es,cl,h1,by rw [hoth c e]; exact h2,h3.ext k,h4⟩
  globs := hI.globs_ext (Ext.write (l' := l') hI hid hb hl hos htape hout hsz hoth) (glob_set (fun _ _ => rfl) (fun b v h => by cases h))
end Go.AL
namespace Go.AL
variable {P : Program}
def svOf1 : Value → SV
  | .slice none 0 0 => .slice .full 0 []
  | .bool b => .sc (.bool b)
  | .int k n => .sc (.int k n)
  | .string s => .sc (.string s)
  | .pointer none => .sc (.pointer none)
  | .nilFunc => .sc .nilFunc
  | v => .sc v
theorem rep_svOf1 {st : St} {σ : Sig} {w : World} (v : Value) : Rep st σ w (svOf1 v) v := by
  unfold svOf1
  split <;> first | exact .nil .full 0 trivial | exact .sc _
def svOf : Value → SV
  | .agg vs => .agg (vs.toList.map svOf1)
  | v => svOf1 v
theorem rep_svOf {st : St} {σ : Sig} {w : World} (v : Value) : Rep st σ w (svOf v) v := by
  unfold svOf
  split
  · rename_i vs
    refine .agg _ vs (by simp) fun i hi => ?_
    simp only [List.length_map,Array.length_toList] at hi
    have : vs.getD i default = vs[i] := by simp [Array.getD,hi]
    simp only [List.getD_eq_getElem?_getD,List.getElem?_map,Array.getElem?_toList,Array.getElem?_eq_getElem hi,Option.map_some,Option.getD_some,this]
    exact rep_svOf1 _
  · exact rep_svOf1 _
def ev (env : List SV) : Operand → SV
  | .tmp t => env.getD t .any
  | .const v => svOf v
  | .global _ => .any
  | .func f => .func (.func f) [] []
theorem rep_ev {st : St} {σ : Sig} {w : World} {env : List SV} {a : Act} (h : RepEnv st σ w env a.tmps) (x : Operand) : Rep st σ w (ev env x) (a.eval x) := by
  cases x with
  | tmp t => exact h.get t
  | const v => exact rep_svOf v
  | global g => exact .any _
  | func f => exact .func _ [] [] #[] #[] rfl rfl (fun i hi => absurd hi (Nat.not_lt_zero _)) (fun i hi => absurd hi (Nat.not_lt_zero _))
def putE (env : List SV) (d : Option Tmp) (x : SV) : List SV :=
  match d with
  | some d => env.set d x
  | none => env
def Post (D : List Deferred) (K : List SV → St → Prop) (st : St) (σ : Sig) (w : World) (a' : Act) (w' : World) : Prop :=
  a'.defers = D ∧ ∃ env' st' σ',K env' st' ∧ Inv st' σ' w' ∧ RepEnv st' σ' w' env' a'.tmps ∧ Ext st σ w st' σ' w'
theorem Post.mono {D : List Deferred} {K K' : List SV → St → Prop} {st : St} {σ : Sig} {w : World} {a : Act} {w' : World} (h : Post D K st σ w a w') (hk : ∀ e s,K e s → K' e s) :
    Post D K' st σ w a w' := by
  obtain ⟨hd,e,s,g,k,r⟩ := h
  exact ⟨hd,e,s,g,hk _ _ k,r⟩
theorem Post.ext {D : List Deferred} {K : List SV → St → Prop} {s0 st : St} {σ0 σ : Sig} {w0 w : World} {a : Act} {w' : World} (h : Post D K st σ w a w') (k : Ext s0 σ0 w0 st σ w) :
    Post D K s0 σ0 w0 a w' := by
  obtain ⟨hd,e,s,g,hk,hI,hR,hX⟩ := h
  exact ⟨hd,e,s,g,hk,hI,hR,k.trans hX⟩
def AWp (P : Program) (c : Code) (Q : Exit → List SV → St → Prop) (env : List SV) (st : St) : Prop :=
  ∀ σ w a,Inv st σ w → RepEnv st σ w env a.tmps → ∀ {D : List Deferred},a.defers = D → c.wp P (fun e a' w' => Post D (Q e) st σ w a' w') a w
theorem AWp.mono {c : Code} {Q Q' : Exit → List SV → St → Prop} {env : List SV} {st : St} (h : AWp P c Q env st) (hq : ∀ e env st,Q e env st → Q' e env st) :
    AWp P c Q' env st := fun σ w a hI hR {_} hd => wp_mono (h σ w a hI hR hd) fun e _ _ hp => hp.mono (hq e)
theorem awp_skip {Q : Exit → List SV → St → Prop} {env : List SV} {st : St} (h : Q .normal env st) : AWp P .skip Q env st :=
  fun σ w a hI hR {_} hd => wp_skip ⟨hd,env,st,σ,h,hI,hR,Ext.refl _ _ _⟩
theorem awp_label {l : Nat} {Q : Exit → List SV → St → Prop} {env : List SV} {st : St} (h : Q .normal env st) : AWp P (.label l) Q env st :=
  fun σ w a hI hR {_} hd => wp_label ⟨hd,env,st,σ,h,hI,hR,Ext.refl _ _ _⟩
theorem awp_exit {id : Nat} {Q : Exit → List SV → St → Prop} {env : List SV} {st : St} (h : Q (.exit id) env st) : AWp P (.exit id) Q env st :=
  fun σ w a hI hR {_} hd => wp_exit ⟨hd,env,st,σ,h,hI,hR,Ext.refl _ _ _⟩
theorem awp_ret {Q : Exit → List SV → St → Prop} {env : List SV} {st : St} (h : Q .ret env st) : AWp P .ret Q env st :=
  fun σ w a hI hR {_} hd => wp_ret ⟨hd,env,st,σ,h,hI,hR,Ext.refl _ _ _⟩
def thenQ (next : List SV → St → Prop) (Q : Exit → List SV → St → Prop) : Exit → List SV → St → Prop
  | .normal => next
  | e => Q e
theorem awp_seq {x y : Code} {Q : Exit → List SV → St → Prop} {env : List SV} {st : St} (h : AWp P x (thenQ (AWp P y Q) Q) env st) : AWp P (.seq x y) Q env st := by
  intro σ w a hI hR D hd
  refine wp_seq (wp_mono (h σ w a hI hR hd) fun e a' w' hp => ?_)
  cases e with
  | normal =>
    obtain ⟨hd',e',s',σ',hk,hI',hR',hX⟩ := hp
    exact wp_mono (hk σ' w' a' hI' hR' hd') fun e a w hp => hp.ext hX
  | _ => exact hp
theorem awp_cond {c : Operand} {x y : Code} {Q : Exit → List SV → St → Prop} {env : List SV} {st : St} {t : Bool} (hc : ev env c = .sc (.bool t))
    (ht : t = true → AWp P x Q env st) (hf : t = false → AWp P y Q env st) : AWp P (.cond c x y) Q env st := by
  intro σ w a hI hR D hd
  have hr := rep_ev hR c
  rw [hc] at hr
  generalize hv : a.eval c = v at hr
  cases hr
  exact wp_cond_split hv (fun e => ht e σ w a hI hR hd) (fun e => hf e σ w a hI hR hd)
def blockQ (id : Nat) (Q : Exit → List SV → St → Prop) : Exit → List SV → St → Prop
  | .exit id' => fun e s => if id' = id then Q .normal e s else Q (.exit id') e s
  | e => Q e
theorem awp_block {id : Nat} {c : Code} {Q : Exit → List SV → St → Prop} {env : List SV} {st : St} (h : AWp P c (blockQ id Q) env st) : AWp P (.block id c) Q env st := by
  intro σ w a hI hR D hd
  refine wp_block (wp_mono (h σ w a hI hR hd) fun e a' w' hp => ?_)
  cases e with
  | exit id' =>
    simp only [Exit.inBlock]
    split
    · rename_i e; simpa only [blockQ,e,if_true] using hp
    · rename_i e; simpa only [blockQ,e,if_false] using hp
  | _ => exact hp
theorem awp_loop {c : Code} {Q : Exit → List SV → St → Prop} (I : Nat → List SV → St → Prop) {env : List SV} {st : St} {n : Nat} (h0 : I n env st)
    (round : ∀ n env st,I n env st → AWp P c (thenQ (fun e s => ∃ m,m < n ∧ I m e s) Q) env st) : AWp P (.loop c) Q env st := by
  intro σ w a hI hR D hd
  let J : Nat → Act → World → Prop := fun m a' w' => a'.defers = D ∧ ∃ env' st' σ',I m env' st' ∧ Inv st' σ' w' ∧ RepEnv st' σ' w' env' a'.tmps ∧ Ext st σ w st' σ' w'
  have key : ∀ m,∀ a' w',J m a' w' → ∀ (b : Frame) (k : List Item) (cs : List Frame),
      ∃ e a2 w2,Post D (Q e) st σ w a2 w2 ∧ Arrives P (lone (b.at a' (.code c :: .inLoop c :: k)) cs w') b k cs e a2 w2 := by
    intro m
    induction m using Nat.strongRecOn with
    | _ m ih =>
      intro a' w' hJ b k cs
      obtain ⟨hd',env',st',σ',hi,hI',hR',hX⟩ := hJ
      obtain ⟨e,a1,w1,hq,harr⟩ := round m env' st' hi σ' w' a' hI' hR' hd' b (.inLoop c :: k) cs
      cases e with
      | normal =>
        obtain ⟨hd1,e1,s1,g1,⟨m1,hlt,hi1⟩,hI1,hR1,hX1⟩ := hq
        obtain ⟨e2,a2,w2,hq2,harr2⟩ := ih m1 hlt a1 w1 ⟨hd1,e1,s1,g1,hi1,hI1,hR1,hX.trans hX1⟩ b k cs
        exact ⟨e2,a2,w2,hq2,.of_steps (Steps.trans harr (.one step_inLoop)) harr2⟩
      | exit id => exact ⟨_,a1,w1,hq.ext hX,.pass (x := .inLoop c) rfl (fun _ _ => .inl (by simp)) harr⟩
      | goto l => exact ⟨_,a1,w1,hq.ext hX,.pass (x := .inLoop c) rfl (fun _ _ => .inl (by simp)) harr⟩
      | ret => exact ⟨_,a1,w1,hq.ext hX,.pass (x := .inLoop c) rfl (fun _ _ => .inl (by simp)) harr⟩
      | panic ch => exact ⟨_,a1,w1,hq.ext hX,.pass (x := .inLoop c) rfl (fun _ _ => .inl (by simp)) harr⟩
      | outgrown => exact ⟨_,a1,w1,hq.ext hX,.pass (x := .inLoop c) rfl (fun _ _ => .inl (by simp)) harr⟩
  intro b k cs
  obtain ⟨e,a',w',hq,harr⟩ := key n a w ⟨hd,env,st,σ,h0,hI,hR,Ext.refl _ _ _⟩ b k cs
  exact ⟨e,a',w',hq,.of_steps (.one step_loop) harr⟩
def OpPost (o : Oper) (K : SV → St → Prop) (st : St) (σ : Sig) (w : World) (a : Act) : Act → World → Prop := fun a' w' =>
  ∃ v x st' σ',a' = a.put o.dst v ∧ K x st' ∧ Inv st' σ' w' ∧ Rep st' σ' w' x v ∧ Ext st σ w st' σ' w'
def AOp (P : Program) (o : Oper) (K : SV → St → Prop) (env : List SV) (st : St) : Prop :=
  ∀ σ w a,Inv st σ w → RepEnv st σ w env a.tmps → o.wp P a w (OpPost o K st σ w a) (fun _ _ _ => False)
theorem upon_mono {o : Oper} {a : Act} {K K' : Act → World → Prop} {Q Q' : Exit → Act → World → Prop} (h : ∀ a w,K a w → K' a w) (hq : ∀ e a w,Q e a w → Q' e a w)
    {r : Result Next} (hh : o.upon P a K Q r) : o.upon P a K' Q' r := by
  cases r with
  | ok n w' =>
    cases n <;> simp only [Oper.upon] at hh ⊢ <;>
      first
        | exact h _ _ hh
        | exact Calls.mono hh (fun e w'' he => by
            cases e with
            | returned v => exact h _ _ he
            | panicked c => exact hq _ _ _ he
            | outgrown => obtain ⟨a,w,he⟩ := he; exact ⟨a,w,hq _ _ _ he⟩)
        | exact Rows.mono hh (fun _ _ he => h _ _ he)
  | halt x w' => cases x <;> simp only [Oper.upon] at hh ⊢ <;> first | exact hq _ _ _ hh | exact hh
theorem AOp.mono {o : Oper} {K K' : SV → St → Prop} {env : List SV} {st : St} (h : AOp P o K env st) (hk : ∀ x s,K x s → K' x s) : AOp P o K' env st :=
  fun σ w a hI hR => upon_mono (fun _ _ ⟨v,x,s,g,e,k,r⟩ => ⟨v,x,s,g,e,hk _ _ k,r⟩) (fun _ _ _ h => h) (h σ w a hI hR)
def AOps (P : Program) (ops : Array Oper) (l : List Nat) (K : List SV → St → Prop) (env : List SV) (st : St) : Prop :=
  ∀ σ w a,Inv st σ w → RepEnv st σ w env a.tmps → ∀ {D : List Deferred},a.defers = D → wpOps P ops (fun e a' w' => e = .normal ∧ Post D K st σ w a' w') l a w
theorem aops_nil {ops : Array Oper} {K : List SV → St → Prop} {env : List SV} {st : St} (h : K env st) : AOps P ops [] K env st :=
  fun σ w a hI hR {_} hd => ⟨rfl,hd,env,st,σ,h,hI,hR,Ext.refl _ _ _⟩
theorem wpOps_mono {ops : Array Oper} {Q Q' : Exit → Act → World → Prop} (h : ∀ e a w,Q e a w → Q' e a w) : ∀ (l : List Nat) (a : Act) (w : World),
    wpOps P ops Q l a w → wpOps P ops Q' l a w
  | [],a,w,hh => h _ _ _ hh
  | i :: r,a,w,hh => by
    simp only [wpOps] at hh ⊢
    cases ho : ops[i]? with
    | none => simp only [ho] at hh ⊢; exact wpOps_mono h r _ _ hh
    | some o =>
      simp only [ho] at hh ⊢
      split
      · rename_i hw
        rw [if_pos hw] at hh
        rcases hh with hh | ⟨h1,a',w',h2⟩
        · exact .inl (upon_mono (fun a w => wpOps_mono h r a w) h hh)
        · exact .inr ⟨h1,a',w',h _ _ _ h2⟩
      · rename_i hw
        rw [if_neg hw] at hh
        exact wpOps_mono h r _ _ hh
theorem rep_put {st : St} {σ : Sig} {w : World} {env : List SV} {a : Act} (h : RepEnv st σ w env a.tmps) (d : Option Tmp) {x : SV} {v : Value} (hx : Rep st σ w x v) :
    RepEnv st σ w (putE env d x) (a.put d v).tmps := by
  cases d with
  | none => exact h
  | some d => exact h.set d hx
theorem put_defers (a : Act) (d : Option Tmp) (v : Value) : (a.put d v).defers = a.defers := by cases d <;> rfl
theorem aops_cons {ops : Array Oper} {i : Nat} {r : List Nat} {K : List SV → St → Prop} {env : List SV} {st : St} {o : Oper} (ho : ops[i]? = some o) (hg : o.guard = none)
    (h : AOp P o (fun x s => AOps P ops r K (putE env o.dst x) s) env st) : AOps P ops (i :: r) K env st := by
  intro σ w a hI hR D hd
  simp only [wpOps,ho,Region.wanted,hg,if_true]
  refine .inl (upon_mono ?_ (fun _ _ _ h => h.elim) (h σ w a hI hR))
  rintro a' w' ⟨v,x,s,g,rfl,k,hI',hr,hX⟩
  refine wpOps_mono (fun e a w hp => ⟨hp.1,hp.2.ext hX⟩) r _ _ (k g w' _ hI' (rep_put (hR.ext hX) _ hr) ?_)
  rw [put_defers]; exact hd
theorem awp_region {id : Nat} {ops : Array Oper} {Q : Exit → List SV → St → Prop} {env : List SV} {st : St} (h : AOps P ops (List.range ops.size) (Q .normal) env st) :
    AWp P (.region id ops false) Q env st := fun σ w a hI hR {_} hd => wp_region (wpOps_mono (fun e a w hp => by obtain ⟨rfl,hp⟩ := hp; exact hp) _ _ _ (h σ w a hI hR hd))
def RepArgs (st : St) (σ : Sig) (w : World) (args : List SV) (vs : Array Value) : Prop :=
  vs.size = args.length ∧ ∀ i,i < args.length → Rep st σ w (args.getD i .any) (vs.getD i undef)
def ACalls (P : Program) (f : FuncId) (args : List SV) (K : SV → St → Prop) (st : St) : Prop :=
  ∀ σ w vs,Inv st σ w → RepArgs st σ w args vs → Calls P f vs w fun e w' =>
    ∃ v x st' σ',e = .returned v ∧ K x st' ∧ Inv st' σ' w' ∧ Rep st' σ' w' x v ∧ Ext st σ w st' σ' w'
theorem ACalls.mono {f : FuncId} {args : List SV} {K K' : SV → St → Prop} {st : St} (h : ACalls P f args K st) (hk : ∀ x s,K x s → K' x s) : ACalls P f args K' st :=
  fun σ w vs hI hR => (h σ w vs hI hR).mono fun _ _ ⟨v,x,s,g,e,k,r⟩ => ⟨v,x,s,g,e,hk _ _ k,r⟩
end Go.AL
namespace Go.AL
variable {P : Program}
theorem aop_value {o : Oper} {K : SV → St → Prop} {env : List SV} {st : St}
    (h : ∀ σ w (a : Act),Inv st σ w → RepEnv st σ w env a.tmps → ∃ v w' x st' σ',(execOp a.eval o).run P w = .ok (.value v) w' ∧ K x st' ∧ Inv st' σ' w' ∧
      Rep st' σ' w' x v ∧ Ext st σ w st' σ' w') : AOp P o K env st := by
  intro σ w a hI hR
  obtain ⟨v,w',x,st',σ',hrun,hk,hI',hr,hX⟩ := h σ w a hI hR
  unfold Oper.wp
  rw [hrun]
  exact ⟨v,x,st',σ',rfl,hk,hI',hr,hX⟩
theorem aop_pure {o : Oper} {K : SV → St → Prop} {env : List SV} {st : St} (x : SV)
    (h : ∀ σ w (a : Act),Inv st σ w → RepEnv st σ w env a.tmps → ∃ v,(execOp a.eval o).run P w = .ok (.value v) w ∧ Rep st σ w x v) (hk : K x st) : AOp P o K env st :=
  aop_value fun σ w a hI hR => by
    obtain ⟨v,hrun,hr⟩ := h σ w a hI hR
    exact ⟨v,w,x,st,σ,hrun,hk,hI,hr,Ext.refl _ _ _⟩
def aSize (P : Program) (t : TypeId) : Option Nat := (P.info? t).map (·.size)
def aBytes (P : Program) (t : TypeId) : Option Nat := (P.info? t).map (·.bytes)
def aAgg (P : Program) (t : TypeId) : Option Bool := (P.underlying t).map fun | .struct _ | .array _ _ => true | _ => false
def aElem (P : Program) (t : TypeId) : Option TypeId := (P.underlying t).bind fun | .slice e => some e | _ => none
def aField (P : Program) (t : TypeId) (f : Nat) : Option (Nat × Nat) := (P.underlying t).bind fun
  | .struct fs => (fs[f]?).bind fun g => (aSize P g.type).map fun s => (g.offset,s)
  | _ => none
def aZero (P : Program) (t : TypeId) : Option (List SV) := ((P.info? t).bind (·.zero)).map fun v => v.cells.toList.map svOf
def aIsStr (P : Program) (t : TypeId) : Bool := match P.underlying t with | some .string => true | _ => false
theorem run_typeInfo' {t : TypeId} {i : TypeInfo} (h : P.info? t = some i) (w : World) : (typeInfo t).run P w = .ok i w := by simp [typeInfo,h]
theorem run_sizeOf' {t : TypeId} {n : Nat} (h : aSize P t = some n) (w : World) : (sizeOf t).run P w = .ok n w := by
  unfold aSize at h
  cases hi : P.info? t with
  | none => simp [hi] at h
  | some i => simp [hi] at h; simp [sizeOf,run_typeInfo' hi,h]
theorem run_isAgg' {t : TypeId} {b : Bool} (h : aAgg P t = some b) (w : World) : (isAgg t).run P w = .ok b w := by
  unfold aAgg at h
  cases hi : P.underlying t with
  | none => simp [hi] at h
  | some d =>
    simp [hi] at h
    subst h
    simp only [isAgg,Sem.run_bind,run_underlying hi,Result.andThen_ok]
    cases d <;> rfl
theorem und_slice {t e : TypeId} (h : aElem P t = some e) : P.underlying t = some (.slice e) := by
  unfold aElem at h
  cases hi : P.underlying t with
  | none => simp [hi] at h
  | some d =>
    rw [hi] at h
    cases d <;> simp at h
    rw [h]
def APure (P : Program) (o : Oper) (ρ : Operand → SV) (st : St) (x : SV) : Prop :=
  ∀ σ w (a : Act),Inv st σ w → (∀ y,y ∈ o.op.operands → Rep st σ w (ρ y) (a.eval y)) → ∃ v,(execOp a.eval o).run P w = .ok (.value v) w ∧ Rep st σ w x v
theorem aop_of_pure {o : Oper} {K : SV → St → Prop} {env : List SV} {st : St} {x : SV} (h : APure P o (ev env) st x) (hk : K x st) : AOp P o K env st :=
  aop_pure x (fun σ w a hI hR => h σ w a hI fun y _ => rep_ev hR y) hk
theorem ap_move {o : Oper} {x : Operand} {ρ : Operand → SV} {st : St} (ho : o.op = .move x) : APure P o ρ st ((ρ x)) :=
  (fun σ w a hI hR => ⟨a.eval x,by simp [execOp,ho],hR x (by simp [ho,Op.operands])⟩)
theorem ap_assign {o : Oper} {x : Operand} {ρ : Operand → SV} {st : St} (ho : o.op = .assign x) : APure P o ρ st ((ρ x)) :=
  (fun σ w a hI hR => ⟨a.eval x,by simp [execOp,ho],hR x (by simp [ho,Op.operands])⟩)
theorem rep_sc {st : St} {σ : Sig} {w : World} {x v : Value} (h : Rep st σ w (.sc x) v) : v = x := by cases h; rfl
theorem ap_extract {o : Oper} {x : Operand} {i : Nat} {l : List SV} {ρ : Operand → SV} {st : St} (ho : o.op = .extract x i) (hx : ρ x = .tuple l)
    (hi : i < l.length) : APure P o ρ st ((l.getD i .any)) :=
  (fun σ w a hI hR => by
    have hr := hR x (by simp [ho,Op.operands])
    rw [hx] at hr
    generalize hv : a.eval x = v at hr
    cases hr with
    | tuple l vs h r =>
      have hlt : i < vs.size := by omega
      refine ⟨vs[i],by simp [execOp,ho,hv,Instr.extract,hlt],?_⟩
      have := r i hi
      simpa [Array.getD,hlt] using this)
def binInt (op : BinOp) (k : IntKind) (a b : Int) : Option Value :=
  match op with
  | .add => some (.int k (k.wrap (a + b)))
  | .sub => some (.int k (k.wrap (a - b)))
  | .mul => some (.int k (k.wrap (a * b)))
  | .quo => if b = 0 then none else some (.int k (k.wrap (a.tdiv b)))
  | .rem => if b = 0 then none else some (.int k (a.tmod b))
  | .eql => some (.bool (a == b))
  | .neq => some (.bool (a != b))
  | .lss => some (.bool (decide (a < b)))
  | .leq => some (.bool (decide (a ≤ b)))
  | .gtr => some (.bool (decide (b < a)))
  | .geq => some (.bool (decide (b ≤ a)))
  | .and => some (.int k (k.wrap ((BitVec.ofInt k.bits a &&& BitVec.ofInt k.bits b).toNat : Int)))
  | .or => some (.int k (k.wrap ((BitVec.ofInt k.bits a ||| BitVec.ofInt k.bits b).toNat : Int)))
  | .xor => some (.int k (k.wrap ((BitVec.ofInt k.bits a ^^^ BitVec.ofInt k.bits b).toNat : Int)))
  | .andNot => some (.int k (k.wrap ((BitVec.ofInt k.bits a &&& ~~~BitVec.ofInt k.bits b).toNat : Int)))
  | .shl => if b < 0 then none else some (.int k (k.wrap (a * 2 ^ min b.toNat k.bits)))
  | .shr => if b < 0 then none else some (.int k (a.fdiv (2 ^ min b.toNat k.bits)))
def binStr (op : BinOp) (a b : ByteArray) : Option Value :=
  match op with
  | .eql => some (.bool (a.toList == b.toList))
  | .neq => some (.bool !(a.toList == b.toList))
  | .add => if a.size + b.size ≤ 9223372036854775807 then some (.string (a ++ b)) else none
  | _ => none
theorem ap_binInt {o : Oper} {op : BinOp} {t u : TypeId} {x y : Operand} {k : IntKind} {m n : Int} {r : Value} {ρ : Operand → SV} {st : St}
    (ho : o.op = .binOp op t x y u) (hx : ρ x = .sc (.int k m)) (hy : ρ y = .sc (.int k n)) (hr : binInt op k m n = some r) : APure P o ρ st ((.sc r)) :=
  (fun σ w a hI hR => by
    have h1 := hR x (by simp [ho,Op.operands])
    have h2 := hR y (by simp [ho,Op.operands])
    rw [hx] at h1
    rw [hy] at h2
    have e1 := rep_sc h1
    have e2 := rep_sc h2
    refine ⟨r,?_,.sc r⟩
    cases op <;> simp [binInt] at hr <;> (try subst hr) <;>
      first
        | (simp [execOp,ho,e1,e2,eqGuard,binOp,Op.intArith,Op.intCmp,Op.intBits]; done)
        | (obtain ⟨h0,hr⟩ := hr; subst hr; simp [execOp,ho,e1,e2,eqGuard,binOp,Op.intDiv,Op.shift,h0]; done)
        | (obtain ⟨h0,hr⟩ := hr; subst hr; simp [execOp,ho,e1,e2,eqGuard,binOp,Op.shift,Int.not_lt.2 h0]; done))
theorem ap_binStr {o : Oper} {op : BinOp} {t u : TypeId} {x y : Operand} {m n : ByteArray} {r : Value} {ρ : Operand → SV} {st : St}
    (ho : o.op = .binOp op t x y u) (hx : ρ x = .sc (.string m)) (hy : ρ y = .sc (.string n)) (hr : binStr op m n = some r) : APure P o ρ st ((.sc r)) :=
  (fun σ w a hI hR => by
    have h1 := hR x (by simp [ho,Op.operands])
    have h2 := hR y (by simp [ho,Op.operands])
    rw [hx] at h1
    rw [hy] at h2
    have e1 := rep_sc h1
    have e2 := rep_sc h2
    refine ⟨r,?_,.sc r⟩
    cases op <;> simp [binStr] at hr <;> (try subst hr) <;>
      first
        | (simp [execOp,ho,e1,e2,eqGuard,binOp,Op.stringOp]; done)
        | (obtain ⟨h0,hr⟩ := hr; subst hr; simp [execOp,ho,e1,e2,eqGuard,binOp,Op.stringOp,IntKind.max,IntKind.signed,IntKind.bits]; omega))
theorem ap_not {o : Oper} {t : TypeId} {x : Operand} {m : Bool} {ρ : Operand → SV} {st : St}
    (ho : o.op = .unOp .not t x) (hx : ρ x = .sc (.bool m)) : APure P o ρ st ((.sc (.bool (!m)))) :=
  (fun σ w a hI hR => by
    have h1 := hR x (by simp [ho,Op.operands])
    rw [hx] at h1
    have e1 := rep_sc h1
    exact ⟨_,by simp [execOp,ho,e1,Op.unary],.sc _⟩)
theorem ap_neg {o : Oper} {t : TypeId} {x : Operand} {k : IntKind} {m : Int} {ρ : Operand → SV} {st : St}
    (ho : o.op = .unOp .neg t x) (hx : ρ x = .sc (.int k m)) : APure P o ρ st ((.sc (.int k (k.wrap (0 - m))))) :=
  (fun σ w a hI hR => by
    have h1 := hR x (by simp [ho,Op.operands])
    rw [hx] at h1
    have e1 := rep_sc h1
    exact ⟨_,by simp [execOp,ho,e1,Op.unary,Op.intArith],.sc _⟩)
theorem ap_makeFunc {o : Oper} {fn : Fn} {first captured : Array Operand} {ρ : Operand → SV} {st : St}
    (ho : o.op = .makeFunc fn first captured) : APure P o ρ st ((.func fn (first.toList.map (ρ)) (captured.toList.map (ρ)))) :=
  (fun σ w a hI hR => by
    refine ⟨.func fn (first.map a.eval) (captured.map a.eval),by simp [execOp,ho,Instr.makeFunc],.func _ _ _ _ _ (by simp) (by simp) (fun i hi => ?_) (fun i hi => ?_)⟩
    · have hi' : i < first.size := by simpa using hi
      have := hR first[i] (by simp [ho,Op.operands])
      simpa [Array.getD,hi',List.getD_eq_getElem?_getD] using this
    · have hi' : i < captured.size := by simpa using hi
      have := hR captured[i] (by simp [ho,Op.operands])
      simpa [Array.getD,hi',List.getD_eq_getElem?_getD] using this)
theorem addr_add (b o j : Nat) : (⟨b,o,none⟩ : Addr).add j = ⟨b,o + j,none⟩ := by unfold Addr.add; split <;> simp_all
theorem rep_list {st : St} {σ : Sig} {w : World} (l : List SV) (vals : Nat → Value) (n : Nat) (hn : n ≤ l.length) (h : ∀ j,j < n → Rep st σ w (l.getD j .any) (vals j)) :
    Rep st σ w (.agg (l.take n)) (.agg ((List.range n).map vals).toArray) := by
  refine .agg _ _ (by simp; omega) fun i hi => ?_
  have hi' : i < n := by simp at hi; omega
  have := h i hi'
  have e1 : (l.take n).getD i .any = l.getD i .any := by simp [List.getD_eq_getElem?_getD,hi']
  rw [e1]
  simpa [Array.getD,hi'] using this
def cellsOf (P : Program) (t : TypeId) (l : List SV) : Option SV :=
  match aAgg P t,aSize P t with
  | some true,some n => if n ≤ l.length then some (.agg (l.take n)) else none
  | some false,_ => if 0 < l.length then some (l.getD 0 .any) else none
  | _,_ => none
theorem run_loadVar_cells {st : St} {σ : Sig} {w : World} {t : TypeId} {l : List SV} {x : SV} (b o : Nat) (vals : Nat → Value) (h : cellsOf P t l = some x)
    (hc : ∀ j,j < l.length → w.cell? ⟨b,o + j,none⟩ = some (vals j)) (hr : ∀ j,j < l.length → Rep st σ w (l.getD j .any) (vals j)) :
    ∃ v,(loadVar t ⟨b,o,none⟩).run P w = .ok v w ∧ Rep st σ w x v := by
  unfold cellsOf at h
  split at h
  · rename_i n h1 h2
    split at h
    · rename_i hle
      injection h with h; subst h
      refine ⟨_,?_,rep_list l vals n hle fun j hj => hr j (by omega)⟩
      have := run_loadCells (P := P) (w := w) ⟨b,o,none⟩ n vals (fun j hj => by rw [addr_add]; exact hc j (by omega))
      simp [loadVar,run_isAgg' h1,run_sizeOf' h2,this]
    · cases h
  · rename_i h1
    split at h
    · rename_i hlt
      injection h with h; subst h
      have := hc 0 hlt
      simp only [Nat.add_zero] at this
      exact ⟨vals 0,by simp [loadVar,run_isAgg' h1,this],hr 0 hlt⟩
    · cases h
  · cases h
theorem ap_load_ref {o : Oper} {t : TypeId} {x : Operand} {l : List SV} {y : SV} {ρ : Operand → SV} {st : St}
    (ho : o.op = .load t x) (hx : ρ x = .ref l) (hy : cellsOf P t l = some y) : APure P o ρ st (y) :=
  (fun σ w a hI hR => by
    have hr := hR x (by simp [ho,Op.operands])
    rw [hx] at hr
    generalize hv : a.eval x = v at hr
    cases hr with
    | ref cells b o vals hc hr =>
      obtain ⟨v,h1,h2⟩ := run_loadVar_cells b o vals hy (fun j hj => (hc j hj).1) hr
      exact ⟨v,by simp [execOp,ho,hv,Instr.loadAt,Instr.sureAddr,h1],h2⟩)
theorem ap_load_ptr {o : Oper} {t : TypeId} {x : Operand} {id off : Nat} {l : List SV} {y : SV} {ρ : Operand → SV} {st : St}
    (ho : o.op = .load t x) (hx : ρ x = .ptr id off) (hl : st[id]? = some (.cells l)) (hy : cellsOf P t (l.drop off) = some y) : APure P o ρ st (y) :=
  (fun σ w a hI hR => by
    have hr := hR x (by simp [ho,Op.operands])
    rw [hx] at hr
    generalize hv : a.eval x = v at hr
    cases hr with
    | ptr id off b hkk hb =>
      obtain ⟨b',cs,T,h1,h2,h3,h4,h5⟩ := hI.cells id l hl
      rw [h1] at hb; cases hb
      obtain ⟨v,h6,h7⟩ := run_loadVar_cells (st := st) (σ := σ) (w := w) b off (fun j => cs.getD (off + j) default) hy (fun j hj => by
        simp at hj
        have : off + j < cs.size := by omega
        simp [World.cell?,h2,Array.getD,this]) (fun j hj => by
        simp at hj
        have := h4 (off + j) (by omega)
        simpa [List.getD_eq_getElem?_getD] using this)
      exact ⟨v,by simp [execOp,ho,hv,Instr.loadAt,Instr.sureAddr,h6],h7⟩)
theorem und_field {t : TypeId} {f off size : Nat} (h : aField P t f = some (off,size)) : ∃ fs g,P.underlying t = some (.struct fs) ∧ fs[f]? = some g ∧ g.offset = off ∧ aSize P g.type = some size := by
  unfold aField at h
  cases hi : P.underlying t with
  | none => simp [hi] at h
  | some d =>
    rw [hi] at h
    cases d with
    | struct fs =>
      simp only [Option.bind_some] at h
      cases hg : fs[f]? with
      | none => simp [hg] at h
      | some g =>
        rw [hg] at h
        simp only [Option.bind_some] at h
        cases hs : aSize P g.type with
        | none => simp [hs] at h
        | some s =>
          rw [hs] at h
          simp at h
          exact ⟨fs,g,rfl,hg,h.1,by rw [hs,h.2]⟩
    | _ => simp at h
theorem run_fieldAt' {t : TypeId} {f off size : Nat} (h : aField P t f = some (off,size)) (h0 : size ≠ 0) (b o : Nat) (w : World) :
    (Instr.fieldAt t (.pointer (some ⟨b,o,none⟩)) f).run P w = .ok (.pointer (some ⟨b,o + off,none⟩)) w := by
  obtain ⟨fs,g,h1,h2,h3,h4⟩ := und_field h
  subst h3
  simp [Instr.fieldAt,run_underlying h1,h2,Instr.sureAddr,fieldPlace,run_sizeOf' h4,h0,addr_add]
def aFieldT (P : Program) (t : TypeId) (f : Nat) : Option (Nat × TypeId) := match P.underlying t with
  | some (.struct fs) => (fs[f]?).map fun g => (g.offset,g.type)
  | _ => none
theorem ap_field {o : Oper} {t u : TypeId} {f off : Nat} {x : Operand} {l : List SV} {ρ : Operand → SV} {st : St}
    (ho : o.op = .field t x f) (hx : ρ x = .agg l) (hf : aFieldT P t f = some (off,u)) (hu : aAgg P u = some false) (hlt : off < l.length) : APure P o ρ st (l.getD off .any) :=
  (fun σ w a hI hR => by
    have hr := hR x (by simp [ho,Op.operands])
    rw [hx] at hr
    generalize hv : a.eval x = v at hr
    unfold aFieldT at hf
    cases hi : P.underlying t with
    | none => simp [hi] at hf
    | some d =>
      rw [hi] at hf
      cases d with
      | struct fs =>
        simp only at hf
        cases hg : fs[f]? with
        | none => simp [hg] at hf
        | some g =>
          rw [hg] at hf
          simp only [Option.map_some,Option.some.injEq,Prod.mk.injEq] at hf
          obtain ⟨h1,h2⟩ := hf
          subst h1; subst h2
          cases hr with
          | agg l vs h r =>
            have hl2 : g.offset < vs.size := by omega
            refine ⟨vs[g.offset],by simp [execOp,ho,hv,Instr.field,run_underlying hi,hg,asAgg,part,run_isAgg' hu,hl2],?_⟩
            have := r g.offset hlt
            simpa [Array.getD,hl2] using this
      | _ => simp at hf)
theorem rep_ref_drop {st : St} {σ : Sig} {w : World} {l : List SV} {b o : Nat} {vals : Nat → Value} (d n : Nat)
    (hc : ∀ j,j < l.length → w.cell? ⟨b,o + j,none⟩ = some (vals j) ∧ (σ.lock b).has (o + j)) (hr : ∀ j,j < l.length → Rep st σ w (l.getD j .any) (vals j)) :
    Rep st σ w (.ref ((l.drop d).take n)) (.pointer (some ⟨b,o + d,none⟩)) := by
  refine .ref _ b (o + d) (fun j => vals (d + j)) (fun j hj => ?_) (fun j hj => ?_)
  · have hlt : d + j < l.length := by simp at hj; omega
    have := hc (d + j) hlt
    rw [← Nat.add_assoc] at this
    exact this
  · have hlt : d + j < l.length := by simp at hj; omega
    have hn : j < n := by simp at hj; omega
    have := hr (d + j) hlt
    simpa [List.getD_eq_getElem?_getD,hn] using this
theorem ap_fieldAddr_ref {o : Oper} {t : TypeId} {f off size : Nat} {x : Operand} {l : List SV} {ρ : Operand → SV} {st : St}
    (ho : o.op = .fieldAddr t x f) (hx : ρ x = .ref l) (hf : aField P t f = some (off,size)) (h0 : size ≠ 0) : APure P o ρ st ((.ref ((l.drop off).take size))) :=
  (fun σ w a hI hR => by
    have hr := hR x (by simp [ho,Op.operands])
    rw [hx] at hr
    generalize hv : a.eval x = v at hr
    cases hr with
    | ref cells b o vals hc hr => exact ⟨_,by simp [execOp,ho,hv,run_fieldAt' hf h0],rep_ref_drop off size hc hr⟩)
theorem ap_fieldAddr_ptr {o : Oper} {t : TypeId} {f off size : Nat} {x : Operand} {id i : Nat} {ρ : Operand → SV} {st : St}
    (ho : o.op = .fieldAddr t x f) (hx : ρ x = .ptr id i) (hf : aField P t f = some (off,size)) (h0 : size ≠ 0) : APure P o ρ st ((.ptr id (i + off))) :=
  (fun σ w a hI hR => by
    have hr := hR x (by simp [ho,Op.operands])
    rw [hx] at hr
    generalize hv : a.eval x = v at hr
    cases hr with
    | ptr id i b hkk hb => exact ⟨_,by simp [execOp,ho,hv,run_fieldAt' hf h0],.ptr id (i + off) b hkk hb⟩)
theorem ap_indexAddr {o : Oper} {t e : TypeId} {z : Nat} {m : Mode} {x y : Operand} {k : IntKind} {i : Int} {l : List SV} {ρ : Operand → SV} {st : St}
    (ho : o.op = .indexAddr t x y) (hx : ρ x = .slice m z l) (hy : ρ y = .sc (.int k i)) (he : aElem P t = some e) (hz : aSize P e = some z)
    (h0 : 0 ≤ i) (hi : i < l.length) : APure P o ρ st ((.ref (l.getD i.toNat .any).cells)) :=
  (fun σ w a hI hR => by
    have hr := hR x (by simp [ho,Op.operands])
    rw [hx] at hr
    have e2 := rep_sc (by have := hR y (by simp [ho,Op.operands]); rw [hy] at this; exact this)
    generalize hv : a.eval x = v at hr
    have hlt : i.toNat < l.length := by omega
    cases hr with
    | nil m z hm => simp at hlt
    | slice m z l ad cap vals hcap hsp hzz hc hr hm =>
      have hsp' := hsp (by rintro rfl; simp at hlt)
      obtain ⟨b,o',sp⟩ := ad
      simp only at hsp' hc
      subst hsp'
      refine ⟨.pointer (some ⟨b,o' + i.toNat * z,none⟩),?_,.ref _ b (o' + i.toNat * z) (vals i.toNat) (fun j hj => ?_) (fun j hj => ?_)⟩
      · simp [execOp,ho,hv,e2,Instr.indexAt,asIntOf,run_underlying (und_slice he),h0,hi,run_sizeOf' hz,addr_add]
      · rw [hzz i.toNat hlt] at hj
        exact hc i.toNat j hlt hj
      · rw [hzz i.toNat hlt] at hj
        exact hr i.toNat j hlt hj)
theorem ap_len_slice {o : Oper} {t : TypeId} {e : TypeId} {z : Nat} {m : Mode} {x : Operand} {l : List SV} {ρ : Operand → SV} {st : St}
    (ho : o.op = .call { callee := .builtin .len,args := #[x],argTypes := #[t] }) (hx : ρ x = .slice m z l) (he : aElem P t = some e)
    : APure P o ρ st ((.sc (.int .i64 l.length))) :=
  (fun σ w a hI hR => by
    have hr := hR x (by simp [ho,Op.operands,Call.operands])
    rw [hx] at hr
    generalize hv : a.eval x = v at hr
    cases hr with
    | nil m z hm => exact ⟨.int .i64 0,by simp [execOp,ho,resolve,invoke,builtin,hv,Builtin.len_,run_underlying (und_slice he),goInt],.sc _⟩
    | slice m z l ad cap vals hcap hsp hzz hc hr hm =>
      exact ⟨.int .i64 l.length,by simp [execOp,ho,resolve,invoke,builtin,hv,Builtin.len_,run_underlying (und_slice he),goInt],.sc _⟩)
theorem ap_len_str {o : Oper} {t : TypeId} {x : Operand} {s : ByteArray} {ρ : Operand → SV} {st : St}
    (ho : o.op = .call { callee := .builtin .len,args := #[x],argTypes := #[t] }) (hx : ρ x = .sc (.string s)) (he : P.underlying t = some .string)
    : APure P o ρ st ((.sc (.int .i64 s.size))) :=
  (fun σ w a hI hR => by
    have e := rep_sc (by have := hR x (by simp [ho,Op.operands,Call.operands]); rw [hx] at this; exact this)
    exact ⟨_,by simp [execOp,ho,resolve,invoke,builtin,e,Builtin.len_,run_underlying he,goInt],.sc _⟩)
def bound (ρ : Operand → SV) (x : Option Operand) (d : Nat) : Option Int :=
  match x with
  | none => some d
  | some y => match ρ y with
    | .sc (.int _ n) => some n
    | _ => none
theorem run_sliceBound {k : IntKind} {n : Int} {y : Nat} {code : BoundsCode} (h0 : 0 ≤ n) (h1 : n ≤ y) (w : World) :
    (Instr.sliceBound (.int k n) y code).run P w = .ok n.toNat w := by simp [Instr.sliceBound,asIntOf,h0,h1]
theorem getD_sub (l : List SV) (lo hi i : Nat) (h : i < hi - lo) : ((l.take hi).drop lo).getD i .any = l.getD (lo + i) .any := by
  simp only [List.getD_eq_getElem?_getD,List.getElem?_drop,List.getElem?_take]
  rw [if_pos (by omega)]
theorem len_sub (l : List SV) (lo hi : Nat) (h2 : hi ≤ l.length) : ((l.take hi).drop lo).length = hi - lo := by simp; omega
theorem rep_sub {st : St} {σ : Sig} {w : World} {m : Mode} {z : Nat} {l : List SV} {a : Option Addr} {len cap : Nat} (h : Rep st σ w (.slice m z l) (.slice a len cap)) (lo hi c : Nat)
    (h1 : lo ≤ hi) (h2 : hi ≤ l.length) (hc : hi ≤ c) (hcc : c ≤ cap) (m' : Mode) (hm' : m' = .imm ∨ (m' = .full ∧ c = hi)) :
    Rep st σ w (.slice m' z ((l.take hi).drop lo)) (.slice (if c = lo then a else a.map (·.add (lo * z))) (hi - lo) (c - lo)) := by
  have hmode : ∀ ad : Addr,ModeOk st σ w z ad (hi - lo) (c - lo) m' := by
    intro ad
    rcases hm' with rfl | ⟨rfl,e⟩
    · trivial
    · subst e; rfl
  have hnil : ModeNil st m' := by rcases hm' with rfl | ⟨rfl,_⟩ <;> trivial
  cases h with
  | nil m z hm =>
    simp at h2
    subst h2
    obtain rfl : lo = 0 := by omega
    obtain rfl : c = 0 := by omega
    simpa using Rep.nil m' z hnil
  | slice m z l ad cap vals hcap hsp hzz hcel hr hm =>
    have hl := len_sub l lo hi h2
    by_cases e : c = lo
    · have e2 : (l.take hi).drop lo = [] := List.eq_nil_of_length_eq_zero (by omega)
      rw [if_pos e,e2]
      have : hi - lo = ([] : List SV).length := by simp; omega
      rw [this]
      refine .slice m' z [] ad (c - lo) (fun _ _ => default) (by simp) (fun h => absurd rfl h) (fun i hi => absurd hi (Nat.not_lt_zero _)) (fun i j hi => absurd hi (Nat.not_lt_zero _))
        (fun i j hi => absurd hi (Nat.not_lt_zero _)) ?_
      have hh := hmode ad
      rw [this] at hh
      exact hh
    · rw [if_neg e]
      simp only [Option.map_some]
      have hl' : hi - lo = ((l.take hi).drop lo).length := hl.symm
      have hspot : (ad.add (lo * z)) = ⟨ad.block,ad.off + lo * z,(ad.add (lo * z)).spot⟩ ∧ (ad.spot = none → (ad.add (lo * z)).spot = none) := by
        unfold Addr.add
        split
        · rename_i h0; simp [h0]
        · simp
      have hmd := hmode (ad.add (lo * z))
      rw [hl'] at hmd ⊢
      refine .slice m' z _ (ad.add (lo * z)) (c - lo) (fun i j => vals (lo + i) j) (by omega) (fun hne => hspot.2 (hsp (by rintro rfl; simp at hne))) (fun i hi => ?_) (fun i j hi hj => ?_)
        (fun i j hi hj => ?_) hmd
      · rw [getD_sub _ _ _ _ (by omega)]; exact hzz _ (by omega)
      · rw [hspot.1]
        have := hcel (lo + i) j (by omega) hj
        rw [Nat.add_mul,← Nat.add_assoc] at this
        exact this
      · rw [getD_sub _ _ _ _ (by omega)]; exact hr _ _ (by omega) hj
theorem rep_slice_form {st : St} {σ : Sig} {w : World} {m : Mode} {z : Nat} {l : List SV} {v : Value} (h : Rep st σ w (.slice m z l) v) :
    ∃ a cap,v = .slice a l.length cap ∧ l.length ≤ cap := by
  cases h with
  | nil m z hm => exact ⟨none,0,rfl,Nat.le_refl _⟩
  | slice m z l ad cap vals hcap hsp hzz hcc hr hm => exact ⟨some ad,cap,rfl,hcap⟩
theorem ap_slice {o : Oper} {t e : TypeId} {z : Nat} {m : Mode} {x : Operand} {lo hi : Option Operand} {nl nh : Int} {l : List SV} {ρ : Operand → SV} {st : St}
    (ho : o.op = .slice t x lo hi none) (hx : ρ x = .slice m z l) (he : aElem P t = some e) (hz : aSize P e = some z)
    (hl : bound ρ lo 0 = some nl) (hh : bound ρ hi l.length = some nh) (h0 : 0 ≤ nl) (h1 : nl ≤ nh) (h2 : nh ≤ l.length)
    : APure P o ρ st ((.slice .imm z ((l.take nh.toNat).drop nl.toNat))) :=
  (fun σ w a hI hR => by
    have hr := hR x (by simp [ho,Op.operands])
    rw [hx] at hr
    generalize hv : a.eval x = v at hr
    obtain ⟨ad,cap,rfl,hcap⟩ := rep_slice_form hr
    have hsub := rep_sub hr nl.toNat nh.toNat cap (by omega) (by omega) (by omega) (Nat.le_refl _) .imm (.inl rfl)
    refine ⟨_,?_,hsub⟩
    have el : ∀ (h : Nat) (c : BoundsCode),nl ≤ h → (match lo.map a.eval with | some v => Instr.sliceBound v h c | none => pure 0).run P w = .ok nl.toNat w := by
      intro h c hle
      cases lo with
      | none => simp [bound] at hl; subst hl; rfl
      | some y =>
        simp only [bound] at hl
        split at hl
        · rename_i k n hy
          injection hl with hl; subst hl
          have e := rep_sc (by have := hR y (by simp [ho,Op.operands]); rw [hy] at this; exact this)
          simp only [Option.map_some,e]
          exact run_sliceBound h0 hle w
        · cases hl
    have eh : (match hi.map a.eval with | some v => Instr.sliceBound v cap .sliceAcap | none => pure l.length).run P w = .ok nh.toNat w := by
      cases hi with
      | none => simp [bound] at hh; subst hh; simp
      | some y =>
        simp only [bound] at hh
        split at hh
        · rename_i k n hy
          injection hh with hh; subst hh
          have e := rep_sc (by have := hR y (by simp [ho,Op.operands]); rw [hy] at this; exact this)
          simp only [Option.map_some,e]
          exact run_sliceBound (by omega) (by omega) w
        · cases hh
    have hb : (Instr.sliceBounds true l.length cap (lo.map a.eval) (hi.map a.eval) none).run P w = .ok (nl.toNat,nh.toNat,cap) w := by
      have el' := el nh.toNat .sliceB (by omega)
      cases lo <;> cases hi <;> simp [Instr.sliceBounds] at el' eh ⊢ <;> simp [el',eh]
    simp [execOp,ho,hv,Instr.sliceAt,Instr.slice,run_underlying (und_slice he),hb,run_sizeOf' hz])
theorem run_bound {st : St} {σ : Sig} {w : World} {ρ : Operand → SV} {a : Act} {y : Operand} (hR : Rep st σ w (ρ y) (a.eval y)) {n : Int} (h : bound ρ (some y) 0 = some n) (h0 : 0 ≤ n) (c : Nat)
    (hc : n ≤ c) (code : BoundsCode) : (Instr.sliceBound (a.eval y) c code).run P w = .ok n.toNat w := by
  simp only [bound] at h
  split at h
  · rename_i k n' hy
    injection h with h; subst h
    have e := rep_sc (by rw [hy] at hR; exact hR)
    rw [e]
    exact run_sliceBound h0 hc w
  · cases h
theorem ap_slice3 {o : Oper} {t e : TypeId} {z : Nat} {m : Mode} {x : Operand} {lo : Option Operand} {hi mx : Operand} {nl nh : Int} {l : List SV} {ρ : Operand → SV} {st : St}
    (ho : o.op = .slice t x lo (some hi) (some mx)) (hx : ρ x = .slice m z l) (he : aElem P t = some e) (hz : aSize P e = some z)
    (hl : bound ρ lo 0 = some nl) (hh : bound ρ (some hi) 0 = some nh) (hm : bound ρ (some mx) 0 = some nh) (h0 : 0 ≤ nl) (h1 : nl ≤ nh) (h2 : nh ≤ l.length)
    : APure P o ρ st ((.slice .full z ((l.take nh.toNat).drop nl.toNat))) :=
  (fun σ w a hI hR => by
    have hr := hR x (by simp [ho,Op.operands])
    rw [hx] at hr
    generalize hv : a.eval x = v at hr
    obtain ⟨ad,cap,rfl,hcap⟩ := rep_slice_form hr
    have hsub := rep_sub hr nl.toNat nh.toNat nh.toNat (by omega) (by omega) (Nat.le_refl _) (by omega) .full (.inr ⟨rfl,rfl⟩)
    refine ⟨_,?_,hsub⟩
    have em := run_bound (P := P) (hR mx (by simp [ho,Op.operands])) hm (by omega) cap (by omega) .slice3Acap
    have eh := run_bound (P := P) (hR hi (by simp [ho,Op.operands])) hh (by omega) nh.toNat (by omega) .slice3B
    have hb : (Instr.sliceBounds true l.length cap (lo.map a.eval) (some (a.eval hi)) (some (a.eval mx))).run P w = .ok (nl.toNat,nh.toNat,nh.toNat) w := by
      cases lo with
      | none => simp [bound] at hl; subst hl; simp [Instr.sliceBounds,em,eh]
      | some y =>
        have el := run_bound (P := P) (hR y (by simp [ho,Op.operands])) (y := y) (n := nl) (by simpa [bound] using hl) h0 nh.toNat (by omega) .slice3C
        simp [Instr.sliceBounds,em,eh,el]
    simp [execOp,ho,hv,Instr.sliceAt,Instr.slice,run_underlying (und_slice he),hb,run_sizeOf' hz])
theorem ap_slice_str {o : Oper} {t : TypeId} {x : Operand} {lo hi : Option Operand} {nl nh : Int} {s : ByteArray} {ρ : Operand → SV} {st : St}
    (ho : o.op = .slice t x lo hi none) (hx : ρ x = .sc (.string s)) (he : P.underlying t = some .string)
    (hl : bound ρ lo 0 = some nl) (hh : bound ρ hi s.size = some nh) (h0 : 0 ≤ nl) (h1 : nl ≤ nh) (h2 : nh ≤ s.size)
    : APure P o ρ st ((.sc (.string (s.extract nl.toNat nh.toNat)))) :=
  (fun σ w a hI hR => by
    have hv := rep_sc (by have := hR x (by simp [ho,Op.operands]); rw [hx] at this; exact this)
    refine ⟨_,?_,.sc _⟩
    have eh : (match hi.map a.eval with | some v => Instr.sliceBound v s.size .sliceAlen | none => pure s.size).run P w = .ok nh.toNat w := by
      cases hi with
      | none => simp [bound] at hh; subst hh; simp
      | some y => exact run_bound (P := P) (hR y (by simp [ho,Op.operands])) (y := y) (n := nh) (by simpa [bound] using hh) (by omega) _ h2 _
    have hb : (Instr.sliceBounds false s.size s.size (lo.map a.eval) (hi.map a.eval) none).run P w = .ok (nl.toNat,nh.toNat,s.size) w := by
      cases lo with
      | none => simp [bound] at hl; subst hl; cases hi <;> simp [Instr.sliceBounds] at eh ⊢ <;> simp [eh]
      | some y =>
        have el := run_bound (P := P) (hR y (by simp [ho,Op.operands])) (y := y) (n := nl) (by simpa [bound] using hl) h0 nh.toNat (by omega) .sliceB
        cases hi <;> simp [Instr.sliceBounds] at eh ⊢ <;> simp [eh,el]
    simp [execOp,ho,hv,Instr.sliceAt,Instr.slice,run_underlying he,hb])
def shapeOk : SV → Bool
  | .sc v => v.oneCell'
  | .any => false
  | .tuple _ => false
  | .gd _ _ => false
  | .stamp _ _ => false
  | _ => true
def RepL (st : St) (σ : Sig) (w : World) (l : List SV) (vs : Array Value) : Prop :=
  vs.size = l.length ∧ ∀ i,i < l.length → Rep st σ w (l.getD i .any) (vs.getD i default)
theorem rep_cells {st : St} {σ : Sig} {w : World} {x : SV} {v : Value} (hs : shapeOk x = true) (h : Rep st σ w x v) : RepL st σ w x.cells v.cells := by
  have one : ∀ (x : SV) (v : Value),x.cells = [x] → v.cells = #[v] → Rep st σ w x v → RepL st σ w x.cells v.cells := by
    intro x v h1 h2 h
    rw [h1,h2]
    refine ⟨rfl,fun i hi => ?_⟩
    obtain rfl : i = 0 := by simp at hi; exact hi
    exact h
  cases h with
  | any v => cases hs
  | sc v => refine one _ _ rfl ?_ (.sc v); cases v <;> first | rfl | cases hs
  | nil m z hm => exact one _ _ rfl rfl (.nil m z hm)
  | slice m z l a cap vals hcap hsp hz hc hr hm => exact one _ _ rfl rfl (.slice m z l a cap vals hcap hsp hz hc hr hm)
  | ref cells b o vals hc hr => exact one _ _ rfl rfl (.ref cells b o vals hc hr)
  | ptr id off b hk hb => exact one _ _ rfl rfl (.ptr id off b hk hb)
  | func fn first captured vf vc h1 h2 r1 r2 => exact one _ _ rfl rfl (.func fn first captured vf vc h1 h2 r1 r2)
  | agg l vs h r => exact ⟨h,r⟩
  | tuple l vs h r => cases hs
  | gd g x v h h' => cases hs
  | slc id z off len cap b hk hb hc => exact one _ _ rfl rfl (.slc id z off len cap b hk hb hc)
  | mp id b hk hb => exact one _ _ rfl rfl (.mp id b hk hb)
  | stamp id j b ents clock hk hb hh hj => cases hs
  | arr id ver n v0 z cs v ho hk hv h => refine one _ _ rfl ?_ (.arr id ver n v0 z cs v ho hk hv h); cases v <;> first | rfl | cases ho
  | aptr id ver off v0 z cs v ho hk hv h => refine one _ _ rfl ?_ (.aptr id ver off v0 z cs v ho hk hv h); cases v <;> first | rfl | cases ho
theorem cell?_push_new (w : World) (cs : Array Value) (T : TypeId) (fr : Nat × Nat) (j : Nat) :
    World.cell? { w with heap := w.heap.push (.cells cs T fr) } ⟨w.heap.size,j,none⟩ = cs[j]? := by
  simp [World.cell?]
theorem has_all (σ : Sig) (b j : Nat) : ((σ.setLock b .all).lock b).has j := by simp only [Sig.setLock,if_true]; trivial
theorem getD_some {cs : Array Value} {j : Nat} (h : j < cs.size) : cs[j]? = some (cs.getD j default) := by simp [Array.getD,h]
theorem aop_box {o : Oper} {t : TypeId} {x : Operand} {K : SV → St → Prop} {env : List SV} {st : St} (ho : o.op = .box t x) (hs : shapeOk (ev env x) = true)
    (hk : K (.ref (ev env x).cells) st) : AOp P o K env st :=
  aop_value fun σ w a hI hR => by
    have hr := rep_cells hs (rep_ev hR x)
    have hX := Ext.alloc hI (.cells (a.eval x).cells t) .all
    refine ⟨.pointer (some ⟨w.heap.size,0,none⟩),_,_,st,σ.setLock w.heap.size .all,by simp [execOp,ho,Instr.box,newVar,newRow],hk,hI.alloc _ .all,?_,hX⟩
    refine .ref _ w.heap.size 0 (fun j => (a.eval x).cells.getD j default) (fun j hj => ⟨?_,has_all _ _ _⟩) (fun j hj => (hr.2 j hj).ext hX)
    rw [Nat.zero_add,cell?_push_new]
    exact getD_some (by rw [hr.1]; exact hj)
theorem new_ob {st : St} {σ : Sig} {w : World} (hI : Inv st σ w) (l : List SV) (cs : Array Value) (t : TypeId) (hr : RepL st σ w l cs) :
    ∃ σ',Inv (st ++ [.cells l]) σ' { w with heap := w.heap.push (.cells cs t) } ∧ Ext st σ w (st ++ [.cells l]) σ' { w with heap := w.heap.push (.cells cs t) } ∧
      Rep (st ++ [.cells l]) σ' { w with heap := w.heap.push (.cells cs t) } (.ptr st.length 0) (.pointer (some ⟨w.heap.size,0,none⟩)) := by
  have hX := Ext.alloc hI (.cells cs t) (.upto 0)
  have hI1 := hI.alloc (.cells cs t) (.upto 0)
  have hX2 : Ext st (σ.setLock w.heap.size (.upto 0)) { w with heap := w.heap.push (.cells cs t) } (st ++ [.cells l]) ((σ.setLock w.heap.size (.upto 0)).setMu st.length (some w.heap.size)) { w with heap := w.heap.push (.cells cs t) } := Ext.newOb _ _
  refine ⟨_,Inv.newCells hI1 (by simp; rfl) (by simp [Sig.setLock]) (fun i hi h => ?_) hr.1 (fun j hj => (hr.2 j hj).ext hX),hX.trans hX2,?_⟩
  · have := hI.mu_lt hi h
    omega
  · exact .ptr _ _ _ ⟨l,by simp⟩ (by simp [Sig.setMu])
theorem aop_box_ob {o : Oper} {t : TypeId} {x : Operand} {K : SV → St → Prop} {env : List SV} {st : St} (ho : o.op = .box t x) (hs : shapeOk (ev env x) = true)
    (hk : K (.ptr st.length 0) (st ++ [.cells (ev env x).cells])) : AOp P o K env st :=
  aop_value fun σ w a hI hR => by
    obtain ⟨σ',h1,h2,h3⟩ := new_ob hI _ _ t (rep_cells hs (rep_ev hR x))
    exact ⟨_,_,_,_,σ',by simp [execOp,ho,Instr.box,newVar,newRow],hk,h1,h3,h2⟩
theorem zero_of {t : TypeId} {zs : List SV} (h : aZero P t = some zs) : ∃ i v,P.info? t = some i ∧ i.zero = some v ∧ zs = v.cells.toList.map svOf := by
  unfold aZero at h
  cases hi : P.info? t with
  | none => simp [hi] at h
  | some i =>
    cases hz : i.zero with
    | none => simp [hi,hz] at h
    | some v => simp [hi,hz] at h; exact ⟨i,v,rfl,hz,h.symm⟩
theorem run_zero' {t : TypeId} {i : TypeInfo} {v : Value} (hi : P.info? t = some i) (hz : i.zero = some v) (w : World) : (zeroValue t).run P w = .ok v w := by
  simp [zeroValue,run_typeInfo' hi,hz]
theorem repL_svOf {st : St} {σ : Sig} {w : World} (vs : Array Value) : RepL st σ w (vs.toList.map svOf) vs := by
  refine ⟨by simp,fun i hi => ?_⟩
  have hi' : i < vs.size := by simpa using hi
  have := rep_svOf (st := st) (σ := σ) (w := w) vs[i]
  simpa [Array.getD,hi',List.getD_eq_getElem?_getD] using this
theorem aop_alloc {o : Oper} {t : TypeId} {zs : List SV} {K : SV → St → Prop} {env : List SV} {st : St} (ho : o.op = .alloc t) (hz : aZero P t = some zs)
    (hk : K (.ptr st.length 0) (st ++ [.cells zs])) : AOp P o K env st :=
  aop_value fun σ w a hI hR => by
    obtain ⟨i,v,h1,h2,rfl⟩ := zero_of hz
    obtain ⟨σ',h3,h4,h5⟩ := new_ob hI _ _ t (repL_svOf v.cells)
    exact ⟨_,_,_,_,σ',by simp [execOp,ho,Instr.alloc,run_zero' h1 h2,newVar,newRow],hk,h3,h5,h4⟩
end Go.AL
namespace Go.AL
variable {P : Program}
def splice (l : List SV) (off : Nat) (xs : List SV) : List SV := l.take off ++ xs ++ l.drop (off + xs.length)
theorem fold_list (off : Nat) : ∀ (vs : List Value) (k : Nat) (cs : Array Value),off + k + vs.length ≤ cs.size →
    ((vs.zipIdx k).foldl (fun cs (x : Value × Nat) => cs.setIfInBounds (off + x.2) x.1) cs).size = cs.size ∧
    ∀ i,((vs.zipIdx k).foldl (fun cs (x : Value × Nat) => cs.setIfInBounds (off + x.2) x.1) cs)[i]? = if off + k ≤ i ∧ i < off + k + vs.length then vs[i - (off + k)]? else cs[i]?
  | [],k,cs,h => by simp; intro i h1 h2; omega
  | v :: r,k,cs,h => by
    simp only [List.zipIdx_cons,List.foldl_cons,List.length_cons] at h ⊢
    obtain ⟨h1,h2⟩ := fold_list off r (k + 1) (cs.setIfInBounds (off + k) v) (by simp; omega)
    refine ⟨by rw [h1]; simp,fun i => ?_⟩
    rw [h2]
    by_cases c1 : i = off + k
    · subst c1
      rw [if_neg (by omega),if_pos (by omega)]
      simp [show off + k < cs.size by omega]
    · by_cases c2 : off + (k + 1) ≤ i ∧ i < off + (k + 1) + r.length
      · rw [if_pos c2,if_pos (by omega)]
        rw [show i - (off + k) = (i - (off + (k + 1))) + 1 by omega,List.getElem?_cons_succ]
      · rw [if_neg c2,if_neg (by omega),Array.getElem?_setIfInBounds_ne (by omega)]
theorem getD_splice (l : List SV) (off : Nat) (xs : List SV) (h : off + xs.length ≤ l.length) (i : Nat) :
    (splice l off xs).getD i .any = if off ≤ i ∧ i < off + xs.length then xs.getD (i - off) .any else l.getD i .any := by
  simp only [splice,List.getD_eq_getElem?_getD,List.append_assoc]
  by_cases h1 : i < off
  · rw [if_neg (by omega),List.getElem?_append_left (by simp; omega),List.getElem?_take,if_pos h1]
  · rw [List.getElem?_append_right (by simp; omega)]
    simp only [List.length_take,Nat.min_eq_left (show off ≤ l.length by omega)]
    by_cases h2 : i < off + xs.length
    · rw [if_pos (by omega),List.getElem?_append_left (by omega)]
    · rw [if_neg (by omega),List.getElem?_append_right (by omega),List.getElem?_drop]
      congr 2
      omega
theorem length_splice (l : List SV) (off : Nat) (xs : List SV) (h : off + xs.length ≤ l.length) : (splice l off xs).length = l.length := by
  simp [splice]; omega
theorem repL_splice {st : St} {σ : Sig} {w : World} {l xs : List SV} {cs vs : Array Value} (off : Nat) (h1 : RepL st σ w l cs) (h2 : RepL st σ w xs vs) (h : off + xs.length ≤ l.length) :
    RepL st σ w (splice l off xs) (vs.zipIdx.foldl (fun cs (x : Value × Nat) => cs.setIfInBounds (off + x.2) x.1) cs) := by
  have key := fold_list off vs.toList 0 cs (by simp [h1.1,h2.1]; omega)
  have e : vs.zipIdx.foldl (fun cs (x : Value × Nat) => cs.setIfInBounds (off + x.2) x.1) cs = (vs.toList.zipIdx 0).foldl (fun cs (x : Value × Nat) => cs.setIfInBounds (off + x.2) x.1) cs := by
    rw [← Array.foldl_toList]; simp
  rw [e]
  obtain ⟨k1,k2⟩ := key
  refine ⟨by rw [k1,length_splice _ _ _ h]; exact h1.1,fun i hi => ?_⟩
  rw [length_splice _ _ _ h] at hi
  rw [getD_splice _ _ _ h]
  have k3 := k2 i
  simp only [Nat.add_zero,Array.length_toList,h2.1] at k3
  rw [Array.getD_eq_getD_getElem?,k3]
  split
  · rename_i hc
    rw [Array.getElem?_toList,← Array.getD_eq_getD_getElem?]
    exact h2.2 _ (by omega)
  · rw [← Array.getD_eq_getD_getElem?]
    exact h1.2 _ hi
def aFill (place : Nat → Option (Nat × Nat)) (cells : List SV) : List (Nat × SV) → Option (List SV)
  | [] => some cells
  | (i,x) :: r => match place i with
    | none => none
    | some (off,size) => if shapeOk x = true ∧ x.cells.length = size ∧ off + x.cells.length ≤ cells.length then aFill place (splice cells off x.cells) r else none
theorem fill_of {st : St} {σ : Sig} {w : World} {place : Nat → Option (Nat × Nat)} : ∀ (xs : List (Nat × SV)) (vs : List (Nat × Value)) (l : List SV) (cs : Array Value) (l' : List SV),
    RepL st σ w l cs → xs.length = vs.length → (∀ (i : Nat) (x : Nat × SV) (v : Nat × Value),xs[i]? = some x → vs[i]? = some v → x.1 = v.1 ∧ Rep st σ w x.2 v.2) → aFill place l xs = some l' →
    ∃ cs',Instr.fill place cs vs = some cs' ∧ RepL st σ w l' cs'
  | [],vs,l,cs,l',h,hn,hr,hf => by
    cases vs with
    | nil => injection hf with hf; subst hf; exact ⟨cs,rfl,h⟩
    | cons v r => simp at hn
  | (i,x) :: xs,vs,l,cs,l',h,hn,hr,hf => by
    cases vs with
    | nil => simp at hn
    | cons v r =>
      obtain ⟨i',v⟩ := v
      obtain ⟨e,hrep⟩ := hr 0 _ _ rfl rfl
      simp only at e hrep
      subst e
      simp only [aFill] at hf
      split at hf
      · cases hf
      · rename_i off size hp
        split at hf
        · rename_i hc
          obtain ⟨c1,c2,c3⟩ := hc
          have hv := rep_cells c1 hrep
          obtain ⟨cs',k1,k2⟩ := fill_of xs r _ _ l' (repL_splice off h hv c3) (by simpa using hn) (fun j a b ha hb => hr (j + 1) a b ha hb) hf
          refine ⟨cs',?_,k2⟩
          simp only [Instr.fill,hp]
          have e1 := hv.1
          have e2 := h.1
          rw [if_neg (by
            simp only [Bool.or_eq_true,decide_eq_true_eq]
            rintro (h' | h')
            · exact h' (e1.trans c2)
            · omega)]
          exact k1
        · cases hf
def aPart (P : Program) (t : TypeId) (f : Nat) : Option (Nat × Nat) := match aField P t f with
  | some p => some p
  | none => match P.underlying t with
    | some (.array _ e) => (aSize P e).map fun s => (f * s,s)
    | _ => none
def aBuild (P : Program) (t : TypeId) (parts : List (Nat × SV)) : Option (List SV) :=
  (aZero P t).bind fun z => aFill (aPart P t) z parts
theorem mapM_places {fs : Array Field} (w : World) (h : ∀ g ∈ fs,(aSize P g.type).isSome = true) :
    (fs.mapM fun f => (Prod.mk f.offset <$> sizeOf f.type : Sem (Nat × Nat))).run P w = .ok (fs.map fun g => (g.offset,(aSize P g.type).getD 0)) w := by
  have key : ∀ l : List Field,(∀ g ∈ l,(aSize P g.type).isSome = true) → (l.mapM fun f => (Prod.mk f.offset <$> sizeOf f.type : Sem (Nat × Nat))).run P w = .ok (l.map fun g => (g.offset,(aSize P g.type).getD 0)) w := by
    intro l
    induction l with
    | nil => intro _; simp
    | cons g r ih =>
      intro hh
      have h1 := hh g (by simp)
      obtain ⟨n,hn⟩ := Option.isSome_iff_exists.1 h1
      simp [List.mapM_cons,run_sizeOf' hn,ih (fun x hx => hh x (by simp [hx])),hn]
  have := key fs.toList (fun g hg => h g (by simpa using hg))
  rw [Array.mapM_eq_mapM_toList]
  simp only [Sem.run_map,this,Result.andThen_ok]
  congr 1
  apply Array.ext'
  simp
def aFieldsOk (P : Program) (t : TypeId) : Bool := match P.underlying t with
  | some (.struct fs) => fs.all fun g => (aSize P g.type).isSome
  | some (.array _ e) => (aSize P e).isSome
  | _ => false
theorem aField_eq {t : TypeId} {fs : Array Field} (h : P.underlying t = some (.struct fs)) (ho : aFieldsOk P t = true) (i : Nat) :
    aField P t i = (fs.map fun g => (g.offset,(aSize P g.type).getD 0))[i]? := by
  simp only [aField,h,Option.bind_some,Array.getElem?_map]
  cases hg : fs[i]? with
  | none => rfl
  | some g =>
    simp only [aFieldsOk,h,Array.all_eq_true'] at ho
    have := ho g (Array.mem_of_getElem? hg)
    obtain ⟨n,hn⟩ := Option.isSome_iff_exists.1 this
    simp [hn]
theorem aop_build {o : Oper} {t : TypeId} {parts : Array (Nat × Operand)} {l : List SV} {K : SV → St → Prop} {env : List SV} {st : St} (ho : o.op = .build t parts)
    (hf : aFieldsOk P t = true) (hl : aBuild P t (parts.toList.map fun p => (p.1,ev env p.2)) = some l) (hk : K (.agg l) st) : AOp P o K env st :=
  aop_pure _ (fun σ w a hI hR => by
    unfold aBuild at hl
    cases hz : aZero P t with
    | none => simp [hz] at hl
    | some z =>
      simp only [hz,Option.bind_some] at hl
      obtain ⟨i,v,h1,h2,rfl⟩ := zero_of hz
      have hu : (∃ fs,P.underlying t = some (.struct fs)) ∨ ∃ n e s,P.underlying t = some (.array n e) ∧ aSize P e = some s := by
        unfold aFieldsOk at hf
        split at hf
        · exact .inl ⟨_,by assumption⟩
        · obtain ⟨s,hs⟩ := Option.isSome_iff_exists.1 hf
          exact .inr ⟨_,_,s,by assumption,hs⟩
        · cases hf
      have fill : ∀ pl,aFill pl (v.cells.toList.map svOf) (parts.toList.map fun p => (p.1,ev env p.2)) = some l → ∃ cs',Instr.fill pl v.cells ((parts.map fun p => (p.1,a.eval p.2)).toList) = some cs' ∧ RepL st σ w l cs' := fun pl hl =>
        fill_of (place := pl) (st := st) (σ := σ) (w := w) _ ((parts.map fun p => (p.1,a.eval p.2)).toList) _ v.cells l (repL_svOf _) (by simp) (fun j x y hx hy => by
          simp only [List.getElem?_map,Array.toList_map] at hx hy
          cases hp : parts.toList[j]? with
          | none => simp [hp] at hx
          | some p =>
            simp [hp] at hx hy
            subst hx; subst hy
            exact ⟨rfl,rep_ev hR _⟩) hl
      rcases hu with ⟨fs,hu⟩ | ⟨n,e,sz,hu,hsz⟩
      rotate_left
      · have hpl : aPart P t = fun i => some (i * sz,sz) := funext fun i => by simp [aPart,aField,hu,hsz]
        rw [hpl] at hl
        obtain ⟨cs',k1,k2⟩ := fill _ hl
        refine ⟨.agg cs',?_,.agg _ _ k2.1 k2.2⟩
        simp [execOp,ho,Instr.build,run_zero' h1 h2,run_underlying hu,run_sizeOf' hsz]
        simp at k1
        simp [k1]
      have hpl : aPart P t = ((fs.map fun g => (g.offset,(aSize P g.type).getD 0))[·]?) := funext fun i => by
        show aPart P t i = _
        rw [← aField_eq hu hf i]
        unfold aPart
        split
        · rename_i hp; exact hp.symm
        · rename_i hp; rw [hu]; exact hp.symm
      rw [hpl] at hl
      obtain ⟨cs',k1,k2⟩ := fill _ hl
      have hall : ∀ g ∈ fs,(aSize P g.type).isSome = true := by
        simp only [aFieldsOk,hu,Array.all_eq_true'] at hf
        exact hf
      refine ⟨.agg cs',?_,.agg _ _ k2.1 k2.2⟩
      have hm := mapM_places (P := P) w hall
      simp [execOp,ho,Instr.build,run_zero' h1 h2,run_underlying hu]
      rw [hm]
      simp at k1
      simp [k1]) hk
theorem fill_range {z : Nat} : ∀ (vs : List Value) (k : Nat) (cs : Array Value),(∀ v ∈ vs,v.cells.size = z) → (k + vs.length) * z ≤ cs.size →
    ∃ rs,Instr.fill (fun i => some (i * z,z)) cs ((vs.zipIdx k).map fun p => (p.2,p.1)) = some rs ∧ rs.size = cs.size ∧ (∀ p,p < k * z → rs[p]? = cs[p]?) ∧
      ∀ i j,i < vs.length → j < z → rs[(k + i) * z + j]? = (vs.getD i default).cells[j]?
  | [],k,cs,hz,hs => ⟨cs,rfl,rfl,fun _ _ => rfl,fun i j hi => absurd hi (Nat.not_lt_zero _)⟩
  | v :: r,k,cs,hz,hs => by
    have hv := hz v (by simp)
    have hk : (k + 1) * z = k * z + z := by rw [Nat.add_mul,Nat.one_mul]
    have hs' : (k + 1 + r.length) * z ≤ cs.size := by simpa [Nat.add_assoc,Nat.add_comm 1] using hs
    have hle : k * z + z ≤ cs.size := by
      have : (k + 1) * z ≤ (k + 1 + r.length) * z := Nat.mul_le_mul_right z (by omega)
      omega
    obtain ⟨f1,f2⟩ := fold_list (k * z) v.cells.toList 0 cs (by simp [hv]; exact hle)
    have e : v.cells.zipIdx.foldl (fun cs (x : Value × Nat) => cs.setIfInBounds (k * z + x.2) x.1) cs = (v.cells.toList.zipIdx 0).foldl (fun cs (x : Value × Nat) => cs.setIfInBounds (k * z + x.2) x.1) cs := by
      rw [← Array.foldl_toList]; simp
    obtain ⟨rs,g1,g2,g3,g4⟩ := fill_range r (k + 1) ((v.cells.toList.zipIdx 0).foldl (fun cs (x : Value × Nat) => cs.setIfInBounds (k * z + x.2) x.1) cs) (fun x hx => hz x (by simp [hx])) (by rw [f1]; exact hs')
    refine ⟨rs,?_,by rw [g2,f1],fun p hp => ?_,fun i j hi hj => ?_⟩
    · simp only [List.zipIdx_cons,List.map_cons,Instr.fill]
      rw [if_neg (by
        simp only [Bool.or_eq_true,decide_eq_true_eq]
        rintro (h' | h')
        · exact h' hv
        · omega),e]
      exact g1
    · rw [g3 p (by omega),f2,if_neg (by omega)]
    · cases i with
      | zero =>
        have := g3 (k * z + j) (by omega)
        rw [Nat.add_zero,this,f2,if_pos (by simp [hv]; omega)]
        simp
      | succ i =>
        have := g4 i j (by simpa using hi) hj
        rw [show k + (i + 1) = k + 1 + i by omega,this]
        simp
theorem shapeOk_norm {x : SV} (h : shapeOk x = true) : shapeOk (norm x) = true := by cases x <;> first | exact h | rfl
theorem cells_norm (x : SV) : (norm x).cells.length = x.cells.length := by cases x <;> simp [norm,norm1,SV.cells]
theorem repL_list {st : St} {σ : Sig} {w : World} {x : SV} {v : Value} {z : Nat} (hs : shapeOk x = true) (h : Rep st σ w x v) (hz : x.cells.length = z) : v.cells.size = z := by
  rw [(rep_cells hs h).1,hz]
theorem rep_new_slice {st : St} {σ : Sig} {w : World} {z b cap : Nat} {xs : List SV} {vs : List Value} {m : Mode} (hl : xs.length = vs.length) (hs : ∀ x ∈ xs,shapeOk x = true ∧ x.cells.length = z)
    (hr : ∀ i,i < xs.length → Rep st σ w (xs.getD i .any) (vs.getD i default)) (hcap : xs.length ≤ cap)
    (hc : ∀ i j,i < xs.length → j < z → w.cell? ⟨b,i * z + j,none⟩ = (vs.getD i default).cells[j]? ∧ (σ.lock b).has (i * z + j))
    (hm : ModeOk st σ w z ⟨b,0,none⟩ xs.length cap m) : Rep st σ w (.slice m z xs) (.slice (some ⟨b,0,none⟩) xs.length cap) := by
  have hx : ∀ i,i < xs.length → shapeOk (xs.getD i .any) = true ∧ (xs.getD i .any).cells.length = z := by
    intro i hi
    have := hs (xs.getD i .any) (by simp [List.getD_eq_getElem?_getD,hi])
    exact this
  refine .slice m z xs ⟨b,0,none⟩ cap (fun i j => (vs.getD i default).cells.getD j default) hcap (fun _ => rfl) (fun i hi => (hx i hi).2) (fun i j hi hj => ?_) (fun i j hi hj => ?_) hm
  · obtain ⟨h1,h2⟩ := hc i j hi hj
    have hsz := rep_cells (hx i hi).1 (hr i hi)
    have hj' : j < ((vs.getD i default).cells).size := by rw [hsz.1,(hx i hi).2]; exact hj
    simp only [Nat.zero_add]
    exact ⟨by rw [h1]; exact getD_some hj',h2⟩
  · have hsz := rep_cells (hx i hi).1 (hr i hi)
    exact hsz.2 j (by rw [(hx i hi).2]; exact hj)
theorem aop_buildSlice {o : Oper} {t e : TypeId} {len z : Nat} {parts : Array (Nat × Operand)} {zs : List SV} {K : SV → St → Prop} {env : List SV} {st : St}
    (ho : o.op = .buildSlice t len parts) (he : aElem P t = some e) (hz : aSize P e = some z) (hzero : aZero P e = some zs) (hzs : zs.length = z) (hidx : parts.toList.map (·.1) = List.range len) (hle : len * z ≤ 16777216)
    (hs : ∀ p ∈ parts.toList,shapeOk (ev env p.2) = true ∧ (ev env p.2).cells.length = z)
    (hk : K (.slice .full z (parts.toList.map fun p => norm (ev env p.2))) st) : AOp P o K env st :=
  aop_value fun σ w a hI hR => by
    obtain ⟨ti,tv,h1,h2,rfl⟩ := zero_of hzero
    have hlen : parts.toList.length = len := by have := congrArg List.length hidx; simpa using this
    let vs := parts.toList.map fun p => a.eval p.2
    have hvl : vs.length = len := by simp [vs,← hlen]
    have hvz : ∀ v ∈ vs,v.cells.size = z := by
      intro v hv
      obtain ⟨p,hp,rfl⟩ := List.mem_map.1 hv
      obtain ⟨c1,c2⟩ := hs p hp
      exact repL_list c1 (rep_ev hR _) c2
    let cs0 : Array Value := (Array.range (len * z)).map ((if len * z = 0 then #[] else tv.cells)[· % (if len * z = 0 then #[] else tv.cells).size]!)
    obtain ⟨rs,f1,f2,f3,f4⟩ := fill_range (z := z) vs 0 cs0 hvz (by simp [cs0,hvl])
    have hparts : (parts.map fun p => (p.1,a.eval p.2)).toList = (vs.zipIdx 0).map fun p => (p.2,p.1) := by
      apply List.ext_getElem?
      intro i
      simp only [Array.toList_map,List.getElem?_map,List.getElem?_zipIdx,vs,Nat.zero_add]
      cases hp : parts.toList[i]? with
      | none => simp
      | some p =>
        have : (parts.toList.map (·.1))[i]? = some p.1 := by simp [hp]
        rw [hidx] at this
        have hi := lt_of_get this
        simp at hi
        rw [List.getElem?_range hi] at this
        simp at this
        simp [this]
    have hX := Ext.alloc hI (.cells rs e) .all
    refine ⟨.slice (some ⟨w.heap.size,0,none⟩) len len,_,_,st,σ.setLock w.heap.size .all,?_,hk,hI.alloc (.cells rs e) .all,?_,hX⟩
    · have h16 : ¬ 16777216 < len * z := by omega
      by_cases h0 : len * z = 0
      · have e0 : cs0 = (Array.range (len * z)).map ((#[] : Array Value)[· % (#[] : Array Value).size]!) := by simp [cs0,h0]
        rw [e0,← hparts] at f1
        simp [execOp,ho,Instr.buildSlice,run_underlying (und_slice he),run_sizeOf' hz,h16]
        simp [h0] at f1 ⊢
        simp [f1,newRow]
      · have e0 : cs0 = (Array.range (len * z)).map (tv.cells[· % tv.cells.size]!) := by simp only [cs0,if_neg h0]
        rw [e0,← hparts] at f1
        simp [execOp,ho,Instr.buildSlice,run_underlying (und_slice he),run_sizeOf' hz,h16]
        simp [h0,run_zero' h1 h2] at f1 ⊢
        simp [f1,newRow]
    · have hxl : (parts.toList.map fun p => norm (ev env p.2)).length = len := by simp [← hlen]
      have key := rep_new_slice (st := st) (σ := σ.setLock w.heap.size .all) (w := { w with heap := w.heap.push (.cells rs e) }) (z := z) (b := w.heap.size) (cap := len)
        (xs := parts.toList.map fun p => norm (ev env p.2)) (vs := vs) (m := .full) (by rw [hxl,hvl]) (fun x hx => by
          obtain ⟨p,hp,rfl⟩ := List.mem_map.1 hx
          obtain ⟨c1,c2⟩ := hs p hp
          exact ⟨shapeOk_norm c1,by rw [cells_norm]; exact c2⟩) (fun i hi => by
          rw [hxl] at hi
          have hi' : i < parts.toList.length := by omega
          have := (rep_ev hR (parts.toList[i]).2).norm.ext hX
          simpa [List.getD_eq_getElem?_getD,vs,show i < parts.size by simpa using hi'] using this) (by omega) (fun i j hi hj => by
          rw [hxl] at hi
          refine ⟨?_,has_all _ _ _⟩
          rw [cell?_push_new]
          have := f4 i j (by omega) hj
          simpa using this) (by simp [ModeOk,hxl])
      rw [hxl] at key
      exact key
end Go.AL
namespace Go.AL
variable {P : Program}
def cellOk : SV → Bool
  | .sc v => v.oneCell'
  | .slice _ _ _ => true
  | .ref _ => true
  | .ptr _ _ => true
  | .func _ _ _ => true
  | .slc _ _ _ _ _ => true
  | .arr _ _ _ => true
  | .aptr _ _ _ => true
  | .mp _ => true
  | _ => false
def elemOk (x : SV) : Bool := x.cells.all cellOk
theorem oneCell_of {st : St} {σ : Sig} {w : World} {x : SV} {v : Value} (h : cellOk x = true) (r : Rep st σ w x v) : v.oneCell' = true := by
  cases r <;> first | rfl | exact h | assumption | cases h
theorem repL_one {st : St} {σ : Sig} {w : World} {l : List SV} {vs : Array Value} (h : l.all cellOk = true) (r : RepL st σ w l vs) : ∀ v ∈ vs.toList,v.oneCell' = true := by
  intro v hv
  obtain ⟨i,hi⟩ := List.getElem?_of_mem hv
  have hlt : i < vs.size := by have := lt_of_get hi; simpa using this
  have h1 := r.2 i (by rw [← r.1]; exact hlt)
  have h2 : vs.getD i default = v := by
    rw [Array.getElem?_toList] at hi
    rw [Array.getD_eq_getD_getElem?,hi]; rfl
  rw [h2] at h1
  refine oneCell_of (x := l.getD i .any) ?_ h1
  have hi' : i < l.length := by rw [← r.1]; exact hlt
  rw [List.all_eq_true] at h
  simp only [List.getD_eq_getElem?_getD,List.getElem?_eq_getElem hi',Option.getD_some]
  exact h _ (List.getElem_mem hi')
theorem aop_skip {o : Oper} {K : SV → St → Prop} {env : List SV} {st : St} (hd : o.dst = none)
    (h : ∀ σ w (a : Act),Inv st σ w → RepEnv st σ w env a.tmps → ∃ w' st' σ',(execOp a.eval o).run P w = .ok .skip w' ∧ K .any st' ∧ Inv st' σ' w' ∧ Ext st σ w st' σ' w') :
    AOp P o K env st := by
  intro σ w a hI hR
  obtain ⟨w',st',σ',hrun,hk,hI',hX⟩ := h σ w a hI hR
  unfold Oper.wp
  rw [hrun]
  exact ⟨undef,.any,st',σ',rfl,hk,hI',.any _,hX⟩
theorem repL_row {st : St} {σ : Sig} {w : World} {l xs : List SV} {cs vs : Array Value} (off : Nat) (h1 : RepL st σ w l cs) (h2 : RepL st σ w xs vs) (h : off + xs.length ≤ l.length) :
    RepL st σ w (splice l off xs) (cs.toList.take off ++ vs.toList ++ cs.toList.drop (off + vs.toList.length)).toArray := by
  have e : (cs.toList.take off ++ vs.toList ++ cs.toList.drop (off + vs.toList.length)).toArray.size = cs.size := by simp [h1.1,h2.1]; omega
  refine ⟨by rw [e,length_splice _ _ _ h]; exact h1.1,fun i hi => ?_⟩
  rw [length_splice _ _ _ h] at hi
  rw [getD_splice _ _ _ h]
  rw [Array.getD_eq_getD_getElem?,List.getElem?_toArray,List.append_assoc]
  by_cases c1 : i < off
  · rw [if_neg (by omega),List.getElem?_append_left (by simp [h1.1]; omega),List.getElem?_take,if_pos c1,Array.getElem?_toList,← Array.getD_eq_getD_getElem?]
    exact h1.2 i hi
  · rw [List.getElem?_append_right (by simp [h1.1]; omega)]
    simp only [List.length_take,Array.length_toList,h1.1,Nat.min_eq_left (show off ≤ l.length by omega)]
    by_cases c2 : i < off + xs.length
    · rw [if_pos (by omega),List.getElem?_append_left (by simp [h2.1]; omega),Array.getElem?_toList,← Array.getD_eq_getD_getElem?]
      exact h2.2 _ (by omega)
    · rw [if_neg (by omega),List.getElem?_append_right (by simp [h2.1]; omega),List.getElem?_drop,Array.getElem?_toList,← Array.getD_eq_getD_getElem?]
      simp only [Array.length_toList]
      rw [show off + vs.size + (i - off - vs.size) = i by have := h2.1; omega]
      exact h1.2 i hi
theorem aop_store {o : Oper} {t : TypeId} {x y : Operand} {id off n : Nat} {l : List SV} {K : SV → St → Prop} {env : List SV} {st : St}
    (ho : o.op = .store t x y) (hd : o.dst = none) (hx : ev env x = .ptr id off) (hl : st[id]? = some (.cells l)) (ht : aSize P t = some n) (hs : shapeOk (ev env y) = true)
    (hn : (ev env y).cells.length = n) (hok : elemOk (ev env y) = true) (hle : off + n ≤ l.length)
    (hk : K .any (st.set id (.cells (splice l off (ev env y).cells)))) : AOp P o K env st :=
  aop_skip hd fun σ w a hI hR => by
    have hr := rep_ev hR x
    rw [hx] at hr
    generalize hv : a.eval x = v at hr
    cases hr with
    | ptr id off b hkk hb =>
      obtain ⟨b',cs,T,h1,h2,h3,h4,h5⟩ := hI.cells id l hl
      rw [h1] at hb; cases hb
      have hy := rep_cells hs (rep_ev hR y)
      have hrow := repL_row off (cs := cs) ⟨h3,h4⟩ hy (by omega)
      have hst := run_storeCells_at (P := P) b off T (a.eval y).cells.toList 0 cs w h2 (by simp [hy.1,h3]; omega) (repL_one hok hy)
      simp only [Nat.add_zero] at hst
      have hoth : ∀ c,c ≠ b → (w.setRow b (cs.toList.take off ++ (a.eval y).cells.toList ++ cs.toList.drop (off + (a.eval y).cells.toList.length)).toArray).heap[c]? = w.heap[c]? :=
        fun c hc => setRow_other _ _ _ _ hc
      refine ⟨w.setRow b (cs.toList.take off ++ (a.eval y).cells.toList ++ cs.toList.drop (off + (a.eval y).cells.toList.length)).toArray,_,σ,?_,hk,hI.write hl h1 h5 rfl rfl rfl (by simp) hoth (setRow_heap w b cs _ T _ h2) hrow.1 hrow.2,Ext.write hI hl h1 h5 rfl rfl rfl (by simp) hoth⟩
      have hne : (a.eval y).cells.size = n := by rw [hy.1,hn]
      simp [execOp,ho,hv,Instr.storeAt,Instr.sureAddr,storeVar,run_sizeOf' ht,hne]
      simp at hst
      simp [hst,hne]
def aBody (P : Program) (f : FuncId) : Bool := match P.funcs[f]? with
  | some fn => fn.body.isSome && !(fn.name == "runtime.NumGoroutine")
  | none => false
theorem run_callFunc {f : FuncId} (h : aBody P f = true) (args : Array Value) (w : World) : (callFunc f args).run P w = .ok (.enter f args) w := by
  unfold aBody at h
  cases hf : P.funcs[f]? with
  | none => simp [hf] at h
  | some fn =>
    simp only [hf,Bool.and_eq_true] at h
    obtain ⟨h1,h2⟩ := h
    have h3 : fn.body.isNone = false := by cases hb : fn.body <;> simp [hb] at h1 ⊢
    have h4 : (fn.name == "runtime.NumGoroutine") = false := by simpa using h2
    simp only [callFunc,Sem.run_bind,run_program,Result.andThen_ok,hf,h3,h4]
    simp
theorem aop_call {o : Oper} {c : Operand} {f : FuncId} {first captured : List SV} {args : Array Operand} {ts : Array TypeId} {K : SV → St → Prop} {env : List SV} {st : St}
    (ho : o.op = .call { callee := .value c,args := args,argTypes := ts }) (hc : ev env c = .func (.func f) first captured) (hb : aBody P f = true)
    (h : ACalls P f (first ++ args.toList.map (ev env) ++ captured) K st) : AOp P o K env st := by
  intro σ w a hI hR
  have hr := rep_ev hR c
  rw [hc] at hr
  generalize hv : a.eval c = v at hr
  cases hr with
  | func fn first captured vf vc h1 h2 r1 r2 =>
    have hrun : (execOp a.eval o).run P w = .ok (.enter f (vf ++ args.map a.eval ++ vc)) w := by
      simp [execOp,ho,resolve,hv,Deferred.ofValue,invoke,run_callFunc hb]
    unfold Oper.wp
    rw [hrun]
    refine (h σ w _ hI ⟨by simp [h1,h2],fun i hi => ?_⟩).mono ?_
    · simp only [List.length_append,List.length_map,Array.length_toList] at hi
      rw [Array.getD_eq_getD_getElem?,List.getD_eq_getElem?_getD]
      by_cases c1 : i < first.length
      · rw [List.append_assoc,List.getElem?_append_left c1,Array.append_assoc,Array.getElem?_append_left (by omega)]
        have := r1 i c1
        rw [Array.getD_eq_getD_getElem?,List.getD_eq_getElem?_getD] at this
        have hs : i < vf.size := by omega
        simpa [hs] using this
      · by_cases c2 : i < first.length + args.size
        · rw [List.append_assoc,List.getElem?_append_right (by omega),List.getElem?_append_left (by simp; omega),Array.append_assoc,Array.getElem?_append_right (by omega),Array.getElem?_append_left (by simp; omega)]
          have hlt : i - first.length < args.size := by omega
          have := rep_ev hR args[i - first.length]
          rw [h1]
          simpa [hlt] using this
        · rw [List.getElem?_append_right (by simp; omega),Array.getElem?_append_right (by simp; omega)]
          have := r2 (i - (first.length + args.size)) (by omega)
          rw [Array.getD_eq_getD_getElem?,List.getD_eq_getElem?_getD] at this
          have hs : i - (first.length + args.size) < vc.size := by omega
          simpa [h1,hs] using this
    · rintro e w' ⟨v,x,st',σ',rfl,hk,hI',hr',hX⟩
      exact ⟨v,x,st',σ',rfl,hk,hI',hr',hX⟩
end Go.AL
namespace Go.AL
variable {P : Program}
theorem grow_le (need : Nat) : ∀ (rounds c : Nat),c ≤ need → Builtin.growBy need rounds c ≤ 2 * need + 192
  | 0,c,h => by simp [Builtin.growBy]; omega
  | r + 1,c,h => by
    simp only [Builtin.growBy]
    split
    · omega
    · by_cases h2 : c + (c + 768) / 4 ≤ need
      · exact grow_le need r _ h2
      · cases r with
        | zero => simp only [Builtin.growBy]; omega
        | succ r => simp only [Builtin.growBy]; rw [if_pos (by omega)]; omega
theorem nextcap_le (need old : Nat) (h : old < need) : Builtin.nextslicecap need old ≤ 2 * need + 192 := by
  unfold Builtin.nextslicecap
  split
  · omega
  · split
    · omega
    · exact grow_le need 4 old (by omega)
theorem load_slice {st : St} {σ : Sig} {w : World} {m : Mode} {z : Nat} {l : List SV} {a : Option Addr} {len cap : Nat} (h : Rep st σ w (.slice m z l) (.slice a len cap)) :
    ∃ cs : Array Value,(Builtin.firstCells z l.length (.slice a len cap)).run P w = .ok cs w ∧ cs.size = l.length * z ∧
      (∀ i j,i < l.length → j < z → Rep st σ w ((l.getD i .any).cells.getD j .any) (cs.getD (i * z + j) default)) ∧ ∀ i,i < l.length → (l.getD i .any).cells.length = z := by
  cases h with
  | nil m z hm => exact ⟨#[],rfl,by simp,fun i j hi => absurd hi (Nat.not_lt_zero _),fun i hi => absurd hi (Nat.not_lt_zero _)⟩
  | slice m z l ad cap vals hcap hsp hz hc hr hm =>
    have hrun := run_loadCells (P := P) (w := w) ad (l.length * z) (fun p => vals (p / z) (p % z)) (fun p hp => by
      have hz0 : 0 < z := by
        rcases Nat.eq_zero_or_pos z with h | h
        · subst h; simp at hp
        · exact h
      have hi : p / z < l.length := by rw [Nat.div_lt_iff_lt_mul hz0]; exact hp
      have hj : p % z < z := Nat.mod_lt _ hz0
      have hsp' := hsp (by rintro rfl; simp at hi)
      obtain ⟨b,o,sp⟩ := ad
      simp only at hsp'
      subst hsp'
      have := (hc (p / z) (p % z) hi hj).1
      rw [addr_add]
      simp only at this
      rw [Nat.add_assoc,Nat.mul_comm,Nat.div_add_mod] at this
      exact this)
    refine ⟨_,by simpa [Builtin.firstCells] using hrun,by simp,fun i j hi hj => ?_,hz⟩
    have hlt : i * z + j < l.length * z := by
      have : (i + 1) * z ≤ l.length * z := Nat.mul_le_mul_right z hi
      rw [Nat.add_mul,Nat.one_mul] at this
      omega
    have e1 : (i * z + j) / z = i := by rw [Nat.mul_comm,Nat.mul_add_div (by omega),Nat.div_eq_of_lt hj,Nat.add_zero]
    have e2 : (i * z + j) % z = j := by rw [Nat.mul_comm,Nat.mul_add_mod,Nat.mod_eq_of_lt hj]
    have := hr i j hi hj
    simpa [Array.getD,hlt,e1,e2] using this
theorem idx_lt {i j n z : Nat} (hi : i < n) (hj : j < z) : i * z + j < n * z := by
  have : (i + 1) * z ≤ n * z := Nat.mul_le_mul_right z hi
  rw [Nat.add_mul,Nat.one_mul] at this
  omega
theorem rep_grown {st : St} {σ : Sig} {w : World} {z b newCap : Nat} {l xs : List SV} {old new rest : Array Value} {m : Mode} (ho : old.size = l.length * z) (hn : new.size = xs.length * z)
    (hcap : l.length + xs.length ≤ newCap)
    (ro : ∀ i j,i < l.length → j < z → Rep st σ w ((l.getD i .any).cells.getD j .any) (old.getD (i * z + j) default)) (lo : ∀ i,i < l.length → (l.getD i .any).cells.length = z)
    (rn : ∀ i j,i < xs.length → j < z → Rep st σ w ((xs.getD i .any).cells.getD j .any) (new.getD (i * z + j) default)) (ln : ∀ i,i < xs.length → (xs.getD i .any).cells.length = z)
    (hc : ∀ p,p < (l.length + xs.length) * z → w.cell? ⟨b,p,none⟩ = (old ++ new ++ rest)[p]? ∧ (σ.lock b).has p)
    (hm : ModeOk st σ w z ⟨b,0,none⟩ (l ++ xs).length newCap m) : Rep st σ w (.slice m z (l ++ xs)) (.slice (some ⟨b,0,none⟩) (l.length + xs.length) newCap) := by
  have hl : l.length + xs.length = (l ++ xs).length := by simp
  rw [hl]
  have gl : ∀ i,i < l.length → (l ++ xs).getD i .any = l.getD i .any := fun i hi => by simp [List.getD_eq_getElem?_getD,List.getElem?_append_left hi]
  have gr : ∀ i,¬ i < l.length → (l ++ xs).getD i .any = xs.getD (i - l.length) .any := fun i hi => by simp only [List.getD_eq_getElem?_getD,List.getElem?_append_right (Nat.not_lt.1 hi)]
  refine .slice m z (l ++ xs) ⟨b,0,none⟩ newCap (fun i j => (old ++ new ++ rest).getD (i * z + j) default) (by rw [← hl]; exact hcap) (fun _ => rfl) (fun i hi => ?_) (fun i j hi hj => ?_)
    (fun i j hi hj => ?_) hm
  · rw [← hl] at hi
    by_cases c : i < l.length
    · rw [gl i c]; exact lo i c
    · rw [gr i c]; exact ln _ (by omega)
  · rw [← hl] at hi
    have hp := idx_lt hi hj
    obtain ⟨h1,h2⟩ := hc _ hp
    simp only [Nat.zero_add]
    refine ⟨?_,h2⟩
    rw [h1]
    refine getD_some ?_
    simp only [Array.size_append,ho,hn]
    rw [Nat.add_mul] at hp
    omega
  · rw [← hl] at hi
    by_cases c : i < l.length
    · rw [gl i c]
      have hp := idx_lt c hj
      have := ro i j c hj
      rw [Array.getD_eq_getD_getElem?] at this ⊢
      rw [Array.append_assoc,Array.getElem?_append_left (by omega)]
      exact this
    · rw [gr i c]
      have hi' : i - l.length < xs.length := by omega
      have hp := idx_lt hi' hj
      have := rn (i - l.length) j hi' hj
      have e : i * z + j = l.length * z + ((i - l.length) * z + j) := by
        have : i * z = l.length * z + (i - l.length) * z := by rw [← Nat.add_mul]; congr 1; omega
        omega
      rw [Array.getD_eq_getD_getElem?] at this ⊢
      rw [Array.append_assoc,Array.getElem?_append_right (by omega),Array.getElem?_append_left (by omega)]
      rw [show i * z + j - old.size = (i - l.length) * z + j by omega]
      exact this
def cutW (w : World) (o : Obj) : World := { w with drawn := w.drawn + 1,heap := w.heap.push o }
theorem run_append_grows {w : World} {t e tx ex : TypeId} {z : Nat} {a ax : Option Addr} {len cap lx cx : Nat} {zv : Value} {i : TypeInfo} {old new : Array Value}
    (he : aElem P t = some e) (hx : aElem P tx = some ex) (hz : aSize P e = some z) (hi : P.info? e = some i) (hzv : i.zero = some zv)
    (hold : (Builtin.firstCells z len (.slice a len cap)).run P { w with drawn := w.drawn + 1 } = .ok old { w with drawn := w.drawn + 1 })
    (hnew : (Builtin.firstCells z lx (.slice ax lx cx)).run P { w with drawn := w.drawn + 1 } = .ok new { w with drawn := w.drawn + 1 })
    (hg : cap < len + lx) (hcl : len ≤ cap) (hb : (2 * (len + lx) + 192) * i.bytes ≤ 281474976710656) (hn : len + lx < 4611686018427387904) (ty : TypeId) :
    ∃ newCap,len + lx ≤ newCap ∧ (Builtin.append_ #[t,tx] ty #[.slice a len cap,.slice ax lx cx]).run P w =
      .ok (.slice (some ⟨w.heap.size,0,none⟩) (len + lx) newCap) (cutW w (.cells (old ++ new ++ Builtin.zeroCells zv.cells (newCap - (len + lx))) e)) := by
  have h1 : ¬ (len + lx ≤ cap) := by omega
  have h2 : ¬ ((len + lx : Nat) : Int) > IntKind.i64.max := by simp [IntKind.max,IntKind.signed,IntKind.bits]; omega
  have h3 : ¬ Builtin.nextslicecap (len + lx) cap * i.bytes > 2 ^ 48 := by
    have := Nat.mul_le_mul_right i.bytes (nextcap_le (len + lx) cap hg)
    omega
  have hf : (Question.appendCap (len + lx) cap e).forced = false := rfl
  refine ⟨(Question.appendCap (len + lx) cap e).cut (w.tape w.drawn (.appendCap (len + lx) cap e)),by simp [Question.cut],?_⟩
  have h4 : ¬ (281474976710656 < Builtin.nextslicecap (len + lx) cap * i.bytes) := by omega
  have h5 : ¬ (9223372036854775807 < (len : Int) + (lx : Int)) := by omega
  have hold' : (Builtin.firstCells z len (.slice a len cap)).run P w.drew = .ok old w.drew := hold
  have hnew' : (Builtin.firstCells z lx (.slice ax lx cx)).run P w.drew = .ok new w.drew := hnew
  simp [Builtin.append_,run_underlying (und_slice he),run_sizeOf' hz,run_underlying (und_slice hx),Builtin.lenOf,h1,run_typeInfo' hi,h4,h5,hf,hold',hnew',run_zero' hi hzv,newRow,cutW]
  rfl
theorem size_zeroCells (zero : Array Value) (n : Nat) : (Builtin.zeroCells zero n).size = n * zero.size := by simp [Builtin.zeroCells]
theorem aZero_size {e : TypeId} {zs : List SV} {z : Nat} (h : aZero P e = some zs) (hz : zs.length = z) : ∃ i v,P.info? e = some i ∧ i.zero = some v ∧ v.cells.size = z := by
  obtain ⟨i,v,h1,h2,rfl⟩ := zero_of h
  exact ⟨i,v,h1,h2,by simpa using hz⟩
theorem bytes_of {e : TypeId} {n : Nat} {i : TypeInfo} (h : aBytes P e = some n) (hi : P.info? e = some i) : i.bytes = n := by simpa [aBytes,hi] using h
theorem append_new {st : St} {σ : Sig} {w : World} (hI : Inv st σ w) {t e tx ex : TypeId} {z by' : Nat} {m mx : Mode} {a ax : Option Addr} {cap cx : Nat} {l xs : List SV} {zs : List SV}
    (he : aElem P t = some e) (hx : aElem P tx = some ex) (hz : aSize P e = some z) (hzs : aZero P e = some zs) (hzl : zs.length = z) (hby : aBytes P e = some by')
    (hs : Rep st σ w (.slice m z l) (.slice a l.length cap)) (hxs : Rep st σ w (.slice mx z xs) (.slice ax xs.length cx)) (hcl : l.length ≤ cap) (hg : cap < l.length + xs.length)
    (hb : (2 * (l.length + xs.length) + 192) * by' ≤ 281474976710656) (hn : l.length + xs.length < 4611686018427387904) (ty : TypeId) :
    ∃ newCap rest w',(Builtin.append_ #[t,tx] ty #[.slice a l.length cap,.slice ax xs.length cx]).run P w = .ok (.slice (some ⟨w.heap.size,0,none⟩) (l.length + xs.length) newCap) w' ∧
      w'.heap[w.heap.size]? = some (.cells rest e (0,0)) ∧ newCap * z ≤ rest.size ∧ Inv st (σ.setLock w.heap.size (.upto ((l.length + xs.length) * z))) w' ∧
      Ext st σ w st (σ.setLock w.heap.size (.upto ((l.length + xs.length) * z))) w' ∧ w.heap.size < w'.heap.size ∧ l.length + xs.length ≤ newCap ∧
      ∀ st' σ',Ext st (σ.setLock w.heap.size (.upto ((l.length + xs.length) * z))) w' st' σ' w' → ∀ m',ModeOk st' σ' w' z ⟨w.heap.size,0,none⟩ (l ++ xs).length newCap m' →
        Rep st' σ' w' (.slice m' z (l ++ xs)) (.slice (some ⟨w.heap.size,0,none⟩) (l.length + xs.length) newCap) := by
  obtain ⟨i,v,hi,hzv,hvz⟩ := aZero_size hzs hzl
  have hd : Ext st σ w st σ { w with drawn := w.drawn + 1 } := Ext.drew _
  obtain ⟨old,o1,o2,o3,o4⟩ := load_slice (P := P) (hs.ext hd)
  obtain ⟨new,n1,n2,n3,n4⟩ := load_slice (P := P) (hxs.ext hd)
  obtain ⟨newCap,g1,g2⟩ := run_append_grows (w := w) (ty := ty) he hx hz hi hzv o1 n1 hg hcl (by rw [bytes_of hby hi]; exact hb) hn
  have hId := hI.drew (w.drawn + 1)
  let cells := old ++ new ++ Builtin.zeroCells v.cells (newCap - (l.length + xs.length))
  have hX1 := Ext.alloc hId (.cells cells e) (.upto ((l.length + xs.length) * z))
  have hcs : cells.size = newCap * z := by
    simp only [cells,Array.size_append,o2,n2,size_zeroCells,hvz]
    rw [← Nat.add_mul,← Nat.add_mul]
    congr 1
    omega
  refine ⟨newCap,cells,_,g2,by simp [cutW,cells],by omega,hId.alloc _ _,hd.trans hX1,by simp [cutW],g1,?_⟩
  intro st' σ' hX' m' hm
  refine rep_grown (rest := Builtin.zeroCells v.cells (newCap - (l.length + xs.length))) o2 n2 g1 (fun i j hi hj => ((o3 i j hi hj).ext hX1).ext hX') o4 (fun i j hi hj => ((n3 i j hi hj).ext hX1).ext hX') n4 (fun p hp => ?_) hm
  have hcell : World.cell? (cutW w (.cells cells e)) ⟨w.heap.size,p,none⟩ = cells[p]? := by simp [World.cell?,cutW]
  refine ⟨hcell,?_⟩
  have hsz : p < cells.size := by rw [hcs]; exact Nat.lt_of_lt_of_le hp (Nat.mul_le_mul_right z g1)
  have := hX'.lock w.heap.size p cells[p] (by simp only [Sig.setLock,if_true]; exact hp) (by show World.cell? (cutW w (.cells cells e)) _ = _; rw [hcell]; simp [hsz])
  exact this.1
theorem rep_nil_z {st : St} {σ : Sig} {w : World} {m : Mode} {z z' : Nat} {v : Value} (h : Rep st σ w (.slice m z []) v) (hm : m = .full ∨ m = .imm) : Rep st σ w (.slice m z' []) v := by
  generalize hl : ([] : List SV) = l at h
  generalize hx : SV.slice m z l = x at h
  cases h with
  | nil m z hm => cases hx; exact .nil _ _ hm
  | slice m z l a cap vals hcap hsp hzz hc hr hmo =>
    cases hx
    subst hl
    refine .slice m z' [] a cap vals hcap hsp (fun i hi => absurd hi (Nat.not_lt_zero _)) (fun i j hi => absurd hi (Nat.not_lt_zero _)) (fun i j hi => absurd hi (Nat.not_lt_zero _)) ?_
    rcases hm with rfl | rfl
    · exact hmo
    · trivial
  | _ => cases hx
theorem rep_imm_z {st : St} {σ : Sig} {w : World} {m : Mode} {z z' : Nat} {xs : List SV} {v : Value} (h : Rep st σ w (.slice m z xs) v) (hz : xs = [] ∨ z = z') : Rep st σ w (.slice .imm z' xs) v := by
  have h' := h.norm1
  simp only [AL.norm1] at h'
  rcases hz with rfl | rfl
  · exact rep_nil_z h' (.inr rfl)
  · exact h'
theorem aop_append_full {o : Oper} {t e tx ex : TypeId} {z z0 z1 by' : Nat} {mx : Mode} {x y : Operand} {l xs zs : List SV} {K : SV → St → Prop} {env : List SV} {st : St}
    (ho : o.op = .call { callee := .builtin .append,args := #[x,y],argTypes := #[t,tx] }) (hx : ev env x = .slice .full z0 l) (hy : ev env y = .slice mx z1 xs)
    (hz0 : l = [] ∨ z0 = z) (hz1 : xs = [] ∨ z1 = z)
    (he : aElem P t = some e) (hxe : aElem P tx = some ex) (hz : aSize P e = some z) (hzs : aZero P e = some zs) (hzl : zs.length = z) (hby : aBytes P e = some by')
    (hb : (2 * (l.length + xs.length) + 192) * by' ≤ 281474976710656) (hn : l.length + xs.length < 4611686018427387904)
    (hk : K (.slice (.own st.length 0) z (l ++ xs)) (st ++ [.tok 0])) : AOp P o K env st :=
  aop_value fun σ w a hI hR => by
    have r1 := rep_ev hR x
    rw [hx] at r1
    have r2 := rep_ev hR y
    rw [hy] at r2
    generalize hv : a.eval x = v at r1
    generalize hu : a.eval y = u at r2
    have r1' : Rep st σ w (.slice .full z l) v := by
      rcases hz0 with rfl | rfl
      · exact rep_nil_z r1 (.inl rfl)
      · exact r1
    have r2' := rep_imm_z r2 hz1
    obtain ⟨ad,cap,rfl,hcap⟩ := rep_slice_form r1'
    obtain ⟨ax,cx,rfl,hcx⟩ := rep_slice_form r2'
    have hcl : cap = l.length := by
      cases r1' with
      | nil m z hm => rfl
      | slice m z l a cap vals hcap hsp hzz hc hr hm => exact hm
    subst hcl
    have hrun0 : (execOp a.eval o).run P w = ((Builtin.append_ #[t,tx] o.type #[.slice ad l.length l.length,.slice ax xs.length cx]).run P w).andThen fun v w' => .ok (.value v) w' := by
      simp [execOp,ho,resolve,invoke,builtin,hv,hu]
    by_cases h0 : xs = []
    · subst h0
      have hX : Ext st σ w (st ++ [.tok 0]) (σ.setMu st.length none) w := Ext.newTok none
      refine ⟨.slice ad l.length l.length,w,_,_,σ.setMu st.length none,?_,hk,hI.newTok none (fun c hc => by cases hc),?_,hX⟩
      · rw [hrun0]
        obtain ⟨cs,n1,n2,_⟩ := load_slice (P := P) r2'
        simp at n1 n2
        have : cs = #[] := by simpa using n2
        subst this
        cases ad <;> simp [Builtin.append_,run_underlying (und_slice he),run_underlying (und_slice hxe),run_sizeOf' hz,Builtin.lenOf,n1,storeCells]
      · rw [List.append_nil]
        have r3 := r1'.ext hX
        have hmode : ModeNil (st ++ [.tok 0]) (.own st.length 0) := ⟨0,by simp,Nat.le_refl _⟩
        cases r3 with
        | nil m z hm => exact .nil _ _ hmode
        | slice m z l a cap vals hcap hsp hzz hc hr hm => exact .slice _ _ _ _ _ vals hcap hsp hzz hc hr ⟨0,by simp,Nat.le_refl _,fun _ => .inl rfl⟩
    · have hpos : 0 < xs.length := List.length_pos_iff.2 h0
      obtain ⟨newCap,rest,w',g1,g2,g3,g4,g5,g6,g7,g8⟩ := append_new (P := P) hI he hxe hz hzs hzl hby r1' r2' (Nat.le_refl _) (by omega) hb hn o.type
      have hX2 : Ext st (σ.setLock w.heap.size (.upto ((l.length + xs.length) * z))) w' (st ++ [.tok 0]) ((σ.setLock w.heap.size (.upto ((l.length + xs.length) * z))).setMu st.length (some w.heap.size)) w' := Ext.newTok _
      refine ⟨_,w',_,_,_,by rw [hrun0,g1]; rfl,hk,g4.newTok (some w.heap.size) (fun c hc => ?_),g8 _ _ hX2 _ ?_,g5.trans hX2⟩
      · cases hc
        refine ⟨g6,by simp [Sig.setLock,Lock.still],fun i hi h => ?_⟩
        have := hI.mu_lt hi h
        omega
      · refine ⟨0,by simp,Nat.le_refl _,fun _ => .inr ⟨rfl,by simp [Sig.setMu],by simp [Sig.setMu,Sig.setLock],rest,e,g2,by simp; exact g3⟩⟩
theorem aop_append_own {o : Oper} {t e tx ex : TypeId} {z z1 by' id ver : Nat} {mx : Mode} {x y : Operand} {l xs zs : List SV} {K : SV → St → Prop} {env : List SV} {st : St}
    (ho : o.op = .call { callee := .builtin .append,args := #[x,y],argTypes := #[t,tx] }) (hx : ev env x = .slice (.own id ver) z l) (hy : ev env y = .slice mx z1 xs)
    (hz1 : xs = [] ∨ z1 = z) (hid : st[id]? = some (.tok ver))
    (he : aElem P t = some e) (hxe : aElem P tx = some ex) (hz : aSize P e = some z) (hzs : aZero P e = some zs) (hzl : zs.length = z) (hby : aBytes P e = some by')
    (hb : (2 * (l.length + xs.length) + 192) * by' ≤ 281474976710656) (hn : l.length + xs.length < 4611686018427387904) (hok : ∀ s ∈ xs,elemOk s = true)
    (hk : K (.slice (.own id (ver + 1)) z (l ++ xs)) (st.set id (.tok (ver + 1)))) : AOp P o K env st :=
  aop_value fun σ w a hI hR => by
    have r1 := rep_ev hR x
    rw [hx] at r1
    have r2 := rep_ev hR y
    rw [hy] at r2
    generalize hv : a.eval x = v at r1
    generalize hu : a.eval y = u at r2
    have r2' := rep_imm_z r2 hz1
    obtain ⟨ad,cap,rfl,hcap⟩ := rep_slice_form r1
    obtain ⟨ax,cx,rfl,hcx⟩ := rep_slice_form r2'
    have hlt := lt_of_get hid
    have hset : (st.set id (.tok (ver + 1)))[id]? = some (.tok (ver + 1)) := set_get hlt
    have hrun0 : (execOp a.eval o).run P w = ((Builtin.append_ #[t,tx] o.type #[.slice ad l.length cap,.slice ax xs.length cx]).run P w).andThen fun v w' => .ok (.value v) w' := by
      simp [execOp,ho,resolve,invoke,builtin,hv,hu]
    by_cases hg : cap < l.length + xs.length
    · obtain ⟨newCap,rest,w',g1,g2,g3,g4,g5,g6,g7,g8⟩ := append_new (P := P) hI he hxe hz hzs hzl hby r1 r2' hcap hg hb hn o.type
      have hX2 : Ext st (σ.setLock w.heap.size (.upto ((l.length + xs.length) * z))) w' (st.set id (.tok (ver + 1))) ((σ.setLock w.heap.size (.upto ((l.length + xs.length) * z))).setMu id (some w.heap.size)) w' := Ext.tokNew hid _
      refine ⟨_,w',_,_,_,by rw [hrun0,g1]; rfl,hk,g4.tokNew hid (some w.heap.size) (fun c hc => ?_),g8 _ _ hX2 _ ?_,g5.trans hX2⟩
      · cases hc
        refine ⟨g6,by simp [Sig.setLock,Lock.still],fun i hi hne h => ?_⟩
        have := hI.mu_lt hi h
        omega
      · exact ⟨ver + 1,hset,Nat.le_refl _,fun _ => .inr ⟨rfl,by simp [Sig.setMu],by simp [Sig.setMu,Sig.setLock],rest,e,g2,by simp; exact g3⟩⟩
    · by_cases h0 : xs = []
      · subst h0
        have hX : Ext st σ w (st.set id (.tok (ver + 1))) (σ.setMu id (σ.μ id)) w := Ext.tokNew hid _
        refine ⟨.slice ad l.length cap,w,_,_,σ.setMu id (σ.μ id),?_,hk,hI.tokNew hid (σ.μ id) (fun c hc => ?_),?_,hX⟩
        · rw [hrun0]
          obtain ⟨cs,n1,n2,_⟩ := load_slice (P := P) r2'
          simp at n1 n2
          have : cs = #[] := by simpa using n2
          subst this
          cases ad <;> simp [Builtin.append_,run_underlying (und_slice he),run_underlying (und_slice hxe),run_sizeOf' hz,Builtin.lenOf,n1,storeCells,hcap]
        · obtain ⟨h1,h2⟩ := hI.tok id ver c hid hc
          exact ⟨h1,h2,fun i hi hne h => hne (hI.inj i id c hi hlt h hc)⟩
        · rw [List.append_nil]
          have r3 := r1.ext hX
          have hmu : (σ.setMu id (σ.μ id)).μ id = σ.μ id := by simp [Sig.setMu]
          cases r1 with
          | nil m z hm => exact .nil _ _ ⟨ver + 1,hset,Nat.le_refl _⟩
          | slice m z l a cap vals hcap hsp hzz hc hr hm =>
            refine .slice _ _ _ _ _ vals hcap hsp hzz hc (fun i j hi hj => (hr i j hi hj).ext hX) ⟨ver + 1,hset,Nat.le_refl _,fun _ => ?_⟩
            obtain ⟨v0,q1,q2,q3⟩ := hm
            rw [hid] at q1; cases q1
            rcases q3 rfl with q | ⟨q1,q2,q3,q4⟩
            · exact .inl q
            · exact .inr ⟨q1,by rw [hmu]; exact q2,q3,q4⟩
      · have hpos : 0 < xs.length := List.length_pos_iff.2 h0
        cases hr0 : r1 with
        | nil m z hm => simp only [List.length_nil,Nat.zero_add] at hg; omega
        | slice m z l b cap vals hcap hsp hzz hc hr hm =>
          obtain ⟨v0,q1,q2,q3⟩ := hm
          rw [hid] at q1; cases q1
          rcases q3 rfl with q | ⟨p1,p2,p3,cs,T,p4,p5⟩
          · omega
          obtain ⟨bb,bo,bs⟩ := b
          simp only at p1 p2 p3 p4 p5
          subst p1
          obtain ⟨new,n1,n2,n3,n4⟩ := load_slice (P := P) r2'
          have hnew1 : ∀ v ∈ new.toList,v.oneCell' = true := by
            intro v hv
            obtain ⟨p,hp⟩ := List.getElem?_of_mem hv
            have hp' : p < new.size := by have := lt_of_get hp; simpa using this
            have hz0 : 0 < z := by
              rcases Nat.eq_zero_or_pos z with h | h
              · subst h; omega
              · exact h
            rw [n2] at hp'
            have hi : p / z < xs.length := by rw [Nat.div_lt_iff_lt_mul hz0]; exact hp'
            have hj : p % z < z := Nat.mod_lt _ hz0
            have := n3 (p / z) (p % z) hi hj
            rw [Nat.mul_comm,Nat.div_add_mod,Array.getD_eq_getD_getElem?] at this
            rw [Array.getElem?_toList] at hp
            rw [hp] at this
            refine oneCell_of ?_ this
            have hm := hok (xs.getD (p / z) .any) (by simp [List.getD_eq_getElem?_getD,hi])
            have hl := n4 (p / z) hi
            unfold elemOk at hm
            rw [List.all_eq_true] at hm
            refine hm _ ?_
            simp only [List.getD_eq_getElem?_getD (l := (xs.getD (p / z) SV.any).cells)]
            rw [List.getElem?_eq_getElem (by omega)]
            exact List.getElem_mem _
          have hle : bo + l.length * z + new.size ≤ cs.size := by
            have : (l.length + xs.length) * z ≤ cap * z := Nat.mul_le_mul_right z (by omega)
            rw [Nat.add_mul] at this
            omega
          have hst := run_storeCells_at (P := P) bb (bo + l.length * z) T new.toList 0 cs w p4 (by simpa using hle) hnew1
          simp only [Nat.add_zero,Array.length_toList] at hst
          let arr := (cs.toList.take (bo + l.length * z) ++ new.toList ++ cs.toList.drop (bo + l.length * z + new.size)).toArray
          have harr : arr.size = cs.size := by simp [arr]; omega
          have hoth : ∀ c,c ≠ bb → (w.setRow bb arr).heap[c]? = w.heap[c]? := fun c hc => setRow_other _ _ _ _ hc
          have hcell : ∀ p,(w.setRow bb arr).cell? ⟨bb,p,none⟩ = arr[p]? := fun p => cell_setRow_same w bb p cs arr T _ p4
          have hcell0 : ∀ p,w.cell? ⟨bb,p,none⟩ = cs[p]? := fun p => by simp [World.cell?,p4]
          have hold : ∀ p,p < bo + l.length * z → (w.setRow bb arr).cell? ⟨bb,p,none⟩ = w.cell? ⟨bb,p,none⟩ := fun p hp => by
            rw [hcell,hcell0]
            have hp2 : p < cs.size := by omega
            simp only [arr,List.getElem?_toArray,List.append_assoc]
            rw [List.getElem?_append_left (by simp; omega),List.getElem?_take,if_pos hp,Array.getElem?_toList]
          have hn' : bo + l.length * z ≤ bo + (l.length + xs.length) * z := by rw [Nat.add_mul]; omega
          have hX := Ext.tokWrite (w' := w.setRow bb arr) hI hid p2 p3 hn' rfl rfl rfl (by simp) hoth hold
          have hInv := Inv.tokWrite (w' := w.setRow bb arr) hI hid p2 p3 hn' rfl rfl rfl (by simp) hoth hold
          refine ⟨.slice (some ⟨bb,bo,none⟩) (l.length + xs.length) cap,w.setRow bb arr,_,_,_,?_,hk,hInv,?_,hX⟩
          · rw [hrun0]
            have hle2 : l.length + xs.length ≤ cap := by omega
            simp [Builtin.append_,run_underlying (und_slice he),run_underlying (und_slice hxe),run_sizeOf' hz,Builtin.lenOf,hle2,n1,addr_add]
            simp at hst
            simp [hst,arr]
          · have hll : l.length + xs.length = (l ++ xs).length := by simp
            have gl : ∀ i,i < l.length → (l ++ xs).getD i .any = l.getD i .any := fun i hi => by simp [List.getD_eq_getElem?_getD,List.getElem?_append_left hi]
            have gr : ∀ i,¬ i < l.length → (l ++ xs).getD i .any = xs.getD (i - l.length) .any := fun i hi => by simp only [List.getD_eq_getElem?_getD,List.getElem?_append_right (Nat.not_lt.1 hi)]
            have e0 : Value.slice (some ⟨bb,bo,none⟩) (l.length + xs.length) cap = Value.slice (some ⟨bb,bo,none⟩) (l ++ xs).length cap := by rw [hll]
            rw [e0]
            have hlock : ∀ p,p < bo + (l.length + xs.length) * z → ((σ.setLock bb (.upto (bo + (l.length + xs.length) * z))).lock bb).has p := fun p hp => by simp only [Sig.setLock,if_true]; exact hp
            refine .slice _ z (l ++ xs) ⟨bb,bo,none⟩ cap (fun i j => if i < l.length then vals i j else new.getD ((i - l.length) * z + j) default) (by rw [← hll]; omega) (fun _ => rfl)
              (fun i hi => ?_) (fun i j hi hj => ?_) (fun i j hi hj => ?_) ⟨ver + 1,hset,Nat.le_refl _,fun _ => .inr ⟨rfl,p2,?_,arr,T,setRow_heap w bb cs arr T _ p4,by rw [harr]; exact p5⟩⟩
            · rw [← hll] at hi
              by_cases c : i < l.length
              · rw [gl i c]; exact hzz i c
              · rw [gr i c]; exact n4 _ (by omega)
            · rw [← hll] at hi
              have hp := idx_lt hi hj
              refine ⟨?_,hlock (bo + i * z + j) (by omega)⟩
              by_cases c : i < l.length
              · simp only [if_pos c]
                have hp2 := idx_lt c hj
                have := (hc i j c hj).1
                simp only at this ⊢
                rw [hold _ (by omega)]
                exact this
              · simp only [if_neg c]
                have hp2 := idx_lt (show i - l.length < xs.length by omega) hj
                have e1 : bo + i * z + j = bo + l.length * z + ((i - l.length) * z + j) := by
                  have : i * z = l.length * z + (i - l.length) * z := by rw [← Nat.add_mul]; congr 1; omega
                  omega
                rw [hcell,e1]
                simp only [arr,List.getElem?_toArray,List.append_assoc]
                rw [List.getElem?_append_right (by simp; omega)]
                simp only [List.length_take,Array.length_toList,Nat.min_eq_left (show bo + l.length * z ≤ cs.size by omega)]
                rw [Nat.add_sub_cancel_left,List.getElem?_append_left (by simp [n2]; omega),Array.getElem?_toList]
                exact getD_some (by rw [n2]; exact hp2)
            · rw [← hll] at hi
              by_cases c : i < l.length
              · simp only [if_pos c,gl i c]; exact (hr i j c hj).ext hX
              · simp only [if_neg c,gr i c]; exact (n3 (i - l.length) j (by omega) hj).ext hX
            · simp only [Sig.setLock,if_true,hll]
end Go.AL
