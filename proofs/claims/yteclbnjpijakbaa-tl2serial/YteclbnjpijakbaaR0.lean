/- The reference engine as data, and what stands for it in memory. -/
import Derived.Test.YteclbnjpijakbaaW19
set_option linter.unusedSimpArgs false
set_option linter.unusedVariables false
namespace Go.Proofs
open Go Go.AL

/-! Lists of records in memory. -/
theorem flat_len {α : Type} {f : α → List SV} {z : Nat} (hz : ∀ a, (f a).length = z) (l : List α) : (l.flatMap f).length = l.length * z := by
  induction l with
  | nil => simp
  | cons a r ih => rw [List.flatMap_cons, List.length_append, ih, hz, List.length_cons, Nat.add_mul, Nat.one_mul, Nat.add_comm]

theorem flat_drop {α : Type} {f : α → List SV} {z : Nat} (hz : ∀ a, (f a).length = z) {l : List α} {t : Nat} {x : α} (h : l[t]? = some x) {j : Nat} (hj : j ≤ z) :
    (l.flatMap f).drop (t * z + j) = (f x).drop j ++ (l.flatMap f).drop (t * z + z) := by
  induction l generalizing t with
  | nil => cases h
  | cons a r ih =>
    rw [List.flatMap_cons]
    cases t with
    | zero =>
      cases h
      simp only [Nat.zero_mul, Nat.zero_add]
      have e1 : List.drop z (f x ++ r.flatMap f) = r.flatMap f := by rw [List.drop_left' (hz x)]
      rw [e1, List.drop_append_of_le_length (by rw [hz]; exact hj)]
    | succ t =>
      have h' : r[t]? = some x := by simpa using h
      have := ih h'
      have e1 : (t + 1) * z + j = z + (t * z + j) := by rw [Nat.succ_mul]; omega
      have e2 : (t + 1) * z + z = z + (t * z + z) := by rw [Nat.succ_mul]; omega
      have e3 : ∀ k, List.drop (z + k) (f a ++ r.flatMap f) = (r.flatMap f).drop k := fun k => by rw [← List.drop_drop, List.drop_left' (hz a)]
      rw [e1, e2, e3, e3]
      exact this

theorem flat_put {α : Type} {f : α → List SV} {z : Nat} (hz : ∀ a, (f a).length = z) {l : List α} {t : Nat} {x x' : α} (h : l[t]? = some x) {j : Nat} {v : List SV} (hj : j + v.length ≤ z)
    (he : (f x).take j ++ (v ++ (f x).drop (j + v.length)) = f x') : (l.flatMap f).take (t * z + j) ++ (v ++ (l.flatMap f).drop (t * z + (j + v.length))) = (l.set t x').flatMap f := by
  induction l generalizing t with
  | nil => cases h
  | cons a r ih =>
    cases t with
    | zero =>
      cases h
      simp only [Nat.zero_mul, Nat.zero_add, List.flatMap_cons, List.set_cons_zero]
      rw [← he, List.take_append_of_le_length (by rw [hz]; omega), List.drop_append_of_le_length (by rw [hz]; omega)]
      simp [List.append_assoc]
    | succ t =>
      have h' : r[t]? = some x := by simpa using h
      have := ih h'
      have e1 : (t + 1) * z + j = z + (t * z + j) := by rw [Nat.succ_mul]; omega
      have e2 : (t + 1) * z + (j + v.length) = z + (t * z + (j + v.length)) := by rw [Nat.succ_mul]; omega
      have e0 : List.take (z + (t * z + j)) (f a ++ r.flatMap f) = f a ++ (r.flatMap f).take (t * z + j) := by
        have := List.take_append (l₁ := f a) (l₂ := r.flatMap f) (i := z + (t * z + j))
        rw [this, List.take_of_length_le (by rw [hz]; omega), hz, show z + (t * z + j) - z = t * z + j by omega]
      rw [List.set_cons_succ, List.flatMap_cons, List.flatMap_cons, ← this, e1, e2, e0, ← List.drop_drop, List.drop_left' (hz a), List.append_assoc]

/-- A write of a part. -/
structure PW where
  n : Int
  v : Int
  part : Int
  deriving DecidableEq
instance : Inhabited PW := ⟨⟨0, 0, 0⟩⟩
def pwSV (p : PW) : List SV := [i64 p.n, i64 p.v, i64 p.part]
theorem pw_z : ∀ p, (pwSV p).length = 3 := fun _ => rfl
theorem tv_z : ∀ p, (tvSV p).length = 3 := fun _ => rfl

/-- A thread's transaction. -/
structure RT where
  is : Bool
  start : Int
  reads : List Int
  puts : List PW
  parts : Int
  commits : Bool
  stamp : Int
  done : Int
def RT.none : RT := ⟨false, 0, [], [], 0, false, 0, 0⟩
instance : Inhabited RT := ⟨.none⟩

/-- Where it lies. -/
structure RX where
  rid : Nat
  rver : Nat
  pid : Nat
  pver : Nat
  x : RT

def RX.cells (y : RX) : List SV := [.sc (.bool y.x.is), i64 y.x.start, .slice (.own y.rid y.rver) 1 (y.x.reads.map i64), .arr y.pid y.pver y.x.puts.length, i64 y.x.parts, .sc (.bool y.x.commits), i64 y.x.stamp, i64 y.x.done]
theorem rx_z : ∀ y, (RX.cells y).length = 8 := fun _ => rfl

structure RG where
  id : Nat
  vid : Nat
  vver : Nat
  tid : Nat
  clock : Int
  vars : List TV
  xs : List RX

def RG.cells (R : RG) : List SV := [i64 R.clock, .arr R.vid R.vver R.vars.length, .slc R.tid 8 0 8 8]

structure RefAt (st : St) (R : RG) : Prop where
  cells : st[R.id]? = some (.cells R.cells)
  vars : st[R.vid]? = some (.arr R.vver 3 (R.vars.flatMap tvSV))
  txs : st[R.tid]? = some (.cells (R.xs.flatMap RX.cells))
  len : R.xs.length = 8
  many : R.vars.length ≤ 4000
  tok : ∀ (t : Nat) (y : RX), R.xs[t]? = some y → st[y.rid]? = some (.tok y.rver)
  puts : ∀ (t : Nat) (y : RX), R.xs[t]? = some y → st[y.pid]? = some (.arr y.pver 3 (y.x.puts.flatMap pwSV))
  apart : ∀ (t u : Nat) (y z : RX), R.xs[t]? = some y → R.xs[u]? = some z → t ≠ u → y.rid ≠ z.rid ∧ y.pid ≠ z.pid
  own : ∀ (t : Nat) (y : RX), R.xs[t]? = some y → y.pid ≠ R.vid
  ne : R.id ≠ R.tid

def RG.has (R : RG) (j : Nat) : Prop := j = R.id ∨ j = R.vid ∨ j = R.tid ∨ ∃ (t : Nat) (y : RX), R.xs[t]? = some y ∧ (j = y.rid ∨ j = y.pid)

structure RFr (st : St) (R : RG) (s : St) (R' : RG) : Prop where
  len : st.length ≤ s.length
  old : ∀ j, j < st.length → ¬ R.has j → s[j]? = st[j]?
  new : ∀ j, R'.has j → R.has j ∨ st.length ≤ j
  id : R'.id = R.id

theorem RFr.refl (st : St) (R : RG) : RFr st R st R := ⟨Nat.le_refl _, fun _ _ _ => rfl, fun _ h => .inl h, rfl⟩
theorem RFr.trans {a b c : St} {E F G : RG} (h : RFr a E b F) (k : RFr b F c G) : RFr a E c G := by
  refine ⟨Nat.le_trans h.len k.len, fun j hj hn => ?_, fun j hj => ?_, k.id.trans h.id⟩
  · rw [k.old j (Nat.lt_of_lt_of_le hj h.len) (fun hf => by rcases h.new j hf with h1 | h1; exact hn h1; omega)]
    exact h.old j hj hn
  · rcases k.new j hj with h1 | h1
    · exact h.new j h1
    · exact .inr (Nat.le_trans h.len h1)

/-! Places are apart. -/
section
variable {st : St} {R : RG} (h : RefAt st R)
include h
theorem RefAt.nidv : R.id ≠ R.vid := fun e => by have := h.cells; rw [e, h.vars] at this; cases this
theorem RefAt.ntv : R.tid ≠ R.vid := fun e => by have := h.txs; rw [e, h.vars] at this; cases this
variable {t : Nat} {y : RX} (hy : R.xs[t]? = some y)
include hy
theorem RefAt.rne : y.rid ≠ R.id ∧ y.rid ≠ R.vid ∧ y.rid ≠ R.tid := by
  have k := h.tok t y hy
  refine ⟨fun e => ?_, fun e => ?_, fun e => ?_⟩ <;> rw [e] at k
  · rw [h.cells] at k; cases k
  · rw [h.vars] at k; cases k
  · rw [h.txs] at k; cases k
theorem RefAt.pne : y.pid ≠ R.id ∧ y.pid ≠ R.vid ∧ y.pid ≠ R.tid := by
  have k := h.puts t y hy
  refine ⟨fun e => ?_, h.own t y hy, fun e => ?_⟩ <;> rw [e] at k
  · rw [h.cells] at k; cases k
  · rw [h.txs] at k; cases k
theorem RefAt.rpne {u : Nat} {z : RX} (hz : R.xs[u]? = some z) : y.rid ≠ z.pid := fun e => by
  have k := h.tok t y hy
  rw [e, h.puts u z hz] at k; cases k
end

theorem RefAt.get {st : St} {R : RG} (h : RefAt st R) {t : Nat} (ht : t < 8) : ∃ y, R.xs[t]? = some y := ⟨R.xs[t]'(by rw [h.len]; exact ht), List.getElem?_eq_getElem _⟩

theorem RefAt.has_lt {st : St} {R : RG} (h : RefAt st R) {j : Nat} (hj : R.has j) : j < st.length := by
  rcases hj with rfl | rfl | rfl | ⟨t, y, hy, rfl | rfl⟩
  · exact lt_of_get h.cells
  · exact lt_of_get h.vars
  · exact lt_of_get h.txs
  · exact lt_of_get (h.tok t y hy)
  · exact lt_of_get (h.puts t y hy)

theorem RefAt.of_same {st s : St} {R : RG} (h : RefAt st R) (hs : ∀ j, R.has j → s[j]? = st[j]?) : RefAt s R where
  cells := by rw [hs _ (.inl rfl)]; exact h.cells
  vars := by rw [hs _ (.inr (.inl rfl))]; exact h.vars
  txs := by rw [hs _ (.inr (.inr (.inl rfl)))]; exact h.txs
  len := h.len
  many := h.many
  tok := fun t y hy => by rw [hs _ (.inr (.inr (.inr ⟨t, y, hy, .inl rfl⟩)))]; exact h.tok t y hy
  puts := fun t y hy => by rw [hs _ (.inr (.inr (.inr ⟨t, y, hy, .inr rfl⟩)))]; exact h.puts t y hy
  apart := h.apart
  own := h.own
  ne := h.ne

theorem ref_upd {st s : St} {R R' : RG} (h : RefAt st R) {t : Nat} {y y' : RX} (hy : R.xs[t]? = some y) (hid : R'.id = R.id) (hvid : R'.vid = R.vid) (htid : R'.tid = R.tid) (hxs : R'.xs = R.xs.set t y')
    (h1 : s[R.id]? = some (.cells R'.cells)) (h2 : s[R.vid]? = some (.arr R'.vver 3 (R'.vars.flatMap tvSV))) (h3 : s[R.tid]? = some (.cells (R'.xs.flatMap RX.cells))) (hm : R'.vars.length ≤ 4000) (hlen : st.length ≤ s.length)
    (ho : ∀ j, j ≠ R.id → j ≠ R.vid → j ≠ R.tid → j ≠ y.rid → j ≠ y.pid → j < st.length → s[j]? = st[j]?)
    (k1 : s[y'.rid]? = some (.tok y'.rver)) (k2 : s[y'.pid]? = some (.arr y'.pver 3 (y'.x.puts.flatMap pwSV))) (k3 : y'.rid = y.rid ∨ st.length ≤ y'.rid) (k4 : y'.pid = y.pid ∨ st.length ≤ y'.pid) : RefAt s R' ∧ RFr st R s R' := by
  have hlt := lt_of_get hy
  have hget : ∀ (u : Nat) (z : RX), R'.xs[u]? = some z → (u = t ∧ z = y') ∨ (u ≠ t ∧ R.xs[u]? = some z) := by
    intro u z hz
    rw [hxs] at hz
    by_cases e : u = t
    · subst e
      rw [List.getElem?_set_self hlt] at hz
      exact .inl ⟨rfl, by simpa using hz.symm⟩
    · rw [List.getElem?_set_ne (Ne.symm e)] at hz
      exact .inr ⟨e, hz⟩
  have hsame : ∀ (u : Nat) (z : RX), u ≠ t → R.xs[u]? = some z → s[z.rid]? = st[z.rid]? ∧ s[z.pid]? = st[z.pid]? := by
    intro u z hu hz
    have a := h.apart u t z y hz hy hu
    have r := h.rne hz
    have p := h.pne hz
    exact ⟨ho _ r.1 r.2.1 r.2.2 a.1 (h.rpne hz hy) (lt_of_get (h.tok u z hz)), ho _ p.1 p.2.1 p.2.2 (Ne.symm (h.rpne hy hz)) a.2 (lt_of_get (h.puts u z hz))⟩
  have hap : ∀ (u : Nat) (z : RX), u ≠ t → R.xs[u]? = some z → z.rid ≠ y'.rid ∧ z.pid ≠ y'.pid := by
    intro u z hu hz
    have a := h.apart u t z y hz hy hu
    have l1 := lt_of_get (h.tok u z hz)
    have l2 := lt_of_get (h.puts u z hz)
    refine ⟨fun e => ?_, fun e => ?_⟩
    · rcases k3 with k | k
      · exact a.1 (by rw [e, k])
      · omega
    · rcases k4 with k | k
      · exact a.2 (by rw [e, k])
      · omega
  refine ⟨⟨by rw [hid]; exact h1, by rw [hvid]; exact h2, by rw [htid]; exact h3, by rw [hxs]; simpa using h.len, hm, fun u z hz => ?_, fun u z hz => ?_, fun u u' z z' hz hz' hne => ?_, fun u z hz => ?_, by rw [hid, htid]; exact h.ne⟩, ⟨hlen, fun j hj hn => ?_, fun j hj => ?_, hid⟩⟩
  · rcases hget u z hz with ⟨_, rfl⟩ | ⟨e, f⟩
    · exact k1
    · rw [(hsame u z e f).1]; exact h.tok u z f
  · rcases hget u z hz with ⟨_, rfl⟩ | ⟨e, f⟩
    · exact k2
    · rw [(hsame u z e f).2]; exact h.puts u z f
  · rcases hget u z hz with ⟨e, rfl⟩ | ⟨e, f⟩ <;> rcases hget u' z' hz' with ⟨e', rfl⟩ | ⟨e', f'⟩
    · omega
    · have := hap u' z' e' f'; exact ⟨this.1.symm, this.2.symm⟩
    · exact hap u z e f
    · exact h.apart u u' z z' f f' hne
  · rw [hvid]
    rcases hget u z hz with ⟨_, rfl⟩ | ⟨e, f⟩
    · rcases k4 with k | k
      · rw [k]; exact h.own t y hy
      · have := lt_of_get h.vars; omega
    · exact h.own u z f
  · exact ho j (fun e => hn (.inl e)) (fun e => hn (.inr (.inl e))) (fun e => hn (.inr (.inr (.inl e)))) (fun e => hn (.inr (.inr (.inr ⟨t, y, hy, .inl e⟩)))) (fun e => hn (.inr (.inr (.inr ⟨t, y, hy, .inr e⟩)))) hj
  · rcases hj with e | e | e | ⟨u, z, hz, e⟩
    · exact .inl (.inl (by rw [← hid]; exact e))
    · exact .inl (.inr (.inl (by rw [← hvid]; exact e)))
    · exact .inl (.inr (.inr (.inl (by rw [← htid]; exact e))))
    · rcases hget u z hz with ⟨_, rfl⟩ | ⟨q, f⟩
      · rcases e with rfl | rfl
        · rcases k3 with k | k
          · exact .inl (.inr (.inr (.inr ⟨t, y, hy, .inl k⟩)))
          · exact .inr k
        · rcases k4 with k | k
          · exact .inl (.inr (.inr (.inr ⟨t, y, hy, .inr k⟩)))
          · exact .inr k
      · exact .inl (.inr (.inr (.inr ⟨u, z, f, e⟩)))

theorem set_same {α : Type} {l : List α} {t : Nat} {y : α} (h : l[t]? = some y) : l.set t y = l := by
  refine List.ext_getElem? fun i => ?_
  by_cases e : t = i
  · subst e; rw [List.getElem?_set_self (List.getElem?_eq_some_iff.1 h).1, h]
  · rw [List.getElem?_set_ne e]

/-- The engine's own cells and its vars turn. -/
theorem ref_core {st s : St} {R R' : RG} (h : RefAt st R) (hid : R'.id = R.id) (hvid : R'.vid = R.vid) (htid : R'.tid = R.tid) (hxs : R'.xs = R.xs)
    (h1 : s[R.id]? = some (.cells R'.cells)) (h2 : s[R.vid]? = some (.arr R'.vver 3 (R'.vars.flatMap tvSV))) (hm : R'.vars.length ≤ 4000) (hlen : st.length ≤ s.length)
    (ho : ∀ j, j ≠ R.id → j ≠ R.vid → j < st.length → s[j]? = st[j]?) : RefAt s R' ∧ RFr st R s R' := by
  obtain ⟨y, hy⟩ := h.get (t := 0) (by omega)
  have r := h.rne hy
  have p := h.pne hy
  refine ref_upd h hy (y' := y) hid hvid htid (by rw [set_same hy]; exact hxs) h1 h2 ?_ hm hlen (fun j a b _ _ _ l => ho j a b l) ?_ ?_ (.inl rfl) (.inl rfl)
  · rw [ho _ h.ne.symm h.ntv (lt_of_get h.txs), hxs]; exact h.txs
  · rw [ho _ r.1 r.2.1 (lt_of_get (h.tok _ _ hy))]; exact h.tok _ _ hy
  · rw [ho _ p.1 p.2.1 (lt_of_get (h.puts _ _ hy))]; exact h.puts _ _ hy

/-- The reference as it is without its places. -/
structure RP where
  clock : Int
  vars : List TV
  txs : List RT
def RG.abs (R : RG) : RP := ⟨R.clock, R.vars, R.xs.map RX.x⟩
def RG.setX (R : RG) (t : Nat) (y : RX) : RG := { R with xs := R.xs.set t y }
def RP.put (R : RP) (t : Int) (x : RT) : RP := { R with txs := R.txs.set t.toNat x }
def RP.get (R : RP) (t : Int) : RT := R.txs.getD t.toNat .none
theorem rabs_put (R : RG) (t : Int) (y : RX) : (R.setX t.toNat y).abs = R.abs.put t y.x := by
  simp only [RG.abs, RG.setX, List.map_set]; rfl
theorem rabs_get {R : RG} {t : Int} {y : RX} (h : R.xs[t.toNat]? = some y) : R.abs.get t = y.x := by
  simp only [RG.abs, RP.get, List.getD_eq_getElem?_getD, List.getElem?_map, h]; rfl

end Go.Proofs
