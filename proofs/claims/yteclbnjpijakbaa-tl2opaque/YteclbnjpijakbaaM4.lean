/- The reference engine as data, and what stands for it in memory. -/
import Derived.Test.YteclbnjpijakbaaM3
import Derived.Test.YteclbnjpijakbaaA8
set_option linter.unusedSimpArgs false
set_option linter.unusedVariables false
namespace Go.Proofs
open Go Go.AL

/-! Lists of records in memory. -/
theorem flat_len {α : Type} {f : α → List SV} {z : Nat} (hz : ∀ a, (f a).length = z) (l : List α) : (l.flatMap f).length = l.length * z := by
  induction l with
  | nil => simp
  | cons a r ih => rw [List.flatMap_cons, List.length_append, ih, hz, List.length_cons, Nat.add_mul, Nat.one_mul, Nat.add_comm]

theorem flat_drop {α : Type} {f : α → List SV} {z : Nat} (hz : ∀ a, (f a).length = z) {l : List α} {t : Nat} {x : α} (h : l[t]? = some x) {j : Nat} (hj : j ≤ z) :
    (l.flatMap f).drop (t * z + j) = (f x).drop j ++ (l.flatMap f).drop (t * z + z) := by
  induction l generalizing t with
  | nil => cases h
  | cons a r ih =>
    rw [List.flatMap_cons]
    cases t with
    | zero =>
      cases h
      simp only [Nat.zero_mul, Nat.zero_add]
      have e1 : List.drop z (f x ++ r.flatMap f) = r.flatMap f := by rw [List.drop_left' (hz x)]
      rw [e1, List.drop_append_of_le_length (by rw [hz]; exact hj)]
    | succ t =>
      have h' : r[t]? = some x := by simpa using h
      have := ih h'
      have e1 : (t + 1) * z + j = z + (t * z + j) := by rw [Nat.succ_mul]; omega
      have e2 : (t + 1) * z + z = z + (t * z + z) := by rw [Nat.succ_mul]; omega
      have e3 : ∀ k, List.drop (z + k) (f a ++ r.flatMap f) = (r.flatMap f).drop k := fun k => by rw [← List.drop_drop, List.drop_left' (hz a)]
      rw [e1, e2, e3, e3]
      exact this

theorem flat_put {α : Type} {f : α → List SV} {z : Nat} (hz : ∀ a, (f a).length = z) {l : List α} {t : Nat} {x x' : α} (h : l[t]? = some x) {j : Nat} {v : List SV} (hj : j + v.length ≤ z)
    (he : (f x).take j ++ (v ++ (f x).drop (j + v.length)) = f x') : (l.flatMap f).take (t * z + j) ++ (v ++ (l.flatMap f).drop (t * z + (j + v.length))) = (l.set t x').flatMap f := by
  induction l generalizing t with
  | nil => cases h
  | cons a r ih =>
    cases t with
    | zero =>
      cases h
      simp only [Nat.zero_mul, Nat.zero_add, List.flatMap_cons, List.set_cons_zero]
      rw [← he, List.take_append_of_le_length (by rw [hz]; omega), List.drop_append_of_le_length (by rw [hz]; omega)]
      simp [List.append_assoc]
    | succ t =>
      have h' : r[t]? = some x := by simpa using h
      have := ih h'
      have e1 : (t + 1) * z + j = z + (t * z + j) := by rw [Nat.succ_mul]; omega
      have e2 : (t + 1) * z + (j + v.length) = z + (t * z + (j + v.length)) := by rw [Nat.succ_mul]; omega
      have e0 : List.take (z + (t * z + j)) (f a ++ r.flatMap f) = f a ++ (r.flatMap f).take (t * z + j) := by
        have := List.take_append (l₁ := f a) (l₂ := r.flatMap f) (i := z + (t * z + j))
        rw [this, List.take_of_length_le (by rw [hz]; omega), hz, show z + (t * z + j) - z = t * z + j by omega]
      rw [List.set_cons_succ, List.flatMap_cons, List.flatMap_cons, ← this, e1, e2, e0, ← List.drop_drop, List.drop_left' (hz a), List.append_assoc]

/-- A write of a part. -/
structure PW where
  n : Int
  v : Int
  part : Int
  deriving DecidableEq
instance : Inhabited PW := ⟨⟨0, 0, 0⟩⟩
def pwSV (p : PW) : List SV := [i64 p.n, i64 p.v, i64 p.part]
theorem pw_z : ∀ p, (pwSV p).length = 3 := fun _ => rfl
theorem tv_z : ∀ p, (tvSV p).length = 3 := fun _ => rfl

/-- A thread's transaction. -/
structure RT where
  is : Bool
  start : Int
  reads : List Int
  puts : List PW
  parts : Int
  commits : Bool
  stamp : Int
  done : Int
def RT.none : RT := ⟨false, 0, [], [], 0, false, 0, 0⟩
instance : Inhabited RT := ⟨.none⟩

/-- Where it lies. -/
structure RX where
  rid : Nat
  rver : Nat
  pid : Nat
  pver : Nat
  x : RT

def RX.cells (y : RX) : List SV := [.sc (.bool y.x.is), i64 y.x.start, .slice (.own y.rid y.rver) 1 (y.x.reads.map i64), .arr y.pid y.pver y.x.puts.length, i64 y.x.parts, .sc (.bool y.x.commits), i64 y.x.stamp, i64 y.x.done]
theorem rx_z : ∀ y, (RX.cells y).length = 8 := fun _ => rfl

structure RG where
  id : Nat
  vid : Nat
  vver : Nat
  tid : Nat
  clock : Int
  vars : List TV
  xs : List RX

def RG.cells (R : RG) : List SV := [i64 R.clock, .arr R.vid R.vver R.vars.length, .slc R.tid 8 0 8 8]

structure RefAt (st : St) (R : RG) : Prop where
  cells : st[R.id]? = some (.cells R.cells)
  vars : st[R.vid]? = some (.arr R.vver 3 (R.vars.flatMap tvSV))
  txs : st[R.tid]? = some (.cells (R.xs.flatMap RX.cells))
  len : R.xs.length = 8
  many : R.vars.length ≤ 4000
  tok : ∀ (t : Nat) (y : RX), R.xs[t]? = some y → st[y.rid]? = some (.tok y.rver)
  puts : ∀ (t : Nat) (y : RX), R.xs[t]? = some y → st[y.pid]? = some (.arr y.pver 3 (y.x.puts.flatMap pwSV))
  apart : ∀ (t u : Nat) (y z : RX), R.xs[t]? = some y → R.xs[u]? = some z → t ≠ u → y.rid ≠ z.rid ∧ y.pid ≠ z.pid
  own : ∀ (t : Nat) (y : RX), R.xs[t]? = some y → y.pid ≠ R.vid
  ne : R.id ≠ R.tid

def RG.has (R : RG) (j : Nat) : Prop := j = R.id ∨ j = R.vid ∨ j = R.tid ∨ ∃ (t : Nat) (y : RX), R.xs[t]? = some y ∧ (j = y.rid ∨ j = y.pid)

structure RFr (st : St) (R : RG) (s : St) (R' : RG) : Prop where
  len : st.length ≤ s.length
  old : ∀ j, j < st.length → ¬ R.has j → s[j]? = st[j]?
  new : ∀ j, R'.has j → R.has j ∨ st.length ≤ j
  id : R'.id = R.id

theorem RFr.refl (st : St) (R : RG) : RFr st R st R := ⟨Nat.le_refl _, fun _ _ _ => rfl, fun _ h => .inl h, rfl⟩
theorem RFr.trans {a b c : St} {E F G : RG} (h : RFr a E b F) (k : RFr b F c G) : RFr a E c G := by
  refine ⟨Nat.le_trans h.len k.len, fun j hj hn => ?_, fun j hj => ?_, k.id.trans h.id⟩
  · rw [k.old j (Nat.lt_of_lt_of_le hj h.len) (fun hf => by rcases h.new j hf with h1 | h1; exact hn h1; omega)]
    exact h.old j hj hn
  · rcases k.new j hj with h1 | h1
    · exact h.new j h1
    · exact .inr (Nat.le_trans h.len h1)

/-! Places are apart. -/
section
variable {st : St} {R : RG} (h : RefAt st R)
include h
theorem RefAt.nidv : R.id ≠ R.vid := fun e => by have := h.cells; rw [e, h.vars] at this; cases this
theorem RefAt.ntv : R.tid ≠ R.vid := fun e => by have := h.txs; rw [e, h.vars] at this; cases this
variable {t : Nat} {y : RX} (hy : R.xs[t]? = some y)
include hy
theorem RefAt.rne : y.rid ≠ R.id ∧ y.rid ≠ R.vid ∧ y.rid ≠ R.tid := by
  have k := h.tok t y hy
  refine ⟨fun e => ?_, fun e => ?_, fun e => ?_⟩ <;> rw [e] at k
  · rw [h.cells] at k; cases k
  · rw [h.vars] at k; cases k
  · rw [h.txs] at k; cases k
theorem RefAt.pne : y.pid ≠ R.id ∧ y.pid ≠ R.vid ∧ y.pid ≠ R.tid := by
  have k := h.puts t y hy
  refine ⟨fun e => ?_, h.own t y hy, fun e => ?_⟩ <;> rw [e] at k
  · rw [h.cells] at k; cases k
  · rw [h.txs] at k; cases k
theorem RefAt.rpne {u : Nat} {z : RX} (hz : R.xs[u]? = some z) : y.rid ≠ z.pid := fun e => by
  have k := h.tok t y hy
  rw [e, h.puts u z hz] at k; cases k
end

theorem RefAt.get {st : St} {R : RG} (h : RefAt st R) {t : Nat} (ht : t < 8) : ∃ y, R.xs[t]? = some y := ⟨R.xs[t]'(by rw [h.len]; exact ht), List.getElem?_eq_getElem _⟩

theorem RefAt.has_lt {st : St} {R : RG} (h : RefAt st R) {j : Nat} (hj : R.has j) : j < st.length := by
  rcases hj with rfl | rfl | rfl | ⟨t, y, hy, rfl | rfl⟩
  · exact lt_of_get h.cells
  · exact lt_of_get h.vars
  · exact lt_of_get h.txs
  · exact lt_of_get (h.tok t y hy)
  · exact lt_of_get (h.puts t y hy)

theorem RefAt.of_same {st s : St} {R : RG} (h : RefAt st R) (hs : ∀ j, R.has j → s[j]? = st[j]?) : RefAt s R where
  cells := by rw [hs _ (.inl rfl)]; exact h.cells
  vars := by rw [hs _ (.inr (.inl rfl))]; exact h.vars
  txs := by rw [hs _ (.inr (.inr (.inl rfl)))]; exact h.txs
  len := h.len
  many := h.many
  tok := fun t y hy => by rw [hs _ (.inr (.inr (.inr ⟨t, y, hy, .inl rfl⟩)))]; exact h.tok t y hy
  puts := fun t y hy => by rw [hs _ (.inr (.inr (.inr ⟨t, y, hy, .inr rfl⟩)))]; exact h.puts t y hy
  apart := h.apart
  own := h.own
  ne := h.ne

theorem ref_upd {st s : St} {R R' : RG} (h : RefAt st R) {t : Nat} {y y' : RX} (hy : R.xs[t]? = some y) (hid : R'.id = R.id) (hvid : R'.vid = R.vid) (htid : R'.tid = R.tid) (hxs : R'.xs = R.xs.set t y')
    (h1 : s[R.id]? = some (.cells R'.cells)) (h2 : s[R.vid]? = some (.arr R'.vver 3 (R'.vars.flatMap tvSV))) (h3 : s[R.tid]? = some (.cells (R'.xs.flatMap RX.cells))) (hm : R'.vars.length ≤ 4000) (hlen : st.length ≤ s.length)
    (ho : ∀ j, j ≠ R.id → j ≠ R.vid → j ≠ R.tid → j ≠ y.rid → j ≠ y.pid → j < st.length → s[j]? = st[j]?)
    (k1 : s[y'.rid]? = some (.tok y'.rver)) (k2 : s[y'.pid]? = some (.arr y'.pver 3 (y'.x.puts.flatMap pwSV))) (k3 : y'.rid = y.rid ∨ st.length ≤ y'.rid) (k4 : y'.pid = y.pid ∨ st.length ≤ y'.pid) : RefAt s R' ∧ RFr st R s R' := by
  have hlt := lt_of_get hy
  have hget : ∀ (u : Nat) (z : RX), R'.xs[u]? = some z → (u = t ∧ z = y') ∨ (u ≠ t ∧ R.xs[u]? = some z) := by
    intro u z hz
    rw [hxs] at hz
    by_cases e : u = t
    · subst e
      rw [List.getElem?_set_self hlt] at hz
      exact .inl ⟨rfl, by simpa using hz.symm⟩
    · rw [List.getElem?_set_ne (Ne.symm e)] at hz
      exact .inr ⟨e, hz⟩
  have hsame : ∀ (u : Nat) (z : RX), u ≠ t → R.xs[u]? = some z → s[z.rid]? = st[z.rid]? ∧ s[z.pid]? = st[z.pid]? := by
    intro u z hu hz
    have a := h.apart u t z y hz hy hu
    have r := h.rne hz
    have p := h.pne hz
    exact ⟨ho _ r.1 r.2.1 r.2.2 a.1 (h.rpne hz hy) (lt_of_get (h.tok u z hz)), ho _ p.1 p.2.1 p.2.2 (Ne.symm (h.rpne hy hz)) a.2 (lt_of_get (h.puts u z hz))⟩
  have hap : ∀ (u : Nat) (z : RX), u ≠ t → R.xs[u]? = some z → z.rid ≠ y'.rid ∧ z.pid ≠ y'.pid := by
    intro u z hu hz
    have a := h.apart u t z y hz hy hu
    have l1 := lt_of_get (h.tok u z hz)
    have l2 := lt_of_get (h.puts u z hz)
    refine ⟨fun e => ?_, fun e => ?_⟩
    · rcases k3 with k | k
      · exact a.1 (by rw [e, k])
      · omega
    · rcases k4 with k | k
      · exact a.2 (by rw [e, k])
      · omega
  refine ⟨⟨by rw [hid]; exact h1, by rw [hvid]; exact h2, by rw [htid]; exact h3, by rw [hxs]; simpa using h.len, hm, fun u z hz => ?_, fun u z hz => ?_, fun u u' z z' hz hz' hne => ?_, fun u z hz => ?_, by rw [hid, htid]; exact h.ne⟩, ⟨hlen, fun j hj hn => ?_, fun j hj => ?_, hid⟩⟩
  · rcases hget u z hz with ⟨_, rfl⟩ | ⟨e, f⟩
    · exact k1
    · rw [(hsame u z e f).1]; exact h.tok u z f
  · rcases hget u z hz with ⟨_, rfl⟩ | ⟨e, f⟩
    · exact k2
    · rw [(hsame u z e f).2]; exact h.puts u z f
  · rcases hget u z hz with ⟨e, rfl⟩ | ⟨e, f⟩ <;> rcases hget u' z' hz' with ⟨e', rfl⟩ | ⟨e', f'⟩
    · omega
    · have := hap u' z' e' f'; exact ⟨this.1.symm, this.2.symm⟩
    · exact hap u z e f
    · exact h.apart u u' z z' f f' hne
  · rw [hvid]
    rcases hget u z hz with ⟨_, rfl⟩ | ⟨e, f⟩
    · rcases k4 with k | k
      · rw [k]; exact h.own t y hy
      · have := lt_of_get h.vars; omega
    · exact h.own u z f
  · exact ho j (fun e => hn (.inl e)) (fun e => hn (.inr (.inl e))) (fun e => hn (.inr (.inr (.inl e)))) (fun e => hn (.inr (.inr (.inr ⟨t, y, hy, .inl e⟩)))) (fun e => hn (.inr (.inr (.inr ⟨t, y, hy, .inr e⟩)))) hj
  · rcases hj with e | e | e | ⟨u, z, hz, e⟩
    · exact .inl (.inl (by rw [← hid]; exact e))
    · exact .inl (.inr (.inl (by rw [← hvid]; exact e)))
    · exact .inl (.inr (.inr (.inl (by rw [← htid]; exact e))))
    · rcases hget u z hz with ⟨_, rfl⟩ | ⟨q, f⟩
      · rcases e with rfl | rfl
        · rcases k3 with k | k
          · exact .inl (.inr (.inr (.inr ⟨t, y, hy, .inl k⟩)))
          · exact .inr k
        · rcases k4 with k | k
          · exact .inl (.inr (.inr (.inr ⟨t, y, hy, .inr k⟩)))
          · exact .inr k
      · exact .inl (.inr (.inr (.inr ⟨u, z, f, e⟩)))

theorem set_same {α : Type} {l : List α} {t : Nat} {y : α} (h : l[t]? = some y) : l.set t y = l := by
  refine List.ext_getElem? fun i => ?_
  by_cases e : t = i
  · subst e; rw [List.getElem?_set_self (List.getElem?_eq_some_iff.1 h).1, h]
  · rw [List.getElem?_set_ne e]

/-- The engine's own cells and its vars turn. -/
theorem ref_core {st s : St} {R R' : RG} (h : RefAt st R) (hid : R'.id = R.id) (hvid : R'.vid = R.vid) (htid : R'.tid = R.tid) (hxs : R'.xs = R.xs)
    (h1 : s[R.id]? = some (.cells R'.cells)) (h2 : s[R.vid]? = some (.arr R'.vver 3 (R'.vars.flatMap tvSV))) (hm : R'.vars.length ≤ 4000) (hlen : st.length ≤ s.length)
    (ho : ∀ j, j ≠ R.id → j ≠ R.vid → j < st.length → s[j]? = st[j]?) : RefAt s R' ∧ RFr st R s R' := by
  obtain ⟨y, hy⟩ := h.get (t := 0) (by omega)
  have r := h.rne hy
  have p := h.pne hy
  refine ref_upd h hy (y' := y) hid hvid htid (by rw [set_same hy]; exact hxs) h1 h2 ?_ hm hlen (fun j a b _ _ _ l => ho j a b l) ?_ ?_ (.inl rfl) (.inl rfl)
  · rw [ho _ h.ne.symm h.ntv (lt_of_get h.txs), hxs]; exact h.txs
  · rw [ho _ r.1 r.2.1 (lt_of_get (h.tok _ _ hy))]; exact h.tok _ _ hy
  · rw [ho _ p.1 p.2.1 (lt_of_get (h.puts _ _ hy))]; exact h.puts _ _ hy

/-- The reference as it is without its places. -/
structure RP where
  clock : Int
  vars : List TV
  txs : List RT
def RG.abs (R : RG) : RP := ⟨R.clock, R.vars, R.xs.map RX.x⟩
def RG.setX (R : RG) (t : Nat) (y : RX) : RG := { R with xs := R.xs.set t y }
def RP.put (R : RP) (t : Int) (x : RT) : RP := { R with txs := R.txs.set t.toNat x }
def RP.get (R : RP) (t : Int) : RT := R.txs.getD t.toNat .none
theorem rabs_put (R : RG) (t : Int) (y : RX) : (R.setX t.toNat y).abs = R.abs.put t y.x := by
  simp only [RG.abs, RG.setX, List.map_set]; rfl
theorem rabs_get {R : RG} {t : Int} {y : RX} (h : R.xs[t.toNat]? = some y) : R.abs.get t = y.x := by
  simp only [RG.abs, RP.get, List.getD_eq_getElem?_getD, List.getElem?_map, h]; rfl

end Go.Proofs
set_option linter.unusedSimpArgs false
set_option linter.unusedVariables false
namespace Go.Proofs
open Go Go.AL

structure FineT (b n : Nat) (x : TP) : Prop where
  reads : ∀ k ∈ x.reads, 0 ≤ k ∧ k < (n : Int)
  rlen : x.reads.length ≤ b
  one : 1 ≤ x.maps.length
  mlen : x.maps.length ≤ b + 1
  dom : ∀ m ∈ x.maps, ∀ k, (m k).isSome = true → 0 ≤ k ∧ k < (n : Int)
  left : x.pointed = true → x.left ≠ [] ∧ ∀ k ∈ x.left, 0 ≤ k ∧ k < (n : Int)

structure FineP (b : Nat) (E : EP) : Prop where
  len : E.txs.length = 8
  tx : ∀ (t : Nat) (x : TP), E.txs[t]? = some (some x) → FineT b E.vars.length x
  clk : 0 ≤ E.clock ∧ E.clock ≤ (b : Int)

theorem FineT.mono {b b' n n' : Nat} {x : TP} (h : FineT b n x) (hb : b ≤ b') (hn : n ≤ n') : FineT b' n' x where
  reads := fun k hk => by have := h.reads k hk; omega
  rlen := Nat.le_trans h.rlen hb
  one := h.one
  mlen := by have := h.mlen; omega
  dom := fun m hm k hk => by have := h.dom m hm k hk; omega
  left := fun hp => ⟨(h.left hp).1, fun k hk => by have := (h.left hp).2 k hk; omega⟩

theorem FineP.mono {b b' : Nat} {E : EP} (h : FineP b E) (hb : b ≤ b') : FineP b' E := ⟨h.len, fun t x hx => (h.tx t x hx).mono hb (Nat.le_refl _), by have := h.clk; omega⟩

theorem FineP.fine {b : Nat} {st : St} {E : EG} (hE : EngAt st E) (h : FineP b E.abs) (hb : b ≤ 90000) : Fine E := by
  have key : ∀ (t : Nat) (x : TX), E.txs[t]? = some (some x) → FineT b E.vars.length x.abs := fun t x hx => h.tx t x.abs (by
    show (E.txs.map _)[t]? = _
    rw [List.getElem?_map, hx]; rfl)
  have hl : ∀ (t : Nat) (x : TX), E.txs[t]? = some (some x) → x.mids.length = x.abs.maps.length := fun t x hx => by rw [TX.abs_len, (hE.tx t x hx).len]
  refine ⟨fun t x hx => ⟨(key t x hx).reads, ?_, ?_⟩, fun t x hx => ?_, fun t x hx m hm k hk => (key t x hx).dom (pmGet m) (List.mem_map.2 ⟨m, hm, rfl⟩) k hk, ?_, fun t x hx => (key t x hx).left⟩
  · have := (key t x hx).rlen; exact Nat.le_trans this (by omega)
  · have := (key t x hx).mlen; rw [hl t x hx]; omega
  · have := (key t x hx).one; rw [hl t x hx]; omega
  · have := h.clk; exact ⟨this.1, by have := this.2; show E.clock ≤ _; have h3 : E.abs.clock = E.clock := rfl; omega⟩

theorem finep_set {b b' : Nat} {E E' : EP} (h : FineP b E) (hb : b ≤ b') (t : Nat) (o : Option TP) (hv : E.vars.length ≤ E'.vars.length) (ht : E'.txs = E.txs.set t o) (ho : ∀ x, o = some x → FineT b' E'.vars.length x) (hc : 0 ≤ E'.clock ∧ E'.clock ≤ (b' : Int)) : FineP b' E' := by
  refine ⟨by rw [ht, List.length_set]; exact h.len, fun u x hx => ?_, hc⟩
  rw [ht] at hx
  by_cases e : u = t
  · subst e
    rw [List.getElem?_set] at hx
    simp only [if_true] at hx
    split at hx
    · exact ho x (by simpa using hx)
    · cases hx
  · rw [List.getElem?_set_ne (Ne.symm e)] at hx
    exact (h.tx u x hx).mono hb hv

theorem pof_get {E : EP} {t : Int} {x : TP} (h : E.of t = some x) : (0 ≤ t ∧ t < 8) ∧ E.txs[t.toNat]? = some (some x) := by
  unfold EP.of at h
  split at h
  · rename_i c
    refine ⟨c, ?_⟩
    cases hx : E.txs[t.toNat]? with
    | none => rw [hx] at h; cases h
    | some o => rw [hx] at h; cases h; rfl
  · cases h
theorem popn_get {E : EP} {t : Int} {x : TP} (h : E.opn t = some x) : E.of t = some x ∧ x.commits = false := by
  unfold EP.opn at h
  split at h
  · rename_i y hy
    cases hc : y.commits with
    | true => rw [hc] at h; cases h
    | false => rw [hc] at h; cases h; exact ⟨hy, hc⟩
  · cases h
theorem pis_get {E : EP} {n : Int} (h : E.is n = true) : 0 ≤ n ∧ n < (E.vars.length : Int) := by
  unfold EP.is at h
  simpa using h

theorem clk_mono {b b' : Nat} {E : EP} (h : FineP b E) (hb : b ≤ b') : 0 ≤ E.clock ∧ E.clock ≤ (b' : Int) := by have := h.clk; omega

theorem fine_make {b : Nat} {E : EP} (h : FineP b E) (v : Int) : FineP (b + 1) (makeF E v).2 := by
  unfold makeF
  split
  · refine ⟨h.len, fun u x hx => (h.tx u x hx).mono (by omega) (by simp), clk_mono (b' := b + 1) (E := E) h (by omega)⟩
  · exact h.mono (by omega)

theorem fine_begin {b : Nat} {E : EP} (h : FineP b E) (t : Int) : FineP (b + 1) (beginF E t).2 := by
  unfold beginF
  split
  · refine finep_set (b' := b + 1) h (by omega) t.toNat _ (Nat.le_refl _) rfl (fun x hx => ?_) (clk_mono (b' := b + 1) (E := E) h (by omega))
    cases hx
    exact ⟨fun k hk => (by cases hk), by simp, by simp, by simp, fun m hm k hk => (by simp only [List.mem_singleton] at hm; subst hm; cases hk), fun hp => (by cases hp)⟩
  · exact h.mono (by omega)

theorem fine_put {b b' : Nat} {E : EP} (h : FineP b E) (hb : b ≤ b') (t : Int) (x : TP) (hx : FineT b' E.vars.length x) : FineP b' (E.put t x) :=
  finep_set (b' := b') h hb t.toNat (some x) (Nat.le_refl _) rfl (fun y hy => by cases hy; exact hx) (clk_mono (b' := b') (E := E) h hb)

theorem fine_read {b : Nat} {E : EP} (h : FineP b E) (t n : Int) : FineP (b + 1) (readF E t n).2 := by
  unfold readF
  split
  · exact h.mono (by omega)
  · rename_i x hx
    have hT := h.tx _ x (pof_get (popn_get hx).1).2
    split
    · rename_i hn
      split
      · exact h.mono (by omega)
      · split
        · exact h.mono (by omega)
        · show FineP (b + 1) (if n ∈ x.reads then E else E.put t { x with reads := x.reads ++ [n] })
          split
          · exact h.mono (by omega)
          · refine fine_put (b' := b + 1) h (by omega) t _ ⟨fun k hk => ?_, ?_, hT.one, by have := hT.mlen; show x.maps.length ≤ _; omega, hT.dom, hT.left⟩
            · rcases List.mem_append.1 hk with h1 | h1
              · exact hT.reads k h1
              · simp only [List.mem_singleton] at h1; subst h1; exact pis_get hn
            · have := hT.rlen; simp; omega
    · exact h.mono (by omega)

theorem mem_setTop {x : TP} {f m : FM} (h : m ∈ (x.setTop f).maps) : m ∈ x.maps ∨ m = f := List.mem_or_eq_of_mem_set h

theorem fine_write {b : Nat} {E : EP} (h : FineP b E) (t n v : Int) : FineP (b + 1) (writeF E t n v).2 := by
  unfold writeF
  split
  · rename_i x hx
    have hT := h.tx _ x (pof_get (popn_get hx).1).2
    split
    · rename_i hn
      refine fine_put (b' := b + 1) h (by omega) t _ ⟨hT.reads, by have := hT.rlen; show x.reads.length ≤ _; omega, by simpa [TP.setTop] using hT.one, by have := hT.mlen; simp [TP.setTop]; omega, fun m hm k hk => ?_, hT.left⟩
      rcases mem_setTop hm with h1 | rfl
      · exact hT.dom m h1 k hk
      · unfold fmPut at hk
        split at hk
        · rename_i e; subst e; exact pis_get hn
        · refine hT.dom x.top ?_ k hk
          unfold TP.top
          have := hT.one
          simp [List.getD_eq_getElem?_getD, show x.maps.length - 1 < x.maps.length by omega]
    · exact h.mono (by omega)
  · exact h.mono (by omega)

theorem fine_part {b : Nat} {E : EP} (h : FineP b E) (t : Int) : FineP (b + 1) (partF E t).2 := by
  unfold partF
  split
  · rename_i x hx
    have hT := h.tx _ x (pof_get (popn_get hx).1).2
    refine fine_put (b' := b + 1) h (by omega) t _ ⟨hT.reads, by have := hT.rlen; show x.reads.length ≤ _; omega, by simp, by have := hT.mlen; simp; omega, fun m hm k hk => ?_, hT.left⟩
    rcases List.mem_append.1 hm with h1 | h1
    · exact hT.dom m h1 k hk
    · simp only [List.mem_singleton] at h1; subst h1; cases hk
  · exact h.mono (by omega)

theorem top_in {x : TP} (h : 1 ≤ x.maps.length) : x.top ∈ x.maps := by
  unfold TP.top
  simp [List.getD_eq_getElem?_getD, show x.maps.length - 1 < x.maps.length by omega]

theorem fine_shut {b : Nat} {E : EP} (h : FineP b E) (t : Int) (j : Bool) : FineP (b + 1) (shutF E t j).2 := by
  unfold shutF
  split
  · rename_i x hx
    have hT := h.tx _ x (pof_get (popn_get hx).1).2
    split
    · exact h.mono (by omega)
    · rename_i c
      have hD : FineT (b + 1) E.vars.length x.drop := ⟨hT.reads, by have := hT.rlen; show x.reads.length ≤ _; omega, by simp [TP.drop]; omega, by have := hT.mlen; simp [TP.drop]; omega, fun m hm k hk => hT.dom m ((List.dropLast_sublist _).subset hm) k hk, hT.left⟩
      refine fine_put (b' := b + 1) h (by omega) t _ ?_
      cases j with
      | false => exact hD
      | true =>
        refine ⟨hD.reads, hD.rlen, by simpa [TP.setTop] using hD.one, by simpa [TP.setTop] using hD.mlen, fun m hm k hk => ?_, hD.left⟩
        rcases mem_setTop hm with h1 | rfl
        · exact hD.dom m h1 k hk
        · unfold fmOver at hk
          cases hf : x.top k with
          | some v => exact hT.dom _ (top_in (by omega)) k (by rw [hf]; rfl)
          | none =>
            rw [hf] at hk
            exact hD.dom _ (top_in hD.one) k (by simpa using hk)
  · exact h.mono (by omega)

theorem fine_abort {b : Nat} {E : EP} (h : FineP b E) (t : Int) : FineP (b + 1) (abortF E t).2 := by
  unfold abortF
  split
  · split
    · exact h.mono (by omega)
    · exact finep_set (b' := b + 1) h (by omega) t.toNat none (by simp) rfl (fun x hx => by cases hx) (clk_mono (b' := b + 1) (E := E) h (by omega))
  · exact h.mono (by omega)

theorem lock_len {t : Int} {vars : List TV} {l : List Int} {a : Int × Int} {vs : List TV} (h : lockF t vars l = some (a, vs)) : vs.length = vars.length := by
  induction l with
  | nil => cases h
  | cons n r ih =>
    unfold lockF at h
    split at h
    · exact ih h
    · split at h
      · cases h; simp
      · cases h; rfl

theorem commit_fine {b n : Nat} {x : TP} (h : FineT b n x) : FineT b n x.commit := ⟨h.reads, h.rlen, h.one, h.mlen, h.dom, h.left⟩

theorem put_put (E : EP) (t : Int) (x y : TP) : (E.put t x).put t y = E.put t y := by
  simp [EP.put, List.set_set]

theorem fine_step {b : Nat} {E : EP} (h : FineP b E) (t : Int) : FineP (b + 1) (stepF E t).2 := by
  unfold stepF
  split
  · exact h.mono (by omega)
  · rename_i x hx
    have hT := (h.tx _ x (pof_get hx).2).mono (b' := b + 1) (by omega) (Nat.le_refl _)
    split
    · exact h.mono (by omega)
    · split
      · rename_i hp
        unfold putF
        have hl := hT.left hp
        split
        · rename_i e; exact absurd e hl.1
        · rename_i n r e
          have e' : x.left = n :: r := e
          rw [e'] at hl
          split
          · refine finep_set (b' := b + 1) h (by omega) t.toNat none (by simp [EP.put]) (by simp [EP.put, List.set_set]) (fun x hx => by cases hx) (clk_mono (b' := b + 1) (E := E) h (by omega))
          · rename_i hr
            refine finep_set (b' := b + 1) h (by omega) t.toNat (some _) (by simp [EP.put]) (by simp only [EP.put, List.set_set]; rfl) (fun y hy => ?_) (clk_mono (b' := b + 1) (E := E) h (by omega))
            cases hy
            refine ⟨by simpa [EP.put, TP.commit] using hT.reads, hT.rlen, hT.one, hT.mlen, by simpa [EP.put, TP.commit] using hT.dom, fun _ => ⟨hr, fun k hk => ?_⟩⟩
            have := hl.2 k (by simp [show k ∈ r from hk])
            simpa [EP.put] using this
      · split
        · rename_i a vs hlk
          have hvl := lock_len hlk
          refine finep_set (b' := b + 1) h (by omega) t.toNat (some x.commit) (by show E.vars.length ≤ vs.length; omega) rfl (fun y hy => ?_) (clk_mono (b' := b + 1) (E := E) h (by omega))
          cases hy
          exact (commit_fine hT).mono (Nat.le_refl _) (by show E.vars.length ≤ vs.length; omega)
        · split
          · exact fine_put (b' := b + 1) h (by omega) t _ (commit_fine hT)
          · split
            · exact finep_set (b' := b + 1) h (by omega) t.toNat none (Nat.le_refl _) rfl (fun x hx => by cases hx) (clk_mono (b' := b + 1) (E := E) h (by omega))
            · rename_i hk
              refine finep_set (b' := b + 1) h (by omega) t.toNat (some _) (Nat.le_refl _) rfl (fun y hy => ?_) (by have := h.clk; show 0 ≤ E.clock + 1 ∧ E.clock + 1 ≤ _; omega)
              cases hy
              exact ⟨hT.reads, hT.rlen, hT.one, hT.mlen, hT.dom, fun _ => ⟨hk, fun k hk => (mem_keysUpto.1 hk).1⟩⟩

theorem fine_new : FineP 0 EP.new := by
  refine ⟨rfl, fun t x hx => ?_, by simp [EP.new]⟩
  simp only [EP.new, List.getElem?_replicate] at hx
  split at hx <;> cases hx

end Go.Proofs
set_option linter.unusedSimpArgs false
set_option linter.unusedVariables false
set_option maxRecDepth 8000
namespace Go.Proofs
open Go Go.AL

def RP.has (R : RP) (t : Int) : Bool := decide (0 ≤ t) && decide (t < 8) && (R.get t).is
def RP.opn (R : RP) (t : Int) : Bool := R.has t && !(R.get t).commits
def RP.is (R : RP) (n : Int) : Bool := decide (0 ≤ n) && decide (n < (R.vars.length : Int))

theorem rx_drop {xs : List RX} {t : Nat} {y : RX} (h : xs[t]? = some y) {j : Nat} (hj : j ≤ 8) : (xs.flatMap RX.cells).drop (t * 8 + j) = y.cells.drop j ++ (xs.flatMap RX.cells).drop (t * 8 + 8) := flat_drop rx_z h hj
/-- What lies where. -/
theorem rx_all {xs : List RX} {t : Nat} {y : RX} (h : xs[t]? = some y) :
    (xs.flatMap RX.cells).drop (t * 8) = SV.sc (.bool y.x.is) :: i64 y.x.start :: SV.slice (.own y.rid y.rver) 1 (y.x.reads.map i64) :: SV.arr y.pid y.pver y.x.puts.length :: i64 y.x.parts :: SV.sc (.bool y.x.commits) :: i64 y.x.stamp :: i64 y.x.done :: (xs.flatMap RX.cells).drop (t * 8 + 8) ∧
    (xs.flatMap RX.cells).drop (t * 8 + 1) = i64 y.x.start :: SV.slice (.own y.rid y.rver) 1 (y.x.reads.map i64) :: SV.arr y.pid y.pver y.x.puts.length :: i64 y.x.parts :: SV.sc (.bool y.x.commits) :: i64 y.x.stamp :: i64 y.x.done :: (xs.flatMap RX.cells).drop (t * 8 + 8) ∧
    (xs.flatMap RX.cells).drop (t * 8 + 2) = SV.slice (.own y.rid y.rver) 1 (y.x.reads.map i64) :: SV.arr y.pid y.pver y.x.puts.length :: i64 y.x.parts :: SV.sc (.bool y.x.commits) :: i64 y.x.stamp :: i64 y.x.done :: (xs.flatMap RX.cells).drop (t * 8 + 8) ∧
    (xs.flatMap RX.cells).drop (t * 8 + 3) = SV.arr y.pid y.pver y.x.puts.length :: i64 y.x.parts :: SV.sc (.bool y.x.commits) :: i64 y.x.stamp :: i64 y.x.done :: (xs.flatMap RX.cells).drop (t * 8 + 8) ∧
    (xs.flatMap RX.cells).drop (t * 8 + 4) = i64 y.x.parts :: SV.sc (.bool y.x.commits) :: i64 y.x.stamp :: i64 y.x.done :: (xs.flatMap RX.cells).drop (t * 8 + 8) ∧
    (xs.flatMap RX.cells).drop (t * 8 + 5) = SV.sc (.bool y.x.commits) :: i64 y.x.stamp :: i64 y.x.done :: (xs.flatMap RX.cells).drop (t * 8 + 8) ∧
    (xs.flatMap RX.cells).drop (t * 8 + 6) = i64 y.x.stamp :: i64 y.x.done :: (xs.flatMap RX.cells).drop (t * 8 + 8) ∧
    (xs.flatMap RX.cells).drop (t * 8 + 7) = i64 y.x.done :: (xs.flatMap RX.cells).drop (t * 8 + 8) :=
  ⟨rx_drop h (j := 0) (by decide), rx_drop h (j := 1) (by decide), rx_drop h (j := 2) (by decide), rx_drop h (j := 3) (by decide), rx_drop h (j := 4) (by decide), rx_drop h (j := 5) (by decide), rx_drop h (j := 6) (by decide), rx_drop h (j := 7) (by decide)⟩

theorem has_c {st : St} {R : RG} (hR : RefAt st R) (t : Int) (K : SV → St → Prop) (h : K (.sc (.bool (R.abs.has t))) st) : ACalls Try.prog 67 [.ptr R.id 0, i64 t] K st := by
  refine acalls_go_pure [] Try.func67 rfl Try.results67 Try.ntmps67 ?_
  have f := cells_facts hR.cells
  have g := cells_facts hR.txs
  unfold RP.has at h
  by_cases c : 0 ≤ t
  · by_cases c2 : t < 8
    · obtain ⟨y, hy⟩ := hR.get (t := t.toNat) (by omega)
      have d := rx_all hy
      rw [rabs_get hy] at h
      have c3 : t < ((8 : Nat) : Int) := c2
      simp only [c, c2, decide_true, Bool.true_and] at h
      simp only [go_sem, reduceCtorEq, Nat.reduceAdd, Nat.reduceMul, Nat.reduceLeDiff, Nat.reduceLT, Int.reduceLE, Int.reduceLT, Int.reduceEq, Nat.reduceBEq, Nat.reduceEqDiff, f.1, f.2.1, f.2.2, RG.cells, g.1, g.2.1, g.2.2, c, c2, c3, d.1, d.2.1, d.2.2.1, d.2.2.2.1, d.2.2.2.2.1, d.2.2.2.2.2.1, d.2.2.2.2.2.2.1, d.2.2.2.2.2.2.2]
      exact fin_sc h
    · simp only [c, c2, decide_true, decide_false, Bool.true_and, Bool.false_and] at h
      simp only [go_sem, reduceCtorEq, Nat.reduceAdd, Nat.reduceMul, Nat.reduceLeDiff, Nat.reduceLT, Int.reduceLE, Int.reduceLT, Int.reduceEq, Nat.reduceBEq, Nat.reduceEqDiff, f.1, f.2.1, f.2.2, RG.cells, g.1, g.2.1, g.2.2, c, c2]
      exact fin_sc h
  · simp only [c, decide_false, Bool.false_and] at h
    simp only [go_sem, reduceCtorEq, Nat.reduceAdd, Nat.reduceMul, Nat.reduceLeDiff, Nat.reduceLT, Int.reduceLE, Int.reduceLT, Int.reduceEq, Nat.reduceBEq, Nat.reduceEqDiff, f.1, f.2.1, f.2.2, RG.cells, g.1, g.2.1, g.2.2, c]
    exact fin_sc h


theorem ropen_c {st : St} {R : RG} (hR : RefAt st R) (t : Int) (K : SV → St → Prop) (h : K (.sc (.bool (R.abs.opn t))) st) : ACalls Try.prog 77 [.ptr R.id 0, i64 t] K st := by
  refine acalls_go_pure [] Try.func77 rfl Try.results77 Try.ntmps77 ?_
  have f := cells_facts hR.cells
  have g := cells_facts hR.txs
  have hh := has_c hR t
  unfold RP.opn at h
  cases hb : R.abs.has t with
  | false =>
    rw [hb] at hh h
    simp only [go_sem, reduceCtorEq, Nat.reduceAdd, Nat.reduceMul, Nat.reduceLeDiff, Nat.reduceLT, Int.reduceLE, Int.reduceLT, Int.reduceEq, Nat.reduceBEq, Nat.reduceEqDiff]
    refine hh _ ?_
    simp only [go_sem, reduceCtorEq, Nat.reduceAdd, Nat.reduceMul, Nat.reduceLeDiff, Nat.reduceLT, Int.reduceLE, Int.reduceLT, Int.reduceEq, Nat.reduceBEq, Nat.reduceEqDiff]
    exact fin_sc h
  | true =>
    rw [hb] at hh h
    have hb' := hb
    unfold RP.has at hb'
    simp only [Bool.and_eq_true, decide_eq_true_eq] at hb'
    obtain ⟨⟨c, c2⟩, _⟩ := hb'
    obtain ⟨y, hy⟩ := hR.get (t := t.toNat) (by omega)
    have d := rx_all hy
    rw [rabs_get hy] at h
    have c3 : t < ((8 : Nat) : Int) := c2
    simp only [go_sem, reduceCtorEq, Nat.reduceAdd, Nat.reduceMul, Nat.reduceLeDiff, Nat.reduceLT, Int.reduceLE, Int.reduceLT, Int.reduceEq, Nat.reduceBEq, Nat.reduceEqDiff]
    refine hh _ ?_
    simp only [go_sem, reduceCtorEq, Nat.reduceAdd, Nat.reduceMul, Nat.reduceLeDiff, Nat.reduceLT, Int.reduceLE, Int.reduceLT, Int.reduceEq, Nat.reduceBEq, Nat.reduceEqDiff, f.1, f.2.1, f.2.2, RG.cells, g.1, g.2.1, g.2.2, c, c2, c3, d.1, d.2.1, d.2.2.1, d.2.2.2.1, d.2.2.2.2.1, d.2.2.2.2.2.1, d.2.2.2.2.2.2.1, d.2.2.2.2.2.2.2]
    exact fin_sc h

theorem ris_c {st : St} {R : RG} (hR : RefAt st R) (n : Int) (K : SV → St → Prop) (h : K (.sc (.bool (R.abs.is n))) st) : ACalls Try.prog 78 [.ptr R.id 0, i64 n] K st := by
  refine acalls_go_pure [] Try.func78 rfl Try.results78 Try.ntmps78 ?_
  have f := cells_facts hR.cells
  have v := arr_facts hR.vars
  unfold RP.is at h
  rw [show R.abs.vars = R.vars from rfl] at h
  by_cases c : 0 ≤ n
  · simp only [c, decide_true, Bool.true_and] at h
    simp only [go_sem, reduceCtorEq, Nat.reduceAdd, Nat.reduceMul, Nat.reduceLeDiff, Nat.reduceLT, Int.reduceLE, Int.reduceLT, Int.reduceEq, Nat.reduceBEq, Nat.reduceEqDiff, f.1, f.2.1, f.2.2, RG.cells, v.1, v.2.1, v.2.2.1, v.2.2.2, c]
    exact fin_sc h
  · simp only [c, decide_false, Bool.false_and] at h
    simp only [go_sem, reduceCtorEq, Nat.reduceAdd, Nat.reduceMul, Nat.reduceLeDiff, Nat.reduceLT, Int.reduceLE, Int.reduceLT, Int.reduceEq, Nat.reduceBEq, Nat.reduceEqDiff, f.1, f.2.1, f.2.2, RG.cells, c]
    exact fin_sc h

/-- May a var be read? -/
def lookR (t start : Int) (v : TV) : Int := if 0 ≤ v.lock ∧ v.lock ≠ t then 32 else if v.ver > start then 33 else 0

theorem rlook_c {st : St} {R : RG} (hR : RefAt st R) (t n : Int) {y : RX} (hy : R.xs[t.toNat]? = some y) (ht : 0 ≤ t ∧ t < 8) (hn : 0 ≤ n ∧ n < (R.vars.length : Int)) (K : SV → St → Prop) (h : K (i64 (lookR t y.x.start (R.vars.getD n.toNat default))) st) : ACalls Try.prog 79 [.ptr R.id 0, i64 t, i64 n] K st := by
  refine acalls_go_pure [] Try.func79 rfl Try.results79 Try.ntmps79 ?_
  have f := cells_facts hR.cells
  have v := arr_facts hR.vars
  have g := cells_facts hR.txs
  have d := rx_all hy
  have hv := vars_drop (l := R.vars) (n := n.toNat) (by omega)
  have hv1 := vars_drop1 (l := R.vars) (n := n.toNat) (by omega)
  have hv2 := vars_drop2 (l := R.vars) (n := n.toNat) (by omega)
  obtain ⟨z, hz⟩ : ∃ z, R.vars.getD n.toNat default = z := ⟨_, rfl⟩
  rw [hz] at hv hv1 hv2 h
  unfold lookR at h
  have c3 : t < ((8 : Nat) : Int) := ht.2
  by_cases c0 : 0 ≤ z.lock
  · simp only [go_sem, reduceCtorEq, Nat.reduceAdd, Nat.reduceMul, Nat.reduceLeDiff, Nat.reduceLT, Int.reduceLE, Int.reduceLT, Int.reduceEq, Nat.reduceBEq, Nat.reduceEqDiff, f.1, f.2.1, f.2.2, RG.cells, v.1, v.2.1, v.2.2.1, v.2.2.2, hn.1, hn.2, hv, hv1, hv2, c0]
    by_cases c : z.lock = t
    · rw [if_neg (by simp [c])] at h
      refine ⟨fun e => ?_, fun _ => ?_⟩
      · simp [c] at e
      refine awp_draw [] Try.mixed rfl ?_
      simp only [go_sem, reduceCtorEq, Nat.reduceAdd, Nat.reduceMul, Nat.reduceLeDiff, Nat.reduceLT, Int.reduceLE, Int.reduceLT, Int.reduceEq, Nat.reduceBEq, Nat.reduceEqDiff, f.1, f.2.1, f.2.2, RG.cells, v.1, v.2.1, v.2.2.1, v.2.2.2, g.1, g.2.1, g.2.2, d.1, d.2.1, d.2.2.1, d.2.2.2.1, d.2.2.2.2.1, d.2.2.2.2.2.1, d.2.2.2.2.2.2.1, d.2.2.2.2.2.2.2, hn.1, hn.2, hv, hv1, hv2, ht.1, c3]
      by_cases c2 : z.ver > y.x.start
      · rw [if_pos c2] at h
        have c3 : decide (y.x.start < z.ver) = true := by simpa using c2
        exact ⟨fun _ => fin_sc h, fun e => by rw [c3] at e; cases e⟩
      · rw [if_neg c2] at h
        have c3 : decide (y.x.start < z.ver) = false := by simpa using c2
        exact ⟨fun e => (by rw [c3] at e; cases e), fun _ => fin_sc h⟩
    · rw [if_pos ⟨c0, c⟩] at h
      refine ⟨fun _ => fin_sc h, fun e => ?_⟩
      simp [c] at e
  · rw [if_neg (by simp [c0])] at h
    simp only [go_sem, reduceCtorEq, Nat.reduceAdd, Nat.reduceMul, Nat.reduceLeDiff, Nat.reduceLT, Int.reduceLE, Int.reduceLT, Int.reduceEq, Nat.reduceBEq, Nat.reduceEqDiff, f.1, f.2.1, f.2.2, RG.cells, v.1, v.2.1, v.2.2.1, v.2.2.2, hn.1, hn.2, hv, hv1, hv2, c0]
    refine awp_draw [] Try.mixed rfl ?_
    simp only [go_sem, reduceCtorEq, Nat.reduceAdd, Nat.reduceMul, Nat.reduceLeDiff, Nat.reduceLT, Int.reduceLE, Int.reduceLT, Int.reduceEq, Nat.reduceBEq, Nat.reduceEqDiff, f.1, f.2.1, f.2.2, RG.cells, v.1, v.2.1, v.2.2.1, v.2.2.2, g.1, g.2.1, g.2.2, d.1, d.2.1, d.2.2.1, d.2.2.2.1, d.2.2.2.2.1, d.2.2.2.2.2.1, d.2.2.2.2.2.2.1, d.2.2.2.2.2.2.2, hn.1, hn.2, hv, hv1, hv2, ht.1, c3]
    by_cases c2 : z.ver > y.x.start
    · rw [if_pos c2] at h
      have c3 : decide (y.x.start < z.ver) = true := by simpa using c2
      exact ⟨fun _ => fin_sc h, fun e => by rw [c3] at e; cases e⟩
    · rw [if_neg c2] at h
      have c3 : decide (y.x.start < z.ver) = false := by simpa using c2
      exact ⟨fun e => (by rw [c3] at e; cases e), fun _ => fin_sc h⟩

def validR (t start : Int) (vars : List TV) : List Int → Int
  | [] => 0
  | n :: r => if lookR t start (vars.getD n.toNat default) = 0 then validR t start vars r else lookR t start (vars.getD n.toNat default)

theorem rvalid_c {st : St} {R : RG} (hR : RefAt st R) (t : Int) {y : RX} (hy : R.xs[t.toNat]? = some y) (ht : 0 ≤ t ∧ t < 8) (hr : ∀ n ∈ y.x.reads, 0 ≤ n ∧ n < (R.vars.length : Int)) (hl : y.x.reads.length ≤ 100000) (K : SV → St → Prop)
    (h : K (i64 (validR t y.x.start R.vars y.x.reads)) st) : ACalls Try.prog 68 [.ptr R.id 0, i64 t] K st := by
  refine acalls_go_pure [] Try.func68 rfl Try.results68 Try.ntmps68 ?_
  have f := cells_facts hR.cells
  have g := cells_facts hR.txs
  have d := rx_all hy
  have c3 : t < ((8 : Nat) : Int) := ht.2
  simp only [go_sem, reduceCtorEq, Nat.reduceAdd, Nat.reduceMul, Nat.reduceLeDiff, Nat.reduceLT, Int.reduceLE, Int.reduceLT, Int.reduceEq, Nat.reduceBEq, Nat.reduceEqDiff]
  refine awp_rounds [] (fun m e s => ∃ (k : Nat), k + m = y.x.reads.length ∧ validR t y.x.start R.vars y.x.reads = validR t y.x.start R.vars (y.x.reads.drop k) ∧ e = [.ptr R.id 0, i64 t, .any, .any, .any, i64 k, .any, .any, .any, .any, .any, .any, .any, .any, .any, .any, .any, .any, .any, .any, .any, .any, .any, .any, .any, .any, .any, .any, .any, .any, .any, .any, .any, .any, .any, .any, .any] ∧ s = st) (n := y.x.reads.length) ?_ ⟨0, by omega, rfl, rfl, rfl⟩ ?_
  · repeat (first | exact leEnv_nil | refine leEnv_any _ ?_ | refine leEnv_same _ ?_ | refine leEnv_norm _ ?_)
  rintro m e s ⟨k, hkm, hv, rfl, rfl⟩
  by_cases hlt : k < y.x.reads.length
  · have c1 : (k : Int) < (y.x.reads.length : Int) := by omega
    have hw := wrapS k (by omega)
    have hmem : y.x.reads.getD k 0 ∈ y.x.reads := by simp [List.getD_eq_getElem?_getD, hlt]
    have hlk := rlook_c hR t (y.x.reads.getD k 0) hy ht (hr _ hmem)
    rw [drop_i64 hlt, validR] at hv
    obtain ⟨q, hq⟩ : ∃ q, lookR t y.x.start (R.vars.getD (y.x.reads.getD k 0).toNat default) = q := ⟨_, rfl⟩
    rw [hq] at hlk hv
    have c2 : (0 : Int) ≤ (k : Int) := by omega
    by_cases c : q = 0
    · have cb : (q != 0) = false := by simp [c]
      rw [if_pos c] at hv
      simp only [go_sem, reduceCtorEq, Nat.reduceAdd, Nat.reduceMul, Nat.reduceLeDiff, Nat.reduceLT, Int.reduceLE, Int.reduceLT, Int.reduceEq, Nat.reduceBEq, Nat.reduceEqDiff, f.1, f.2.1, f.2.2, RG.cells, g.1, g.2.1, g.2.2, d.1, d.2.1, d.2.2.1, d.2.2.2.1, d.2.2.2.2.1, d.2.2.2.2.2.1, d.2.2.2.2.2.2.1, d.2.2.2.2.2.2.2, ht.1, c3, c1, c2, getD_i64 hlt, Int.toNat_natCast]
      refine hlk _ ?_
      simp only [go_sem, reduceCtorEq, Nat.reduceAdd, Nat.reduceMul, Nat.reduceLeDiff, Nat.reduceLT, Int.reduceLE, Int.reduceLT, Int.reduceEq, Nat.reduceBEq, Nat.reduceEqDiff, cb, hw]
      refine ⟨m - 1, _, by omega, ?_, k + 1, by omega, hv, rfl⟩
      repeat (first | exact leEnv_nil | refine leEnv_any _ ?_ | refine leEnv_same _ ?_ | refine leEnv_norm _ ?_)
    · have cb : (q != 0) = true := by simp [c]
      rw [if_neg c] at hv
      simp only [go_sem, reduceCtorEq, Nat.reduceAdd, Nat.reduceMul, Nat.reduceLeDiff, Nat.reduceLT, Int.reduceLE, Int.reduceLT, Int.reduceEq, Nat.reduceBEq, Nat.reduceEqDiff, f.1, f.2.1, f.2.2, RG.cells, g.1, g.2.1, g.2.2, d.1, d.2.1, d.2.2.1, d.2.2.2.1, d.2.2.2.2.1, d.2.2.2.2.2.1, d.2.2.2.2.2.2.1, d.2.2.2.2.2.2.2, ht.1, c3, c1, c2, getD_i64 hlt, Int.toNat_natCast]
      refine hlk _ ?_
      simp only [go_sem, reduceCtorEq, Nat.reduceAdd, Nat.reduceMul, Nat.reduceLeDiff, Nat.reduceLT, Int.reduceLE, Int.reduceLT, Int.reduceEq, Nat.reduceBEq, Nat.reduceEqDiff, cb]
      rw [← hv]
      exact fin_sc h
  · obtain rfl : k = y.x.reads.length := by omega
    simp only [go_sem, reduceCtorEq, Nat.reduceAdd, Nat.reduceMul, Nat.reduceLeDiff, Nat.reduceLT, Int.reduceLE, Int.reduceLT, Int.reduceEq, Nat.reduceBEq, Nat.reduceEqDiff, f.1, f.2.1, f.2.2, RG.cells, g.1, g.2.1, g.2.2, d.1, d.2.1, d.2.2.1, d.2.2.2.1, d.2.2.2.2.1, d.2.2.2.2.2.1, d.2.2.2.2.2.2.1, d.2.2.2.2.2.2.2, ht.1, c3, Int.lt_irrefl]
    rw [hv, List.drop_length] at h
    exact fin_sc h

theorem rhas_get {R : RP} {t : Int} (h : R.has t = true) : (0 ≤ t ∧ t < 8) ∧ (R.get t).is = true := by
  unfold RP.has at h
  simp only [Bool.and_eq_true, decide_eq_true_eq] at h
  exact h
theorem ropn_get {R : RP} {t : Int} (h : R.opn t = true) : (0 ≤ t ∧ t < 8) ∧ (R.get t).is = true ∧ (R.get t).commits = false := by
  unfold RP.opn at h
  simp only [Bool.and_eq_true, Bool.not_eq_true'] at h
  exact ⟨(rhas_get h.1).1, (rhas_get h.1).2, h.2⟩

theorem RefAt.at {st : St} {R : RG} (h : RefAt st R) {t : Int} (ht : 0 ≤ t ∧ t < 8) : ∃ y, R.xs[t.toNat]? = some y ∧ R.abs.get t = y.x := by
  obtain ⟨y, hy⟩ := h.get (t := t.toNat) (by omega)
  exact ⟨y, hy, rabs_get hy⟩

/-- What is kept of a reference. -/
structure FineR (b : Nat) (R : RP) : Prop where
  reads : ∀ (t : Nat) (x : RT), R.txs[t]? = some x → (∀ n ∈ x.reads, 0 ≤ n ∧ n < (R.vars.length : Int)) ∧ x.reads.length ≤ b
  puts : ∀ (t : Nat) (x : RT), R.txs[t]? = some x → (∀ p ∈ x.puts, 0 ≤ p.n ∧ p.n < (R.vars.length : Int)) ∧ x.puts.length ≤ b
  parts : ∀ (t : Nat) (x : RT), R.txs[t]? = some x → 0 ≤ x.parts ∧ x.parts ≤ b + 1
  clk : 0 ≤ R.clock ∧ R.clock ≤ b
  small : b ≤ 90000

theorem FineR.at {b : Nat} {R : RG} (h : FineR b R.abs) {t : Nat} {y : RX} (hy : R.xs[t]? = some y) : R.abs.txs[t]? = some y.x := by
  show (R.xs.map _)[t]? = _
  rw [List.getElem?_map, hy]; rfl

theorem rValid_c {st : St} {R : RG} (hR : RefAt st R) {b : Nat} (hF : FineR b R.abs) (t : Int) (K : SV → St → Prop) (h : K (i64 (if R.abs.opn t = true then validR t (R.abs.get t).start R.vars (R.abs.get t).reads else 1)) st) : ACalls Try.prog 59 [.ptr R.id 0, i64 t] K st := by
  refine acalls_go_pure [] Try.func59 rfl Try.results59 Try.ntmps59 ?_
  have hof := ropen_c hR t
  cases hb : R.abs.opn t with
  | false =>
    rw [hb] at hof h
    simp only [Bool.false_eq_true, if_false] at h
    simp only [go_sem, reduceCtorEq, Nat.reduceAdd, Nat.reduceMul, Nat.reduceLeDiff, Nat.reduceLT, Int.reduceLE, Int.reduceLT, Int.reduceEq, Nat.reduceBEq, Nat.reduceEqDiff]
    refine hof _ ?_
    simp only [go_sem, reduceCtorEq, Nat.reduceAdd, Nat.reduceMul, Nat.reduceLeDiff, Nat.reduceLT, Int.reduceLE, Int.reduceLT, Int.reduceEq, Nat.reduceBEq, Nat.reduceEqDiff]
    exact fin_sc h
  | true =>
    rw [hb] at hof h
    simp only [if_true] at h
    have ho := ropn_get hb
    obtain ⟨y, hy, hg⟩ := hR.at ho.1
    rw [hg] at h
    have hr := hF.reads _ _ (hF.at hy)
    have hvc := rvalid_c hR t hy ho.1 hr.1 (by have := hF.small; omega)
    simp only [go_sem, reduceCtorEq, Nat.reduceAdd, Nat.reduceMul, Nat.reduceLeDiff, Nat.reduceLT, Int.reduceLE, Int.reduceLT, Int.reduceEq, Nat.reduceBEq, Nat.reduceEqDiff]
    refine hof _ ?_
    simp only [go_sem, reduceCtorEq, Nat.reduceAdd, Nat.reduceMul, Nat.reduceLeDiff, Nat.reduceLT, Int.reduceLE, Int.reduceLT, Int.reduceEq, Nat.reduceBEq, Nat.reduceEqDiff]
    refine hvc _ ?_
    simp only [go_sem, reduceCtorEq, Nat.reduceAdd, Nat.reduceMul, Nat.reduceLeDiff, Nat.reduceLT, Int.reduceLE, Int.reduceLT, Int.reduceEq, Nat.reduceBEq, Nat.reduceEqDiff]
    exact fin_sc h

end Go.Proofs
set_option linter.unusedSimpArgs false
set_option linter.unusedVariables false
set_option maxRecDepth 8000
namespace Go.Proofs
open Go Go.AL

def partR (R : RP) (t : Int) : Int × RP := if R.opn t = true then (0, R.put t { R.get t with parts := (R.get t).parts + 1 }) else (1, R)

/-- One record's cells turn. -/
theorem rx_put {xs : List RX} {t : Nat} {y y' : RX} (h : xs[t]? = some y) (j : Nat) (v : List SV) (hv : v.length = 8 - j) (hj : j ≤ 8) (he : y.cells.take j ++ v = y'.cells) :
    (xs.flatMap RX.cells).take (t * 8 + j) ++ (v ++ (xs.flatMap RX.cells).drop (t * 8 + 8)) = (xs.set t y').flatMap RX.cells := by
  have := flat_put (f := RX.cells) rx_z (x' := y') h (j := j) (v := v) (by omega) (by rw [show j + v.length = 8 by omega, List.drop_of_length_le (by rw [rx_z]; omega), List.append_nil]; exact he)
  rwa [show j + v.length = 8 by omega] at this

theorem st_cells {P : St → Prop} {st : St} {i : Nat} {a b : List SV} (e : a = b) (h : P (st.set i (.cells b))) : P (st.set i (.cells a)) := e ▸ h
theorem rx_len {st : St} {R : RG} (hR : RefAt st R) : (R.xs.flatMap RX.cells).length = 64 := by rw [flat_len rx_z, hR.len]

/-- One record turns where it lies. -/
theorem ref_rec {st : St} {R : RG} (h : RefAt st R) {t : Nat} {y y' : RX} (hy : R.xs[t]? = some y) (h1 : y'.rid = y.rid) (h2 : y'.rver = y.rver) (h3 : y'.pid = y.pid) (h4 : y'.pver = y.pver) (h5 : y'.x.puts = y.x.puts) :
    RefAt (st.set R.tid (.cells ((R.xs.set t y').flatMap RX.cells))) (R.setX t y') ∧ RFr st R (st.set R.tid (.cells ((R.xs.set t y').flatMap RX.cells))) (R.setX t y') := by
  have r := h.rne hy
  have p := h.pne hy
  refine ref_upd h hy (y' := y') rfl rfl rfl rfl ?_ ?_ ?_ h.many (by simp) (fun j _ _ a _ _ _ => List.getElem?_set_ne (Ne.symm a)) ?_ ?_ (.inl h1) (.inl h3)
  · exact (List.getElem?_set_ne h.ne.symm).trans h.cells
  · exact (List.getElem?_set_ne h.ntv).trans h.vars
  · exact List.getElem?_set_self (lt_of_get h.txs)
  · rw [h1, h2, List.getElem?_set_ne r.2.2.symm]; exact h.tok _ _ hy
  · rw [h3, h4, h5, List.getElem?_set_ne p.2.2.symm]; exact h.puts _ _ hy

theorem obIds_set {n : Nat} {l : List SV} (h : ObIds n (.cells l)) : ∀ x ∈ l, Ids n x := by rwa [obIds_cells] at h

set_option maxHeartbeats 4000000 in
theorem rpart_c {st : St} {R : RG} (hR : RefAt st R) {b : Nat} (hF : FineR b R.abs) (t : Int) (K : SV → St → Prop)
    (h : ∀ s R', RefAt s R' → RFr st R s R' → R'.abs = (partR R.abs t).2 → K (i64 (partR R.abs t).1) s) : ACalls Try.prog 56 [.ptr R.id 0, i64 t] K st := by
  refine acalls_go (M := []) Try.func56 rfl Try.results56 Try.ntmps56 ?_
  have f := cells_facts hR.cells
  have g := cells_facts hR.txs
  have hof := ropen_c hR t
  unfold partR at h
  cases hb : R.abs.opn t with
  | false =>
    rw [hb] at hof h
    simp only [go_sem, reduceCtorEq, Nat.reduceAdd, Nat.reduceMul, Nat.reduceLeDiff, Nat.reduceLT, Int.reduceLE, Int.reduceLT, Int.reduceEq, Nat.reduceBEq, Nat.reduceEqDiff]
    refine hof _ ?_
    simp only [go_sem, reduceCtorEq, Nat.reduceAdd, Nat.reduceMul, Nat.reduceLeDiff, Nat.reduceLT, Int.reduceLE, Int.reduceLT, Int.reduceEq, Nat.reduceBEq, Nat.reduceEqDiff]
    exact h st R hR (RFr.refl _ _) rfl
  | true =>
    rw [hb] at hof h
    have ho := ropn_get hb
    obtain ⟨y, hy, hg⟩ := hR.at ho.1
    rw [hg] at h
    have d := rx_all hy
    have c3 : t < ((8 : Nat) : Int) := ho.1.2
    have hp := hF.parts _ _ (hF.at hy)
    have hw : IntKind.i64.wrap (y.x.parts + 1) = y.x.parts + 1 := by rw [IntWalk.i64_in _ (by have := hF.small; omega)]
    have key := ref_rec hR hy (y' := { y with x := { y.x with parts := y.x.parts + 1 } }) rfl rfl rfl rfl rfl
    simp only [go_sem, reduceCtorEq, Nat.reduceAdd, Nat.reduceMul, Nat.reduceLeDiff, Nat.reduceLT, Int.reduceLE, Int.reduceLT, Int.reduceEq, Nat.reduceBEq, Nat.reduceEqDiff]
    refine hof _ ?_
    simp only [go_sem, reduceCtorEq, Nat.reduceAdd, Nat.reduceMul, Nat.reduceLeDiff, Nat.reduceLT, Int.reduceLE, Int.reduceLT, Int.reduceEq, Nat.reduceBEq, Nat.reduceEqDiff, f.1, f.2.1, f.2.2, RG.cells, g.1, g.2.1, g.2.2, ho.1.1, c3, d.1, d.2.1, d.2.2.1, d.2.2.2.1, d.2.2.2.2.1, d.2.2.2.2.2.1, d.2.2.2.2.2.2.1, d.2.2.2.2.2.2.2, hw]
    refine ⟨by rw [rx_len hR]; omega, ?_⟩
    refine st_cells (rx_put (y' := { y with x := { y.x with parts := y.x.parts + 1 } }) hy 4 [i64 (y.x.parts + 1), .sc (.bool y.x.commits), i64 y.x.stamp, i64 y.x.done] rfl (by decide) rfl) ?_
    exact h _ _ key.1 key.2 (rabs_put R t _)

def makeR (R : RP) (v : Int) : (Int × Int) × RP := if R.vars.length < 4000 then (((R.vars.length : Int), 0), { R with vars := R.vars ++ [⟨v, 0, -1⟩] }) else ((0, 16), R)

theorem app_vars2 {n : Nat} (h : n ≤ 1000000) : AppOk Try.prog 52 52 3 n := appOk_of Try.aelem52 Try.aelem52 Try.asize69 Try.azero69 rfl Try.abytes69 (by omega) h

set_option maxHeartbeats 4000000 in
theorem rmake_c {st : St} {R : RG} (hR : RefAt st R) (v : Int) (K : SV → St → Prop)
    (h : ∀ s R', RefAt s R' → RFr st R s R' → R'.abs = (makeR R.abs v).2 → K (.tuple [i64 (makeR R.abs v).1.1, i64 (makeR R.abs v).1.2]) s) : ACalls Try.prog 45 [.ptr R.id 0, i64 v] K st := by
  refine acalls_go_mod [] Try.func45 rfl Try.results45 Try.ntmps45 ?_
  have f := cells_facts hR.cells
  have w := arr_facts hR.vars
  have hne := hR.nidv
  have hne' := hR.nidv.symm
  have hlt1 := lt_of_get hR.cells
  have hlt2 := lt_of_get hR.vars
  have hlt3 := lt_of_get hR.txs
  have hmany := hR.many
  by_cases c : R.vars.length < 4000
  · have cb : (4000 : Int) = (R.vars.length : Int) ↔ False := by simp; omega
    have cb' : ((R.vars.length : Int) == (4000 : Int)) = false := by simp; omega
    have hmk : makeR R.abs v = (((R.vars.length : Int), 0), { R.abs with vars := R.vars ++ [⟨v, 0, -1⟩] }) := by
      unfold makeR; rw [if_pos (show R.abs.vars.length < 4000 from c)]; rfl
    rw [hmk] at h
    have htk : (R.vars.flatMap tvSV).take (R.vars.length * 3) = R.vars.flatMap tvSV := List.take_of_length_le (by rw [vars_len]; omega)
    have happ := app_vars2 (n := R.vars.length + 1) (by omega)
    have hw1 : IntKind.i64.wrap (((R.vars.length + 1 : Nat) : Int) - 1) = (R.vars.length : Int) := by rw [IntWalk.i64_in _ (by omega)]; omega
    simp only [go_sem, reduceCtorEq, Nat.reduceAdd, Nat.reduceMul, Nat.reduceLeDiff, Nat.reduceLT, Int.reduceLE, Int.reduceLT, Int.reduceEq, Nat.reduceBEq, Nat.reduceEqDiff, f.1, f.2.1, f.2.2, RG.cells, w.1, w.2.1, w.2.2.1, w.2.2.2, cb', htk, hw1, hne, hne', List.flatMap_cons, List.flatMap_nil]
    have hs : Mod st ((st.set R.vid (.arr (R.vver + 1) 3 (R.vars.flatMap tvSV ++ [i64 v, i64 0, i64 (-1)]))).set R.id (.cells [i64 R.clock, .arr R.vid (R.vver + 1) (R.vars.length + 1), .slc R.tid 8 0 8 8])) := by
      refine ((Mod.refl st).set R.vid _ ?_).set R.id _ ?_
      · rw [obIds_arr]
        refine ids_i64s _ _ fun x hx => ?_
        rcases List.mem_append.1 hx with h1 | h1
        · exact vars_sc _ x h1
        · simp only [List.mem_cons, List.not_mem_nil, or_false] at h1
          rcases h1 with rfl | rfl | rfl <;> exact ⟨_, rfl⟩
      · rw [obIds_cells, List.length_set]
        intro x hx
        simp only [List.mem_cons, List.not_mem_nil, or_false] at hx
        rcases hx with rfl | rfl | rfl
        · exact .sc _
        · exact .arr _ _ _ hlt2
        · exact .slc _ _ _ _ _ hlt3
    have key := ref_core (s := (st.set R.vid (.arr (R.vver + 1) 3 (R.vars.flatMap tvSV ++ [i64 v, i64 0, i64 (-1)]))).set R.id (.cells [i64 R.clock, .arr R.vid (R.vver + 1) (R.vars.length + 1), .slc R.tid 8 0 8 8]))
      (R' := { R with vver := R.vver + 1, vars := R.vars ++ [⟨v, 0, -1⟩] }) hR rfl rfl rfl rfl (by rw [set_get (by simpa using hlt1)]; simp [RG.cells]) (by rw [List.getElem?_set_ne hne, set_get hlt2, List.flatMap_append]; rfl) (by simp; omega) (by simp)
      (fun j j1 j2 j3 => by rw [List.getElem?_set_ne (Ne.symm j1), List.getElem?_set_ne (Ne.symm j2)])
    exact ⟨happ, fin_tup20 hs (h _ _ key.1 key.2 rfl)⟩
  · have c4 : R.vars.length = 4000 := by omega
    have hmk : makeR R.abs v = ((0, 16), R.abs) := by
      unfold makeR; rw [if_neg (show ¬ R.abs.vars.length < 4000 from c)]
    rw [hmk] at h
    have cb' : ((R.vars.length : Int) == (4000 : Int)) = true := by simp; omega
    simp only [go_sem, reduceCtorEq, Nat.reduceAdd, Nat.reduceMul, Nat.reduceLeDiff, Nat.reduceLT, Int.reduceLE, Int.reduceLT, Int.reduceEq, Nat.reduceBEq, Nat.reduceEqDiff, f.1, f.2.1, f.2.2, RG.cells, w.1, w.2.1, w.2.2.1, w.2.2.2, cb']
    exact fin_tup20 (Mod.refl st) (h st R hR (RFr.refl _ _) rfl)

end Go.Proofs
set_option linter.unusedSimpArgs false
set_option linter.unusedVariables false
set_option maxRecDepth 8000
namespace Go.Proofs
open Go Go.AL

/-- The two slices of a record that has just been laid are told as what may be appended to. -/
theorem conv_rec {st : St} {tid : Nat} {A B : List SV} {a0 a1 : SV} {z z' : Nat} (h : st[tid]? = some (.cells (A ++ (a0 :: a1 :: .slice .full z [] :: .slice .full z' [] :: B)))) :
    Conv st (st.set tid (.cells (A ++ (a0 :: a1 :: .slice (.own st.length 0) 1 [] :: .arr (st.length + 1) 0 0 :: B))) ++ [.tok 0, .arr 0 3 []]) := by
  have hlt := lt_of_get h
  have c1 := conv_ownC tid (A.length + 2) 1 z h (by simp) (by simp [List.getD_eq_getElem?_getD])
  have e1 : (A ++ (a0 :: a1 :: SV.slice .full z [] :: SV.slice .full z' [] :: B)).set (A.length + 2) (.slice (.own st.length 0) 1 []) = A ++ (a0 :: a1 :: SV.slice (.own st.length 0) 1 [] :: SV.slice .full z' [] :: B) := by
    rw [List.set_append_right _ _ (by omega)]; simp
  rw [e1] at c1
  have h2 : (st.set tid (.cells (A ++ (a0 :: a1 :: SV.slice (.own st.length 0) 1 [] :: SV.slice .full z' [] :: B))) ++ [Ob.tok 0])[tid]? = some (.cells (A ++ (a0 :: a1 :: SV.slice (.own st.length 0) 1 [] :: SV.slice .full z' [] :: B))) := by
    rw [List.getElem?_append_left (by simpa using hlt), List.getElem?_set_self hlt]
  have c2 := conv_arrC tid (A.length + 3) 3 z' h2 (by simp) (by simp [List.getD_eq_getElem?_getD])
  have e2 : (A ++ (a0 :: a1 :: SV.slice (.own st.length 0) 1 [] :: SV.slice .full z' [] :: B)).set (A.length + 3) (.arr (st.length + 1) 0 0) = A ++ (a0 :: a1 :: SV.slice (.own st.length 0) 1 [] :: SV.arr (st.length + 1) 0 0 :: B) := by
    rw [List.set_append_right _ _ (by omega)]; simp
  have e3 : (st.set tid (.cells (A ++ (a0 :: a1 :: SV.slice (.own st.length 0) 1 [] :: SV.slice .full z' [] :: B))) ++ [Ob.tok 0]).length = st.length + 1 := by simp
  rw [e3, e2, List.set_append_left _ _ (by simpa using hlt), List.set_set, List.append_assoc] at c2
  exact c1.trans c2

def zc : List SV := [.sc (.bool false), i64 0, .slice .full 0 [], .slice .full 0 [], i64 0, .sc (.bool false), i64 0, i64 0]
def recs (n k : Nat) : List RX := (List.range k).map fun t => ⟨n + 2 * t, 0, n + 2 * t + 1, 0, .none⟩
def toks (k : Nat) : St := (List.range k).flatMap fun _ => [.tok 0, .arr 0 3 []]

theorem toks_succ (k : Nat) : toks (k + 1) = toks k ++ [.tok 0, .arr 0 3 []] := by simp [toks, List.range_succ]
theorem toks_len (k : Nat) : (toks k).length = 2 * k := by
  induction k with
  | zero => rfl
  | succ k ih => rw [toks_succ, List.length_append, ih]; simp; omega
theorem recs_succ (n k : Nat) : recs n (k + 1) = recs n k ++ [⟨n + 2 * k, 0, n + 2 * k + 1, 0, .none⟩] := by simp [recs, List.range_succ]

theorem conv_all {st : St} {tid : Nat} {m : Nat} (h : st[tid]? = some (.cells ((List.replicate m zc).flatten))) : ∀ k, k ≤ m →
    Conv st (st.set tid (.cells ((recs st.length k).flatMap RX.cells ++ (List.replicate (m - k) zc).flatten)) ++ toks k) := by
  intro k
  have hlt := lt_of_get h
  induction k with
  | zero =>
    intro _
    have e : st.set tid (.cells ((recs st.length 0).flatMap RX.cells ++ (List.replicate (m - 0) zc).flatten)) ++ toks 0 = st := by
      simp only [recs, toks, List.range_zero, List.map_nil, List.flatMap_nil, List.nil_append, List.append_nil, Nat.sub_zero]
      exact set_same h
    rw [e]; exact Conv.refl _
  | succ k ih =>
    intro hk
    refine (ih (by omega)).trans ?_
    have hz : (List.replicate (m - k) zc).flatten = zc ++ (List.replicate (m - (k + 1)) zc).flatten := by
      rw [show m - k = (m - (k + 1)) + 1 by omega, List.replicate_succ, List.flatten_cons]
    have h1 : (st.set tid (.cells ((recs st.length k).flatMap RX.cells ++ (List.replicate (m - k) zc).flatten)) ++ toks k)[tid]? = some (.cells ((recs st.length k).flatMap RX.cells ++
        (.sc (.bool false) :: i64 0 :: .slice .full 0 [] :: .slice .full 0 [] :: (i64 0 :: .sc (.bool false) :: i64 0 :: i64 0 :: (List.replicate (m - (k + 1)) zc).flatten)))) := by
      rw [List.getElem?_append_left (by simpa using hlt), List.getElem?_set_self hlt, hz]; rfl
    have c := conv_rec h1
    have el : (st.set tid (.cells ((recs st.length k).flatMap RX.cells ++ (List.replicate (m - k) zc).flatten)) ++ toks k).length = st.length + 2 * k := by simp [toks_len]
    rw [el, List.set_append_left _ _ (by simpa using hlt), List.set_set, List.append_assoc, ← toks_succ] at c
    have e2 : (recs st.length (k + 1)).flatMap RX.cells ++ (List.replicate (m - (k + 1)) zc).flatten = (recs st.length k).flatMap RX.cells ++
        (.sc (.bool false) :: i64 0 :: .slice (.own (st.length + 2 * k) 0) 1 [] :: .arr (st.length + 2 * k + 1) 0 0 :: (i64 0 :: .sc (.bool false) :: i64 0 :: i64 0 :: (List.replicate (m - (k + 1)) zc).flatten)) := by
      rw [recs_succ, List.flatMap_append, List.append_assoc]; rfl
    rw [e2]; exact c

def RP.new : RP := ⟨0, [], List.replicate 8 .none⟩
def RG.new (n : Nat) : RG := ⟨n + 1, n + 2, 0, n, 0, [], recs (n + 3) 8⟩

theorem recs_get {n k t : Nat} {y : RX} (h : (recs n k)[t]? = some y) : t < k ∧ y = ⟨n + 2 * t, 0, n + 2 * t + 1, 0, .none⟩ := by
  unfold recs at h
  rw [List.getElem?_map] at h
  by_cases c : t < k
  · rw [List.getElem?_range c] at h
    exact ⟨c, by simpa using h.symm⟩
  · rw [List.getElem?_eq_none (by simpa using c)] at h; cases h

theorem toks_get {k t : Nat} (h : t < k) : (toks k)[2 * t]? = some (.tok 0) ∧ (toks k)[2 * t + 1]? = some (.arr 0 3 []) := by
  induction k with
  | zero => cases h
  | succ k ih =>
    rw [toks_succ]
    have hl := toks_len k
    by_cases e : t = k
    · subst e
      rw [List.getElem?_append_right (by omega), List.getElem?_append_right (by omega), hl]
      simp
    · rw [List.getElem?_append_left (by omega), List.getElem?_append_left (by omega)]
      exact ih (by omega)

theorem rnew_at {st s : St} (hs : s = st ++ [Ob.cells ((recs (st.length + 3) 8).flatMap RX.cells), Ob.cells (RG.new st.length).cells, Ob.arr 0 3 []] ++ toks 8) :
    RefAt s (RG.new st.length) ∧ (RG.new st.length).abs = RP.new ∧ (∀ j, (RG.new st.length).has j → st.length ≤ j) ∧ (∀ j, j < st.length → s[j]? = st[j]?) ∧ st.length ≤ s.length := by
  have g0 : ∀ i, s[st.length + i]? = ([Ob.cells ((recs (st.length + 3) 8).flatMap RX.cells), Ob.cells (RG.new st.length).cells, Ob.arr 0 3 []] ++ toks 8)[i]? := by
    intro i
    rw [hs, List.append_assoc, List.getElem?_append_right (by omega), show st.length + i - st.length = i by omega]
  have g3 : ∀ i, s[st.length + 3 + i]? = (toks 8)[i]? := by
    intro i
    rw [show st.length + 3 + i = st.length + (3 + i) by omega, g0, List.getElem?_append_right (by simp)]
    congr 1
    simp
  refine ⟨⟨g0 1, g0 2, g0 0, rfl, by simp [RG.new], fun t y hy => ?_, fun t y hy => ?_, fun t u y z hy hz hne => ?_, fun t y hy => ?_, by simp [RG.new]⟩, rfl, fun j hj => ?_, fun j hj => ?_, ?_⟩
  · obtain ⟨ht, rfl⟩ := recs_get hy
    show s[st.length + 3 + 2 * t]? = some (.tok 0)
    rw [g3]; exact (toks_get ht).1
  · obtain ⟨ht, rfl⟩ := recs_get hy
    show s[st.length + 3 + 2 * t + 1]? = some (.arr 0 3 [])
    rw [show st.length + 3 + 2 * t + 1 = st.length + 3 + (2 * t + 1) by omega, g3]; exact (toks_get ht).2
  · obtain ⟨ht, rfl⟩ := recs_get hy
    obtain ⟨hu, rfl⟩ := recs_get hz
    simp only [ne_eq]; omega
  · obtain ⟨ht, rfl⟩ := recs_get hy
    simp only [RG.new, ne_eq]; omega
  · rcases hj with e | e | e | ⟨t, y, hy, e⟩
    · simp only [RG.new] at e; omega
    · simp only [RG.new] at e; omega
    · simp only [RG.new] at e; omega
    · obtain ⟨ht, rfl⟩ := recs_get hy
      simp only at e; omega
  · rw [hs, List.append_assoc, List.getElem?_append_left hj]
  · rw [hs]; simp

theorem rnew_c {st : St} (K : SV → St → Prop) (h : ∀ s R, RefAt s R → R.abs = RP.new → (∀ j, R.has j → st.length ≤ j) → (∀ j, j < st.length → s[j]? = st[j]?) → st.length ≤ s.length → K (.ptr R.id 0) s) : ACalls Try.prog 43 [] K st := by
  refine acalls_conv ?_
  refine acalls_go (M := [1, 3]) Try.func43 rfl Try.results43 Try.ntmps43 ?_
  simp only [go_sem, reduceCtorEq, Nat.reduceAdd, Nat.reduceMul, Nat.reduceLeDiff, Nat.reduceLT, Int.reduceLE, Int.reduceLT, Int.reduceEq, Nat.reduceBEq, Nat.reduceEqDiff]
  refine ⟨by decide, ?_⟩
  have hz : zeroL (zerosOf Try.prog 53) (Int.toNat 8) = (List.replicate 8 zc).flatten := rfl
  rw [hz]
  have h0 : (st ++ [Ob.cells (List.replicate 8 zc).flatten, Ob.cells [SV.sc (Value.int IntKind.i64 0), SV.slice Mode.full 0 [], SV.slc (List.length st) 8 0 8 8]])[st.length + 1]? = some (.cells [SV.sc (Value.int IntKind.i64 0), SV.slice Mode.full 0 [], SV.slc (List.length st) 8 0 8 8]) := by
    rw [List.getElem?_append_right (by omega)]; simp
  have c1 := conv_arrC (st.length + 1) 1 3 0 h0 (by simp) rfl
  have e1 : (st ++ [Ob.cells (List.replicate 8 zc).flatten, Ob.cells [SV.sc (Value.int IntKind.i64 0), SV.slice Mode.full 0 [], SV.slc (List.length st) 8 0 8 8]]).length = st.length + 2 := by simp
  rw [e1, List.set_append_right _ _ (by omega)] at c1
  simp only [show st.length + 1 - st.length = 1 by omega, List.set_cons_succ, List.set_cons_zero, List.append_assoc, List.cons_append, List.nil_append] at c1
  have h1 : (st ++ [Ob.cells (List.replicate 8 zc).flatten, Ob.cells [SV.sc (Value.int IntKind.i64 0), .arr (st.length + 2) 0 0, SV.slc (List.length st) 8 0 8 8], Ob.arr 0 3 []])[st.length]? = some (.cells (List.replicate 8 zc).flatten) := by simp
  have c2 := conv_all h1 8 (Nat.le_refl _)
  have e2 : (st ++ [Ob.cells (List.replicate 8 zc).flatten, Ob.cells [SV.sc (Value.int IntKind.i64 0), .arr (st.length + 2) 0 0, SV.slc (List.length st) 8 0 8 8], Ob.arr 0 3 []]).length = st.length + 3 := by simp
  rw [e2, List.set_append_right _ _ (Nat.le_refl _)] at c2
  simp only [Nat.sub_self, List.set_cons_zero, List.replicate_zero, List.flatten_nil, List.append_nil] at c2
  refine ⟨_, c1.trans c2, ?_⟩
  obtain ⟨k1, k2, k3, k4, k5⟩ := rnew_at (st := st) rfl
  exact h _ _ k1 k2 k3 k4 k5

end Go.Proofs
set_option linter.unusedSimpArgs false
set_option linter.unusedVariables false
set_option maxRecDepth 8000
namespace Go.Proofs
open Go Go.AL

def RT.raw (x : RT) : List SV := [.sc (.bool x.is), i64 x.start, .slice .full 0 [], .slice .full 0 [], i64 x.parts, .sc (.bool x.commits), i64 x.stamp, i64 x.done]

/-- A record is laid anew. -/
theorem ref_fresh {st : St} {R : RG} (hR : RefAt st R) {t : Nat} {y : RX} (hy : R.xs[t]? = some y) (x : RT) (h1 : x.reads = []) (h2 : x.puts = []) :
    ∃ s2 R', Conv (st.set R.tid (.cells ((R.xs.flatMap RX.cells).take (t * 8) ++ (x.raw ++ (R.xs.flatMap RX.cells).drop (t * 8 + 8))))) s2 ∧ RefAt s2 R' ∧ RFr st R s2 R' ∧ R'.abs = { R.abs with txs := R.abs.txs.set t x } := by
  have hlt := lt_of_get hR.txs
  have h0 : (st.set R.tid (.cells ((R.xs.flatMap RX.cells).take (t * 8) ++ (x.raw ++ (R.xs.flatMap RX.cells).drop (t * 8 + 8)))))[R.tid]? = some (.cells ((R.xs.flatMap RX.cells).take (t * 8) ++
      (.sc (.bool x.is) :: i64 x.start :: .slice .full 0 [] :: .slice .full 0 [] :: (i64 x.parts :: .sc (.bool x.commits) :: i64 x.stamp :: i64 x.done :: (R.xs.flatMap RX.cells).drop (t * 8 + 8))))) := List.getElem?_set_self hlt
  have c := conv_rec h0
  rw [List.set_set, List.length_set] at c
  have e : (R.xs.flatMap RX.cells).take (t * 8) ++ (.sc (.bool x.is) :: i64 x.start :: .slice (.own st.length 0) 1 [] :: .arr (st.length + 1) 0 0 :: (i64 x.parts :: .sc (.bool x.commits) :: i64 x.stamp :: i64 x.done :: (R.xs.flatMap RX.cells).drop (t * 8 + 8))) =
      (R.xs.set t ⟨st.length, 0, st.length + 1, 0, x⟩).flatMap RX.cells :=
    rx_put (y' := ⟨st.length, 0, st.length + 1, 0, x⟩) hy 0 (RX.cells ⟨st.length, 0, st.length + 1, 0, x⟩) rfl (by decide) rfl |> (fun q => by
      rw [← q]; simp [RX.cells, h1, h2])
  rw [e] at c
  refine ⟨_, R.setX t ⟨st.length, 0, st.length + 1, 0, x⟩, c, ?_⟩
  have g : ∀ j, j < st.length → j ≠ R.tid → (st.set R.tid (.cells ((R.xs.set t ⟨st.length, 0, st.length + 1, 0, x⟩).flatMap RX.cells)) ++ [Ob.tok 0, Ob.arr 0 3 []])[j]? = st[j]? := by
    intro j hj hn
    rw [List.getElem?_append_left (by simpa using hj), List.getElem?_set_ne (Ne.symm hn)]
  have key := ref_upd (s := st.set R.tid (.cells ((R.xs.set t ⟨st.length, 0, st.length + 1, 0, x⟩).flatMap RX.cells)) ++ [Ob.tok 0, Ob.arr 0 3 []]) (R' := R.setX t ⟨st.length, 0, st.length + 1, 0, x⟩) hR hy rfl rfl rfl rfl
    (by rw [g _ (lt_of_get hR.cells) hR.ne]; exact hR.cells) (by rw [g _ (lt_of_get hR.vars) hR.ntv.symm]; exact hR.vars)
    (by rw [List.getElem?_append_left (by simpa using hlt), List.getElem?_set_self hlt]; rfl) hR.many (by simp) (fun j _ _ a _ _ l => g j l a)
    (by rw [List.getElem?_append_right (by simp)]; simp) (by rw [List.getElem?_append_right (by simp)]; simp [h2]) (.inr (Nat.le_refl _)) (.inr (by simp))
  exact ⟨key.1, key.2, by simp only [RG.abs, RG.setX, List.map_set]⟩

def beginR (R : RP) (t : Int) : Int × RP := if 0 ≤ t ∧ t < 8 ∧ (R.get t).is = false then (0, R.put t ⟨true, R.clock, [], [], 1, false, 0, 0⟩) else (1, R)

set_option maxHeartbeats 4000000 in
theorem rbegin_c {st : St} {R : RG} (hR : RefAt st R) (t : Int) (K : SV → St → Prop)
    (h : ∀ s R', RefAt s R' → RFr st R s R' → R'.abs = (beginR R.abs t).2 → K (i64 (beginR R.abs t).1) s) : ACalls Try.prog 53 [.ptr R.id 0, i64 t] K st := by
  have f := cells_facts hR.cells
  have g := cells_facts hR.txs
  unfold beginR at h
  by_cases c : 0 ≤ t ∧ t < 8
  · obtain ⟨y, hy, hg⟩ := hR.at c
    rw [hg] at h
    have d := rx_all hy
    have c1 : (t < 0) = False := eq_false (by omega)
    have c2 : ((7 : Int) < t) = False := eq_false (by omega)
    have c3 : t < ((8 : Nat) : Int) := c.2
    cases hb : y.x.is with
    | true =>
      rw [if_neg (by rw [hb]; simp)] at h
      refine acalls_go_pure [] Try.func53 rfl Try.results53 Try.ntmps53 ?_
      simp only [go_sem, reduceCtorEq, Nat.reduceAdd, Nat.reduceMul, Nat.reduceLeDiff, Nat.reduceLT, Int.reduceLE, Int.reduceLT, Int.reduceEq, Nat.reduceBEq, Nat.reduceEqDiff, f.1, f.2.1, f.2.2, RG.cells, g.1, g.2.1, g.2.2, d.1, d.2.1, d.2.2.1, d.2.2.2.1, d.2.2.2.2.1, d.2.2.2.2.2.1, d.2.2.2.2.2.2.1, d.2.2.2.2.2.2.2, c.1, c1, c2, c3, hb]
      exact fin_sc (h st R hR (RFr.refl _ _) rfl)
    | false =>
      rw [if_pos ⟨c.1, c.2, hb⟩] at h
      refine acalls_conv ?_
      refine acalls_go (M := []) Try.func53 rfl Try.results53 Try.ntmps53 ?_
      simp only [go_sem, reduceCtorEq, Nat.reduceAdd, Nat.reduceMul, Nat.reduceLeDiff, Nat.reduceLT, Int.reduceLE, Int.reduceLT, Int.reduceEq, Nat.reduceBEq, Nat.reduceEqDiff, f.1, f.2.1, f.2.2, RG.cells, g.1, g.2.1, g.2.2, d.1, d.2.1, d.2.2.1, d.2.2.2.1, d.2.2.2.2.1, d.2.2.2.2.2.1, d.2.2.2.2.2.2.1, d.2.2.2.2.2.2.2, c.1, c1, c2, c3, hb]
      refine awp_drawT [] [0, 0, 0, 0, 0, 0, 0, 0, 0, 0, 0, 1] (fun _ => True) Try.mixed rfl trivial ?_
      simp only [go_sem, reduceCtorEq, Nat.reduceAdd, Nat.reduceMul, Nat.reduceLeDiff, Nat.reduceLT, Int.reduceLE, Int.reduceLT, Int.reduceEq, Nat.reduceBEq, Nat.reduceEqDiff, drawU_n, drawU_0, drawU_1, drawU_2, drawU_3, isStore_s, f.1, f.2.1, f.2.2, RG.cells, g.1, g.2.1, g.2.2, c.1, c1, c2, c3]
      refine ⟨.agg (RT.raw ⟨true, R.clock, [], [], 1, false, 0, 0⟩), ?_, ?_⟩
      · simp only [go_sem, reduceCtorEq, Nat.reduceAdd, Nat.reduceMul, Nat.reduceLeDiff, Nat.reduceLT, Int.reduceLE, Int.reduceLT, Int.reduceEq, Nat.reduceBEq, Nat.reduceEqDiff, RT.raw]
        exact ⟨⟨[], by simp⟩, by simp only [go_sem, reduceCtorEq, Nat.reduceAdd, Nat.reduceMul, Nat.reduceLeDiff, Nat.reduceLT, Int.reduceLE, Int.reduceLT, Int.reduceEq, Nat.reduceBEq, Nat.reduceEqDiff]; exact ⟨ids_full0 _ _, ids_full0 _ _⟩, .inl rfl⟩
      obtain ⟨s2, R', k1, k2, k3, k4⟩ := ref_fresh hR hy ⟨true, R.clock, [], [], 1, false, 0, 0⟩ rfl rfl
      exact ⟨rfl, rfl, rfl, by rw [rx_len hR]; show t.toNat * 8 + 8 ≤ 64; omega, s2, k1, h _ _ k2 k3 k4⟩
  · rw [if_neg (fun q => c ⟨q.1, q.2.1⟩)] at h
    refine acalls_go_pure [] Try.func53 rfl Try.results53 Try.ntmps53 ?_
    by_cases c1 : t < 0
    · simp only [go_sem, reduceCtorEq, Nat.reduceAdd, Nat.reduceMul, Nat.reduceLeDiff, Nat.reduceLT, Int.reduceLE, Int.reduceLT, Int.reduceEq, Nat.reduceBEq, Nat.reduceEqDiff, f.1, f.2.1, f.2.2, RG.cells, c1]
      exact fin_sc (h st R hR (RFr.refl _ _) rfl)
    · have c2 : 7 < t := by omega
      simp only [go_sem, reduceCtorEq, Nat.reduceAdd, Nat.reduceMul, Nat.reduceLeDiff, Nat.reduceLT, Int.reduceLE, Int.reduceLT, Int.reduceEq, Nat.reduceBEq, Nat.reduceEqDiff, f.1, f.2.1, f.2.2, RG.cells, c1, c2]
      exact fin_sc (h st R hR (RFr.refl _ _) rfl)

end Go.Proofs
set_option linter.unusedSimpArgs false
set_option linter.unusedVariables false
set_option maxRecDepth 8000
namespace Go.Proofs
open Go Go.AL

def pwV (p : PW) : SV := .agg [i64 p.n, i64 p.v, i64 p.part]

def scanR (part last : Int) : List PW → Option PW → Option PW
  | [], b => b
  | p :: r, b => scanR part last r (if p.part = part ∧ last < p.n ∧ (∀ q, b = some q → p.n < q.n) then some p else b)
def sortG (part : Int) (l : List PW) : Nat → Int → List PW
  | 0, _ => []
  | f + 1, last => match scanR part last l none with
    | none => []
    | some p => p :: sortG part l f p.n
def sortR (part : Int) (l : List PW) : List PW := sortG part l (l.length + 1) (-1)

def left (part last : Int) (l : List PW) : Nat := (l.filter fun p => decide (p.part = part) && decide (last < p.n)).length

theorem scan_some {part last : Int} {l : List PW} {b : Option PW} {p : PW} (h : scanR part last l b = some p) : b = some p ∨ (p ∈ l ∧ p.part = part ∧ last < p.n) := by
  induction l generalizing b with
  | nil => exact .inl h
  | cons q r ih =>
    rcases ih h with h1 | h1
    · split at h1
      · rename_i c
        cases h1
        exact .inr ⟨by simp, c.1, c.2.1⟩
      · exact .inl h1
    · exact .inr ⟨by simp [h1.1], h1.2⟩

theorem left_lt {part last : Int} {l : List PW} {p : PW} (h : p ∈ l) (h1 : p.part = part) (h2 : last < p.n) : left part p.n l < left part last l := by
  unfold left
  induction l with
  | nil => cases h
  | cons q r ih =>
    have hmono : ∀ r : List PW, (r.filter fun q => decide (q.part = part) && decide (p.n < q.n)).length ≤ (r.filter fun q => decide (q.part = part) && decide (last < q.n)).length := by
      intro r
      induction r with
      | nil => simp
      | cons a r ih =>
        simp only [List.filter_cons]
        by_cases c1 : a.part = part <;> by_cases c2 : p.n < a.n <;> by_cases c3 : last < a.n <;> simp [c1, c2, c3] <;> omega
    cases h with
    | head =>
      have := hmono r
      simp only [List.filter_cons, h1, h2, decide_true, Bool.true_and, Int.lt_irrefl, decide_false, Bool.and_false, Bool.false_eq_true, if_false, if_true, List.length_cons]
      omega
    | tail _ h =>
      have := ih h
      simp only [List.filter_cons]
      by_cases c1 : q.part = part <;> by_cases c2 : p.n < q.n <;> by_cases c3 : last < q.n <;> simp [c1, c2, c3] <;> omega

theorem left_le (part last : Int) (l : List PW) : left part last l ≤ l.length := List.length_filter_le _ _

/-- What lies where. -/
theorem pw_all {l : List PW} {k : Nat} {p : PW} (h : l[k]? = some p) :
    (l.flatMap pwSV).drop (k * 3) = i64 p.n :: i64 p.v :: i64 p.part :: (l.flatMap pwSV).drop (k * 3 + 3) ∧
    (l.flatMap pwSV).drop (k * 3 + 1) = i64 p.v :: i64 p.part :: (l.flatMap pwSV).drop (k * 3 + 3) ∧
    (l.flatMap pwSV).drop (k * 3 + 2) = i64 p.part :: (l.flatMap pwSV).drop (k * 3 + 3) :=
  ⟨flat_drop pw_z h (j := 0) (by decide), flat_drop pw_z h (j := 1) (by decide), flat_drop pw_z h (j := 2) (by decide)⟩

def bI : Option Nat → Int
  | none => -1
  | some j => j
theorem bN : bI none = -1 := rfl
theorem bS {j : Nat} : bI (some j) = (j : Int) := rfl

theorem app_puts {n : Nat} (h : n ≤ 1000000) : AppOk Try.prog 48 48 3 n := appOk_of Try.aelem48 Try.aelem48 Try.asize61 Try.azero61 rfl Try.abytes61 (by omega) h

theorem ids_pws (n : Nat) (l : List PW) : Ids n (.slice .imm 3 (l.map pwV)) := by
  refine .slice _ _ _ (fun _ _ e => by cases e) fun i j hi hj => ?_
  simp only [List.length_map] at hi
  have e : (l.map pwV).getD i .any = pwV (l.getD i default) := by simp [List.getD_eq_getElem?_getD, hi]
  have hj3 : j < 3 := hj
  rw [e]
  match j, hj3 with
  | 0, _ => exact .sc _
  | 1, _ => exact .sc _
  | 2, _ => exact .sc _

set_option maxHeartbeats 4000000 in
theorem rsorted_c {st : St} {pid ver : Nat} {l : List PW} (hp : st[pid]? = some (.arr ver 3 (l.flatMap pwSV))) (hl : l.length ≤ 100000) (part : Int) (K : SV → St → Prop)
    (h : K (.slice .imm 3 ((sortR part l).map pwV)) st) : ACalls Try.prog 25 [.arr pid ver l.length, i64 part] K st := by
  refine acalls_go_pure [] Try.func25 rfl Try.results25 Try.ntmps25 ?_
  simp only [go_sem, reduceCtorEq, Nat.reduceAdd, Nat.reduceMul, Nat.reduceLeDiff, Nat.reduceLT, Int.reduceLE, Int.reduceLT, Int.reduceEq, Nat.reduceBEq, Nat.reduceEqDiff]
  refine awp_own 5 3 0 rfl ?_
  simp only [go_sem]
  refine awp_rounds [] (fun m e s => ∃ (X : List PW) (last : Int) (f ver' : Nat), left part last l ≤ f ∧ m = f ∧ X.length + f ≤ l.length ∧ sortR part l = X ++ sortG part l (f + 1) last ∧
    e = [.arr pid ver l.length, i64 part, .any, .any, .any, .slice (.own st.length ver') 3 (X.map pwV), i64 last, .any, .any, .any, .any, .any, .any, .any, .any, .any, .any, .any, .any, .any, .any, .any, .any, .any, .any, .any, .any, .any, .any, .any, .any, .any, .any, .any, .any, .any, .any, .any, .any, .any, .any, .any, .any, .any, .any, .any, .any, .any, .any, .any, .any, .any, .any, .any, .any, .any, .any, .any, .any, .any, .any, .any, .any, .any] ∧ s = st ++ [.tok ver']) (n := l.length) ?_ ⟨[], -1, l.length, 0, left_le _ _ _, rfl, by simp, rfl, rfl, rfl⟩ ?_
  · repeat (first | exact leEnv_nil | refine leEnv_any _ ?_ | refine leEnv_same _ ?_ | refine leEnv_norm _ ?_)
  rintro m e s ⟨X, last, f, ver', hf, rfl, hX, hs, rfl, rfl⟩
  have v := arr_facts (get_app hp [.tok ver'])
  simp only [go_sem, reduceCtorEq, Nat.reduceAdd, Nat.reduceMul, Nat.reduceLeDiff, Nat.reduceLT, Int.reduceLE, Int.reduceLT, Int.reduceEq, Nat.reduceBEq, Nat.reduceEqDiff]
  refine awp_rounds [] (fun q e s => ∃ (k : Nat) (b : Option Nat), k + q = l.length ∧ (∀ j, b = some j → j < l.length) ∧ scanR part last l none = scanR part last (l.drop k) (b.map fun j => l.getD j default) ∧
    e = [.arr pid ver l.length, i64 part, .any, .any, .any, .slice (.own st.length ver') 3 (X.map pwV), i64 last, i64 (bI b), i64 k, .any, .any, .any, .any, .any, .any, .any, .any, .any, .any, .any, .any, .any, .any, .any, .any, .any, .any, .any, .any, .any, .any, .any, .any, .any, .any, .any, .any, .any, .any, .any, .any, .any, .any, .any, .any, .any, .any, .any, .any, .any, .any, .any, .any, .any, .any, .any, .any, .any, .any, .any, .any, .any, .any, .any] ∧ s = st ++ [.tok ver']) (n := l.length) ?_ ⟨0, none, by omega, fun j hj => (by cases hj), rfl, rfl, rfl⟩ ?_
  · repeat (first | exact leEnv_nil | refine leEnv_any _ ?_ | refine leEnv_same _ ?_ | refine leEnv_norm _ ?_)
  rintro q e s ⟨k, b, hkq, hb, hsc, rfl, rfl⟩
  by_cases hlt : k < l.length
  · have c1 : (k : Int) < (l.length : Int) := by omega
    have c0 : (0 : Int) ≤ (k : Int) := by omega
    have hw := wrapS k (by omega)
    have hk : l[k]? = some (l.getD k default) := by simp [List.getD_eq_getElem?_getD, hlt]
    have hd : l.drop k = l.getD k default :: l.drop (k + 1) := by
      rw [List.drop_eq_getElem_cons hlt]; simp [List.getD_eq_getElem?_getD, hlt]
    obtain ⟨p, hpd⟩ : ∃ p, p = l.getD k default := ⟨_, rfl⟩
    rw [← hpd] at hk hd
    have d := pw_all hk
    rw [hd, scanR] at hsc
    simp only [go_sem, reduceCtorEq, Nat.reduceAdd, Nat.reduceMul, Nat.reduceLeDiff, Nat.reduceLT, Int.reduceLE, Int.reduceLT, Int.reduceEq, Nat.reduceBEq, Nat.reduceEqDiff, v.1, v.2.1, v.2.2.1, v.2.2.2, c1]
    refine awp_draw [] Try.mixed rfl ?_
    by_cases e1 : p.part = part
    · have b1 : (p.part == part) = true := by simp [e1]
      by_cases e2 : last < p.n
      · cases b with
        | none =>
          rw [if_pos ⟨e1, e2, fun q hq => by cases hq⟩] at hsc
          simp only [go_sem, reduceCtorEq, Nat.reduceAdd, Nat.reduceMul, Nat.reduceLeDiff, Nat.reduceLT, Int.reduceLE, Int.reduceLT, Int.reduceEq, Nat.reduceBEq, Nat.reduceEqDiff, v.1, v.2.1, v.2.2.1, v.2.2.2, c0, c1, d.1, d.2.1, d.2.2, b1, e2, hw, bN]
          refine ⟨q - 1, _, by omega, ?_, k + 1, some k, by omega, fun j hj => (by cases hj; exact hlt), (by rw [hsc, hpd]; rfl), rfl⟩
          repeat (first | exact leEnv_nil | refine leEnv_any _ ?_ | refine leEnv_same _ ?_ | refine leEnv_norm _ ?_)
        | some j =>
          have hj := hb j rfl
          have hj0 : (0 : Int) ≤ (j : Int) := by omega
          have hj1 : (j : Int) < (l.length : Int) := by omega
          have hj2 : ((j : Int) < 0) = False := eq_false (by omega)
          have hjk : l[j]? = some (l.getD j default) := by simp [List.getD_eq_getElem?_getD, hj]
          obtain ⟨r, hrd⟩ : ∃ r, r = l.getD j default := ⟨_, rfl⟩
          rw [← hrd] at hjk
          have d2 := pw_all hjk
          rw [Option.map_some, ← hrd] at hsc
          by_cases e3 : p.n < r.n
          · rw [if_pos ⟨e1, e2, fun q hq => by cases hq; exact e3⟩] at hsc
            simp only [go_sem, reduceCtorEq, Nat.reduceAdd, Nat.reduceMul, Nat.reduceLeDiff, Nat.reduceLT, Int.reduceLE, Int.reduceLT, Int.reduceEq, Nat.reduceBEq, Nat.reduceEqDiff, v.1, v.2.1, v.2.2.1, v.2.2.2, c0, c1, d.1, d.2.1, d.2.2, b1, e2, e3, hw, bS, hj0, hj1, hj2, Int.toNat_natCast, d2.1, d2.2.1, d2.2.2]
            refine ⟨q - 1, _, by omega, ?_, k + 1, some k, by omega, fun j hj => (by cases hj; exact hlt), (by rw [hsc, hpd]; rfl), rfl⟩
            repeat (first | exact leEnv_nil | refine leEnv_any _ ?_ | refine leEnv_same _ ?_ | refine leEnv_norm _ ?_)
          · rw [if_neg (fun c => e3 (c.2.2 r rfl))] at hsc
            simp only [go_sem, reduceCtorEq, Nat.reduceAdd, Nat.reduceMul, Nat.reduceLeDiff, Nat.reduceLT, Int.reduceLE, Int.reduceLT, Int.reduceEq, Nat.reduceBEq, Nat.reduceEqDiff, v.1, v.2.1, v.2.2.1, v.2.2.2, c0, c1, d.1, d.2.1, d.2.2, b1, e2, e3, hw, bS, hj0, hj1, hj2, Int.toNat_natCast, d2.1, d2.2.1, d2.2.2]
            refine ⟨q - 1, _, by omega, ?_, k + 1, some j, by omega, hb, (by rw [hsc, hrd]; rfl), rfl⟩
            repeat (first | exact leEnv_nil | refine leEnv_any _ ?_ | refine leEnv_same _ ?_ | refine leEnv_norm _ ?_)
      · rw [if_neg (fun c => e2 c.2.1)] at hsc
        simp only [go_sem, reduceCtorEq, Nat.reduceAdd, Nat.reduceMul, Nat.reduceLeDiff, Nat.reduceLT, Int.reduceLE, Int.reduceLT, Int.reduceEq, Nat.reduceBEq, Nat.reduceEqDiff, v.1, v.2.1, v.2.2.1, v.2.2.2, c0, c1, d.1, d.2.1, d.2.2, b1, e2, hw]
        refine ⟨q - 1, _, by omega, ?_, k + 1, b, by omega, hb, hsc, rfl⟩
        repeat (first | exact leEnv_nil | refine leEnv_any _ ?_ | refine leEnv_same _ ?_ | refine leEnv_norm _ ?_)
    · have b1 : (p.part == part) = false := by simp [e1]
      rw [if_neg (fun c => e1 c.1)] at hsc
      simp only [go_sem, reduceCtorEq, Nat.reduceAdd, Nat.reduceMul, Nat.reduceLeDiff, Nat.reduceLT, Int.reduceLE, Int.reduceLT, Int.reduceEq, Nat.reduceBEq, Nat.reduceEqDiff, v.1, v.2.1, v.2.2.1, v.2.2.2, c0, c1, d.1, d.2.1, d.2.2, b1, hw]
      refine ⟨q - 1, _, by omega, ?_, k + 1, b, by omega, hb, hsc, rfl⟩
      repeat (first | exact leEnv_nil | refine leEnv_any _ ?_ | refine leEnv_same _ ?_ | refine leEnv_norm _ ?_)
  · obtain rfl : k = l.length := by omega
    rw [List.drop_length] at hsc
    have hsc : scanR part last l none = b.map fun j => l.getD j default := hsc
    cases b with
    | none =>
      have hfin : sortR part l = X := by rw [hs, sortG, hsc]; simp
      rw [hfin] at h
      simp only [go_sem, reduceCtorEq, Nat.reduceAdd, Nat.reduceMul, Nat.reduceLeDiff, Nat.reduceLT, Int.reduceLE, Int.reduceLT, Int.reduceEq, Nat.reduceBEq, Nat.reduceEqDiff, v.1, v.2.1, v.2.2.1, v.2.2.2, Int.lt_irrefl, bN]
      exact ⟨⟨[.tok ver'], rfl⟩, ids_pws _ _, h⟩
    | some j =>
      have hj := hb j rfl
      have hj0 : (0 : Int) ≤ (j : Int) := by omega
      have hj1 : (j : Int) < (l.length : Int) := by omega
      have hj2 : ((j : Int) < 0) = False := eq_false (by omega)
      have hjk : l[j]? = some (l.getD j default) := by simp [List.getD_eq_getElem?_getD, hj]
      obtain ⟨r, hrd⟩ : ∃ r, r = l.getD j default := ⟨_, rfl⟩
      rw [← hrd] at hjk
      have d2 := pw_all hjk
      have hsc : scanR part last l none = some r := by rw [hsc, hrd]; rfl
      have hr := (scan_some hsc).resolve_left (by intro e; cases e)
      have hll := left_lt hr.1 hr.2.1 hr.2.2
      obtain ⟨f', rfl⟩ : ∃ f', m = f' + 1 := ⟨m - 1, by omega⟩
      have happ := app_puts (n := X.length + 1) (by omega)
      have w := arr_facts (get_app hp [.tok (ver' + 1)])
      simp only [go_sem, reduceCtorEq, Nat.reduceAdd, Nat.reduceMul, Nat.reduceLeDiff, Nat.reduceLT, Int.reduceLE, Int.reduceLT, Int.reduceEq, Nat.reduceBEq, Nat.reduceEqDiff, v.1, v.2.1, v.2.2.1, v.2.2.2, w.1, w.2.1, w.2.2.1, w.2.2.2, Int.lt_irrefl, bS, hj0, hj1, hj2, Int.toNat_natCast, d2.1, d2.2.1, d2.2.2]
      refine ⟨happ, f', _, by omega, ?_, X ++ [r], r.n, f', ver' + 1, by omega, rfl, by simp; omega, by rw [hs, sortG, hsc]; simp, rfl, rfl⟩
      rw [List.map_append]
      repeat (first | exact leEnv_nil | refine leEnv_any _ ?_ | refine leEnv_same _ ?_ | refine leEnv_norm _ ?_)

end Go.Proofs
set_option linter.unusedSimpArgs false
set_option linter.unusedVariables false
set_option maxRecDepth 8000
namespace Go.Proofs
open Go Go.AL

def putR : List PW → Int → Int → Int → List PW
  | [], n, v, p => [⟨n, v, p⟩]
  | q :: r, n, v, p => if q.n = n ∧ q.part = p then ⟨q.n, v, q.part⟩ :: r else q :: putR r n v p
def hasR : List PW → Int → Int → Bool
  | [], _, _ => false
  | q :: r, n, p => if q.n = n ∧ q.part = p then true else hasR r n p

theorem putR_len (l : List PW) (n v p : Int) : (putR l n v p).length = if hasR l n p = true then l.length else l.length + 1 := by
  induction l with
  | nil => rfl
  | cons q r ih =>
    unfold putR hasR
    split
    · simp
    · rw [List.length_cons, ih]
      split <;> simp

theorem putR_app {a b : List PW} {n v p : Int} (h : hasR a n p = false) : putR (a ++ b) n v p = a ++ putR b n v p ∧ hasR (a ++ b) n p = hasR b n p := by
  induction a with
  | nil => exact ⟨rfl, rfl⟩
  | cons q r ih =>
    unfold hasR at h
    split at h
    · cases h
    · rename_i c
      have := ih h
      rw [List.cons_append, putR, hasR, if_neg c, if_neg c, this.1, this.2]
      exact ⟨rfl, rfl⟩

/-- The places behind a put. -/
def pver (ver : Nat) (l : List PW) (n part : Int) : Nat := if hasR l n part = true then ver else ver + 1

set_option maxHeartbeats 4000000 in
theorem rput_c {st : St} {pid ver : Nat} {l : List PW} (hp : st[pid]? = some (.arr ver 3 (l.flatMap pwSV))) (hl : l.length ≤ 100000) (n v part : Int) (K : SV → St → Prop)
    (h : K (.arr pid (pver ver l n part) (putR l n v part).length) (st.set pid (.arr (pver ver l n part) 3 ((putR l n v part).flatMap pwSV)))) : ACalls Try.prog 80 [.arr pid ver l.length, i64 n, i64 v, i64 part] K st := by
  refine acalls_go (M := []) Try.func80 rfl Try.results80 Try.ntmps80 ?_
  have v' := arr_facts hp
  simp only [go_sem, reduceCtorEq, Nat.reduceAdd, Nat.reduceMul, Nat.reduceLeDiff, Nat.reduceLT, Int.reduceLE, Int.reduceLT, Int.reduceEq, Nat.reduceBEq, Nat.reduceEqDiff]
  refine awp_rounds [] (fun m e s => ∃ (k : Nat), k + m = l.length ∧ hasR (l.take k) n part = false ∧ e = [.arr pid ver l.length, i64 n, i64 v, i64 part, .any, .any, .any, .any, .any, i64 k, .any, .any, .any, .any, .any, .any, .any, .any, .any, .any, .any, .any, .any, .any, .any, .any, .any, .any, .any, .any, .any, .any, .any, .any, .any, .any, .any, .any, .any, .any, .any, .any, .any, .any, .any] ∧ s = st) (n := l.length) ?_ ⟨0, by omega, rfl, rfl, rfl⟩ ?_
  · repeat (first | exact leEnv_nil | refine leEnv_any _ ?_ | refine leEnv_same _ ?_ | refine leEnv_norm _ ?_)
  rintro m e s ⟨k, hkm, hno, rfl, rfl⟩
  have hta := putR_app (a := l.take k) (b := l.drop k) (v := v) hno
  rw [List.take_append_drop] at hta
  by_cases hlt : k < l.length
  · have c1 : (k : Int) < (l.length : Int) := by omega
    have c0 : (0 : Int) ≤ (k : Int) := by omega
    have hw := wrapS k (by omega)
    have hk : l[k]? = some (l.getD k default) := by simp [List.getD_eq_getElem?_getD, hlt]
    have hd : l.drop k = l.getD k default :: l.drop (k + 1) := by
      rw [List.drop_eq_getElem_cons hlt]; simp [List.getD_eq_getElem?_getD, hlt]
    have ht : l.take (k + 1) = l.take k ++ [l.getD k default] := by
      rw [List.take_succ_eq_append_getElem hlt]; simp [List.getD_eq_getElem?_getD, hlt]
    obtain ⟨p, hpd⟩ : ∃ p, p = l.getD k default := ⟨_, rfl⟩
    rw [← hpd] at hk hd ht
    have d := pw_all hk
    have hstep : ¬ (p.n = n ∧ p.part = part) → hasR (l.take (k + 1)) n part = false := by
      intro c
      rw [ht, (putR_app (v := v) hno).2, hasR, if_neg c]; rfl
    rw [hd] at hta
    by_cases e1 : p.n = n
    · have b1 : (p.n == n) = true := by simp [e1]
      by_cases e2 : p.part = part
      · have b2 : (p.part == part) = true := by simp [e2]
        rw [putR, hasR, if_pos ⟨e1, e2⟩, if_pos ⟨e1, e2⟩] at hta
        have hput : putR l n v part = l.set k ⟨p.n, v, p.part⟩ := by
          rw [hta.1, List.set_eq_take_append_cons_drop, if_pos hlt]
        have hlen : (putR l n v part).length = l.length := by rw [hput, List.length_set]
        have hpv : pver ver l n part = ver := by unfold pver; rw [if_pos hta.2]
        rw [hpv, hlen, hput] at h
        have hfl := flat_put (f := pwSV) pw_z hk (x' := ⟨p.n, v, p.part⟩) (j := 1) (v := [i64 v, i64 p.part]) (Nat.le_refl 3) rfl
        simp only [go_sem, reduceCtorEq, Nat.reduceAdd, Nat.reduceMul, Nat.reduceLeDiff, Nat.reduceLT, Int.reduceLE, Int.reduceLT, Int.reduceEq, Nat.reduceBEq, Nat.reduceEqDiff, v'.1, v'.2.1, v'.2.2.1, v'.2.2.2, c0, c1, d.1, d.2.1, d.2.2, b1, b2, hw]
        refine ⟨by rw [flat_len pw_z]; omega, ?_⟩
        rw [← hfl] at h
        exact h
      · have b2 : (p.part == part) = false := by simp [e2]
        simp only [go_sem, reduceCtorEq, Nat.reduceAdd, Nat.reduceMul, Nat.reduceLeDiff, Nat.reduceLT, Int.reduceLE, Int.reduceLT, Int.reduceEq, Nat.reduceBEq, Nat.reduceEqDiff, v'.1, v'.2.1, v'.2.2.1, v'.2.2.2, c0, c1, d.1, d.2.1, d.2.2, b1, b2, hw]
        refine ⟨m - 1, _, by omega, ?_, k + 1, by omega, hstep (fun c => e2 c.2), rfl⟩
        repeat (first | exact leEnv_nil | refine leEnv_any _ ?_ | refine leEnv_same _ ?_ | refine leEnv_norm _ ?_)
    · have b1 : (p.n == n) = false := by simp [e1]
      simp only [go_sem, reduceCtorEq, Nat.reduceAdd, Nat.reduceMul, Nat.reduceLeDiff, Nat.reduceLT, Int.reduceLE, Int.reduceLT, Int.reduceEq, Nat.reduceBEq, Nat.reduceEqDiff, v'.1, v'.2.1, v'.2.2.1, v'.2.2.2, c0, c1, d.1, d.2.1, d.2.2, b1, hw]
      refine ⟨m - 1, _, by omega, ?_, k + 1, by omega, hstep (fun c => e1 c.1), rfl⟩
      repeat (first | exact leEnv_nil | refine leEnv_any _ ?_ | refine leEnv_same _ ?_ | refine leEnv_norm _ ?_)
  · obtain rfl : k = l.length := by omega
    rw [List.drop_length] at hta
    rw [List.take_length] at hno
    have hta : putR l n v part = l ++ [⟨n, v, part⟩] := by rw [hta.1, List.take_length]; rfl
    have hpv : pver ver l n part = ver + 1 := by unfold pver; rw [if_neg (by rw [hno]; decide)]
    rw [hpv, hta, List.length_append, List.flatMap_append] at h
    have happ := app_puts (n := l.length + 1) (by omega)
    have htk : (l.flatMap pwSV).take (l.length * 3) = l.flatMap pwSV := List.take_of_length_le (by rw [flat_len pw_z]; omega)
    simp only [go_sem, reduceCtorEq, Nat.reduceAdd, Nat.reduceMul, Nat.reduceLeDiff, Nat.reduceLT, Int.reduceLE, Int.reduceLT, Int.reduceEq, Nat.reduceBEq, Nat.reduceEqDiff, v'.1, v'.2.1, v'.2.2.1, v'.2.2.2, Int.lt_irrefl, htk]
    exact ⟨happ, h⟩

end Go.Proofs
set_option linter.unusedSimpArgs false
set_option linter.unusedVariables false
set_option maxRecDepth 8000
namespace Go.Proofs
open Go Go.AL

def writeR (R : RP) (t n v : Int) : Int × RP := if R.opn t = true ∧ R.is n = true then (0, R.put t { R.get t with puts := putR (R.get t).puts n v (R.get t).parts }) else (1, R)

theorem ref_puts {st : St} {R : RG} (hR : RefAt st R) {t : Nat} {y : RX} (hy : R.xs[t]? = some y) (ver : Nat) (l : List PW) :
    RefAt ((st.set y.pid (.arr ver 3 (l.flatMap pwSV))).set R.tid (.cells ((R.xs.set t { y with pver := ver, x := { y.x with puts := l } }).flatMap RX.cells))) (R.setX t { y with pver := ver, x := { y.x with puts := l } }) ∧
    RFr st R ((st.set y.pid (.arr ver 3 (l.flatMap pwSV))).set R.tid (.cells ((R.xs.set t { y with pver := ver, x := { y.x with puts := l } }).flatMap RX.cells))) (R.setX t { y with pver := ver, x := { y.x with puts := l } }) := by
  have r := hR.rne hy
  have p := hR.pne hy
  have hrp := hR.rpne hy hy
  have g : ∀ j, j ≠ R.tid → j ≠ y.pid → ((st.set y.pid (.arr ver 3 (l.flatMap pwSV))).set R.tid (.cells ((R.xs.set t { y with pver := ver, x := { y.x with puts := l } }).flatMap RX.cells)))[j]? = st[j]? := fun j a b => by
    rw [List.getElem?_set_ne (Ne.symm a), List.getElem?_set_ne (Ne.symm b)]
  refine ref_upd hR hy (y' := { y with pver := ver, x := { y.x with puts := l } }) rfl rfl rfl rfl ?_ ?_ ?_ hR.many (by simp) (fun j _ _ a _ b _ => g j a b) ?_ ?_ (.inl rfl) (.inl rfl)
  · exact (g _ hR.ne p.1.symm).trans hR.cells
  · exact (g _ hR.ntv.symm p.2.1.symm).trans hR.vars
  · exact List.getElem?_set_self (by simpa using lt_of_get hR.txs)
  · exact (g _ r.2.2 hrp).trans (hR.tok _ _ hy)
  · exact (List.getElem?_set_ne p.2.2.symm).trans (List.getElem?_set_self (lt_of_get (hR.puts _ _ hy)))

set_option maxHeartbeats 4000000 in
theorem rwrite_c {st : St} {R : RG} (hR : RefAt st R) {b : Nat} (hF : FineR b R.abs) (t n v : Int) (K : SV → St → Prop)
    (h : ∀ s R', RefAt s R' → RFr st R s R' → R'.abs = (writeR R.abs t n v).2 → K (i64 (writeR R.abs t n v).1) s) : ACalls Try.prog 55 [.ptr R.id 0, i64 t, i64 n, i64 v] K st := by
  refine acalls_go (M := []) Try.func55 rfl Try.results55 Try.ntmps55 ?_
  have f := cells_facts hR.cells
  have g := cells_facts hR.txs
  have hof := ropen_c hR t
  have his := ris_c hR n
  unfold writeR at h
  cases hb : R.abs.opn t with
  | false =>
    rw [hb] at hof
    rw [if_neg (by rw [hb]; simp)] at h
    simp only [go_sem, reduceCtorEq, Nat.reduceAdd, Nat.reduceMul, Nat.reduceLeDiff, Nat.reduceLT, Int.reduceLE, Int.reduceLT, Int.reduceEq, Nat.reduceBEq, Nat.reduceEqDiff]
    refine hof _ ?_
    simp only [go_sem, reduceCtorEq, Nat.reduceAdd, Nat.reduceMul, Nat.reduceLeDiff, Nat.reduceLT, Int.reduceLE, Int.reduceLT, Int.reduceEq, Nat.reduceBEq, Nat.reduceEqDiff]
    refine his _ ?_
    simp only [go_sem, reduceCtorEq, Nat.reduceAdd, Nat.reduceMul, Nat.reduceLeDiff, Nat.reduceLT, Int.reduceLE, Int.reduceLT, Int.reduceEq, Nat.reduceBEq, Nat.reduceEqDiff]
    exact h st R hR (RFr.refl _ _) rfl
  | true =>
    rw [hb] at hof
    cases hi : R.abs.is n with
    | false =>
      rw [hi] at his
      rw [if_neg (by rw [hi]; simp)] at h
      simp only [go_sem, reduceCtorEq, Nat.reduceAdd, Nat.reduceMul, Nat.reduceLeDiff, Nat.reduceLT, Int.reduceLE, Int.reduceLT, Int.reduceEq, Nat.reduceBEq, Nat.reduceEqDiff]
      refine hof _ ?_
      simp only [go_sem, reduceCtorEq, Nat.reduceAdd, Nat.reduceMul, Nat.reduceLeDiff, Nat.reduceLT, Int.reduceLE, Int.reduceLT, Int.reduceEq, Nat.reduceBEq, Nat.reduceEqDiff]
      refine his _ ?_
      simp only [go_sem, reduceCtorEq, Nat.reduceAdd, Nat.reduceMul, Nat.reduceLeDiff, Nat.reduceLT, Int.reduceLE, Int.reduceLT, Int.reduceEq, Nat.reduceBEq, Nat.reduceEqDiff]
      exact h st R hR (RFr.refl _ _) rfl
    | true =>
      rw [hi] at his
      rw [if_pos ⟨hb, hi⟩] at h
      have ho := ropn_get hb
      obtain ⟨y, hy, hg⟩ := hR.at ho.1
      rw [hg] at h
      have d := rx_all hy
      have c3 : t < ((8 : Nat) : Int) := ho.1.2
      have hpu := hF.puts _ _ (hF.at hy)
      have hsm := hF.small
      have hput := rput_c (hR.puts _ _ hy) (by omega) n v y.x.parts
      have key := ref_puts hR hy (pver y.pver y.x.puts n y.x.parts) (putR y.x.puts n v y.x.parts)
      have hne := (hR.pne hy).2.2
      have hne' := hne.symm
      simp only [go_sem, reduceCtorEq, Nat.reduceAdd, Nat.reduceMul, Nat.reduceLeDiff, Nat.reduceLT, Int.reduceLE, Int.reduceLT, Int.reduceEq, Nat.reduceBEq, Nat.reduceEqDiff]
      refine hof _ ?_
      simp only [go_sem, reduceCtorEq, Nat.reduceAdd, Nat.reduceMul, Nat.reduceLeDiff, Nat.reduceLT, Int.reduceLE, Int.reduceLT, Int.reduceEq, Nat.reduceBEq, Nat.reduceEqDiff]
      refine his _ ?_
      simp only [go_sem, reduceCtorEq, Nat.reduceAdd, Nat.reduceMul, Nat.reduceLeDiff, Nat.reduceLT, Int.reduceLE, Int.reduceLT, Int.reduceEq, Nat.reduceBEq, Nat.reduceEqDiff]
      refine awp_drawT [] [2, 2, 2, 2, 2, 0, 0, 0, 0, 0, 0, 0, 0, 0, 0, 0, 0, 0, 0, 0, 0, 0, 0, 3, 2, 2, 1] (fun s => s[R.id]? = some (.cells R.cells)) Try.mixed rfl hR.cells ?_
      simp only [go_sem, reduceCtorEq, Nat.reduceAdd, Nat.reduceMul, Nat.reduceLeDiff, Nat.reduceLT, Int.reduceLE, Int.reduceLT, Int.reduceEq, Nat.reduceBEq, Nat.reduceEqDiff, drawU_n, drawU_0, drawU_1, drawU_2, drawU_3, isStore_s, f.1, f.2.1, f.2.2, RG.cells, g.1, g.2.1, g.2.2, d.1, d.2.1, d.2.2.1, d.2.2.2.1, d.2.2.2.2.1, d.2.2.2.2.2.1, d.2.2.2.2.2.2.1, d.2.2.2.2.2.2.2, ho.1.1, c3]
      refine ⟨fun s hs => ?_, _, _, hput _ ⟨rfl, rfl⟩, ?_⟩
      · have f2 := cells_facts hs
        simp only [go_sem, reduceCtorEq, Nat.reduceAdd, Nat.reduceMul, Nat.reduceLeDiff, Nat.reduceLT, Int.reduceLE, Int.reduceLT, Int.reduceEq, Nat.reduceBEq, Nat.reduceEqDiff, f2.1, f2.2.1, f2.2.2]
      have k3 : (st.set y.pid (.arr (pver y.pver y.x.puts n y.x.parts) 3 ((putR y.x.puts n v y.x.parts).flatMap pwSV)))[R.tid]? = some (.cells (R.xs.flatMap RX.cells)) := (List.getElem?_set_ne hne).trans hR.txs
      have k1 : (st.set y.pid (.arr (pver y.pver y.x.puts n y.x.parts) 3 ((putR y.x.puts n v y.x.parts).flatMap pwSV)))[R.id]? = some (.cells R.cells) := (List.getElem?_set_ne (hR.pne hy).1).trans hR.cells
      have g3 := cells_facts k3
      simp only [go_sem, reduceCtorEq, Nat.reduceAdd, Nat.reduceMul, Nat.reduceLeDiff, Nat.reduceLT, Int.reduceLE, Int.reduceLT, Int.reduceEq, Nat.reduceBEq, Nat.reduceEqDiff, g3.1, g3.2.1, g3.2.2, d.2.2.2.2.1]
      refine ⟨k1, by rw [rx_len hR]; omega, (List.getElem?_set_ne hR.ne.symm).trans k1, ?_⟩
      refine st_cells (rx_put (y' := { y with pver := pver y.pver y.x.puts n y.x.parts, x := { y.x with puts := putR y.x.puts n v y.x.parts } }) hy 3 [.arr y.pid (pver y.pver y.x.puts n y.x.parts) (putR y.x.puts n v y.x.parts).length, i64 y.x.parts, .sc (.bool y.x.commits), i64 y.x.stamp, i64 y.x.done] rfl (by decide) rfl) ?_
      exact h _ _ key.1 key.2 (rabs_put R t _)

end Go.Proofs
