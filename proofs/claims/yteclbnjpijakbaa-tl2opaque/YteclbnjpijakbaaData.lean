/- The engine as data, and what stands for it in memory. -/
import Derived.Test.YteclbnjpijakbaaFacts
import Derived.Test.YteclbnjpijakbaaA8
import Derived.IntWalk
set_option linter.unusedSimpArgs false
namespace Go.Proofs
open Go Go.AL

abbrev i64 (n : Int) : SV := .sc (.int .i64 n)

/-- A var. -/
structure TV where
  val : Int
  ver : Int
  lock : Int
instance : Inhabited TV := ⟨⟨0, 0, 0⟩⟩
def tvSV (v : TV) : List SV := [i64 v.val, i64 v.ver, i64 v.lock]

abbrev PMap := List (Int × Int)
def pmEs (m : PMap) : List (Value × SV) := m.map fun p => (.int .i64 p.1, i64 p.2)

theorem pm_int (m : PMap) : IntKeys (pmEs m) := by
  intro q hq
  obtain ⟨p, _, rfl⟩ := List.mem_map.1 hq
  exact ⟨p.1, rfl⟩

def pmGet (m : PMap) (n : Int) : Option Int := (m.find? fun p => p.1 == n).map (·.2)
def pmPut : PMap → Int → Int → PMap
  | [], n, v => [(n, v)]
  | p :: r, n, v => if p.1 = n then (n, v) :: r else p :: pmPut r n v

/-- A map as a law. -/
abbrev FM := Int → Option Int
def fmPut (f : FM) (n v : Int) : FM := fun k => if k = n then some v else f k

theorem pmGet_put (m : PMap) (n v : Int) : pmGet (pmPut m n v) = fmPut (pmGet m) n v := by
  funext k
  induction m with
  | nil =>
    unfold fmPut pmGet pmPut
    by_cases e : k = n
    · subst e; simp
    · have e' : ¬ n = k := fun h => e h.symm
      simp [e, e']
  | cons p r ih =>
    unfold pmPut
    by_cases e : p.1 = n
    · rw [if_pos e]
      unfold fmPut pmGet
      by_cases e2 : k = n
      · subst e2; simp
      · have e3 : (n == k) = false := by simpa using fun h : n = k => e2 h.symm
        have e4 : (p.1 == k) = false := by rw [e]; exact e3
        simp only [List.find?_cons, e3, e4, e2, if_false]
    · rw [if_neg e]
      unfold fmPut pmGet at ih ⊢
      by_cases e2 : p.1 = k
      · have e3 : ¬ k = n := by rw [← e2]; exact e
        simp [e2, e3]
      · have e4 : (p.1 == k) = false := by simp [e2]
        simp only [List.find?_cons, e4]
        exact ih

theorem pm_keys_put {m : PMap} (h : (m.map (·.1)).Nodup) (n v : Int) : ((pmPut m n v).map (·.1)).Nodup := by
  have hk : ∀ (m : PMap), ∀ k ∈ (pmPut m n v).map (·.1), k ∈ m.map (·.1) ∨ k = n := by
    intro m
    induction m with
    | nil => intro k hk; simp [pmPut] at hk; exact .inr hk
    | cons p r ih =>
      intro k hk
      unfold pmPut at hk
      by_cases e : p.1 = n
      · rw [if_pos e] at hk
        simp only [List.map_cons, List.mem_cons] at hk ⊢
        rcases hk with rfl | hk
        · exact .inr rfl
        · exact .inl (.inr hk)
      · rw [if_neg e] at hk
        simp only [List.map_cons, List.mem_cons] at hk ⊢
        rcases hk with rfl | hk
        · exact .inl (.inl rfl)
        · exact (ih k hk).imp .inr (fun h => h)
  induction m with
  | nil => simp [pmPut]
  | cons p r ih =>
    simp only [List.map_cons, List.nodup_cons] at h
    unfold pmPut
    by_cases e : p.1 = n
    · rw [if_pos e]
      simp only [List.map_cons, List.nodup_cons]
      rw [← e]; exact h
    · rw [if_neg e]
      simp only [List.map_cons, List.nodup_cons]
      refine ⟨fun hm => ?_, ih h.2⟩
      rcases hk r _ hm with h1 | h1
      · exact h.1 h1
      · exact e h1

theorem keyEq_int (a b : Int) : keyEq (.int .i64 a) (.int .i64 b) = decide (a = b) := by simp [keyEq, keyEq1]

theorem pm_idx (m : PMap) (n : Int) : keyIdx (pmEs m) (.int .i64 n) = m.findIdx? fun p => decide (n = p.1) := by
  unfold keyIdx pmEs
  rw [List.findIdx?_map]
  congr 1

theorem pm_put (m : PMap) (n v : Int) : mapPut (pmEs m) (.int .i64 n) (i64 v) = pmEs (pmPut m n v) := by
  induction m with
  | nil => rfl
  | cons p r ih =>
    unfold mapPut at ih ⊢
    rw [pm_idx] at ih ⊢
    rw [List.findIdx?_cons]
    by_cases e : n = p.1
    · simp [e, pmPut, pmEs]
    · have e' : ¬ p.1 = n := fun h => e h.symm
      simp only [e, decide_false, Bool.false_eq_true, if_false]
      unfold pmPut
      rw [if_neg e']
      cases hf : r.findIdx? (fun p => decide (n = p.1)) with
      | none =>
        rw [hf] at ih
        simp only [Option.map_none]
        show pmEs (p :: r) ++ _ = (.int .i64 p.1, i64 p.2) :: pmEs (pmPut r n v)
        rw [← ih]; rfl
      | some j =>
        rw [hf] at ih
        simp only [Option.map_some]
        show (pmEs (p :: r)).set (j + 1) _ = (.int .i64 p.1, i64 p.2) :: pmEs (pmPut r n v)
        rw [← ih]
        rfl

theorem pm_get (m : PMap) (n : Int) (z : Int) : getOr (pmEs m) (i64 z) n = (i64 ((pmGet m n).getD z), (pmGet m n).isSome) := by
  unfold getOr
  rw [pm_idx]
  induction m with
  | nil => rfl
  | cons p r ih =>
    rw [List.findIdx?_cons]
    unfold pmGet at ih ⊢
    by_cases e : n = p.1
    · simp [e, pmEs]
    · have e' : (p.1 == n) = false := by simp; exact fun h => e h.symm
      simp only [e, decide_false, Bool.false_eq_true, if_false, List.find?_cons, e']
      cases hf : r.findIdx? (fun p => decide (n = p.1)) with
      | none => rw [hf] at ih; exact ih
      | some j =>
        rw [hf] at ih
        simp only [Option.map_some]
        exact ih

/-- A transaction; where it lies. -/
structure TX where
  id : Nat
  rid : Nat
  rver : Nat
  pid : Nat
  pver : Nat
  mids : List Nat
  start : Int
  stamp : Int
  reads : List Int
  maps : List PMap
  commits : Bool
  pointed : Bool
  left : List Int

def TX.cells (x : TX) : List SV := [i64 x.start, i64 x.stamp, .slice (.own x.rid x.rver) 1 (x.reads.map i64), .arr x.pid x.pver x.mids.length, .sc (.bool x.commits), .sc (.bool x.pointed), .slice .imm 1 (x.left.map i64)]

structure TxAt (st : St) (x : TX) : Prop where
  cells : st[x.id]? = some (.cells x.cells)
  tok : st[x.rid]? = some (.tok x.rver)
  parts : ∃ cs, st[x.pid]? = some (.arr x.pver 1 cs) ∧ x.mids.length ≤ cs.length ∧ cs.take x.mids.length = x.mids.map .mp
  len : x.maps.length = x.mids.length
  maps : ∀ i, i < x.mids.length → st[x.mids.getD i 0]? = some (.map (pmEs (x.maps.getD i [])))
  nodup : x.mids.Nodup
  keys : ∀ m ∈ x.maps, (m.map (·.1)).Nodup

/-- An engine; where it lies. -/
structure EG where
  id : Nat
  vid : Nat
  vver : Nat
  clock : Int
  vars : List TV
  txs : List (Option TX)

def txSV : Option TX → SV
  | none => .sc (.pointer none)
  | some x => .ptr x.id 0

def EG.cells (E : EG) : List SV := i64 E.clock :: .arr E.vid E.vver E.vars.length :: E.txs.map txSV

structure EngAt (st : St) (E : EG) : Prop where
  cells : st[E.id]? = some (.cells E.cells)
  vars : st[E.vid]? = some (.arr E.vver 3 (E.vars.flatMap tvSV))
  len : E.txs.length = 8
  many : E.vars.length ≤ 4000
  tx : ∀ (t : Nat) (x : TX), E.txs[t]? = some (some x) → TxAt st x
  apart : ∀ (t t' : Nat) (x x' : TX), E.txs[t]? = some (some x) → E.txs[t']? = some (some x') → t ≠ t' → x.id ≠ x'.id ∧ x.rid ≠ x'.rid ∧ x.pid ≠ x'.pid ∧ ∀ m ∈ x.mids, m ∉ x'.mids
  own : ∀ (t : Nat) (x : TX), E.txs[t]? = some (some x) → x.id ≠ E.id ∧ x.pid ≠ E.vid

/-- Whose an object is. -/
def TX.has (x : TX) (j : Nat) : Prop := j = x.id ∨ j = x.rid ∨ j = x.pid ∨ j ∈ x.mids
def EG.has (E : EG) (j : Nat) : Prop := j = E.id ∨ j = E.vid ∨ ∃ (t : Nat) (x : TX), E.txs[t]? = some (some x) ∧ x.has j

/-- What else was there is as it was. -/
structure Fr (st : St) (E : EG) (s : St) (E' : EG) : Prop where
  len : st.length ≤ s.length
  old : ∀ j, j < st.length → ¬ E.has j → s[j]? = st[j]?
  new : ∀ j, E'.has j → E.has j ∨ st.length ≤ j
  id : E'.id = E.id

theorem Fr.refl (st : St) (E : EG) : Fr st E st E := ⟨Nat.le_refl _, fun _ _ _ => rfl, fun _ h => .inl h, rfl⟩
theorem Fr.trans {a b c : St} {E F G : EG} (h : Fr a E b F) (k : Fr b F c G) : Fr a E c G := by
  refine ⟨Nat.le_trans h.len k.len, fun j hj hn => ?_, fun j hj => ?_, k.id.trans h.id⟩
  · rw [k.old j (Nat.lt_of_lt_of_le hj h.len) (fun hf => by rcases h.new j hf with h1 | h1; exact hn h1; omega)]
    exact h.old j hj hn
  · rcases k.new j hj with h1 | h1
    · exact h.new j h1
    · exact .inr (Nat.le_trans h.len h1)

/-! What the walks ask. -/
theorem cells_len (E : EG) (h : E.txs.length = 8) : E.cells.length = 10 := by simp [EG.cells, h]

theorem EngAt.txs_get {st : St} {E : EG} (h : EngAt st E) {t : Nat} (ht : t < 8) : ∃ o, E.txs[t]? = some o ∧ E.cells.drop (2 + t) = txSV o :: E.cells.drop (3 + t) := by
  have hl := h.len
  refine ⟨E.txs[t], List.getElem?_eq_getElem (by omega), ?_⟩
  unfold EG.cells
  rw [show 2 + t = t + 1 + 1 by omega, show 3 + t = (t + 1) + 1 + 1 by omega]
  simp only [List.drop_succ_cons]
  rw [List.drop_eq_getElem_cons (by simp; omega)]
  simp


theorem vars_len (l : List TV) : (l.flatMap tvSV).length = l.length * 3 := by
  induction l with
  | nil => rfl
  | cons x r ih => rw [List.flatMap_cons, List.length_append, ih]; simp [tvSV]; omega

theorem vars_drop {l : List TV} {n : Nat} (h : n < l.length) : (l.flatMap tvSV).drop (n * 3) = i64 (l.getD n default).val :: i64 (l.getD n default).ver :: i64 (l.getD n default).lock :: (l.flatMap tvSV).drop (n * 3 + 3) := by
  induction l generalizing n with
  | nil => cases h
  | cons x r ih =>
    cases n with
    | zero => rfl
    | succ n =>
      have := ih (n := n) (by simpa using h)
      rw [List.flatMap_cons]
      have e1 : (n + 1) * 3 = 3 + n * 3 := by omega
      rw [e1, ← List.drop_drop]
      show ((r.flatMap tvSV).drop (n * 3)) = _
      rw [this]
      simp only [List.getD_cons_succ]
      congr 3
      have e2 : (tvSV x ++ r.flatMap tvSV).drop (3 + (n * 3 + 3)) = (r.flatMap tvSV).drop (n * 3 + 3) := by rw [← List.drop_drop]; rfl
      rw [show 3 + n * 3 + 3 = 3 + (n * 3 + 3) by omega, e2]
theorem vars_drop1 {l : List TV} {n : Nat} (h : n < l.length) : (l.flatMap tvSV).drop (n * 3 + 1) = i64 (l.getD n default).ver :: i64 (l.getD n default).lock :: (l.flatMap tvSV).drop (n * 3 + 3) := by
  rw [← List.drop_drop, vars_drop h]; rfl
theorem vars_drop2 {l : List TV} {n : Nat} (h : n < l.length) : (l.flatMap tvSV).drop (n * 3 + 2) = i64 (l.getD n default).lock :: (l.flatMap tvSV).drop (n * 3 + 3) := by
  rw [← List.drop_drop, vars_drop h]; rfl

theorem EngAt.ids {st : St} {E : EG} (h : EngAt st E) {t : Nat} {x : TX} (hx : E.txs[t]? = some (some x)) : Ids st.length (txSV (some x)) := .ptr _ _ (lt_of_get (h.tx t x hx).cells)

theorem fin_ptr {K : SV → St → Prop} {st : St} {o : Option TX} (hi : ∀ x, o = some x → x.id < st.length) (h : K (txSV o) st) : FinK st K (txSV o) st := by
  cases o with
  | none => exact fin_sc h
  | some x => exact ⟨⟨[], by simp⟩, .ptr _ _ (hi x rfl), h⟩

end Go.Proofs
