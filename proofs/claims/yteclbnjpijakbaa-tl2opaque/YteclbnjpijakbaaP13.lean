/- The plain law of Tl2Opaque: what has been read are values of the state at the start. -/
import Derived.Test.YteclbnjpijakbaaM6
set_option linter.unusedSimpArgs false
set_option linter.unusedVariables false
namespace Go.Proofs
open Go Go.AL

/-- What a thread's transaction has read of a var. -/
structure SN where
  t : Int
  n : Int
  v : Int
instance : Inhabited SN := ⟨⟨0, 0, 0⟩⟩

/-- A var's value in a state. -/
def stG (S : List (List Int)) (s n : Nat) : Int := (S.getD s []).getD n 0
def varG (vs : List TV) (n : Nat) : TV := vs.getD n default

def PendAt (E : EP) (n : Nat) : Prop := ∃ (t : Nat) (x : TP), E.txs[t]? = some (some x) ∧ x.pointed = true ∧ (n : Int) ∈ x.left

structure OpqI (E : EP) (S : List (List Int)) : Prop where
  len : (S.length : Int) = E.clock + 1
  rows : ∀ r ∈ S, r.length = E.vars.length
  nodup : ∀ (t : Nat) (x : TP), E.txs[t]? = some (some x) → x.pointed = true → x.left.Nodup
  pos : ∀ (t : Nat) (x : TP), E.txs[t]? = some (some x) → x.pointed = true → ∀ n ∈ x.left, 0 ≤ n
  lock : ∀ (t : Nat) (x : TP), E.txs[t]? = some (some x) → x.pointed = true → ∀ n : Nat, (n : Int) ∈ x.left → (varG E.vars n).lock = (t : Int)
  pend : ∀ (t : Nat) (x : TP), E.txs[t]? = some (some x) → x.pointed = true → ∀ n : Nat, (n : Int) ∈ x.left → ∀ s : Nat, x.stamp ≤ (s : Int) → s < S.length → stG S s n = (x.base n).getD 0
  vals : ∀ n : Nat, n < E.vars.length → PendAt E n ∨ ∀ s : Nat, (varG E.vars n).ver ≤ (s : Int) → s < S.length → stG S s n = (varG E.vars n).val
  start : ∀ (t : Nat) (x : TP), E.txs[t]? = some (some x) → 0 ≤ x.start ∧ x.start ≤ E.clock

structure SeenI (E : EP) (S : List (List Int)) (seen : List SN) : Prop where
  all : ∀ s ∈ seen, 0 ≤ s.t ∧ s.t < 8 ∧ 0 ≤ s.n ∧ s.n < (E.vars.length : Int) ∧ ∃ x, E.txs[s.t.toNat]? = some (some x) ∧ stG S x.start.toNat s.n.toNat = s.v

theorem opq_quiet {E E' : EP} {S : List (List Int)} (h : OpqI E S) {t : Nat} {o : Option TP} (hc : E'.clock = E.clock) (hlen : E'.vars.length = E.vars.length) (hv : ∀ n, (varG E'.vars n).val = (varG E.vars n).val ∧ (varG E'.vars n).ver = (varG E.vars n).ver)
    (hl : ∀ n, (varG E'.vars n).lock = (varG E.vars n).lock ∨ (varG E.vars n).lock = -1 ∨ (varG E.vars n).lock = (t : Int)) (ht : E'.txs = E.txs.set t o) (hold : ∀ x, E.txs[t]? = some (some x) → x.pointed = false)
    (hnew : ∀ x, o = some x → x.pointed = false ∧ 0 ≤ x.start ∧ x.start ≤ E.clock) : OpqI E' S := by
  have hget : ∀ (u : Nat) (x : TP), E'.txs[u]? = some (some x) → x.pointed = true → E.txs[u]? = some (some x) ∧ u ≠ t := fun u x hx hp => by
    rw [ht] at hx
    rcases tx_set_get hx with ⟨_, e⟩ | ⟨e1, e⟩
    · have := (hnew x e).1; rw [hp] at this; cases this
    · exact ⟨e, e1⟩
  refine ⟨by rw [hc]; exact h.len, by rw [hlen]; exact h.rows, fun u x hx hp => h.nodup u x (hget u x hx hp).1 hp, fun u x hx hp => h.pos u x (hget u x hx hp).1 hp, fun u x hx hp n hn => ?_, fun u x hx hp => h.pend u x (hget u x hx hp).1 hp, fun n hn => ?_, fun u x hx => ?_⟩
  · obtain ⟨k1, k2⟩ := hget u x hx hp
    have := h.lock u x k1 hp n hn
    rcases hl n with e | e | e
    · rw [e]; exact this
    · rw [e] at this; omega
    · rw [e] at this; omega
  · rcases h.vals n (by omega) with ⟨u, x, k1, k2, k3⟩ | k
    · refine .inl ⟨u, x, ?_, k2, k3⟩
      rw [ht]
      refine tx_set_ne k1 ?_
      rintro rfl
      rw [hold x k1] at k2; cases k2
    · refine .inr fun s h1 h2 => ?_
      rw [(hv n).1]
      exact k s (by rw [← (hv n).2]; exact h1) h2
  · rw [hc]
    rw [ht] at hx
    rcases tx_set_get hx with ⟨_, e⟩ | ⟨_, e⟩
    · exact (hnew x e).2
    · exact h.start u x e

theorem seen_set {E E' : EP} {S : List (List Int)} {seen : List SN} (h : SeenI E S seen) {t : Nat} {o : Option TP} (hlen : E.vars.length ≤ E'.vars.length) (ht : E'.txs = E.txs.set t o) (hst : ∀ x, E.txs[t]? = some (some x) → ∃ y, o = some y ∧ y.start = x.start) : SeenI E' S seen := by
  refine ⟨fun s hs => ?_⟩
  obtain ⟨h1, h2, h3, h4, x, h5, h6⟩ := h.all s hs
  refine ⟨h1, h2, h3, by omega, ?_⟩
  by_cases e : s.t.toNat = t
  · rw [e] at h5
    obtain ⟨y, rfl, hy⟩ := hst x h5
    exact ⟨y, by rw [ht, e]; exact List.getElem?_set_self (lt_of_get h5), by rw [hy]; exact h6⟩
  · exact ⟨x, by rw [ht]; exact tx_set_ne h5 e, h6⟩

def withoutL (l : List SN) (t : Int) : List SN := l.filter fun s => decide (s.t ≠ t)

theorem seen_gone {E E' : EP} {S : List (List Int)} {seen : List SN} (h : SeenI E S seen) {t : Int} (ht0 : 0 ≤ t) {o : Option TP} (hlen : E.vars.length ≤ E'.vars.length) (ht : E'.txs = E.txs.set t.toNat o) : SeenI E' S (withoutL seen t) := by
  refine ⟨fun s hs => ?_⟩
  obtain ⟨hs, hne⟩ := List.mem_filter.1 hs
  have hne : s.t ≠ t := by simpa using hne
  obtain ⟨h1, h2, h3, h4, x, h5, h6⟩ := h.all s hs
  exact ⟨h1, h2, h3, by omega, x, by rw [ht]; exact tx_set_ne h5 (by omega), h6⟩

theorem seen_same {E E' : EP} {S : List (List Int)} {seen : List SN} (h : SeenI E S seen) (hlen : E.vars.length ≤ E'.vars.length) (ht : E'.txs = E.txs) : SeenI E' S seen :=
  ⟨fun s hs => by
    obtain ⟨h1, h2, h3, h4, x, h5, h6⟩ := h.all s hs
    exact ⟨h1, h2, h3, by omega, x, by rw [ht]; exact h5, h6⟩⟩

theorem opn_quiet {b : Nat} {E : EP} (hS : SerI b E) {t : Int} {x : TP} (h : E.opn t = some x) : x.pointed = false := by
  have h1 := popn_get h
  cases hp : x.pointed with
  | false => rfl
  | true => have := ((hS.tx _ x (pof_get h1.1).2).pt hp).1; rw [h1.2] at this; cases this

theorem opq_put {b : Nat} {E : EP} {S : List (List Int)} (h : OpqI E S) (hS : SerI b E) {t : Int} {x y : TP} (ho : E.opn t = some x) (hp : y.pointed = x.pointed) (hs : y.start = x.start) : OpqI (E.put t y) S := by
  have hg := (pof_get (popn_get ho).1).2
  refine opq_quiet h (t := t.toNat) (o := some y) rfl rfl (fun n => ⟨rfl, rfl⟩) (fun n => .inl rfl) rfl (fun z hz => ?_) (fun z hz => ?_)
  · rw [hg] at hz; cases hz; exact opn_quiet hS ho
  · cases hz
    have := h.start _ x hg
    rw [hp, hs]; exact ⟨opn_quiet hS ho, this⟩

theorem seen_put {E : EP} {S : List (List Int)} {seen : List SN} (h : SeenI E S seen) {t : Int} {x y : TP} (ho : E.of t = some x) (hs : y.start = x.start) : SeenI (E.put t y) S seen :=
  seen_set h (t := t.toNat) (o := some y) (Nat.le_refl _) rfl fun z hz => by
    rw [(pof_get ho).2] at hz; cases hz; exact ⟨y, rfl, hs⟩

/-- The next state: the writes of a commit. -/
def nextS (S : List (List Int)) (puts : List PW) : List Int := puts.foldl (fun a p => a.set p.n.toNat p.v) (S.getD (S.length - 1) [])

theorem foldl_len (puts : List PW) (a : List Int) : (puts.foldl (fun a p => a.set p.n.toNat p.v) a).length = a.length := by
  induction puts generalizing a with
  | nil => rfl
  | cons p r ih => rw [List.foldl_cons, ih, List.length_set]

theorem foldl_other (puts : List PW) {n : Nat} (a : List Int) (h : ∀ p ∈ puts, p.n.toNat ≠ n) : (puts.foldl (fun a p => a.set p.n.toNat p.v) a).getD n 0 = a.getD n 0 := by
  induction puts generalizing a with
  | nil => rfl
  | cons p r ih =>
    rw [List.foldl_cons, ih _ fun q hq => h q (by simp [hq])]
    simp only [List.getD_eq_getElem?_getD]
    rw [List.getElem?_set_ne (h p (by simp))]

theorem foldl_own {puts : List PW} (hn : (puts.map (·.n)).Nodup) (hp : ∀ p ∈ puts, 0 ≤ p.n) {p : PW} (hm : p ∈ puts) (a : List Int) (hl : p.n.toNat < a.length) : (puts.foldl (fun a p => a.set p.n.toNat p.v) a).getD p.n.toNat 0 = p.v := by
  induction puts generalizing a with
  | nil => cases hm
  | cons q r ih =>
    rw [List.map_cons, List.nodup_cons] at hn
    rw [List.foldl_cons]
    rcases List.mem_cons.1 hm with rfl | hm
    · rw [foldl_other r _ fun z hz e => hn.1 (by
        have := hp z (by simp [hz]); have := hp p (by simp)
        have : z.n = p.n := by omega
        rw [← this]; exact List.mem_map.2 ⟨z, hz, rfl⟩)]
      simp [List.getD_eq_getElem?_getD, hl]
    · exact ih hn.2 (fun z hz => hp z (by simp [hz])) hm _ (by rw [List.length_set]; exact hl)

theorem stG_app {S : List (List Int)} {r : List Int} {s : Nat} (h : s < S.length) (n : Nat) : stG (S ++ [r]) s n = stG S s n := by
  unfold stG
  simp only [List.getD_eq_getElem?_getD]
  rw [List.getElem?_append_left h]
theorem stG_last {S : List (List Int)} {r : List Int} (n : Nat) : stG (S ++ [r]) S.length n = r.getD n 0 := by
  unfold stG
  simp [List.getD_eq_getElem?_getD]

theorem stG_map {S : List (List Int)} {v : Int} {len : Nat} (h : ∀ r ∈ S, r.length = len) {s : Nat} (hs : s < S.length) (n : Nat) : stG (S.map (· ++ [v])) s n = if n = len then v else stG S s n := by
  have hm : S[s] ∈ S := List.getElem_mem hs
  have hl := h _ hm
  unfold stG
  simp only [List.getD_eq_getElem?_getD, List.getElem?_map, List.getElem?_eq_getElem hs, Option.map_some, Option.getD_some]
  by_cases e : n = len
  · rw [if_pos e, List.getElem?_append_right (by omega)]
    simp [e, hl]
  · rw [if_neg e]
    by_cases e2 : n < len
    · rw [List.getElem?_append_left (by omega)]
    · rw [List.getElem?_eq_none (by simp; omega), List.getElem?_eq_none (by omega)]

end Go.Proofs
