/- The plain law of Tl2Serial: all end; one that runs alone. -/
import Derived.Test.YteclbnjpijakbaaP5
set_option linter.unusedSimpArgs false
set_option linter.unusedVariables false
namespace Go.Proofs
open Go Go.AL

theorem vars_shut (E : EP) (t : Int) (j : Bool) : E.vars.length ≤ (shutF E t j).2.vars.length := by
  unfold shutF
  repeat' split
  all_goals exact Nat.le_refl _
theorem vars_abort (E : EP) (t : Int) : E.vars.length ≤ (abortF E t).2.vars.length := by
  unfold abortF
  split
  · split
    · exact Nat.le_refl _
    · show E.vars.length ≤ (E.vars.map (unlock t)).length
      simp
  · exact Nat.le_refl _
theorem vars_step (E : EP) (t : Int) : E.vars.length ≤ (stepF E t).2.vars.length := by
  unfold stepF
  split
  · exact Nat.le_refl _
  · split
    · exact Nat.le_refl _
    · split
      · unfold putF
        split
        · exact Nat.le_refl _
        · split
          · simp [EP.put]
          · simp [EP.put]
      · split
        · rename_i a vs h
          have := lock_len h
          show E.vars.length ≤ vs.length
          omega
        · split
          · exact Nat.le_refl _
          · split
            · exact Nat.le_refl _
            · exact Nat.le_refl _
theorem vars_read (E : EP) (t n : Int) : E.vars.length ≤ (readF E t n).2.vars.length := by
  unfold readF
  split
  · exact Nat.le_refl _
  · split
    · split
      · exact Nat.le_refl _
      · split
        · exact Nat.le_refl _
        · dsimp only
          split <;> exact Nat.le_refl _
    · exact Nat.le_refl _

theorem vars_does (E : EP) (d : Dd) : E.vars.length ≤ (doesF E d).2.vars.length := by
  unfold doesF
  split
  · unfold beginF; split <;> exact Nat.le_refl _
  split
  · exact vars_read E _ _
  split
  · unfold writeF; repeat' split
    all_goals exact Nat.le_refl _
  split
  · exact vars_step E d.t
  split
  · unfold partF; split <;> exact Nat.le_refl _
  split
  · exact vars_shut E d.t true
  split
  · exact vars_shut E d.t false
  split
  · exact vars_abort E d.t
  split
  · unfold makeF; split
    · simp
    · exact Nat.le_refl _
  split <;> exact Nat.le_refl _

/-- A transaction is aborted, or does a step. -/
def endF (E : EP) (t : Int) : EP := if (abortF E t).1 ≠ 0 then (stepF (abortF E t).2 t).2 else (abortF E t).2

def endC (E : EP) (t i : Nat) : Prop := ∀ x, E.txs[t]? = some (some x) → (x.pointed = true → x.left.length + i ≤ 60) ∧ (x.pointed = false → i = 0)

structure SerE (b b0 t : Nat) (E : EP) : Prop where
  ser : SerI b E
  fine : FineP b0 E
  four : 4 ≤ E.vars.length
  gone : ∀ u, u < t → E.txs[u]? = some none

theorem tx_of {E : EP} {t : Nat} (ht : t < 8) {x : TP} (h : E.txs[t]? = some (some x)) : E.of (t : Int) = some x := by
  unfold EP.of
  rw [if_pos ⟨by omega, by omega⟩, Int.toNat_natCast, h]; rfl
theorem tx_none {E : EP} {t : Nat} (ht : t < 8) (hl : E.txs.length = 8) (h : (E.of (t : Int)).isSome = false) : E.txs[t]? = some none := by
  unfold EP.of at h
  rw [if_pos ⟨by omega, by omega⟩, Int.toNat_natCast] at h
  have : t < E.txs.length := by omega
  rw [List.getElem?_eq_getElem this] at h ⊢
  cases hx : E.txs[t] with
  | none => rfl
  | some x => rw [hx] at h; cases h

theorem end_round {b b0 t : Nat} {E : EP} (h : SerE b b0 t E) (ht : t < 8) {i : Nat} (hc : endC E t i) {x : TP} (hx : E.txs[t]? = some (some x)) : SerE b (b0 + 2) t (endF E t) ∧ endC (endF E t) t (i + 1) := by
  have hof := tx_of ht hx
  have hc' := hc x hx
  have hlt := lt_of_get hx
  have ha1 := ser_abort h.ser (t : Int)
  have ha2 := fine_abort h.fine (t : Int)
  have ha3 := vars_abort E (t : Int)
  have hs1 := ser_step h.ser h.fine (t : Int)
  have hs2 := fine_step h.fine (t : Int)
  have hs3 := vars_step E (t : Int)
  have h4 := h.four
  cases hp : x.pointed with
  | false =>
    have he : abortF E (t : Int) = (0, { E with vars := E.vars.map (unlock t), txs := E.txs.set (t : Int).toNat none }) := by
      unfold abortF; rw [hof]; simp only [hp, Bool.false_eq_true, if_false]
    have hend : endF E t = { E with vars := E.vars.map (unlock t), txs := E.txs.set (t : Int).toNat none } := by
      unfold endF; rw [he]; rfl
    rw [he] at ha1 ha2 ha3
    rw [hend, Int.toNat_natCast] at *
    refine ⟨⟨ha1, ha2.mono (by omega), Nat.le_trans h4 ha3, fun u hu => ?_⟩, fun y hy => ?_⟩
    · show (E.txs.set t none)[u]? = _
      rw [List.getElem?_set_ne (by omega)]; exact h.gone u hu
    · have hy : (E.txs.set t none)[t]? = some (some y) := hy
      rw [List.getElem?_set_self hlt] at hy; cases hy
  | true =>
    have he : abortF E (t : Int) = (1, E) := by
      unfold abortF; rw [hof]; simp only [hp, if_true]
    have hend : endF E t = (stepF E t).2 := by
      unfold endF; rw [he]; rfl
    have hX := h.ser.tx t x hx
    have hone := hX.one (hX.pt hp).1
    have hlf := (h.fine.tx t x hx).left hp
    obtain ⟨n, r, hl⟩ : ∃ n r, x.left = n :: r := by cases hl : x.left with | nil => exact absurd hl hlf.1 | cons n r => exact ⟨n, r, rfl⟩
    have hlc : x.commit.left = n :: r := hl
    have hst : (stepF E (t : Int)).2 = (putF (E.put t x.commit) t x.commit).2 := by
      unfold stepF; rw [hof]; simp only [hp, if_true]; rw [if_neg (by omega)]
    have htx : (putF (E.put t x.commit) t x.commit).2.txs = E.txs.set t (if r = [] then none else some { x.commit with left := r }) := by
      unfold putF
      rw [hlc]
      simp only
      split
      · simp [EP.put, List.set_set]
      · simp [EP.put, List.set_set]
    rw [hend]
    refine ⟨⟨hs1, hs2.mono (by omega), Nat.le_trans h4 hs3, fun u hu => ?_⟩, fun y hy => ?_⟩
    · rw [hst, htx, List.getElem?_set_ne (by omega)]; exact h.gone u hu
    · rw [hst, htx, List.getElem?_set_self hlt] at hy
      split at hy
      · cases hy
      · cases hy
        have := hc'.1 hp
        rw [hl, List.length_cons] at this
        exact ⟨fun _ => by show r.length + (i + 1) ≤ 60; omega, fun q => by rw [show x.pointed = false from q] at hp; cases hp⟩

theorem end_last {b b0 t : Nat} {E : EP} (h : SerE b b0 t E) (ht : t < 8) (hc : endC E t 60) : E.txs[t]? = some none := by
  refine tx_none ht h.fine.len ?_
  cases ho : E.of (t : Int) with
  | none => rfl
  | some x =>
    have hx := (pof_get ho).2
    rw [Int.toNat_natCast] at hx
    have := hc x hx
    cases hp : x.pointed with
    | true =>
      have h1 := this.1 hp
      have h2 := (h.fine.tx t x hx).left hp
      have : x.left = [] := List.length_eq_zero_iff.1 (by omega)
      exact absurd this h2.1
    | false => have := this.2 hp; omega

theorem end_first {b b0 t : Nat} {E : EP} (h : SerE b b0 t E) (hb : b ≤ 60) : endC E t 0 := fun x hx => ⟨fun hp => by have := (h.ser.tx t x hx).left hp; omega, fun _ => rfl⟩

theorem SerE.next {b b0 t : Nat} {E : EP} (h : SerE b b0 t E) (ht : E.txs[t]? = some none) : SerE b b0 (t + 1) E := ⟨h.ser, h.fine, h.four, fun u hu => by
  by_cases e : u = t
  · rw [e]; exact ht
  · exact h.gone u (by omega)⟩

theorem all_free {b b0 : Nat} {E : EP} (h : SerE b b0 8 E) {n : Nat} {v : TV} (hv : E.vars[n]? = some v) : v.lock = -1 := by
  rcases h.ser.lock n v hv with k | ⟨t, x, h1, h2, _⟩
  · exact k
  · rw [h.gone t h1] at h2; cases h2

theorem one_key {n : Int} {v : Int} {len : Nat} (hn : 0 ≤ n ∧ n < (len : Int)) : keysUpto (fmPut (fun _ => none) n v) len = [n] := by
  have hm : ∀ k, k ∈ keysUpto (fmPut (fun _ => none) n v) len ↔ k = n := by
    intro k
    rw [mem_keysUpto]
    unfold fmPut
    constructor
    · rintro ⟨_, h⟩
      split at h
      · assumption
      · cases h
    · rintro rfl; exact ⟨hn, by simp⟩
  have hl := nodup_sub (l := keysUpto (fmPut (fun _ => none) n v) len) (L := [n]) (keysUpto_nodup _ _) fun k hk => by simp [(hm k).1 hk]
  have hn' := (hm n).2 rfl
  generalize keysUpto (fmPut (fun _ => none) n v) len = l at hm hl hn'
  match l, hl, hn' with
  | [a], _, _ => rw [(hm a).1 (by simp)]
  | _ :: _ :: _, hl, _ => simp at hl

theorem of_put {E : EP} (hl : E.txs.length = 8) (x : TP) : (E.put 3 x).of 3 = some x := by
  unfold EP.of EP.put
  rw [if_pos ⟨by decide, by decide⟩]
  show (E.txs.set 3 (some x))[3]?.join = _
  rw [List.getElem?_set_self (by omega)]; rfl
theorem opn_put {E : EP} (hl : E.txs.length = 8) (x : TP) (hc : x.commits = false) : (E.put 3 x).opn 3 = some x := by
  unfold EP.opn
  rw [of_put hl]
  simp [hc]

/-- One that runs with no other one between. -/
theorem serial_end {b b0 : Nat} {E : EP} (h : SerE b b0 8 E) {n : Int} (hn : 0 ≤ n ∧ n < 4) (v : Int) : ∃ E1 E2 E3 E4 E5 E6 : EP,
    beginF E 3 = (0, E1) ∧ readF E1 3 n = (((E.vars.getD n.toNat default).val, 0), E2) ∧ writeF E2 3 n v = (0, E3) ∧ readF E3 3 n = ((v, 0), E3) ∧
    stepF E3 3 = ((1, 0), E4) ∧ stepF E4 3 = ((2, 0), E5) ∧ stepF E5 3 = ((4, 0), E6) ∧ E6.clock = E.clock + 1 ∧ E6.is n = true ∧ (E6.vars.getD n.toNat default).val = v := by
  have hlen := h.fine.len
  have h4 := h.four
  have hnl : n.toNat < E.vars.length := by omega
  have hg3 := h.gone 3 (by omega)
  have hin : (0 : Int) ≤ n ∧ n < (E.vars.length : Int) := by omega
  obtain ⟨w, hw⟩ : ∃ w, w = E.vars.getD n.toNat default := ⟨_, rfl⟩
  have hwg : E.vars[n.toNat]? = some w := by rw [hw]; simp [List.getD_eq_getElem?_getD, hnl]
  have hwl := all_free h hwg
  have hwv := h.ser.ver w (List.mem_of_getElem? hwg)
  have his : ∀ x, (E.put 3 x).is n = true := fun x => by
    unfold EP.is
    show (decide (0 ≤ n) && decide (n < (E.vars.length : Int))) = true
    simp [hin.1, hin.2]
  have hlk0 : lookF 3 E.clock w = 0 := by
    unfold lookF
    rw [if_neg (by simp [hwl]), if_neg (by omega)]
  -- the transaction, step by step
  obtain ⟨X0, hX0⟩ : ∃ X0, X0 = (⟨E.clock, 0, [], [fun _ => none], false, false, []⟩ : TP) := ⟨_, rfl⟩
  obtain ⟨X1, hX1⟩ : ∃ X1, X1 = (⟨E.clock, 0, [n], [fun _ => none], false, false, []⟩ : TP) := ⟨_, rfl⟩
  obtain ⟨X2, hX2⟩ : ∃ X2, X2 = (⟨E.clock, 0, [n], [fmPut (fun _ => none) n v], false, false, []⟩ : TP) := ⟨_, rfl⟩
  obtain ⟨X3, hX3⟩ : ∃ X3, X3 = (⟨E.clock, 0, [n], [fmPut (fun _ => none) n v], true, false, []⟩ : TP) := ⟨_, rfl⟩
  obtain ⟨X4, hX4⟩ : ∃ X4, X4 = (⟨E.clock, E.clock + 1, [n], [fmPut (fun _ => none) n v], true, true, [n]⟩ : TP) := ⟨_, rfl⟩
  have hvs : E.vars.set n.toNat { w with lock := 3 } = E.vars.set n.toNat { w with lock := 3 } := rfl
  obtain ⟨vs, hvs⟩ : ∃ vs, vs = E.vars.set n.toNat { w with lock := 3 } := ⟨_, rfl⟩
  have hvl : vs.length = E.vars.length := by rw [hvs, List.length_set]
  have hvg : vs.getD n.toNat default = { w with lock := 3 } := by rw [hvs]; simp [List.getD_eq_getElem?_getD, hnl]
  refine ⟨E.put 3 X0, E.put 3 X1, E.put 3 X2, { E.put 3 X3 with vars := vs }, { E.put 3 X4 with vars := vs, clock := E.clock + 1 }, { { E.put 3 X4 with vars := vs.set n.toNat ⟨v, E.clock + 1, -1⟩, clock := E.clock + 1 } with txs := E.txs.set 3 none }, ?_, ?_, ?_, ?_, ?_, ?_, ?_, rfl, ?_, ?_⟩
  · unfold beginF
    rw [if_pos ⟨by decide, by decide, by show (E.txs[3]?).join.isNone = true; rw [hg3]; rfl⟩, hX0]
    rfl
  · unfold readF
    rw [opn_put hlen X0 (by rw [hX0])]
    simp only [his, if_true]
    have ht : topGet X0.maps n = none := by rw [hX0]; simp [topGet]
    simp only [ht]
    have hv0 : (E.put 3 X0).vars.getD n.toNat default = w := hw.symm
    simp only [hv0]
    have hst : X0.start = E.clock := by rw [hX0]
    rw [hst, hlk0, if_neg (by decide), if_neg (by rw [hX0]; simp), ← hw]
    rw [put_put, hX1]
    subst hX0
    rfl
  · unfold writeF
    rw [opn_put hlen X1 (by rw [hX1])]
    simp only [his, if_true]
    rw [put_put, hX1, hX2]
    rfl
  · unfold readF
    rw [opn_put hlen X2 (by rw [hX2])]
    simp only [his, if_true]
    have ht : topGet X2.maps n = some v := by rw [hX2]; simp [topGet, fmPut]
    simp only [ht]
  · unfold stepF
    rw [of_put hlen X2]
    have e1 : ¬ 1 < X2.maps.length := by rw [hX2]; simp
    have e2 : X2.pointed = false := by rw [hX2]
    have e3 : X2.base = fmPut (fun _ => none) n v := by rw [hX2]; rfl
    have hk : keysUpto X2.base (E.put 3 X2).vars.length = [n] := by rw [e3]; exact one_key hin
    have hlk : lockF 3 (E.put 3 X2).vars [n] = some ((1, 0), vs) := by
      unfold lockF
      have hv0 : (E.put 3 X2).vars.getD n.toNat default = w := hw.symm
      rw [hv0, if_neg (by rw [hwl]; decide), if_pos hwl, hvs]; rfl
    simp only [if_neg e1, e2, Bool.false_eq_true, if_false, hk, hlk]
    rw [put_put]
    have : X2.commit = X3 := by rw [hX2, hX3]; rfl
    rw [this]
  · have ho : ({ E.put 3 X3 with vars := vs } : EP).of 3 = some X3 := of_put hlen X3
    unfold stepF
    rw [ho]
    have e1 : ¬ 1 < X3.maps.length := by rw [hX3]; simp
    have e2 : X3.pointed = false := by rw [hX3]
    have e3 : X3.base = fmPut (fun _ => none) n v := by rw [hX3]; rfl
    have hk : keysUpto X3.base ({ E.put 3 X3 with vars := vs } : EP).vars.length = [n] := by rw [e3]; exact one_key (by show 0 ≤ n ∧ n < (vs.length : Int); omega)
    have hlk : lockF 3 ({ E.put 3 X3 with vars := vs } : EP).vars [n] = none := by
      unfold lockF
      rw [show ({ E.put 3 X3 with vars := vs } : EP).vars.getD n.toNat default = { w with lock := 3 } from hvg, if_pos rfl]; rfl
    have hva : validL 3 X3.start ({ E.put 3 X3 with vars := vs } : EP).vars X3.reads = 0 := by
      have e4 : X3.reads = [n] := by rw [hX3]
      have e5 : X3.start = E.clock := by rw [hX3]
      rw [e4, e5]
      have : lookF 3 E.clock { w with lock := 3 } = 0 := by
        unfold lookF
        rw [if_neg (by simp), if_neg (by show ¬ w.ver > E.clock; omega)]
      unfold validL
      rw [show ({ E.put 3 X3 with vars := vs } : EP).vars.getD n.toNat default = { w with lock := 3 } from hvg, if_pos this]
      rfl
    simp only [if_neg e1, e2, Bool.false_eq_true, if_false, hk, hlk, hva]
    simp only [ne_eq, not_true_eq_false, if_false, List.cons_ne_nil]
    have hcl : ({ E.put 3 X3 with vars := vs } : EP).clock = E.clock := rfl
    have : ({ X3.commit with pointed := true, stamp := E.clock + 1, left := [n] } : TP) = X4 := by rw [hX3, hX4]; rfl
    rw [hcl, this]
    simp only [EP.put, List.set_set]
  · have ho : ({ E.put 3 X4 with vars := vs, clock := E.clock + 1 } : EP).of 3 = some X4 := of_put hlen X4
    unfold stepF
    rw [ho]
    have e1 : ¬ 1 < X4.maps.length := by rw [hX4]; simp
    have e2 : X4.pointed = true := by rw [hX4]
    simp only [if_neg e1, e2, if_true]
    have e3 : X4.commit = X4 := by rw [hX4]; rfl
    rw [e3]
    unfold putF
    have e4 : X4.left = [n] := by rw [hX4]
    rw [e4]
    simp only [if_true]
    have e5 : (X4.base n).getD 0 = v := by rw [hX4]; simp [TP.base, fmPut]
    have e6 : X4.stamp = E.clock + 1 := by rw [hX4]
    rw [e5, e6]
    simp only [EP.put, List.set_set]
    rfl
  · unfold EP.is
    show (decide (0 ≤ n) && decide (n < ((vs.set n.toNat ⟨v, E.clock + 1, -1⟩).length : Int))) = true
    rw [List.length_set, hvl]
    simp [hin.1, hin.2]
  · show ((vs.set n.toNat ⟨v, E.clock + 1, -1⟩).getD n.toNat default).val = v
    have : n.toNat < vs.length := by omega
    simp [List.getD_eq_getElem?_getD, this]

end Go.Proofs
