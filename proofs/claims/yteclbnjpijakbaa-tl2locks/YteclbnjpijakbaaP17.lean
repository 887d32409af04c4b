/- The plain law of Tl2Locks: a thread that is aborted, or goes on, ends, and has no lock then. -/
import Derived.Test.YteclbnjpijakbaaM6
set_option linter.unusedSimpArgs false
set_option linter.unusedVariables false
namespace Go.Proofs
open Go Go.AL

theorem pl_abort {k : Nat} {E : EP} {R : RP} (h : PlI k E R) (t : Int) : (abortF E t).1 = (abortR R t).1 ∧ PlI (k + 1) (abortF E t).2 (abortR R t).2 := by
  have := pl_does h ⟨7, t, 0, 0⟩
  have e1 : doesF E ⟨7, t, 0, 0⟩ = ((0, (abortF E t).1), (abortF E t).2) := rfl
  have e2 : doesR R ⟨7, t, 0, 0⟩ = ((0, (abortR R t).1), (abortR R t).2) := rfl
  rw [e1, e2] at this
  exact ⟨congrArg Prod.snd this.1, this.2⟩
theorem pl_step {k : Nat} {E : EP} {R : RP} (h : PlI k E R) (t : Int) : (stepF E t).1 = (stepR R t).1 ∧ PlI (k + 1) (stepF E t).2 (stepR R t).2 := pl_does h ⟨3, t, 0, 0⟩

/-- How far a thread is from its end. -/
def LkI (t : Int) (i : Nat) (E : EP) : Prop := ∀ x, E.of t = some x → (i = 0 ∨ x.pointed = true) ∧ (x.pointed = true → x.left.length + i ≤ 60)

theorem lk_first {b : Nat} {E : EP} (h : SerI b E) (hb : b ≤ 60) (t : Int) : LkI t 0 E := fun x hx => ⟨.inl rfl, fun hp => by
  have := (h.tx _ x (pof_get hx).2).left hp; omega⟩

theorem of_set_none {E : EP} {t : Int} (vs : List TV) : EP.of { E with vars := vs, txs := E.txs.set t.toNat none } t = none := by
  unfold EP.of
  split
  · show ((E.txs.set t.toNat none)[t.toNat]?).join = none
    rw [List.getElem?_set]
    simp only [if_true]
    split <;> rfl
  · rfl

theorem lk_abort {E : EP} {t : Int} {i : Nat} (h : (abortF E t).1 = 0) : LkI t i (abortF E t).2 := by
  unfold abortF at h ⊢
  split at h
  · rename_i x hx
    split at h
    · cases h
    · rename_i hp
      simp only [hp, if_false, Bool.false_eq_true]
      intro y hy
      have : EP.of { E with vars := E.vars.map (unlock t), txs := E.txs.set t.toNat none } t = some y := hy
      rw [of_set_none] at this; cases this
  · cases h

theorem abort_no {E : EP} {t : Int} (h : (abortF E t).1 ≠ 0) : (abortF E t).2 = E ∧ ∀ x, E.of t = some x → x.pointed = true := by
  unfold abortF at h ⊢
  split at h
  · rename_i x hx
    split at h
    · rename_i hp
      simp only [hp, if_true]
      exact ⟨trivial, fun y hy => by rw [hx] at hy; cases hy; exact hp⟩
    · exact absurd rfl h
  · rename_i hx
    exact ⟨rfl, fun y hy => by rw [hx] at hy; cases hy⟩

theorem lk_step {E : EP} {t : Int} {i b : Nat} (hF : FineP b E) (h : LkI t i E) (hp : ∀ x, E.of t = some x → x.pointed = true) (hS : SerI b E) : LkI t (i + 1) (stepF E t).2 := by
  unfold stepF
  split
  · rename_i hx
    intro x hx'; rw [hx] at hx'; cases hx'
  · rename_i x hx
    have hg := pof_get hx
    have hpt := hp x hx
    have hX := hS.tx _ x hg.2
    have hone := hX.one (hX.pt hpt).1
    have hlf := (hF.tx _ x hg.2).left hpt
    rw [if_neg (by omega), if_pos hpt]
    have hl := (h x hx).2 hpt
    unfold putF
    split
    · rename_i e; exact absurd e hlf.1
    · rename_i n r e
      have e' : x.left = n :: r := e
      rw [e', List.length_cons] at hl
      split
      · intro y hy
        have hy : EP.of { E.put t x.commit with vars := _, txs := (E.put t x.commit).txs.set t.toNat none } t = some y := hy
        rw [of_set_none] at hy; cases hy
      · intro y hy
        have := (pof_get hy).2
        simp only [EP.put, List.set_set] at this
        rw [List.getElem?_set_self (lt_of_get hg.2)] at this
        cases this
        exact ⟨.inr hpt, fun _ => by show r.length + (i + 1) ≤ 60; omega⟩

theorem lk_end {E : EP} {t : Int} {b : Nat} (hF : FineP b E) (h : LkI t 60 E) : E.of t = none := by
  cases hx : E.of t with
  | none => rfl
  | some x =>
    obtain ⟨h1, h2⟩ := h x hx
    have hp := h1.resolve_left (by decide)
    have := h2 hp
    have h3 := (hF.tx _ x (pof_get hx).2).left hp
    have h4 : x.left = [] := List.length_eq_zero_iff.1 (by omega)
    exact absurd h4 h3.1

theorem lock_gone {E : EP} {t : Int} {b : Nat} (hS : SerI b E) (ht : 0 ≤ t) (h : E.of t = none) (n : Nat) : n < E.vars.length → (E.vars.getD n default).lock ≠ t := by
  intro hn e
  have hv : E.vars[n]? = some (E.vars.getD n default) := by simp [List.getD_eq_getElem?_getD, hn]
  rcases hS.lock n _ hv with k | ⟨u, x, k1, k2, k3, _⟩
  · rw [e] at k; omega
  · rw [e] at k3
    have : E.of t = some x := by
      unfold EP.of
      rw [if_pos (by omega), show t.toNat = u by omega, k2]; rfl
    rw [h] at this; cases this

end Go.Proofs
