/- What each deed keeps of an engine. -/
import Derived.Test.YteclbnjpijakbaaR0
set_option linter.unusedSimpArgs false
set_option linter.unusedVariables false
namespace Go.Proofs
open Go Go.AL

structure FineT (b n : Nat) (x : TP) : Prop where
  reads : ∀ k ∈ x.reads, 0 ≤ k ∧ k < (n : Int)
  rlen : x.reads.length ≤ b
  one : 1 ≤ x.maps.length
  mlen : x.maps.length ≤ b + 1
  dom : ∀ m ∈ x.maps, ∀ k, (m k).isSome = true → 0 ≤ k ∧ k < (n : Int)
  left : x.pointed = true → x.left ≠ [] ∧ ∀ k ∈ x.left, 0 ≤ k ∧ k < (n : Int)

structure FineP (b : Nat) (E : EP) : Prop where
  len : E.txs.length = 8
  tx : ∀ (t : Nat) (x : TP), E.txs[t]? = some (some x) → FineT b E.vars.length x
  clk : 0 ≤ E.clock ∧ E.clock ≤ (b : Int)

theorem FineT.mono {b b' n n' : Nat} {x : TP} (h : FineT b n x) (hb : b ≤ b') (hn : n ≤ n') : FineT b' n' x where
  reads := fun k hk => by have := h.reads k hk; omega
  rlen := Nat.le_trans h.rlen hb
  one := h.one
  mlen := by have := h.mlen; omega
  dom := fun m hm k hk => by have := h.dom m hm k hk; omega
  left := fun hp => ⟨(h.left hp).1, fun k hk => by have := (h.left hp).2 k hk; omega⟩

theorem FineP.mono {b b' : Nat} {E : EP} (h : FineP b E) (hb : b ≤ b') : FineP b' E := ⟨h.len, fun t x hx => (h.tx t x hx).mono hb (Nat.le_refl _), by have := h.clk; omega⟩

theorem FineP.fine {b : Nat} {st : St} {E : EG} (hE : EngAt st E) (h : FineP b E.abs) (hb : b ≤ 90000) : Fine E := by
  have key : ∀ (t : Nat) (x : TX), E.txs[t]? = some (some x) → FineT b E.vars.length x.abs := fun t x hx => h.tx t x.abs (by
    show (E.txs.map _)[t]? = _
    rw [List.getElem?_map, hx]; rfl)
  have hl : ∀ (t : Nat) (x : TX), E.txs[t]? = some (some x) → x.mids.length = x.abs.maps.length := fun t x hx => by rw [TX.abs_len, (hE.tx t x hx).len]
  refine ⟨fun t x hx => ⟨(key t x hx).reads, ?_, ?_⟩, fun t x hx => ?_, fun t x hx m hm k hk => (key t x hx).dom (pmGet m) (List.mem_map.2 ⟨m, hm, rfl⟩) k hk, ?_, fun t x hx => (key t x hx).left⟩
  · have := (key t x hx).rlen; exact Nat.le_trans this (by omega)
  · have := (key t x hx).mlen; rw [hl t x hx]; omega
  · have := (key t x hx).one; rw [hl t x hx]; omega
  · have := h.clk; exact ⟨this.1, by have := this.2; show E.clock ≤ _; have h3 : E.abs.clock = E.clock := rfl; omega⟩

theorem finep_set {b b' : Nat} {E E' : EP} (h : FineP b E) (hb : b ≤ b') (t : Nat) (o : Option TP) (hv : E.vars.length ≤ E'.vars.length) (ht : E'.txs = E.txs.set t o) (ho : ∀ x, o = some x → FineT b' E'.vars.length x) (hc : 0 ≤ E'.clock ∧ E'.clock ≤ (b' : Int)) : FineP b' E' := by
  refine ⟨by rw [ht, List.length_set]; exact h.len, fun u x hx => ?_, hc⟩
  rw [ht] at hx
  by_cases e : u = t
  · subst e
    rw [List.getElem?_set] at hx
    simp only [if_true] at hx
    split at hx
    · exact ho x (by simpa using hx)
    · cases hx
  · rw [List.getElem?_set_ne (Ne.symm e)] at hx
    exact (h.tx u x hx).mono hb hv

theorem pof_get {E : EP} {t : Int} {x : TP} (h : E.of t = some x) : (0 ≤ t ∧ t < 8) ∧ E.txs[t.toNat]? = some (some x) := by
  unfold EP.of at h
  split at h
  · rename_i c
    refine ⟨c, ?_⟩
    cases hx : E.txs[t.toNat]? with
    | none => rw [hx] at h; cases h
    | some o => rw [hx] at h; cases h; rfl
  · cases h
theorem popn_get {E : EP} {t : Int} {x : TP} (h : E.opn t = some x) : E.of t = some x ∧ x.commits = false := by
  unfold EP.opn at h
  split at h
  · rename_i y hy
    cases hc : y.commits with
    | true => rw [hc] at h; cases h
    | false => rw [hc] at h; cases h; exact ⟨hy, hc⟩
  · cases h
theorem pis_get {E : EP} {n : Int} (h : E.is n = true) : 0 ≤ n ∧ n < (E.vars.length : Int) := by
  unfold EP.is at h
  simpa using h

theorem clk_mono {b b' : Nat} {E : EP} (h : FineP b E) (hb : b ≤ b') : 0 ≤ E.clock ∧ E.clock ≤ (b' : Int) := by have := h.clk; omega

theorem fine_make {b : Nat} {E : EP} (h : FineP b E) (v : Int) : FineP (b + 1) (makeF E v).2 := by
  unfold makeF
  split
  · refine ⟨h.len, fun u x hx => (h.tx u x hx).mono (by omega) (by simp), clk_mono (b' := b + 1) (E := E) h (by omega)⟩
  · exact h.mono (by omega)

theorem fine_begin {b : Nat} {E : EP} (h : FineP b E) (t : Int) : FineP (b + 1) (beginF E t).2 := by
  unfold beginF
  split
  · refine finep_set (b' := b + 1) h (by omega) t.toNat _ (Nat.le_refl _) rfl (fun x hx => ?_) (clk_mono (b' := b + 1) (E := E) h (by omega))
    cases hx
    exact ⟨fun k hk => (by cases hk), by simp, by simp, by simp, fun m hm k hk => (by simp only [List.mem_singleton] at hm; subst hm; cases hk), fun hp => (by cases hp)⟩
  · exact h.mono (by omega)

theorem fine_put {b b' : Nat} {E : EP} (h : FineP b E) (hb : b ≤ b') (t : Int) (x : TP) (hx : FineT b' E.vars.length x) : FineP b' (E.put t x) :=
  finep_set (b' := b') h hb t.toNat (some x) (Nat.le_refl _) rfl (fun y hy => by cases hy; exact hx) (clk_mono (b' := b') (E := E) h hb)

theorem fine_read {b : Nat} {E : EP} (h : FineP b E) (t n : Int) : FineP (b + 1) (readF E t n).2 := by
  unfold readF
  split
  · exact h.mono (by omega)
  · rename_i x hx
    have hT := h.tx _ x (pof_get (popn_get hx).1).2
    split
    · rename_i hn
      split
      · exact h.mono (by omega)
      · split
        · exact h.mono (by omega)
        · show FineP (b + 1) (if n ∈ x.reads then E else E.put t { x with reads := x.reads ++ [n] })
          split
          · exact h.mono (by omega)
          · refine fine_put (b' := b + 1) h (by omega) t _ ⟨fun k hk => ?_, ?_, hT.one, by have := hT.mlen; show x.maps.length ≤ _; omega, hT.dom, hT.left⟩
            · rcases List.mem_append.1 hk with h1 | h1
              · exact hT.reads k h1
              · simp only [List.mem_singleton] at h1; subst h1; exact pis_get hn
            · have := hT.rlen; simp; omega
    · exact h.mono (by omega)

theorem mem_setTop {x : TP} {f m : FM} (h : m ∈ (x.setTop f).maps) : m ∈ x.maps ∨ m = f := List.mem_or_eq_of_mem_set h

theorem fine_write {b : Nat} {E : EP} (h : FineP b E) (t n v : Int) : FineP (b + 1) (writeF E t n v).2 := by
  unfold writeF
  split
  · rename_i x hx
    have hT := h.tx _ x (pof_get (popn_get hx).1).2
    split
    · rename_i hn
      refine fine_put (b' := b + 1) h (by omega) t _ ⟨hT.reads, by have := hT.rlen; show x.reads.length ≤ _; omega, by simpa [TP.setTop] using hT.one, by have := hT.mlen; simp [TP.setTop]; omega, fun m hm k hk => ?_, hT.left⟩
      rcases mem_setTop hm with h1 | rfl
      · exact hT.dom m h1 k hk
      · unfold fmPut at hk
        split at hk
        · rename_i e; subst e; exact pis_get hn
        · refine hT.dom x.top ?_ k hk
          unfold TP.top
          have := hT.one
          simp [List.getD_eq_getElem?_getD, show x.maps.length - 1 < x.maps.length by omega]
    · exact h.mono (by omega)
  · exact h.mono (by omega)

theorem fine_part {b : Nat} {E : EP} (h : FineP b E) (t : Int) : FineP (b + 1) (partF E t).2 := by
  unfold partF
  split
  · rename_i x hx
    have hT := h.tx _ x (pof_get (popn_get hx).1).2
    refine fine_put (b' := b + 1) h (by omega) t _ ⟨hT.reads, by have := hT.rlen; show x.reads.length ≤ _; omega, by simp, by have := hT.mlen; simp; omega, fun m hm k hk => ?_, hT.left⟩
    rcases List.mem_append.1 hm with h1 | h1
    · exact hT.dom m h1 k hk
    · simp only [List.mem_singleton] at h1; subst h1; cases hk
  · exact h.mono (by omega)

theorem top_in {x : TP} (h : 1 ≤ x.maps.length) : x.top ∈ x.maps := by
  unfold TP.top
  simp [List.getD_eq_getElem?_getD, show x.maps.length - 1 < x.maps.length by omega]

theorem fine_shut {b : Nat} {E : EP} (h : FineP b E) (t : Int) (j : Bool) : FineP (b + 1) (shutF E t j).2 := by
  unfold shutF
  split
  · rename_i x hx
    have hT := h.tx _ x (pof_get (popn_get hx).1).2
    split
    · exact h.mono (by omega)
    · rename_i c
      have hD : FineT (b + 1) E.vars.length x.drop := ⟨hT.reads, by have := hT.rlen; show x.reads.length ≤ _; omega, by simp [TP.drop]; omega, by have := hT.mlen; simp [TP.drop]; omega, fun m hm k hk => hT.dom m ((List.dropLast_sublist _).subset hm) k hk, hT.left⟩
      refine fine_put (b' := b + 1) h (by omega) t _ ?_
      cases j with
      | false => exact hD
      | true =>
        refine ⟨hD.reads, hD.rlen, by simpa [TP.setTop] using hD.one, by simpa [TP.setTop] using hD.mlen, fun m hm k hk => ?_, hD.left⟩
        rcases mem_setTop hm with h1 | rfl
        · exact hD.dom m h1 k hk
        · unfold fmOver at hk
          cases hf : x.top k with
          | some v => exact hT.dom _ (top_in (by omega)) k (by rw [hf]; rfl)
          | none =>
            rw [hf] at hk
            exact hD.dom _ (top_in hD.one) k (by simpa using hk)
  · exact h.mono (by omega)

theorem fine_abort {b : Nat} {E : EP} (h : FineP b E) (t : Int) : FineP (b + 1) (abortF E t).2 := by
  unfold abortF
  split
  · split
    · exact h.mono (by omega)
    · exact finep_set (b' := b + 1) h (by omega) t.toNat none (by simp) rfl (fun x hx => by cases hx) (clk_mono (b' := b + 1) (E := E) h (by omega))
  · exact h.mono (by omega)

theorem lock_len {t : Int} {vars : List TV} {l : List Int} {a : Int × Int} {vs : List TV} (h : lockF t vars l = some (a, vs)) : vs.length = vars.length := by
  induction l with
  | nil => cases h
  | cons n r ih =>
    unfold lockF at h
    split at h
    · exact ih h
    · split at h
      · cases h; simp
      · cases h; rfl

theorem commit_fine {b n : Nat} {x : TP} (h : FineT b n x) : FineT b n x.commit := ⟨h.reads, h.rlen, h.one, h.mlen, h.dom, h.left⟩

theorem put_put (E : EP) (t : Int) (x y : TP) : (E.put t x).put t y = E.put t y := by
  simp [EP.put, List.set_set]

theorem fine_step {b : Nat} {E : EP} (h : FineP b E) (t : Int) : FineP (b + 1) (stepF E t).2 := by
  unfold stepF
  split
  · exact h.mono (by omega)
  · rename_i x hx
    have hT := (h.tx _ x (pof_get hx).2).mono (b' := b + 1) (by omega) (Nat.le_refl _)
    split
    · exact h.mono (by omega)
    · split
      · rename_i hp
        unfold putF
        have hl := hT.left hp
        split
        · rename_i e; exact absurd e hl.1
        · rename_i n r e
          have e' : x.left = n :: r := e
          rw [e'] at hl
          split
          · refine finep_set (b' := b + 1) h (by omega) t.toNat none (by simp [EP.put]) (by simp [EP.put, List.set_set]) (fun x hx => by cases hx) (clk_mono (b' := b + 1) (E := E) h (by omega))
          · rename_i hr
            refine finep_set (b' := b + 1) h (by omega) t.toNat (some _) (by simp [EP.put]) (by simp only [EP.put, List.set_set]; rfl) (fun y hy => ?_) (clk_mono (b' := b + 1) (E := E) h (by omega))
            cases hy
            refine ⟨by simpa [EP.put, TP.commit] using hT.reads, hT.rlen, hT.one, hT.mlen, by simpa [EP.put, TP.commit] using hT.dom, fun _ => ⟨hr, fun k hk => ?_⟩⟩
            have := hl.2 k (by simp [show k ∈ r from hk])
            simpa [EP.put] using this
      · split
        · rename_i a vs hlk
          have hvl := lock_len hlk
          refine finep_set (b' := b + 1) h (by omega) t.toNat (some x.commit) (by show E.vars.length ≤ vs.length; omega) rfl (fun y hy => ?_) (clk_mono (b' := b + 1) (E := E) h (by omega))
          cases hy
          exact (commit_fine hT).mono (Nat.le_refl _) (by show E.vars.length ≤ vs.length; omega)
        · split
          · exact fine_put (b' := b + 1) h (by omega) t _ (commit_fine hT)
          · split
            · exact finep_set (b' := b + 1) h (by omega) t.toNat none (Nat.le_refl _) rfl (fun x hx => by cases hx) (clk_mono (b' := b + 1) (E := E) h (by omega))
            · rename_i hk
              refine finep_set (b' := b + 1) h (by omega) t.toNat (some _) (Nat.le_refl _) rfl (fun y hy => ?_) (by have := h.clk; show 0 ≤ E.clock + 1 ∧ E.clock + 1 ≤ _; omega)
              cases hy
              exact ⟨hT.reads, hT.rlen, hT.one, hT.mlen, hT.dom, fun _ => ⟨hk, fun k hk => (mem_keysUpto.1 hk).1⟩⟩

theorem fine_new : FineP 0 EP.new := by
  refine ⟨rfl, fun t x hx => ?_, by simp [EP.new]⟩
  simp only [EP.new, List.getElem?_replicate] at hx
  split at hx <;> cases hx

end Go.Proofs
