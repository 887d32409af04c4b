/- What each deed keeps of the reference. -/
import Derived.Test.YteclbnjpijakbaaR11
set_option linter.unusedSimpArgs false
set_option linter.unusedVariables false
namespace Go.Proofs
open Go Go.AL

structure FineX (b n : Nat) (x : RT) : Prop where
  reads : ∀ k ∈ x.reads, 0 ≤ k ∧ k < (n : Int)
  rlen : x.reads.length ≤ b
  puts : ∀ p ∈ x.puts, 0 ≤ p.n ∧ p.n < (n : Int)
  plen : x.puts.length ≤ b
  parts : 0 ≤ x.parts ∧ x.parts ≤ (b : Int) + 1
  done : 0 < x.stamp → 0 ≤ x.done ∧ x.done < ((sortR 1 x.puts).length : Int)
  opn : x.commits = false → x.stamp ≤ 0
  one : x.is = true → 1 ≤ x.parts
  dz : x.stamp ≤ 0 → x.done = 0

structure FineD (b : Nat) (R : RP) : Prop where
  len : R.txs.length = 8
  tx : ∀ (t : Nat) (x : RT), R.txs[t]? = some x → FineX b R.vars.length x
  clk : 0 ≤ R.clock ∧ R.clock ≤ (b : Int)

theorem FineX.mono {b b' n n' : Nat} {x : RT} (h : FineX b n x) (hb : b ≤ b') (hn : n ≤ n') : FineX b' n' x where
  reads := fun k hk => by have := h.reads k hk; omega
  rlen := Nat.le_trans h.rlen hb
  puts := fun k hk => by have := h.puts k hk; omega
  plen := Nat.le_trans h.plen hb
  parts := by have := h.parts; omega
  done := h.done
  opn := h.opn
  one := h.one
  dz := h.dz

theorem FineD.mono {b b' : Nat} {R : RP} (h : FineD b R) (hb : b ≤ b') : FineD b' R := ⟨h.len, fun t x hx => (h.tx t x hx).mono hb (Nat.le_refl _), by have := h.clk; omega⟩

theorem FineD.fine {b : Nat} {R : RP} (h : FineD b R) (hb : b ≤ 90000) : FineR b R where
  reads := fun t x hx => ⟨(h.tx t x hx).reads, (h.tx t x hx).rlen⟩
  puts := fun t x hx => ⟨(h.tx t x hx).puts, (h.tx t x hx).plen⟩
  parts := fun t x hx => (h.tx t x hx).parts
  clk := h.clk
  small := hb

theorem finex_none (b n : Nat) : FineX b n .none := ⟨fun k hk => (by cases hk), Nat.zero_le _, fun k hk => (by cases hk), Nat.zero_le _, (by simp [RT.none]; omega), fun h => (by simp [RT.none] at h), fun _ => Int.le_refl _, fun h => (by cases h), fun _ => rfl⟩

theorem FineD.get {b : Nat} {R : RP} (h : FineD b R) (t : Int) : FineX b R.vars.length (R.get t) := by
  unfold RP.get
  rw [List.getD_eq_getElem?_getD]
  cases hx : R.txs[t.toNat]? with
  | none => exact finex_none _ _
  | some x => exact h.tx _ x hx

theorem FineD.done {b : Nat} {R : RP} (h : FineD b R) (t : Int) : 0 < (R.get t).stamp → 0 ≤ (R.get t).done ∧ (R.get t).done < ((sortR 1 (R.get t).puts).length : Int) := (h.get t).done

theorem fined_set {b b' : Nat} {R R' : RP} (h : FineD b R) (hb : b ≤ b') (t : Nat) (x : RT) (hv : R.vars.length ≤ R'.vars.length) (ht : R'.txs = R.txs.set t x) (hx : FineX b' R'.vars.length x) (hc : 0 ≤ R'.clock ∧ R'.clock ≤ (b' : Int)) : FineD b' R' := by
  refine ⟨by rw [ht, List.length_set]; exact h.len, fun u y hy => ?_, hc⟩
  rw [ht] at hy
  by_cases e : u = t
  · subst e
    rw [List.getElem?_set] at hy
    simp only [if_true] at hy
    split at hy
    · cases hy; exact hx
    · cases hy
  · rw [List.getElem?_set_ne (Ne.symm e)] at hy
    exact (h.tx u y hy).mono hb hv

theorem rclk_mono {b b' : Nat} {R : RP} (h : FineD b R) (hb : b ≤ b') : 0 ≤ R.clock ∧ R.clock ≤ (b' : Int) := by have := h.clk; omega

theorem fined_put {b b' : Nat} {R : RP} (h : FineD b R) (hb : b ≤ b') (t : Int) (x : RT) (hx : FineX b' R.vars.length x) : FineD b' (R.put t x) :=
  fined_set (b' := b') h hb t.toNat x (Nat.le_refl _) rfl hx (rclk_mono (b' := b') (R := R) h hb)

theorem mem_putR {l : List PW} {n v part : Int} {p : PW} (h : p ∈ putR l n v part) : (∃ q ∈ l, q.n = p.n) ∨ p.n = n := by
  induction l with
  | nil => simp [putR] at h; subst h; exact .inr rfl
  | cons q r ih =>
    unfold putR at h
    split at h
    · rcases List.mem_cons.1 h with rfl | h
      · exact .inl ⟨q, by simp, rfl⟩
      · exact .inl ⟨p, by simp [h], rfl⟩
    · rcases List.mem_cons.1 h with rfl | h
      · exact .inl ⟨p, by simp, rfl⟩
      · rcases ih h with ⟨q', h1, h2⟩ | h1
        · exact .inl ⟨q', by simp [h1], h2⟩
        · exact .inr h1

theorem mem_joinR {k : Int} {own rest : List PW} {p : PW} (h : p ∈ joinR k own rest) : ∃ q ∈ own ++ rest, q.n = p.n := by
  unfold joinR at h
  induction own generalizing rest with
  | nil => exact ⟨p, by simpa using h, rfl⟩
  | cons a r ih =>
    obtain ⟨q, h1, h2⟩ := ih h
    rcases List.mem_append.1 h1 with h3 | h3
    · exact ⟨q, by simp [h3], h2⟩
    · rcases mem_putR h3 with ⟨q', h4, h5⟩ | h4
      · exact ⟨q', by simp [h4], h5.trans h2⟩
      · exact ⟨a, by simp, by rw [← h4]; exact h2⟩

theorem joinR_len (k : Int) (own rest : List PW) : (joinR k own rest).length ≤ own.length + rest.length := by
  unfold joinR
  induction own generalizing rest with
  | nil => simp
  | cons a r ih =>
    have := ih (putR rest a.n a.v (k - 1))
    have h2 := putR_len rest a.n a.v (k - 1)
    simp only [List.foldl_cons, List.length_cons]
    split at h2 <;> omega

theorem own_rest_len (k : Int) (l : List PW) : (ownR k l).length + (restR k l).length = l.length := by
  unfold restR ownR
  induction l with
  | nil => rfl
  | cons a r ih =>
    simp only [List.filter_cons]
    by_cases c : a.part = k <;> simp [c] <;> omega

theorem ris_get {R : RP} {n : Int} (h : R.is n = true) : 0 ≤ n ∧ n < (R.vars.length : Int) := by
  unfold RP.is at h
  simpa using h

theorem fined_make {b : Nat} {R : RP} (h : FineD b R) (v : Int) : FineD (b + 1) (makeR R v).2 := by
  unfold makeR
  split
  · exact ⟨h.len, fun u x hx => (h.tx u x hx).mono (by omega) (by simp), rclk_mono (b' := b + 1) (R := R) h (by omega)⟩
  · exact h.mono (by omega)

theorem fined_begin {b : Nat} {R : RP} (h : FineD b R) (t : Int) : FineD (b + 1) (beginR R t).2 := by
  unfold beginR
  split
  · exact fined_put (b' := b + 1) h (by omega) t _ ⟨fun k hk => (by cases hk), Nat.zero_le _, fun k hk => (by cases hk), Nat.zero_le _, by simp; omega, fun h => (by simp at h), fun _ => Int.le_refl _, fun _ => Int.le_refl _, fun _ => rfl⟩
  · exact h.mono (by omega)

theorem fined_read {b : Nat} {R : RP} (h : FineD b R) (t n : Int) : FineD (b + 1) (readR R t n).2 := by
  unfold readR
  have hT := h.get t
  split
  · rename_i c
    split
    · exact h.mono (by omega)
    · split
      · exact h.mono (by omega)
      · show FineD (b + 1) (if n ∈ (R.get t).reads then R else R.put t { R.get t with reads := (R.get t).reads ++ [n] })
        split
        · exact h.mono (by omega)
        · refine fined_put (b' := b + 1) h (by omega) t _ ⟨fun k hk => ?_, ?_, hT.puts, by have := hT.plen; show (R.get t).puts.length ≤ _; omega, by have := hT.parts; show 0 ≤ (R.get t).parts ∧ (R.get t).parts ≤ _; omega, hT.done, hT.opn, hT.one, hT.dz⟩
          · rcases List.mem_append.1 hk with h1 | h1
            · exact hT.reads k h1
            · simp only [List.mem_singleton] at h1; subst h1; exact ris_get c.2
          · have := hT.rlen; simp; omega
  · exact h.mono (by omega)

theorem fined_write {b : Nat} {R : RP} (h : FineD b R) (t n v : Int) : FineD (b + 1) (writeR R t n v).2 := by
  unfold writeR
  have hT := h.get t
  split
  · rename_i c
    refine fined_put (b' := b + 1) h (by omega) t _ ⟨hT.reads, by have := hT.rlen; show (R.get t).reads.length ≤ _; omega, fun p hp => ?_, ?_, by have := hT.parts; show 0 ≤ (R.get t).parts ∧ (R.get t).parts ≤ _; omega, fun q => ?_, hT.opn, hT.one, hT.dz⟩
    · rcases mem_putR hp with ⟨q, h1, h2⟩ | h1
      · rw [← h2]; exact hT.puts q h1
      · rw [h1]; exact ris_get c.2
    · have h2 := putR_len (R.get t).puts n v (R.get t).parts
      have := hT.plen
      show (putR (R.get t).puts n v (R.get t).parts).length ≤ _
      split at h2 <;> omega
    · have q : 0 < (R.get t).stamp := q
      have := hT.opn (ropn_get c.1).2.2
      omega
  · exact h.mono (by omega)

theorem fined_part {b : Nat} {R : RP} (h : FineD b R) (t : Int) : FineD (b + 1) (partR R t).2 := by
  unfold partR
  have hT := h.get t
  split
  · exact fined_put (b' := b + 1) h (by omega) t _ ⟨hT.reads, by have := hT.rlen; show (R.get t).reads.length ≤ _; omega, hT.puts, by have := hT.plen; show (R.get t).puts.length ≤ _; omega, by have := hT.parts; show 0 ≤ (R.get t).parts + 1 ∧ (R.get t).parts + 1 ≤ _; omega, hT.done, hT.opn, fun hi => (by have := hT.one hi; show 1 ≤ (R.get t).parts + 1; omega), hT.dz⟩
  · exact h.mono (by omega)

theorem fined_shut {b : Nat} {R : RP} (h : FineD b R) (t : Int) (keep : Bool) : FineD (b + 1) (shutR R t keep).2 := by
  unfold shutR
  have hT := h.get t
  split
  · rename_i c
    have hsm := own_rest_len (R.get t).parts (R.get t).puts
    have hst := hT.opn (ropn_get c.1).2.2
    have hon := hT.one (ropn_get c.1).2.1
    have hne := c.2
    refine fined_put (b' := b + 1) h (by omega) t _ ⟨hT.reads, by have := hT.rlen; show (R.get t).reads.length ≤ _; omega, fun p hp => ?_, ?_, by have := hT.parts; show 0 ≤ (R.get t).parts - 1 ∧ (R.get t).parts - 1 ≤ _; omega, fun q => ?_, hT.opn, fun _ => (by show 1 ≤ (R.get t).parts - 1; omega), hT.dz⟩
    · cases keep with
      | false => exact hT.puts p (List.mem_filter.1 hp).1
      | true =>
        obtain ⟨q, h1, h2⟩ := mem_joinR hp
        rw [← h2]
        rcases List.mem_append.1 h1 with h3 | h3 <;> exact hT.puts q (List.mem_filter.1 h3).1
    · have := hT.plen
      cases keep with
      | false => show (restR (R.get t).parts (R.get t).puts).length ≤ _; omega
      | true =>
        have h3 := joinR_len (R.get t).parts (ownR (R.get t).parts (R.get t).puts) (restR (R.get t).parts (R.get t).puts)
        show (joinR (R.get t).parts (ownR (R.get t).parts (R.get t).puts) (restR (R.get t).parts (R.get t).puts)).length ≤ _
        omega
    · have q : 0 < (R.get t).stamp := q
      omega
  · exact h.mono (by omega)

theorem fined_abort {b : Nat} {R : RP} (h : FineD b R) (t : Int) : FineD (b + 1) (abortR R t).2 := by
  unfold abortR
  split
  · exact fined_set (b' := b + 1) h (by omega) t.toNat .none (by simp) rfl (finex_none _ _) (rclk_mono (b' := b + 1) (R := R) h (by omega))
  · exact h.mono (by omega)

theorem lockR_len {t : Int} {vars : List TV} {l : List PW} {a : Int × Int} {vs : List TV} (h : lockRF t vars l = some (a, vs)) : vs.length = vars.length := by
  induction l with
  | nil => cases h
  | cons n r ih =>
    unfold lockRF at h
    split at h
    · exact ih h
    · split at h
      · cases h; rfl
      · cases h; simp

theorem rcommit_fine {b n : Nat} {x : RT} (h : FineX b n x) : FineX b n x.commit := ⟨h.reads, h.rlen, h.puts, h.plen, h.parts, h.done, fun e => (by cases e), h.one, h.dz⟩

theorem fined_step {b : Nat} {R : RP} (h : FineD b R) (t : Int) : FineD (b + 1) (stepR R t).2 := by
  unfold stepR
  have hT := (h.get t).mono (b' := b + 1) (by omega) (Nat.le_refl _)
  split
  · split
    · rename_i hst
      have hd := hT.done hst
      show FineD (b + 1) (if (R.get t).done + 1 < ((sortR 1 (R.get t).puts).length : Int) then (((3, 0), _) : (Int × Int) × RP) else ((4, 0), _)).2
      split
      · rename_i c
        refine fined_set (b' := b + 1) h (by omega) t.toNat _ (by simp [RP.put]) rfl ?_ (rclk_mono (b' := b + 1) (R := R) h (by omega))
        exact ⟨by simpa [RP.put, RT.commit] using hT.reads, hT.rlen, by simpa [RP.put, RT.commit] using hT.puts, hT.plen, hT.parts, fun _ => ⟨by show 0 ≤ (R.get t).done + 1; omega, c⟩, fun e => (by cases e), hT.one, fun e => (by have e : (R.get t).stamp ≤ 0 := e; omega)⟩
      · exact fined_set (b' := b + 1) h (by omega) t.toNat .none (by simp [RP.put]) rfl (finex_none _ _) (rclk_mono (b' := b + 1) (R := R) h (by omega))
    · rename_i hst
      split
      · rename_i a vs hlk
        have hvl := lockR_len hlk
        refine fined_set (b' := b + 1) h (by omega) t.toNat (R.get t).commit (by show R.vars.length ≤ vs.length; omega) rfl ?_ (rclk_mono (b' := b + 1) (R := R) h (by omega))
        exact (rcommit_fine hT).mono (Nat.le_refl _) (by show R.vars.length ≤ vs.length; omega)
      · split
        · exact fined_put (b' := b + 1) h (by omega) t _ (rcommit_fine hT)
        · split
          · exact fined_put (b' := b + 1) h (by omega) t _ (finex_none _ _)
          · rename_i hl
            refine fined_set (b' := b + 1) h (by omega) t.toNat _ (Nat.le_refl _) rfl ⟨hT.reads, hT.rlen, hT.puts, hT.plen, hT.parts, fun _ => ?_, fun e => (by cases e), hT.one, fun e => (by have e : R.clock + 1 ≤ 0 := e; have := h.clk; omega)⟩ (by have := h.clk; show 0 ≤ R.clock + 1 ∧ R.clock + 1 ≤ _; omega)
            have h0 := hT.dz (by omega)
            show 0 ≤ (R.get t).done ∧ (R.get t).done < _
            rw [h0]
            refine ⟨Int.le_refl _, ?_⟩
            have : 0 < (sortR 1 (R.get t).puts).length := List.length_pos_iff.2 hl
            show (0 : Int) < ((sortR 1 (R.get t).puts).length : Int)
            omega
  · exact h.mono (by omega)

theorem fined_new : FineD 0 RP.new := by
  refine ⟨rfl, fun t x hx => ?_, by simp [RP.new]⟩
  simp only [RP.new, List.getElem?_replicate] at hx
  split at hx <;> cases hx
  exact finex_none _ _

end Go.Proofs
