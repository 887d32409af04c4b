/- What each deed keeps of the reference. -/
import Derived.Test.YteclbnjpijakbaaM5
import Derived.Test.YteclbnjpijakbaaH2
import Derived.Test.YteclbnjpijakbaaM4
set_option linter.unusedSimpArgs false
set_option linter.unusedVariables false
namespace Go.Proofs
open Go Go.AL

structure FineX (b n : Nat) (x : RT) : Prop where
  reads : ∀ k ∈ x.reads, 0 ≤ k ∧ k < (n : Int)
  rlen : x.reads.length ≤ b
  puts : ∀ p ∈ x.puts, 0 ≤ p.n ∧ p.n < (n : Int)
  plen : x.puts.length ≤ b
  parts : 0 ≤ x.parts ∧ x.parts ≤ (b : Int) + 1
  done : 0 < x.stamp → 0 ≤ x.done ∧ x.done < ((sortR 1 x.puts).length : Int)
  opn : x.commits = false → x.stamp ≤ 0
  one : x.is = true → 1 ≤ x.parts
  dz : x.stamp ≤ 0 → x.done = 0

structure FineD (b : Nat) (R : RP) : Prop where
  len : R.txs.length = 8
  tx : ∀ (t : Nat) (x : RT), R.txs[t]? = some x → FineX b R.vars.length x
  clk : 0 ≤ R.clock ∧ R.clock ≤ (b : Int)

theorem FineX.mono {b b' n n' : Nat} {x : RT} (h : FineX b n x) (hb : b ≤ b') (hn : n ≤ n') : FineX b' n' x where
  reads := fun k hk => by have := h.reads k hk; omega
  rlen := Nat.le_trans h.rlen hb
  puts := fun k hk => by have := h.puts k hk; omega
  plen := Nat.le_trans h.plen hb
  parts := by have := h.parts; omega
  done := h.done
  opn := h.opn
  one := h.one
  dz := h.dz

theorem FineD.mono {b b' : Nat} {R : RP} (h : FineD b R) (hb : b ≤ b') : FineD b' R := ⟨h.len, fun t x hx => (h.tx t x hx).mono hb (Nat.le_refl _), by have := h.clk; omega⟩

theorem FineD.fine {b : Nat} {R : RP} (h : FineD b R) (hb : b ≤ 90000) : FineR b R where
  reads := fun t x hx => ⟨(h.tx t x hx).reads, (h.tx t x hx).rlen⟩
  puts := fun t x hx => ⟨(h.tx t x hx).puts, (h.tx t x hx).plen⟩
  parts := fun t x hx => (h.tx t x hx).parts
  clk := h.clk
  small := hb

theorem finex_none (b n : Nat) : FineX b n .none := ⟨fun k hk => (by cases hk), Nat.zero_le _, fun k hk => (by cases hk), Nat.zero_le _, (by simp [RT.none]; omega), fun h => (by simp [RT.none] at h), fun _ => Int.le_refl _, fun h => (by cases h), fun _ => rfl⟩

theorem FineD.get {b : Nat} {R : RP} (h : FineD b R) (t : Int) : FineX b R.vars.length (R.get t) := by
  unfold RP.get
  rw [List.getD_eq_getElem?_getD]
  cases hx : R.txs[t.toNat]? with
  | none => exact finex_none _ _
  | some x => exact h.tx _ x hx

theorem FineD.done {b : Nat} {R : RP} (h : FineD b R) (t : Int) : 0 < (R.get t).stamp → 0 ≤ (R.get t).done ∧ (R.get t).done < ((sortR 1 (R.get t).puts).length : Int) := (h.get t).done

theorem fined_set {b b' : Nat} {R R' : RP} (h : FineD b R) (hb : b ≤ b') (t : Nat) (x : RT) (hv : R.vars.length ≤ R'.vars.length) (ht : R'.txs = R.txs.set t x) (hx : FineX b' R'.vars.length x) (hc : 0 ≤ R'.clock ∧ R'.clock ≤ (b' : Int)) : FineD b' R' := by
  refine ⟨by rw [ht, List.length_set]; exact h.len, fun u y hy => ?_, hc⟩
  rw [ht] at hy
  by_cases e : u = t
  · subst e
    rw [List.getElem?_set] at hy
    simp only [if_true] at hy
    split at hy
    · cases hy; exact hx
    · cases hy
  · rw [List.getElem?_set_ne (Ne.symm e)] at hy
    exact (h.tx u y hy).mono hb hv

theorem rclk_mono {b b' : Nat} {R : RP} (h : FineD b R) (hb : b ≤ b') : 0 ≤ R.clock ∧ R.clock ≤ (b' : Int) := by have := h.clk; omega

theorem fined_put {b b' : Nat} {R : RP} (h : FineD b R) (hb : b ≤ b') (t : Int) (x : RT) (hx : FineX b' R.vars.length x) : FineD b' (R.put t x) :=
  fined_set (b' := b') h hb t.toNat x (Nat.le_refl _) rfl hx (rclk_mono (b' := b') (R := R) h hb)

theorem mem_putR {l : List PW} {n v part : Int} {p : PW} (h : p ∈ putR l n v part) : (∃ q ∈ l, q.n = p.n) ∨ p.n = n := by
  induction l with
  | nil => simp [putR] at h; subst h; exact .inr rfl
  | cons q r ih =>
    unfold putR at h
    split at h
    · rcases List.mem_cons.1 h with rfl | h
      · exact .inl ⟨q, by simp, rfl⟩
      · exact .inl ⟨p, by simp [h], rfl⟩
    · rcases List.mem_cons.1 h with rfl | h
      · exact .inl ⟨p, by simp, rfl⟩
      · rcases ih h with ⟨q', h1, h2⟩ | h1
        · exact .inl ⟨q', by simp [h1], h2⟩
        · exact .inr h1

theorem mem_joinR {k : Int} {own rest : List PW} {p : PW} (h : p ∈ joinR k own rest) : ∃ q ∈ own ++ rest, q.n = p.n := by
  unfold joinR at h
  induction own generalizing rest with
  | nil => exact ⟨p, by simpa using h, rfl⟩
  | cons a r ih =>
    obtain ⟨q, h1, h2⟩ := ih h
    rcases List.mem_append.1 h1 with h3 | h3
    · exact ⟨q, by simp [h3], h2⟩
    · rcases mem_putR h3 with ⟨q', h4, h5⟩ | h4
      · exact ⟨q', by simp [h4], h5.trans h2⟩
      · exact ⟨a, by simp, by rw [← h4]; exact h2⟩

theorem joinR_len (k : Int) (own rest : List PW) : (joinR k own rest).length ≤ own.length + rest.length := by
  unfold joinR
  induction own generalizing rest with
  | nil => simp
  | cons a r ih =>
    have := ih (putR rest a.n a.v (k - 1))
    have h2 := putR_len rest a.n a.v (k - 1)
    simp only [List.foldl_cons, List.length_cons]
    split at h2 <;> omega

theorem own_rest_len (k : Int) (l : List PW) : (ownR k l).length + (restR k l).length = l.length := by
  unfold restR ownR
  induction l with
  | nil => rfl
  | cons a r ih =>
    simp only [List.filter_cons]
    by_cases c : a.part = k <;> simp [c] <;> omega

theorem ris_get {R : RP} {n : Int} (h : R.is n = true) : 0 ≤ n ∧ n < (R.vars.length : Int) := by
  unfold RP.is at h
  simpa using h

theorem fined_make {b : Nat} {R : RP} (h : FineD b R) (v : Int) : FineD (b + 1) (makeR R v).2 := by
  unfold makeR
  split
  · exact ⟨h.len, fun u x hx => (h.tx u x hx).mono (by omega) (by simp), rclk_mono (b' := b + 1) (R := R) h (by omega)⟩
  · exact h.mono (by omega)

theorem fined_begin {b : Nat} {R : RP} (h : FineD b R) (t : Int) : FineD (b + 1) (beginR R t).2 := by
  unfold beginR
  split
  · exact fined_put (b' := b + 1) h (by omega) t _ ⟨fun k hk => (by cases hk), Nat.zero_le _, fun k hk => (by cases hk), Nat.zero_le _, by simp; omega, fun h => (by simp at h), fun _ => Int.le_refl _, fun _ => Int.le_refl _, fun _ => rfl⟩
  · exact h.mono (by omega)

theorem fined_read {b : Nat} {R : RP} (h : FineD b R) (t n : Int) : FineD (b + 1) (readR R t n).2 := by
  unfold readR
  have hT := h.get t
  split
  · rename_i c
    split
    · exact h.mono (by omega)
    · split
      · exact h.mono (by omega)
      · show FineD (b + 1) (if n ∈ (R.get t).reads then R else R.put t { R.get t with reads := (R.get t).reads ++ [n] })
        split
        · exact h.mono (by omega)
        · refine fined_put (b' := b + 1) h (by omega) t _ ⟨fun k hk => ?_, ?_, hT.puts, by have := hT.plen; show (R.get t).puts.length ≤ _; omega, by have := hT.parts; show 0 ≤ (R.get t).parts ∧ (R.get t).parts ≤ _; omega, hT.done, hT.opn, hT.one, hT.dz⟩
          · rcases List.mem_append.1 hk with h1 | h1
            · exact hT.reads k h1
            · simp only [List.mem_singleton] at h1; subst h1; exact ris_get c.2
          · have := hT.rlen; simp; omega
  · exact h.mono (by omega)

theorem fined_write {b : Nat} {R : RP} (h : FineD b R) (t n v : Int) : FineD (b + 1) (writeR R t n v).2 := by
  unfold writeR
  have hT := h.get t
  split
  · rename_i c
    refine fined_put (b' := b + 1) h (by omega) t _ ⟨hT.reads, by have := hT.rlen; show (R.get t).reads.length ≤ _; omega, fun p hp => ?_, ?_, by have := hT.parts; show 0 ≤ (R.get t).parts ∧ (R.get t).parts ≤ _; omega, fun q => ?_, hT.opn, hT.one, hT.dz⟩
    · rcases mem_putR hp with ⟨q, h1, h2⟩ | h1
      · rw [← h2]; exact hT.puts q h1
      · rw [h1]; exact ris_get c.2
    · have h2 := putR_len (R.get t).puts n v (R.get t).parts
      have := hT.plen
      show (putR (R.get t).puts n v (R.get t).parts).length ≤ _
      split at h2 <;> omega
    · have q : 0 < (R.get t).stamp := q
      have := hT.opn (ropn_get c.1).2.2
      omega
  · exact h.mono (by omega)

theorem fined_part {b : Nat} {R : RP} (h : FineD b R) (t : Int) : FineD (b + 1) (partR R t).2 := by
  unfold partR
  have hT := h.get t
  split
  · exact fined_put (b' := b + 1) h (by omega) t _ ⟨hT.reads, by have := hT.rlen; show (R.get t).reads.length ≤ _; omega, hT.puts, by have := hT.plen; show (R.get t).puts.length ≤ _; omega, by have := hT.parts; show 0 ≤ (R.get t).parts + 1 ∧ (R.get t).parts + 1 ≤ _; omega, hT.done, hT.opn, fun hi => (by have := hT.one hi; show 1 ≤ (R.get t).parts + 1; omega), hT.dz⟩
  · exact h.mono (by omega)

theorem fined_shut {b : Nat} {R : RP} (h : FineD b R) (t : Int) (keep : Bool) : FineD (b + 1) (shutR R t keep).2 := by
  unfold shutR
  have hT := h.get t
  split
  · rename_i c
    have hsm := own_rest_len (R.get t).parts (R.get t).puts
    have hst := hT.opn (ropn_get c.1).2.2
    have hon := hT.one (ropn_get c.1).2.1
    have hne := c.2
    refine fined_put (b' := b + 1) h (by omega) t _ ⟨hT.reads, by have := hT.rlen; show (R.get t).reads.length ≤ _; omega, fun p hp => ?_, ?_, by have := hT.parts; show 0 ≤ (R.get t).parts - 1 ∧ (R.get t).parts - 1 ≤ _; omega, fun q => ?_, hT.opn, fun _ => (by show 1 ≤ (R.get t).parts - 1; omega), hT.dz⟩
    · cases keep with
      | false => exact hT.puts p (List.mem_filter.1 hp).1
      | true =>
        obtain ⟨q, h1, h2⟩ := mem_joinR hp
        rw [← h2]
        rcases List.mem_append.1 h1 with h3 | h3 <;> exact hT.puts q (List.mem_filter.1 h3).1
    · have := hT.plen
      cases keep with
      | false => show (restR (R.get t).parts (R.get t).puts).length ≤ _; omega
      | true =>
        have h3 := joinR_len (R.get t).parts (ownR (R.get t).parts (R.get t).puts) (restR (R.get t).parts (R.get t).puts)
        show (joinR (R.get t).parts (ownR (R.get t).parts (R.get t).puts) (restR (R.get t).parts (R.get t).puts)).length ≤ _
        omega
    · have q : 0 < (R.get t).stamp := q
      omega
  · exact h.mono (by omega)

theorem fined_abort {b : Nat} {R : RP} (h : FineD b R) (t : Int) : FineD (b + 1) (abortR R t).2 := by
  unfold abortR
  split
  · exact fined_set (b' := b + 1) h (by omega) t.toNat .none (by simp) rfl (finex_none _ _) (rclk_mono (b' := b + 1) (R := R) h (by omega))
  · exact h.mono (by omega)

theorem lockR_len {t : Int} {vars : List TV} {l : List PW} {a : Int × Int} {vs : List TV} (h : lockRF t vars l = some (a, vs)) : vs.length = vars.length := by
  induction l with
  | nil => cases h
  | cons n r ih =>
    unfold lockRF at h
    split at h
    · exact ih h
    · split at h
      · cases h; rfl
      · cases h; simp

theorem rcommit_fine {b n : Nat} {x : RT} (h : FineX b n x) : FineX b n x.commit := ⟨h.reads, h.rlen, h.puts, h.plen, h.parts, h.done, fun e => (by cases e), h.one, h.dz⟩

theorem fined_step {b : Nat} {R : RP} (h : FineD b R) (t : Int) : FineD (b + 1) (stepR R t).2 := by
  unfold stepR
  have hT := (h.get t).mono (b' := b + 1) (by omega) (Nat.le_refl _)
  split
  · split
    · rename_i hst
      have hd := hT.done hst
      show FineD (b + 1) (if (R.get t).done + 1 < ((sortR 1 (R.get t).puts).length : Int) then (((3, 0), _) : (Int × Int) × RP) else ((4, 0), _)).2
      split
      · rename_i c
        refine fined_set (b' := b + 1) h (by omega) t.toNat _ (by simp [RP.put]) rfl ?_ (rclk_mono (b' := b + 1) (R := R) h (by omega))
        exact ⟨by simpa [RP.put, RT.commit] using hT.reads, hT.rlen, by simpa [RP.put, RT.commit] using hT.puts, hT.plen, hT.parts, fun _ => ⟨by show 0 ≤ (R.get t).done + 1; omega, c⟩, fun e => (by cases e), hT.one, fun e => (by have e : (R.get t).stamp ≤ 0 := e; omega)⟩
      · exact fined_set (b' := b + 1) h (by omega) t.toNat .none (by simp [RP.put]) rfl (finex_none _ _) (rclk_mono (b' := b + 1) (R := R) h (by omega))
    · rename_i hst
      split
      · rename_i a vs hlk
        have hvl := lockR_len hlk
        refine fined_set (b' := b + 1) h (by omega) t.toNat (R.get t).commit (by show R.vars.length ≤ vs.length; omega) rfl ?_ (rclk_mono (b' := b + 1) (R := R) h (by omega))
        exact (rcommit_fine hT).mono (Nat.le_refl _) (by show R.vars.length ≤ vs.length; omega)
      · split
        · exact fined_put (b' := b + 1) h (by omega) t _ (rcommit_fine hT)
        · split
          · exact fined_put (b' := b + 1) h (by omega) t _ (finex_none _ _)
          · rename_i hl
            refine fined_set (b' := b + 1) h (by omega) t.toNat _ (Nat.le_refl _) rfl ⟨hT.reads, hT.rlen, hT.puts, hT.plen, hT.parts, fun _ => ?_, fun e => (by cases e), hT.one, fun e => (by have e : R.clock + 1 ≤ 0 := e; have := h.clk; omega)⟩ (by have := h.clk; show 0 ≤ R.clock + 1 ∧ R.clock + 1 ≤ _; omega)
            have h0 := hT.dz (by omega)
            show 0 ≤ (R.get t).done ∧ (R.get t).done < _
            rw [h0]
            refine ⟨Int.le_refl _, ?_⟩
            have : 0 < (sortR 1 (R.get t).puts).length := List.length_pos_iff.2 hl
            show (0 : Int) < ((sortR 1 (R.get t).puts).length : Int)
            omega
  · exact h.mono (by omega)

theorem fined_new : FineD 0 RP.new := by
  refine ⟨rfl, fun t x hx => ?_, by simp [RP.new]⟩
  simp only [RP.new, List.getElem?_replicate] at hx
  split at hx <;> cases hx
  exact finex_none _ _

end Go.Proofs
set_option linter.unusedSimpArgs false
set_option linter.unusedVariables false
namespace Go.Proofs
open Go Go.AL

theorem fine_does {b : Nat} {E : EP} (h : FineP b E) (d : Dd) : FineP (b + 1) (doesF E d).2 := by
  unfold doesF
  repeat' split
  · exact fine_begin h _
  · exact fine_read h _ _
  · exact fine_write h _ _ _
  · exact fine_step h _
  · exact fine_part h _
  · exact fine_shut h _ _
  · exact fine_shut h _ _
  · exact fine_abort h _
  · exact fine_make h _
  · exact h.mono (by omega)
  · exact h.mono (by omega)

theorem fined_does {b : Nat} {R : RP} (h : FineD b R) (d : Dd) : FineD (b + 1) (doesR R d).2 := by
  unfold doesR
  repeat' split
  · exact fined_begin h _
  · exact fined_read h _ _
  · exact fined_write h _ _ _
  · exact fined_step h _
  · exact fined_part h _
  · exact fined_shut h _ _
  · exact fined_shut h _ _
  · exact fined_abort h _
  · exact fined_make h _
  · exact h.mono (by omega)
  · exact h.mono (by omega)
  · exact h.mono (by omega)

structure AloneX (clock : Int) (x : TP) : Prop where
  pt : x.pointed = true → x.commits = true ∧ x.stamp ≤ clock
  st : x.pointed = false → x.start = clock

structure AloneI (E : EP) : Prop where
  lock : ∀ v ∈ E.vars, v.lock = -1 ∨ v.lock = 0
  ver : ∀ v ∈ E.vars, v.ver ≤ E.clock
  tx : ∀ x, E.txs[0]? = some (some x) → AloneX E.clock x

/-- Nothing of vars, clock and thread 0 turns. -/
theorem alone_same {E E' : EP} (h : AloneI E) (hv : E'.vars = E.vars) (hc : E'.clock = E.clock) (ht : ∀ x, E'.txs[0]? = some (some x) → AloneX E.clock x) : AloneI E' :=
  ⟨by rw [hv]; exact h.lock, by rw [hv, hc]; exact h.ver, by rw [hc]; exact ht⟩

theorem alone_put {E : EP} (h : AloneI E) {t : Int} {x y : TP} (ho : E.of t = some x) (h1 : y.pointed = x.pointed) (h2 : x.commits = true → y.commits = true) (h3 : y.stamp = x.stamp) (h4 : y.start = x.start) : AloneI (E.put t y) := by
  have hg := pof_get ho
  refine alone_same h rfl rfl fun z hz => ?_
  show AloneX E.clock z
  have hz : (E.txs.set t.toNat (some y))[0]? = some (some z) := hz
  by_cases e : t.toNat = 0
  · rw [e] at hz hg
    rw [List.getElem?_set_self (lt_of_get hg.2)] at hz
    cases hz
    have k := h.tx x hg.2
    exact ⟨fun q => ⟨h2 (k.pt (by rw [← h1]; exact q)).1, by rw [h3]; exact (k.pt (by rw [← h1]; exact q)).2⟩, fun q => by rw [h4]; exact k.st (by rw [← h1]; exact q)⟩
  · rw [List.getElem?_set_ne e] at hz
    exact h.tx z hz

theorem alone_none {E : EP} (h : AloneI E) (vs : List TV) (h1 : ∀ v ∈ vs, v.lock = -1 ∨ v.lock = 0) (h2 : ∀ v ∈ vs, v.ver ≤ E.clock) (t : Nat) : AloneI { E with vars := vs, txs := E.txs.set t none } := by
  refine ⟨h1, h2, fun z hz => ?_⟩
  have hz : (E.txs.set t none)[0]? = some (some z) := hz
  by_cases e : t = 0
  · rw [e, List.getElem?_set] at hz
    simp only [if_true] at hz
    split at hz <;> cases hz
  · rw [List.getElem?_set_ne e] at hz
    exact h.tx z hz

theorem alone_look {clock start : Int} {v : TV} (h1 : v.lock = -1 ∨ v.lock = 0) (h2 : v.ver ≤ clock) (h3 : start = clock) : lookF 0 start v = 0 := by
  unfold lookF
  rw [if_neg (by rcases h1 with e | e <;> simp [e]), if_neg (by omega)]

theorem alone_valid {clock start : Int} {vars : List TV} (h1 : ∀ v ∈ vars, v.lock = -1 ∨ v.lock = 0) (h2 : ∀ v ∈ vars, v.ver ≤ clock) (h3 : start = clock) (l : List Int) (hl : ∀ n ∈ l, 0 ≤ n ∧ n < (vars.length : Int)) : validL 0 start vars l = 0 := by
  induction l with
  | nil => rfl
  | cons n r ih =>
    have hn := hl n (by simp)
    have hm : vars.getD n.toNat default ∈ vars := by
      have : n.toNat < vars.length := by omega
      simp [List.getD_eq_getElem?_getD, this]
    unfold validL
    have := alone_look (h1 _ hm) (h2 _ hm) h3
    rw [if_pos this]
    exact ih fun k hk => hl k (by simp [hk])

theorem alone_lock {vars : List TV} (h1 : ∀ v ∈ vars, v.lock = -1 ∨ v.lock = 0) {l : List Int} (hl : ∀ n ∈ l, 0 ≤ n ∧ n < (vars.length : Int)) {a : Int × Int} {vs : List TV} (h : lockF 0 vars l = some (a, vs)) :
    a = (1, 0) ∧ ∃ (n : Int), vs = vars.set n.toNat { vars.getD n.toNat default with lock := 0 } ∧ 0 ≤ n ∧ n < (vars.length : Int) := by
  induction l with
  | nil => cases h
  | cons n r ih =>
    have hn := hl n (by simp)
    have hm : vars.getD n.toNat default ∈ vars := by
      have : n.toNat < vars.length := by omega
      simp [List.getD_eq_getElem?_getD, this]
    unfold lockF at h
    split at h
    · exact ih (fun k hk => hl k (by simp [hk])) h
    · rename_i c
      rcases h1 _ hm with e | e
      · rw [if_pos e] at h
        cases h
        exact ⟨rfl, n, rfl, hn⟩
      · exact absurd e c

def noFail (x : Int) : Prop := x ≠ 32 ∧ x ≠ 33
theorem nf0 : noFail 0 := ⟨by decide, by decide⟩
theorem nf1 : noFail 1 := ⟨by decide, by decide⟩
theorem nf16 : noFail 16 := ⟨by decide, by decide⟩

theorem mem_vars_set {vars : List TV} {n : Nat} {v w : TV} (h : w ∈ vars.set n v) : w ∈ vars ∨ w = v := List.mem_or_eq_of_mem_set h

theorem alone_step {E : EP} (h : AloneI E) {b : Nat} (hF : FineP b E) : AloneI (stepF E 0).2 ∧ noFail (stepF E 0).1.2 := by
  unfold stepF
  split
  · exact ⟨h, (by first | exact nf0 | exact nf1 | exact nf16)⟩
  · rename_i x hx
    have hg := pof_get hx
    have hT := hF.tx _ x hg.2
    have hX := h.tx x hg.2
    have hg2 : E.txs[0]? = some (some x) := hg.2
    split
    · exact ⟨h, (by first | exact nf0 | exact nf1 | exact nf16)⟩
    · split
      · rename_i hp
        have hl := hT.left hp
        have hpt := hX.pt hp
        unfold putF
        split
        · rename_i e; exact absurd e hl.1
        · rename_i n r e
          have e' : x.left = n :: r := e
          have hn := hl.2 n (by rw [e']; simp)
          have hvs : (∀ v ∈ E.vars.set n.toNat ⟨(x.commit.base n).getD 0, x.commit.stamp, -1⟩, v.lock = -1 ∨ v.lock = 0) ∧ (∀ v ∈ E.vars.set n.toNat ⟨(x.commit.base n).getD 0, x.commit.stamp, -1⟩, v.ver ≤ E.clock) := by
            refine ⟨fun v hv => ?_, fun v hv => ?_⟩ <;> rcases mem_vars_set hv with h1 | rfl
            · exact h.lock v h1
            · exact .inl rfl
            · exact h.ver v h1
            · exact hpt.2
          split
          · refine ⟨?_, (by first | exact nf0 | exact nf1 | exact nf16)⟩
            have := alone_none h _ hvs.1 hvs.2 (0 : Int).toNat
            simpa [EP.put, List.set_set] using this
          · refine ⟨⟨hvs.1, hvs.2, fun z hz => ?_⟩, (by first | exact nf0 | exact nf1 | exact nf16)⟩
            simp only [EP.put, List.set_set] at hz
            have hz : (E.txs.set 0 (some { x.commit with left := r }))[0]? = some (some z) := hz
            rw [List.getElem?_set_self (lt_of_get hg2)] at hz
            cases hz
            exact ⟨fun _ => ⟨rfl, hpt.2⟩, fun q => absurd hp (by rw [show x.pointed = false from q]; decide)⟩
      · rename_i hp
        have hp : x.pointed = false := by simpa using hp
        have hst := hX.st hp
        have hkin : ∀ n ∈ keysUpto x.base E.vars.length, 0 ≤ n ∧ n < (E.vars.length : Int) := fun n hn => (mem_keysUpto.1 hn).1
        have hcm : AloneI (E.put 0 x.commit) := alone_put h hx rfl (fun _ => rfl) rfl rfl
        split
        · rename_i a vs hlk
          obtain ⟨ha, n, hvs, hn⟩ := alone_lock h.lock hkin hlk
          subst ha
          have hm : E.vars.getD n.toNat default ∈ E.vars := by
            have : n.toNat < E.vars.length := by omega
            simp [List.getD_eq_getElem?_getD, this]
          refine ⟨⟨fun v hv => ?_, fun v hv => ?_, hcm.tx⟩, (by first | exact nf0 | exact nf1 | exact nf16)⟩
          · have hv : v ∈ vs := hv
            rw [hvs] at hv
            rcases mem_vars_set hv with h1 | rfl
            · exact h.lock v h1
            · exact .inr rfl
          · have hv : v ∈ vs := hv
            rw [hvs] at hv
            show v.ver ≤ E.clock
            rcases mem_vars_set hv with h1 | rfl
            · exact h.ver v h1
            · exact h.ver (E.vars.getD n.toNat default) hm
        · have hv0 := alone_valid h.lock h.ver hst x.reads hT.reads
          rw [if_neg (by rw [hv0]; decide)]
          split
          · exact ⟨alone_none h _ h.lock h.ver _, (by first | exact nf0 | exact nf1 | exact nf16)⟩
          · refine ⟨⟨h.lock, fun v hv => ?_, fun z hz => ?_⟩, (by first | exact nf0 | exact nf1 | exact nf16)⟩
            · have := h.ver v hv
              show v.ver ≤ E.clock + 1
              omega
            · have hz : (E.txs.set 0 (some { x.commit with pointed := true, stamp := E.clock + 1, left := keysUpto x.base E.vars.length }))[0]? = some (some z) := hz
              rw [List.getElem?_set_self (lt_of_get hg2)] at hz
              cases hz
              exact ⟨fun _ => ⟨rfl, Int.le_refl _⟩, fun q => by cases q⟩

theorem alone_shut {E : EP} (h : AloneI E) (t : Int) (j : Bool) : AloneI (shutF E t j).2 ∧ (t = 0 → noFail (shutF E t j).1) := by
  unfold shutF
  split
  · rename_i x hx
    split
    · exact ⟨h, fun _ => (by first | exact nf0 | exact nf1 | exact nf16)⟩
    · refine ⟨?_, fun _ => (by first | exact nf0 | exact nf1 | exact nf16)⟩
      cases j
      · exact alone_put h (popn_get hx).1 rfl (fun q => q) rfl rfl
      · exact alone_put h (popn_get hx).1 rfl (fun q => q) rfl rfl
  · exact ⟨h, fun _ => (by first | exact nf0 | exact nf1 | exact nf16)⟩

theorem alone_does {E : EP} (h : AloneI E) {b : Nat} (hF : FineP b E) (d : Dd) (hd : ¬ (d.kind = 3 ∧ d.t ≠ 0)) : AloneI (doesF E d).2 ∧ (d.t = 0 → noFail (doesF E d).1.2) := by
  unfold doesF
  split
  · unfold beginF
    split
    · refine ⟨alone_same h rfl rfl fun z hz => ?_, fun _ => (by first | exact nf0 | exact nf1 | exact nf16)⟩
      have hz : (E.txs.set d.t.toNat (some ⟨E.clock, 0, [], [fun _ => none], false, false, []⟩))[0]? = some (some z) := hz
      by_cases e : d.t.toNat = 0
      · rw [e, List.getElem?_set] at hz
        simp only [if_true] at hz
        split at hz
        · cases hz
          exact ⟨fun q => (by cases q), fun _ => rfl⟩
        · cases hz
      · rw [List.getElem?_set_ne e] at hz
        exact h.tx z hz
    · exact ⟨h, fun _ => (by first | exact nf0 | exact nf1 | exact nf16)⟩
  · split
    · unfold readF
      split
      · exact ⟨h, fun _ => (by first | exact nf0 | exact nf1 | exact nf16)⟩
      · rename_i x hx
        have ho := popn_get hx
        have hg := pof_get ho.1
        split
        · rename_i hn
          have hin := pis_get hn
          split
          · exact ⟨h, fun _ => (by first | exact nf0 | exact nf1 | exact nf16)⟩
          · have hm : E.vars.getD d.n.toNat default ∈ E.vars := by
              have : d.n.toNat < E.vars.length := by omega
              simp [List.getD_eq_getElem?_getD, this]
            have hlook : d.t = 0 → lookF d.t x.start (E.vars.getD d.n.toNat default) = 0 := by
              intro e
              rw [e] at hg ⊢
              have hX := h.tx x hg.2
              cases hp : x.pointed with
              | true => have := (hX.pt hp).1; rw [ho.2] at this; cases this
              | false => exact alone_look (h.lock _ hm) (h.ver _ hm) (hX.st hp)
            split
            · rename_i c
              exact ⟨h, fun e => absurd (hlook e) c⟩
            · refine ⟨?_, fun _ => (by first | exact nf0 | exact nf1 | exact nf16)⟩
              show AloneI (if d.n ∈ x.reads then E else E.put d.t { x with reads := x.reads ++ [d.n] })
              split
              · exact h
              · exact alone_put h ho.1 rfl (fun q => q) rfl rfl
        · exact ⟨h, fun _ => (by first | exact nf0 | exact nf1 | exact nf16)⟩
    · split
      · unfold writeF
        split
        · rename_i x hx
          split
          · exact ⟨alone_put h (popn_get hx).1 rfl (fun q => q) rfl rfl, fun _ => (by first | exact nf0 | exact nf1 | exact nf16)⟩
          · exact ⟨h, fun _ => (by first | exact nf0 | exact nf1 | exact nf16)⟩
        · exact ⟨h, fun _ => (by first | exact nf0 | exact nf1 | exact nf16)⟩
      · split
        · rename_i k3
          have e : d.t = 0 := by
            cases Classical.em (d.t = 0) with
            | inl e => exact e
            | inr e => exact absurd ⟨k3, e⟩ hd
          rw [e]
          exact ⟨(alone_step h hF).1, fun _ => (alone_step h hF).2⟩
        · split
          · unfold partF
            split
            · rename_i x hx
              exact ⟨alone_put h (popn_get hx).1 rfl (fun q => q) rfl rfl, fun _ => (by first | exact nf0 | exact nf1 | exact nf16)⟩
            · exact ⟨h, fun _ => (by first | exact nf0 | exact nf1 | exact nf16)⟩
          · split
            · exact alone_shut h d.t true
            · split
              · exact alone_shut h d.t false
              · split
                · unfold abortF
                  split
                  · split
                    · exact ⟨h, fun _ => (by first | exact nf0 | exact nf1 | exact nf16)⟩
                    · refine ⟨alone_none h _ (fun v hv => ?_) (fun v hv => ?_) _, fun _ => (by first | exact nf0 | exact nf1 | exact nf16)⟩ <;> obtain ⟨w, hw, rfl⟩ := List.mem_map.1 hv <;> unfold unlock <;> split
                      · exact .inl rfl
                      · exact h.lock w hw
                      · exact h.ver w hw
                      · exact h.ver w hw
                  · exact ⟨h, fun _ => (by first | exact nf0 | exact nf1 | exact nf16)⟩
                · split
                  · unfold makeF
                    split
                    · refine ⟨⟨fun v hv => ?_, fun v hv => ?_, h.tx⟩, fun _ => (by first | exact nf0 | exact nf1 | exact nf16)⟩ <;> rcases List.mem_append.1 hv with h1 | h1
                      · exact h.lock v h1
                      · simp only [List.mem_singleton] at h1; subst h1; exact .inl rfl
                      · exact h.ver v h1
                      · simp only [List.mem_singleton] at h1; subst h1; exact hF.clk.1
                    · exact ⟨h, fun _ => (by first | exact nf0 | exact nf1 | exact nf16)⟩
                  · split
                    · refine ⟨h, fun e => ?_⟩
                      show noFail (validF E d.t)
                      unfold validF
                      split
                      · rename_i x hx
                        have ho := popn_get hx
                        have hg := pof_get ho.1
                        rw [e] at hg ⊢
                        have hX := h.tx x hg.2
                        cases hp : x.pointed with
                        | true => have := (hX.pt hp).1; rw [ho.2] at this; cases this
                        | false => rw [alone_valid h.lock h.ver (hX.st hp) x.reads (hF.tx _ x hg.2).reads]; exact (by first | exact nf0 | exact nf1 | exact nf16)
                      · exact (by first | exact nf0 | exact nf1 | exact nf16)
                    · exact ⟨h, fun _ => (by first | exact nf0 | exact nf1 | exact nf16)⟩

end Go.Proofs
set_option linter.unusedSimpArgs false
set_option linter.unusedVariables false
namespace Go.Proofs
open Go Go.AL

structure SerX (clock : Int) (b : Nat) (x : TP) : Prop where
  pt : x.pointed = true → x.commits = true ∧ x.stamp ≤ clock
  one : x.commits = true → x.maps.length ≤ 1
  keys : ∃ L : List Int, L.length ≤ b ∧ ∀ m ∈ x.maps, ∀ k, (m k).isSome = true → k ∈ L
  left : x.pointed = true → x.left.length ≤ b

/-- Whose a lock is. -/
def Held (txs : List (Option TP)) (n : Nat) (lock : Int) : Prop :=
  lock = -1 ∨ ∃ (t : Nat) (x : TP), t < 8 ∧ txs[t]? = some (some x) ∧ lock = (t : Int) ∧ x.commits = true ∧ (x.pointed = true → (n : Int) ∈ x.left) ∧ (x.pointed = false → (x.base n).isSome = true)

structure SerI (b : Nat) (E : EP) : Prop where
  lock : ∀ (n : Nat) (v : TV), E.vars[n]? = some v → Held E.txs n v.lock
  ver : ∀ v ∈ E.vars, v.ver ≤ E.clock
  tx : ∀ (t : Nat) (x : TP), E.txs[t]? = some (some x) → SerX E.clock b x

theorem SerX.mono {c c' : Int} {b b' : Nat} {x : TP} (h : SerX c b x) (hc : c ≤ c') (hb : b ≤ b') : SerX c' b' x :=
  ⟨fun p => ⟨(h.pt p).1, Int.le_trans (h.pt p).2 hc⟩, h.one, by obtain ⟨L, h1, h2⟩ := h.keys; exact ⟨L, by omega, h2⟩, fun p => Nat.le_trans (h.left p) hb⟩

theorem SerI.mono {b b' : Nat} {E : EP} (h : SerI b E) (hb : b ≤ b') : SerI b' E := ⟨h.lock, h.ver, fun t x hx => (h.tx t x hx).mono (Int.le_refl _) hb⟩

theorem tx_set_ne {txs : List (Option TP)} {t u : Nat} {o : Option TP} {x : TP} (h : txs[u]? = some (some x)) (hne : u ≠ t) : (txs.set t o)[u]? = some (some x) := by
  rw [List.getElem?_set_ne (Ne.symm hne)]; exact h
theorem tx_set_get {txs : List (Option TP)} {t u : Nat} {o : Option TP} {x : TP} (h : (txs.set t o)[u]? = some (some x)) : (u = t ∧ o = some x) ∨ (u ≠ t ∧ txs[u]? = some (some x)) := by
  by_cases e : u = t
  · subst e
    rw [List.getElem?_set] at h
    simp only [if_true] at h
    split at h
    · exact .inl ⟨rfl, by simpa using h⟩
    · cases h
  · rw [List.getElem?_set_ne (Ne.symm e)] at h
    exact .inr ⟨e, h⟩

/-- A thread that commits nothing gets another transaction, that commits nothing: the locks are as they were. -/
theorem held_open {txs : List (Option TP)} {t : Nat} {o : Option TP} (ho : ∀ x, txs[t]? = some (some x) → x.commits = false) {n : Nat} {l : Int} (h : Held txs n l) : Held (txs.set t o) n l := by
  rcases h with h | ⟨u, x, h1, h2, h3, h4, h5⟩
  · exact .inl h
  · refine .inr ⟨u, x, h1, tx_set_ne h2 ?_, h3, h4, h5⟩
    rintro rfl
    rw [ho x h2] at h4; cases h4

theorem ser_put {b b' : Nat} {E : EP} (h : SerI b E) (hb : b ≤ b') {t : Int} {x y : TP} (ho : E.opn t = some x) (hy : SerX E.clock b' y) : SerI b' (E.put t y) := by
  have h1 := popn_get ho
  have hg := pof_get h1.1
  refine ⟨fun n v hv => held_open (fun z hz => ?_) (h.lock n v hv), h.ver, fun u z hz => ?_⟩
  · rw [hg.2] at hz; cases hz; exact h1.2
  · rcases tx_set_get hz with ⟨_, e⟩ | ⟨_, e⟩
    · cases e; exact hy
    · exact (h.tx u z e).mono (Int.le_refl _) hb

theorem ser_begin {b : Nat} {E : EP} (h : SerI b E) (t : Int) : SerI b (beginF E t).2 := by
  unfold beginF
  split
  · rename_i c
    refine ⟨fun n v hv => held_open (fun z hz => ?_) (h.lock n v hv), h.ver, fun u z hz => ?_⟩
    · have := c.2.2
      rw [hz] at this; cases this
    · rcases tx_set_get hz with ⟨_, e⟩ | ⟨_, e⟩
      · cases e
        exact ⟨fun p => (by cases p), fun p => (by cases p), ⟨[], Nat.zero_le _, fun m hm k hk => (by simp only [List.mem_singleton] at hm; subst hm; cases hk)⟩, fun p => (by cases p)⟩
      · exact h.tx u z e
  · exact h

theorem ser_read {b : Nat} {E : EP} (h : SerI b E) (t n : Int) : SerI b (readF E t n).2 := by
  unfold readF
  split
  · exact h
  · rename_i x hx
    have hX := h.tx _ x (pof_get (popn_get hx).1).2
    split
    · split
      · exact h
      · split
        · exact h
        · show SerI b (if n ∈ x.reads then E else E.put t { x with reads := x.reads ++ [n] })
          split
          · exact h
          · exact ser_put h (Nat.le_refl _) hx ⟨hX.pt, hX.one, hX.keys, hX.left⟩
    · exact h

theorem ser_write {b : Nat} {E : EP} (h : SerI b E) {b0 : Nat} (hF : FineP b0 E) (t n v : Int) : SerI (b + 1) (writeF E t n v).2 := by
  unfold writeF
  split
  · rename_i x hx
    have hg := (pof_get (popn_get hx).1).2
    have hX := h.tx _ x hg
    have hT := hF.tx _ x hg
    split
    · refine ser_put (b' := b + 1) h (by omega) hx ⟨hX.pt, fun p => by have := hX.one p; simpa [TP.setTop] using this, ?_, fun p => by have := hX.left p; show x.left.length ≤ _; omega⟩
      obtain ⟨L, h1, h2⟩ := hX.keys
      refine ⟨n :: L, by simpa using h1, fun m hm k hk => ?_⟩
      rcases mem_setTop hm with h3 | rfl
      · exact List.mem_cons_of_mem _ (h2 m h3 k hk)
      · unfold fmPut at hk
        split at hk
        · rename_i e; rw [e]; simp
        · exact List.mem_cons_of_mem _ (h2 x.top (top_in hT.one) k hk)
    · exact h.mono (by omega)
  · exact h.mono (by omega)

theorem ser_part {b : Nat} {E : EP} (h : SerI b E) (t : Int) : SerI b (partF E t).2 := by
  unfold partF
  split
  · rename_i x hx
    have ho := popn_get hx
    have hX := h.tx _ x (pof_get ho.1).2
    refine ser_put h (Nat.le_refl _) hx ⟨hX.pt, fun p => (by rw [ho.2] at p; cases p), ?_, hX.left⟩
    obtain ⟨L, h1, h2⟩ := hX.keys
    refine ⟨L, h1, fun m hm k hk => ?_⟩
    rcases List.mem_append.1 hm with h3 | h3
    · exact h2 m h3 k hk
    · simp only [List.mem_singleton] at h3; subst h3; cases hk
  · exact h

theorem ser_shut {b : Nat} {E : EP} (h : SerI b E) (t : Int) (j : Bool) : SerI b (shutF E t j).2 := by
  unfold shutF
  split
  · rename_i x hx
    have ho := popn_get hx
    have hX := h.tx _ x (pof_get ho.1).2
    split
    · exact h
    · rename_i c
      obtain ⟨L, h1, h2⟩ := hX.keys
      have hd : ∀ m ∈ x.drop.maps, ∀ k, (m k).isSome = true → k ∈ L := fun m hm k hk => h2 m ((List.dropLast_sublist _).subset hm) k hk
      cases j with
      | false => exact ser_put h (Nat.le_refl _) hx ⟨hX.pt, fun p => (by have p : x.commits = true := p; rw [ho.2] at p; cases p), ⟨L, h1, hd⟩, hX.left⟩
      | true =>
        refine ser_put h (Nat.le_refl _) hx ⟨hX.pt, fun p => (by have p : x.commits = true := p; rw [ho.2] at p; cases p), ⟨L, h1, fun m hm k hk => ?_⟩, hX.left⟩
        rcases mem_setTop hm with h3 | rfl
        · exact hd m h3 k hk
        · unfold fmOver at hk
          cases hf : x.top k with
          | some v => exact h2 _ (top_in (by omega)) k (by rw [hf]; rfl)
          | none =>
            rw [hf] at hk
            exact hd _ (top_in (by simp [TP.drop]; omega)) k (by simpa using hk)
  · exact h

theorem ser_abort {b : Nat} {E : EP} (h : SerI b E) (t : Int) : SerI b (abortF E t).2 := by
  unfold abortF
  split
  · rename_i x hx
    have hg := pof_get hx
    split
    · exact h
    · refine ⟨fun n v hv => ?_, fun v hv => ?_, fun u z hz => ?_⟩
      · have hv : (E.vars.map (unlock t))[n]? = some v := hv
        rw [List.getElem?_map] at hv
        cases hw : E.vars[n]? with
        | none => rw [hw] at hv; cases hv
        | some w =>
          rw [hw] at hv
          simp only [Option.map_some, Option.some.injEq] at hv
          subst hv
          unfold unlock
          split
          · exact .inl rfl
          · rename_i hne
            rcases h.lock n w hw with h1 | ⟨u, y, h1, h2, h3, h4, h5⟩
            · exact .inl h1
            · refine .inr ⟨u, y, h1, tx_set_ne h2 ?_, h3, h4, h5⟩
              intro e
              exact hne (by rw [h3]; omega)
      · obtain ⟨w, hw, rfl⟩ := List.mem_map.1 hv
        unfold unlock
        split
        · exact h.ver w hw
        · exact h.ver w hw
      · rcases tx_set_get hz with ⟨_, e⟩ | ⟨_, e⟩
        · cases e
        · exact h.tx u z e
  · exact h

theorem ser_make {b : Nat} {E : EP} (h : SerI b E) (hc : 0 ≤ E.clock) (v : Int) : SerI b (makeF E v).2 := by
  unfold makeF
  split
  · refine ⟨fun n w hw => ?_, fun w hw => ?_, h.tx⟩
    · have hw : (E.vars ++ [(⟨v, 0, -1⟩ : TV)])[n]? = some w := hw
      by_cases e : n < E.vars.length
      · rw [List.getElem?_append_left e] at hw; exact h.lock n w hw
      · rw [List.getElem?_append_right (by omega)] at hw
        have : n - E.vars.length = 0 := by
          have := (List.getElem?_eq_some_iff.1 hw).1
          simp at this; omega
        rw [this] at hw
        cases hw
        exact .inl rfl
    · rcases List.mem_append.1 hw with h1 | h1
      · exact h.ver w h1
      · simp only [List.mem_singleton] at h1; subst h1; exact hc
  · exact h

theorem keysUpto_nodup (f : FM) (n : Nat) : (keysUpto f n).Nodup := (keysUpto_sorted f n).imp fun h => by omega

theorem nodup_sub {l L : List Int} (h : l.Nodup) (hs : ∀ k ∈ l, k ∈ L) : l.length ≤ L.length := by
  induction l generalizing L with
  | nil => simp
  | cons a r ih =>
    simp only [List.nodup_cons] at h
    have ha := hs a (by simp)
    have := ih (L := L.erase a) h.2 fun k hk => by
      have hne : k ≠ a := fun e => h.1 (e ▸ hk)
      exact (List.mem_erase_of_ne hne).2 (hs k (by simp [hk]))
    rw [List.length_erase_of_mem ha] at this
    have := List.length_pos_of_mem ha
    simp only [List.length_cons]; omega

/-- The first var that is not one's own is another's, or is locked. -/
theorem lock_cases {t : Int} {vars : List TV} {l : List Int} {a : Int × Int} {vs : List TV} (h : lockF t vars l = some (a, vs)) :
    vs = vars ∨ ∃ n ∈ l, vs = vars.set n.toNat { vars.getD n.toNat default with lock := t } := by
  induction l with
  | nil => cases h
  | cons n r ih =>
    unfold lockF at h
    split at h
    · rcases ih h with e | ⟨k, hk, e⟩
      · exact .inl e
      · exact .inr ⟨k, by simp [hk], e⟩
    · split at h
      · cases h; exact .inr ⟨n, by simp, rfl⟩
      · cases h; exact .inl rfl

theorem keys_len_le {b : Nat} {x : TP} (hk : ∃ L : List Int, L.length ≤ b ∧ ∀ m ∈ x.maps, ∀ k, (m k).isSome = true → k ∈ L) (h1 : 1 ≤ x.maps.length) (n : Nat) : (keysUpto x.base n).length ≤ b := by
  obtain ⟨L, hl, hL⟩ := hk
  refine Nat.le_trans (nodup_sub (keysUpto_nodup _ _) fun k hk => hL x.base ?_ k (mem_keysUpto.1 hk).2) hl
  unfold TP.base
  simp [List.getD_eq_getElem?_getD, show 0 < x.maps.length by omega]

theorem held_commit {txs : List (Option TP)} {t : Nat} {x y : TP} (hx : txs[t]? = some (some x)) (h1 : y.commits = true) (h2 : y.pointed = x.pointed) (h3 : y.left = x.left) (h4 : y.base = x.base) {n : Nat} {l : Int} (h : Held txs n l) : Held (txs.set t (some y)) n l := by
  rcases h with h | ⟨u, z, k1, k2, k3, k4, k5, k6⟩
  · exact .inl h
  · by_cases e : u = t
    · subst e
      rw [hx] at k2; cases k2
      exact .inr ⟨u, y, k1, List.getElem?_set_self (lt_of_get hx), k3, h1, by rw [h2, h3]; exact k5, by rw [h2, h4]; exact k6⟩
    · exact .inr ⟨u, z, k1, tx_set_ne k2 e, k3, k4, k5, k6⟩

theorem ser_step {b : Nat} {E : EP} (h : SerI b E) {b0 : Nat} (hF : FineP b0 E) (t : Int) : SerI b (stepF E t).2 := by
  unfold stepF
  split
  · exact h
  · rename_i x hx
    have hg := pof_get hx
    have hX := h.tx _ x hg.2
    have hT := hF.tx _ x hg.2
    split
    · exact h
    · rename_i hone
      have hcX : SerX E.clock b x.commit := ⟨fun p => ⟨rfl, (hX.pt p).2⟩, fun _ => by show x.maps.length ≤ 1; omega, hX.keys, hX.left⟩
      have hcm : SerI b (E.put t x.commit) := ⟨fun n v hv => held_commit (y := x.commit) hg.2 rfl rfl rfl rfl (h.lock n v hv), h.ver, fun u z hz => by
        rcases tx_set_get hz with ⟨_, e⟩ | ⟨_, e⟩
        · cases e; exact hcX
        · exact h.tx u z e⟩
      split
      · rename_i hp
        have hpt := hX.pt hp
        have hlf := hT.left hp
        unfold putF
        split
        · rename_i e; exact absurd e hlf.1
        · rename_i n r e
          have e' : x.left = n :: r := e
          have hn := hlf.2 n (by rw [e']; simp)
          have hver : ∀ v ∈ E.vars.set n.toNat ⟨(x.commit.base n).getD 0, x.commit.stamp, -1⟩, v.ver ≤ E.clock := by
            intro v hv
            rcases mem_vars_set hv with h1 | rfl
            · exact h.ver v h1
            · exact hpt.2
          -- whose the locks of the others are
          have hoth : ∀ (m : Nat) (v : TV) (o : Option TP), (∀ y, o = some y → y.commits = true ∧ y.pointed = true ∧ y.left = r) → (o = none → r = []) → (E.vars.set n.toNat ⟨(x.commit.base n).getD 0, x.commit.stamp, -1⟩)[m]? = some v → Held (E.txs.set t.toNat o) m v.lock := by
            intro m v o ho hno hv
            by_cases em : m = n.toNat
            · subst em
              rw [List.getElem?_set] at hv
              simp only [if_true] at hv
              split at hv
              · cases hv; exact .inl rfl
              · cases hv
            · rw [List.getElem?_set_ne (Ne.symm em)] at hv
              rcases h.lock m v hv with k | ⟨u, z, k1, k2, k3, k4, k5, k6⟩
              · exact .inl k
              · by_cases eu : u = t.toNat
                · subst eu
                  rw [hg.2] at k2; cases k2
                  have hm := k5 hp
                  rw [e'] at hm
                  have hmr : (m : Int) ∈ r := by
                    rcases List.mem_cons.1 hm with q | q
                    · exact absurd (by omega) em
                    · exact q
                  cases o with
                  | none => rw [hno rfl] at hmr; cases hmr
                  | some y =>
                    obtain ⟨y1, y2, y3⟩ := ho y rfl
                    exact .inr ⟨t.toNat, y, k1, List.getElem?_set_self (lt_of_get hg.2), k3, y1, fun _ => by rw [y3]; exact hmr, fun q => by rw [y2] at q; cases q⟩
                · exact .inr ⟨u, z, k1, tx_set_ne k2 eu, k3, k4, k5, k6⟩
          split
          · rename_i hr
            refine ⟨fun m v hv => ?_, hver, fun u z hz => ?_⟩
            · have := hoth m v none (fun y q => by cases q) (fun _ => hr) hv
              simpa [EP.put, List.set_set] using this
            · simp only [EP.put, List.set_set] at hz
              rcases tx_set_get hz with ⟨_, q⟩ | ⟨_, q⟩
              · cases q
              · exact h.tx u z q
          · refine ⟨fun m v hv => ?_, hver, fun u z hz => ?_⟩
            · have := hoth m v (some { x.commit with left := r }) (fun y q => by cases q; exact ⟨rfl, hp, rfl⟩) (fun q => by cases q) hv
              simpa [EP.put, List.set_set] using this
            · simp only [EP.put, List.set_set] at hz
              rcases tx_set_get hz with ⟨_, q⟩ | ⟨_, q⟩
              · cases q
                have hlb := hX.left hp
                rw [e'] at hlb
                exact ⟨fun p => ⟨rfl, hpt.2⟩, hcX.one, hX.keys, fun _ => by show r.length ≤ b; simp only [List.length_cons] at hlb; omega⟩
              · exact h.tx u z q
      · rename_i hp
        have hp : x.pointed = false := by simpa using hp
        split
        · rename_i a vs hlk
          rcases lock_cases hlk with e | ⟨n, hn, e⟩
          · subst e; exact ⟨hcm.lock, hcm.ver, hcm.tx⟩
          · subst e
            have hk := mem_keysUpto.1 hn
            have hm : E.vars.getD n.toNat default ∈ E.vars := by
              have : n.toNat < E.vars.length := by omega
              simp [List.getD_eq_getElem?_getD, this]
            refine ⟨fun m v hv => ?_, fun v hv => ?_, hcm.tx⟩
            · have hv : (E.vars.set n.toNat { E.vars.getD n.toNat default with lock := t })[m]? = some v := hv
              by_cases em : m = n.toNat
              · subst em
                rw [List.getElem?_set] at hv
                simp only [if_true] at hv
                split at hv
                · cases hv
                  refine .inr ⟨t.toNat, x.commit, by omega, List.getElem?_set_self (lt_of_get hg.2), by show t = _; omega, rfl, fun q => ?_, fun _ => ?_⟩
                  · rw [show x.commit.pointed = x.pointed from rfl, hp] at q; cases q
                  · have : ((n.toNat : Nat) : Int) = n := by omega
                    rw [this]; exact hk.2
                · cases hv
              · rw [List.getElem?_set_ne (Ne.symm em)] at hv
                exact hcm.lock m v hv
            · rcases mem_vars_set hv with h1 | rfl
              · exact h.ver v h1
              · exact h.ver (E.vars.getD n.toNat default) hm
        · split
          · exact hcm
          · split
            · rename_i hk0
              refine ⟨fun m v hv => ?_, h.ver, fun u z hz => ?_⟩
              · rcases h.lock m v hv with k | ⟨u, z, k1, k2, k3, k4, k5, k6⟩
                · exact .inl k
                · refine .inr ⟨u, z, k1, tx_set_ne k2 ?_, k3, k4, k5, k6⟩
                  rintro rfl
                  rw [hg.2] at k2; cases k2
                  have hml : m < E.vars.length := (List.getElem?_eq_some_iff.1 hv).1
                  have : (m : Int) ∈ keysUpto x.base E.vars.length := mem_keysUpto.2 ⟨⟨by omega, by omega⟩, k6 hp⟩
                  rw [hk0] at this; cases this
              · rcases tx_set_get hz with ⟨_, q⟩ | ⟨_, q⟩
                · cases q
                · exact h.tx u z q
            · refine ⟨fun m v hv => ?_, fun v hv => ?_, fun u z hz => ?_⟩
              · rcases h.lock m v hv with k | ⟨u, z, k1, k2, k3, k4, k5, k6⟩
                · exact .inl k
                · by_cases eu : u = t.toNat
                  · subst eu
                    rw [hg.2] at k2; cases k2
                    have hml : m < E.vars.length := (List.getElem?_eq_some_iff.1 hv).1
                    exact .inr ⟨t.toNat, _, k1, List.getElem?_set_self (lt_of_get hg.2), k3, rfl, fun _ => mem_keysUpto.2 ⟨⟨by omega, by omega⟩, k6 hp⟩, fun q => by cases q⟩
                  · exact .inr ⟨u, z, k1, tx_set_ne k2 eu, k3, k4, k5, k6⟩
              · have := h.ver v hv
                show v.ver ≤ E.clock + 1
                omega
              · rcases tx_set_get hz with ⟨_, q⟩ | ⟨_, q⟩
                · cases q
                  exact ⟨fun _ => ⟨rfl, Int.le_refl _⟩, hcX.one, hX.keys, fun _ => keys_len_le hX.keys hT.one _⟩
                · exact (h.tx u z q).mono (by show E.clock ≤ E.clock + 1; omega) (Nat.le_refl _)

theorem ser_does {b : Nat} {E : EP} (h : SerI b E) {b0 : Nat} (hF : FineP b0 E) (d : Dd) : SerI (b + 1) (doesF E d).2 := by
  unfold doesF
  repeat' split
  · exact (ser_begin h _).mono (by omega)
  · exact (ser_read h _ _).mono (by omega)
  · exact ser_write h hF _ _ _
  · exact (ser_step h hF _).mono (by omega)
  · exact (ser_part h _).mono (by omega)
  · exact (ser_shut h _ _).mono (by omega)
  · exact (ser_shut h _ _).mono (by omega)
  · exact (ser_abort h _).mono (by omega)
  · exact (ser_make h hF.clk.1 _).mono (by omega)
  · exact h.mono (by omega)
  · exact h.mono (by omega)

theorem ser_new : SerI 0 EP.new := ⟨fun n v hv => (by cases hv), fun v hv => (by cases hv), fun t x hx => by
  simp only [EP.new, List.getElem?_replicate] at hx
  split at hx <;> cases hx⟩

end Go.Proofs
set_option linter.unusedSimpArgs false
set_option linter.unusedVariables false
namespace Go.Proofs
open Go Go.AL

/-- What a list says that a part has for a var. -/
def getW (l : List PW) (part : Int) : FM := fun k => (l.find? fun p => decide (p.n = k) && decide (p.part = part)).map (·.v)

theorem scan_min {part last : Int} : ∀ (l : List PW) (b : Option PW) {p : PW}, scanR part last l b = some p → (∀ q, b = some q → p.n ≤ q.n) ∧ ∀ q ∈ l, q.part = part → last < q.n → p.n ≤ q.n := by
  intro l
  induction l with
  | nil => intro b p h; exact ⟨fun q hq => by have h : b = some p := h; rw [h] at hq; cases hq; exact Int.le_refl _, fun q hq => by cases hq⟩
  | cons a r ih =>
    intro b p h
    obtain ⟨h1, h2⟩ := ih _ h
    by_cases c : a.part = part ∧ last < a.n ∧ (∀ q, b = some q → a.n < q.n)
    · rw [if_pos c] at h1
      have ha := h1 a rfl
      refine ⟨fun q hq => by have := c.2.2 q hq; omega, fun q hq k1 k2 => ?_⟩
      rcases List.mem_cons.1 hq with rfl | hq
      · exact ha
      · exact h2 q hq k1 k2
    · rw [if_neg c] at h1
      refine ⟨h1, fun q hq k1 k2 => ?_⟩
      rcases List.mem_cons.1 hq with rfl | hq
      · cases b with
        | none => exact absurd ⟨k1, k2, fun q hq => by cases hq⟩ c
        | some z =>
          have := h1 z rfl
          have : ¬ q.n < z.n := fun e => c ⟨k1, k2, fun q' hq' => by cases hq'; exact e⟩
          omega
      · exact h2 q hq k1 k2

theorem scan_none {part last : Int} : ∀ (l : List PW) (b : Option PW), scanR part last l b = none → b = none ∧ ∀ q ∈ l, ¬ (q.part = part ∧ last < q.n) := by
  intro l
  induction l with
  | nil => intro b h; exact ⟨h, fun q hq => by cases hq⟩
  | cons a r ih =>
    intro b h
    obtain ⟨h1, h2⟩ := ih _ h
    by_cases c : a.part = part ∧ last < a.n ∧ (∀ q, b = some q → a.n < q.n)
    · rw [if_pos c] at h1; cases h1
    · rw [if_neg c] at h1
      subst h1
      refine ⟨rfl, fun q hq k => ?_⟩
      rcases List.mem_cons.1 hq with rfl | hq
      · exact c ⟨k.1, k.2, fun q hq => by cases hq⟩
      · exact h2 q hq k

theorem sortG_sorted {part : Int} {l : List PW} : ∀ (f : Nat) (last : Int), (∀ p ∈ sortG part l f last, last < p.n) ∧ ((sortG part l f last).map (·.n)).Pairwise (· < ·) := by
  intro f
  induction f with
  | zero => intro last; simp [sortG]
  | succ f ih =>
    intro last
    unfold sortG
    split
    · simp
    · rename_i p hp
      have hs := (scan_some hp).resolve_left (by intro e; cases e)
      obtain ⟨h1, h2⟩ := ih p.n
      refine ⟨fun q hq => ?_, ?_⟩
      · rcases List.mem_cons.1 hq with rfl | hq
        · exact hs.2.2
        · have := h1 q hq; have := hs.2.2; omega
      · rw [List.map_cons, List.pairwise_cons]
        refine ⟨fun k hk => ?_, h2⟩
        obtain ⟨q, hq, rfl⟩ := List.mem_map.1 hk
        exact h1 q hq

theorem sortG_all {part : Int} {l : List PW} : ∀ (f : Nat) (last : Int), left part last l < f → ∀ q ∈ l, q.part = part → last < q.n → ∃ p ∈ sortG part l f last, p.n = q.n := by
  intro f
  induction f with
  | zero => intro last h; omega
  | succ f ih =>
    intro last h q hq k1 k2
    unfold sortG
    split
    · rename_i hn
      exact absurd ⟨k1, k2⟩ ((scan_none l none hn).2 q hq)
    · rename_i p hp
      have hs := (scan_some hp).resolve_left (by intro e; cases e)
      have hm := (scan_min l none hp).2 q hq k1 k2
      have hl := left_lt hs.1 hs.2.1 hs.2.2
      by_cases e : p.n = q.n
      · exact ⟨p, by simp, e⟩
      · obtain ⟨z, h1, h2⟩ := ih p.n (by omega) q hq k1 (by omega)
        exact ⟨z, by simp [h1], h2⟩

theorem sorted_ext : ∀ {a b : List Int}, a.Pairwise (· < ·) → b.Pairwise (· < ·) → (∀ k, k ∈ a ↔ k ∈ b) → a = b
  | [], [], _, _, _ => rfl
  | [], y :: s, _, _, h => absurd ((h y).2 (by simp)) (by simp)
  | x :: r, [], _, _, h => absurd ((h x).1 (by simp)) (by simp)
  | x :: r, y :: s, ha, hb, h => by
    rw [List.pairwise_cons] at ha hb
    have hxy : x = y := by
      rcases List.mem_cons.1 ((h x).1 (by simp)) with e | e
      · exact e
      · rcases List.mem_cons.1 ((h y).2 (by simp)) with e2 | e2
        · exact e2.symm
        · have := hb.1 x e; have := ha.1 y e2; omega
    subst hxy
    congr 1
    refine sorted_ext ha.2 hb.2 fun k => ⟨fun hk => ?_, fun hk => ?_⟩
    · rcases List.mem_cons.1 ((h k).1 (by simp [hk])) with e | e
      · subst e; have := ha.1 k hk; omega
      · exact e
    · rcases List.mem_cons.1 ((h k).2 (by simp [hk])) with e | e
      · subst e; have := hb.1 k hk; omega
      · exact e

theorem getW_some {l : List PW} {part k : Int} : (getW l part k).isSome = true ↔ ∃ p ∈ l, p.n = k ∧ p.part = part := by
  unfold getW
  rw [Option.isSome_map, List.find?_isSome]
  constructor
  · rintro ⟨p, h1, h2⟩
    simp only [Bool.and_eq_true, decide_eq_true_eq] at h2
    exact ⟨p, h1, h2⟩
  · rintro ⟨p, h1, h2⟩
    exact ⟨p, h1, by simp [h2.1, h2.2]⟩

/-- Of one part and var one write. -/
def Uniq (l : List PW) : Prop := l.Pairwise fun p q => ¬ (p.n = q.n ∧ p.part = q.part)

theorem getW_mem {l : List PW} (hu : Uniq l) {p : PW} (h : p ∈ l) : getW l p.part p.n = some p.v := by
  unfold getW
  induction l with
  | nil => cases h
  | cons a r ih =>
    unfold Uniq at hu
    rw [List.pairwise_cons] at hu
    rcases List.mem_cons.1 h with rfl | h
    · simp
    · have hne := hu.1 p h
      have : (decide (a.n = p.n) && decide (a.part = p.part)) = false := by
        rw [Bool.eq_false_iff]; simp only [ne_eq, Bool.and_eq_true, decide_eq_true_eq]; exact hne
      rw [List.find?_cons, this]
      exact ih hu.2 h

/-- The writes of a part, by the vars: names and values. -/
theorem sort_names {l : List PW} {n : Nat} (hr : ∀ p ∈ l, 0 ≤ p.n ∧ p.n < (n : Int)) (part : Int) : (sortR part l).map (·.n) = keysUpto (getW l part) n := by
  refine sorted_ext (sortG_sorted _ _).2 (keysUpto_sorted _ _) fun k => ?_
  rw [mem_keysUpto, getW_some]
  constructor
  · intro h
    obtain ⟨p, h1, rfl⟩ := List.mem_map.1 h
    have := sortG_mem h1
    exact ⟨hr p this.1, p, this.1, rfl, this.2⟩
  · rintro ⟨_, p, h1, rfl, h3⟩
    obtain ⟨q, q1, q2⟩ := sortG_all (l.length + 1) (-1) (by have := left_le part (-1) l; omega) p h1 h3 (by have := hr p h1; omega)
    exact List.mem_map.2 ⟨q, q1, q2⟩

theorem sort_vals {l : List PW} (hu : Uniq l) (part : Int) : (sortR part l).map (·.v) = ((sortR part l).map (·.n)).map fun k => (getW l part k).getD 0 := by
  rw [List.map_map]
  refine List.map_congr_left fun p hp => ?_
  have := sortG_mem hp
  show p.v = (getW l part p.n).getD 0
  rw [← this.2, getW_mem hu this.1]; rfl

end Go.Proofs
set_option linter.unusedSimpArgs false
set_option linter.unusedVariables false
namespace Go.Proofs
open Go Go.AL

theorem getW_cons (q : PW) (r : List PW) (part k : Int) : getW (q :: r) part k = if q.n = k ∧ q.part = part then some q.v else getW r part k := by
  unfold getW
  by_cases c : q.n = k ∧ q.part = part
  · rw [if_pos c, List.find?_cons]; simp [c.1, c.2]
  · rw [if_neg c, List.find?_cons]
    have : (decide (q.n = k) && decide (q.part = part)) = false := by
      rw [Bool.eq_false_iff]; simp only [ne_eq, Bool.and_eq_true, decide_eq_true_eq]; exact c
    rw [this]

theorem getW_put (l : List PW) (n v p part k : Int) : getW (putR l n v p) part k = if k = n ∧ part = p then some v else getW l part k := by
  induction l with
  | nil =>
    rw [show putR [] n v p = [⟨n, v, p⟩] from rfl, getW_cons]
    by_cases c : k = n ∧ part = p
    · rw [if_pos c, if_pos ⟨c.1.symm, c.2.symm⟩]
    · rw [if_neg c, if_neg (fun h => c ⟨h.1.symm, h.2.symm⟩)]
  | cons q r ih =>
    unfold putR
    by_cases c : q.n = n ∧ q.part = p
    · rw [if_pos c, getW_cons, getW_cons]
      by_cases e : k = n ∧ part = p
      · rw [if_pos e, if_pos ⟨c.1.trans e.1.symm, c.2.trans e.2.symm⟩]
      · rw [if_neg e]
        have : ¬ (q.n = k ∧ q.part = part) := fun h => e ⟨h.1.symm.trans c.1, h.2.symm.trans c.2⟩
        rw [if_neg this, if_neg this]
    · rw [if_neg c, getW_cons, getW_cons, ih]
      by_cases e : k = n ∧ part = p
      · simp only [if_pos e]
        rw [if_neg (fun h => c ⟨h.1.trans e.1, h.2.trans e.2⟩)]
      · simp only [if_neg e]

theorem mem_put_pair {l : List PW} {n v p : Int} {q : PW} (h : q ∈ putR l n v p) : (∃ z ∈ l, z.n = q.n ∧ z.part = q.part) ∨ (q.n = n ∧ q.part = p) := by
  induction l with
  | nil => simp [putR] at h; subst h; exact .inr ⟨rfl, rfl⟩
  | cons a r ih =>
    unfold putR at h
    split at h
    · rcases List.mem_cons.1 h with rfl | h
      · exact .inl ⟨a, by simp, rfl, rfl⟩
      · exact .inl ⟨q, by simp [h], rfl, rfl⟩
    · rcases List.mem_cons.1 h with rfl | h
      · exact .inl ⟨q, by simp, rfl, rfl⟩
      · rcases ih h with ⟨z, h1, h2⟩ | h1
        · exact .inl ⟨z, by simp [h1], h2⟩
        · exact .inr h1

theorem uniq_put {l : List PW} (h : Uniq l) (n v p : Int) : Uniq (putR l n v p) := by
  induction l with
  | nil => unfold Uniq; simp [putR]
  | cons a r ih =>
    unfold Uniq at h
    rw [List.pairwise_cons] at h
    unfold putR
    split
    · unfold Uniq; rw [List.pairwise_cons]; exact ⟨h.1, h.2⟩
    · rename_i c
      unfold Uniq
      rw [List.pairwise_cons]
      refine ⟨fun q hq => ?_, ih h.2⟩
      rcases mem_put_pair hq with ⟨z, h1, h2, h3⟩ | ⟨h1, h2⟩
      · have := h.1 z h1
        rw [h2, h3] at this; exact this
      · rw [h1, h2]; exact c

theorem getW_filter (l : List PW) (f : PW → Bool) (part : Int) (b : Bool) (hf : ∀ p ∈ l, p.part = part → f p = b) (k : Int) : getW (l.filter f) part k = if b = true then getW l part k else none := by
  induction l with
  | nil => cases b <;> rfl
  | cons a r ih =>
    have ih := ih fun p hp => hf p (by simp [hp])
    rw [getW_cons]
    by_cases c : a.n = k ∧ a.part = part
    · have := hf a (by simp) c.2
      rw [if_pos c, List.filter_cons, this]
      cases b with
      | true => rw [if_pos rfl, if_pos rfl, getW_cons, if_pos c]
      | false => simp only [Bool.false_eq_true, if_false] at ih ⊢; exact ih
    · rw [if_neg c, List.filter_cons]
      split
      · rw [getW_cons, if_neg c, ih]
      · exact ih

theorem uniq_filter {l : List PW} (h : Uniq l) (f : PW → Bool) : Uniq (l.filter f) := List.Pairwise.filter f h

/-- The own writes over what is below. -/
theorem getW_join {kk : Int} : ∀ (own rest : List PW), (∀ p ∈ own, p.part = kk) → Uniq own → ∀ part k, getW (joinR kk own rest) part k = if part = kk - 1 then (getW own kk k).or (getW rest part k) else getW rest part k := by
  intro own
  induction own with
  | nil => intro rest _ _ part k; split <;> rfl
  | cons a r ih =>
    intro rest ho hu part k
    unfold Uniq at hu
    rw [List.pairwise_cons] at hu
    have hap := ho a (by simp)
    have h1 := ih (putR rest a.n a.v (kk - 1)) (fun p hp => ho p (by simp [hp])) hu.2 part k
    have h2 : joinR kk (a :: r) rest = joinR kk r (putR rest a.n a.v (kk - 1)) := rfl
    rw [h2, h1, getW_put, getW_cons]
    by_cases c : part = kk - 1
    · rw [if_pos c, if_pos c]
      by_cases e : a.n = k
      · have hn : getW r kk k = none := by
          cases hg : getW r kk k with
          | none => rfl
          | some v =>
            obtain ⟨p, p1, p2, p3⟩ := getW_some.1 (show (getW r kk k).isSome = true by rw [hg]; rfl)
            exact absurd ⟨e.trans p2.symm, hap.trans p3.symm⟩ (hu.1 p p1)
        rw [hn, if_pos ⟨e.symm, c⟩, if_pos ⟨e, hap⟩]; rfl
      · rw [if_neg (fun h => e h.1.symm), if_neg (fun h => e h.1)]
    · rw [if_neg c, if_neg c, if_neg (fun h => c h.2)]

theorem uniq_join {kk : Int} : ∀ (own rest : List PW), Uniq rest → Uniq (joinR kk own rest) := by
  intro own
  induction own with
  | nil => intro rest h; exact h
  | cons a r ih => intro rest h; exact ih _ (uniq_put h _ _ _)

theorem part_join {kk : Int} : ∀ (own rest : List PW) {p : PW}, p ∈ joinR kk own rest → (∃ q ∈ rest, q.part = p.part) ∨ p.part = kk - 1 := by
  intro own
  induction own with
  | nil => intro rest p h; exact .inl ⟨p, h, rfl⟩
  | cons a r ih =>
    intro rest p h
    rcases ih _ h with ⟨q, h1, h2⟩ | h1
    · rcases mem_put_pair h1 with ⟨z, h3, _, h5⟩ | ⟨_, h4⟩
      · exact .inl ⟨z, h3, h5.trans h2⟩
      · exact .inr (h2.symm.trans h4)
    · exact .inr h1

/-- The write of the youngest part: which it is. -/
theorem topR_spec {n : Int} : ∀ (l : List PW) (b : Option PW), (∀ q, b = some q → q.n = n) → match topR n l b with
    | some p => p.n = n ∧ (b = some p ∨ p ∈ l) ∧ (∀ q, b = some q → q.part ≤ p.part) ∧ ∀ q ∈ l, q.n = n → q.part ≤ p.part
    | none => b = none ∧ ∀ q ∈ l, q.n ≠ n := by
  intro l
  induction l with
  | nil =>
    intro b hb
    cases b with
    | none => exact ⟨rfl, fun q hq => by cases hq⟩
    | some p => exact ⟨hb p rfl, .inl rfl, fun q hq => (by cases hq; exact Int.le_refl _), fun q hq => by cases hq⟩
  | cons a r ih =>
    intro b hb
    show match topR n r (if a.n = n ∧ (∀ q, b = some q → q.part < a.part) then some a else b) with | some p => _ | none => _
    by_cases c : a.n = n ∧ (∀ q, b = some q → q.part < a.part)
    · rw [if_pos c]
      have := ih (some a) (fun q hq => by cases hq; exact c.1)
      split at this
      · rename_i p hp
        obtain ⟨h1, h2, h3, h4⟩ := this
        have ha := h3 a rfl
        refine ⟨h1, .inr ?_, fun q hq => by have := c.2 q hq; omega, fun q hq hn => ?_⟩
        · rcases h2 with e | e
          · cases e; simp
          · simp [e]
        · rcases List.mem_cons.1 hq with rfl | hq
          · exact ha
          · exact h4 q hq hn
      · exact absurd this.1 (by simp)
    · rw [if_neg c]
      have := ih b hb
      split at this
      · rename_i p hp
        obtain ⟨h1, h2, h3, h4⟩ := this
        refine ⟨h1, h2.imp id (fun e => by simp [e]), h3, fun q hq hn => ?_⟩
        rcases List.mem_cons.1 hq with rfl | hq
        · cases b with
          | none => exact absurd ⟨hn, fun q hq => by cases hq⟩ c
          | some z =>
            have hz := h3 z rfl
            have : ¬ z.part < q.part := fun e => c ⟨hn, fun q' hq' => by cases hq'; exact e⟩
            omega
        · exact h4 q hq hn
      · rename_i hp
        refine ⟨this.1, fun q hq => ?_⟩
        rcases List.mem_cons.1 hq with rfl | hq
        · intro hn
          exact c ⟨hn, fun q hq => by rw [this.1] at hq; cases hq⟩
        · exact this.2 q hq

end Go.Proofs
set_option linter.unusedSimpArgs false
set_option linter.unusedVariables false
namespace Go.Proofs
open Go Go.AL

structure SimX (x : TP) (y : RT) : Prop where
  is : y.is = true
  start : x.start = y.start
  reads : x.reads = y.reads
  commits : x.commits = y.commits
  parts : (x.maps.length : Int) = y.parts
  maps : ∀ d, d < x.maps.length → ∀ k, x.maps.getD d (fun _ => none) k = getW y.puts ((d : Int) + 1) k
  uniq : Uniq y.puts
  range : ∀ p ∈ y.puts, 1 ≤ p.part ∧ p.part ≤ y.parts
  pc : x.pointed = true → x.commits = true
  pt : x.pointed = decide (0 < y.stamp)
  st : x.pointed = true → x.stamp = y.stamp ∧ x.left = ((sortR 1 y.puts).map (·.n)).drop y.done.toNat

def SimT : Option TP → RT → Prop
  | none, y => y = .none
  | some x, y => SimX x y

structure Sim (E : EP) (R : RP) : Prop where
  clock : E.clock = R.clock
  vars : E.vars = R.vars
  lock : ∀ v ∈ E.vars, v.lock = -1 ∨ 0 ≤ v.lock
  elen : E.txs.length = 8
  rlen : R.txs.length = 8
  tx : ∀ (t : Nat) (o : Option TP) (y : RT), E.txs[t]? = some o → R.txs[t]? = some y → SimT o y

theorem sim_new : Sim EP.new RP.new := ⟨rfl, rfl, fun v hv => (by cases hv), rfl, rfl, fun t o y h1 h2 => by
  simp only [EP.new, RP.new, List.getElem?_replicate] at h1 h2
  split at h1
  · rename_i c; rw [if_pos c] at h2; cases h1; cases h2; rfl
  · cases h1⟩

theorem Sim.at {E : EP} {R : RP} (h : Sim E R) {t : Int} (ht : 0 ≤ t ∧ t < 8) : SimT (E.of t) (R.get t) := by
  have h1 : t.toNat < E.txs.length := by rw [h.elen]; omega
  have h2 : t.toNat < R.txs.length := by rw [h.rlen]; omega
  have := h.tx t.toNat _ _ (List.getElem?_eq_getElem h1) (List.getElem?_eq_getElem h2)
  unfold EP.of RP.get
  rw [if_pos ht, List.getElem?_eq_getElem h1, List.getD_eq_getElem?_getD, List.getElem?_eq_getElem h2]
  exact this

theorem sim_has {E : EP} {R : RP} (h : Sim E R) (t : Int) : R.has t = (E.of t).isSome := by
  unfold RP.has
  by_cases c : 0 ≤ t ∧ t < 8
  · have := h.at c
    simp only [c.1, c.2, decide_true, Bool.true_and]
    cases ho : E.of t with
    | none => rw [ho] at this; rw [show R.get t = .none from this]; rfl
    | some x => rw [ho] at this; exact this.is
  · have : E.of t = none := by unfold EP.of; rw [if_neg c]
    rw [this]
    by_cases c1 : 0 ≤ t
    · have c2 : ¬ t < 8 := fun q => c ⟨c1, q⟩
      simp [c2]
    · simp [c1]

theorem sim_opn {E : EP} {R : RP} (h : Sim E R) (t : Int) : R.opn t = (E.opn t).isSome := by
  unfold RP.opn EP.opn
  rw [sim_has h]
  cases ho : E.of t with
  | none => rfl
  | some x =>
    have c := (pof_get ho).1
    have := h.at c
    rw [ho] at this
    have hc : (R.get t).commits = x.commits := this.commits.symm
    rw [hc]
    cases hx : x.commits <;> simp [hx]

theorem sim_is {E : EP} {R : RP} (h : Sim E R) (n : Int) : R.is n = E.is n := by unfold RP.is EP.is; rw [h.vars]

/-- One thread's transaction turns on both sides. -/
theorem sim_set {E E' : EP} {R R' : RP} (h : Sim E R) (t : Nat) (o : Option TP) (y : RT) (hc : E'.clock = R'.clock) (hv : E'.vars = R'.vars) (hl : ∀ v ∈ E'.vars, v.lock = -1 ∨ 0 ≤ v.lock) (h1 : E'.txs = E.txs.set t o) (h2 : R'.txs = R.txs.set t y) (hs : SimT o y) : Sim E' R' := by
  refine ⟨hc, hv, hl, by rw [h1, List.length_set]; exact h.elen, by rw [h2, List.length_set]; exact h.rlen, fun u o' y' g1 g2 => ?_⟩
  rw [h1] at g1
  rw [h2] at g2
  by_cases e : u = t
  · subst e
    rw [List.getElem?_set] at g1 g2
    simp only [if_true] at g1 g2
    split at g1 <;> split at g2
    · cases g1; cases g2; exact hs
    · cases g2
    · cases g1
    · cases g1
  · rw [List.getElem?_set_ne (Ne.symm e)] at g1 g2
    exact h.tx u o' y' g1 g2

theorem sim_make {E : EP} {R : RP} (h : Sim E R) (v : Int) : (makeF E v).1 = (makeR R v).1 ∧ Sim (makeF E v).2 (makeR R v).2 := by
  unfold makeF makeR
  rw [← h.vars]
  split
  · refine ⟨rfl, h.clock, rfl, fun w hw => ?_, h.elen, h.rlen, h.tx⟩
    rcases List.mem_append.1 hw with h1 | h1
    · exact h.lock w h1
    · simp only [List.mem_singleton] at h1; subst h1; exact .inl rfl
  · exact ⟨rfl, h⟩

theorem sim_begin {E : EP} {R : RP} (h : Sim E R) (t : Int) : (beginF E t).1 = (beginR R t).1 ∧ Sim (beginF E t).2 (beginR R t).2 := by
  unfold beginF beginR
  by_cases c : 0 ≤ t ∧ t < 8
  · have hh := h.at c
    have hj : (E.txs[t.toNat]?).join = E.of t := by unfold EP.of; rw [if_pos c]
    rw [hj]
    cases ho : E.of t with
    | some x =>
      rw [ho] at hh
      rw [if_neg (by rintro ⟨_, _, q⟩; cases q), if_neg (by rintro ⟨_, _, q⟩; rw [hh.is] at q; cases q)]
      exact ⟨rfl, h⟩
    | none =>
      rw [ho] at hh
      rw [if_pos ⟨c.1, c.2, rfl⟩, if_pos ⟨c.1, c.2, by rw [show R.get t = .none from hh]; rfl⟩]
      refine ⟨rfl, sim_set h t.toNat _ _ h.clock h.vars h.lock rfl rfl ?_⟩
      exact ⟨rfl, h.clock, rfl, rfl, rfl, fun d hd k => by
        have hd : d < 1 := hd
        obtain rfl : d = 0 := by omega
        rfl, List.Pairwise.nil, fun p hp => (by cases hp), fun q => (by cases q), rfl, fun q => (by cases q)⟩
  · rw [if_neg (fun q => c ⟨q.1, q.2.1⟩), if_neg (fun q => c ⟨q.1, q.2.1⟩)]
    exact ⟨rfl, h⟩

theorem sim_put {E : EP} {R : RP} (h : Sim E R) (t : Int) (x : TP) (y : RT) (hs : SimX x y) : Sim (E.put t x) (R.put t y) :=
  sim_set h t.toNat (some x) y h.clock h.vars h.lock rfl rfl hs

/-- What stands behind opn on both sides. -/
theorem sim_open {E : EP} {R : RP} (h : Sim E R) {t : Int} {x : TP} (ho : E.opn t = some x) : R.opn t = true ∧ SimX x (R.get t) ∧ x.commits = false := by
  have h1 := popn_get ho
  have c := (pof_get h1.1).1
  have := h.at c
  rw [h1.1] at this
  exact ⟨by rw [sim_opn h, ho]; rfl, this, h1.2⟩
theorem sim_shutd {E : EP} {R : RP} (h : Sim E R) {t : Int} (ho : E.opn t = none) : ¬ R.opn t = true := by
  rw [sim_opn h, ho]; decide

theorem sim_part {E : EP} {R : RP} (h : Sim E R) (t : Int) : (partF E t).1 = (partR R t).1 ∧ Sim (partF E t).2 (partR R t).2 := by
  unfold partF partR
  cases ho : E.opn t with
  | none => rw [if_neg (sim_shutd h ho)]; exact ⟨rfl, h⟩
  | some x =>
    obtain ⟨h1, hs, hc⟩ := sim_open h ho
    rw [if_pos h1]
    refine ⟨rfl, sim_put h t _ _ ⟨hs.is, hs.start, hs.reads, hs.commits, ?_, fun d hd k => ?_, hs.uniq, fun p hp => ?_, hs.pc, hs.pt, hs.st⟩⟩
    · have := hs.parts
      show ((x.maps ++ [fun _ => none]).length : Int) = (R.get t).parts + 1
      simp; omega
    · have hd : d < x.maps.length + 1 := by simpa using hd
      show (x.maps ++ [fun _ => none]).getD d (fun _ => none) k = getW (R.get t).puts ((d : Int) + 1) k
      by_cases e : d = x.maps.length
      · subst e
        have : (x.maps ++ [fun _ => none]).getD x.maps.length (fun _ => none) = (fun _ => none) := by simp [List.getD_eq_getElem?_getD]
        rw [this]
        cases hg : getW (R.get t).puts ((x.maps.length : Int) + 1) k with
        | none => rfl
        | some v =>
          obtain ⟨p, p1, p2, p3⟩ := getW_some.1 (show (getW (R.get t).puts ((x.maps.length : Int) + 1) k).isSome = true by rw [hg]; rfl)
          have := hs.range p p1
          have := hs.parts
          omega
      · have : (x.maps ++ [fun _ => none]).getD d (fun _ => none) = x.maps.getD d (fun _ => none) := by
          simp [List.getD_eq_getElem?_getD, List.getElem?_append_left (show d < x.maps.length by omega)]
        rw [this]
        exact hs.maps d (by omega) k
    · have := hs.range p hp
      show 1 ≤ p.part ∧ p.part ≤ (R.get t).parts + 1
      omega

theorem set_getF {l : List FM} {d e : Nat} {f : FM} (hd : d < l.length) : (l.set e f).getD d (fun _ => none) = if d = e then f else l.getD d (fun _ => none) := by
  by_cases c : d = e
  · subst c
    rw [if_pos rfl]; simp [List.getD_eq_getElem?_getD, hd]
  · rw [if_neg c]
    simp only [List.getD_eq_getElem?_getD]
    rw [List.getElem?_set_ne (Ne.symm c)]

theorem sim_write {E : EP} {R : RP} (h : Sim E R) {b : Nat} (hF : FineP b E) (t n v : Int) : (writeF E t n v).1 = (writeR R t n v).1 ∧ Sim (writeF E t n v).2 (writeR R t n v).2 := by
  unfold writeF writeR
  rw [sim_is h]
  cases ho : E.opn t with
  | none => rw [if_neg (fun q => sim_shutd h ho q.1)]; exact ⟨rfl, h⟩
  | some x =>
    obtain ⟨h1, hs, hc⟩ := sim_open h ho
    have hT := hF.tx _ x (pof_get (popn_get ho).1).2
    by_cases hi : E.is n = true
    · rw [if_pos ⟨h1, hi⟩]
      simp only [hi, if_true]
      have hp2 := hs.parts
      have hone := hT.one
      refine ⟨trivial, sim_put h t _ _ ⟨hs.is, hs.start, hs.reads, hs.commits, ?_, fun d hd k => ?_, uniq_put hs.uniq _ _ _, fun p hp => ?_, hs.pc, hs.pt, fun q => ?_⟩⟩
      · show ((x.maps.set _ _).length : Int) = _
        rw [List.length_set]; exact hp2
      · have hd : d < x.maps.length := by simpa [TP.setTop] using hd
        show (x.maps.set (x.maps.length - 1) (fmPut x.top n v)).getD d (fun _ => none) k = getW (putR (R.get t).puts n v (R.get t).parts) ((d : Int) + 1) k
        rw [set_getF hd, getW_put]
        by_cases e : d = x.maps.length - 1
        · rw [if_pos e]
          have hm := hs.maps d hd k
          have ht : x.top = x.maps.getD d (fun _ => none) := by unfold TP.top; rw [e]
          have hpe : (d : Int) + 1 = (R.get t).parts := by omega
          unfold fmPut
          rw [ht, hm]
          by_cases ek : k = n
          · rw [if_pos ek, if_pos ⟨ek, hpe⟩]
          · rw [if_neg ek, if_neg (fun q => ek q.1)]
        · rw [if_neg e, if_neg (by rintro ⟨_, q⟩; omega)]
          exact hs.maps d hd k
      · rcases mem_put_pair hp with ⟨z, z1, z2, z3⟩ | ⟨_, z2⟩
        · rw [← z3]; exact hs.range z z1
        · show 1 ≤ p.part ∧ p.part ≤ (R.get t).parts
          omega
      · have := hs.pc q
        rw [hc] at this; cases this
    · rw [if_neg (fun q => hi q.2)]
      simp only [hi, Bool.false_eq_true, if_false]
      exact ⟨trivial, h⟩

theorem getW_rest (l : List PW) {kk part : Int} (h : part ≠ kk) (k : Int) : getW (restR kk l) part k = getW l part k := by
  have := getW_filter l (fun p => !decide (p.part = kk)) part true (fun p _ hp => by rw [hp]; simp [h]) k
  rw [if_pos rfl] at this
  exact this
theorem getW_own (l : List PW) (kk k : Int) : getW (ownR kk l) kk k = getW l kk k := by
  have := getW_filter l (fun p => decide (p.part = kk)) kk true (fun p _ hp => by rw [hp]; simp) k
  rw [if_pos rfl] at this
  exact this

theorem sim_shut {E : EP} {R : RP} (h : Sim E R) {b : Nat} (hF : FineP b E) (t : Int) (j : Bool) : (shutF E t j).1 = (shutR R t j).1 ∧ Sim (shutF E t j).2 (shutR R t j).2 := by
  unfold shutF shutR
  cases ho : E.opn t with
  | none => rw [if_neg (fun q => sim_shutd h ho q.1)]; exact ⟨rfl, h⟩
  | some x =>
    obtain ⟨h1, hs, hc⟩ := sim_open h ho
    have hT := hF.tx _ x (pof_get (popn_get ho).1).2
    have hp2 := hs.parts
    have hone := hT.one
    by_cases c : x.maps.length < 2
    · rw [if_neg (fun q => q.2 (by omega))]
      simp only [c, if_true]
      exact ⟨trivial, h⟩
    · rw [if_pos ⟨h1, by omega⟩]
      simp only [c, if_false]
      have hdl : x.drop.maps.length = x.maps.length - 1 := by simp [TP.drop]
      have hdg : ∀ d, d < x.maps.length - 1 → x.drop.maps.getD d (fun _ => none) = x.maps.getD d (fun _ => none) := fun d hd => by
        show x.maps.dropLast.getD d _ = _
        simp only [List.getD_eq_getElem?_getD]
        rw [List.getElem?_dropLast, if_pos hd]
      obtain ⟨kk, hkk⟩ : ∃ kk, kk = (R.get t).parts := ⟨_, rfl⟩
      rw [← hkk]
      have hrange : ∀ p ∈ restR kk (R.get t).puts, 1 ≤ p.part ∧ p.part ≤ kk - 1 := fun p hp => by
        have hm := List.mem_filter.1 hp
        have h2 := hs.range p hm.1
        have h3 : p.part ≠ kk := by simpa using hm.2
        omega
      have hur : Uniq (restR kk (R.get t).puts) := uniq_filter hs.uniq _
      have hown : ∀ p ∈ ownR kk (R.get t).puts, p.part = kk := fun p hp => by simpa using (List.mem_filter.1 hp).2
      have huo : Uniq (ownR kk (R.get t).puts) := uniq_filter hs.uniq _
      cases j with
      | false =>
        refine ⟨trivial, sim_put h t _ _ ⟨hs.is, hs.start, hs.reads, hs.commits, ?_, fun d hd k => ?_, hur, hrange, hs.pc, hs.pt, fun q => ?_⟩⟩
        · show ((x.drop.maps.length : Nat) : Int) = kk - 1
          omega
        · have hd : d < x.maps.length - 1 := by rw [← hdl]; exact hd
          show x.drop.maps.getD d (fun _ => none) k = getW (restR kk (R.get t).puts) ((d : Int) + 1) k
          rw [hdg d hd, getW_rest _ (by omega)]
          exact hs.maps d (by omega) k
        · have := hs.pc q
          rw [hc] at this; cases this
      | true =>
        refine ⟨trivial, sim_put h t _ _ ⟨hs.is, hs.start, hs.reads, hs.commits, ?_, fun d hd k => ?_, uniq_join _ _ hur, fun p hp => ?_, hs.pc, hs.pt, fun q => ?_⟩⟩
        · show (((x.drop.maps.set _ _).length : Nat) : Int) = kk - 1
          rw [List.length_set]; omega
        · have hd : d < x.drop.maps.length := by simpa [TP.setTop] using hd
          show (x.drop.maps.set (x.drop.maps.length - 1) (fmOver x.top x.drop.top)).getD d (fun _ => none) k = getW (joinR kk (ownR kk (R.get t).puts) (restR kk (R.get t).puts)) ((d : Int) + 1) k
          rw [set_getF hd, getW_join _ _ hown huo, getW_own, getW_rest _ (by omega)]
          by_cases e : d = x.drop.maps.length - 1
          · rw [if_pos e, if_pos (by omega)]
            have ht : x.top = x.maps.getD (x.maps.length - 1) (fun _ => none) := rfl
            have hdt : x.drop.top = x.maps.getD d (fun _ => none) := by
              rw [← hdg d (by omega), e]; rfl
            have m1 := hs.maps (x.maps.length - 1) (by omega) k
            have m2 := hs.maps d (by omega) k
            unfold fmOver
            rw [ht, hdt, m1, m2]
            have : ((x.maps.length - 1 : Nat) : Int) + 1 = kk := by omega
            rw [this]
          · rw [if_neg e, if_neg (by omega), hdg d (by omega)]
            exact hs.maps d (by omega) k
        · show 1 ≤ p.part ∧ p.part ≤ kk - 1
          rcases part_join _ _ hp with ⟨q, q1, q2⟩ | q
          · rw [← q2]; exact hrange q q1
          · omega
        · have := hs.pc q
          rw [hc] at this; cases this

theorem look_same {t start : Int} {v : TV} (h : v.lock = -1 ∨ 0 ≤ v.lock) : lookF t start v = lookR t start v := by
  unfold lookF lookR
  by_cases c : v.lock ≠ -1 ∧ v.lock ≠ t
  · rw [if_pos c, if_pos ⟨h.resolve_left c.1, c.2⟩]
  · have c' : ¬ (0 ≤ v.lock ∧ v.lock ≠ t) := fun q => c ⟨by have := q.1; omega, q.2⟩
    rw [if_neg c, if_neg c']

theorem lock_getD {vars : List TV} (h : ∀ v ∈ vars, v.lock = -1 ∨ 0 ≤ v.lock) (n : Nat) : (vars.getD n default).lock = -1 ∨ 0 ≤ (vars.getD n default).lock := by
  by_cases c : n < vars.length
  · exact h _ (by simp [List.getD_eq_getElem?_getD, c])
  · rw [List.getD_eq_getElem?_getD, List.getElem?_eq_none (by omega)]
    exact .inr (Int.le_refl _)

theorem valid_same {t start : Int} {vars : List TV} (h : ∀ v ∈ vars, v.lock = -1 ∨ 0 ≤ v.lock) (l : List Int) : validL t start vars l = validR t start vars l := by
  induction l with
  | nil => rfl
  | cons n r ih => unfold validL validR; rw [look_same (lock_getD h _), ih]

theorem sim_valid {E : EP} {R : RP} (h : Sim E R) (t : Int) : validF E t = (if R.opn t = true then validR t (R.get t).start R.vars (R.get t).reads else 1) := by
  unfold validF
  cases ho : E.opn t with
  | none => rw [if_neg (sim_shutd h ho)]
  | some x =>
    obtain ⟨h1, hs, hc⟩ := sim_open h ho
    rw [if_pos h1]
    show validL t x.start E.vars x.reads = _
    rw [valid_same h.lock, h.vars, hs.start, hs.reads]

theorem topF_none {n : Int} : ∀ (l : List FM), (∀ d, d < l.length → l.getD d (fun _ => none) n = none) → topGet l n = none := by
  intro l
  induction l with
  | nil => intro _; rfl
  | cons m r ih =>
    intro h
    have h0 := h 0 (by simp)
    have h1 := ih fun j hj => h (j + 1) (by simpa using hj)
    simp only [topGet, h1]
    simpa using h0
theorem topF_some {n v : Int} : ∀ (l : List FM) (j : Nat), j < l.length → l.getD j (fun _ => none) n = some v → (∀ i, j < i → i < l.length → l.getD i (fun _ => none) n = none) → topGet l n = some v := by
  intro l
  induction l with
  | nil => intro j hj; cases hj
  | cons m r ih =>
    intro j hj hv h
    cases j with
    | zero =>
      have h1 := topF_none (n := n) r fun i hi => h (i + 1) (by omega) (by simpa using hi)
      simp only [topGet, h1]
      simpa using hv
    | succ j =>
      have h1 := ih j (by simpa using hj) hv fun i h1 h2 => h (i + 1) (by omega) (by simpa using h2)
      simp only [topGet, h1]
      rfl

theorem sim_top {x : TP} {y : RT} (hs : SimX x y) (n : Int) : topGet x.maps n = (topR n y.puts none).map (·.v) := by
  have hp := topR_spec (n := n) y.puts none (fun q hq => by cases hq)
  have hpa := hs.parts
  cases ht : topR n y.puts none with
  | none =>
    rw [ht] at hp
    refine topF_none _ fun d hd => ?_
    rw [hs.maps d hd n]
    cases hg : getW y.puts ((d : Int) + 1) n with
    | none => rfl
    | some v =>
      obtain ⟨p, p1, p2, _⟩ := getW_some.1 (show (getW y.puts ((d : Int) + 1) n).isSome = true by rw [hg]; rfl)
      exact absurd p2 (hp.2 p p1)
  | some p =>
    rw [ht] at hp
    obtain ⟨h1, h2, _, h4⟩ := hp
    have hm : p ∈ y.puts := h2.resolve_left (by intro e; cases e)
    have hr := hs.range p hm
    refine topF_some _ (p.part - 1).toNat (by omega) ?_ fun i hi1 hi2 => ?_
    · rw [hs.maps _ (by omega) n]
      have e : (((p.part - 1).toNat : Nat) : Int) + 1 = p.part := by omega
      rw [e, ← h1]
      exact getW_mem hs.uniq hm
    · rw [hs.maps i hi2 n]
      cases hg : getW y.puts ((i : Int) + 1) n with
      | none => rfl
      | some v =>
        obtain ⟨q, q1, q2, q3⟩ := getW_some.1 (show (getW y.puts ((i : Int) + 1) n).isSome = true by rw [hg]; rfl)
        have := h4 q q1 q2
        omega

theorem sim_read {E : EP} {R : RP} (h : Sim E R) (t n : Int) : (readF E t n).1 = (readR R t n).1 ∧ Sim (readF E t n).2 (readR R t n).2 := by
  unfold readF readR
  rw [sim_is h, ← h.vars]
  cases ho : E.opn t with
  | none => rw [if_neg (fun q => sim_shutd h ho q.1)]; exact ⟨rfl, h⟩
  | some x =>
    obtain ⟨h1, hs, hc⟩ := sim_open h ho
    by_cases hi : E.is n = true
    · rw [if_pos ⟨h1, hi⟩]
      have hT := sim_top hs n
      have hlk := look_same (t := t) (start := x.start) (lock_getD h.lock n.toNat)
      rw [hs.start] at hlk
      cases ht : topR n (R.get t).puts none with
      | some p =>
        rw [ht] at hT
        simp only [hi, if_true, hT, Option.map_some]
        exact ⟨trivial, h⟩
      | none =>
        rw [ht] at hT
        simp only [hi, if_true, hT, Option.map_none, hs.start, hlk]
        by_cases c : lookR t (R.get t).start (E.vars.getD n.toNat default) ≠ 0
        · rw [if_pos c, if_pos c]; exact ⟨rfl, h⟩
        · rw [if_neg c, if_neg c]
          refine ⟨rfl, ?_⟩
          show Sim (if n ∈ x.reads then E else _) (if n ∈ (R.get t).reads then R else _)
          rw [hs.reads]
          split
          · exact h
          · exact sim_put h t _ _ ⟨hs.is, by first | rfl | exact hs.start, by first | rfl | (show x.reads ++ [n] = (R.get t).reads ++ [n]; rw [hs.reads]), hs.commits, hs.parts, hs.maps, hs.uniq, hs.range, hs.pc, hs.pt, hs.st⟩
    · rw [if_neg (fun q => hi q.2)]
      simp only [hi, Bool.false_eq_true, if_false]
      exact ⟨trivial, h⟩

theorem sim_abort {E : EP} {R : RP} (h : Sim E R) (t : Int) : (abortF E t).1 = (abortR R t).1 ∧ Sim (abortF E t).2 (abortR R t).2 := by
  unfold abortF abortR
  rw [sim_has h]
  cases ho : E.of t with
  | none => rw [if_neg (fun q => by cases q.1)]; exact ⟨rfl, h⟩
  | some x =>
    have c := (pof_get ho).1
    have hs := h.at c
    rw [ho] at hs
    have hpt := hs.pt
    cases hp : x.pointed with
    | true =>
      rw [hp] at hpt
      have : 0 < (R.get t).stamp := by simpa using hpt.symm
      rw [if_neg (fun q => by omega)]
      simp only [hp, if_true]
      exact ⟨trivial, h⟩
    | false =>
      rw [hp] at hpt
      have : ¬ 0 < (R.get t).stamp := by simpa using hpt.symm
      rw [if_pos ⟨rfl, by omega⟩]
      simp only [hp, Bool.false_eq_true, if_false]
      refine ⟨trivial, sim_set h t.toNat none .none h.clock (by show E.vars.map _ = R.vars.map _; rw [h.vars]) (fun v hv => ?_) rfl rfl rfl⟩
      obtain ⟨w, hw, rfl⟩ := List.mem_map.1 hv
      unfold unlock
      split
      · exact .inl rfl
      · exact h.lock w hw

end Go.Proofs
set_option linter.unusedSimpArgs false
set_option linter.unusedVariables false
namespace Go.Proofs
open Go Go.AL

theorem lock_same {t : Int} {vars : List TV} (h : ∀ v ∈ vars, v.lock = -1 ∨ 0 ≤ v.lock) (l : List PW) : lockF t vars (l.map (·.n)) = lockRF t vars l := by
  induction l with
  | nil => rfl
  | cons p r ih =>
    rw [List.map_cons]
    unfold lockF lockRF
    by_cases c : (vars.getD p.n.toNat default).lock = t
    · rw [if_pos c, if_pos c]; exact ih
    · rw [if_neg c, if_neg c]
      by_cases c2 : (vars.getD p.n.toNat default).lock = -1
      · rw [if_pos c2, if_neg (by omega)]
      · rw [if_neg c2, if_pos ((lock_getD h _).resolve_left c2)]

theorem lock_set {vars : List TV} (h : ∀ v ∈ vars, v.lock = -1 ∨ 0 ≤ v.lock) {n : Nat} {w : TV} (hw : w.lock = -1 ∨ 0 ≤ w.lock) : ∀ v ∈ vars.set n w, v.lock = -1 ∨ 0 ≤ v.lock := fun v hv => by
  rcases List.mem_or_eq_of_mem_set hv with h1 | rfl
  · exact h v h1
  · exact hw

theorem sim_step {E : EP} {R : RP} (h : Sim E R) {b : Nat} (hF : FineP b E) (hG : FineD b R) (t : Int) : (stepF E t).1 = (stepR R t).1 ∧ Sim (stepF E t).2 (stepR R t).2 := by
  unfold stepF stepR
  rw [sim_has h]
  cases ho : E.of t with
  | none => rw [if_neg (fun q => by cases q.1)]; exact ⟨rfl, h⟩
  | some x =>
    have hc := (pof_get ho).1
    have hs := h.at hc
    rw [ho] at hs
    have hs : SimX x (R.get t) := hs
    have hT := hF.tx _ x (pof_get ho).2
    have hX := hG.get t
    have hpa := hs.parts
    have hone := hT.one
    by_cases c1 : 1 < x.maps.length
    · rw [if_neg (fun q => by omega)]
      simp only [c1, if_true]
      exact ⟨trivial, h⟩
    · rw [if_pos ⟨rfl, by omega⟩]
      simp only [c1, if_false]
      obtain ⟨y, hy⟩ : ∃ y, y = R.get t := ⟨_, rfl⟩
      rw [← hy] at hs hX hpa ⊢
      obtain ⟨l, hl⟩ : ∃ l, l = sortR 1 y.puts := ⟨_, rfl⟩
      have hst := hs.st
      have hnm := sort_names hX.puts 1
      rw [← hl] at hst hnm ⊢
      have hbase : x.base = getW y.puts 1 := by
        funext k
        exact hs.maps 0 (by omega) k
      rw [← h.vars] at hnm
      have hkeys : keysUpto x.base E.vars.length = l.map (·.n) := by rw [hbase, ← hnm]
      have hcm : SimX x.commit y.commit := ⟨hs.is, hs.start, hs.reads, rfl, hs.parts, hs.maps, hs.uniq, hs.range, fun _ => rfl, hs.pt, hs.st⟩
      have hpt := hs.pt
      cases hp : x.pointed with
      | true =>
        rw [hp] at hpt
        have hstp : 0 < y.stamp := by simpa using hpt.symm
        have hd := hX.done hstp
        rw [← hl] at hd
        obtain ⟨s1, s2⟩ := hst hp
        have hdl : y.done.toNat < l.length := by omega
        obtain ⟨p, hpd⟩ : ∃ p, p = l.getD y.done.toNat default := ⟨_, rfl⟩
        have hpm : p ∈ l := by rw [hpd]; simp [List.getD_eq_getElem?_getD, hdl]
        have hpp := sortG_mem (by rw [hl] at hpm; exact hpm : p ∈ sortG 1 y.puts (y.puts.length + 1) (-1))
        have hleft : x.left = p.n :: (l.map (·.n)).drop (y.done.toNat + 1) := by
          rw [s2, List.drop_eq_getElem_cons (by simpa using hdl)]
          congr 1
          rw [hpd]; simp [List.getD_eq_getElem?_getD, hdl]
        have hv : (x.commit.base p.n).getD 0 = p.v := by
          have : x.commit.base = getW y.puts 1 := hbase
          rw [this, ← hpp.2, getW_mem hs.uniq hpp.1]; rfl
        simp only [hp, if_true, if_pos hstp]
        rw [← hpd]
        unfold putF
        rw [show x.commit.left = p.n :: (l.map (·.n)).drop (y.done.toNat + 1) from hleft]
        simp only [hv]
        have hvs : ∀ z, E.vars.set p.n.toNat ⟨p.v, x.commit.stamp, -1⟩ = z → z = R.vars.set p.n.toNat ⟨p.v, y.stamp, -1⟩ := fun z hz => by rw [← hz, h.vars, show x.commit.stamp = y.stamp from s1]
        by_cases c2 : y.done + 1 < (l.length : Int)
        · have hne : ¬ (l.map (·.n)).drop (y.done.toNat + 1) = [] := by
            rw [List.drop_eq_nil_iff, List.length_map]; omega
          rw [if_neg hne, if_pos c2]
          refine ⟨rfl, sim_set h t.toNat (some { x.commit with left := (l.map (·.n)).drop (y.done.toNat + 1) }) { y.commit with done := y.done + 1 } h.clock (hvs _ rfl) (lock_set h.lock (.inl rfl)) (by simp only [EP.put, List.set_set]) rfl ?_⟩
          refine ⟨hs.is, hs.start, hs.reads, rfl, hs.parts, hs.maps, hs.uniq, hs.range, fun _ => rfl, hs.pt, fun q => ⟨s1, ?_⟩⟩
          show (l.map (·.n)).drop (y.done.toNat + 1) = ((sortR 1 y.puts).map (·.n)).drop (y.done + 1).toNat
          rw [← hl, show (y.done + 1).toNat = y.done.toNat + 1 by omega]
        · have hne : (l.map (·.n)).drop (y.done.toNat + 1) = [] := by
            rw [List.drop_eq_nil_iff, List.length_map]; omega
          rw [if_pos hne, if_neg c2]
          exact ⟨rfl, sim_set h t.toNat none .none h.clock (hvs _ rfl) (lock_set h.lock (.inl rfl)) (by simp only [EP.put, List.set_set]) rfl rfl⟩
      | false =>
        rw [hp] at hpt
        have hstp : ¬ 0 < y.stamp := by simpa using hpt.symm
        simp only [hp, Bool.false_eq_true, if_false, if_neg hstp, hkeys, lock_same h.lock]
        rw [← h.vars]
        cases hlk : lockRF t E.vars l with
        | some q =>
          obtain ⟨a, vs⟩ := q
          simp only
          have hlv : ∀ v ∈ vs, v.lock = -1 ∨ 0 ≤ v.lock := by
            have := lock_same (t := t) h.lock l
            rw [hlk] at this
            rcases lock_cases this with e | ⟨n, _, e⟩
            · rw [e]; exact h.lock
            · rw [e]; exact lock_set h.lock (.inr hc.1)
          exact ⟨trivial, sim_set h t.toNat (some x.commit) y.commit h.clock rfl hlv rfl rfl hcm⟩
        | none =>
          simp only
          have hva : validL t x.start E.vars x.reads = validR t y.start E.vars y.reads := by rw [valid_same h.lock, hs.start, hs.reads]
          rw [hva]
          by_cases c2 : validR t y.start E.vars y.reads ≠ 0
          · rw [if_pos c2, if_pos c2]
            exact ⟨rfl, sim_put h t _ _ hcm⟩
          · rw [if_neg c2, if_neg c2]
            by_cases c3 : l = []
            · rw [if_pos (by rw [c3]; rfl), if_pos c3]
              exact ⟨rfl, sim_set h t.toNat none .none h.clock h.vars h.lock rfl rfl rfl⟩
            · rw [if_neg (by simpa using c3), if_neg c3]
              refine ⟨rfl, sim_set h t.toNat (some _) _ (by show E.clock + 1 = R.clock + 1; rw [h.clock]) h.vars h.lock rfl rfl ?_⟩
              have hcl := hG.clk
              refine ⟨hs.is, hs.start, hs.reads, rfl, hs.parts, hs.maps, hs.uniq, hs.range, fun _ => rfl, ?_, fun _ => ⟨by show E.clock + 1 = R.clock + 1; rw [h.clock], ?_⟩⟩
              · show true = decide (0 < R.clock + 1)
                have : 0 < R.clock + 1 := by omega
                simp [this]
              · show l.map (·.n) = ((sortR 1 y.puts).map (·.n)).drop y.done.toNat
                rw [← hl, hX.dz (by omega)]; rfl

theorem pair1 {a b : Int} (h : a = b) : ((0 : Int), a) = (0, b) := by rw [h]

theorem sim_does {E : EP} {R : RP} (h : Sim E R) {b : Nat} (hF : FineP b E) (hG : FineD b R) (d : Dd) : (doesF E d).1 = (doesR R d).1 ∧ Sim (doesF E d).2 (doesR R d).2 := by
  unfold doesF doesR
  by_cases k0 : d.kind = 0
  · rw [if_pos k0, if_pos k0]
    exact ⟨pair1 (sim_begin h d.t).1, (sim_begin h d.t).2⟩
  rw [if_neg k0, if_neg k0]
  by_cases k1 : d.kind = 1
  · rw [if_pos k1, if_pos k1]
    exact sim_read h d.t d.n
  rw [if_neg k1, if_neg k1]
  by_cases k2 : d.kind = 2
  · rw [if_pos k2, if_pos k2]
    exact ⟨pair1 (sim_write h hF d.t d.n d.v).1, (sim_write h hF d.t d.n d.v).2⟩
  rw [if_neg k2, if_neg k2]
  by_cases k3 : d.kind = 3
  · rw [if_pos k3, if_pos k3]
    exact sim_step h hF hG d.t
  rw [if_neg k3, if_neg k3]
  by_cases k4 : d.kind = 4
  · rw [if_pos k4, if_pos k4]
    exact ⟨pair1 (sim_part h d.t).1, (sim_part h d.t).2⟩
  rw [if_neg k4, if_neg k4]
  by_cases k5 : d.kind = 5
  · rw [if_pos k5, if_pos k5]
    exact ⟨pair1 (sim_shut h hF d.t true).1, (sim_shut h hF d.t true).2⟩
  rw [if_neg k5, if_neg k5]
  by_cases k6 : d.kind = 6
  · rw [if_pos k6, if_pos k6]
    exact ⟨pair1 (sim_shut h hF d.t false).1, (sim_shut h hF d.t false).2⟩
  rw [if_neg k6, if_neg k6]
  by_cases k7 : d.kind = 7
  · rw [if_pos k7, if_pos k7]
    exact ⟨pair1 (sim_abort h d.t).1, (sim_abort h d.t).2⟩
  rw [if_neg k7, if_neg k7]
  by_cases k8 : d.kind = 8
  · rw [if_pos k8, if_pos k8]
    exact sim_make h d.v
  rw [if_neg k8, if_neg k8]
  by_cases k9 : d.kind = 9
  · rw [if_pos k9, if_pos k9]
    exact ⟨pair1 (sim_valid h d.t), h⟩
  rw [if_neg k9, if_neg k9]
  exact ⟨rfl, h⟩

theorem sim_makes : ∀ k, Sim (makesF k) (makesR k)
  | 0 => sim_new
  | k + 1 => (sim_make (sim_makes k) _).2

end Go.Proofs
set_option linter.unusedSimpArgs false
set_option linter.unusedVariables false
namespace Go.Proofs
open Go Go.AL

structure VerI (E : EP) : Prop where
  vars : ∀ v ∈ E.vars, 0 ≤ v.ver
  tx : ∀ (t : Nat) (x : TP), E.txs[t]? = some (some x) → 0 ≤ x.stamp

theorem ver_set {E E' : EP} (h : VerI E) (t : Nat) (o : Option TP) (hv : ∀ v ∈ E'.vars, 0 ≤ v.ver) (ht : E'.txs = E.txs.set t o) (ho : ∀ x, o = some x → 0 ≤ x.stamp) : VerI E' :=
  ⟨hv, fun u x hx => by
    rw [ht] at hx
    rcases tx_set_get hx with ⟨_, e⟩ | ⟨_, e⟩
    · exact ho x e
    · exact h.tx u x e⟩

theorem ver_put {E : EP} (h : VerI E) (t : Int) (x : TP) (hx : 0 ≤ x.stamp) : VerI (E.put t x) := ver_set h t.toNat (some x) h.vars rfl fun y hy => by cases hy; exact hx

theorem ver_opn {E : EP} (h : VerI E) {t : Int} {x : TP} (ho : E.opn t = some x) : 0 ≤ x.stamp := h.tx _ x (pof_get (popn_get ho).1).2

theorem ver_shut {E : EP} (h : VerI E) (t : Int) (j : Bool) : VerI (shutF E t j).2 := by
  unfold shutF
  split
  · rename_i x hx
    split
    · exact h
    · cases j
      · exact ver_put h t _ (ver_opn (x := x) h hx :)
      · exact ver_put h t _ (ver_opn (x := x) h hx :)
  · exact h

theorem ver_step {E : EP} (h : VerI E) (hc : 0 ≤ E.clock) (t : Int) : VerI (stepF E t).2 := by
  unfold stepF
  split
  · exact h
  · rename_i x hx
    have hs := h.tx _ x (pof_get hx).2
    split
    · exact h
    · split
      · unfold putF
        split
        · exact ver_put h t _ hs
        · rename_i n r e
          have hv : ∀ v ∈ E.vars.set n.toNat ⟨(x.commit.base n).getD 0, x.commit.stamp, -1⟩, 0 ≤ v.ver := fun v hv => by
            rcases mem_vars_set hv with h1 | rfl
            · exact h.vars v h1
            · exact hs
          split
          · exact ver_set h t.toNat none hv (by simp only [EP.put, List.set_set]) (fun y hy => by cases hy)
          · exact ver_set h t.toNat (some { x.commit with left := r }) hv (by simp only [EP.put, List.set_set]) (fun y hy => by cases hy; exact hs)
      · split
        · rename_i a vs hlk
          refine ver_set h t.toNat (some x.commit) (fun v hv => ?_) rfl (fun y hy => by cases hy; exact hs)
          have hv : v ∈ vs := hv
          rcases lock_cases hlk with e | ⟨n, hn, e⟩
          · rw [e] at hv; exact h.vars v hv
          · rw [e] at hv
            rcases mem_vars_set hv with h1 | rfl
            · exact h.vars v h1
            · have hk := mem_keysUpto.1 hn
              refine h.vars (E.vars.getD n.toNat default) ?_
              have : n.toNat < E.vars.length := by omega
              simp [List.getD_eq_getElem?_getD, this]
        · split
          · exact ver_put h t _ hs
          · split
            · exact ver_set h t.toNat none h.vars rfl (fun y hy => by cases hy)
            · exact ver_set h t.toNat (some _) h.vars rfl (fun y hy => by cases hy; show 0 ≤ E.clock + 1; omega)

theorem ver_does {E : EP} (h : VerI E) (hc : 0 ≤ E.clock) (d : Dd) : VerI (doesF E d).2 := by
  unfold doesF
  split
  · unfold beginF
    split
    · exact ver_set h d.t.toNat (some _) h.vars rfl (fun y hy => by cases hy; exact Int.le_refl _)
    · exact h
  split
  · unfold readF
    split
    · exact h
    · rename_i x hx
      split
      · split
        · exact h
        · split
          · exact h
          · show VerI (if d.n ∈ x.reads then E else E.put d.t { x with reads := x.reads ++ [d.n] })
            split
            · exact h
            · exact ver_put h _ _ (ver_opn (x := x) h hx :)
      · exact h
  split
  · unfold writeF
    split
    · rename_i x hx
      split
      · exact ver_put h _ _ (ver_opn (x := x) h hx :)
      · exact h
    · exact h
  split
  · exact ver_step h hc d.t
  split
  · unfold partF
    split
    · rename_i x hx
      exact ver_put h _ _ (ver_opn (x := x) h hx :)
    · exact h
  split
  · exact ver_shut h d.t true
  split
  · exact ver_shut h d.t false
  split
  · unfold abortF
    split
    · split
      · exact h
      · refine ver_set h d.t.toNat none (fun v hv => ?_) rfl (fun y hy => by cases hy)
        obtain ⟨w, hw, rfl⟩ := List.mem_map.1 hv
        unfold unlock
        split
        · exact h.vars w hw
        · exact h.vars w hw
    · exact h
  split
  · unfold makeF
    split
    · refine ⟨fun v hv => ?_, h.tx⟩
      rcases List.mem_append.1 hv with h1 | h1
      · exact h.vars v h1
      · simp only [List.mem_singleton] at h1; subst h1; exact Int.le_refl _
    · exact h
  split <;> exact h

theorem ver_new : VerI EP.new := ⟨fun v hv => (by cases hv), fun t x hx => by
  simp only [EP.new, List.getElem?_replicate] at hx
  split at hx <;> cases hx⟩

end Go.Proofs
set_option linter.unusedSimpArgs false
set_option linter.unusedVariables false
namespace Go.Proofs
open Go Go.AL

structure PlI (k : Nat) (E : EP) (R : RP) : Prop where
  sim : Sim E R
  fine : FineP k E
  fined : FineD k R
  ver : VerI E
  ser : SerI k E

theorem PlI.mono {k k' : Nat} {E : EP} {R : RP} (h : PlI k E R) (hk : k ≤ k') : PlI k' E R := ⟨h.sim, h.fine.mono hk, h.fined.mono hk, h.ver, h.ser.mono hk⟩

theorem pl_does {k : Nat} {E : EP} {R : RP} (h : PlI k E R) (d : Dd) : (doesF E d).1 = (doesR R d).1 ∧ PlI (k + 1) (doesF E d).2 (doesR R d).2 :=
  have hs := sim_does h.sim h.fine h.fined d
  ⟨hs.1, hs.2, fine_does h.fine d, fined_does h.fined d, ver_does h.ver h.fine.clk.1 d, ser_does h.ser h.fine d⟩

theorem pl_makes : ∀ k, PlI k (makesF k) (makesR k)
  | 0 => ⟨sim_new, fine_new, fined_new, ver_new, ser_new⟩
  | k + 1 => (pl_does (pl_makes k) ⟨8, 0, 0, 10 + k⟩).2

theorem dd_getD' {l : List Dd} {k : Nat} (h : k < l.length) : (l.map ddSV).getD k .any = ddSV (l.getD k default) := by simp [List.getD_eq_getElem?_getD, h]

end Go.Proofs
