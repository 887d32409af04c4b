/- The plain law of Tl2Alone. -/
import Derived.Test.YteclbnjpijakbaaH2
import Derived.Test.YteclbnjpijakbaaP2
set_option linter.unusedSimpArgs false
set_option linter.unusedVariables false
namespace Go.Proofs
open Go Go.AL

theorem fine_does {b : Nat} {E : EP} (h : FineP b E) (d : Dd) : FineP (b + 1) (doesF E d).2 := by
  unfold doesF
  repeat' split
  · exact fine_begin h _
  · exact fine_read h _ _
  · exact fine_write h _ _ _
  · exact fine_step h _
  · exact fine_part h _
  · exact fine_shut h _ _
  · exact fine_shut h _ _
  · exact fine_abort h _
  · exact fine_make h _
  · exact h.mono (by omega)
  · exact h.mono (by omega)

theorem fined_does {b : Nat} {R : RP} (h : FineD b R) (d : Dd) : FineD (b + 1) (doesR R d).2 := by
  unfold doesR
  repeat' split
  · exact fined_begin h _
  · exact fined_read h _ _
  · exact fined_write h _ _ _
  · exact fined_step h _
  · exact fined_part h _
  · exact fined_shut h _ _
  · exact fined_shut h _ _
  · exact fined_abort h _
  · exact fined_make h _
  · exact h.mono (by omega)
  · exact h.mono (by omega)
  · exact h.mono (by omega)

structure AloneX (clock : Int) (x : TP) : Prop where
  pt : x.pointed = true → x.commits = true ∧ x.stamp ≤ clock
  st : x.pointed = false → x.start = clock

structure AloneI (E : EP) : Prop where
  lock : ∀ v ∈ E.vars, v.lock = -1 ∨ v.lock = 0
  ver : ∀ v ∈ E.vars, v.ver ≤ E.clock
  tx : ∀ x, E.txs[0]? = some (some x) → AloneX E.clock x

/-- Nothing of vars, clock and thread 0 turns. -/
theorem alone_same {E E' : EP} (h : AloneI E) (hv : E'.vars = E.vars) (hc : E'.clock = E.clock) (ht : ∀ x, E'.txs[0]? = some (some x) → AloneX E.clock x) : AloneI E' :=
  ⟨by rw [hv]; exact h.lock, by rw [hv, hc]; exact h.ver, by rw [hc]; exact ht⟩

theorem alone_put {E : EP} (h : AloneI E) {t : Int} {x y : TP} (ho : E.of t = some x) (h1 : y.pointed = x.pointed) (h2 : x.commits = true → y.commits = true) (h3 : y.stamp = x.stamp) (h4 : y.start = x.start) : AloneI (E.put t y) := by
  have hg := pof_get ho
  refine alone_same h rfl rfl fun z hz => ?_
  show AloneX E.clock z
  have hz : (E.txs.set t.toNat (some y))[0]? = some (some z) := hz
  by_cases e : t.toNat = 0
  · rw [e] at hz hg
    rw [List.getElem?_set_self (lt_of_get hg.2)] at hz
    cases hz
    have k := h.tx x hg.2
    exact ⟨fun q => ⟨h2 (k.pt (by rw [← h1]; exact q)).1, by rw [h3]; exact (k.pt (by rw [← h1]; exact q)).2⟩, fun q => by rw [h4]; exact k.st (by rw [← h1]; exact q)⟩
  · rw [List.getElem?_set_ne e] at hz
    exact h.tx z hz

theorem alone_none {E : EP} (h : AloneI E) (vs : List TV) (h1 : ∀ v ∈ vs, v.lock = -1 ∨ v.lock = 0) (h2 : ∀ v ∈ vs, v.ver ≤ E.clock) (t : Nat) : AloneI { E with vars := vs, txs := E.txs.set t none } := by
  refine ⟨h1, h2, fun z hz => ?_⟩
  have hz : (E.txs.set t none)[0]? = some (some z) := hz
  by_cases e : t = 0
  · rw [e, List.getElem?_set] at hz
    simp only [if_true] at hz
    split at hz <;> cases hz
  · rw [List.getElem?_set_ne e] at hz
    exact h.tx z hz

theorem alone_look {clock start : Int} {v : TV} (h1 : v.lock = -1 ∨ v.lock = 0) (h2 : v.ver ≤ clock) (h3 : start = clock) : lookF 0 start v = 0 := by
  unfold lookF
  rw [if_neg (by rcases h1 with e | e <;> simp [e]), if_neg (by omega)]

theorem alone_valid {clock start : Int} {vars : List TV} (h1 : ∀ v ∈ vars, v.lock = -1 ∨ v.lock = 0) (h2 : ∀ v ∈ vars, v.ver ≤ clock) (h3 : start = clock) (l : List Int) (hl : ∀ n ∈ l, 0 ≤ n ∧ n < (vars.length : Int)) : validL 0 start vars l = 0 := by
  induction l with
  | nil => rfl
  | cons n r ih =>
    have hn := hl n (by simp)
    have hm : vars.getD n.toNat default ∈ vars := by
      have : n.toNat < vars.length := by omega
      simp [List.getD_eq_getElem?_getD, this]
    unfold validL
    have := alone_look (h1 _ hm) (h2 _ hm) h3
    rw [if_pos this]
    exact ih fun k hk => hl k (by simp [hk])

theorem alone_lock {vars : List TV} (h1 : ∀ v ∈ vars, v.lock = -1 ∨ v.lock = 0) {l : List Int} (hl : ∀ n ∈ l, 0 ≤ n ∧ n < (vars.length : Int)) {a : Int × Int} {vs : List TV} (h : lockF 0 vars l = some (a, vs)) :
    a = (1, 0) ∧ ∃ (n : Int), vs = vars.set n.toNat { vars.getD n.toNat default with lock := 0 } ∧ 0 ≤ n ∧ n < (vars.length : Int) := by
  induction l with
  | nil => cases h
  | cons n r ih =>
    have hn := hl n (by simp)
    have hm : vars.getD n.toNat default ∈ vars := by
      have : n.toNat < vars.length := by omega
      simp [List.getD_eq_getElem?_getD, this]
    unfold lockF at h
    split at h
    · exact ih (fun k hk => hl k (by simp [hk])) h
    · rename_i c
      rcases h1 _ hm with e | e
      · rw [if_pos e] at h
        cases h
        exact ⟨rfl, n, rfl, hn⟩
      · exact absurd e c

def noFail (x : Int) : Prop := x ≠ 32 ∧ x ≠ 33
theorem nf0 : noFail 0 := ⟨by decide, by decide⟩
theorem nf1 : noFail 1 := ⟨by decide, by decide⟩
theorem nf16 : noFail 16 := ⟨by decide, by decide⟩

theorem mem_vars_set {vars : List TV} {n : Nat} {v w : TV} (h : w ∈ vars.set n v) : w ∈ vars ∨ w = v := List.mem_or_eq_of_mem_set h

theorem alone_step {E : EP} (h : AloneI E) {b : Nat} (hF : FineP b E) : AloneI (stepF E 0).2 ∧ noFail (stepF E 0).1.2 := by
  unfold stepF
  split
  · exact ⟨h, (by first | exact nf0 | exact nf1 | exact nf16)⟩
  · rename_i x hx
    have hg := pof_get hx
    have hT := hF.tx _ x hg.2
    have hX := h.tx x hg.2
    have hg2 : E.txs[0]? = some (some x) := hg.2
    split
    · exact ⟨h, (by first | exact nf0 | exact nf1 | exact nf16)⟩
    · split
      · rename_i hp
        have hl := hT.left hp
        have hpt := hX.pt hp
        unfold putF
        split
        · rename_i e; exact absurd e hl.1
        · rename_i n r e
          have e' : x.left = n :: r := e
          have hn := hl.2 n (by rw [e']; simp)
          have hvs : (∀ v ∈ E.vars.set n.toNat ⟨(x.commit.base n).getD 0, x.commit.stamp, -1⟩, v.lock = -1 ∨ v.lock = 0) ∧ (∀ v ∈ E.vars.set n.toNat ⟨(x.commit.base n).getD 0, x.commit.stamp, -1⟩, v.ver ≤ E.clock) := by
            refine ⟨fun v hv => ?_, fun v hv => ?_⟩ <;> rcases mem_vars_set hv with h1 | rfl
            · exact h.lock v h1
            · exact .inl rfl
            · exact h.ver v h1
            · exact hpt.2
          split
          · refine ⟨?_, (by first | exact nf0 | exact nf1 | exact nf16)⟩
            have := alone_none h _ hvs.1 hvs.2 (0 : Int).toNat
            simpa [EP.put, List.set_set] using this
          · refine ⟨⟨hvs.1, hvs.2, fun z hz => ?_⟩, (by first | exact nf0 | exact nf1 | exact nf16)⟩
            simp only [EP.put, List.set_set] at hz
            have hz : (E.txs.set 0 (some { x.commit with left := r }))[0]? = some (some z) := hz
            rw [List.getElem?_set_self (lt_of_get hg2)] at hz
            cases hz
            exact ⟨fun _ => ⟨rfl, hpt.2⟩, fun q => absurd hp (by rw [show x.pointed = false from q]; decide)⟩
      · rename_i hp
        have hp : x.pointed = false := by simpa using hp
        have hst := hX.st hp
        have hkin : ∀ n ∈ keysUpto x.base E.vars.length, 0 ≤ n ∧ n < (E.vars.length : Int) := fun n hn => (mem_keysUpto.1 hn).1
        have hcm : AloneI (E.put 0 x.commit) := alone_put h hx rfl (fun _ => rfl) rfl rfl
        split
        · rename_i a vs hlk
          obtain ⟨ha, n, hvs, hn⟩ := alone_lock h.lock hkin hlk
          subst ha
          have hm : E.vars.getD n.toNat default ∈ E.vars := by
            have : n.toNat < E.vars.length := by omega
            simp [List.getD_eq_getElem?_getD, this]
          refine ⟨⟨fun v hv => ?_, fun v hv => ?_, hcm.tx⟩, (by first | exact nf0 | exact nf1 | exact nf16)⟩
          · have hv : v ∈ vs := hv
            rw [hvs] at hv
            rcases mem_vars_set hv with h1 | rfl
            · exact h.lock v h1
            · exact .inr rfl
          · have hv : v ∈ vs := hv
            rw [hvs] at hv
            show v.ver ≤ E.clock
            rcases mem_vars_set hv with h1 | rfl
            · exact h.ver v h1
            · exact h.ver (E.vars.getD n.toNat default) hm
        · have hv0 := alone_valid h.lock h.ver hst x.reads hT.reads
          rw [if_neg (by rw [hv0]; decide)]
          split
          · exact ⟨alone_none h _ h.lock h.ver _, (by first | exact nf0 | exact nf1 | exact nf16)⟩
          · refine ⟨⟨h.lock, fun v hv => ?_, fun z hz => ?_⟩, (by first | exact nf0 | exact nf1 | exact nf16)⟩
            · have := h.ver v hv
              show v.ver ≤ E.clock + 1
              omega
            · have hz : (E.txs.set 0 (some { x.commit with pointed := true, stamp := E.clock + 1, left := keysUpto x.base E.vars.length }))[0]? = some (some z) := hz
              rw [List.getElem?_set_self (lt_of_get hg2)] at hz
              cases hz
              exact ⟨fun _ => ⟨rfl, Int.le_refl _⟩, fun q => by cases q⟩

theorem alone_shut {E : EP} (h : AloneI E) (t : Int) (j : Bool) : AloneI (shutF E t j).2 ∧ (t = 0 → noFail (shutF E t j).1) := by
  unfold shutF
  split
  · rename_i x hx
    split
    · exact ⟨h, fun _ => (by first | exact nf0 | exact nf1 | exact nf16)⟩
    · refine ⟨?_, fun _ => (by first | exact nf0 | exact nf1 | exact nf16)⟩
      cases j
      · exact alone_put h (popn_get hx).1 rfl (fun q => q) rfl rfl
      · exact alone_put h (popn_get hx).1 rfl (fun q => q) rfl rfl
  · exact ⟨h, fun _ => (by first | exact nf0 | exact nf1 | exact nf16)⟩

theorem alone_does {E : EP} (h : AloneI E) {b : Nat} (hF : FineP b E) (d : Dd) (hd : ¬ (d.kind = 3 ∧ d.t ≠ 0)) : AloneI (doesF E d).2 ∧ (d.t = 0 → noFail (doesF E d).1.2) := by
  unfold doesF
  split
  · unfold beginF
    split
    · refine ⟨alone_same h rfl rfl fun z hz => ?_, fun _ => (by first | exact nf0 | exact nf1 | exact nf16)⟩
      have hz : (E.txs.set d.t.toNat (some ⟨E.clock, 0, [], [fun _ => none], false, false, []⟩))[0]? = some (some z) := hz
      by_cases e : d.t.toNat = 0
      · rw [e, List.getElem?_set] at hz
        simp only [if_true] at hz
        split at hz
        · cases hz
          exact ⟨fun q => (by cases q), fun _ => rfl⟩
        · cases hz
      · rw [List.getElem?_set_ne e] at hz
        exact h.tx z hz
    · exact ⟨h, fun _ => (by first | exact nf0 | exact nf1 | exact nf16)⟩
  · split
    · unfold readF
      split
      · exact ⟨h, fun _ => (by first | exact nf0 | exact nf1 | exact nf16)⟩
      · rename_i x hx
        have ho := popn_get hx
        have hg := pof_get ho.1
        split
        · rename_i hn
          have hin := pis_get hn
          split
          · exact ⟨h, fun _ => (by first | exact nf0 | exact nf1 | exact nf16)⟩
          · have hm : E.vars.getD d.n.toNat default ∈ E.vars := by
              have : d.n.toNat < E.vars.length := by omega
              simp [List.getD_eq_getElem?_getD, this]
            have hlook : d.t = 0 → lookF d.t x.start (E.vars.getD d.n.toNat default) = 0 := by
              intro e
              rw [e] at hg ⊢
              have hX := h.tx x hg.2
              cases hp : x.pointed with
              | true => have := (hX.pt hp).1; rw [ho.2] at this; cases this
              | false => exact alone_look (h.lock _ hm) (h.ver _ hm) (hX.st hp)
            split
            · rename_i c
              exact ⟨h, fun e => absurd (hlook e) c⟩
            · refine ⟨?_, fun _ => (by first | exact nf0 | exact nf1 | exact nf16)⟩
              show AloneI (if d.n ∈ x.reads then E else E.put d.t { x with reads := x.reads ++ [d.n] })
              split
              · exact h
              · exact alone_put h ho.1 rfl (fun q => q) rfl rfl
        · exact ⟨h, fun _ => (by first | exact nf0 | exact nf1 | exact nf16)⟩
    · split
      · unfold writeF
        split
        · rename_i x hx
          split
          · exact ⟨alone_put h (popn_get hx).1 rfl (fun q => q) rfl rfl, fun _ => (by first | exact nf0 | exact nf1 | exact nf16)⟩
          · exact ⟨h, fun _ => (by first | exact nf0 | exact nf1 | exact nf16)⟩
        · exact ⟨h, fun _ => (by first | exact nf0 | exact nf1 | exact nf16)⟩
      · split
        · rename_i k3
          have e : d.t = 0 := by
            cases Classical.em (d.t = 0) with
            | inl e => exact e
            | inr e => exact absurd ⟨k3, e⟩ hd
          rw [e]
          exact ⟨(alone_step h hF).1, fun _ => (alone_step h hF).2⟩
        · split
          · unfold partF
            split
            · rename_i x hx
              exact ⟨alone_put h (popn_get hx).1 rfl (fun q => q) rfl rfl, fun _ => (by first | exact nf0 | exact nf1 | exact nf16)⟩
            · exact ⟨h, fun _ => (by first | exact nf0 | exact nf1 | exact nf16)⟩
          · split
            · exact alone_shut h d.t true
            · split
              · exact alone_shut h d.t false
              · split
                · unfold abortF
                  split
                  · split
                    · exact ⟨h, fun _ => (by first | exact nf0 | exact nf1 | exact nf16)⟩
                    · refine ⟨alone_none h _ (fun v hv => ?_) (fun v hv => ?_) _, fun _ => (by first | exact nf0 | exact nf1 | exact nf16)⟩ <;> obtain ⟨w, hw, rfl⟩ := List.mem_map.1 hv <;> unfold unlock <;> split
                      · exact .inl rfl
                      · exact h.lock w hw
                      · exact h.ver w hw
                      · exact h.ver w hw
                  · exact ⟨h, fun _ => (by first | exact nf0 | exact nf1 | exact nf16)⟩
                · split
                  · unfold makeF
                    split
                    · refine ⟨⟨fun v hv => ?_, fun v hv => ?_, h.tx⟩, fun _ => (by first | exact nf0 | exact nf1 | exact nf16)⟩ <;> rcases List.mem_append.1 hv with h1 | h1
                      · exact h.lock v h1
                      · simp only [List.mem_singleton] at h1; subst h1; exact .inl rfl
                      · exact h.ver v h1
                      · simp only [List.mem_singleton] at h1; subst h1; exact hF.clk.1
                    · exact ⟨h, fun _ => (by first | exact nf0 | exact nf1 | exact nf16)⟩
                  · split
                    · refine ⟨h, fun e => ?_⟩
                      show noFail (validF E d.t)
                      unfold validF
                      split
                      · rename_i x hx
                        have ho := popn_get hx
                        have hg := pof_get ho.1
                        rw [e] at hg ⊢
                        have hX := h.tx x hg.2
                        cases hp : x.pointed with
                        | true => have := (hX.pt hp).1; rw [ho.2] at this; cases this
                        | false => rw [alone_valid h.lock h.ver (hX.st hp) x.reads (hF.tx _ x hg.2).reads]; exact (by first | exact nf0 | exact nf1 | exact nf16)
                      · exact (by first | exact nf0 | exact nf1 | exact nf16)
                    · exact ⟨h, fun _ => (by first | exact nf0 | exact nf1 | exact nf16)⟩

end Go.Proofs
