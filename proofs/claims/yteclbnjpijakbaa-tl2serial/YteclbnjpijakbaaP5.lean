/- The plain law of Tl2Serial: what all deeds keep. -/
import Derived.Test.YteclbnjpijakbaaP3
set_option linter.unusedSimpArgs false
set_option linter.unusedVariables false
namespace Go.Proofs
open Go Go.AL

structure SerX (clock : Int) (b : Nat) (x : TP) : Prop where
  pt : x.pointed = true → x.commits = true ∧ x.stamp ≤ clock
  one : x.commits = true → x.maps.length ≤ 1
  keys : ∃ L : List Int, L.length ≤ b ∧ ∀ m ∈ x.maps, ∀ k, (m k).isSome = true → k ∈ L
  left : x.pointed = true → x.left.length ≤ b

/-- Whose a lock is. -/
def Held (txs : List (Option TP)) (n : Nat) (lock : Int) : Prop :=
  lock = -1 ∨ ∃ (t : Nat) (x : TP), t < 8 ∧ txs[t]? = some (some x) ∧ lock = (t : Int) ∧ x.commits = true ∧ (x.pointed = true → (n : Int) ∈ x.left) ∧ (x.pointed = false → (x.base n).isSome = true)

structure SerI (b : Nat) (E : EP) : Prop where
  lock : ∀ (n : Nat) (v : TV), E.vars[n]? = some v → Held E.txs n v.lock
  ver : ∀ v ∈ E.vars, v.ver ≤ E.clock
  tx : ∀ (t : Nat) (x : TP), E.txs[t]? = some (some x) → SerX E.clock b x

theorem SerX.mono {c c' : Int} {b b' : Nat} {x : TP} (h : SerX c b x) (hc : c ≤ c') (hb : b ≤ b') : SerX c' b' x :=
  ⟨fun p => ⟨(h.pt p).1, Int.le_trans (h.pt p).2 hc⟩, h.one, by obtain ⟨L, h1, h2⟩ := h.keys; exact ⟨L, by omega, h2⟩, fun p => Nat.le_trans (h.left p) hb⟩

theorem SerI.mono {b b' : Nat} {E : EP} (h : SerI b E) (hb : b ≤ b') : SerI b' E := ⟨h.lock, h.ver, fun t x hx => (h.tx t x hx).mono (Int.le_refl _) hb⟩

theorem tx_set_ne {txs : List (Option TP)} {t u : Nat} {o : Option TP} {x : TP} (h : txs[u]? = some (some x)) (hne : u ≠ t) : (txs.set t o)[u]? = some (some x) := by
  rw [List.getElem?_set_ne (Ne.symm hne)]; exact h
theorem tx_set_get {txs : List (Option TP)} {t u : Nat} {o : Option TP} {x : TP} (h : (txs.set t o)[u]? = some (some x)) : (u = t ∧ o = some x) ∨ (u ≠ t ∧ txs[u]? = some (some x)) := by
  by_cases e : u = t
  · subst e
    rw [List.getElem?_set] at h
    simp only [if_true] at h
    split at h
    · exact .inl ⟨rfl, by simpa using h⟩
    · cases h
  · rw [List.getElem?_set_ne (Ne.symm e)] at h
    exact .inr ⟨e, h⟩

/-- A thread that commits nothing gets another transaction, that commits nothing: the locks are as they were. -/
theorem held_open {txs : List (Option TP)} {t : Nat} {o : Option TP} (ho : ∀ x, txs[t]? = some (some x) → x.commits = false) {n : Nat} {l : Int} (h : Held txs n l) : Held (txs.set t o) n l := by
  rcases h with h | ⟨u, x, h1, h2, h3, h4, h5⟩
  · exact .inl h
  · refine .inr ⟨u, x, h1, tx_set_ne h2 ?_, h3, h4, h5⟩
    rintro rfl
    rw [ho x h2] at h4; cases h4

theorem ser_put {b b' : Nat} {E : EP} (h : SerI b E) (hb : b ≤ b') {t : Int} {x y : TP} (ho : E.opn t = some x) (hy : SerX E.clock b' y) : SerI b' (E.put t y) := by
  have h1 := popn_get ho
  have hg := pof_get h1.1
  refine ⟨fun n v hv => held_open (fun z hz => ?_) (h.lock n v hv), h.ver, fun u z hz => ?_⟩
  · rw [hg.2] at hz; cases hz; exact h1.2
  · rcases tx_set_get hz with ⟨_, e⟩ | ⟨_, e⟩
    · cases e; exact hy
    · exact (h.tx u z e).mono (Int.le_refl _) hb

theorem ser_begin {b : Nat} {E : EP} (h : SerI b E) (t : Int) : SerI b (beginF E t).2 := by
  unfold beginF
  split
  · rename_i c
    refine ⟨fun n v hv => held_open (fun z hz => ?_) (h.lock n v hv), h.ver, fun u z hz => ?_⟩
    · have := c.2.2
      rw [hz] at this; cases this
    · rcases tx_set_get hz with ⟨_, e⟩ | ⟨_, e⟩
      · cases e
        exact ⟨fun p => (by cases p), fun p => (by cases p), ⟨[], Nat.zero_le _, fun m hm k hk => (by simp only [List.mem_singleton] at hm; subst hm; cases hk)⟩, fun p => (by cases p)⟩
      · exact h.tx u z e
  · exact h

theorem ser_read {b : Nat} {E : EP} (h : SerI b E) (t n : Int) : SerI b (readF E t n).2 := by
  unfold readF
  split
  · exact h
  · rename_i x hx
    have hX := h.tx _ x (pof_get (popn_get hx).1).2
    split
    · split
      · exact h
      · split
        · exact h
        · show SerI b (if n ∈ x.reads then E else E.put t { x with reads := x.reads ++ [n] })
          split
          · exact h
          · exact ser_put h (Nat.le_refl _) hx ⟨hX.pt, hX.one, hX.keys, hX.left⟩
    · exact h

theorem ser_write {b : Nat} {E : EP} (h : SerI b E) {b0 : Nat} (hF : FineP b0 E) (t n v : Int) : SerI (b + 1) (writeF E t n v).2 := by
  unfold writeF
  split
  · rename_i x hx
    have hg := (pof_get (popn_get hx).1).2
    have hX := h.tx _ x hg
    have hT := hF.tx _ x hg
    split
    · refine ser_put (b' := b + 1) h (by omega) hx ⟨hX.pt, fun p => by have := hX.one p; simpa [TP.setTop] using this, ?_, fun p => by have := hX.left p; show x.left.length ≤ _; omega⟩
      obtain ⟨L, h1, h2⟩ := hX.keys
      refine ⟨n :: L, by simpa using h1, fun m hm k hk => ?_⟩
      rcases mem_setTop hm with h3 | rfl
      · exact List.mem_cons_of_mem _ (h2 m h3 k hk)
      · unfold fmPut at hk
        split at hk
        · rename_i e; rw [e]; simp
        · exact List.mem_cons_of_mem _ (h2 x.top (top_in hT.one) k hk)
    · exact h.mono (by omega)
  · exact h.mono (by omega)

theorem ser_part {b : Nat} {E : EP} (h : SerI b E) (t : Int) : SerI b (partF E t).2 := by
  unfold partF
  split
  · rename_i x hx
    have ho := popn_get hx
    have hX := h.tx _ x (pof_get ho.1).2
    refine ser_put h (Nat.le_refl _) hx ⟨hX.pt, fun p => (by rw [ho.2] at p; cases p), ?_, hX.left⟩
    obtain ⟨L, h1, h2⟩ := hX.keys
    refine ⟨L, h1, fun m hm k hk => ?_⟩
    rcases List.mem_append.1 hm with h3 | h3
    · exact h2 m h3 k hk
    · simp only [List.mem_singleton] at h3; subst h3; cases hk
  · exact h

theorem ser_shut {b : Nat} {E : EP} (h : SerI b E) (t : Int) (j : Bool) : SerI b (shutF E t j).2 := by
  unfold shutF
  split
  · rename_i x hx
    have ho := popn_get hx
    have hX := h.tx _ x (pof_get ho.1).2
    split
    · exact h
    · rename_i c
      obtain ⟨L, h1, h2⟩ := hX.keys
      have hd : ∀ m ∈ x.drop.maps, ∀ k, (m k).isSome = true → k ∈ L := fun m hm k hk => h2 m ((List.dropLast_sublist _).subset hm) k hk
      cases j with
      | false => exact ser_put h (Nat.le_refl _) hx ⟨hX.pt, fun p => (by have p : x.commits = true := p; rw [ho.2] at p; cases p), ⟨L, h1, hd⟩, hX.left⟩
      | true =>
        refine ser_put h (Nat.le_refl _) hx ⟨hX.pt, fun p => (by have p : x.commits = true := p; rw [ho.2] at p; cases p), ⟨L, h1, fun m hm k hk => ?_⟩, hX.left⟩
        rcases mem_setTop hm with h3 | rfl
        · exact hd m h3 k hk
        · unfold fmOver at hk
          cases hf : x.top k with
          | some v => exact h2 _ (top_in (by omega)) k (by rw [hf]; rfl)
          | none =>
            rw [hf] at hk
            exact hd _ (top_in (by simp [TP.drop]; omega)) k (by simpa using hk)
  · exact h

theorem ser_abort {b : Nat} {E : EP} (h : SerI b E) (t : Int) : SerI b (abortF E t).2 := by
  unfold abortF
  split
  · rename_i x hx
    have hg := pof_get hx
    split
    · exact h
    · refine ⟨fun n v hv => ?_, fun v hv => ?_, fun u z hz => ?_⟩
      · have hv : (E.vars.map (unlock t))[n]? = some v := hv
        rw [List.getElem?_map] at hv
        cases hw : E.vars[n]? with
        | none => rw [hw] at hv; cases hv
        | some w =>
          rw [hw] at hv
          simp only [Option.map_some, Option.some.injEq] at hv
          subst hv
          unfold unlock
          split
          · exact .inl rfl
          · rename_i hne
            rcases h.lock n w hw with h1 | ⟨u, y, h1, h2, h3, h4, h5⟩
            · exact .inl h1
            · refine .inr ⟨u, y, h1, tx_set_ne h2 ?_, h3, h4, h5⟩
              intro e
              exact hne (by rw [h3]; omega)
      · obtain ⟨w, hw, rfl⟩ := List.mem_map.1 hv
        unfold unlock
        split
        · exact h.ver w hw
        · exact h.ver w hw
      · rcases tx_set_get hz with ⟨_, e⟩ | ⟨_, e⟩
        · cases e
        · exact h.tx u z e
  · exact h

theorem ser_make {b : Nat} {E : EP} (h : SerI b E) (hc : 0 ≤ E.clock) (v : Int) : SerI b (makeF E v).2 := by
  unfold makeF
  split
  · refine ⟨fun n w hw => ?_, fun w hw => ?_, h.tx⟩
    · have hw : (E.vars ++ [(⟨v, 0, -1⟩ : TV)])[n]? = some w := hw
      by_cases e : n < E.vars.length
      · rw [List.getElem?_append_left e] at hw; exact h.lock n w hw
      · rw [List.getElem?_append_right (by omega)] at hw
        have : n - E.vars.length = 0 := by
          have := (List.getElem?_eq_some_iff.1 hw).1
          simp at this; omega
        rw [this] at hw
        cases hw
        exact .inl rfl
    · rcases List.mem_append.1 hw with h1 | h1
      · exact h.ver w h1
      · simp only [List.mem_singleton] at h1; subst h1; exact hc
  · exact h

theorem keysUpto_nodup (f : FM) (n : Nat) : (keysUpto f n).Nodup := (keysUpto_sorted f n).imp fun h => by omega

theorem nodup_sub {l L : List Int} (h : l.Nodup) (hs : ∀ k ∈ l, k ∈ L) : l.length ≤ L.length := by
  induction l generalizing L with
  | nil => simp
  | cons a r ih =>
    simp only [List.nodup_cons] at h
    have ha := hs a (by simp)
    have := ih (L := L.erase a) h.2 fun k hk => by
      have hne : k ≠ a := fun e => h.1 (e ▸ hk)
      exact (List.mem_erase_of_ne hne).2 (hs k (by simp [hk]))
    rw [List.length_erase_of_mem ha] at this
    have := List.length_pos_of_mem ha
    simp only [List.length_cons]; omega

/-- The first var that is not one's own is another's, or is locked. -/
theorem lock_cases {t : Int} {vars : List TV} {l : List Int} {a : Int × Int} {vs : List TV} (h : lockF t vars l = some (a, vs)) :
    vs = vars ∨ ∃ n ∈ l, vs = vars.set n.toNat { vars.getD n.toNat default with lock := t } := by
  induction l with
  | nil => cases h
  | cons n r ih =>
    unfold lockF at h
    split at h
    · rcases ih h with e | ⟨k, hk, e⟩
      · exact .inl e
      · exact .inr ⟨k, by simp [hk], e⟩
    · split at h
      · cases h; exact .inr ⟨n, by simp, rfl⟩
      · cases h; exact .inl rfl

theorem keys_len_le {b : Nat} {x : TP} (hk : ∃ L : List Int, L.length ≤ b ∧ ∀ m ∈ x.maps, ∀ k, (m k).isSome = true → k ∈ L) (h1 : 1 ≤ x.maps.length) (n : Nat) : (keysUpto x.base n).length ≤ b := by
  obtain ⟨L, hl, hL⟩ := hk
  refine Nat.le_trans (nodup_sub (keysUpto_nodup _ _) fun k hk => hL x.base ?_ k (mem_keysUpto.1 hk).2) hl
  unfold TP.base
  simp [List.getD_eq_getElem?_getD, show 0 < x.maps.length by omega]

theorem held_commit {txs : List (Option TP)} {t : Nat} {x y : TP} (hx : txs[t]? = some (some x)) (h1 : y.commits = true) (h2 : y.pointed = x.pointed) (h3 : y.left = x.left) (h4 : y.base = x.base) {n : Nat} {l : Int} (h : Held txs n l) : Held (txs.set t (some y)) n l := by
  rcases h with h | ⟨u, z, k1, k2, k3, k4, k5, k6⟩
  · exact .inl h
  · by_cases e : u = t
    · subst e
      rw [hx] at k2; cases k2
      exact .inr ⟨u, y, k1, List.getElem?_set_self (lt_of_get hx), k3, h1, by rw [h2, h3]; exact k5, by rw [h2, h4]; exact k6⟩
    · exact .inr ⟨u, z, k1, tx_set_ne k2 e, k3, k4, k5, k6⟩

theorem ser_step {b : Nat} {E : EP} (h : SerI b E) {b0 : Nat} (hF : FineP b0 E) (t : Int) : SerI b (stepF E t).2 := by
  unfold stepF
  split
  · exact h
  · rename_i x hx
    have hg := pof_get hx
    have hX := h.tx _ x hg.2
    have hT := hF.tx _ x hg.2
    split
    · exact h
    · rename_i hone
      have hcX : SerX E.clock b x.commit := ⟨fun p => ⟨rfl, (hX.pt p).2⟩, fun _ => by show x.maps.length ≤ 1; omega, hX.keys, hX.left⟩
      have hcm : SerI b (E.put t x.commit) := ⟨fun n v hv => held_commit (y := x.commit) hg.2 rfl rfl rfl rfl (h.lock n v hv), h.ver, fun u z hz => by
        rcases tx_set_get hz with ⟨_, e⟩ | ⟨_, e⟩
        · cases e; exact hcX
        · exact h.tx u z e⟩
      split
      · rename_i hp
        have hpt := hX.pt hp
        have hlf := hT.left hp
        unfold putF
        split
        · rename_i e; exact absurd e hlf.1
        · rename_i n r e
          have e' : x.left = n :: r := e
          have hn := hlf.2 n (by rw [e']; simp)
          have hver : ∀ v ∈ E.vars.set n.toNat ⟨(x.commit.base n).getD 0, x.commit.stamp, -1⟩, v.ver ≤ E.clock := by
            intro v hv
            rcases mem_vars_set hv with h1 | rfl
            · exact h.ver v h1
            · exact hpt.2
          -- whose the locks of the others are
          have hoth : ∀ (m : Nat) (v : TV) (o : Option TP), (∀ y, o = some y → y.commits = true ∧ y.pointed = true ∧ y.left = r) → (o = none → r = []) → (E.vars.set n.toNat ⟨(x.commit.base n).getD 0, x.commit.stamp, -1⟩)[m]? = some v → Held (E.txs.set t.toNat o) m v.lock := by
            intro m v o ho hno hv
            by_cases em : m = n.toNat
            · subst em
              rw [List.getElem?_set] at hv
              simp only [if_true] at hv
              split at hv
              · cases hv; exact .inl rfl
              · cases hv
            · rw [List.getElem?_set_ne (Ne.symm em)] at hv
              rcases h.lock m v hv with k | ⟨u, z, k1, k2, k3, k4, k5, k6⟩
              · exact .inl k
              · by_cases eu : u = t.toNat
                · subst eu
                  rw [hg.2] at k2; cases k2
                  have hm := k5 hp
                  rw [e'] at hm
                  have hmr : (m : Int) ∈ r := by
                    rcases List.mem_cons.1 hm with q | q
                    · exact absurd (by omega) em
                    · exact q
                  cases o with
                  | none => rw [hno rfl] at hmr; cases hmr
                  | some y =>
                    obtain ⟨y1, y2, y3⟩ := ho y rfl
                    exact .inr ⟨t.toNat, y, k1, List.getElem?_set_self (lt_of_get hg.2), k3, y1, fun _ => by rw [y3]; exact hmr, fun q => by rw [y2] at q; cases q⟩
                · exact .inr ⟨u, z, k1, tx_set_ne k2 eu, k3, k4, k5, k6⟩
          split
          · rename_i hr
            refine ⟨fun m v hv => ?_, hver, fun u z hz => ?_⟩
            · have := hoth m v none (fun y q => by cases q) (fun _ => hr) hv
              simpa [EP.put, List.set_set] using this
            · simp only [EP.put, List.set_set] at hz
              rcases tx_set_get hz with ⟨_, q⟩ | ⟨_, q⟩
              · cases q
              · exact h.tx u z q
          · refine ⟨fun m v hv => ?_, hver, fun u z hz => ?_⟩
            · have := hoth m v (some { x.commit with left := r }) (fun y q => by cases q; exact ⟨rfl, hp, rfl⟩) (fun q => by cases q) hv
              simpa [EP.put, List.set_set] using this
            · simp only [EP.put, List.set_set] at hz
              rcases tx_set_get hz with ⟨_, q⟩ | ⟨_, q⟩
              · cases q
                have hlb := hX.left hp
                rw [e'] at hlb
                exact ⟨fun p => ⟨rfl, hpt.2⟩, hcX.one, hX.keys, fun _ => by show r.length ≤ b; simp only [List.length_cons] at hlb; omega⟩
              · exact h.tx u z q
      · rename_i hp
        have hp : x.pointed = false := by simpa using hp
        split
        · rename_i a vs hlk
          rcases lock_cases hlk with e | ⟨n, hn, e⟩
          · subst e; exact ⟨hcm.lock, hcm.ver, hcm.tx⟩
          · subst e
            have hk := mem_keysUpto.1 hn
            have hm : E.vars.getD n.toNat default ∈ E.vars := by
              have : n.toNat < E.vars.length := by omega
              simp [List.getD_eq_getElem?_getD, this]
            refine ⟨fun m v hv => ?_, fun v hv => ?_, hcm.tx⟩
            · have hv : (E.vars.set n.toNat { E.vars.getD n.toNat default with lock := t })[m]? = some v := hv
              by_cases em : m = n.toNat
              · subst em
                rw [List.getElem?_set] at hv
                simp only [if_true] at hv
                split at hv
                · cases hv
                  refine .inr ⟨t.toNat, x.commit, by omega, List.getElem?_set_self (lt_of_get hg.2), by show t = _; omega, rfl, fun q => ?_, fun _ => ?_⟩
                  · rw [show x.commit.pointed = x.pointed from rfl, hp] at q; cases q
                  · have : ((n.toNat : Nat) : Int) = n := by omega
                    rw [this]; exact hk.2
                · cases hv
              · rw [List.getElem?_set_ne (Ne.symm em)] at hv
                exact hcm.lock m v hv
            · rcases mem_vars_set hv with h1 | rfl
              · exact h.ver v h1
              · exact h.ver (E.vars.getD n.toNat default) hm
        · split
          · exact hcm
          · split
            · rename_i hk0
              refine ⟨fun m v hv => ?_, h.ver, fun u z hz => ?_⟩
              · rcases h.lock m v hv with k | ⟨u, z, k1, k2, k3, k4, k5, k6⟩
                · exact .inl k
                · refine .inr ⟨u, z, k1, tx_set_ne k2 ?_, k3, k4, k5, k6⟩
                  rintro rfl
                  rw [hg.2] at k2; cases k2
                  have hml : m < E.vars.length := (List.getElem?_eq_some_iff.1 hv).1
                  have : (m : Int) ∈ keysUpto x.base E.vars.length := mem_keysUpto.2 ⟨⟨by omega, by omega⟩, k6 hp⟩
                  rw [hk0] at this; cases this
              · rcases tx_set_get hz with ⟨_, q⟩ | ⟨_, q⟩
                · cases q
                · exact h.tx u z q
            · refine ⟨fun m v hv => ?_, fun v hv => ?_, fun u z hz => ?_⟩
              · rcases h.lock m v hv with k | ⟨u, z, k1, k2, k3, k4, k5, k6⟩
                · exact .inl k
                · by_cases eu : u = t.toNat
                  · subst eu
                    rw [hg.2] at k2; cases k2
                    have hml : m < E.vars.length := (List.getElem?_eq_some_iff.1 hv).1
                    exact .inr ⟨t.toNat, _, k1, List.getElem?_set_self (lt_of_get hg.2), k3, rfl, fun _ => mem_keysUpto.2 ⟨⟨by omega, by omega⟩, k6 hp⟩, fun q => by cases q⟩
                  · exact .inr ⟨u, z, k1, tx_set_ne k2 eu, k3, k4, k5, k6⟩
              · have := h.ver v hv
                show v.ver ≤ E.clock + 1
                omega
              · rcases tx_set_get hz with ⟨_, q⟩ | ⟨_, q⟩
                · cases q
                  exact ⟨fun _ => ⟨rfl, Int.le_refl _⟩, hcX.one, hX.keys, fun _ => keys_len_le hX.keys hT.one _⟩
                · exact (h.tx u z q).mono (by show E.clock ≤ E.clock + 1; omega) (Nat.le_refl _)

theorem ser_does {b : Nat} {E : EP} (h : SerI b E) {b0 : Nat} (hF : FineP b0 E) (d : Dd) : SerI (b + 1) (doesF E d).2 := by
  unfold doesF
  repeat' split
  · exact (ser_begin h _).mono (by omega)
  · exact (ser_read h _ _).mono (by omega)
  · exact ser_write h hF _ _ _
  · exact (ser_step h hF _).mono (by omega)
  · exact (ser_part h _).mono (by omega)
  · exact (ser_shut h _ _).mono (by omega)
  · exact (ser_shut h _ _).mono (by omega)
  · exact (ser_abort h _).mono (by omega)
  · exact (ser_make h hF.clk.1 _).mono (by omega)
  · exact h.mono (by omega)
  · exact h.mono (by omega)

theorem ser_new : SerI 0 EP.new := ⟨fun n v hv => (by cases hv), fun v hv => (by cases hv), fun t x hx => by
  simp only [EP.new, List.getElem?_replicate] at hx
  split at hx <;> cases hx⟩

end Go.Proofs
