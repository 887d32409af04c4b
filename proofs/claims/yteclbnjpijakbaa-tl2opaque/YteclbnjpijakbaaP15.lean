/- The plain law of Tl2Opaque: all deeds. -/
import Derived.Test.YteclbnjpijakbaaP14
set_option linter.unusedSimpArgs false
set_option linter.unusedVariables false
namespace Go.Proofs
open Go Go.AL

theorem lookF_ok {t start : Int} {v : TV} (h : ¬ lookF t start v ≠ 0) : (v.lock = -1 ∨ v.lock = t) ∧ v.ver ≤ start := by
  unfold lookF at h
  by_cases c : v.lock ≠ -1 ∧ v.lock ≠ t
  · rw [if_pos c] at h; exact absurd (by decide) h
  · rw [if_neg c] at h
    by_cases c2 : v.ver > start
    · rw [if_pos c2] at h; exact absurd (by decide) h
    · exact ⟨by by_cases e : v.lock = -1
                · exact .inl e
                · exact .inr (Classical.byContradiction fun q => c ⟨e, q⟩), by omega⟩

theorem opq_read {E : EP} {S : List (List Int)} {seen : List SN} (h : OpqI E S) (hs : SeenI E S seen) {b : Nat} (hS : SerI b E) (t n : Int) {own : Bool} (hown : ∀ x, E.opn t = some x → own = (topGet x.maps n).isSome) :
    OpqI (readF E t n).2 S ∧ SeenI (readF E t n).2 S (if (readF E t n).1.2 ≠ 0 then seen else if own = true then seen else seen ++ [⟨t, n, (readF E t n).1.1⟩]) := by
  unfold readF
  split
  · exact ⟨h, hs⟩
  · rename_i x hx
    have hox := hown x hx
    have h1 := popn_get hx
    have hg := pof_get h1.1
    have hq := opn_quiet hS hx
    split
    · rename_i hin
      have hin' : 0 ≤ n ∧ n < (E.vars.length : Int) := by unfold EP.is at hin; simpa using hin
      split
      · rename_i v hv
        rw [hv] at hox
        have hox : own = true := hox
        rw [hox]; exact ⟨h, hs⟩
      · rename_i hv
        rw [hv] at hox
        have hox : own = false := hox
        rw [hox]
        split
        · rename_i hl
          exact ⟨h, hs⟩
        · rename_i hl
          obtain ⟨hlk, hver⟩ := lookF_ok hl
          have hst := h.start _ x hg.2
          have hlen := h.len
          have hval : stG S x.start.toNat n.toNat = (E.vars.getD n.toNat default).val := by
            rcases h.vals n.toNat (by omega) with ⟨u, y, k1, k2, k3⟩ | k
            · have k4 := h.lock u y k1 k2 _ k3
              unfold varG at k4
              rcases hlk with e | e
              · rw [e] at k4; omega
              · rw [e] at k4
                have eu : u = t.toNat := by omega
                rw [eu, hg.2] at k1; cases k1
                rw [hq] at k2; cases k2
            · exact k _ (by unfold varG; omega) (by omega)
          have h2 : ∀ (E' : EP), (∃ y, E'.txs[t.toNat]? = some (some y) ∧ y.start = x.start) → E'.vars.length = E.vars.length → SeenI E' S seen → SeenI E' S (seen ++ [⟨t, n, (E.vars.getD n.toNat default).val⟩]) := by
            rintro E' ⟨y, hy, hys⟩ hl' hs'
            refine ⟨fun s hm => ?_⟩
            rcases List.mem_append.1 hm with q | q
            · exact hs'.all s q
            · simp only [List.mem_singleton] at q
              subst q
              exact ⟨hg.1.1, hg.1.2, hin'.1, by rw [hl']; exact hin'.2, y, hy, by rw [hys]; exact hval⟩
          show OpqI (if n ∈ x.reads then E else E.put t { x with reads := x.reads ++ [n] }) S ∧ SeenI (if n ∈ x.reads then E else E.put t { x with reads := x.reads ++ [n] }) S (seen ++ [⟨t, n, (E.vars.getD n.toNat default).val⟩])
          by_cases hr : n ∈ x.reads
          · rw [if_pos hr]
            exact ⟨h, h2 E ⟨x, hg.2, rfl⟩ rfl hs⟩
          · rw [if_neg hr]
            exact ⟨opq_put h hS hx rfl rfl, h2 _ ⟨{ x with reads := x.reads ++ [n] }, List.getElem?_set_self (lt_of_get hg.2), rfl⟩ rfl (seen_put hs h1.1 rfl)⟩
    · exact ⟨h, hs⟩

def opqF (a : Int × Int) (d : Dd) (own : Bool) (puts : List PW) (S : List (List Int)) (seen : List SN) : List (List Int) × List SN :=
  if a.2 ≠ 0 then (S, seen) else
  if d.kind = 0 ∨ d.kind = 7 then (S, withoutL seen d.t) else
  if d.kind = 1 then (S, if own = true then seen else seen ++ [⟨d.t, d.n, a.1⟩]) else
  if d.kind = 8 then (S.map (· ++ [d.v]), seen) else
  if d.kind = 3 then (if a.1 = 2 then S ++ [nextS S puts] else S, if a.1 = 4 then withoutL seen d.t else seen) else (S, seen)

theorem step_err0 (E : EP) (t : Int) : (stepF E t).1.1 = 0 ∨ (stepF E t).1.2 = 0 := by
  unfold stepF
  split
  · exact .inl rfl
  · split
    · exact .inl rfl
    · split
      · exact .inr rfl
      · split
        · rename_i a vs e
          rcases (lock_cases2 e).1 with q | q
          · rw [q]; exact .inr rfl
          · rw [q]; exact .inl rfl
        · split
          · exact .inl rfl
          · split
            · exact .inr rfl
            · exact .inr rfl

theorem step_err {E : EP} {t : Int} (h : (stepF E t).1.2 ≠ 0) : (stepF E t).1.1 = 0 := (step_err0 E t).resolve_right h

theorem opq_does {E : EP} {S : List (List Int)} {seen : List SN} (h : OpqI E S) (hs : SeenI E S seen) {b b0 : Nat} (hS : SerI b E) (hF : FineP b0 E) (hV : VerI E) (d : Dd) {own : Bool} {puts : List PW}
    (hown : d.kind = 1 → ∀ x, E.opn d.t = some x → own = (topGet x.maps d.n).isSome)
    (hputs : ∀ x, E.of d.t = some x → puts.map (·.n) = keysUpto x.base E.vars.length ∧ ∀ p ∈ puts, (x.base p.n).getD 0 = p.v) :
    OpqI (doesF E d).2 (opqF (doesF E d).1 d own puts S seen).1 ∧ SeenI (doesF E d).2 (opqF (doesF E d).1 d own puts S seen).1 (opqF (doesF E d).1 d own puts S seen).2 := by
  unfold doesF
  by_cases k0 : d.kind = 0
  · simp only [k0, if_true]
    unfold beginF
    split
    · rename_i c
      unfold opqF
      simp only [ne_eq, not_true_eq_false, if_false, k0, true_or, if_true]
      have hno : ∀ x, E.txs[d.t.toNat]? = some (some x) → False := fun x hx => by have := c.2.2; rw [hx] at this; cases this
      refine ⟨opq_quiet h (t := d.t.toNat) (o := some _) rfl rfl (fun n => ⟨rfl, rfl⟩) (fun n => .inl rfl) rfl (fun x hx => (hno x hx).elim) (fun x hx => ?_), seen_gone hs c.1 (o := some _) (Nat.le_refl _) rfl⟩
      cases hx
      exact ⟨rfl, hF.clk.1, Int.le_refl _⟩
    · exact ⟨h, hs⟩
  by_cases k7 : d.kind = 7
  · simp only [k7, reduceCtorEq, if_false, if_true, show ¬ (7 : Int) = 0 by decide, show ¬ (7 : Int) = 1 by decide, show ¬ (7 : Int) = 2 by decide, show ¬ (7 : Int) = 3 by decide, show ¬ (7 : Int) = 4 by decide, show ¬ (7 : Int) = 5 by decide, show ¬ (7 : Int) = 6 by decide]
    unfold abortF
    split
    · rename_i x hx
      have hg := pof_get hx
      split
      · exact ⟨h, hs⟩
      · rename_i hp
        unfold opqF
        simp only [ne_eq, not_true_eq_false, if_false, k7, or_true, if_true]
        have hvl : ∀ n, varG (E.vars.map (unlock d.t)) n = if n < E.vars.length then unlock d.t (varG E.vars n) else default := fun n => by
          unfold varG
          simp only [List.getD_eq_getElem?_getD, List.getElem?_map]
          by_cases e : n < E.vars.length
          · rw [if_pos e, List.getElem?_eq_getElem e]; rfl
          · rw [if_neg e, List.getElem?_eq_none (by omega)]; rfl
        have hvd : ∀ n, ¬ n < E.vars.length → varG E.vars n = default := fun n hn => by
          unfold varG
          rw [List.getD_eq_getElem?_getD, List.getElem?_eq_none (by omega)]; rfl
        refine ⟨opq_quiet h (t := d.t.toNat) (o := none) rfl (by show (E.vars.map _).length = _; rw [List.length_map]) (fun n => ?_) (fun n => ?_) rfl (fun y hy => ?_) (fun y hy => by cases hy), seen_gone hs hg.1.1 (o := none) (by show _ ≤ (E.vars.map _).length; rw [List.length_map]; exact Nat.le_refl _) rfl⟩
        · show (varG (E.vars.map (unlock d.t)) n).val = _ ∧ (varG (E.vars.map (unlock d.t)) n).ver = _
          rw [hvl]
          split
          · unfold unlock; split <;> exact ⟨rfl, rfl⟩
          · rename_i e; rw [hvd n e]; exact ⟨rfl, rfl⟩
        · show (varG (E.vars.map (unlock d.t)) n).lock = _ ∨ _
          rw [hvl]
          split
          · unfold unlock
            split
            · rename_i e; exact .inr (.inr (by rw [e]; omega))
            · exact .inl rfl
          · rename_i e; rw [hvd n e]; exact .inl rfl
        · rw [hg.2] at hy; cases hy; simpa using hp
    · exact ⟨h, hs⟩
  by_cases k1 : d.kind = 1
  · have := opq_read h hs hS d.t d.n (own := own) (hown k1)
    simp only [k1, if_true, if_false, show ¬ (1 : Int) = 0 by decide]
    unfold opqF
    simp only [k1, show ¬ ((1 : Int) = 0 ∨ (1 : Int) = 7) by decide, if_false, if_true]
    by_cases e : (readF E d.t d.n).1.2 ≠ 0
    · simp only [if_pos e] at this ⊢; exact this
    · simp only [if_neg e] at this ⊢; exact this
  have k07 : ¬ (d.kind = 0 ∨ d.kind = 7) := fun q => q.elim k0 k7
  by_cases k8 : d.kind = 8
  · have hmk := opq_make h hs hF d.v
    simp only [k8, if_true, if_false, show ¬ (8 : Int) = 0 by decide, show ¬ (8 : Int) = 1 by decide, show ¬ (8 : Int) = 2 by decide, show ¬ (8 : Int) = 3 by decide, show ¬ (8 : Int) = 4 by decide, show ¬ (8 : Int) = 5 by decide, show ¬ (8 : Int) = 6 by decide, show ¬ (8 : Int) = 7 by decide]
    unfold makeF
    split
    · unfold opqF
      simp only [ne_eq, not_true_eq_false, if_false, k8, show ¬ ((8 : Int) = 0 ∨ (8 : Int) = 7) by decide, show ¬ (8 : Int) = 1 by decide, if_true]
      exact hmk
    · exact ⟨h, hs⟩
  by_cases k3 : d.kind = 3
  · have hst := opq_step h hs hS hF hV d.t puts hputs
    have herr := @step_err E d.t
    simp only [k3, if_true, if_false, show ¬ (3 : Int) = 0 by decide, show ¬ (3 : Int) = 1 by decide, show ¬ (3 : Int) = 2 by decide]
    unfold opqF
    simp only [k3, show ¬ ((3 : Int) = 0 ∨ (3 : Int) = 7) by decide, show ¬ (3 : Int) = 1 by decide, show ¬ (3 : Int) = 8 by decide, if_false, if_true]
    obtain ⟨a, ha⟩ : ∃ a, a = (stepF E d.t).1 := ⟨_, rfl⟩
    rw [← ha] at hst herr ⊢
    by_cases e : a.2 ≠ 0
    · have e1 := herr e
      rw [if_pos e]
      rw [if_neg (fun q => by rw [q] at e1; cases e1), if_neg (fun q => by rw [q] at e1; cases e1)] at hst
      exact hst
    · rw [if_neg e]
      have e : a.2 = 0 := by simpa using e
      have e2 : (a = (2, 0)) = (a.1 = 2) := propext ⟨fun q => by rw [q], fun q => Prod.ext q e⟩
      have e4 : (a = (4, 0)) = (a.1 = 4) := propext ⟨fun q => by rw [q], fun q => Prod.ext q e⟩
      simp only [e2, e4] at hst
      exact hst
  have hoth : ∀ a, opqF a d own puts S seen = (S, seen) := fun a => by
    unfold opqF
    rw [if_neg k07, if_neg k1, if_neg k8, if_neg k3]
    split <;> rfl
  simp only [hoth, if_neg k0, if_neg k1, if_neg k3, if_neg k7, if_neg k8]
  have hput : ∀ (x y : TP), E.opn d.t = some x → y.pointed = x.pointed → y.start = x.start → OpqI (E.put d.t y) S ∧ SeenI (E.put d.t y) S seen := fun x y hx q1 q2 => ⟨opq_put h hS hx q1 q2, seen_put hs (popn_get hx).1 q2⟩
  split
  · unfold writeF
    split
    · rename_i x hx
      split
      · exact hput x _ hx rfl rfl
      · exact ⟨h, hs⟩
    · exact ⟨h, hs⟩
  split
  · unfold partF
    split
    · rename_i x hx; exact hput x _ hx rfl rfl
    · exact ⟨h, hs⟩
  split
  · unfold shutF
    split
    · rename_i x hx
      split
      · exact ⟨h, hs⟩
      · exact hput x _ hx rfl rfl
    · exact ⟨h, hs⟩
  split
  · unfold shutF
    split
    · rename_i x hx
      split
      · exact ⟨h, hs⟩
      · exact hput x _ hx rfl rfl
    · exact ⟨h, hs⟩
  split <;> exact ⟨h, hs⟩

end Go.Proofs
