/- The states that Tl2Opaque keeps, in memory: a list of lists of numbers, all of which grow. -/
import Derived.Test.YteclbnjpijakbaaP18
set_option linter.unusedSimpArgs false
set_option linter.unusedVariables false
set_option maxRecDepth 8000
namespace Go.AL
variable {P : Program}
/-- awp_rounds whose rounds are walked by hand. -/
theorem awp_roundsA {c : Code} {Q : Exit → List SV → St → Prop} (I : Nat → List SV → St → Prop) {env env0 : List SV} {st : St} {n : Nat} (hl : LeEnv env env0) (h0 : I n env0 st)
    (round : ∀ n env st, I n env st → AWp P c (thenQ (fun e s => ∃ m e', m < n ∧ LeEnv e e' ∧ I m e' s) Q) env st) : AWp P (.loop c) Q env st := by
  refine awp_weaken hl (awp_loop (fun m e s => ∃ e', LeEnv e e' ∧ I m e' s) ⟨env0, ?_, h0⟩ ?_)
  · have key : ∀ l : List SV, LeEnv l l := by
      intro l
      induction l with
      | nil => trivial
      | cons x r ih => exact ⟨.inr (.inl rfl), ih⟩
    exact key env0
  · rintro m e s ⟨e', hle, hi⟩
    refine awp_weaken hle ((round m e' s hi).mono fun x env st hq => ?_)
    cases x with
    | normal =>
      obtain ⟨m', e2, h1, h2, h3⟩ := hq
      exact ⟨m', h1, e2, h2, h3⟩
    | _ => exact hq
end Go.AL
namespace Go.Proofs
open Go Go.AL

def rowSV (p : Nat × Nat) (r : List Int) : SV := .arr p.1 p.2 r.length
def rowsSV (L : List (Nat × Nat)) (S : List (List Int)) : List SV := List.zipWith rowSV L S

structure StAt (s : St) (sid sver : Nat) (L : List (Nat × Nat)) (S : List (List Int)) : Prop where
  len : L.length = S.length
  outer : s[sid]? = some (.arr sver 1 (rowsSV L S))
  inner : ∀ (k : Nat) (p : Nat × Nat) (r : List Int), L[k]? = some p → S[k]? = some r → s[p.1]? = some (.arr p.2 1 (r.map i64))
  nodup : (L.map (·.1)).Nodup
  ne : ∀ p ∈ L, p.1 ≠ sid

def StHas (sid : Nat) (L : List (Nat × Nat)) (j : Nat) : Prop := j = sid ∨ j ∈ L.map (·.1)

theorem rows_len {L : List (Nat × Nat)} {S : List (List Int)} (h : L.length = S.length) : (rowsSV L S).length = S.length := by
  unfold rowsSV; rw [List.length_zipWith]; omega
theorem rows_get {L : List (Nat × Nat)} {S : List (List Int)} {k : Nat} {p : Nat × Nat} {r : List Int} (h1 : L[k]? = some p) (h2 : S[k]? = some r) : (rowsSV L S)[k]? = some (rowSV p r) := by
  unfold rowsSV
  rw [List.getElem?_zipWith, h1, h2]
theorem rows_drop {L : List (Nat × Nat)} {S : List (List Int)} {k : Nat} {p : Nat × Nat} {r : List Int} (h1 : L[k]? = some p) (h2 : S[k]? = some r) : (rowsSV L S).drop k = rowSV p r :: (rowsSV L S).drop (k + 1) := by
  have h := rows_get h1 h2
  obtain ⟨hl, e⟩ := List.getElem?_eq_some_iff.1 h
  rw [List.drop_eq_getElem_cons hl, e]
theorem rows_set {L : List (Nat × Nat)} {S : List (List Int)} {k : Nat} {p : Nat × Nat} {r : List Int} (h1 : k < L.length) (h2 : k < S.length) : rowsSV (L.set k p) (S.set k r) = (rowsSV L S).set k (rowSV p r) := by
  unfold rowsSV
  refine List.ext_getElem? fun i => ?_
  rw [List.getElem?_zipWith]
  by_cases e : i = k
  · subst e
    rw [List.getElem?_set_self h1, List.getElem?_set_self h2, List.getElem?_set_self (by rw [List.length_zipWith]; omega)]
  · rw [List.getElem?_set_ne (Ne.symm e), List.getElem?_set_ne (Ne.symm e), List.getElem?_set_ne (Ne.symm e), List.getElem?_zipWith]
theorem rows_app {L : List (Nat × Nat)} {S : List (List Int)} (h : L.length = S.length) (p : Nat × Nat) (r : List Int) : rowsSV (L ++ [p]) (S ++ [r]) = rowsSV L S ++ [rowSV p r] := by
  unfold rowsSV
  rw [List.zipWith_append h]; rfl

theorem StAt.lt {s : St} {sid sver : Nat} {L : List (Nat × Nat)} {S : List (List Int)} (h : StAt s sid sver L S) {j : Nat} (hj : StHas sid L j) : j < s.length := by
  rcases hj with rfl | hj
  · exact lt_of_get h.outer
  · obtain ⟨p, hp, rfl⟩ := List.mem_map.1 hj
    obtain ⟨k, hk⟩ := List.getElem?_of_mem hp
    have hkS : k < S.length := by rw [← h.len]; exact lt_of_get hk
    exact lt_of_get (h.inner k p S[k] hk (List.getElem?_eq_getElem hkS))

theorem StAt.same {s s' : St} {sid sver : Nat} {L : List (Nat × Nat)} {S : List (List Int)} (h : StAt s sid sver L S) (hs : ∀ j, StHas sid L j → s'[j]? = s[j]?) : StAt s' sid sver L S :=
  ⟨h.len, (hs _ (.inl rfl)).trans h.outer, fun k p r h1 h2 => (hs _ (.inr (List.mem_map.2 ⟨p, List.mem_of_getElem? h1, rfl⟩))).trans (h.inner k p r h1 h2), h.nodup, h.ne⟩

theorem StAt.app {s : St} {sid sver : Nat} {L : List (Nat × Nat)} {S : List (List Int)} (h : StAt s sid sver L S) (l : St) : StAt (s ++ l) sid sver L S :=
  h.same fun j hj => List.getElem?_append_left (h.lt hj)

/-- A row gets one number more. -/
theorem StAt.row {s : St} {sid sver : Nat} {L : List (Nat × Nat)} {S : List (List Int)} (h : StAt s sid sver L S) {k : Nat} {p : Nat × Nat} {r : List Int} (h1 : L[k]? = some p) (h2 : S[k]? = some r) (v : Int) (ver : Nat) :
    StAt ((s.set p.1 (.arr ver 1 ((r ++ [v]).map i64))).set sid (.arr sver 1 ((rowsSV L S).set k (rowSV (p.1, ver) (r ++ [v]))))) sid sver (L.set k (p.1, ver)) (S.set k (r ++ [v])) := by
  have hk1 := lt_of_get h1
  have hk2 := lt_of_get h2
  have hpL : p ∈ L := List.mem_of_getElem? h1
  have hne := h.ne p hpL
  have hls := lt_of_get h.outer
  have hlp := lt_of_get (h.inner k p r h1 h2)
  have hmap : (L.set k (p.1, ver)).map (·.1) = L.map (·.1) := by
    rw [List.map_set]
    refine set_same ?_
    rw [List.getElem?_map, h1]; rfl
  refine ⟨by rw [List.length_set, List.length_set]; exact h.len, ?_, fun i q t g1 g2 => ?_, by rw [hmap]; exact h.nodup, fun q hq => ?_⟩
  · rw [List.getElem?_set_self (by rw [List.length_set]; exact hls), rows_set hk1 hk2]
  · by_cases e : i = k
    · subst e
      rw [List.getElem?_set_self hk1] at g1
      rw [List.getElem?_set_self hk2] at g2
      cases g1; cases g2
      show ((s.set p.1 _).set sid _)[p.1]? = _
      rw [List.getElem?_set_ne (Ne.symm hne), List.getElem?_set_self hlp]
    · rw [List.getElem?_set_ne (Ne.symm e)] at g1 g2
      have hq := h.inner i q t g1 g2
      have hqs := h.ne q (List.mem_of_getElem? g1)
      have hqp : q.1 ≠ p.1 := fun ee => by
        have a1 : (L.map (·.1))[i]? = some q.1 := by rw [List.getElem?_map, g1]; rfl
        have a2 : (L.map (·.1))[k]? = some p.1 := by rw [List.getElem?_map, h1]; rfl
        obtain ⟨b1, c1⟩ := List.getElem?_eq_some_iff.1 a1
        obtain ⟨b2, c2⟩ := List.getElem?_eq_some_iff.1 a2
        exact e ((List.getElem_inj h.nodup).1 (c1.trans (ee.trans c2.symm)))
      rw [List.getElem?_set_ne (Ne.symm hqs), List.getElem?_set_ne (Ne.symm hqp)]
      exact hq
  · have : q.1 ∈ (L.set k (p.1, ver)).map (·.1) := List.mem_map.2 ⟨q, hq, rfl⟩
    rw [hmap] at this
    obtain ⟨q', hq', e⟩ := List.mem_map.1 this
    rw [← e]; exact h.ne q' hq'

/-- One row more. -/
theorem StAt.push {s s' : St} {sid sver ver : Nat} {L : List (Nat × Nat)} {S : List (List Int)} (h : StAt s sid sver L S) {nid nver : Nat} (hn : s.length ≤ nid) {r : List Int} (h1 : s'[nid]? = some (.arr nver 1 (r.map i64)))
    (h2 : s'[sid]? = some (.arr ver 1 (rowsSV L S ++ [rowSV (nid, nver) r]))) (ho : ∀ j, j < s.length → j ≠ sid → s'[j]? = s[j]?) : StAt s' sid ver (L ++ [(nid, nver)]) (S ++ [r]) := by
  have hold : ∀ p ∈ L, p.1 < s.length := fun p hp => h.lt (.inr (List.mem_map.2 ⟨p, hp, rfl⟩))
  refine ⟨by simp [h.len], by rw [rows_app h.len]; exact h2, fun k p t g1 g2 => ?_, ?_, fun p hp => ?_⟩
  · by_cases e : k < L.length
    · rw [List.getElem?_append_left e] at g1
      rw [List.getElem?_append_left (by rw [← h.len]; exact e)] at g2
      have hp := List.mem_of_getElem? g1
      exact (ho _ (hold p hp) (h.ne p hp)).trans (h.inner k p t g1 g2)
    · rw [List.getElem?_append_right (by omega)] at g1
      rw [List.getElem?_append_right (by have := h.len; omega)] at g2
      have e1 : k - L.length = 0 := by have := lt_of_get g1; simp at this; omega
      have e2 : k - S.length = 0 := by have := h.len; omega
      rw [e1] at g1
      rw [e2] at g2
      cases g1; cases g2
      exact h1
  · rw [List.map_append, List.nodup_append]
    refine ⟨h.nodup, by simp, fun a ha b hb => ?_⟩
    obtain ⟨p, hp, rfl⟩ := List.mem_map.1 ha
    simp only [List.map_cons, List.map_nil, List.mem_singleton] at hb
    have := hold p hp
    omega
  · rcases List.mem_append.1 hp with q | q
    · exact h.ne p q
    · simp only [List.mem_singleton] at q
      subst q
      have := lt_of_get h.outer
      show nid ≠ sid
      omega

end Go.Proofs
