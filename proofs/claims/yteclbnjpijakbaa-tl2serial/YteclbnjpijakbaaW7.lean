/- maps.Copy. -/
import Derived.Test.YteclbnjpijakbaaW6
set_option linter.unusedSimpArgs false
set_option maxRecDepth 8000
namespace Go.Proofs
open Go Go.AL

theorem pm_getD {S : PMap} {j : Nat} (h : j < S.length) : (pmEs S).getD j (default, .any) = (.int .i64 (S.getD j default).1, i64 (S.getD j default).2) := by
  simp [pmEs, List.getD_eq_getElem?_getD, h]

theorem pmGet_mem {S : PMap} (hk : (S.map (·.1)).Nodup) {j : Nat} (h : j < S.length) : pmGet S (S.getD j default).1 = some (S.getD j default).2 := by
  induction S generalizing j with
  | nil => cases h
  | cons p r ih =>
    simp only [List.map_cons, List.nodup_cons] at hk
    cases j with
    | zero => simp [pmGet]
    | succ j =>
      have hj : j < r.length := by simpa using h
      have hm : (r.getD j default).1 ∈ r.map (·.1) := by
        refine List.mem_map.2 ⟨r.getD j default, ?_, rfl⟩
        simp [List.getD_eq_getElem?_getD, hj]
      have hne : ¬ p.1 = (r.getD j default).1 := fun e => hk.1 (e ▸ hm)
      have := ih hk.2 hj
      simp only [List.getD_cons_succ]
      unfold pmGet at this ⊢
      have hb : (p.1 == (r.getD j default).1) = false := by simpa using hne
      rw [List.find?_cons, hb]
      exact this

theorem pmGet_none {S : PMap} {k : Int} (h : ¬ ∃ j, j < S.length ∧ (S.getD j default).1 = k) : pmGet S k = none := by
  unfold pmGet
  rw [Option.map_eq_none_iff, List.find?_eq_none]
  intro p hp
  obtain ⟨j, hj⟩ := List.getElem?_of_mem hp
  have hlt := (List.getElem?_eq_some_iff.1 hj).1
  simp only [beq_iff_eq]
  intro e
  exact h ⟨j, hlt, by rw [List.getD_eq_getElem?_getD, hj]; exact e⟩

set_option maxHeartbeats 4000000 in
theorem copy_c {st : St} {dst src : Nat} {D S : PMap} (hd : st[dst]? = some (.map (pmEs D))) (hs : st[src]? = some (.map (pmEs S))) (hne : dst ≠ src) (kd : (D.map (·.1)).Nodup) (ks : (S.map (·.1)).Nodup) (K : SV → St → Prop)
    (h : ∀ D', (D'.map (·.1)).Nodup → pmGet D' = (fun k => (pmGet S k).or (pmGet D k)) → K (.tuple []) (st.set dst (.map (pmEs D')))) : ACalls Try.prog 74 [.mp dst, .mp src] K st := by
  have hlt := lt_of_get hd
  have hself : st = st.set dst (.map (pmEs D)) := by
    refine List.ext_getElem? fun i => ?_
    by_cases e : dst = i
    · subst e; rw [List.getElem?_set_self hlt, hd]
    · rw [List.getElem?_set_ne e]
  refine acalls_goA Try.func74 rfl Try.results74 Try.ntmps74 ?_
  refine awp_rangeMap [] (x := 1) (a1 := 6) (a2 := 7) (d1 := 8) (d2 := 9) (d3 := 10) (X := 0) (Y := 1) (mid := src) (es := pmEs S) ⟨rfl, rfl, rfl⟩ ⟨rfl, rfl, rfl⟩ ⟨rfl, rfl, rfl⟩ ⟨rfl, rfl, rfl⟩ ⟨rfl, rfl, rfl⟩ rfl (by decide) (by decide) (by decide) (by simp) rfl hs (by rw [Try.amap92]; rfl)
    (fun it V e s => ∃ D', (D'.map (·.1)).Nodup ∧ (∀ k, ((∃ j, j ∈ V ∧ (S.getD j default).1 = k) → pmGet D' k = pmGet S k) ∧ ((¬ ∃ j, j ∈ V ∧ (S.getD j default).1 = k) → pmGet D' k = pmGet D k)) ∧
      s = st.set dst (.map (pmEs D')) ∧ e = [.mp dst, .mp src, .any, .any, .any, .any, .any, it, .any, .any, .any, .any, .any, .any, .any, .any]) ?_ ?_ ?_ ?_
  · intro it
    refine ⟨_, ?_, D, kd, fun k => ⟨?_, fun _ => rfl⟩, hself, rfl⟩
    · show LeEnv [.mp dst, .mp src, .any, .any, .any, .any, .mp src, it, .any, .any, .any, .any, .any, .any, .any, .any] _
      repeat (first | exact leEnv_nil | refine leEnv_any _ ?_ | refine leEnv_same _ ?_ | refine leEnv_norm _ ?_)
    · rintro ⟨j, hj, _⟩; cases hj
  · rintro it V e s ⟨D', _, _, rfl, rfl⟩
    exact ⟨by rw [List.getElem?_set_ne hne]; exact hs, rfl, rfl⟩
  · rintro it V e s ⟨D', k1, k2, rfl, rfl⟩ hall _ hV
    have key := h D' k1 (by
      funext k
      by_cases c : ∃ j, j ∈ V ∧ (S.getD j default).1 = k
      · rw [(k2 k).1 c]
        obtain ⟨j, hj, rfl⟩ := c
        rw [pmGet_mem ks (by simpa [pmEs] using hV j hj)]; rfl
      · have hn : pmGet S k = none := pmGet_none (by
          rintro ⟨j, hj, e⟩
          exact c ⟨j, hall j (by simpa [pmEs] using hj), e⟩)
        rw [(k2 k).2 c, hn]
        rfl)
    simp only [go_sem, reduceCtorEq, Nat.reduceAdd, Nat.reduceMul, Nat.reduceLeDiff, Nat.reduceLT, Int.reduceLE, Int.reduceLT, Int.reduceEq, Nat.reduceBEq, Nat.reduceEqDiff]
    exact key
  · rintro it V j e s ⟨D', k1, k2, rfl, rfl⟩ hnd hV hj hjV
    have hj' : j < S.length := by simpa [pmEs] using hj
    rw [pm_getD hj']
    have hp := pmGet_mem ks hj'
    generalize hp' : S.getD j default = p at hp
    have m := map_facts (st := st.set dst (.map (pmEs D'))) (List.getElem?_set_self hlt)
    have hi := pm_int D'
    simp only [go_sem, reduceCtorEq, Nat.reduceAdd, Nat.reduceMul, Nat.reduceLeDiff, Nat.reduceLT, Int.reduceLE, Int.reduceLT, Int.reduceEq, Nat.reduceBEq, Nat.reduceEqDiff, m.1, List.set_cons_succ, List.set_cons_zero]
    rw [put_int Try.amap92 m.2 hi, pm_put, List.set_set]
    refine ⟨_, ?_, pmPut D' p.1 p.2, pm_keys_put k1 _ _, fun k => ?_, rfl, rfl⟩
    · repeat (first | exact leEnv_nil | refine leEnv_any _ ?_ | refine leEnv_same _ ?_ | refine leEnv_norm _ ?_)
    · rw [pmGet_put, (show fmPut (pmGet D') p.1 p.2 k = if k = p.1 then some p.2 else pmGet D' k from rfl)]
      constructor
      · rintro ⟨j', hj', e⟩
        by_cases c : k = p.1
        · rw [if_pos c, c, hp]
        · rw [if_neg c]
          refine (k2 k).1 ⟨j', ?_, e⟩
          rcases List.mem_append.1 hj' with h6 | h6
          · exact h6
          · simp only [List.mem_singleton] at h6
            subst h6
            rw [hp'] at e
            exact absurd e.symm c
      · intro hn
        have c : ¬ k = p.1 := fun e => hn ⟨j, by simp, by rw [hp']; exact e.symm⟩
        rw [if_neg c]
        exact (k2 k).2 fun ⟨j', q1, q2⟩ => hn ⟨j', List.mem_append_left _ q1, q2⟩

end Go.Proofs
