/- The harness: Tl2Alone. -/
import Derived.Test.YteclbnjpijakbaaP3
set_option linter.unusedSimpArgs false
set_option linter.unusedVariables false
set_option maxRecDepth 8000
namespace Go.Proofs
open Go Go.AL

theorem fine_makes : ∀ k, FineP k (makesF k)
  | 0 => fine_new
  | k + 1 => fine_make (fine_makes k) _
theorem fined_makes : ∀ k, FineD k (makesR k)
  | 0 => fined_new
  | k + 1 => fined_make (fined_makes k) _
theorem alone_new : AloneI EP.new := ⟨fun v hv => (by cases hv), fun v hv => (by cases hv), fun x hx => (by cases hx)⟩
theorem alone_makes : ∀ k, AloneI (makesF k)
  | 0 => alone_new
  | k + 1 => (alone_does (alone_makes k) (fine_makes k) ⟨8, 0, 0, 10 + k⟩ (by simp)).1

/-- What a deed leaves behind. -/
theorem does_keep {st s : St} {E E' : EG} {R R' : RG} (o1 : ∀ j, j < st.length → ¬ E.has j → ¬ R.has j → s[j]? = st[j]?) {j : Nat} (h : j < st.length) (hE : ∀ j, E.has j → j ≠ st.length - 1) (hR : ∀ j, R.has j → j ≠ st.length - 1) (hj : j = st.length - 1) : s[j]? = st[j]? :=
  o1 j h (fun e => hE j e hj) (fun e => hR j e hj)

theorem dd_getD {l : List Dd} {k : Nat} (h : k < l.length) : (l.map ddSV).getD k .any = ddSV (l.getD k default) := by simp [List.getD_eq_getElem?_getD, h]

set_option maxHeartbeats 8000000 in
theorem alone_law_c (l : List Dd) (hl : l.length ≤ 9223372036854775807) (K : SV → St → Prop) (st : St) (h : ∀ s, K (.sc (.bool true)) s) : ACalls Try.prog 4 [.slice .imm 4 (l.map ddSV)] K st := by
  refine acalls_go (M := []) Try.func4 rfl Try.results4 Try.ntmps4 ?_
  have hb := @hbegin_c st
  simp -implicitDefEqProofs only [go_sem, reduceCtorEq, Nat.reduceAdd, Nat.reduceMul, Nat.reduceLeDiff, Nat.reduceLT, Int.reduceLE, Int.reduceLT, Int.reduceEq, Nat.reduceBEq, Nat.reduceEqDiff]
  refine hb _ fun s0 E0 R0 hB0 a0 r0 => ?_
  have f0 : FineP 4 E0.abs := by rw [a0]; exact fine_makes 4
  have g0 : FineD 4 R0.abs := by rw [r0]; exact fined_makes 4
  have i0 : AloneI E0.abs := by rw [a0]; exact alone_makes 4
  simp -implicitDefEqProofs only [go_sem, reduceCtorEq, Nat.reduceAdd, Nat.reduceMul, Nat.reduceLeDiff, Nat.reduceLT, Int.reduceLE, Int.reduceLT, Int.reduceEq, Nat.reduceBEq, Nat.reduceEqDiff]
  refine awp_rounds [] (fun m e s => ∃ (k : Nat) (E : EG) (R : RG), k + m = 60 ∧ Both s E R ∧ E.id = E0.id ∧ R.id = R0.id ∧ FineP (4 + k) E.abs ∧ FineD (4 + k) R.abs ∧ AloneI E.abs ∧
    e = [.slice .imm 4 (l.map ddSV), .any, .any, .ptr E0.id 0, .ptr R0.id 0, i64 k, .any, .any, .any, .any, .any, .any, .any, .any, .any, .any, .any, .any, .any, .any, .any, .any, .any, .any, .any, .any, .any, .any, .any, .any, .any, .any, .any, .any, .any, .any, .any, .any, .any, .any, .any, .any, .any, .any, .any, .any, .any, .any, .any, .any, .any, .any, .any, .any, .any, .any, .any, .any]) (n := 60) ?_ ⟨0, E0, R0, by omega, hB0, rfl, rfl, f0, g0, i0, rfl⟩ ?_
  · repeat (first | exact leEnv_nil | refine leEnv_any _ ?_ | refine leEnv_same _ ?_ | refine leEnv_norm _ ?_)
  rintro m e s ⟨k, E, R, hkm, hB, e1, r1, hf, hg, hi, rfl⟩
  by_cases c : k < l.length ∧ k < 60
  · have c1 : (k : Int) < (l.length : Int) := by omega
    have c2 : (k : Int) < 60 := by omega
    have hw := wrapS k (by omega)
    obtain ⟨d, hd⟩ : ∃ d, d = l.getD k default := ⟨_, rfl⟩
    have hgd := dd_getD c.1
    rw [← hd] at hgd
    have hgd' : (l.map ddSV).getD k .any = .agg [i64 d.kind, i64 d.t, i64 d.n, i64 d.v] := hgd
    obtain ⟨s1, hs1⟩ : ∃ s1, s1 = s ++ [Ob.cells [i64 d.kind, i64 d.t, i64 d.n, i64 d.v]] := ⟨_, rfl⟩
    have hse := hs1.symm
    have hB1 : Both s1 E R := by rw [hs1]; exact hB.app _
    have hbx : s1[s.length]? = some (.cells [i64 d.kind, i64 d.t, i64 d.n, i64 d.v]) := by rw [hs1]; simp
    have bf := cells_facts hbx
    have hnE : ¬ E.has s.length := fun e => by have := hB.eng.has_lt e; omega
    have hnR : ¬ R.has s.length := fun e => by have := hB.ref.has_lt e; omega
    have hl1 : s.length < s1.length := lt_of_get hbx
    have hwf : IntKind.i64.wrap ((k : Int) + 1) = ((k + 1 : Nat) : Int) := hw
    by_cases k3 : d.kind = 3 ∧ d.t ≠ 0
    · have z1 : (d.kind == 3) = true := by simp [k3.1]
      have z2 : (d.t != 0) = true := by simpa using k3.2
      simp -implicitDefEqProofs only [go_sem, reduceCtorEq, Nat.reduceAdd, Nat.reduceMul, Nat.reduceLeDiff, Nat.reduceLT, Int.reduceLE, Int.reduceLT, Int.reduceEq, Nat.reduceBEq, Nat.reduceEqDiff, c1, c2, hgd', hse, bf.1, bf.2.1, bf.2.2, z1, z2, hw]
      refine ⟨m - 1, _, by omega, ?_, k + 1, E, R, by omega, hB1, e1, r1, hf.mono (by omega), hg.mono (by omega), hi, rfl⟩
      repeat (first | exact leEnv_nil | refine leEnv_any _ ?_ | refine leEnv_same _ ?_ | refine leEnv_norm _ ?_)
    · have hdd := alone_does hi hf d k3
      have hdc := does_c hB1 (hf.fine hB1.eng (by omega)) (hg.fine (by omega)) d (hg.done d.t)
      rw [e1, r1] at hdc
      have fin : ∀ (s2 : St) (E2 : EG) (R2 : RG), Both s2 E2 R2 → E2.id = E0.id → R2.id = R0.id → E2.abs = (doesF E.abs d).2 → R2.abs = (doesR R.abs d).2 →
          ∀ (x y : Ob), Both (s2 ++ [x, y]) E2 R2 ∧ E2.id = E0.id ∧ R2.id = R0.id ∧ FineP (4 + (k + 1)) E2.abs ∧ FineD (4 + (k + 1)) R2.abs ∧ AloneI E2.abs :=
        fun s2 E2 R2 q1 q2 q3 q4 q5 x y => ⟨q1.app _, q2, q3, by rw [q4]; exact fine_does hf d, by rw [q5]; exact fined_does hg d, by rw [q4]; exact hdd.1⟩
      obtain ⟨a, ha⟩ : ∃ a, a = (doesF E.abs d).1 := ⟨_, rfl⟩
      obtain ⟨b, hb'⟩ : ∃ b, b = (doesR R.abs d).1 := ⟨_, rfl⟩
      rw [← ha] at hdd
      rw [← ha, ← hb'] at hdc
      have hz : d.t = 0 → (a.2 == 32) = false ∧ (a.2 == 33) = false := fun e => ⟨by simpa using (hdd.2 e).1, by simpa using (hdd.2 e).2⟩
      by_cases k1 : d.kind = 3
      · have ht : d.t = 0 := by
          cases Classical.em (d.t = 0) with
          | inl e => exact e
          | inr e => exact absurd ⟨k1, e⟩ k3
        have z1 : (d.kind == 3) = true := by simp [k1]
        have z2 : (d.t != 0) = false := by simp [ht]
        have z3 : (d.t == 0) = true := by simp [ht]
        obtain ⟨z4, z5⟩ := hz ht
        simp -implicitDefEqProofs only [go_sem, reduceCtorEq, Nat.reduceAdd, Nat.reduceMul, Nat.reduceLeDiff, Nat.reduceLT, Int.reduceLE, Int.reduceLT, Int.reduceEq, Nat.reduceBEq, Nat.reduceEqDiff, c1, c2, hgd', hse, bf.1, bf.2.1, bf.2.2, z1, z2, z3, z4, z5, hw]
        refine hdc _ fun s2 E2 R2 q1 q2 q3 q4 q5 q6 q7 q8 => ?_
        have hbx2 : s2[s.length]? = some (.cells [i64 d.kind, i64 d.t, i64 d.n, i64 d.v]) := (q7 _ hl1 hnE hnR).trans hbx
        have bg := cells_facts hbx2
        simp -implicitDefEqProofs only [go_sem, reduceCtorEq, Nat.reduceAdd, Nat.reduceMul, Nat.reduceLeDiff, Nat.reduceLT, Int.reduceLE, Int.reduceLT, Int.reduceEq, Nat.reduceBEq, Nat.reduceEqDiff, c1, c2, hgd', hse, bf.1, bf.2.1, bf.2.2, z1, z2, z3, z4, z5, hw, bg.1, bg.2.1, bg.2.2]
        obtain ⟨y1, y2, y3, y4, y5, y6⟩ := fin s2 E2 R2 q1 q2 q3 q4 q5 (.cells [i64 a.1, i64 a.2]) (.cells [i64 b.1, i64 b.2])
        refine ⟨m - 1, _, by omega, ?_, k + 1, E2, R2, by omega, y1, y2, y3, y4, y5, y6, rfl⟩
        repeat (first | exact leEnv_nil | refine leEnv_any _ ?_ | refine leEnv_same _ ?_ | refine leEnv_norm _ ?_)
      · have z1 : (d.kind == 3) = false := by simp [k1]
        by_cases ht : d.t = 0
        · have z3 : (d.t == 0) = true := by simp [ht]
          obtain ⟨z4, z5⟩ := hz ht
          simp -implicitDefEqProofs only [go_sem, reduceCtorEq, Nat.reduceAdd, Nat.reduceMul, Nat.reduceLeDiff, Nat.reduceLT, Int.reduceLE, Int.reduceLT, Int.reduceEq, Nat.reduceBEq, Nat.reduceEqDiff, c1, c2, hgd', hse, bf.1, bf.2.1, bf.2.2, z1, z3, z4, z5, hw]
          refine hdc _ fun s2 E2 R2 q1 q2 q3 q4 q5 q6 q7 q8 => ?_
          have hbx2 : s2[s.length]? = some (.cells [i64 d.kind, i64 d.t, i64 d.n, i64 d.v]) := (q7 _ hl1 hnE hnR).trans hbx
          have bg := cells_facts hbx2
          simp -implicitDefEqProofs only [go_sem, reduceCtorEq, Nat.reduceAdd, Nat.reduceMul, Nat.reduceLeDiff, Nat.reduceLT, Int.reduceLE, Int.reduceLT, Int.reduceEq, Nat.reduceBEq, Nat.reduceEqDiff, c1, c2, hgd', hse, bf.1, bf.2.1, bf.2.2, z1, z3, z4, z5, hw, bg.1, bg.2.1, bg.2.2]
          obtain ⟨y1, y2, y3, y4, y5, y6⟩ := fin s2 E2 R2 q1 q2 q3 q4 q5 (.cells [i64 a.1, i64 a.2]) (.cells [i64 b.1, i64 b.2])
          refine ⟨m - 1, _, by omega, ?_, k + 1, E2, R2, by omega, y1, y2, y3, y4, y5, y6, rfl⟩
          repeat (first | exact leEnv_nil | refine leEnv_any _ ?_ | refine leEnv_same _ ?_ | refine leEnv_norm _ ?_)
        · have z3 : (d.t == 0) = false := by simp [ht]
          simp -implicitDefEqProofs only [go_sem, reduceCtorEq, Nat.reduceAdd, Nat.reduceMul, Nat.reduceLeDiff, Nat.reduceLT, Int.reduceLE, Int.reduceLT, Int.reduceEq, Nat.reduceBEq, Nat.reduceEqDiff, c1, c2, hgd', hse, bf.1, bf.2.1, bf.2.2, z1, z3, hw]
          refine hdc _ fun s2 E2 R2 q1 q2 q3 q4 q5 q6 q7 q8 => ?_
          have hbx2 : s2[s.length]? = some (.cells [i64 d.kind, i64 d.t, i64 d.n, i64 d.v]) := (q7 _ hl1 hnE hnR).trans hbx
          have bg := cells_facts hbx2
          simp -implicitDefEqProofs only [go_sem, reduceCtorEq, Nat.reduceAdd, Nat.reduceMul, Nat.reduceLeDiff, Nat.reduceLT, Int.reduceLE, Int.reduceLT, Int.reduceEq, Nat.reduceBEq, Nat.reduceEqDiff, c1, c2, hgd', hse, bf.1, bf.2.1, bf.2.2, z1, z3, hw, bg.1, bg.2.1, bg.2.2]
          obtain ⟨y1, y2, y3, y4, y5, y6⟩ := fin s2 E2 R2 q1 q2 q3 q4 q5 (.cells [i64 a.1, i64 a.2]) (.cells [i64 b.1, i64 b.2])
          refine ⟨m - 1, _, by omega, ?_, k + 1, E2, R2, by omega, y1, y2, y3, y4, y5, y6, rfl⟩
          repeat (first | exact leEnv_nil | refine leEnv_any _ ?_ | refine leEnv_same _ ?_ | refine leEnv_norm _ ?_)
  · have hlv := @lives_c s
    by_cases c1 : (k : Int) < (l.length : Int)
    · have c2 : ¬ (k : Int) < 60 := fun q => c ⟨by omega, by omega⟩
      simp -implicitDefEqProofs only [go_sem, reduceCtorEq, Nat.reduceAdd, Nat.reduceMul, Nat.reduceLeDiff, Nat.reduceLT, Int.reduceLE, Int.reduceLT, Int.reduceEq, Nat.reduceBEq, Nat.reduceEqDiff, c1, c2]
      refine hlv _ fun s2 _ _ => ?_
      simp -implicitDefEqProofs only [go_sem, reduceCtorEq, Nat.reduceAdd, Nat.reduceMul, Nat.reduceLeDiff, Nat.reduceLT, Int.reduceLE, Int.reduceLT, Int.reduceEq, Nat.reduceBEq, Nat.reduceEqDiff]
      exact h s2
    · simp -implicitDefEqProofs only [go_sem, reduceCtorEq, Nat.reduceAdd, Nat.reduceMul, Nat.reduceLeDiff, Nat.reduceLT, Int.reduceLE, Int.reduceLT, Int.reduceEq, Nat.reduceBEq, Nat.reduceEqDiff, c1]
      refine hlv _ fun s2 _ _ => ?_
      simp -implicitDefEqProofs only [go_sem, reduceCtorEq, Nat.reduceAdd, Nat.reduceMul, Nat.reduceLeDiff, Nat.reduceLT, Int.reduceLE, Int.reduceLT, Int.reduceEq, Nat.reduceBEq, Nat.reduceEqDiff]
      exact h s2

end Go.Proofs
