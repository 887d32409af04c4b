/- The harness: Tl2Plays. -/
import Derived.Test.YteclbnjpijakbaaW21
import Derived.Test.YteclbnjpijakbaaM6
set_option linter.unusedSimpArgs false
set_option linter.unusedVariables false
set_option maxRecDepth 8000
namespace Go.Proofs
open Go Go.AL

theorem PlI.like {k : Nat} {E : EP} {R : RP} (h : PlI k E R) : LikeH k E R := ⟨h.sim, h.fine, h.fined, h.ver, h.ser.ver⟩

theorem eq38 (a b c d : Int) : aggEqOk Try.prog 38 [i64 a, i64 b] [i64 c, i64 d] := by
  refine ⟨by kernel_rfl, by kernel_rfl, by kernel_rfl, ?_⟩
  have h27 : Try.prog.underlying 27 = some (.int .i64) := Try.underlying27
  have h3 : Try.prog.underlying 3 = some (.int .i64) := Try.underlying3
  simp only [Program.fieldsOf, Try.underlying38]
  refine ⟨⟨by decide, rfl, Try.aagg3, rfl, h3⟩, ⟨by decide, rfl, Try.aagg27, rfl, h27⟩, trivial⟩
theorem sv2 (a b : Int) : svsEq [i64 a, i64 b] [i64 a, i64 b] = true := by simp [svsEq, svEq]

set_option maxHeartbeats 8000000 in
theorem plays_law_c (l : List Dd) (hl : l.length ≤ 9223372036854775807) (K : SV → St → Prop) (st : St) (h : ∀ s, K (.sc (.bool true)) s) : ACalls Try.prog 8 [.slice .imm 4 (l.map ddSV)] K st := by
  refine acalls_go (M := []) Try.func8 rfl Try.results8 Try.ntmps8 ?_
  have hb := @hbegin_c st
  simp -implicitDefEqProofs only [go_sem, reduceCtorEq, Nat.reduceAdd, Nat.reduceMul, Nat.reduceLeDiff, Nat.reduceLT, Int.reduceLE, Int.reduceLT, Int.reduceEq, Nat.reduceBEq, Nat.reduceEqDiff]
  refine hb _ fun s0 E0 R0 hB0 a0 r0 => ?_
  have p0 : PlI 4 E0.abs R0.abs := by rw [a0, r0]; exact pl_makes 4
  simp -implicitDefEqProofs only [go_sem, reduceCtorEq, Nat.reduceAdd, Nat.reduceMul, Nat.reduceLeDiff, Nat.reduceLT, Int.reduceLE, Int.reduceLT, Int.reduceEq, Nat.reduceBEq, Nat.reduceEqDiff]
  refine awp_rounds [] (fun m e s => ∃ (k : Nat) (E : EG) (R : RG), k + m = 60 ∧ Both s E R ∧ E.id = E0.id ∧ R.id = R0.id ∧ PlI (4 + k) E.abs R.abs ∧
    e = [.slice .imm 4 (l.map ddSV), .any, .any, .ptr E0.id 0, .ptr R0.id 0, i64 k, .any, .any, .any, .any, .any, .any, .any, .any, .any, .any, .any, .any, .any, .any, .any, .any, .any, .any, .any, .any, .any, .any, .any, .any, .any, .any, .any, .any, .any, .any, .any, .any, .any, .any, .any, .any, .any, .any, .any, .any]) (n := 60) ?_ ⟨0, E0, R0, by omega, hB0, rfl, rfl, p0, rfl⟩ ?_
  · repeat (first | exact leEnv_nil | refine leEnv_any _ ?_ | refine leEnv_same _ ?_ | refine leEnv_norm _ ?_)
  rintro m e s ⟨k, E, R, hkm, hB, e1, r1, hp, rfl⟩
  by_cases c : k < l.length ∧ k < 60
  · have c1 : (k : Int) < (l.length : Int) := by omega
    have c2 : (k : Int) < 60 := by omega
    have c0 : (0 : Int) ≤ (k : Int) := by omega
    have hw := wrapS k (by omega)
    obtain ⟨d, hd⟩ : ∃ d, d = l.getD k default := ⟨_, rfl⟩
    have hgd := dd_getD' c.1
    rw [← hd] at hgd
    have hgd' : (l.map ddSV).getD k .any = .agg [i64 d.kind, i64 d.t, i64 d.n, i64 d.v] := hgd
    have hdd := pl_does hp d
    have hdc := does_c hB (hp.fine.fine hB.eng (by omega)) (hp.fined.fine (by omega)) d (hp.fined.done d.t)
    rw [e1, r1, ← hdd.1] at hdc
    obtain ⟨a, ha⟩ : ∃ a, a = (doesF E.abs d).1 := ⟨_, rfl⟩
    rw [← ha] at hdc
    simp -implicitDefEqProofs only [go_sem, reduceCtorEq, Nat.reduceAdd, Nat.reduceMul, Nat.reduceLeDiff, Nat.reduceLT, Int.reduceLE, Int.reduceLT, Int.reduceEq, Nat.reduceBEq, Nat.reduceEqDiff, c1, c2, c0, hgd', hw]
    refine hdc _ fun s2 E2 R2 q1 q2 q3 q4 q5 q6 q7 q8 => ?_
    have p2 : PlI (4 + (k + 1)) E2.abs R2.abs := by rw [q4, q5]; exact hdd.2
    obtain ⟨s3, hs3⟩ : ∃ s3, s3 = s2 ++ [Ob.cells [i64 a.1, i64 a.2], Ob.cells [i64 a.1, i64 a.2]] := ⟨_, rfl⟩
    have hB3 : Both s3 E2 R2 := by rw [hs3]; exact q1.app _
    have hlk := like_c hB3 p2.like (by omega)
    rw [q2, q3] at hlk
    have b1 : s3[s2.length]? = some (.cells [i64 a.1, i64 a.2]) := by rw [hs3]; simp
    have b2 : s3[s2.length + 1]? = some (.cells [i64 a.1, i64 a.2]) := by rw [hs3, List.getElem?_append_right (by omega)]; simp
    have bf1 := cells_facts b1
    have bf2 := cells_facts b2
    have hse : s2 ++ [Ob.cells [i64 a.1, i64 a.2], Ob.cells [i64 a.1, i64 a.2]] = s3 := hs3.symm
    simp -implicitDefEqProofs only [go_sem, reduceCtorEq, Nat.reduceAdd, Nat.reduceMul, Nat.reduceLeDiff, Nat.reduceLT, Int.reduceLE, Int.reduceLT, Int.reduceEq, Nat.reduceBEq, Nat.reduceEqDiff, c1, c2, c0, hgd', hw, hse]
    refine hlk _ ?_
    simp -implicitDefEqProofs only [go_sem, reduceCtorEq, Nat.reduceAdd, Nat.reduceMul, Nat.reduceLeDiff, Nat.reduceLT, Int.reduceLE, Int.reduceLT, Int.reduceEq, Nat.reduceBEq, Nat.reduceEqDiff, c1, c2, c0, hgd', hw, hse, bf1.1, bf1.2.1, bf1.2.2, bf2.1, bf2.2.1, bf2.2.2, eq38, sv2]
    refine ⟨m - 1, _, by omega, ?_, k + 1, E2, R2, by omega, hB3, q2, q3, p2, rfl⟩
    repeat (first | exact leEnv_nil | refine leEnv_any _ ?_ | refine leEnv_same _ ?_ | refine leEnv_norm _ ?_)
  · have hlv := @lives_c s
    by_cases c1 : (k : Int) < (l.length : Int)
    · have c2 : ¬ (k : Int) < 60 := fun q => c ⟨by omega, by omega⟩
      simp -implicitDefEqProofs only [go_sem, reduceCtorEq, Nat.reduceAdd, Nat.reduceMul, Nat.reduceLeDiff, Nat.reduceLT, Int.reduceLE, Int.reduceLT, Int.reduceEq, Nat.reduceBEq, Nat.reduceEqDiff, c1, c2]
      refine hlv _ fun s2 _ _ => ?_
      simp -implicitDefEqProofs only [go_sem, reduceCtorEq, Nat.reduceAdd, Nat.reduceMul, Nat.reduceLeDiff, Nat.reduceLT, Int.reduceLE, Int.reduceLT, Int.reduceEq, Nat.reduceBEq, Nat.reduceEqDiff]
      exact h s2
    · simp -implicitDefEqProofs only [go_sem, reduceCtorEq, Nat.reduceAdd, Nat.reduceMul, Nat.reduceLeDiff, Nat.reduceLT, Int.reduceLE, Int.reduceLT, Int.reduceEq, Nat.reduceBEq, Nat.reduceEqDiff, c1]
      refine hlv _ fun s2 _ _ => ?_
      simp -implicitDefEqProofs only [go_sem, reduceCtorEq, Nat.reduceAdd, Nat.reduceMul, Nat.reduceLeDiff, Nat.reduceLT, Int.reduceLE, Int.reduceLT, Int.reduceEq, Nat.reduceBEq, Nat.reduceEqDiff]
      exact h s2

end Go.Proofs
