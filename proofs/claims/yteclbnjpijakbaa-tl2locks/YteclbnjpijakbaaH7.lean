/- The harness: Tl2Locks. -/
import Derived.Test.YteclbnjpijakbaaH6
import Derived.Test.YteclbnjpijakbaaP17
import Derived.Test.YteclbnjpijakbaaH4a
set_option linter.unusedSimpArgs false
set_option linter.unusedVariables false
set_option maxRecDepth 8000
namespace Go.Proofs
open Go Go.AL

set_option maxHeartbeats 8000000 in
theorem locks_law_c (l : List Dd) (hl : l.length ≤ 9223372036854775807) (t : Int) (ht : -9223372036854775808 ≤ t ∧ t ≤ 9223372036854775807) (K : SV → St → Prop) (st : St) (h : ∀ s, K (.sc (.bool true)) s) : ACalls Try.prog 9 [.slice .imm 4 (l.map ddSV), i64 t] K st := by
  refine acalls_go (M := []) Try.func9 rfl Try.results9 Try.ntmps9 ?_
  have hb := @hbegin_c st
  simp -implicitDefEqProofs only [go_sem, reduceCtorEq, Nat.reduceAdd, Nat.reduceMul, Nat.reduceLeDiff, Nat.reduceLT, Int.reduceLE, Int.reduceLT, Int.reduceEq, Nat.reduceBEq, Nat.reduceEqDiff]
  refine hb _ fun s0 E0 R0 hB0 a0 r0 => ?_
  have p0 : PlI 4 E0.abs R0.abs := by rw [a0, r0]; exact pl_makes 4
  simp -implicitDefEqProofs only [go_sem, reduceCtorEq, Nat.reduceAdd, Nat.reduceMul, Nat.reduceLeDiff, Nat.reduceLT, Int.reduceLE, Int.reduceLT, Int.reduceEq, Nat.reduceBEq, Nat.reduceEqDiff]
  refine AWp.mono (Q := fun e env s2 => e = .exit 0 ∧ ∃ (E : EG) (R : RG), Both s2 E R ∧ E.id = E0.id ∧ R.id = R0.id ∧ PlI 44 E.abs R.abs ∧ ∃ x1 x2 x3 x4 x5 x6 x7 x8 x9,
    env = [.slice .imm 4 (l.map ddSV), i64 t, .any, .any, .any, .ptr E0.id 0, .ptr R0.id 0, x9, .any, .any, .any, .any, .any, .any, .any, .any, .any, .any, .any, x1, x2, x3, x4, x5, x6, x7, x8, .any, .any, .any, .any, .any, .any, .any, .any, .any, .any, .any, .any, .any, .any, .any, .any, .any, .any, .any, .any, .any, .any, .any, .any, .any, .any, .any, .any, .any, .any, .any, .any, .any, .any, .any, .any, .any, .any, .any, .any, .any, .any, .any, .any, .any, .any, .any, .any, .any, .any, .any, .any, .any, .any, .any, .any, .any, .any, .any, .any, .any, .any, .any, .any, .any, .any, .any, .any, .any, .any, .any, .any, .any, .any]) ?_ ?_
  · refine awp_rounds [] (fun m e s => ∃ (k : Nat) (E : EG) (R : RG), k + m = 40 ∧ Both s E R ∧ E.id = E0.id ∧ R.id = R0.id ∧ PlI (4 + k) E.abs R.abs ∧
      e = [.slice .imm 4 (l.map ddSV), i64 t, .any, .any, .any, .ptr E0.id 0, .ptr R0.id 0, i64 k, .any, .any, .any, .any, .any, .any, .any, .any, .any, .any, .any, .any, .any, .any, .any, .any, .any, .any, .any, .any, .any, .any, .any, .any, .any, .any, .any, .any, .any, .any, .any, .any, .any, .any, .any, .any, .any, .any, .any, .any, .any, .any, .any, .any, .any, .any, .any, .any, .any, .any, .any, .any, .any, .any, .any, .any, .any, .any, .any, .any, .any, .any, .any, .any, .any, .any, .any, .any, .any, .any, .any, .any, .any, .any, .any, .any, .any, .any, .any, .any, .any, .any, .any, .any, .any, .any, .any, .any, .any, .any, .any, .any, .any]) (n := 40) ?_ ⟨0, E0, R0, by omega, hB0, rfl, rfl, p0, rfl⟩ ?_
    · repeat (first | exact leEnv_nil | refine leEnv_any _ ?_ | refine leEnv_same _ ?_ | refine leEnv_norm _ ?_)
    rintro m e s ⟨k, E, R, hkm, hB, e1, r1, hp, rfl⟩
    by_cases c : k < l.length ∧ k < 40
    · have c1 : (k : Int) < (l.length : Int) := by omega
      have c2 : (k : Int) < 40 := by omega
      have c0 : (0 : Int) ≤ (k : Int) := by omega
      have hw := wrapS k (by omega)
      obtain ⟨d, hd⟩ : ∃ d, d = l.getD k default := ⟨_, rfl⟩
      have hgd := dd_getD' c.1
      rw [← hd] at hgd
      have hgd' : (l.map ddSV).getD k .any = .agg [i64 d.kind, i64 d.t, i64 d.n, i64 d.v] := hgd
      have hdd := pl_does hp d
      have hdc := does_c hB (hp.fine.fine hB.eng (by omega)) (hp.fined.fine (by omega)) d (hp.fined.done d.t)
      rw [e1, r1] at hdc
      simp -implicitDefEqProofs only [go_sem, reduceCtorEq, Nat.reduceAdd, Nat.reduceMul, Nat.reduceLeDiff, Nat.reduceLT, Int.reduceLE, Int.reduceLT, Int.reduceEq, Nat.reduceBEq, Nat.reduceEqDiff, c1, c2, c0, hgd', hw]
      refine hdc _ fun s2 E2 R2 q1 q2 q3 q4 q5 q6 q7 q8 => ?_
      have p2 : PlI (4 + (k + 1)) E2.abs R2.abs := by rw [q4, q5]; exact hdd.2
      simp -implicitDefEqProofs only [go_sem, reduceCtorEq, Nat.reduceAdd, Nat.reduceMul, Nat.reduceLeDiff, Nat.reduceLT, Int.reduceLE, Int.reduceLT, Int.reduceEq, Nat.reduceBEq, Nat.reduceEqDiff, c1, c2, c0, hgd', hw]
      refine ⟨m - 1, _, by omega, ?_, k + 1, E2, R2, by omega, q1, q2, q3, p2, rfl⟩
      repeat (first | exact leEnv_nil | refine leEnv_any _ ?_ | refine leEnv_same _ ?_ | refine leEnv_norm _ ?_)
    · have hp44 := hp.mono (show 4 + k ≤ 44 by omega)
      by_cases c1 : (k : Int) < (l.length : Int)
      · have c2 : ¬ (k : Int) < 40 := fun q => c ⟨by omega, by omega⟩
        simp -implicitDefEqProofs only [go_sem, reduceCtorEq, Nat.reduceAdd, Nat.reduceMul, Nat.reduceLeDiff, Nat.reduceLT, Int.reduceLE, Int.reduceLT, Int.reduceEq, Nat.reduceBEq, Nat.reduceEqDiff, c1, c2]
        exact ⟨E, R, hB, e1, r1, hp44, _, _, _, _, _, _, _, _, _, rfl⟩
      · simp -implicitDefEqProofs only [go_sem, reduceCtorEq, Nat.reduceAdd, Nat.reduceMul, Nat.reduceLeDiff, Nat.reduceLT, Int.reduceLE, Int.reduceLT, Int.reduceEq, Nat.reduceBEq, Nat.reduceEqDiff, c1]
        exact ⟨E, R, hB, e1, r1, hp44, _, _, _, _, _, _, _, _, _, rfl⟩
  rintro e env s2 ⟨rfl, E, R, hB, e1, r1, hp, x1, x2, x3, x4, x5, x6, x7, x8, x9, rfl⟩
  have hnr := nrm_in t (m := 8) (by decide)
  obtain ⟨tt, htt⟩ : ∃ tt, tt = nrm t 8 := ⟨_, rfl⟩
  rw [← htt] at hnr
  simp -implicitDefEqProofs only [go_sem, reduceCtorEq, Nat.reduceAdd, Nat.reduceMul, Nat.reduceLeDiff, Nat.reduceLT, Int.reduceLE, Int.reduceLT, Int.reduceEq, Nat.reduceBEq, Nat.reduceEqDiff]
  apply both_of
  rotate_left
  · intro z
    refine ⟨fun c => ?_, fun c => ?_⟩
    · have c : t < 0 := by simpa using c
      have y1 := nrm_w1 ht c
      have y2 := nrm_w2 ht c
      have y3 := nrm_neg (m := 8) c
      rw [← htt] at y3
      simp -implicitDefEqProofs only [go_sem, reduceCtorEq, Nat.reduceAdd, Nat.reduceMul, Nat.reduceLeDiff, Nat.reduceLT, Int.reduceLE, Int.reduceLT, Int.reduceEq, Nat.reduceBEq, Nat.reduceEqDiff, c, y1, y2, y3]
      refine awp_weaken (b := [.any, i64 tt, .any, .any, .any, .ptr E0.id 0, .ptr R0.id 0, .any, i64 0, .any, .any, .any, .any, .any, .any, .any, .any, .any, .any, .any, .any, .any, .any, .any, .any, .any, .any, .any, .any, .any, .any, .any, .any, .any, .any, .any, .any, .any, .any, .any, .any, .any, .any, .any, .any, .any, .any, .any, .any, .any, .any, .any, .any, .any, .any, .any, .any, .any, .any, .any, .any, .any, .any, .any, .any, .any, .any, .any, .any, .any, .any, .any, .any, .any, .any, .any, .any, .any, .any, .any, .any, .any, .any, .any, .any, .any, .any, .any, .any, .any, .any, .any, .any, .any, .any, .any, .any, .any, .any, .any, .any]) ?_ z
      repeat (first | exact leEnv_nil | refine leEnv_any _ ?_ | refine leEnv_same _ ?_ | refine leEnv_norm _ ?_)
    · have c : ¬ t < 0 := by simpa using c
      have y3 := nrm_pos (m := 8) c
      rw [← htt] at y3
      simp -implicitDefEqProofs only [go_sem, reduceCtorEq, Nat.reduceAdd, Nat.reduceMul, Nat.reduceLeDiff, Nat.reduceLT, Int.reduceLE, Int.reduceLT, Int.reduceEq, Nat.reduceBEq, Nat.reduceEqDiff, c, y3]
      refine awp_weaken (b := [.any, i64 tt, .any, .any, .any, .ptr E0.id 0, .ptr R0.id 0, .any, i64 0, .any, .any, .any, .any, .any, .any, .any, .any, .any, .any, .any, .any, .any, .any, .any, .any, .any, .any, .any, .any, .any, .any, .any, .any, .any, .any, .any, .any, .any, .any, .any, .any, .any, .any, .any, .any, .any, .any, .any, .any, .any, .any, .any, .any, .any, .any, .any, .any, .any, .any, .any, .any, .any, .any, .any, .any, .any, .any, .any, .any, .any, .any, .any, .any, .any, .any, .any, .any, .any, .any, .any, .any, .any, .any, .any, .any, .any, .any, .any, .any, .any, .any, .any, .any, .any, .any, .any, .any, .any, .any, .any, .any]) ?_ z
      repeat (first | exact leEnv_nil | refine leEnv_any _ ?_ | refine leEnv_same _ ?_ | refine leEnv_norm _ ?_)
  have hlk0 := lk_first hp.ser (by omega) tt
  refine AWp.mono (Q := fun e env s3 => e = .exit 2 ∧ ∃ (E : EG) (R : RG), Both s3 E R ∧ E.id = E0.id ∧ R.id = R0.id ∧ PlI 164 E.abs R.abs ∧ E.abs.of tt = none ∧ ∃ x1 x2 x3 x4 x5 x6 x7 x8,
    env = [.any, i64 tt, .any, .any, .any, .ptr E0.id 0, .ptr R0.id 0, .any, x8, .any, .any, .any, .any, .any, .any, .any, .any, .any, .any, .any, .any, .any, .any, .any, .any, .any, .any, .any, .any, .any, .any, .any, .any, .any, .any, .any, .any, .any, .any, .any, .any, .any, .any, x1, x2, x3, x4, x5, x6, x7, .any, .any, .any, .any, .any, .any, .any, .any, .any, .any, .any, .any, .any, .any, .any, .any, .any, .any, .any, .any, .any, .any, .any, .any, .any, .any, .any, .any, .any, .any, .any, .any, .any, .any, .any, .any, .any, .any, .any, .any, .any, .any, .any, .any, .any, .any, .any, .any, .any, .any, .any]) ?_ ?_
  · refine awp_rounds [] (fun m e s => ∃ (i : Nat) (E : EG) (R : RG), i + m = 60 ∧ Both s E R ∧ E.id = E0.id ∧ R.id = R0.id ∧ PlI (44 + 2 * i) E.abs R.abs ∧ LkI tt i E.abs ∧
      e = [.any, i64 tt, .any, .any, .any, .ptr E0.id 0, .ptr R0.id 0, .any, i64 i, .any, .any, .any, .any, .any, .any, .any, .any, .any, .any, .any, .any, .any, .any, .any, .any, .any, .any, .any, .any, .any, .any, .any, .any, .any, .any, .any, .any, .any, .any, .any, .any, .any, .any, .any, .any, .any, .any, .any, .any, .any, .any, .any, .any, .any, .any, .any, .any, .any, .any, .any, .any, .any, .any, .any, .any, .any, .any, .any, .any, .any, .any, .any, .any, .any, .any, .any, .any, .any, .any, .any, .any, .any, .any, .any, .any, .any, .any, .any, .any, .any, .any, .any, .any, .any, .any, .any, .any, .any, .any, .any, .any]) (n := 60) ?_ ⟨0, E, R, by omega, hB, e1, r1, hp, hlk0, rfl⟩ ?_
    · repeat (first | exact leEnv_nil | refine leEnv_any _ ?_ | refine leEnv_same _ ?_ | refine leEnv_norm _ ?_)
    clear hB hp hlk0 e1 r1
    rintro m e s ⟨i, E, R, him, hB, e1, r1, hp, hlk, rfl⟩
    by_cases hi : i < 60
    · have i1 : (i : Int) < 60 := by omega
      have hwi := wrapS i (by omega)
      have ca := active_c hB.eng tt
      rw [abs_some, e1] at ca
      cases hof : E.abs.of tt with
      | none =>
        rw [hof] at ca
        simp -implicitDefEqProofs only [go_sem, reduceCtorEq, Nat.reduceAdd, Nat.reduceMul, Nat.reduceLeDiff, Nat.reduceLT, Int.reduceLE, Int.reduceLT, Int.reduceEq, Nat.reduceBEq, Nat.reduceEqDiff, i1]
        refine ca _ ?_
        simp -implicitDefEqProofs only [go_sem, reduceCtorEq, Nat.reduceAdd, Nat.reduceMul, Nat.reduceLeDiff, Nat.reduceLT, Int.reduceLE, Int.reduceLT, Int.reduceEq, Nat.reduceBEq, Nat.reduceEqDiff, i1, Option.isSome]
        exact ⟨E, R, hB, e1, r1, hp.mono (by omega), hof, _, _, _, _, _, _, _, _, rfl⟩
      | some x =>
        rw [hof] at ca
        have hab := pl_abort hp tt
        have cb := abort_c hB.eng tt
        rw [e1] at cb
        obtain ⟨a, ha⟩ : ∃ a, a = (abortF E.abs tt).1 := ⟨_, rfl⟩
        have hra : (abortR R.abs tt).1 = a := by rw [ha, hab.1]
        by_cases z : a = 0
        · have zb : (a != 0) = false := by simp [z]
          have zc : (a != a) = false := by simp
          have hl2 : LkI tt (i + 1) (abortF E.abs tt).2 := lk_abort (by rw [← ha]; exact z)
          rw [← ha] at cb
          simp -implicitDefEqProofs only [go_sem, reduceCtorEq, Nat.reduceAdd, Nat.reduceMul, Nat.reduceLeDiff, Nat.reduceLT, Int.reduceLE, Int.reduceLT, Int.reduceEq, Nat.reduceBEq, Nat.reduceEqDiff, i1]
          refine ca _ ?_
          simp -implicitDefEqProofs only [go_sem, reduceCtorEq, Nat.reduceAdd, Nat.reduceMul, Nat.reduceLeDiff, Nat.reduceLT, Int.reduceLE, Int.reduceLT, Int.reduceEq, Nat.reduceBEq, Nat.reduceEqDiff, i1, Option.isSome]
          refine cb _ fun s4 E4 k1 k2 k3 => ?_
          have hB4 := hB.engT k1 k2
          have cr := rabort_c hB4.ref tt
          rw [r1, hra] at cr
          simp -implicitDefEqProofs only [go_sem, reduceCtorEq, Nat.reduceAdd, Nat.reduceMul, Nat.reduceLeDiff, Nat.reduceLT, Int.reduceLE, Int.reduceLT, Int.reduceEq, Nat.reduceBEq, Nat.reduceEqDiff, i1, Option.isSome]
          refine cr _ fun s5 R5 j1 j2 j3 => ?_
          have hB5 := hB4.refT j1 j2
          simp -implicitDefEqProofs only [go_sem, reduceCtorEq, Nat.reduceAdd, Nat.reduceMul, Nat.reduceLeDiff, Nat.reduceLT, Int.reduceLE, Int.reduceLT, Int.reduceEq, Nat.reduceBEq, Nat.reduceEqDiff, i1, Option.isSome, zb, zc, hwi]
          refine ⟨m - 1, _, by omega, ?_, i + 1, E4, R5, by omega, hB5, k2.id.trans e1, j2.id.trans r1, ?_, by rw [k3]; exact hl2, rfl⟩
          · repeat (first | exact leEnv_nil | refine leEnv_any _ ?_ | refine leEnv_same _ ?_ | refine leEnv_norm _ ?_)
          · rw [k3, j3]; exact hab.2.mono (by omega)
        · have zb : (a != 0) = true := by simp [z]
          have zc : (a != a) = false := by simp
          obtain ⟨hno, hpt⟩ := abort_no (E := E.abs) (t := tt) (by rw [← ha]; exact z)
          have hab2 := hab.2
          rw [hno] at hab2
          have hl2 := lk_step hp.fine hlk hpt hp.ser
          have hst := pl_step hab2 tt
          rw [← ha, hno] at cb
          simp -implicitDefEqProofs only [go_sem, reduceCtorEq, Nat.reduceAdd, Nat.reduceMul, Nat.reduceLeDiff, Nat.reduceLT, Int.reduceLE, Int.reduceLT, Int.reduceEq, Nat.reduceBEq, Nat.reduceEqDiff, i1]
          refine ca _ ?_
          simp -implicitDefEqProofs only [go_sem, reduceCtorEq, Nat.reduceAdd, Nat.reduceMul, Nat.reduceLeDiff, Nat.reduceLT, Int.reduceLE, Int.reduceLT, Int.reduceEq, Nat.reduceBEq, Nat.reduceEqDiff, i1, Option.isSome]
          refine cb _ fun s4 E4 k1 k2 k3 => ?_
          have k3 : E4.abs = E.abs := k3
          have hB4 := hB.engT k1 k2
          have cr := rabort_c hB4.ref tt
          rw [r1, hra] at cr
          simp -implicitDefEqProofs only [go_sem, reduceCtorEq, Nat.reduceAdd, Nat.reduceMul, Nat.reduceLeDiff, Nat.reduceLT, Int.reduceLE, Int.reduceLT, Int.reduceEq, Nat.reduceBEq, Nat.reduceEqDiff, i1, Option.isSome]
          refine cr _ fun s5 R5 j1 j2 j3 => ?_
          have hB5 := hB4.refT j1 j2
          have e4 := k2.id.trans e1
          have r5 := j2.id.trans r1
          have hp5 : PlI (44 + 2 * i + 1) E4.abs R5.abs := by rw [k3, j3]; exact hab2
          have cs := step_c hB5.eng (hp5.fine.fine hB5.eng (by omega)) tt
          rw [e4] at cs
          simp -implicitDefEqProofs only [go_sem, reduceCtorEq, Nat.reduceAdd, Nat.reduceMul, Nat.reduceLeDiff, Nat.reduceLT, Int.reduceLE, Int.reduceLT, Int.reduceEq, Nat.reduceBEq, Nat.reduceEqDiff, i1, Option.isSome, zb, zc, hwi]
          refine cs _ fun s6 E6 f1 f2 f3 => ?_
          have hB6 := hB5.engT f1 f2
          have ct := rstep_c hB6.ref (hp5.fined.fine (by omega)) tt (hp5.fined.done tt)
          rw [r5] at ct
          simp -implicitDefEqProofs only [go_sem, reduceCtorEq, Nat.reduceAdd, Nat.reduceMul, Nat.reduceLeDiff, Nat.reduceLT, Int.reduceLE, Int.reduceLT, Int.reduceEq, Nat.reduceBEq, Nat.reduceEqDiff, i1, Option.isSome, zb, zc, hwi]
          refine ct _ fun s7 R7 g1 g2 g3 => ?_
          have hB7 := hB6.refT g1 g2
          simp -implicitDefEqProofs only [go_sem, reduceCtorEq, Nat.reduceAdd, Nat.reduceMul, Nat.reduceLeDiff, Nat.reduceLT, Int.reduceLE, Int.reduceLT, Int.reduceEq, Nat.reduceBEq, Nat.reduceEqDiff, i1, Option.isSome, zb, zc, hwi]
          have hp7 := pl_step hp5 tt
          refine ⟨m - 1, _, by omega, ?_, i + 1, E6, R7, by omega, hB7, f2.id.trans e4, g2.id.trans r5, ?_, ?_, rfl⟩
          · repeat (first | exact leEnv_nil | refine leEnv_any _ ?_ | refine leEnv_same _ ?_ | refine leEnv_norm _ ?_)
          · rw [f3, g3]; exact hp7.2.mono (by omega)
          · rw [f3, k3]; exact hl2
    · obtain rfl : i = 60 := by omega
      have hof := lk_end hp.fine hlk
      have c60 : ((60 : Nat) : Int) < 60 ↔ False := by simp
      simp -implicitDefEqProofs only [go_sem, reduceCtorEq, Nat.reduceAdd, Nat.reduceMul, Nat.reduceLeDiff, Nat.reduceLT, Int.reduceLE, Int.reduceLT, Int.reduceEq, Nat.reduceBEq, Nat.reduceEqDiff, c60]
      exact ⟨E, R, hB, e1, r1, hp, hof, _, _, _, _, _, _, _, _, rfl⟩
  clear hB hp hlk0 e1 r1
  rintro e env s3 ⟨rfl, E, R, hB, e1, r1, hp, hof, x1, x2, x3, x4, x5, x6, x7, x8, rfl⟩
  have hR := hB.ref
  have f := cells_facts hR.cells
  have v := arr_facts hR.vars
  have hmany := hR.many
  rw [r1] at f
  have hvr : E.abs.vars = R.abs.vars := hp.sim.vars
  simp -implicitDefEqProofs only [go_sem, reduceCtorEq, Nat.reduceAdd, Nat.reduceMul, Nat.reduceLeDiff, Nat.reduceLT, Int.reduceLE, Int.reduceLT, Int.reduceEq, Nat.reduceBEq, Nat.reduceEqDiff]
  refine AWp.mono (Q := fun e env s4 => e = .exit 4 ∧ s4 = s3 ∧ ∃ x1 x2 x3 x4 x5 x6 x7 x8, env = [.any, i64 tt, .any, .any, .any, .ptr E0.id 0, .ptr R0.id 0, .any, .any, .any, .any, x8, .any, .any, .any, .any, .any, .any, .any, .any, .any, .any, .any, .any, .any, .any, .any, .any, .any, .any, .any, .any, .any, .any, .any, .any, .any, .any, .any, .any, .any, .any, .any, .any, .any, .any, .any, .any, .any, .any, .any, .any, .any, .any, .any, .any, .any, .any, .any, .any, .any, .any, .any, .any, .any, .any, .any, .any, .any, x1, x2, x3, x4, x5, x6, x7, .any, .any, .any, .any, .any, .any, .any, .any, .any, .any, .any, .any, .any, .any, .any, .any, .any, .any, .any, .any, .any, .any, .any, .any, .any]) ?_ ?_
  · refine awp_rounds [] (fun m e s' => ∃ (k : Nat), k + m = R.vars.length ∧ e = [.any, i64 tt, .any, .any, .any, .ptr E0.id 0, .ptr R0.id 0, .any, .any, .any, .any, i64 k, .any, .any, .any, .any, .any, .any, .any, .any, .any, .any, .any, .any, .any, .any, .any, .any, .any, .any, .any, .any, .any, .any, .any, .any, .any, .any, .any, .any, .any, .any, .any, .any, .any, .any, .any, .any, .any, .any, .any, .any, .any, .any, .any, .any, .any, .any, .any, .any, .any, .any, .any, .any, .any, .any, .any, .any, .any, .any, .any, .any, .any, .any, .any, .any, .any, .any, .any, .any, .any, .any, .any, .any, .any, .any, .any, .any, .any, .any, .any, .any, .any, .any, .any, .any, .any, .any, .any, .any, .any] ∧ s' = s3) (n := R.vars.length) ?_ ⟨0, by omega, rfl, rfl⟩ ?_
    · repeat (first | exact leEnv_nil | refine leEnv_any _ ?_ | refine leEnv_same _ ?_ | refine leEnv_norm _ ?_)
    rintro m e s' ⟨k, hkm, rfl, rfl⟩
    by_cases hlt : k < R.vars.length
    · have c1 : (k : Int) < (R.vars.length : Int) := by omega
      have c0 : (0 : Int) ≤ (k : Int) := by omega
      have hw := wrapS k (by omega)
      have hv2 := vars_drop2 (l := R.vars) (n := k) hlt
      have hlg := lock_gone hp.ser hnr.1 hof k (by rw [hvr]; exact hlt)
      rw [hvr, show R.abs.vars = R.vars from rfl] at hlg
      obtain ⟨y, hy⟩ : ∃ y, y = R.vars.getD k default := ⟨_, rfl⟩
      have hlb : (y.lock == tt) = false := by
        rw [hy]
        simpa using hlg
      rw [← hy] at hv2
      simp -implicitDefEqProofs (maxSteps := 1000000) only [go_sem, reduceCtorEq, Nat.reduceAdd, Nat.reduceMul, Nat.reduceLeDiff, Nat.reduceLT, Int.reduceLE, Int.reduceLT, Int.reduceEq, Nat.reduceBEq, Nat.reduceEqDiff, f.1, f.2.1, f.2.2, RG.cells, v.1, v.2.1, v.2.2.1, v.2.2.2, c1, c0, hv2, hlb, hw, Int.toNat_natCast]
      refine ⟨m - 1, _, by omega, ?_, k + 1, by omega, rfl⟩
      repeat (first | exact leEnv_nil | refine leEnv_any _ ?_ | refine leEnv_same _ ?_ | refine leEnv_norm _ ?_)
    · obtain rfl : k = R.vars.length := by omega
      simp -implicitDefEqProofs (maxSteps := 1000000) only [go_sem, reduceCtorEq, Nat.reduceAdd, Nat.reduceMul, Nat.reduceLeDiff, Nat.reduceLT, Int.reduceLE, Int.reduceLT, Int.reduceEq, Nat.reduceBEq, Nat.reduceEqDiff, f.1, f.2.1, f.2.2, RG.cells, v.1, v.2.1, v.2.2.1, v.2.2.2, Int.lt_irrefl]
      exact ⟨_, _, _, _, _, _, _, _, rfl⟩
  rintro e env s4 ⟨rfl, rfl, x1, x2, x3, x4, x5, x6, x7, x8, rfl⟩
  have hlk := like_c hB hp.like (by omega)
  rw [e1, r1] at hlk
  have ca := active_c hB.eng tt
  rw [abs_some, e1, hof] at ca
  have hlv := @lives_c s4
  simp -implicitDefEqProofs only [go_sem, reduceCtorEq, Nat.reduceAdd, Nat.reduceMul, Nat.reduceLeDiff, Nat.reduceLT, Int.reduceLE, Int.reduceLT, Int.reduceEq, Nat.reduceBEq, Nat.reduceEqDiff]
  refine hlk _ ?_
  simp -implicitDefEqProofs only [go_sem, reduceCtorEq, Nat.reduceAdd, Nat.reduceMul, Nat.reduceLeDiff, Nat.reduceLT, Int.reduceLE, Int.reduceLT, Int.reduceEq, Nat.reduceBEq, Nat.reduceEqDiff]
  refine ca _ ?_
  simp -implicitDefEqProofs only [go_sem, reduceCtorEq, Nat.reduceAdd, Nat.reduceMul, Nat.reduceLeDiff, Nat.reduceLT, Int.reduceLE, Int.reduceLT, Int.reduceEq, Nat.reduceBEq, Nat.reduceEqDiff, Option.isSome]
  refine hlv _ fun s5 _ _ => ?_
  simp -implicitDefEqProofs only [go_sem, reduceCtorEq, Nat.reduceAdd, Nat.reduceMul, Nat.reduceLeDiff, Nat.reduceLT, Int.reduceLE, Int.reduceLT, Int.reduceEq, Nat.reduceBEq, Nat.reduceEqDiff]
  exact h s5

end Go.Proofs
