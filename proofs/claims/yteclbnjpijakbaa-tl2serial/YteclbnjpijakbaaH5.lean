/- The harness: Tl2Serial. -/
import Derived.Test.YteclbnjpijakbaaP6
import Derived.Test.YteclbnjpijakbaaH4a
import Derived.Test.YteclbnjpijakbaaH3
set_option linter.unusedSimpArgs false
set_option linter.unusedVariables false
set_option maxRecDepth 8000
namespace Go.Proofs
open Go Go.AL

theorem use_of {Z G : Prop} (hz : Z) (h : Z → G) : G := h hz

theorem ser_makes : ∀ k, SerI k (makesF k)
  | 0 => ser_new
  | k + 1 => ser_does (ser_makes k) (fine_makes k) ⟨8, 0, 0, 10 + k⟩

set_option maxHeartbeats 16000000 in
theorem serial_law_c (l : List Dd) (hl : l.length ≤ 9223372036854775807) (n : Int) (hn : -9223372036854775808 ≤ n ∧ n ≤ 9223372036854775807) (v : Int) (K : SV → St → Prop) (st : St) (h : ∀ s, K (.sc (.bool true)) s) :
    ACalls Try.prog 5 [.slice .imm 4 (l.map ddSV), i64 n, i64 v] K st := by
  refine acalls_go (M := []) Try.func5 rfl Try.results5 Try.ntmps5 ?_
  have hb := @hbegin_c st
  simp -implicitDefEqProofs only [go_sem, reduceCtorEq, Nat.reduceAdd, Nat.reduceMul, Nat.reduceLeDiff, Nat.reduceLT, Int.reduceLE, Int.reduceLT, Int.reduceEq, Nat.reduceBEq, Nat.reduceEqDiff]
  refine hb _ fun s0 E0 R0 hB0 a0 r0 => ?_
  have f0 : FineP 4 E0.abs := by rw [a0]; exact fine_makes 4
  have g0 : FineD 4 R0.abs := by rw [r0]; exact fined_makes 4
  have i0 : SerI 4 E0.abs := by rw [a0]; exact ser_makes 4
  have v0 : 4 ≤ E0.abs.vars.length := by rw [a0]; decide
  simp -implicitDefEqProofs only [go_sem, reduceCtorEq, Nat.reduceAdd, Nat.reduceMul, Nat.reduceLeDiff, Nat.reduceLT, Int.reduceLE, Int.reduceLT, Int.reduceEq, Nat.reduceBEq, Nat.reduceEqDiff]
  refine awp_rounds [] (fun m e s => ∃ (k : Nat) (E : EG) (R : RG), k + m = 30 ∧ Both s E R ∧ E.id = E0.id ∧ R.id = R0.id ∧ FineP (4 + k) E.abs ∧ FineD (4 + k) R.abs ∧ SerI (4 + k) E.abs ∧ 4 ≤ E.abs.vars.length ∧
    e = [.slice .imm 4 (l.map ddSV), i64 n, i64 v, .any, .any, .any, .any, .ptr E0.id 0, .ptr R0.id 0, i64 k, .any, .any, .any, .any, .any, .any, .any, .any, .any, .any, .any, .any, .any, .any, .any, .any, .any, .any, .any, .any, .any, .any, .any, .any, .any, .any, .any, .any, .any, .any, .any, .any, .any, .any, .any, .any, .any, .any, .any, .any, .any, .any, .any, .any, .any, .any, .any, .any, .any, .any, .any, .any, .any, .any, .any, .any, .any, .any, .any, .any, .any, .any, .any, .any, .any, .any, .any, .any, .any, .any, .any, .any, .any, .any, .any, .any, .any, .any, .any, .any, .any, .any, .any, .any, .any, .any, .any, .any, .any, .any, .any, .any, .any, .any, .any, .any, .any, .any, .any, .any, .any, .any, .any, .any, .any, .any, .any, .any, .any, .any, .any, .any, .any, .any, .any, .any, .any, .any, .any, .any, .any, .any, .any, .any, .any, .any, .any, .any, .any, .any, .any, .any, .any, .any, .any, .any, .any, .any, .any, .any, .any, .any, .any, .any, .any, .any, .any, .any, .any, .any, .any, .any, .any, .any, .any, .any, .any, .any, .any, .any, .any, .any, .any, .any, .any, .any]) (n := 30) ?_ ⟨0, E0, R0, by omega, hB0, rfl, rfl, f0, g0, i0, v0, rfl⟩ ?_
  · repeat (first | exact leEnv_nil | refine leEnv_any _ ?_ | refine leEnv_same _ ?_ | refine leEnv_norm _ ?_)
  rintro m e s ⟨k, E, R, hkm, hB, e1, r1, hf, hg, hi, hv4, rfl⟩
  by_cases c : k < l.length ∧ k < 30
  · have c1 : (k : Int) < (l.length : Int) := by omega
    have c2 : (k : Int) < 30 := by omega
    have c0 : (0 : Int) ≤ (k : Int) := by omega
    have hw := wrapS k (by omega)
    obtain ⟨d, hd⟩ : ∃ d, d = l.getD k default := ⟨_, rfl⟩
    have hgd := dd_getD c.1
    rw [← hd] at hgd
    have hgd' : (l.map ddSV).getD k .any = .agg [i64 d.kind, i64 d.t, i64 d.n, i64 d.v] := hgd
    have hdc := does_c hB (hf.fine hB.eng (by omega)) (hg.fine (by omega)) d (hg.done d.t)
    rw [e1, r1] at hdc
    have hvd := vars_does E.abs d
    simp -implicitDefEqProofs only [go_sem, reduceCtorEq, Nat.reduceAdd, Nat.reduceMul, Nat.reduceLeDiff, Nat.reduceLT, Int.reduceLE, Int.reduceLT, Int.reduceEq, Nat.reduceBEq, Nat.reduceEqDiff, c1, c2, c0, hgd', Int.toNat_natCast, hw]
    refine hdc _ fun s2 E2 R2 q1 q2 q3 q4 q5 q6 q7 q8 => ?_
    simp -implicitDefEqProofs only [go_sem, reduceCtorEq, Nat.reduceAdd, Nat.reduceMul, Nat.reduceLeDiff, Nat.reduceLT, Int.reduceLE, Int.reduceLT, Int.reduceEq, Nat.reduceBEq, Nat.reduceEqDiff, c1, c2, c0, hgd', Int.toNat_natCast, hw]
    refine ⟨m - 1, _, by omega, ?_, k + 1, E2, R2, by omega, q1, q2, q3, by rw [q4]; exact fine_does hf d, by rw [q5]; exact fined_does hg d, by rw [q4]; exact ser_does hi hf d, by rw [q4]; exact Nat.le_trans hv4 hvd, rfl⟩
    repeat (first | exact leEnv_nil | refine leEnv_any _ ?_ | refine leEnv_same _ ?_ | refine leEnv_norm _ ?_)
  have hnc : ¬ ((k : Int) < (l.length : Int) ∧ (k : Int) < 30) := fun q => c ⟨by omega, by omega⟩
  have hS0 : SerE 34 34 0 E.abs := ⟨hi.mono (by omega), hf.mono (by omega), hv4, fun u hu => absurd hu (Nat.not_lt_zero _)⟩
  apply use_of
  rotate_left
  · intro z
    by_cases c1 : (k : Int) < (l.length : Int)
    · have c2 : ¬ (k : Int) < 30 := fun q => hnc ⟨c1, q⟩
      simp -implicitDefEqProofs only [go_sem, reduceCtorEq, Nat.reduceAdd, Nat.reduceMul, Nat.reduceLeDiff, Nat.reduceLT, Int.reduceLE, Int.reduceLT, Int.reduceEq, Nat.reduceBEq, Nat.reduceEqDiff, c1, c2]
      refine awp_weaken (b := [.any, i64 n, i64 v, .any, .any, .any, .any, .ptr E0.id 0, .any, .any, i64 0, .any, .any, .any, .any, .any, .any, .any, .any, .any, .any, .any, .any, .any, .any, .any, .any, .any, .any, .any, .any, .any, .any, .any, .any, .any, .any, .any, .any, .any, .any, .any, .any, .any, .any, .any, .any, .any, .any, .any, .any, .any, .any, .any, .any, .any, .any, .any, .any, .any, .any, .any, .any, .any, .any, .any, .any, .any, .any, .any, .any, .any, .any, .any, .any, .any, .any, .any, .any, .any, .any, .any, .any, .any, .any, .any, .any, .any, .any, .any, .any, .any, .any, .any, .any, .any, .any, .any, .any, .any, .any, .any, .any, .any, .any, .any, .any, .any, .any, .any, .any, .any, .any, .any, .any, .any, .any, .any, .any, .any, .any, .any, .any, .any, .any, .any, .any, .any, .any, .any, .any, .any, .any, .any, .any, .any, .any, .any, .any, .any, .any, .any, .any, .any, .any, .any, .any, .any, .any, .any, .any, .any, .any, .any, .any, .any, .any, .any, .any, .any, .any, .any, .any, .any, .any, .any, .any, .any, .any, .any, .any, .any, .any, .any, .any, .any]) ?_ z
      repeat (first | exact leEnv_nil | refine leEnv_any _ ?_ | refine leEnv_same _ ?_ | refine leEnv_norm _ ?_)
    · simp -implicitDefEqProofs only [go_sem, reduceCtorEq, Nat.reduceAdd, Nat.reduceMul, Nat.reduceLeDiff, Nat.reduceLT, Int.reduceLE, Int.reduceLT, Int.reduceEq, Nat.reduceBEq, Nat.reduceEqDiff, c1]
      refine awp_weaken (b := [.any, i64 n, i64 v, .any, .any, .any, .any, .ptr E0.id 0, .any, .any, i64 0, .any, .any, .any, .any, .any, .any, .any, .any, .any, .any, .any, .any, .any, .any, .any, .any, .any, .any, .any, .any, .any, .any, .any, .any, .any, .any, .any, .any, .any, .any, .any, .any, .any, .any, .any, .any, .any, .any, .any, .any, .any, .any, .any, .any, .any, .any, .any, .any, .any, .any, .any, .any, .any, .any, .any, .any, .any, .any, .any, .any, .any, .any, .any, .any, .any, .any, .any, .any, .any, .any, .any, .any, .any, .any, .any, .any, .any, .any, .any, .any, .any, .any, .any, .any, .any, .any, .any, .any, .any, .any, .any, .any, .any, .any, .any, .any, .any, .any, .any, .any, .any, .any, .any, .any, .any, .any, .any, .any, .any, .any, .any, .any, .any, .any, .any, .any, .any, .any, .any, .any, .any, .any, .any, .any, .any, .any, .any, .any, .any, .any, .any, .any, .any, .any, .any, .any, .any, .any, .any, .any, .any, .any, .any, .any, .any, .any, .any, .any, .any, .any, .any, .any, .any, .any, .any, .any, .any, .any, .any, .any, .any, .any, .any, .any, .any]) ?_ z
      repeat (first | exact leEnv_nil | refine leEnv_any _ ?_ | refine leEnv_same _ ?_ | refine leEnv_norm _ ?_)
  refine AWp.mono (Q := fun e env s2 => e = .exit 2 ∧ ∃ (E2 : EG), EngAt s2 E2 ∧ E2.id = E0.id ∧ SerE 34 (34 + 120 * 8) 8 E2.abs ∧ env = [.any, i64 n, i64 v, .any, .any, .any, .any, .ptr E0.id 0, .any, .any, i64 ((8 : Nat) : Int), .any, .any, .any, .any, .any, .any, .any, .any, .any, .any, .any, .any, .any, .any, .any, .any, .any, .any, .any, .any, .any, .any, .any, .any, .any, .any, .any, .any, .any, .any, .any, .any, .any, .any, .any, .any, .any, .any, .any, .any, i64 ((8 : Nat) : Int), .sc (.bool false), .any, .any, .any, .any, .any, .any, .any, .any, .any, .any, .any, .any, .any, .any, .any, .any, .any, .any, .any, .any, .any, .any, .any, .any, .any, .any, .any, .any, .any, .any, .any, .any, .any, .any, .any, .any, .any, .any, .any, .any, .any, .any, .any, .any, .any, .any, .any, .any, .any, .any, .any, .any, .any, .any, .any, .any, .any, .any, .any, .any, .any, .any, .any, .any, .any, .any, .any, .any, .any, .any, .any, .any, .any, .any, .any, .any, .any, .any, .any, .any, .any, .any, .any, .any, .any, .any, .any, .any, .any, .any, .any, .any, .any, .any, .any, .any, .any, .any, .any, .any, .any, .any, .any, .any, .any, .any, .any, .any, .any, .any, .any, .any, .any, .any, .any, .any, .any, .any, .any, .any, .any, .any, .any]) ?_ ?_
  rotate_left
  · clear hB hi hf hg hv4 hS0 hkm hnc c
    rintro e env s2 ⟨rfl, E2, hE2, e2, hS, rfl⟩
    have hnr := nrm_in n (m := 4) (by decide)
    obtain ⟨nn, hnn⟩ : ∃ nn, nn = nrm n 4 := ⟨_, rfl⟩
    rw [← hnn] at hnr
    obtain ⟨X1, X2, X3, X4, X5, X6, x1, x2, x3, x4, x5, x6, x7, x8, x9, x10⟩ := serial_end hS hnr v
    have hin0 : E2.abs.is nn = true := by
      have := hS.four
      unfold EP.is
      simp; omega
    have hF := hS.fine
    have hF1 : FineP (35 + 120 * 8) X1 := by have := fine_begin hF 3; rw [x1] at this; exact this.mono (by omega)
    have hF2 : FineP (36 + 120 * 8) X2 := by have := fine_read hF1 3 nn; rw [x2] at this; exact this.mono (by omega)
    have hF3 : FineP (37 + 120 * 8) X3 := by have := fine_write hF2 3 nn v; rw [x3] at this; exact this.mono (by omega)
    have hF4 : FineP (38 + 120 * 8) X4 := by have := fine_step hF3 3; rw [x5] at this; exact this.mono (by omega)
    have hF5 : FineP (39 + 120 * 8) X5 := by have := fine_step hF4 3; rw [x6] at this; exact this.mono (by omega)
    obtain ⟨w, hw⟩ : ∃ w, w = E2.abs.vars.getD nn.toNat default := ⟨_, rfl⟩
    rw [← hw] at x2
    have hclk := hF.clk
    have hwc : IntKind.i64.wrap (E2.clock + 1) = E2.abs.clock + 1 := by
      rw [show E2.clock = E2.abs.clock from rfl]
      rw [IntWalk.i64_in _ (by omega)]
    simp -implicitDefEqProofs (maxSteps := 4000000) only [go_sem, reduceCtorEq, Nat.reduceAdd, Nat.reduceMul, Nat.reduceLeDiff, Nat.reduceLT, Int.reduceLE, Int.reduceLT, Int.reduceEq, Nat.reduceBEq, Nat.reduceEqDiff]
    refine ⟨fun c => ?_, fun c => ?_⟩
    · have c : n < 0 := by simpa using c
      have y1 := nrm_w1 hn c
      have y2 := nrm_w2 hn c
      have y3 := nrm_neg (m := 4) c
      rw [← hnn] at y3
      have d1 := value_c hE2 nn
      have hv1 := abs_val E2 nn
      rw [hv1.1, hv1.2, if_pos hin0, if_pos hin0, ← hw, e2] at d1
      simp -implicitDefEqProofs only [go_sem, reduceCtorEq, Nat.reduceAdd, Nat.reduceMul, Nat.reduceLeDiff, Nat.reduceLT, Int.reduceLE, Int.reduceLT, Int.reduceEq, Nat.reduceBEq, Nat.reduceEqDiff, c, y1, y2, y3, hwc]
      refine d1 _ ?_
      have d2 := clock_c hE2
      rw [e2] at d2
      simp -implicitDefEqProofs only [go_sem, reduceCtorEq, Nat.reduceAdd, Nat.reduceMul, Nat.reduceLeDiff, Nat.reduceLT, Int.reduceLE, Int.reduceLT, Int.reduceEq, Nat.reduceBEq, Nat.reduceEqDiff, c, y1, y2, y3, hwc]
      refine d2 _ ?_
      have d3 := begin_c hE2 3
      rw [e2, x1] at d3
      simp -implicitDefEqProofs only [go_sem, reduceCtorEq, Nat.reduceAdd, Nat.reduceMul, Nat.reduceLeDiff, Nat.reduceLT, Int.reduceLE, Int.reduceLT, Int.reduceEq, Nat.reduceBEq, Nat.reduceEqDiff, c, y1, y2, y3, hwc]
      refine d3 _ fun s3 E3 h3 q3 b3 => ?_
      have e3 := q3.id.trans e2
      have b3 : E3.abs = X1 := b3
      have d4 := read_c h3 (FineP.fine h3 (by rw [b3]; exact hF1) (by omega)) 3 nn
      rw [e3, b3, x2] at d4
      simp -implicitDefEqProofs only [go_sem, reduceCtorEq, Nat.reduceAdd, Nat.reduceMul, Nat.reduceLeDiff, Nat.reduceLT, Int.reduceLE, Int.reduceLT, Int.reduceEq, Nat.reduceBEq, Nat.reduceEqDiff, c, y1, y2, y3, hwc]
      refine d4 _ fun s4 E4 h4 q4 b4 => ?_
      have e4 := q4.id.trans e3
      have b4 : E4.abs = X2 := b4
      have d5 := write_c h4 (FineP.fine h4 (by rw [b4]; exact hF2) (by omega)) 3 nn v
      rw [e4, b4, x3] at d5
      simp -implicitDefEqProofs only [go_sem, reduceCtorEq, Nat.reduceAdd, Nat.reduceMul, Nat.reduceLeDiff, Nat.reduceLT, Int.reduceLE, Int.reduceLT, Int.reduceEq, Nat.reduceBEq, Nat.reduceEqDiff, c, y1, y2, y3, hwc]
      refine d5 _ fun s5 E5 h5 q5 b5 => ?_
      have e5 := q5.id.trans e4
      have b5 : E5.abs = X3 := b5
      have d6 := read_c h5 (FineP.fine h5 (by rw [b5]; exact hF3) (by omega)) 3 nn
      rw [e5, b5, x4] at d6
      simp -implicitDefEqProofs only [go_sem, reduceCtorEq, Nat.reduceAdd, Nat.reduceMul, Nat.reduceLeDiff, Nat.reduceLT, Int.reduceLE, Int.reduceLT, Int.reduceEq, Nat.reduceBEq, Nat.reduceEqDiff, c, y1, y2, y3, hwc]
      refine d6 _ fun s6 E6 h6 q6 b6 => ?_
      have e6 := q6.id.trans e5
      have b6 : E6.abs = X3 := b6
      have d7 := step_c h6 (FineP.fine h6 (by rw [b6]; exact hF3) (by omega)) 3
      rw [e6, b6, x5] at d7
      simp -implicitDefEqProofs only [go_sem, reduceCtorEq, Nat.reduceAdd, Nat.reduceMul, Nat.reduceLeDiff, Nat.reduceLT, Int.reduceLE, Int.reduceLT, Int.reduceEq, Nat.reduceBEq, Nat.reduceEqDiff, c, y1, y2, y3, hwc]
      refine d7 _ fun s7 E7 h7 q7 b7 => ?_
      have e7 := q7.id.trans e6
      have b7 : E7.abs = X4 := b7
      have d8 := step_c h7 (FineP.fine h7 (by rw [b7]; exact hF4) (by omega)) 3
      rw [e7, b7, x6] at d8
      simp -implicitDefEqProofs only [go_sem, reduceCtorEq, Nat.reduceAdd, Nat.reduceMul, Nat.reduceLeDiff, Nat.reduceLT, Int.reduceLE, Int.reduceLT, Int.reduceEq, Nat.reduceBEq, Nat.reduceEqDiff, c, y1, y2, y3, hwc]
      refine d8 _ fun s8 E8 h8 q8 b8 => ?_
      have e8 := q8.id.trans e7
      have b8 : E8.abs = X5 := b8
      have d9 := step_c h8 (FineP.fine h8 (by rw [b8]; exact hF5) (by omega)) 3
      rw [e8, b8, x7] at d9
      simp -implicitDefEqProofs only [go_sem, reduceCtorEq, Nat.reduceAdd, Nat.reduceMul, Nat.reduceLeDiff, Nat.reduceLT, Int.reduceLE, Int.reduceLT, Int.reduceEq, Nat.reduceBEq, Nat.reduceEqDiff, c, y1, y2, y3, hwc]
      refine d9 _ fun s9 E9 h9 q9 b9 => ?_
      have e9 := q9.id.trans e8
      have b9 : E9.abs = X6 := b9
      have d10 := value_c h9 nn
      have hv2 := abs_val E9 nn
      rw [hv2.1, hv2.2, b9, if_pos x9, if_pos x9, x10, e9] at d10
      simp -implicitDefEqProofs only [go_sem, reduceCtorEq, Nat.reduceAdd, Nat.reduceMul, Nat.reduceLeDiff, Nat.reduceLT, Int.reduceLE, Int.reduceLT, Int.reduceEq, Nat.reduceBEq, Nat.reduceEqDiff, c, y1, y2, y3, hwc]
      refine d10 _ ?_
      have d11 := clock_c h9
      rw [show E9.clock = E9.abs.clock from rfl, b9, x8, e9] at d11
      have u1 : (w.val == w.val) = true := by simp
      have u2 : (v == v) = true := by simp
      have u3 : (E2.abs.clock + 1 == E2.abs.clock + 1) = true := by simp
      have n0 : ((0 : Int) == 0) = true := rfl
      have n1 : ((1 : Int) == 1) = true := rfl
      have n2 : ((2 : Int) == 2) = true := rfl
      have n4 : ((4 : Int) == 4) = true := rfl
      simp -implicitDefEqProofs only [go_sem, reduceCtorEq, Nat.reduceAdd, Nat.reduceMul, Nat.reduceLeDiff, Nat.reduceLT, Int.reduceLE, Int.reduceLT, Int.reduceEq, Nat.reduceBEq, Nat.reduceEqDiff, c, y1, y2, y3, hwc, u1, u2, n0, n1, n2, n4]
      refine d11 _ ?_
      have d12 := @lives_c s9
      simp -implicitDefEqProofs only [go_sem, reduceCtorEq, Nat.reduceAdd, Nat.reduceMul, Nat.reduceLeDiff, Nat.reduceLT, Int.reduceLE, Int.reduceLT, Int.reduceEq, Nat.reduceBEq, Nat.reduceEqDiff, c, y1, y2, y3, hwc, u1, u2, u3, n0, n1, n2, n4]
      refine d12 _ fun s10 _ _ => ?_
      simp -implicitDefEqProofs only [go_sem, reduceCtorEq, Nat.reduceAdd, Nat.reduceMul, Nat.reduceLeDiff, Nat.reduceLT, Int.reduceLE, Int.reduceLT, Int.reduceEq, Nat.reduceBEq, Nat.reduceEqDiff, c, y1, y2, y3, hwc, u1, u2, u3, n0, n1, n2, n4]
      exact h s10
    · have c : ¬ n < 0 := by simpa using c
      have y3 := nrm_pos (m := 4) c
      rw [← hnn] at y3
      have d1 := value_c hE2 nn
      have hv1 := abs_val E2 nn
      rw [hv1.1, hv1.2, if_pos hin0, if_pos hin0, ← hw, e2] at d1
      simp -implicitDefEqProofs only [go_sem, reduceCtorEq, Nat.reduceAdd, Nat.reduceMul, Nat.reduceLeDiff, Nat.reduceLT, Int.reduceLE, Int.reduceLT, Int.reduceEq, Nat.reduceBEq, Nat.reduceEqDiff, c, y3, hwc]
      refine d1 _ ?_
      have d2 := clock_c hE2
      rw [e2] at d2
      simp -implicitDefEqProofs only [go_sem, reduceCtorEq, Nat.reduceAdd, Nat.reduceMul, Nat.reduceLeDiff, Nat.reduceLT, Int.reduceLE, Int.reduceLT, Int.reduceEq, Nat.reduceBEq, Nat.reduceEqDiff, c, y3, hwc]
      refine d2 _ ?_
      have d3 := begin_c hE2 3
      rw [e2, x1] at d3
      simp -implicitDefEqProofs only [go_sem, reduceCtorEq, Nat.reduceAdd, Nat.reduceMul, Nat.reduceLeDiff, Nat.reduceLT, Int.reduceLE, Int.reduceLT, Int.reduceEq, Nat.reduceBEq, Nat.reduceEqDiff, c, y3, hwc]
      refine d3 _ fun s3 E3 h3 q3 b3 => ?_
      have e3 := q3.id.trans e2
      have b3 : E3.abs = X1 := b3
      have d4 := read_c h3 (FineP.fine h3 (by rw [b3]; exact hF1) (by omega)) 3 nn
      rw [e3, b3, x2] at d4
      simp -implicitDefEqProofs only [go_sem, reduceCtorEq, Nat.reduceAdd, Nat.reduceMul, Nat.reduceLeDiff, Nat.reduceLT, Int.reduceLE, Int.reduceLT, Int.reduceEq, Nat.reduceBEq, Nat.reduceEqDiff, c, y3, hwc]
      refine d4 _ fun s4 E4 h4 q4 b4 => ?_
      have e4 := q4.id.trans e3
      have b4 : E4.abs = X2 := b4
      have d5 := write_c h4 (FineP.fine h4 (by rw [b4]; exact hF2) (by omega)) 3 nn v
      rw [e4, b4, x3] at d5
      simp -implicitDefEqProofs only [go_sem, reduceCtorEq, Nat.reduceAdd, Nat.reduceMul, Nat.reduceLeDiff, Nat.reduceLT, Int.reduceLE, Int.reduceLT, Int.reduceEq, Nat.reduceBEq, Nat.reduceEqDiff, c, y3, hwc]
      refine d5 _ fun s5 E5 h5 q5 b5 => ?_
      have e5 := q5.id.trans e4
      have b5 : E5.abs = X3 := b5
      have d6 := read_c h5 (FineP.fine h5 (by rw [b5]; exact hF3) (by omega)) 3 nn
      rw [e5, b5, x4] at d6
      simp -implicitDefEqProofs only [go_sem, reduceCtorEq, Nat.reduceAdd, Nat.reduceMul, Nat.reduceLeDiff, Nat.reduceLT, Int.reduceLE, Int.reduceLT, Int.reduceEq, Nat.reduceBEq, Nat.reduceEqDiff, c, y3, hwc]
      refine d6 _ fun s6 E6 h6 q6 b6 => ?_
      have e6 := q6.id.trans e5
      have b6 : E6.abs = X3 := b6
      have d7 := step_c h6 (FineP.fine h6 (by rw [b6]; exact hF3) (by omega)) 3
      rw [e6, b6, x5] at d7
      simp -implicitDefEqProofs only [go_sem, reduceCtorEq, Nat.reduceAdd, Nat.reduceMul, Nat.reduceLeDiff, Nat.reduceLT, Int.reduceLE, Int.reduceLT, Int.reduceEq, Nat.reduceBEq, Nat.reduceEqDiff, c, y3, hwc]
      refine d7 _ fun s7 E7 h7 q7 b7 => ?_
      have e7 := q7.id.trans e6
      have b7 : E7.abs = X4 := b7
      have d8 := step_c h7 (FineP.fine h7 (by rw [b7]; exact hF4) (by omega)) 3
      rw [e7, b7, x6] at d8
      simp -implicitDefEqProofs only [go_sem, reduceCtorEq, Nat.reduceAdd, Nat.reduceMul, Nat.reduceLeDiff, Nat.reduceLT, Int.reduceLE, Int.reduceLT, Int.reduceEq, Nat.reduceBEq, Nat.reduceEqDiff, c, y3, hwc]
      refine d8 _ fun s8 E8 h8 q8 b8 => ?_
      have e8 := q8.id.trans e7
      have b8 : E8.abs = X5 := b8
      have d9 := step_c h8 (FineP.fine h8 (by rw [b8]; exact hF5) (by omega)) 3
      rw [e8, b8, x7] at d9
      simp -implicitDefEqProofs only [go_sem, reduceCtorEq, Nat.reduceAdd, Nat.reduceMul, Nat.reduceLeDiff, Nat.reduceLT, Int.reduceLE, Int.reduceLT, Int.reduceEq, Nat.reduceBEq, Nat.reduceEqDiff, c, y3, hwc]
      refine d9 _ fun s9 E9 h9 q9 b9 => ?_
      have e9 := q9.id.trans e8
      have b9 : E9.abs = X6 := b9
      have d10 := value_c h9 nn
      have hv2 := abs_val E9 nn
      rw [hv2.1, hv2.2, b9, if_pos x9, if_pos x9, x10, e9] at d10
      simp -implicitDefEqProofs only [go_sem, reduceCtorEq, Nat.reduceAdd, Nat.reduceMul, Nat.reduceLeDiff, Nat.reduceLT, Int.reduceLE, Int.reduceLT, Int.reduceEq, Nat.reduceBEq, Nat.reduceEqDiff, c, y3, hwc]
      refine d10 _ ?_
      have d11 := clock_c h9
      rw [show E9.clock = E9.abs.clock from rfl, b9, x8, e9] at d11
      have u1 : (w.val == w.val) = true := by simp
      have u2 : (v == v) = true := by simp
      have u3 : (E2.abs.clock + 1 == E2.abs.clock + 1) = true := by simp
      have n0 : ((0 : Int) == 0) = true := rfl
      have n1 : ((1 : Int) == 1) = true := rfl
      have n2 : ((2 : Int) == 2) = true := rfl
      have n4 : ((4 : Int) == 4) = true := rfl
      simp -implicitDefEqProofs only [go_sem, reduceCtorEq, Nat.reduceAdd, Nat.reduceMul, Nat.reduceLeDiff, Nat.reduceLT, Int.reduceLE, Int.reduceLT, Int.reduceEq, Nat.reduceBEq, Nat.reduceEqDiff, c, y3, hwc, u1, u2, n0, n1, n2, n4]
      refine d11 _ ?_
      have d12 := @lives_c s9
      simp -implicitDefEqProofs only [go_sem, reduceCtorEq, Nat.reduceAdd, Nat.reduceMul, Nat.reduceLeDiff, Nat.reduceLT, Int.reduceLE, Int.reduceLT, Int.reduceEq, Nat.reduceBEq, Nat.reduceEqDiff, c, y3, hwc, u1, u2, u3, n0, n1, n2, n4]
      refine d12 _ fun s10 _ _ => ?_
      simp -implicitDefEqProofs only [go_sem, reduceCtorEq, Nat.reduceAdd, Nat.reduceMul, Nat.reduceLeDiff, Nat.reduceLT, Int.reduceLE, Int.reduceLT, Int.reduceEq, Nat.reduceBEq, Nat.reduceEqDiff, c, y3, hwc, u1, u2, u3, n0, n1, n2, n4]
      exact h s10
  refine awp_rounds [] (fun m e s2 => ∃ (t : Nat) (E2 : EG), t + m = 8 ∧ EngAt s2 E2 ∧ E2.id = E0.id ∧ SerE 34 (34 + 120 * t) t E2.abs ∧ e = [.any, i64 n, i64 v, .any, .any, .any, .any, .ptr E0.id 0, .any, .any, i64 t, .any, .any, .any, .any, .any, .any, .any, .any, .any, .any, .any, .any, .any, .any, .any, .any, .any, .any, .any, .any, .any, .any, .any, .any, .any, .any, .any, .any, .any, .any, .any, .any, .any, .any, .any, .any, .any, .any, .any, .any, .any, .any, .any, .any, .any, .any, .any, .any, .any, .any, .any, .any, .any, .any, .any, .any, .any, .any, .any, .any, .any, .any, .any, .any, .any, .any, .any, .any, .any, .any, .any, .any, .any, .any, .any, .any, .any, .any, .any, .any, .any, .any, .any, .any, .any, .any, .any, .any, .any, .any, .any, .any, .any, .any, .any, .any, .any, .any, .any, .any, .any, .any, .any, .any, .any, .any, .any, .any, .any, .any, .any, .any, .any, .any, .any, .any, .any, .any, .any, .any, .any, .any, .any, .any, .any, .any, .any, .any, .any, .any, .any, .any, .any, .any, .any, .any, .any, .any, .any, .any, .any, .any, .any, .any, .any, .any, .any, .any, .any, .any, .any, .any, .any, .any, .any, .any, .any, .any, .any, .any, .any, .any, .any, .any, .any]) (n := 8) ?_ ⟨0, E, by omega, hB.eng, e1, hS0, rfl⟩ ?_
  · repeat (first | exact leEnv_nil | refine leEnv_any _ ?_ | refine leEnv_same _ ?_ | refine leEnv_norm _ ?_)
  clear hB hi hf hg hv4 hS0 hkm hnc c
  rintro m2 e s2 ⟨t, E2, htm, hE2, e2, hS, rfl⟩
  by_cases ht : t < 8
  · have t1 : (t : Int) < 8 := by omega
    have hwt := wrapS t (by omega)
    have hC0 := end_first hS (by omega)
    simp -implicitDefEqProofs only [go_sem, reduceCtorEq, Nat.reduceAdd, Nat.reduceMul, Nat.reduceLeDiff, Nat.reduceLT, Int.reduceLE, Int.reduceLT, Int.reduceEq, Nat.reduceBEq, Nat.reduceEqDiff, t1]
    refine awp_rounds [] (fun q e s3 => ∃ (i : Nat) (E3 : EG), i + q = 60 ∧ EngAt s3 E3 ∧ E3.id = E0.id ∧ SerE 34 (34 + 120 * t + 2 * i) t E3.abs ∧ endC E3.abs t i ∧ e = [.any, i64 n, i64 v, .any, .any, .any, .any, .ptr E0.id 0, .any, .any, i64 t, i64 i, .any, .any, .any, .any, .any, .any, .any, .any, .any, .any, .any, .any, .any, .any, .any, .any, .any, .any, .any, .any, .any, .any, .any, .any, .any, .any, .any, .any, .any, .any, .any, .any, .any, .any, .any, .any, .any, .any, .any, .any, .any, .any, .any, .any, .any, .any, .any, .any, .any, .any, .any, .any, .any, .any, .any, .any, .any, .any, .any, .any, .any, .any, .any, .any, .any, .any, .any, .any, .any, .any, .any, .any, .any, .any, .any, .any, .any, .any, .any, .any, .any, .any, .any, .any, .any, .any, .any, .any, .any, .any, .any, .any, .any, .any, .any, .any, .any, .any, .any, .any, .any, .any, .any, .any, .any, .any, .any, .any, .any, .any, .any, .any, .any, .any, .any, .any, .any, .any, .any, .any, .any, .any, .any, .any, .any, .any, .any, .any, .any, .any, .any, .any, .any, .any, .any, .any, .any, .any, .any, .any, .any, .any, .any, .any, .any, .any, .any, .any, .any, .any, .any, .any, .any, .any, .any, .any, .any, .any, .any, .any, .any, .any, .any, .any]) (n := 60) ?_ ⟨0, E2, by omega, hE2, e2, hS, hC0, rfl⟩ ?_
    · repeat (first | exact leEnv_nil | refine leEnv_any _ ?_ | refine leEnv_same _ ?_ | refine leEnv_norm _ ?_)
    clear hE2 hS hC0
    rintro q e s3 ⟨i, E3, hiq, hE3, e3, hS3, hC3, rfl⟩
    by_cases hi : i < 60
    · have i1 : (i : Int) < 60 := by omega
      have hwi := wrapS i (by omega)
      have ca := active_c hE3 (t : Int)
      rw [abs_some, e3] at ca
      cases hof : E3.abs.of (t : Int) with
      | none =>
        rw [hof] at ca
        have hgo := tx_none ht hS3.fine.len (by rw [hof]; rfl)
        have hnx := hS3.next hgo
        simp -implicitDefEqProofs only [go_sem, reduceCtorEq, Nat.reduceAdd, Nat.reduceMul, Nat.reduceLeDiff, Nat.reduceLT, Int.reduceLE, Int.reduceLT, Int.reduceEq, Nat.reduceBEq, Nat.reduceEqDiff, i1]
        refine ca _ ?_
        simp -implicitDefEqProofs only [go_sem, reduceCtorEq, Nat.reduceAdd, Nat.reduceMul, Nat.reduceLeDiff, Nat.reduceLT, Int.reduceLE, Int.reduceLT, Int.reduceEq, Nat.reduceBEq, Nat.reduceEqDiff, i1, Option.isSome_none, hwt]
        refine ⟨m2 - 1, _, by omega, ?_, t + 1, E3, by omega, hE3, e3, ⟨hnx.ser, hnx.fine.mono (by omega), hnx.four, hnx.gone⟩, rfl⟩
        repeat (first | exact leEnv_nil | refine leEnv_any _ ?_ | refine leEnv_same _ ?_ | refine leEnv_norm _ ?_)
      | some x =>
        rw [hof] at ca
        have hx := (pof_get hof).2
        rw [Int.toNat_natCast] at hx
        have hnr := end_round hS3 ht hC3 hx
        have cb := abort_c hE3 (t : Int)
        rw [e3] at cb
        have hend : endF E3.abs t = if (abortF E3.abs t).1 ≠ 0 then (stepF (abortF E3.abs t).2 t).2 else (abortF E3.abs t).2 := rfl
        have hfa := fine_abort hS3.fine (t : Int)
        obtain ⟨a, ha⟩ : ∃ a, a = abortF E3.abs (t : Int) := ⟨_, rfl⟩
        rw [← ha] at cb hend hfa
        by_cases z : a.1 = 0
        · have zb : (a.1 != 0) = false := by simp [z]
          rw [if_neg (by simp [z])] at hend
          rw [hend] at hnr
          simp -implicitDefEqProofs only [go_sem, reduceCtorEq, Nat.reduceAdd, Nat.reduceMul, Nat.reduceLeDiff, Nat.reduceLT, Int.reduceLE, Int.reduceLT, Int.reduceEq, Nat.reduceBEq, Nat.reduceEqDiff, i1]
          refine ca _ ?_
          simp -implicitDefEqProofs only [go_sem, reduceCtorEq, Nat.reduceAdd, Nat.reduceMul, Nat.reduceLeDiff, Nat.reduceLT, Int.reduceLE, Int.reduceLT, Int.reduceEq, Nat.reduceBEq, Nat.reduceEqDiff, i1, Option.isSome_some]
          refine cb _ fun s4 E4 k1 k2 k3 => ?_
          simp -implicitDefEqProofs only [go_sem, reduceCtorEq, Nat.reduceAdd, Nat.reduceMul, Nat.reduceLeDiff, Nat.reduceLT, Int.reduceLE, Int.reduceLT, Int.reduceEq, Nat.reduceBEq, Nat.reduceEqDiff, i1, Option.isSome_some, zb, hwi]
          refine ⟨q - 1, _, by omega, ?_, i + 1, E4, by omega, k1, k2.id.trans e3, by rw [k3]; exact ⟨hnr.1.ser, hnr.1.fine.mono (by omega), hnr.1.four, hnr.1.gone⟩, by rw [k3]; exact hnr.2, rfl⟩
          repeat (first | exact leEnv_nil | refine leEnv_any _ ?_ | refine leEnv_same _ ?_ | refine leEnv_norm _ ?_)
        · have zb : (a.1 != 0) = true := by simp [z]
          rw [if_pos (by simp [z])] at hend
          rw [hend] at hnr
          simp -implicitDefEqProofs only [go_sem, reduceCtorEq, Nat.reduceAdd, Nat.reduceMul, Nat.reduceLeDiff, Nat.reduceLT, Int.reduceLE, Int.reduceLT, Int.reduceEq, Nat.reduceBEq, Nat.reduceEqDiff, i1]
          refine ca _ ?_
          simp -implicitDefEqProofs only [go_sem, reduceCtorEq, Nat.reduceAdd, Nat.reduceMul, Nat.reduceLeDiff, Nat.reduceLT, Int.reduceLE, Int.reduceLT, Int.reduceEq, Nat.reduceBEq, Nat.reduceEqDiff, i1, Option.isSome_some]
          refine cb _ fun s4 E4 k1 k2 k3 => ?_
          have e4 := k2.id.trans e3
          have cs := step_c k1 (FineP.fine k1 (by rw [k3]; exact hfa) (by omega)) (t : Int)
          rw [e4, k3] at cs
          simp -implicitDefEqProofs only [go_sem, reduceCtorEq, Nat.reduceAdd, Nat.reduceMul, Nat.reduceLeDiff, Nat.reduceLT, Int.reduceLE, Int.reduceLT, Int.reduceEq, Nat.reduceBEq, Nat.reduceEqDiff, i1, Option.isSome_some, zb]
          refine cs _ fun s5 E5 j1 j2 j3 => ?_
          simp -implicitDefEqProofs only [go_sem, reduceCtorEq, Nat.reduceAdd, Nat.reduceMul, Nat.reduceLeDiff, Nat.reduceLT, Int.reduceLE, Int.reduceLT, Int.reduceEq, Nat.reduceBEq, Nat.reduceEqDiff, i1, Option.isSome_some, zb, hwi]
          refine ⟨q - 1, _, by omega, ?_, i + 1, E5, by omega, j1, j2.id.trans e4, by rw [j3]; exact ⟨hnr.1.ser, hnr.1.fine.mono (by omega), hnr.1.four, hnr.1.gone⟩, by rw [j3]; exact hnr.2, rfl⟩
          repeat (first | exact leEnv_nil | refine leEnv_any _ ?_ | refine leEnv_same _ ?_ | refine leEnv_norm _ ?_)
    · obtain rfl : i = 60 := by omega
      have i1 : ((60 : Nat) : Int) < 60 ↔ False := by simp
      have hnx := hS3.next (end_last hS3 ht hC3)
      simp -implicitDefEqProofs only [go_sem, reduceCtorEq, Nat.reduceAdd, Nat.reduceMul, Nat.reduceLeDiff, Nat.reduceLT, Int.reduceLE, Int.reduceLT, Int.reduceEq, Nat.reduceBEq, Nat.reduceEqDiff, i1, hwt]
      refine ⟨m2 - 1, _, by omega, ?_, t + 1, E3, by omega, hE3, e3, ⟨hnx.ser, hnx.fine.mono (by omega), hnx.four, hnx.gone⟩, rfl⟩
      repeat (first | exact leEnv_nil | refine leEnv_any _ ?_ | refine leEnv_same _ ?_ | refine leEnv_norm _ ?_)
  · obtain rfl : t = 8 := by omega
    have t1 : ((8 : Nat) : Int) < 8 ↔ False := by simp
    simp -implicitDefEqProofs only [go_sem, reduceCtorEq, Nat.reduceAdd, Nat.reduceMul, Nat.reduceLeDiff, Nat.reduceLT, Int.reduceLE, Int.reduceLT, Int.reduceEq, Nat.reduceBEq, Nat.reduceEqDiff, t1]
    exact ⟨E2, hE2, e2, hS⟩

end Go.Proofs
