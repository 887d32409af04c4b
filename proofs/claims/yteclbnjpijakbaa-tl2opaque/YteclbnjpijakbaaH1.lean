/- The harness: lives. -/
import Derived.Test.YteclbnjpijakbaaH0
set_option linter.unusedSimpArgs false
set_option linter.unusedVariables false
set_option maxRecDepth 8000
namespace Go.Proofs
open Go Go.AL

def lv1 : EP := (makeF EP.new 5).2
def lv2 : EP := (beginF lv1 1).2
def lv3 : EP := (beginF lv2 0).2
def lv4 : EP := (readF lv3 0 0).2
def lv5 : EP := (writeF lv4 0 0 6).2
def lv6 : EP := (stepF lv5 0).2
def lv7 : EP := (stepF lv6 0).2
def lv8 : EP := (stepF lv7 0).2
def lv9 : EP := (readF lv8 1 0).2

theorem lvr1 : (makeF EP.new 5).1 = (0, 0) := by rfl
theorem lvr4 : (readF lv3 0 0).1 = (5, 0) := by rfl
theorem lvr6 : (stepF lv5 0).1 = (1, 0) := by rfl
theorem lvr7 : (stepF lv6 0).1 = (2, 0) := by rfl
theorem lvr8 : (stepF lv7 0).1 = (4, 0) := by rfl
theorem lvr9 : (readF lv8 1 0).1 = (0, 33) := by rfl
theorem lvv8 : lv8.is 0 = true ∧ (lv8.vars.getD (0 : Int).toNat default).val = 6 := ⟨rfl, rfl⟩
theorem lva9 : (lv9.of 0).isSome = false := rfl

theorem lf1 : FineP 1 lv1 := fine_make fine_new 5
theorem lf2 : FineP 2 lv2 := fine_begin lf1 1
theorem lf3 : FineP 3 lv3 := fine_begin lf2 0
theorem lf4 : FineP 4 lv4 := fine_read lf3 0 0
theorem lf5 : FineP 5 lv5 := fine_write lf4 0 0 6
theorem lf6 : FineP 6 lv6 := fine_step lf5 0
theorem lf7 : FineP 7 lv7 := fine_step lf6 0
theorem lf8 : FineP 8 lv8 := fine_step lf7 0
theorem lf9 : FineP 9 lv9 := fine_read lf8 1 0

theorem abs_val (E : EG) (n : Int) : (if E.is n = true then (E.vars.getD n.toNat default).val else 0) = (if E.abs.is n = true then (E.abs.vars.getD n.toNat default).val else 0) ∧ (if E.is n = true then (0 : Int) else 1) = (if E.abs.is n = true then 0 else 1) := ⟨rfl, rfl⟩
theorem abs_some (E : EG) (t : Int) : (E.of t).isSome = (E.abs.of t).isSome := by rw [abs_of]; cases E.of t <;> rfl

theorem new_c2 {st : St} (K : SV → St → Prop) (h : ∀ s E, EngAt s E → E.id = st.length → E.abs = EP.new → (∀ j, E.has j → st.length ≤ j) → (∀ j, j < st.length → s[j]? = st[j]?) → st.length ≤ s.length → K (.ptr st.length 0) s) : ACalls Try.prog 42 [] K st :=
  new_c K fun s h0 h1 h2 => h s _ h0 rfl rfl (fun j hj => by
    rcases hj with e | e | ⟨t, x, hx, _⟩
    · rw [e]; exact Nat.le_refl _
    · rw [e]; exact Nat.le_succ _
    · simp only [EG.new, List.getElem?_replicate] at hx
      split at hx <;> cases hx) h1 h2

set_option maxHeartbeats 4000000 in
theorem lives_at {v1 v2 v3 v4 v5 v6 v7 v8 v9 : EP} (g1 : makeF EP.new 5 = ((0, 0), v1)) (g2 : beginF v1 1 = (0, v2)) (g3 : beginF v2 0 = (0, v3)) (g4 : readF v3 0 0 = ((5, 0), v4)) (g5 : writeF v4 0 0 6 = (0, v5)) (g6 : stepF v5 0 = ((1, 0), v6)) (g7 : stepF v6 0 = ((2, 0), v7)) (g8 : stepF v7 0 = ((4, 0), v8)) (g9 : readF v8 1 0 = ((0, 33), v9)) (gv : v8.is 0 = true ∧ (v8.vars.getD (0 : Int).toNat default).val = 6) (ga : (v9.of 0).isSome = false) (l3 : FineP 3 v3) (l4 : FineP 4 v4) (l5 : FineP 5 v5) (l6 : FineP 6 v6) (l7 : FineP 7 v7) (l8 : FineP 8 v8)
    {st : St} (K : SV → St → Prop) (h : ∀ s, st.length ≤ s.length → (∀ j, j < st.length → s[j]? = st[j]?) → K (.sc (.bool true)) s) : ACalls Try.prog 18 [] K st := by
  refine acalls_go (M := []) Try.func18 rfl Try.results18 Try.ntmps18 ?_
  have hnew := @new_c2 st
  simp -implicitDefEqProofs only [go_sem, reduceCtorEq, Nat.reduceAdd, Nat.reduceMul, Nat.reduceLeDiff, Nat.reduceLT, Int.reduceLE, Int.reduceLT, Int.reduceEq, Nat.reduceBEq, Nat.reduceEqDiff]
  refine hnew _ fun s0 E0 h0 e0 f0 o0 hold hlen => ?_
  have c1 := make_c h0 5
  rw [e0, f0, g1] at c1
  simp -implicitDefEqProofs only [go_sem, reduceCtorEq, Nat.reduceAdd, Nat.reduceMul, Nat.reduceLeDiff, Nat.reduceLT, Int.reduceLE, Int.reduceLT, Int.reduceEq, Nat.reduceBEq, Nat.reduceEqDiff]
  refine c1 _ fun s1 E1 h1 q1 a1 => ?_
  have e1 := q1.id.trans e0
  have a1 : E1.abs = v1 := a1
  have c2 := begin_c h1 1
  rw [e1, a1, g2] at c2
  simp -implicitDefEqProofs only [go_sem, reduceCtorEq, Nat.reduceAdd, Nat.reduceMul, Nat.reduceLeDiff, Nat.reduceLT, Int.reduceLE, Int.reduceLT, Int.reduceEq, Nat.reduceBEq, Nat.reduceEqDiff]
  refine c2 _ fun s2 E2 h2 q2 a2 => ?_
  have e2 := q2.id.trans e1
  have a2 : E2.abs = v2 := a2
  have c3 := begin_c h2 0
  rw [e2, a2, g3] at c3
  simp -implicitDefEqProofs only [go_sem, reduceCtorEq, Nat.reduceAdd, Nat.reduceMul, Nat.reduceLeDiff, Nat.reduceLT, Int.reduceLE, Int.reduceLT, Int.reduceEq, Nat.reduceBEq, Nat.reduceEqDiff]
  refine c3 _ fun s3 E3 h3 q3 a3 => ?_
  have e3 := q3.id.trans e2
  have a3 : E3.abs = v3 := a3
  have c4 := read_c h3 (FineP.fine h3 (by rw [a3]; exact l3) (by decide)) 0 0
  rw [e3, a3, g4] at c4
  simp -implicitDefEqProofs only [go_sem, reduceCtorEq, Nat.reduceAdd, Nat.reduceMul, Nat.reduceLeDiff, Nat.reduceLT, Int.reduceLE, Int.reduceLT, Int.reduceEq, Nat.reduceBEq, Nat.reduceEqDiff]
  refine c4 _ fun s4 E4 h4 q4 a4 => ?_
  have e4 := q4.id.trans e3
  have a4 : E4.abs = v4 := a4
  have c5 := write_c h4 (FineP.fine h4 (by rw [a4]; exact l4) (by decide)) 0 0 6
  rw [e4, a4, g5] at c5
  simp -implicitDefEqProofs only [go_sem, reduceCtorEq, Nat.reduceAdd, Nat.reduceMul, Nat.reduceLeDiff, Nat.reduceLT, Int.reduceLE, Int.reduceLT, Int.reduceEq, Nat.reduceBEq, Nat.reduceEqDiff]
  refine c5 _ fun s5 E5 h5 q5 a5 => ?_
  have e5 := q5.id.trans e4
  have a5 : E5.abs = v5 := a5
  have c6 := step_c h5 (FineP.fine h5 (by rw [a5]; exact l5) (by decide)) 0
  rw [e5, a5, g6] at c6
  simp -implicitDefEqProofs only [go_sem, reduceCtorEq, Nat.reduceAdd, Nat.reduceMul, Nat.reduceLeDiff, Nat.reduceLT, Int.reduceLE, Int.reduceLT, Int.reduceEq, Nat.reduceBEq, Nat.reduceEqDiff]
  refine c6 _ fun s6 E6 h6 q6 a6 => ?_
  have e6 := q6.id.trans e5
  have a6 : E6.abs = v6 := a6
  have c7 := step_c h6 (FineP.fine h6 (by rw [a6]; exact l6) (by decide)) 0
  rw [e6, a6, g7] at c7
  simp -implicitDefEqProofs only [go_sem, reduceCtorEq, Nat.reduceAdd, Nat.reduceMul, Nat.reduceLeDiff, Nat.reduceLT, Int.reduceLE, Int.reduceLT, Int.reduceEq, Nat.reduceBEq, Nat.reduceEqDiff]
  refine c7 _ fun s7 E7 h7 q7 a7 => ?_
  have e7 := q7.id.trans e6
  have a7 : E7.abs = v7 := a7
  have c8 := step_c h7 (FineP.fine h7 (by rw [a7]; exact l7) (by decide)) 0
  rw [e7, a7, g8] at c8
  simp -implicitDefEqProofs only [go_sem, reduceCtorEq, Nat.reduceAdd, Nat.reduceMul, Nat.reduceLeDiff, Nat.reduceLT, Int.reduceLE, Int.reduceLT, Int.reduceEq, Nat.reduceBEq, Nat.reduceEqDiff]
  refine c8 _ fun s8 E8 h8 q8 a8 => ?_
  have e8 := q8.id.trans e7
  have a8 : E8.abs = v8 := a8
  have c9 := value_c h8 0
  have hv := abs_val E8 0
  rw [hv.1, hv.2, e8, a8, if_pos gv.1, if_pos gv.1, gv.2] at c9
  simp -implicitDefEqProofs only [go_sem, reduceCtorEq, Nat.reduceAdd, Nat.reduceMul, Nat.reduceLeDiff, Nat.reduceLT, Int.reduceLE, Int.reduceLT, Int.reduceEq, Nat.reduceBEq, Nat.reduceEqDiff]
  refine c9 _ ?_
  have c10 := read_c h8 (FineP.fine h8 (by rw [a8]; exact l8) (by decide)) 1 0
  rw [e8, a8, g9] at c10
  simp -implicitDefEqProofs only [go_sem, reduceCtorEq, Nat.reduceAdd, Nat.reduceMul, Nat.reduceLeDiff, Nat.reduceLT, Int.reduceLE, Int.reduceLT, Int.reduceEq, Nat.reduceBEq, Nat.reduceEqDiff]
  refine c10 _ fun s9 E9 h9 q9 a9 => ?_
  have e9 := q9.id.trans e8
  have a9 : E9.abs = v9 := a9
  have c11 := active_c h9 0
  rw [abs_some, e9, a9, ga] at c11
  simp -implicitDefEqProofs only [go_sem, reduceCtorEq, Nat.reduceAdd, Nat.reduceMul, Nat.reduceLeDiff, Nat.reduceLT, Int.reduceLE, Int.reduceLT, Int.reduceEq, Nat.reduceBEq, Nat.reduceEqDiff]
  refine ⟨fun _ => c11 _ ?_, fun e => absurd e (by decide)⟩
  simp -implicitDefEqProofs only [go_sem, reduceCtorEq, Nat.reduceAdd, Nat.reduceMul, Nat.reduceLeDiff, Nat.reduceLT, Int.reduceLE, Int.reduceLT, Int.reduceEq, Nat.reduceBEq, Nat.reduceEqDiff]
  have Q := (((((((q1.trans q2).trans q3).trans q4).trans q5).trans q6).trans q7).trans q8).trans q9
  exact h s9 (Nat.le_trans hlen Q.len) fun j hj => (Q.old j (Nat.lt_of_lt_of_le hj hlen) fun hh => by have := o0 j hh; omega).trans (hold j hj)

theorem lives_c {st : St} (K : SV → St → Prop) (h : ∀ s, st.length ≤ s.length → (∀ j, j < st.length → s[j]? = st[j]?) → K (.sc (.bool true)) s) : ACalls Try.prog 18 [] K st :=
  lives_at (v1 := lv1) (v2 := lv2) (v3 := lv3) (v4 := lv4) (v5 := lv5) (v6 := lv6) (v7 := lv7) (v8 := lv8) (v9 := lv9) (Prod.ext lvr1 rfl) rfl rfl (Prod.ext lvr4 rfl) rfl (Prod.ext lvr6 rfl) (Prod.ext lvr7 rfl) (Prod.ext lvr8 rfl) (Prod.ext lvr9 rfl) lvv8 lva9 lf3 lf4 lf5 lf6 lf7 lf8 K h

end Go.Proofs
