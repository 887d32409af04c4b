/- value, decl, fun, branch. -/
import Derived.Test.YtnjiphlokjfdlaaDoorW5
set_option linter.unusedSimpArgs false
set_option linter.unusedVariables false
set_option maxRecDepth 8000
namespace Go.Proofs
open Go Go.AL
set_option maxHeartbeats 4000000 in
theorem branch_c {T : List Tk} (hT : T.length ≤ 100000) {pid : Nat} {e : PM Nd} (he : HC T pid 29 e) : HC T pid 67 (branchF T e) := by
  intro p r p' h K st hp hk
  refine acalls_leK (acalls_go_mod [] Tryd.func67 rfl Tryd.results67 Tryd.ntmps67 ?_)
  unfold branchF at h
  simp only [Option.bind_eq_some_iff, Option.map_eq_some_iff, Prod.exists, Prod.mk.injEq] at h
  obtain ⟨t0, p1, h1, x1, p2, h2, p3, h3, x2, p4, h4, p5, h5, x3, p6, h6, rfl, rfl⟩ := h
  simp only [go_sem, reduceCtorEq, Nat.reduceAdd, Nat.reduceMul, Nat.reduceLeDiff, Nat.reduceLT, Int.reduceLE, Int.reduceLT, Int.reduceEq, Nat.reduceBEq, Nat.reduceEqDiff]
  refine take_c hT h1 (psat_app hp) ?_
  simp only [go_sem, reduceCtorEq, Nat.reduceAdd, Nat.reduceMul, Nat.reduceLeDiff, Nat.reduceLT, Int.reduceLE, Int.reduceLT, Int.reduceEq, Nat.reduceBEq, Nat.reduceEqDiff, inS_get hp]
  refine in_c he rfl h2 (psat_seta hp) ?_
  simp only [go_sem, reduceCtorEq, Nat.reduceAdd, Nat.reduceMul, Nat.reduceLeDiff, Nat.reduceLT, Int.reduceLE, Int.reduceLT, Int.reduceEq, Nat.reduceBEq, Nat.reduceEqDiff, inS_get hp]
  refine must_c hT h3 (psat_seta hp) fun _ => ?_
  simp only [go_sem, reduceCtorEq, Nat.reduceAdd, Nat.reduceMul, Nat.reduceLeDiff, Nat.reduceLT, Int.reduceLE, Int.reduceLT, Int.reduceEq, Nat.reduceBEq, Nat.reduceEqDiff, inS_get hp]
  refine in_c he rfl h4 (psat_seta hp) ?_
  simp only [go_sem, reduceCtorEq, Nat.reduceAdd, Nat.reduceMul, Nat.reduceLeDiff, Nat.reduceLT, Int.reduceLE, Int.reduceLT, Int.reduceEq, Nat.reduceBEq, Nat.reduceEqDiff, inS_get hp]
  refine must_c hT h5 (psat_seta hp) fun _ => ?_
  simp only [go_sem, reduceCtorEq, Nat.reduceAdd, Nat.reduceMul, Nat.reduceLeDiff, Nat.reduceLT, Int.reduceLE, Int.reduceLT, Int.reduceEq, Nat.reduceBEq, Nat.reduceEqDiff, inS_get hp]
  refine awp_drawW [] [(0, [6]), (0, [6]), (0, [6]), (0, []), (3, [6]), (0, []), (3, [7]), (1, [8])] Tryd.mixed rfl ?_
  simp only [go_sem, reduceCtorEq, Nat.reduceAdd, Nat.reduceMul, Nat.reduceLeDiff, Nat.reduceLT, Int.reduceLE, Int.reduceLT, Int.reduceEq, Nat.reduceBEq, Nat.reduceEqDiff, drawW_n, drawW_0, drawW_1, drawW_2, drawW_3, pend_n, pend_c, headD_c, isStore_s]
  refine ⟨_, _, in_c he rfl h6 (psat_seta hp) ⟨rfl, rfl⟩, ?_⟩
  simp only [go_sem, reduceCtorEq, Nat.reduceAdd, Nat.reduceMul, Nat.reduceLeDiff, Nat.reduceLT, Int.reduceLE, Int.reduceLT, Int.reduceEq, Nat.reduceBEq, Nat.reduceEqDiff, drawW_n, drawW_0, drawW_1, drawW_2, drawW_3, pend_n, pend_c, headD_c, isStore_s, inS_get hp]
  rw [dk_eff]
  refine ⟨.slice .full 6 [ndSV x1, ndSV x2, ndSV x3], ?_, ?_⟩
  · simp only [go_sem, reduceCtorEq, Nat.reduceAdd, Nat.reduceMul, Nat.reduceLeDiff, Nat.reduceLT, Int.reduceLE, Int.reduceLT, Int.reduceEq, Nat.reduceBEq, Nat.reduceEqDiff]
    exact ⟨⟨[], by simp⟩, ids_nds _ _ (.inr rfl) _ [_, _, _], .inl rfl⟩
  refine ⟨_, _, node_c rfl rfl rfl rfl (fun _ => rfl) (ids_nds _ _ (.inr rfl) 6 [x1, x2, x3]) ⟨rfl, rfl⟩, ?_⟩
  unfold ndFull
  simp only [go_sem, reduceCtorEq, Nat.reduceAdd, Nat.reduceMul, Nat.reduceLeDiff, Nat.reduceLT, Int.reduceLE, Int.reduceLT, Int.reduceEq, Nat.reduceBEq, Nat.reduceEqDiff, drawW_n, drawW_0, drawW_1, drawW_2, drawW_3, pend_n, pend_c, headD_c, isStore_s, inS_get hp]
  exact fin_nd (z1 := 0) (z2 := 6) (m1 := .full) (m2 := .full) (nd := nodeF 10 t0.pos [] [x1, x2, x3]) hk (.inr rfl) (.inl rfl)
end Go.Proofs
