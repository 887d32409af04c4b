/- value, decl, fun, branch. -/
import Derived.Test.YtnjiphlokjfdlaaDoorW5
set_option linter.unusedSimpArgs false
set_option linter.unusedVariables false
set_option maxRecDepth 8000
namespace Go.Proofs
open Go Go.AL
set_option maxHeartbeats 4000000 in
theorem fun_c {T : List Tk} (hT : T.length ≤ 100000) {pid : Nat} {e : PM Nd} (he : HC T pid 29 e) : HC T pid 66 (funF T e) := by
  intro p r p' h K st hp hk
  refine acalls_leK (acalls_go_mod [] Tryd.func66 rfl Tryd.results66 Tryd.ntmps66 ?_)
  unfold funF at h
  simp only [Option.bind_eq_some_iff, Option.map_eq_some_iff, Prod.exists, Prod.mk.injEq] at h
  obtain ⟨t0, p1, h1, t1, p2, h2, p3, h3, x, p4, h4, rfl, rfl⟩ := h
  simp only [go_sem, reduceCtorEq, Nat.reduceAdd, Nat.reduceMul, Nat.reduceLeDiff, Nat.reduceLT, Int.reduceLE, Int.reduceLT, Int.reduceEq, Nat.reduceBEq, Nat.reduceEqDiff]
  refine take_c hT h1 (psat_app hp) ?_
  simp only [go_sem, reduceCtorEq, Nat.reduceAdd, Nat.reduceMul, Nat.reduceLeDiff, Nat.reduceLT, Int.reduceLE, Int.reduceLT, Int.reduceEq, Nat.reduceBEq, Nat.reduceEqDiff, inS_get hp]
  refine word_c hT h2 (psat_seta hp) ?_
  simp only [go_sem, reduceCtorEq, Nat.reduceAdd, Nat.reduceMul, Nat.reduceLeDiff, Nat.reduceLT, Int.reduceLE, Int.reduceLT, Int.reduceEq, Nat.reduceBEq, Nat.reduceEqDiff, inS_get hp]
  refine must_c hT h3 (psat_seta hp) fun _ => ?_
  simp only [go_sem, reduceCtorEq, Nat.reduceAdd, Nat.reduceMul, Nat.reduceLeDiff, Nat.reduceLT, Int.reduceLE, Int.reduceLT, Int.reduceEq, Nat.reduceBEq, Nat.reduceEqDiff, inS_get hp]
  refine in_c he rfl h4 (psat_seta hp) ?_
  simp only [go_sem, reduceCtorEq, Nat.reduceAdd, Nat.reduceMul, Nat.reduceLeDiff, Nat.reduceLT, Int.reduceLE, Int.reduceLT, Int.reduceEq, Nat.reduceBEq, Nat.reduceEqDiff, inS_get hp]
  refine node_c rfl rfl rfl rfl (fun _ => rfl) (ids_nds _ _ (.inr rfl) 6 [x]) ?_
  unfold ndFull
  simp only [go_sem, reduceCtorEq, Nat.reduceAdd, Nat.reduceMul, Nat.reduceLeDiff, Nat.reduceLT, Int.reduceLE, Int.reduceLT, Int.reduceEq, Nat.reduceBEq, Nat.reduceEqDiff, inS_get hp]
  exact fin_nd (z1 := 0) (z2 := 6) (m1 := .full) (m2 := .full) (nd := nodeF 6 t0.pos t1.text [x]) hk (.inr rfl) (.inl rfl)
end Go.Proofs
