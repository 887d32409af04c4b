/- value, decl, fun, branch. -/
import Derived.Test.YtnjiphlokjfdlaaDoorW6
set_option linter.unusedSimpArgs false
set_option linter.unusedVariables false
set_option maxRecDepth 8000
namespace Go.Proofs
open Go Go.AL
set_option maxHeartbeats 4000000 in
theorem decl_c {T : List Tk} (hT : T.length ≤ 100000) {pid : Nat} {e ty : PM Nd} (he : HC T pid 29 e) (hy : HC T pid 80 ty) : HC T pid 26 (declF T e ty) := by
  intro p r p' h K st hp hk
  refine acalls_leK (acalls_go_mod [] Tryd.func26 rfl Tryd.results26 Tryd.ntmps26 ?_)
  unfold declF isF at h
  simp only [Option.bind_eq_some_iff, Option.map_eq_some_iff, Prod.exists, Prod.mk.injEq] at h
  obtain ⟨b, ⟨t, h0, rfl⟩, u, pu, h1, p1, h2, rfl, rfl⟩ := h
  cases hb : isT t [116, 121, 112, 101] with
  | true =>
    rw [hb, if_pos rfl] at h1
    simp only [go_sem, reduceCtorEq, Nat.reduceAdd, Nat.reduceMul, Nat.reduceLeDiff, Nat.reduceLT, Int.reduceLE, Int.reduceLT, Int.reduceEq, Nat.reduceBEq, Nat.reduceEqDiff]
    refine is_c h0 (psat_app hp) ?_
    simp only [go_sem, reduceCtorEq, Nat.reduceAdd, Nat.reduceMul, Nat.reduceLeDiff, Nat.reduceLT, Int.reduceLE, Int.reduceLT, Int.reduceEq, Nat.reduceBEq, Nat.reduceEqDiff, hb]
    refine decltype_c hT hy _ _ _ h1 _ _ (psat_app hp) ?_
    simp only [go_sem, reduceCtorEq, Nat.reduceAdd, Nat.reduceMul, Nat.reduceLeDiff, Nat.reduceLT, Int.reduceLE, Int.reduceLT, Int.reduceEq, Nat.reduceBEq, Nat.reduceEqDiff, inS_get hp]
    refine must_c hT h2 (psat_seta hp) fun _ => ?_
    simp only [go_sem, reduceCtorEq, Nat.reduceAdd, Nat.reduceMul, Nat.reduceLeDiff, Nat.reduceLT, Int.reduceLE, Int.reduceLT, Int.reduceEq, Nat.reduceBEq, Nat.reduceEqDiff, inS_get hp]
    exact fin_nd' hk
  | false =>
    rw [hb, if_neg (by simp)] at h1
    simp only [Option.bind_eq_some_iff, Option.map_eq_some_iff, Prod.exists, Prod.mk.injEq] at h1
    obtain ⟨t1, p2, h3, nm, rc, v, p3, h4, rfl, rfl⟩ := h1
    cases rc with
    | true =>
      simp only [go_sem, reduceCtorEq, Nat.reduceAdd, Nat.reduceMul, Nat.reduceLeDiff, Nat.reduceLT, Int.reduceLE, Int.reduceLT, Int.reduceEq, Nat.reduceBEq, Nat.reduceEqDiff]
      refine is_c h0 (psat_app hp) ?_
      simp only [go_sem, reduceCtorEq, Nat.reduceAdd, Nat.reduceMul, Nat.reduceLeDiff, Nat.reduceLT, Int.reduceLE, Int.reduceLT, Int.reduceEq, Nat.reduceBEq, Nat.reduceEqDiff, hb]
      refine take_c hT h3 (psat_app hp) ?_
      have y1 := pfacts (psat_set (p' := p2) hp)
      unfold psL
      simp only [go_sem, reduceCtorEq, Nat.reduceAdd, Nat.reduceMul, Nat.reduceLeDiff, Nat.reduceLT, Int.reduceLE, Int.reduceLT, Int.reduceEq, Nat.reduceBEq, Nat.reduceEqDiff, inS_get hp, y1.1, y1.2.1, y1.2.2]
      first | (unfold ACallsH; simp only [put_some, put_none', ev_tmp, List.set_cons_succ, List.set_cons_zero, List.getD_cons_succ, List.getD_cons_zero]) | skip
      refine value_c hT he _ _ _ _ _ h4 _ _ (psat_seta hp) ?_
      have y2 := pfacts (psat_set (p' := p3) hp)
      unfold psL
      simp only [go_sem, reduceCtorEq, Nat.reduceAdd, Nat.reduceMul, Nat.reduceLeDiff, Nat.reduceLT, Int.reduceLE, Int.reduceLT, Int.reduceEq, Nat.reduceBEq, Nat.reduceEqDiff, inS_get hp, y2.1, y2.2.1, y2.2.2]
      first | (unfold ACallsH; simp only [put_some, put_none', ev_tmp, List.set_cons_succ, List.set_cons_zero, List.getD_cons_succ, List.getD_cons_zero]) | skip
      refine node_c rfl rfl rfl rfl (fun _ => rfl) (ids_nds _ _ (.inr rfl) 6 [v]) ?_
      unfold ndFull
      simp only [go_sem, reduceCtorEq, Nat.reduceAdd, Nat.reduceMul, Nat.reduceLeDiff, Nat.reduceLT, Int.reduceLE, Int.reduceLT, Int.reduceEq, Nat.reduceBEq, Nat.reduceEqDiff, inS_get hp]
      first | (unfold ACallsH; simp only [put_some, put_none', ev_tmp, List.set_cons_succ, List.set_cons_zero, List.getD_cons_succ, List.getD_cons_zero]) | skip
      refine must_c hT h2 (psat_seta hp) fun _ => ?_
      simp only [go_sem, reduceCtorEq, Nat.reduceAdd, Nat.reduceMul, Nat.reduceLeDiff, Nat.reduceLT, Int.reduceLE, Int.reduceLT, Int.reduceEq, Nat.reduceBEq, Nat.reduceEqDiff, inS_get hp]
      exact fin_nd (z1 := 0) (z2 := 6) (m1 := .full) (m2 := .full) (nd := nodeF 29 t1.pos nm [v]) hk (.inr rfl) (.inl rfl)
    | false =>
      simp only [go_sem, reduceCtorEq, Nat.reduceAdd, Nat.reduceMul, Nat.reduceLeDiff, Nat.reduceLT, Int.reduceLE, Int.reduceLT, Int.reduceEq, Nat.reduceBEq, Nat.reduceEqDiff]
      refine is_c h0 (psat_app hp) ?_
      simp only [go_sem, reduceCtorEq, Nat.reduceAdd, Nat.reduceMul, Nat.reduceLeDiff, Nat.reduceLT, Int.reduceLE, Int.reduceLT, Int.reduceEq, Nat.reduceBEq, Nat.reduceEqDiff, hb]
      refine take_c hT h3 (psat_app hp) ?_
      have y1 := pfacts (psat_set (p' := p2) hp)
      unfold psL
      simp only [go_sem, reduceCtorEq, Nat.reduceAdd, Nat.reduceMul, Nat.reduceLeDiff, Nat.reduceLT, Int.reduceLE, Int.reduceLT, Int.reduceEq, Nat.reduceBEq, Nat.reduceEqDiff, inS_get hp, y1.1, y1.2.1, y1.2.2]
      first | (unfold ACallsH; simp only [put_some, put_none', ev_tmp, List.set_cons_succ, List.set_cons_zero, List.getD_cons_succ, List.getD_cons_zero]) | skip
      refine value_c hT he _ _ _ _ _ h4 _ _ (psat_seta hp) ?_
      have y2 := pfacts (psat_set (p' := p3) hp)
      unfold psL
      simp only [go_sem, reduceCtorEq, Nat.reduceAdd, Nat.reduceMul, Nat.reduceLeDiff, Nat.reduceLT, Int.reduceLE, Int.reduceLT, Int.reduceEq, Nat.reduceBEq, Nat.reduceEqDiff, inS_get hp, y2.1, y2.2.1, y2.2.2]
      first | (unfold ACallsH; simp only [put_some, put_none', ev_tmp, List.set_cons_succ, List.set_cons_zero, List.getD_cons_succ, List.getD_cons_zero]) | skip
      refine node_c rfl rfl rfl rfl (fun _ => rfl) (ids_nds _ _ (.inr rfl) 6 [v]) ?_
      unfold ndFull
      simp only [go_sem, reduceCtorEq, Nat.reduceAdd, Nat.reduceMul, Nat.reduceLeDiff, Nat.reduceLT, Int.reduceLE, Int.reduceLT, Int.reduceEq, Nat.reduceBEq, Nat.reduceEqDiff, inS_get hp]
      first | (unfold ACallsH; simp only [put_some, put_none', ev_tmp, List.set_cons_succ, List.set_cons_zero, List.getD_cons_succ, List.getD_cons_zero]) | skip
      refine must_c hT h2 (psat_seta hp) fun _ => ?_
      simp only [go_sem, reduceCtorEq, Nat.reduceAdd, Nat.reduceMul, Nat.reduceLeDiff, Nat.reduceLT, Int.reduceLE, Int.reduceLT, Int.reduceEq, Nat.reduceBEq, Nat.reduceEqDiff, inS_get hp]
      exact fin_nd (z1 := 0) (z2 := 6) (m1 := .full) (m2 := .full) (nd := nodeF 28 t1.pos nm [v]) hk (.inr rfl) (.inl rfl)
end Go.Proofs
