/- placed. -/
import Derived.Test.YtnjiphlokjfdlaaDoorW36
import Derived.Test.YtnjiphlokjfdlaaDoorP4
set_option linter.unusedSimpArgs false
set_option linter.unusedVariables false
set_option maxRecDepth 8000
namespace Go.Proofs
open Go Go.AL
theorem tkSV_get {l : List Tk} {i : Nat} (h : i < l.length) : (l.map tkSV).getD i .any = tkSV l[i] := by simp [List.getD_eq_getElem?_getD, h]
theorem ndSV_get' {l : List Nd} {i : Nat} (h : i < l.length) : (l.map ndSV).getD i .any = ndSV l[i] := by simp [List.getD_eq_getElem?_getD, h]
set_option maxHeartbeats 4000000 in
theorem placedS_c {T : List Tk} (hT : T.length ≤ 10000) {nd : Nd} (hat : ∃ t ∈ T, t.pos = nd.pos) (h2 : ∀ c ∈ nd.kids, nd.pos ≤ c.pos) (h3 : nd.kids.length ≤ 20000)
    (ih : ∀ c ∈ nd.kids, ∀ (K : SV → St → Prop) (st : St), K (.sc (.bool true)) st → ACalls Tryd.prog 15 [ndSV c, .slice .imm 4 (T.map tkSV)] K st) {K : SV → St → Prop} {st : St} (hk : K (.sc (.bool true)) st) : ACalls Tryd.prog 15 [ndSV nd, .slice .imm 4 (T.map tkSV)] K st := by
  refine acalls_go_pure [] Tryd.func15 rfl Tryd.results15 Tryd.ntmps15 ?_
  simp only [go_sem, reduceCtorEq, Nat.reduceAdd, Nat.reduceMul, Nat.reduceLeDiff, Nat.reduceLT, Int.reduceLE, Int.reduceLT, Int.reduceEq, Nat.reduceBEq, Nat.reduceEqDiff]
  refine AWp.mono (Q := fun e env s' => e = .exit 0 ∧ (∃ x0 x1 x2 x3 x4, env = [.any, .slice .imm 4 (T.map tkSV), .ref (ndSV nd).cells, .any, .any, .sc (.bool true), x0, .any, .any, x1, x2, x3, x4, .any, .any, .any, .any, .any, .any, .any, .any, .any, .any, .any, .any, .any, .any, .any, .any, .any, .any, .any, .any, .any, .any, .any, .any, .any, .any, .any, .any, .any, .any, .any, .any, .any, .any, .any, .any, .any, .any, .any, .any, .any, .any]) ∧ s' = st) ?_ ?_
  · refine awp_rounds [] (fun m env s' => ∃ (i : Nat) (b : Bool), m + i = T.length ∧ (b = true ↔ ∃ t ∈ T.take i, t.pos = nd.pos) ∧ env = [.any, .slice .imm 4 (T.map tkSV), .ref (ndSV nd).cells, .any, .any, .sc (.bool b), .sc (.int .i64 i), .any, .any, .any, .any, .any, .any, .any, .any, .any, .any, .any, .any, .any, .any, .any, .any, .any, .any, .any, .any, .any, .any, .any, .any, .any, .any, .any, .any, .any, .any, .any, .any, .any, .any, .any, .any, .any, .any, .any, .any, .any, .any, .any, .any, .any, .any, .any, .any] ∧ s' = st) (n := T.length) ?_ ⟨0, false, by omega, by simp, rfl, rfl⟩ ?_
    · repeat (first | exact leEnv_nil | refine leEnv_any _ ?_ | refine leEnv_same _ ?_ | refine leEnv_norm _ ?_)
    rintro m env s' ⟨i, b, hm, hb, rfl, rfl⟩
    have w1 : IntKind.i64.wrap ((i : Int) + 1) = ((i + 1 : Nat) : Int) := by rw [IntWalk.i64_in _ (by omega)]; rfl
    by_cases hl : i < T.length
    · have c1 : decide ((i : Int) < (T.length : Int)) = true := by simp; omega
      have g := tkSV_get hl
      have htk : ∀ P : Tk → Prop, (∃ t ∈ T.take (i + 1), P t) ↔ (∃ t ∈ T.take i, P t) ∨ P T[i] := fun P => by
        rw [List.take_succ_eq_append_getElem hl]
        constructor
        · rintro ⟨t, ht, hp⟩
          rw [List.mem_append, List.mem_singleton] at ht
          rcases ht with ht | rfl
          · exact .inl ⟨t, ht, hp⟩
          · exact .inr hp
        · rintro (⟨t, ht, hp⟩ | hp)
          · exact ⟨t, List.mem_append_left _ ht, hp⟩
          · exact ⟨T[i], List.mem_append_right _ (by simp), hp⟩
      cases b with
      | true =>
        simp only [go_sem, reduceCtorEq, Nat.reduceAdd, Nat.reduceMul, Nat.reduceLeDiff, Nat.reduceLT, Int.reduceLE, Int.reduceLT, Int.reduceEq, Nat.reduceBEq, Nat.reduceEqDiff, List.length_map, c1]
        refine awp_draw [] Tryd.mixed rfl ?_
        simp only [go_sem, reduceCtorEq, Nat.reduceAdd, Nat.reduceMul, Nat.reduceLeDiff, Nat.reduceLT, Int.reduceLE, Int.reduceLT, Int.reduceEq, Nat.reduceBEq, Nat.reduceEqDiff, List.length_map, c1, g, cells_nd, w1]
        refine ⟨m - 1, _, by omega, ?_, i + 1, true, by omega, ⟨fun _ => (htk _).2 (.inl (hb.1 rfl)), fun _ => rfl⟩, rfl⟩
        repeat (first | exact leEnv_nil | refine leEnv_any _ ?_ | refine leEnv_same _ ?_ | refine leEnv_norm _ ?_)
      | false =>
        simp only [go_sem, reduceCtorEq, Nat.reduceAdd, Nat.reduceMul, Nat.reduceLeDiff, Nat.reduceLT, Int.reduceLE, Int.reduceLT, Int.reduceEq, Nat.reduceBEq, Nat.reduceEqDiff, List.length_map, c1]
        refine awp_draw [] Tryd.mixed rfl ?_
        simp only [go_sem, reduceCtorEq, Nat.reduceAdd, Nat.reduceMul, Nat.reduceLeDiff, Nat.reduceLT, Int.reduceLE, Int.reduceLT, Int.reduceEq, Nat.reduceBEq, Nat.reduceEqDiff, List.length_map, c1, g, cells_nd, w1]
        refine ⟨by omega, m - 1, _, by omega, ?_, i + 1, T[i].pos == nd.pos, by omega, ?_, rfl⟩
        · repeat (first | exact leEnv_nil | refine leEnv_any _ ?_ | refine leEnv_same _ ?_ | refine leEnv_norm _ ?_)
        · rw [htk, beq_iff_eq]
          exact ⟨.inr, fun h => h.resolve_left fun h => (by have := hb.2 h; cases this)⟩
    · have c1 : decide ((i : Int) < (T.length : Int)) = false := by simp; omega
      have hbt : b = true := hb.2 (by rw [List.take_of_length_le (by omega)]; exact hat)
      subst hbt
      simp only [go_sem, reduceCtorEq, Nat.reduceAdd, Nat.reduceMul, Nat.reduceLeDiff, Nat.reduceLT, Int.reduceLE, Int.reduceLT, Int.reduceEq, Nat.reduceBEq, Nat.reduceEqDiff, List.length_map, c1]
      exact ⟨_, _, _, _, _, rfl⟩
  · rintro e env s' ⟨rfl, ⟨x0, x1, x2, x3, x4, rfl⟩, rfl⟩
    simp only [go_sem, reduceCtorEq, Nat.reduceAdd, Nat.reduceMul, Nat.reduceLeDiff, Nat.reduceLT, Int.reduceLE, Int.reduceLT, Int.reduceEq, Nat.reduceBEq, Nat.reduceEqDiff]
    refine awp_rounds [] (fun m env s'' => ∃ (i : Nat), m + i = nd.kids.length ∧ env = [.any, .slice .imm 4 (T.map tkSV), .ref (ndSV nd).cells, .any, .any, .any, .any, .sc (.int .i64 i), .any, .any, .any, .any, .any, .any, .any, .any, .any, .any, .any, .any, .any, .any, .any, .any, .any, .any, .any, .any, .any, .any, .any, .any, .any, .any, .any, .any, .any, .any, .any, .any, .any, .any, .any, .any, .any, .any, .any, .any, .any, .any, .any, .any, .any, .any, .any] ∧ s'' = s') (n := nd.kids.length) ?_ ⟨0, by omega, rfl, rfl⟩ ?_
    · repeat (first | exact leEnv_nil | refine leEnv_any _ ?_ | refine leEnv_same _ ?_ | refine leEnv_norm _ ?_)
    rintro m env s'' ⟨i, hm, rfl, rfl⟩
    have w1 : IntKind.i64.wrap ((i : Int) + 1) = ((i + 1 : Nat) : Int) := by rw [IntWalk.i64_in _ (by omega)]; rfl
    by_cases hl : i < nd.kids.length
    · have c1 : decide ((i : Int) < (nd.kids.length : Int)) = true := by simp; omega
      have g := ndSV_get' hl
      have hmem := List.getElem_mem hl
      have hge := h2 _ hmem
      have hih := ih _ hmem
      have c2 : decide (nd.kids[i].pos < nd.pos) = false := by simp; omega
      simp only [go_sem, reduceCtorEq, Nat.reduceAdd, Nat.reduceMul, Nat.reduceLeDiff, Nat.reduceLT, Int.reduceLE, Int.reduceLT, Int.reduceEq, Nat.reduceBEq, Nat.reduceEqDiff, List.length_map, c1, g, cells_nd]
      simp only [ndSV_eq] at hih
      refine ⟨by omega, ?_⟩
      first | (unfold ACallsH; simp only [put_some, put_none', ev_tmp, List.set_cons_succ, List.set_cons_zero, List.getD_cons_succ, List.getD_cons_zero]) | skip
      refine hih _ _ ?_
      simp only [go_sem, reduceCtorEq, Nat.reduceAdd, Nat.reduceMul, Nat.reduceLeDiff, Nat.reduceLT, Int.reduceLE, Int.reduceLT, Int.reduceEq, Nat.reduceBEq, Nat.reduceEqDiff, List.length_map, c1, g, cells_nd]
      refine awp_draw [] Tryd.mixed rfl ?_
      simp only [go_sem, reduceCtorEq, Nat.reduceAdd, Nat.reduceMul, Nat.reduceLeDiff, Nat.reduceLT, Int.reduceLE, Int.reduceLT, Int.reduceEq, Nat.reduceBEq, Nat.reduceEqDiff, List.length_map, c1, c2, g, cells_nd, w1]
      refine ⟨by omega, m - 1, _, by omega, ?_, i + 1, by omega, rfl⟩
      repeat (first | exact leEnv_nil | refine leEnv_any _ ?_ | refine leEnv_same _ ?_ | refine leEnv_norm _ ?_)
    · have c1 : decide ((i : Int) < (nd.kids.length : Int)) = false := by simp; omega
      simp only [go_sem, reduceCtorEq, Nat.reduceAdd, Nat.reduceMul, Nat.reduceLeDiff, Nat.reduceLT, Int.reduceLE, Int.reduceLT, Int.reduceEq, Nat.reduceBEq, Nat.reduceEqDiff, List.length_map, c1, cells_nd]
      exact fin_pure1 (ids_scv _ _) hk
theorem placed_c {T : List Tk} (hT : T.length ≤ 10000) {nd : Nd} (h : Pl T nd) : ∀ (K : SV → St → Prop) (st : St), K (.sc (.bool true)) st → ACalls Tryd.prog 15 [ndSV nd, .slice .imm 4 (T.map tkSV)] K st := by
  induction h with
  | mk n h h1 h2 h3 h4 ih => exact fun K st hk => placedS_c hT h h2 (by omega) ih hk
end Go.Proofs
