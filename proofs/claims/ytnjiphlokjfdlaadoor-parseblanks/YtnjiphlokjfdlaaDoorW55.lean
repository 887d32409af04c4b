/- selvageref05.Same, without places. -/
import Derived.Test.YtnjiphlokjfdlaaDoorW41
set_option linter.unusedSimpArgs false
set_option linter.unusedVariables false
set_option maxRecDepth 8000
namespace Go.Proofs
open Go Go.AL
def SameR (n : Nat) (a b : Nd) : Prop := ∀ (K : SV → St → Prop) (st : St), K (.sc (.bool (sameB a b))) st → ACalls Tryd.prog n [ndSV a, ndSV b, .sc (.bool false)] K st
set_option maxHeartbeats 4000000 in
/-- Nodes whose parts are alike, but for names and kids. -/
theorem sameT_c {a b : Nd} (ha : Few 100000 a) (hb : Few 100000 b) (q1 : a.kind = b.kind) (q2 : a.text = b.text) (q3 : a.num = b.num) (q4 : a.names.length = b.names.length) (q5 : a.kids.length = b.kids.length) (ih : ∀ x ∈ a.kids, ∀ y ∈ b.kids, SameR 13 x y) {K : SV → St → Prop} {st : St} (hk : K (.sc (.bool (decide (a.names = b.names) && sameBs a.kids b.kids))) st) : ACalls Tryd.prog 13 [ndSV a, ndSV b, .sc (.bool false)] K st := by
  refine acalls_go_pure [] Tryd.func13 rfl Tryd.results13 Tryd.ntmps13 ?_
  have d1 : (a.kind != b.kind) = false := by simp [q1]
  have d2 : (a.text == b.text) = true := by simp [q2]
  have d3 : (a.num != b.num) = false := by simp [q3]
  have d4 : ((a.names.length : Int) != (b.names.length : Int)) = false := by simp [q4]
  have d5 : ((a.kids.length : Int) != (b.kids.length : Int)) = false := by simp [q5]
  cases ha with
  | mk _ _ la1 la2 =>
  cases hb with
  | mk _ _ lb1 lb2 =>
  simp only [go_sem, reduceCtorEq, Nat.reduceAdd, Nat.reduceMul, Nat.reduceLeDiff, Nat.reduceLT, Int.reduceLE, Int.reduceLT, Int.reduceEq, Nat.reduceBEq, Nat.reduceEqDiff, cells_nd, List.length_map, d1, d2, d3, d4, d5]
  refine awp_rounds [] (fun k env s => ∃ i : Nat, k + i = a.names.length ∧ a.names.take i = b.names.take i ∧ env = [.any, .any, .sc (.bool false), .ref (ndCells a), .ref (ndCells b), .any, .sc (.bool false), .sc (.int .i64 i), .any, .any, .any, .any, .any, .any, .any, .any, .any, .any, .any, .any, .any, .any, .any, .any, .any, .any, .any, .any, .any, .any, .any, .any, .any, .any, .any, .any, .any, .any, .any, .any, .any, .any, .any, .any, .any, .any, .any, .any, .any, .any, .any, .any, .any, .any, .any, .any, .any, .any, .any, .any, .any, .any, .any, .any, .any, .any, .any, .any, .any, .any, .any, .any, .any, .any, .any, .any, .any, .any, .any, .any, .any, .any, .any, .any, .any, .any, .any, .any, .any, .any, .any, .any, .any, .any, .any, .any] ∧ s = st) (n := a.names.length) ?_ ⟨0, by omega, by simp, rfl, rfl⟩ ?_
  · repeat (first | exact leEnv_nil | refine leEnv_any _ ?_ | refine leEnv_same _ ?_ | refine leEnv_norm _ ?_)
  rintro k env s ⟨i, hi, htk, rfl, rfl⟩
  by_cases hlt : i < a.names.length
  · have c2 : decide ((i : Int) < (a.names.length : Int)) = true := by simp; omega
    have w1 : IntKind.i64.wrap ((i : Int) + 1) = ((i + 1 : Nat) : Int) := by rw [IntWalk.i64_in _ (by omega)]; rfl
    have hlt2 : i < b.names.length := by omega
    have g1 := txSV_get hlt
    have g2 := txSV_get hlt2
    by_cases he : a.names[i] = b.names[i]
    · have c3 : (a.names[i] == b.names[i]) = true := by simp [he]
      simp only [go_sem, reduceCtorEq, Nat.reduceAdd, Nat.reduceMul, Nat.reduceLeDiff, Nat.reduceLT, Int.reduceLE, Int.reduceLT, Int.reduceEq, Nat.reduceBEq, Nat.reduceEqDiff, c2, w1, ndCells, List.length_map]
      refine awp_draw [] Tryd.mixed rfl ?_
      simp only [go_sem, reduceCtorEq, Nat.reduceAdd, Nat.reduceMul, Nat.reduceLeDiff, Nat.reduceLT, Int.reduceLE, Int.reduceLT, Int.reduceEq, Nat.reduceBEq, Nat.reduceEqDiff, List.length_map, g1, g2, c3, w1, ndCells]
      refine ⟨by omega, by omega, k - 1, _, by omega, ?_, i + 1, by omega, by rw [List.take_succ_eq_append_getElem hlt, List.take_succ_eq_append_getElem hlt2, htk, he], rfl⟩
      repeat (first | exact leEnv_nil | refine leEnv_any _ ?_ | refine leEnv_same _ ?_ | refine leEnv_norm _ ?_)
    · have c3 : (a.names[i] == b.names[i]) = false := by simp [he]
      have hd : decide (a.names = b.names) = false := by
        simp only [decide_eq_false_iff_not]
        intro h; simp only [h, not_true_eq_false] at he
      rw [hd, Bool.false_and] at hk
      simp only [go_sem, reduceCtorEq, Nat.reduceAdd, Nat.reduceMul, Nat.reduceLeDiff, Nat.reduceLT, Int.reduceLE, Int.reduceLT, Int.reduceEq, Nat.reduceBEq, Nat.reduceEqDiff, c2, w1, ndCells, List.length_map]
      refine awp_draw [] Tryd.mixed rfl ?_
      simp only [go_sem, reduceCtorEq, Nat.reduceAdd, Nat.reduceMul, Nat.reduceLeDiff, Nat.reduceLT, Int.reduceLE, Int.reduceLT, Int.reduceEq, Nat.reduceBEq, Nat.reduceEqDiff, List.length_map, g1, g2, c3, w1, ndCells]
      exact ⟨by omega, by omega, fin_pure1 (ids_scv _ _) hk⟩
  · have c2 : decide ((i : Int) < (a.names.length : Int)) = false := by simp; omega
    have hd : decide (a.names = b.names) = true := by
      rw [List.take_of_length_le (by omega), List.take_of_length_le (by omega)] at htk
      simp [htk]
    rw [hd, Bool.true_and] at hk
    simp only [go_sem, reduceCtorEq, Nat.reduceAdd, Nat.reduceMul, Nat.reduceLeDiff, Nat.reduceLT, Int.reduceLE, Int.reduceLT, Int.reduceEq, Nat.reduceBEq, Nat.reduceEqDiff, c2, ndCells, List.length_map]
    refine awp_rounds [] (fun k env s' => ∃ (i : Nat) (ex : St), k + i = a.kids.length ∧ sameBs a.kids b.kids = sameBs (a.kids.drop i) (b.kids.drop i) ∧ env = [.any, .any, .sc (.bool false), .ref (ndCells a), .ref (ndCells b), .any, .sc (.bool false), .any, .sc (.int .i64 i), .any, .any, .any, .any, .any, .any, .any, .any, .any, .any, .any, .any, .any, .any, .any, .any, .any, .any, .any, .any, .any, .any, .any, .any, .any, .any, .any, .any, .any, .any, .any, .any, .any, .any, .any, .any, .any, .any, .any, .any, .any, .any, .any, .any, .any, .any, .any, .any, .any, .any, .any, .any, .any, .any, .any, .any, .any, .any, .any, .any, .any, .any, .any, .any, .any, .any, .any, .any, .any, .any, .any, .any, .any, .any, .any, .any, .any, .any, .any, .any, .any, .any, .any, .any, .any, .any, .any] ∧ s' = s ++ ex) (n := a.kids.length) ?_ ⟨0, [], by omega, rfl, rfl, by simp⟩ ?_
    · repeat (first | exact leEnv_nil | refine leEnv_any _ ?_ | refine leEnv_same _ ?_ | refine leEnv_norm _ ?_)
    rintro k env s' ⟨i, ex, hi, hsm, rfl, rfl⟩
    by_cases hlt : i < a.kids.length
    · have c2 : decide ((i : Int) < (a.kids.length : Int)) = true := by simp; omega
      have w1 : IntKind.i64.wrap ((i : Int) + 1) = ((i + 1 : Nat) : Int) := by rw [IntWalk.i64_in _ (by omega)]; rfl
      have hlt2 : i < b.kids.length := by omega
      have g1 := ndSV_get hlt
      have g2 := ndSV_get hlt2
      have hih := ih a.kids[i] (List.getElem_mem hlt) b.kids[i] (List.getElem_mem hlt2)
      rw [List.drop_eq_getElem_cons hlt, List.drop_eq_getElem_cons hlt2] at hsm
      rw [show sameBs (a.kids[i] :: a.kids.drop (i + 1)) (b.kids[i] :: b.kids.drop (i + 1)) = (sameB a.kids[i] b.kids[i] && sameBs (a.kids.drop (i + 1)) (b.kids.drop (i + 1))) from rfl] at hsm
      unfold SameR at hih
      cases hb : sameB a.kids[i] b.kids[i] with
      | true =>
        rw [hb] at hih hsm
        rw [Bool.true_and] at hsm
        simp only [go_sem, reduceCtorEq, Nat.reduceAdd, Nat.reduceMul, Nat.reduceLeDiff, Nat.reduceLT, Int.reduceLE, Int.reduceLT, Int.reduceEq, Nat.reduceBEq, Nat.reduceEqDiff, c2, w1, ndCells, List.length_map]
        refine awp_drawW [] [(0, []), (0, []), (0, []), (0, []), (0, []), (0, []), (0, []), (0, []), (0, []), (0, []), (0, []), (3, [13]), (0, [])] Tryd.mixed rfl ?_
        simp only [go_sem, reduceCtorEq, Nat.reduceAdd, Nat.reduceMul, Nat.reduceLeDiff, Nat.reduceLT, Int.reduceLE, Int.reduceLT, Int.reduceEq, Nat.reduceBEq, Nat.reduceEqDiff, drawW_n, drawW_0, drawW_1, drawW_2, drawW_3, pend_n, pend_c, headD_c, isStore_s, List.length_map, g1, g2]
        refine ⟨by omega, by omega, ?_⟩
        refine ⟨_, _, hih _ _ ⟨rfl, rfl⟩, ?_⟩
        simp only [go_sem, reduceCtorEq, Nat.reduceAdd, Nat.reduceMul, Nat.reduceLeDiff, Nat.reduceLT, Int.reduceLE, Int.reduceLT, Int.reduceEq, Nat.reduceBEq, Nat.reduceEqDiff, drawW_n, drawW_0, drawW_1, drawW_2, drawW_3, pend_n, pend_c, headD_c, isStore_s, w1]
        refine ⟨k - 1, _, by omega, ?_, i + 1, _, by omega, hsm, rfl, rfl⟩
        repeat (first | exact leEnv_nil | refine leEnv_any _ ?_ | refine leEnv_same _ ?_ | refine leEnv_norm _ ?_)
      | false =>
        rw [hb] at hih hsm
        rw [Bool.false_and] at hsm
        rw [hsm] at hk
        simp only [go_sem, reduceCtorEq, Nat.reduceAdd, Nat.reduceMul, Nat.reduceLeDiff, Nat.reduceLT, Int.reduceLE, Int.reduceLT, Int.reduceEq, Nat.reduceBEq, Nat.reduceEqDiff, c2, w1, ndCells, List.length_map]
        refine awp_drawW [] [(0, []), (0, []), (0, []), (0, []), (0, []), (0, []), (0, []), (0, []), (0, []), (0, []), (0, []), (3, [13]), (0, [])] Tryd.mixed rfl ?_
        simp only [go_sem, reduceCtorEq, Nat.reduceAdd, Nat.reduceMul, Nat.reduceLeDiff, Nat.reduceLT, Int.reduceLE, Int.reduceLT, Int.reduceEq, Nat.reduceBEq, Nat.reduceEqDiff, drawW_n, drawW_0, drawW_1, drawW_2, drawW_3, pend_n, pend_c, headD_c, isStore_s, List.length_map, g1, g2]
        refine ⟨by omega, by omega, ?_⟩
        refine ⟨_, _, hih _ _ ⟨rfl, rfl⟩, ?_⟩
        simp only [go_sem, reduceCtorEq, Nat.reduceAdd, Nat.reduceMul, Nat.reduceLeDiff, Nat.reduceLT, Int.reduceLE, Int.reduceLT, Int.reduceEq, Nat.reduceBEq, Nat.reduceEqDiff, drawW_n, drawW_0, drawW_1, drawW_2, drawW_3, pend_n, pend_c, headD_c, isStore_s, w1]
        exact fin_pure (ids_scv _ _) hk
    · have c2 : decide ((i : Int) < (a.kids.length : Int)) = false := by simp; omega
      rw [List.drop_of_length_le (by omega), List.drop_of_length_le (by omega)] at hsm
      rw [hsm] at hk
      simp only [go_sem, reduceCtorEq, Nat.reduceAdd, Nat.reduceMul, Nat.reduceLeDiff, Nat.reduceLT, Int.reduceLE, Int.reduceLT, Int.reduceEq, Nat.reduceBEq, Nat.reduceEqDiff, c2, ndCells, List.length_map]
      exact fin_pure (ids_scv _ _) hk
set_option maxHeartbeats 4000000 in
/-- One part is not alike. -/
theorem sameN_c {a b : Nd} (h : ¬ (a.kind = b.kind ∧ a.text = b.text ∧ a.num = b.num ∧ a.names.length = b.names.length ∧ a.kids.length = b.kids.length)) {K : SV → St → Prop} {st : St} (hk : K (.sc (.bool false)) st) : ACalls Tryd.prog 13 [ndSV a, ndSV b, .sc (.bool false)] K st := by
  refine acalls_go_pure [] Tryd.func13 rfl Tryd.results13 Tryd.ntmps13 ?_
  by_cases q1 : a.kind = b.kind
  rotate_left
  · have d1 : (a.kind != b.kind) = true := by simp [q1]
    simp only [go_sem, reduceCtorEq, Nat.reduceAdd, Nat.reduceMul, Nat.reduceLeDiff, Nat.reduceLT, Int.reduceLE, Int.reduceLT, Int.reduceEq, Nat.reduceBEq, Nat.reduceEqDiff, cells_nd, List.length_map, d1]
    exact fin_pure1 (ids_scv _ _) hk
  have d1 : (a.kind != b.kind) = false := by simp [q1]
  by_cases q2 : a.text = b.text
  rotate_left
  · have d2 : (a.text == b.text) = false := by simp [q2]
    simp only [go_sem, reduceCtorEq, Nat.reduceAdd, Nat.reduceMul, Nat.reduceLeDiff, Nat.reduceLT, Int.reduceLE, Int.reduceLT, Int.reduceEq, Nat.reduceBEq, Nat.reduceEqDiff, cells_nd, List.length_map, d1, d2]
    exact fin_pure1 (ids_scv _ _) hk
  have d2 : (a.text == b.text) = true := by simp [q2]
  by_cases q3 : a.num = b.num
  rotate_left
  · have d3 : (a.num != b.num) = true := by simp [q3]
    simp only [go_sem, reduceCtorEq, Nat.reduceAdd, Nat.reduceMul, Nat.reduceLeDiff, Nat.reduceLT, Int.reduceLE, Int.reduceLT, Int.reduceEq, Nat.reduceBEq, Nat.reduceEqDiff, cells_nd, List.length_map, d1, d2, d3]
    exact fin_pure1 (ids_scv _ _) hk
  have d3 : (a.num != b.num) = false := by simp [q3]
  by_cases q4 : a.names.length = b.names.length
  rotate_left
  · have d4 : ((a.names.length : Int) != (b.names.length : Int)) = true := by simp; omega
    simp only [go_sem, reduceCtorEq, Nat.reduceAdd, Nat.reduceMul, Nat.reduceLeDiff, Nat.reduceLT, Int.reduceLE, Int.reduceLT, Int.reduceEq, Nat.reduceBEq, Nat.reduceEqDiff, cells_nd, List.length_map, d1, d2, d3, d4]
    exact fin_pure1 (ids_scv _ _) hk
  have d4 : ((a.names.length : Int) != (b.names.length : Int)) = false := by simp [q4]
  have d5 : ((a.kids.length : Int) != (b.kids.length : Int)) = true := by
    have : a.kids.length ≠ b.kids.length := fun q5 => h ⟨q1, q2, q3, q4, q5⟩
    simp; omega
  simp only [go_sem, reduceCtorEq, Nat.reduceAdd, Nat.reduceMul, Nat.reduceLeDiff, Nat.reduceLT, Int.reduceLE, Int.reduceLT, Int.reduceEq, Nat.reduceBEq, Nat.reduceEqDiff, cells_nd, List.length_map, d1, d2, d3, d4, d5]
  exact fin_pure1 (ids_scv _ _) hk
theorem rsame_c {a b : Nd} (ha : Few 100000 a) (hb : Few 100000 b) : SameR 13 a b := by
  induction ha generalizing b with
  | mk a h h1 h2 ih =>
    intro K st hk
    have hb' := hb
    cases hb' with
    | mk _ g g1 g2 =>
    have hs : sameB a b = (decide (a.kind = b.kind) && decide (a.text = b.text) && decide (a.num = b.num) && decide (a.names = b.names) && sameBs a.kids b.kids) := by cases a; cases b; rfl
    by_cases hq : a.kind = b.kind ∧ a.text = b.text ∧ a.num = b.num ∧ a.names.length = b.names.length ∧ a.kids.length = b.kids.length
    · refine sameT_c (.mk a h h1 h2) hb hq.1 hq.2.1 hq.2.2.1 hq.2.2.2.1 hq.2.2.2.2 (fun x hx y hy => ih x hx (g y hy)) ?_
      rw [hs] at hk
      simpa [hq.1, hq.2.1, hq.2.2.1] using hk
    · refine sameN_c hq ?_
      have : sameB a b = false := by
        cases hh : sameB a b with
        | false => rfl
        | true =>
          obtain ⟨x1, x2, x3, x4, x5⟩ := same_parts hh
          exact absurd ⟨x1, x2, x3, by rw [x4], sameBs_len x5⟩ hq
      rw [this] at hk; exact hk
end Go.Proofs
