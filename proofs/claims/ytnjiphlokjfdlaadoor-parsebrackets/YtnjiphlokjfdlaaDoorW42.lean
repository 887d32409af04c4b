/- parse.Same: nodes. -/
import Derived.Test.YtnjiphlokjfdlaaDoorW41
set_option linter.unusedSimpArgs false
set_option linter.unusedVariables false
set_option maxRecDepth 8000
namespace Go.Proofs
open Go Go.AL
set_option maxHeartbeats 4000000 in
/-- slices.EqualFunc of nodes. -/
theorem eqNd_c {l r : List Nd} (hl : l.length ≤ 100000) (hr : r.length ≤ 100000) (ih : ∀ a ∈ l, ∀ b ∈ r, ∀ (K : SV → St → Prop) (st : St), K (.sc (.bool (sameB a b))) st → ACalls Tryd.prog 14 [ndSV a, ndSV b] K st) {K : SV → St → Prop} {st : St} (hk : K (.sc (.bool (sameBs l r))) st) :
    ACalls Tryd.prog 20 [.slice .imm 6 (l.map ndSV), .slice .imm 6 (r.map ndSV), .func (.func 14) [] []] K st := by
  refine acalls_go_pure [] Tryd.func20 rfl Tryd.results20 Tryd.ntmps20 ?_
  by_cases hlen : l.length = r.length
  rotate_left
  · have c1 : ((l.length : Int) != (r.length : Int)) = true := by simp; omega
    have he : sameBs l r = false := by
      cases h : sameBs l r with
      | false => rfl
      | true => exact absurd (sameBs_len h) hlen
    rw [he] at hk
    simp only [go_sem, reduceCtorEq, Nat.reduceAdd, Nat.reduceMul, Nat.reduceLeDiff, Nat.reduceLT, Int.reduceLE, Int.reduceLT, Int.reduceEq, Nat.reduceBEq, Nat.reduceEqDiff, List.length_map, c1]
    exact fin_pure1 (ids_scv _ _) hk
  have c1 : ((l.length : Int) != (r.length : Int)) = false := by simp; omega
  simp only [go_sem, reduceCtorEq, Nat.reduceAdd, Nat.reduceMul, Nat.reduceLeDiff, Nat.reduceLT, Int.reduceLE, Int.reduceLT, Int.reduceEq, Nat.reduceBEq, Nat.reduceEqDiff, List.length_map, c1]
  refine awp_rounds [] (fun k env s => ∃ (i : Nat) (ex : St), k + i = l.length ∧ sameBs l r = sameBs (l.drop i) (r.drop i) ∧ env = [.slice .imm 6 (l.map ndSV), .slice .imm 6 (r.map ndSV), .func (.func 14) [] [], .any, .any, .any, .any, .any, .any, .any, .any, .any, .any, .any, .any, .slice .imm 6 (l.map ndSV), .sc (.int .i64 l.length), .sc (.int .i64 i), .any, .any, .any, .any, .any, .any, .any, .any, .any, .any, .any, .any, .any, .any] ∧ s = st ++ ex) (n := l.length) ?_ ⟨0, [], by omega, rfl, rfl, by simp⟩ ?_
  · repeat (first | exact leEnv_nil | refine leEnv_any _ ?_ | refine leEnv_same _ ?_ | refine leEnv_norm _ ?_)
  rintro k env s ⟨i, ex, hi, hsm, rfl, rfl⟩
  by_cases hlt : i < l.length
  · have c2 : decide ((i : Int) < (l.length : Int)) = true := by simp; omega
    have w1 : IntKind.i64.wrap ((i : Int) + 1) = ((i + 1 : Nat) : Int) := by rw [IntWalk.i64_in _ (by omega)]; rfl
    have hlt2 : i < r.length := by omega
    have g1 := ndSV_get hlt
    have g2 := ndSV_get hlt2
    have hih := ih l[i] (List.getElem_mem hlt) r[i] (List.getElem_mem hlt2)
    rw [List.drop_eq_getElem_cons hlt, List.drop_eq_getElem_cons hlt2] at hsm
    rw [show sameBs (l[i] :: l.drop (i + 1)) (r[i] :: r.drop (i + 1)) = (sameB l[i] r[i] && sameBs (l.drop (i + 1)) (r.drop (i + 1))) from rfl] at hsm
    cases hb : sameB l[i] r[i] with
    | true =>
      rw [hb] at hih hsm
      rw [Bool.true_and] at hsm
      simp only [go_sem, reduceCtorEq, Nat.reduceAdd, Nat.reduceMul, Nat.reduceLeDiff, Nat.reduceLT, Int.reduceLE, Int.reduceLT, Int.reduceEq, Nat.reduceBEq, Nat.reduceEqDiff, c2, w1, List.length_map, g1, g2]
      refine ⟨by omega, by omega, ?_⟩
      refine hih _ _ ?_
      simp only [go_sem, reduceCtorEq, Nat.reduceAdd, Nat.reduceMul, Nat.reduceLeDiff, Nat.reduceLT, Int.reduceLE, Int.reduceLT, Int.reduceEq, Nat.reduceBEq, Nat.reduceEqDiff, w1]
      refine ⟨k - 1, _, by omega, ?_, i + 1, _, by omega, hsm, rfl, rfl⟩
      repeat (first | exact leEnv_nil | refine leEnv_any _ ?_ | refine leEnv_same _ ?_ | refine leEnv_norm _ ?_)
    | false =>
      rw [hb] at hih hsm
      rw [Bool.false_and] at hsm
      rw [hsm] at hk
      simp only [go_sem, reduceCtorEq, Nat.reduceAdd, Nat.reduceMul, Nat.reduceLeDiff, Nat.reduceLT, Int.reduceLE, Int.reduceLT, Int.reduceEq, Nat.reduceBEq, Nat.reduceEqDiff, c2, w1, List.length_map, g1, g2]
      refine ⟨by omega, by omega, ?_⟩
      refine hih _ _ ?_
      simp only [go_sem, reduceCtorEq, Nat.reduceAdd, Nat.reduceMul, Nat.reduceLeDiff, Nat.reduceLT, Int.reduceLE, Int.reduceLT, Int.reduceEq, Nat.reduceBEq, Nat.reduceEqDiff, w1]
      exact fin_pure (ids_scv _ _) hk
  · have c2 : decide ((i : Int) < (l.length : Int)) = false := by simp; omega
    rw [List.drop_of_length_le (by omega), List.drop_of_length_le (by omega)] at hsm
    rw [hsm] at hk
    simp only [go_sem, reduceCtorEq, Nat.reduceAdd, Nat.reduceMul, Nat.reduceLeDiff, Nat.reduceLT, Int.reduceLE, Int.reduceLT, Int.reduceEq, Nat.reduceBEq, Nat.reduceEqDiff, c2]
    exact fin_pure (ids_scv _ _) hk
theorem eqTx_c2 {l r : List Tx} (hl : l.length ≤ 100000) (hr : r.length ≤ 100000) {v : Bool} (hv : decide (l = r) = v) {K : SV → St → Prop} {st : St} (hk : K (.sc (.bool v)) st) : ACalls Tryd.prog 19 [.slice .imm 1 (l.map txSV), .slice .imm 1 (r.map txSV)] K st := by
  subst hv; exact eqTx_c hl hr hk
set_option maxHeartbeats 4000000 in
theorem sameS_c {a b : Nd} (ha : Few 100000 a) (hb : Few 100000 b) (ih : ∀ x ∈ a.kids, ∀ y ∈ b.kids, ∀ (K : SV → St → Prop) (st : St), K (.sc (.bool (sameB x y))) st → ACalls Tryd.prog 14 [ndSV x, ndSV y] K st) {K : SV → St → Prop} {st : St} (hk : K (.sc (.bool (sameB a b))) st) : ACalls Tryd.prog 14 [ndSV a, ndSV b] K st := by
  refine acalls_go_pure [] Tryd.func14 rfl Tryd.results14 Tryd.ntmps14 ?_
  have hs : sameB a b = (decide (a.kind = b.kind) && decide (a.text = b.text) && decide (a.num = b.num) && decide (a.names = b.names) && sameBs a.kids b.kids) := by cases a; cases b; rfl
  rw [hs] at hk
  cases ha with
  | mk _ _ la1 la2 =>
  cases hb with
  | mk _ _ lb1 lb2 =>
  by_cases c1 : a.kind = b.kind
  rotate_left
  · have d1 : (a.kind == b.kind) = false := by simp [c1]
    rw [show decide (a.kind = b.kind) = false by simp [c1]] at hk
    simp only [Bool.false_and] at hk
    simp only [go_sem, reduceCtorEq, Nat.reduceAdd, Nat.reduceMul, Nat.reduceLeDiff, Nat.reduceLT, Int.reduceLE, Int.reduceLT, Int.reduceEq, Nat.reduceBEq, Nat.reduceEqDiff, cells_nd, d1]
    exact fin_pure1 (ids_scv _ _) hk
  have d1 : (a.kind == b.kind) = true := by simp [c1]
  rw [show decide (a.kind = b.kind) = true by simp [c1], Bool.true_and] at hk
  by_cases c2 : a.text = b.text
  rotate_left
  · have d2 : (a.text == b.text) = false := by simp [c2]
    rw [show decide (a.text = b.text) = false by simp [c2]] at hk
    simp only [Bool.false_and] at hk
    simp only [go_sem, reduceCtorEq, Nat.reduceAdd, Nat.reduceMul, Nat.reduceLeDiff, Nat.reduceLT, Int.reduceLE, Int.reduceLT, Int.reduceEq, Nat.reduceBEq, Nat.reduceEqDiff, cells_nd, d1, d2]
    exact fin_pure1 (ids_scv _ _) hk
  have d2 : (a.text == b.text) = true := by simp [c2]
  rw [show decide (a.text = b.text) = true by simp [c2], Bool.true_and] at hk
  by_cases c3 : a.num = b.num
  rotate_left
  · have d3 : (a.num == b.num) = false := by simp [c3]
    rw [show decide (a.num = b.num) = false by simp [c3]] at hk
    simp only [Bool.false_and] at hk
    simp only [go_sem, reduceCtorEq, Nat.reduceAdd, Nat.reduceMul, Nat.reduceLeDiff, Nat.reduceLT, Int.reduceLE, Int.reduceLT, Int.reduceEq, Nat.reduceBEq, Nat.reduceEqDiff, cells_nd, d1, d2, d3]
    exact fin_pure1 (ids_scv _ _) hk
  have d3 : (a.num == b.num) = true := by simp [c3]
  rw [show decide (a.num = b.num) = true by simp [c3], Bool.true_and] at hk
  cases h4 : decide (a.names = b.names) with
  | false =>
    rw [h4] at hk
    simp only [Bool.false_and] at hk
    simp only [go_sem, reduceCtorEq, Nat.reduceAdd, Nat.reduceMul, Nat.reduceLeDiff, Nat.reduceLT, Int.reduceLE, Int.reduceLT, Int.reduceEq, Nat.reduceBEq, Nat.reduceEqDiff, cells_nd, d1, d2, d3]
    refine eqTx_c2 la2 lb2 h4 ?_
    simp only [go_sem, reduceCtorEq, Nat.reduceAdd, Nat.reduceMul, Nat.reduceLeDiff, Nat.reduceLT, Int.reduceLE, Int.reduceLT, Int.reduceEq, Nat.reduceBEq, Nat.reduceEqDiff, cells_nd, d1, d2, d3]
    exact fin_pure1 (ids_scv _ _) hk
  | true =>
    rw [h4] at hk
    simp only [Bool.true_and] at hk
    simp only [go_sem, reduceCtorEq, Nat.reduceAdd, Nat.reduceMul, Nat.reduceLeDiff, Nat.reduceLT, Int.reduceLE, Int.reduceLT, Int.reduceEq, Nat.reduceBEq, Nat.reduceEqDiff, cells_nd, d1, d2, d3]
    refine eqTx_c2 la2 lb2 h4 ?_
    simp only [go_sem, reduceCtorEq, Nat.reduceAdd, Nat.reduceMul, Nat.reduceLeDiff, Nat.reduceLT, Int.reduceLE, Int.reduceLT, Int.reduceEq, Nat.reduceBEq, Nat.reduceEqDiff, cells_nd, d1, d2, d3]
    refine eqNd_c la1 lb1 ih ?_
    simp only [go_sem, reduceCtorEq, Nat.reduceAdd, Nat.reduceMul, Nat.reduceLeDiff, Nat.reduceLT, Int.reduceLE, Int.reduceLT, Int.reduceEq, Nat.reduceBEq, Nat.reduceEqDiff, cells_nd, d1, d2, d3]
    exact fin_pure1 (ids_scv _ _) hk
theorem same_c {a b : Nd} (ha : Few 100000 a) (hb : Few 100000 b) : ∀ {K : SV → St → Prop} {st : St} (hk : K (.sc (.bool (sameB a b))) st), ACalls Tryd.prog 14 [ndSV a, ndSV b] K st := by
  induction ha generalizing b with
  | mk a h h1 h2 ih =>
    intro K st hk
    have hb' := hb
    cases hb' with
    | mk _ g g1 g2 => exact sameS_c (.mk a h h1 h2) hb (fun x hx y hy K st hk => ih x hx (g y hy) hk) hk
end Go.Proofs
