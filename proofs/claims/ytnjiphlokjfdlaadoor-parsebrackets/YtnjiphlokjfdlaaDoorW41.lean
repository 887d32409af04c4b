/- parse.Same. -/
import Derived.Test.YtnjiphlokjfdlaaDoorW36
import Derived.Test.YtnjiphlokjfdlaaDoorM6
set_option linter.unusedSimpArgs false
set_option linter.unusedVariables false
set_option maxRecDepth 8000
namespace Go.AL
/-- Nodes with few kids and names each. -/
inductive Few (N : Nat) : Nd → Prop where
  | mk (n : Nd) (h : ∀ c ∈ n.kids, Few N c) (h1 : n.kids.length ≤ N) (h2 : n.names.length ≤ N) : Few N n
theorem Pl.few {T : List Tk} {n : Nd} (h : Pl T n) {N : Nat} (hN : T.length + 3 ≤ N) : Few N n := by
  induction h with
  | mk n h h1 h2 h3 h4 ih => exact .mk n ih (Nat.le_trans h3 hN) (Nat.le_trans h4 hN)
theorem few_nd0 (N : Nat) : Few N nd0 := .mk _ (fun c hc => by cases hc) (Nat.zero_le _) (Nat.zero_le _)
end Go.AL
namespace Go.Proofs
open Go Go.AL
theorem txSV_get {l : List Tx} {i : Nat} (h : i < l.length) : (l.map txSV).getD i .any = .sc (.string (ba l[i])) := by simp [List.getD_eq_getElem?_getD, h, txSV]
theorem ndSV_get {l : List Nd} {i : Nat} (h : i < l.length) : (l.map ndSV).getD i .any = ndSV l[i] := by simp [List.getD_eq_getElem?_getD, h]
set_option maxHeartbeats 4000000 in
/-- slices.Equal of texts. -/
theorem eqTx_c {l r : List Tx} (hl : l.length ≤ 100000) (hr : r.length ≤ 100000) {K : SV → St → Prop} {st : St} (hk : K (.sc (.bool (decide (l = r)))) st) : ACalls Tryd.prog 19 [.slice .imm 1 (l.map txSV), .slice .imm 1 (r.map txSV)] K st := by
  refine acalls_go_pure [] Tryd.func19 rfl Tryd.results19 Tryd.ntmps19 ?_
  by_cases hlen : l.length = r.length
  rotate_left
  · have c1 : ((l.length : Int) != (r.length : Int)) = true := by simp; omega
    have he : decide (l = r) = false := by simp; intro h; exact hlen (by rw [h])
    rw [he] at hk
    simp only [go_sem, reduceCtorEq, Nat.reduceAdd, Nat.reduceMul, Nat.reduceLeDiff, Nat.reduceLT, Int.reduceLE, Int.reduceLT, Int.reduceEq, Nat.reduceBEq, Nat.reduceEqDiff, List.length_map, c1]
    exact fin_pure1 (ids_scv _ _) hk
  have c1 : ((l.length : Int) != (r.length : Int)) = false := by simp; omega
  simp only [go_sem, reduceCtorEq, Nat.reduceAdd, Nat.reduceMul, Nat.reduceLeDiff, Nat.reduceLT, Int.reduceLE, Int.reduceLT, Int.reduceEq, Nat.reduceBEq, Nat.reduceEqDiff, List.length_map, c1]
  refine awp_rounds [] (fun k env s => ∃ i : Nat, k + i = l.length ∧ l.take i = r.take i ∧ env = [.slice .imm 1 (l.map txSV), .slice .imm 1 (r.map txSV), .any, .any, .any, .any, .any, .any, .any, .any, .any, .any, .sc (.int .i64 l.length), .sc (.int .i64 i), .any, .any, .any, .any, .any, .any, .any, .any, .any, .any, .any, .any] ∧ s = st) (n := l.length) ?_ ⟨0, by omega, by simp, rfl, rfl⟩ ?_
  · repeat (first | exact leEnv_nil | refine leEnv_any _ ?_ | refine leEnv_same _ ?_ | refine leEnv_norm _ ?_)
  rintro k env s ⟨i, hi, htk, rfl, rfl⟩
  by_cases hlt : i < l.length
  · have c2 : decide ((i : Int) < (l.length : Int)) = true := by simp; omega
    have w1 : IntKind.i64.wrap ((i : Int) + 1) = ((i + 1 : Nat) : Int) := by rw [IntWalk.i64_in _ (by omega)]; rfl
    have hlt2 : i < r.length := by omega
    have g1 := txSV_get hlt
    have g2 := txSV_get hlt2
    by_cases he : l[i] = r[i]
    · have c3 : (l[i] == r[i]) = true := by simp [he]
      simp only [go_sem, reduceCtorEq, Nat.reduceAdd, Nat.reduceMul, Nat.reduceLeDiff, Nat.reduceLT, Int.reduceLE, Int.reduceLT, Int.reduceEq, Nat.reduceBEq, Nat.reduceEqDiff, c2, w1]
      refine awp_draw [] Tryd.mixed rfl ?_
      simp only [go_sem, reduceCtorEq, Nat.reduceAdd, Nat.reduceMul, Nat.reduceLeDiff, Nat.reduceLT, Int.reduceLE, Int.reduceLT, Int.reduceEq, Nat.reduceBEq, Nat.reduceEqDiff, List.length_map, g1, g2, c3, w1]
      refine ⟨by omega, by omega, k - 1, _, by omega, ?_, i + 1, by omega, by rw [List.take_succ_eq_append_getElem hlt, List.take_succ_eq_append_getElem hlt2, htk, he], rfl⟩
      repeat (first | exact leEnv_nil | refine leEnv_any _ ?_ | refine leEnv_same _ ?_ | refine leEnv_norm _ ?_)
    · have c3 : (l[i] == r[i]) = false := by simp [he]
      have hd : decide (l = r) = false := by
        simp only [decide_eq_false_iff_not]
        intro h; subst h; exact he rfl
      rw [hd] at hk
      simp only [go_sem, reduceCtorEq, Nat.reduceAdd, Nat.reduceMul, Nat.reduceLeDiff, Nat.reduceLT, Int.reduceLE, Int.reduceLT, Int.reduceEq, Nat.reduceBEq, Nat.reduceEqDiff, c2, w1]
      refine awp_draw [] Tryd.mixed rfl ?_
      simp only [go_sem, reduceCtorEq, Nat.reduceAdd, Nat.reduceMul, Nat.reduceLeDiff, Nat.reduceLT, Int.reduceLE, Int.reduceLT, Int.reduceEq, Nat.reduceBEq, Nat.reduceEqDiff, List.length_map, g1, g2, c3, w1]
      exact ⟨by omega, by omega, fin_pure1 (ids_scv _ _) hk⟩
  · have c2 : decide ((i : Int) < (l.length : Int)) = false := by simp; omega
    have hd : decide (l = r) = true := by
      rw [List.take_of_length_le (by omega), List.take_of_length_le (by omega)] at htk
      simp [htk]
    rw [hd] at hk
    simp only [go_sem, reduceCtorEq, Nat.reduceAdd, Nat.reduceMul, Nat.reduceLeDiff, Nat.reduceLT, Int.reduceLE, Int.reduceLT, Int.reduceEq, Nat.reduceBEq, Nat.reduceEqDiff, c2]
    exact fin_pure1 (ids_scv _ _) hk
end Go.Proofs
