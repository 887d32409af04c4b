import Derived.Test.YtnjiphlokjfdlaaDoorW35
set_option linter.unusedSimpArgs false
set_option linter.unusedVariables false
set_option maxRecDepth 8000
namespace Go.Proofs
open Go Go.AL
/-- One of n. -/
def pickF (c n : Int) : Int := (if c < 0 then -(c + 1) else c).tmod n
theorem pick_rng {c : Int} {n : Nat} (hn : 0 < n) : ∃ k : Nat, k < n ∧ pickF c n = k := by
  unfold pickF
  have h0 : 0 ≤ (if c < 0 then -(c + 1) else c) := by split <;> omega
  have h1 := Int.tmod_nonneg (n : Int) h0
  have h2 := Int.tmod_lt_of_pos (if c < 0 then -(c + 1) else c) (b := (n : Int)) (by omega)
  exact ⟨((if c < 0 then -(c + 1) else c).tmod n).toNat, by omega, by omega⟩
set_option maxHeartbeats 4000000 in
theorem pick_c {c : Int} {n : Nat} (hc : -9223372036854775808 ≤ c ∧ c ≤ 9223372036854775807) (hn : 0 < n) (hn2 : n ≤ 1000) {k : Nat} (hk0 : pickF c n = k) {K : SV → St → Prop} {st : St} (hk : K (.sc (.int .i64 k)) st) : ACalls Tryd.prog 8 [.sc (.int .i64 c), .sc (.int .i64 n)] K st := by
  refine acalls_go_pure [] Tryd.func8 rfl Tryd.results8 Tryd.ntmps8 ?_
  unfold pickF at hk0
  by_cases h : c < 0
  · have c1 : decide (c < 0) = true := by simp [h]
    have w1 : IntKind.i64.wrap (c + 1) = c + 1 := IntWalk.i64_in _ (by omega)
    have w2 : IntKind.i64.wrap (0 - (c + 1)) = -(c + 1) := by rw [IntWalk.i64_in _ (by omega)]; omega
    rw [if_pos h] at hk0
    simp only [go_sem, reduceCtorEq, Nat.reduceAdd, Nat.reduceMul, Nat.reduceLeDiff, Nat.reduceLT, Int.reduceLE, Int.reduceLT, Int.reduceEq, Nat.reduceBEq, Nat.reduceEqDiff, c1, w1, w2]
    rw [hk0]
    exact ⟨by omega, fin_pure1 (ids_scv _ _) hk⟩
  · have c1 : decide (c < 0) = false := by simp [h]
    rw [if_neg h] at hk0
    simp only [go_sem, reduceCtorEq, Nat.reduceAdd, Nat.reduceMul, Nat.reduceLeDiff, Nat.reduceLT, Int.reduceLE, Int.reduceLT, Int.reduceEq, Nat.reduceBEq, Nat.reduceEqDiff, c1]
    rw [hk0]
    exact ⟨by omega, fin_pure1 (ids_scv _ _) hk⟩
end Go.Proofs
