/- The first walks: own. -/
import Derived.Test.YteclbnjpijakbaaDoorW1
import Derived.IntWalk
set_option linter.unusedSimpArgs false
namespace Go.Proofs
open Go Go.AL

set_option maxRecDepth 4000
/-- Is a variable the state's? -/
theorem own_c {id : Nat} (n vs : Int) (m : SV) (K : SV → St → Prop) (st : St) (ho : isObj st id) (hv : objAt st id = [.sc (.int .i64 vs), m]) (h : K (.sc (.bool (decide (1 ≤ n) && decide (n ≤ vs)))) st) : ACalls Tryd.prog 34 [.ptr id 0, .sc (.int .i64 n)] K st := by
  refine acalls_go_pure [] Tryd.func34 rfl Tryd.results34 Tryd.ntmps34 ?_
  simp only [go_sem, imp_self, implies_true, reduceCtorEq, false_imp_iff, true_imp_iff, decide_true, decide_false, Int.toNat_natCast, Int.toNat_zero, Int.toNat_one, Int.natCast_nonneg, Int.le_refl, Nat.le_refl, Nat.reduceAdd, Nat.reduceMul, Nat.reduceLeDiff, Nat.reduceLT, Int.reduceLE, Int.reduceLT, Nat.reduceBEq, Nat.reduceEqDiff, Bool.not_true, Bool.not_false, Bool.and_false, Bool.false_and, Bool.or_true, Bool.true_or, Bool.or_false, Bool.false_or, call_func, c_draw, c_loop, FinK, hv, ho]
  by_cases h1 : 1 ≤ n
  · simp_all [go_sem]
  · have e : decide (1 ≤ n) = false := by simp; omega
    rw [e, Bool.false_and] at h
    simp_all [go_sem]
    try (have e2 : decide (1 ≤ n) = false := by simp; omega)
    try (rw [e2, Bool.false_and]; exact h)

end Go.Proofs
