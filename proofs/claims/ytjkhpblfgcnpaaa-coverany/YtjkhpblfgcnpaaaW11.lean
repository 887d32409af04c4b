/- together$1, means$1$1. -/
import Derived.Test.YtjkhpblfgcnpaaaW10
set_option linter.unusedSimpArgs false
set_option maxRecDepth 4000
namespace Go.Proofs
open Go Go.AL

theorem together1_c (c d : Nd) (id : Nat) (K : SV → St → Prop) (st : St) (hi : isObj st id) (ho : objAt st id = (nodeSV d).cells) (h : K (.sc (.bool (sameB c d))) st) : ACalls Try.prog 27 [nodeSV c, .ptr id 0] K st := by
  refine acalls_go_pure [] Try.func27 rfl Try.results27 Try.ntmps27 ?_
  have hi' : isObj st id = True := eq_true hi
  have e1 := cellsOf_node (P := Try.prog) (t := 25) d Try.aagg25 Try.asize25
  have e2 := cellsOf_node (P := Try.prog) (t := 25) c Try.aagg25 Try.asize25
  simp only [go_sem, imp_self, implies_true, reduceCtorEq, false_imp_iff, true_imp_iff, decide_true, decide_false, Int.toNat_natCast, Int.toNat_zero, Int.toNat_one, Int.natCast_nonneg, Int.le_refl, Nat.le_refl, Nat.reduceAdd, Nat.reduceMul, Nat.reduceLeDiff, Nat.reduceLT, Int.reduceLE, Int.reduceLT, Nat.reduceBEq, Nat.reduceEqDiff, Bool.not_true, Bool.not_false, Bool.and_false, Bool.false_and, Bool.or_true, Bool.true_or, Bool.or_false, Bool.false_or, call_func, c_draw, c_loop, FinK, hi', ho, e1, e2]
  refine same_c c d _ _ ?_
  simp only [go_sem, imp_self, implies_true, reduceCtorEq, false_imp_iff, true_imp_iff, decide_true, decide_false, Int.toNat_natCast, Int.toNat_zero, Int.toNat_one, Int.natCast_nonneg, Int.le_refl, Nat.le_refl, Nat.reduceAdd, Nat.reduceMul, Nat.reduceLeDiff, Nat.reduceLT, Int.reduceLE, Int.reduceLT, Nat.reduceBEq, Nat.reduceEqDiff, Bool.not_true, Bool.not_false, Bool.and_false, Bool.false_and, Bool.or_true, Bool.true_or, Bool.or_false, Bool.false_or, call_func, c_draw, c_loop, FinK]
  exact h

theorem means11_c (c : Nd) (d : Cn) (K : SV → St → Prop) (st : St) (h : K (.sc (.bool (c.text.toList == d.name.toList))) st) : ACalls Try.prog 34 [nodeSV c, .ref (conSV d).cells] K st := by
  refine acalls_go_pure [] Try.func34 rfl Try.results34 Try.ntmps34 ?_
  simp only [go_sem, imp_self, implies_true, reduceCtorEq, false_imp_iff, true_imp_iff, decide_true, decide_false, Int.toNat_natCast, Int.toNat_zero, Int.toNat_one, Int.natCast_nonneg, Int.le_refl, Nat.le_refl, Nat.reduceAdd, Nat.reduceMul, Nat.reduceLeDiff, Nat.reduceLT, Int.reduceLE, Int.reduceLT, Nat.reduceBEq, Nat.reduceEqDiff, Bool.not_true, Bool.not_false, Bool.and_false, Bool.false_and, Bool.or_true, Bool.true_or, Bool.or_false, Bool.false_or, call_func, c_draw, c_loop, FinK]
  exact h

end Go.Proofs
