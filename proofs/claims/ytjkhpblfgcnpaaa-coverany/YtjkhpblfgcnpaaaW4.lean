/- of, sound$1, plain, con. -/
import Derived.Test.YtjkhpblfgcnpaaaW3
set_option linter.unusedSimpArgs false
set_option maxRecDepth 4000
namespace Go.Proofs
open Go Go.AL

theorem of1_c (c : Cn) (of_ : ByteArray) (K : SV → St → Prop) (st : St) (h : K (.sc (.bool (!(c.of_.toList == of_.toList)))) st) : ACalls Try.prog 39 [conSV c, .ref [.sc (.string of_)]] K st := by
  refine acalls_go_pure [] Try.func39 rfl Try.results39 Try.ntmps39 ?_
  simp only [go_sem, imp_self, implies_true, reduceCtorEq, false_imp_iff, true_imp_iff, decide_true, decide_false, Int.toNat_natCast, Int.toNat_zero, Int.toNat_one, Int.natCast_nonneg, Int.le_refl, Nat.le_refl, Nat.reduceAdd, Nat.reduceMul, Nat.reduceLeDiff, Nat.reduceLT, Int.reduceLE, Int.reduceLT, Nat.reduceBEq, Nat.reduceEqDiff, Bool.not_true, Bool.not_false, Bool.and_false, Bool.false_and, Bool.or_true, Bool.true_or, Bool.or_false, Bool.false_or, call_func, c_draw, c_loop, FinK]
  exact h

def clash (a c : Cn) : Bool := a.name.toList == c.name.toList || (a.of_.toList == c.of_.toList && a.tag == c.tag)

theorem sound1_c (c d : Cn) (K : SV → St → Prop) (st : St) (h : K (.sc (.bool (clash c d))) st) : ACalls Try.prog 21 [conSV c, .ref (conSV d).cells] K st := by
  refine acalls_go_pure [] Try.func21 rfl Try.results21 Try.ntmps21 ?_
  unfold clash at h
  simp only [go_sem, imp_self, implies_true, reduceCtorEq, false_imp_iff, true_imp_iff, decide_true, decide_false, Int.toNat_natCast, Int.toNat_zero, Int.toNat_one, Int.natCast_nonneg, Int.le_refl, Nat.le_refl, Nat.reduceAdd, Nat.reduceMul, Nat.reduceLeDiff, Nat.reduceLT, Int.reduceLE, Int.reduceLT, Nat.reduceBEq, Nat.reduceEqDiff, Bool.not_true, Bool.not_false, Bool.and_false, Bool.false_and, Bool.or_true, Bool.true_or, Bool.or_false, Bool.false_or, call_func, c_draw, c_loop, FinK]
  repeat' (first | exact h | apply And.intro)
  all_goals (intros; simp_all)

def plainB (n : Nd) : Bool :=
  (((((n.text.toList == (⟨#[]⟩ : ByteArray).toList) || n.kind == 4) || n.kind == 5) && (n.names.length : Int) == 0) && (n.number == 0 || n.kind == 1)) && ((n.kids.length : Int) == 0 || n.kind == 5)

theorem plain_c (n : Nd) (K : SV → St → Prop) (st : St) (h : K (.sc (.bool (plainB n))) st) : ACalls Try.prog 22 [nodeSV n] K st := by
  refine acalls_go_pure [] Try.func22 rfl Try.results22 Try.ntmps22 ?_
  unfold plainB at h
  rw [nodeSV_eq]
  simp only [go_sem, imp_self, implies_true, reduceCtorEq, false_imp_iff, true_imp_iff, decide_true, decide_false, Int.toNat_natCast, Int.toNat_zero, Int.toNat_one, Int.natCast_nonneg, Int.le_refl, Nat.le_refl, Nat.reduceAdd, Nat.reduceMul, Nat.reduceLeDiff, Nat.reduceLT, Int.reduceLE, Int.reduceLT, Nat.reduceBEq, Nat.reduceEqDiff, Bool.not_true, Bool.not_false, Bool.and_false, Bool.false_and, Bool.or_true, Bool.true_or, Bool.or_false, Bool.false_or, call_func, c_draw, c_loop, FinK]
  repeat' (first | exact h | apply And.intro)
  all_goals (intros; simp_all)

end Go.Proofs
