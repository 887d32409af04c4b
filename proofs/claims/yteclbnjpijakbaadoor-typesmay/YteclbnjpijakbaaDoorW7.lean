/- begin. -/
import Derived.Test.YteclbnjpijakbaaDoorW6
set_option linter.unusedSimpArgs false
set_option maxRecDepth 8000
namespace Go.Proofs
open Go Go.AL

/-- Behind so many rounds of begin. -/
structure Begun (st s : St) (k : Nat) : Prop where
  len : s.length = st.length + 5
  old : ∀ j, j < st.length → s[j]? = st[j]?
  bound : s[st.length]? = some (.map [])
  own : s[st.length + 1]? = some (.cells [.sc (.int .i64 k), .mp st.length])
  ref : ∃ va vb, RSt s (st.length + 2) (st.length + 3) (st.length + 4) va vb (List.replicate k none)

theorem rep_snoc (k : Nat) : List.replicate k (none : Option Ty) ++ [none] = List.replicate (k + 1) none := by
  rw [List.replicate_succ']

theorem Begun.next {st s s' : St} {k : Nat} (h : Begun st s k) {va vb : Nat} (hl : s'.length = (s.set (st.length + 1) (.cells [.sc (.int .i64 ((k : Int) + 1)), .mp st.length])).length)
    (hR : RSt s' (st.length + 2) (st.length + 3) (st.length + 4) va vb (List.replicate k none ++ [none]))
    (ho : ∀ j, j ≠ st.length + 2 → j ≠ st.length + 3 → j ≠ st.length + 4 → s'[j]? = (s.set (st.length + 1) (.cells [.sc (.int .i64 ((k : Int) + 1)), .mp st.length]))[j]?) : Begun st s' (k + 1) := by
  refine ⟨by rw [hl, List.length_set, h.len], fun j hj => ?_, ?_, ?_, va, vb, by rw [← rep_snoc]; exact hR⟩
  · rw [ho j (by omega) (by omega) (by omega), List.getElem?_set_ne (by omega)]; exact h.old j hj
  · rw [ho _ (by omega) (by omega) (by omega), List.getElem?_set_ne (by omega)]; exact h.bound
  · rw [ho _ (by omega) (by omega) (by omega), get_setS h.own]; rfl

set_option maxHeartbeats 4000000 in
theorem begin_c (K : SV → St → Prop) (st : St) (h : ∀ s, Begun st s 6 → K (.tuple [.ptr (st.length + 1) 0, .ptr (st.length + 2) 0]) s) : ACalls Tryd.prog 7 [] K st := by
  refine acalls_go (M := [7]) Tryd.func7 rfl Tryd.results7 Tryd.ntmps7 ?_
  simp only [go_sem, imp_self, implies_true, reduceCtorEq, false_imp_iff, true_imp_iff, decide_true, decide_false, Int.toNat_natCast, Int.toNat_zero, Int.toNat_one, Int.natCast_nonneg, Int.le_refl, Nat.le_refl, Nat.reduceAdd, Nat.reduceMul, Nat.reduceLeDiff, Nat.reduceLT, Int.reduceLE, Int.reduceLT, Int.reduceEq, Nat.reduceBEq, Nat.reduceEqDiff, Bool.not_true, Bool.not_false, Bool.and_false, Bool.false_and, Bool.or_true, Bool.true_or, Bool.or_false, Bool.false_or, call_funcH, c_drawH, c_loopH, gAll_F, gIf_F, pickB_true, pickB_false, Array.toList_append, List.cons_append, List.nil_append, opTmps, List.contains_cons, List.contains_nil]
  refine new_c _ _ ?_
  simp only [go_sem, imp_self, implies_true, reduceCtorEq, false_imp_iff, true_imp_iff, decide_true, decide_false, Int.toNat_natCast, Int.toNat_zero, Int.toNat_one, Int.natCast_nonneg, Int.le_refl, Nat.le_refl, Nat.reduceAdd, Nat.reduceMul, Nat.reduceLeDiff, Nat.reduceLT, Int.reduceLE, Int.reduceLT, Int.reduceEq, Nat.reduceBEq, Nat.reduceEqDiff, Bool.not_true, Bool.not_false, Bool.and_false, Bool.false_and, Bool.or_true, Bool.true_or, Bool.or_false, Bool.false_or, call_funcH, c_drawH, c_loopH, gAll_F, gIf_F, pickB_true, pickB_false, Array.toList_append, List.cons_append, List.nil_append, opTmps, List.contains_cons, List.contains_nil]
  refine awp_arrC (st.length + 2) 0 3 0 (l := [.slice .full 0 [], .slice .full 0 []]) (by simp) (by simp) rfl ?_
  refine awp_arrC (st.length + 2) 1 1 0 (l := [.arr (st.length + 3) 0 0, .slice .full 0 []]) (by simp) (by simp) rfl ?_
  refine awp_rounds [] (fun m e s => ∃ (k : Nat), k + m = 6 ∧ e = [.any, .any, .ptr (st.length + 1) 0, .ptr (st.length + 2) 0, .sc (.int .i64 k), .any, .any, .any, .any, .any, .any, .any, .any, .any, .any, .any, .any, .any, .any, .any, .any, .any] ∧ Begun st s k) (n := 6) ?_ ⟨0, by omega, rfl, ?_⟩ ?_
  · repeat (first | exact leEnv_nil | refine leEnv_any _ ?_ | refine leEnv_same _ ?_ | refine leEnv_norm _ ?_)
  · refine ⟨by simp, fun j hj => ?_, by simp, by simp, 0, 0, ?_, ?_, ?_, by omega⟩
    · simp [List.getElem?_append, hj]
    · simp
    · simp
    · simp
  rintro m e s ⟨k, hkm, rfl, hB⟩
  by_cases hlt : k < 6
  · have c1 : (k : Int) < 6 := by omega
    have hw : IntKind.i64.wrap ((k : Int) + 1) = ((k + 1 : Nat) : Int) := by rw [IntWalk.i64_in _ (by omega)]; rfl
    obtain ⟨va, vb, hR⟩ := hB.ref
    have hlen := hB.len
    simp only [go_sem, imp_self, implies_true, reduceCtorEq, false_imp_iff, true_imp_iff, decide_true, decide_false, Int.toNat_natCast, Int.toNat_zero, Int.toNat_one, Int.natCast_nonneg, Int.le_refl, Nat.le_refl, Nat.reduceAdd, Nat.reduceMul, Nat.reduceLeDiff, Nat.reduceLT, Int.reduceLE, Int.reduceLT, Int.reduceEq, Nat.reduceBEq, Nat.reduceEqDiff, Bool.not_true, Bool.not_false, Bool.and_false, Bool.false_and, Bool.or_true, Bool.true_or, Bool.or_false, Bool.false_or, call_funcH, c_drawH, c_loopH, gAll_F, gIf_F, pickB_true, pickB_false, Array.toList_append, List.cons_append, List.nil_append, opTmps, List.contains_cons, List.contains_nil, c1]
    refine fresh_c (by omega) hB.own (.mp _ (by omega)) ?_
    simp only [go_sem, imp_self, implies_true, reduceCtorEq, false_imp_iff, true_imp_iff, decide_true, decide_false, Int.toNat_natCast, Int.toNat_zero, Int.toNat_one, Int.natCast_nonneg, Int.le_refl, Nat.le_refl, Nat.reduceAdd, Nat.reduceMul, Nat.reduceLeDiff, Nat.reduceLT, Int.reduceLE, Int.reduceLT, Int.reduceEq, Nat.reduceBEq, Nat.reduceEqDiff, Bool.not_true, Bool.not_false, Bool.and_false, Bool.false_and, Bool.or_true, Bool.true_or, Bool.or_false, Bool.false_or, call_funcH, c_drawH, c_loopH, gAll_F, gIf_F, pickB_true, pickB_false, Array.toList_append, List.cons_append, List.nil_append, opTmps, List.contains_cons, List.contains_nil, c1]
    refine rfresh_c (va := va) (vb := vb) (R := List.replicate k none) ⟨?_, ?_, ?_, hR.ne⟩ (by simp; omega) (fun s' h1 h2 h3 => ?_)
    · exact get_set_ne hR.hid _ (by omega)
    · exact get_set_ne hR.ha _ (by omega)
    · exact get_set_ne hR.hb _ (by omega)
    simp only [go_sem, imp_self, implies_true, reduceCtorEq, false_imp_iff, true_imp_iff, decide_true, decide_false, Int.toNat_natCast, Int.toNat_zero, Int.toNat_one, Int.natCast_nonneg, Int.le_refl, Nat.le_refl, Nat.reduceAdd, Nat.reduceMul, Nat.reduceLeDiff, Nat.reduceLT, Int.reduceLE, Int.reduceLT, Int.reduceEq, Nat.reduceBEq, Nat.reduceEqDiff, Bool.not_true, Bool.not_false, Bool.and_false, Bool.false_and, Bool.or_true, Bool.true_or, Bool.or_false, Bool.false_or, call_funcH, c_drawH, c_loopH, gAll_F, gIf_F, pickB_true, pickB_false, Array.toList_append, List.cons_append, List.nil_append, opTmps, List.contains_cons, List.contains_nil, hw]
    refine ⟨m - 1, _, by omega, ?_, k + 1, by omega, rfl, hB.next h2 h1 h3⟩
    repeat (first | exact leEnv_nil | refine leEnv_any _ ?_ | refine leEnv_same _ ?_ | refine leEnv_norm _ ?_)
  · obtain rfl : k = 6 := by omega
    have c1 : (((6 : Nat) : Int) < 6) = False := eq_false (by omega)
    simp only [go_sem, imp_self, implies_true, reduceCtorEq, false_imp_iff, true_imp_iff, decide_true, decide_false, Int.toNat_natCast, Int.toNat_zero, Int.toNat_one, Int.natCast_nonneg, Int.le_refl, Nat.le_refl, Nat.reduceAdd, Nat.reduceMul, Nat.reduceLeDiff, Nat.reduceLT, Int.reduceLE, Int.reduceLT, Int.reduceEq, Nat.reduceBEq, Nat.reduceEqDiff, Bool.not_true, Bool.not_false, Bool.and_false, Bool.false_and, Bool.or_true, Bool.true_or, Bool.or_false, Bool.false_or, call_funcH, c_drawH, c_loopH, gAll_F, gIf_F, pickB_true, pickB_false, Array.toList_append, List.cons_append, List.nil_append, opTmps, List.contains_cons, List.contains_nil, c1]
    exact h s hB

end Go.Proofs
