/- The first walks: loose, same, column. -/
import Derived.Test.YtjkhpblfgcnpaaaFacts
import Derived.Test.YtjkhpblfgcnpaaaData
import Derived.IntWalk
set_option linter.unusedSimpArgs false
namespace Go.Proofs
open Go Go.AL

def looseB (n : Nd) : Bool := n.kind == 24 || n.kind == 4
def sameB (a b : Nd) : Bool := (a.kind == b.kind && a.text.toList == b.text.toList) && a.number == b.number

set_option maxRecDepth 4000
theorem loose_c (n : Nd) (K : SV → St → Prop) (st : St) (h : K (.sc (.bool (looseB n))) st) : ACalls Try.prog 30 [nodeSV n] K st := by
  refine acalls_go_pure [] Try.func30 rfl Try.results30 Try.ntmps30 ?_
  rw [nodeSV_eq]
  simp only [go_sem, imp_self, implies_true, reduceCtorEq, false_imp_iff, true_imp_iff, decide_true, decide_false, Int.toNat_natCast, Int.toNat_zero, Int.toNat_one, Int.natCast_nonneg, Int.le_refl, Nat.le_refl, Nat.reduceAdd, Nat.reduceMul, Nat.reduceLeDiff, Nat.reduceLT, Int.reduceLE, Int.reduceLT, Nat.reduceBEq, Nat.reduceEqDiff, Bool.not_true, Bool.not_false, Bool.and_false, Bool.false_and, Bool.or_true, Bool.true_or, Bool.or_false, Bool.false_or, call_func, c_draw, c_loop, FinK, Bool.not_eq_eq_eq_not]
  exact h

theorem same_c (a b : Nd) (K : SV → St → Prop) (st : St) (h : K (.sc (.bool (sameB a b))) st) : ACalls Try.prog 28 [nodeSV a, nodeSV b] K st := by
  refine acalls_go_pure [] Try.func28 rfl Try.results28 Try.ntmps28 ?_
  rw [nodeSV_eq, nodeSV_eq]
  simp only [go_sem, imp_self, implies_true, reduceCtorEq, false_imp_iff, true_imp_iff, decide_true, decide_false, Int.toNat_natCast, Int.toNat_zero, Int.toNat_one, Int.natCast_nonneg, Int.le_refl, Nat.le_refl, Nat.reduceAdd, Nat.reduceMul, Nat.reduceLeDiff, Nat.reduceLT, Int.reduceLE, Int.reduceLT, Nat.reduceBEq, Nat.reduceEqDiff, Bool.not_true, Bool.not_false, Bool.and_false, Bool.false_and, Bool.or_true, Bool.true_or, Bool.or_false, Bool.false_or, call_func, c_draw, c_loop, FinK]
  exact h

def columnL (rows : List (List Nd)) : List Nd := (rows.filter fun r => !looseB (r.getD 0 default)).map fun r => r.getD 0 default

theorem take_snoc' {α : Type} [Inhabited α] (l : List α) {k : Nat} (h : k < l.length) : l.take (k + 1) = l.take k ++ [l.getD k default] := by
  rw [List.take_succ_eq_append_getElem h]; simp [List.getD_eq_getElem?_getD, h]

theorem wrap_succ (k : Nat) (h : k ≤ 1000000) : IntKind.i64.wrap ((k : Int) + 1) = ((k + 1 : Nat) : Int) := by
  rw [IntWalk.i64_in _ (by omega)]; rfl

theorem column_snoc (rows : List (List Nd)) {k : Nat} (h : k < rows.length) (b : Bool) (hb : looseB ((rows.getD k default).getD 0 default) = b) :
    (columnL (rows.take (k + 1))).map nodeSV = if b then (columnL (rows.take k)).map nodeSV else (columnL (rows.take k)).map nodeSV ++ [nodeSV ((rows.getD k default).getD 0 default)] := by
  rw [take_snoc' rows h]
  unfold columnL
  rw [List.filter_append, List.map_append, List.map_append]
  generalize rows.getD k default = r at hb
  cases b <;> simp only [List.filter_cons, hb, Bool.not_false, Bool.not_true, if_true, Bool.false_eq_true, if_false, List.filter_nil, List.map_cons, List.map_nil, List.append_nil]

theorem app22 {n : Nat} (h : n ≤ 1000000) : AppOk Try.prog 22 22 6 n := appOk_of Try.aelem22 Try.aelem22 Try.asize25 Try.azero25 rfl Try.abytes25 (by omega) h

theorem columnL_len (rows : List (List Nd)) : (columnL rows).length ≤ rows.length := by
  unfold columnL; rw [List.length_map]; exact List.length_filter_le _ _

theorem column_c (rows : List (List Nd)) (hne : ∀ r ∈ rows, r ≠ []) (hb : rows.length ≤ 100000) (K : SV → St → Prop) (st : St) (h : K (nodesSV (columnL rows)) st) : ACalls Try.prog 24 [rowsSV rows] K st := by
  refine acalls_go_pure [] Try.func24 rfl Try.results24 Try.ntmps24 ?_
  rw [rowsSV]
  simp only [go_sem, imp_self, implies_true, reduceCtorEq, false_imp_iff, true_imp_iff, decide_true, decide_false, Int.toNat_natCast, Int.toNat_zero, Int.toNat_one, Int.natCast_nonneg, Int.le_refl, Nat.le_refl, Nat.reduceAdd, Nat.reduceMul, Nat.reduceLeDiff, Nat.reduceLT, Int.reduceLE, Int.reduceLT, Nat.reduceBEq, Nat.reduceEqDiff, Bool.not_true, Bool.not_false, Bool.and_false, Bool.false_and, Bool.or_true, Bool.true_or, Bool.or_false, Bool.false_or, call_func, c_draw, c_loop]
  refine awp_own 3 6 0 rfl ?_
  simp only [go_sem]
  refine awp_rounds [] (fun m e s => ∃ k ver, k + m = rows.length ∧ e = [.slice .imm 1 (rows.map nodesSV), .any, .any, .slice (.own st.length ver) 6 ((columnL (rows.take k)).map nodeSV), .any, .any, .slice .imm 1 (rows.map nodesSV),
     .sc (.int .i64 rows.length), .sc (.int .i64 k), .any, .any, .any, .any, .any, .any, .any, .any, .any, .any, .any, .any, .any, .any, .any, .any] ∧ s = st ++ [.tok ver]) (n := rows.length) ?_ ⟨0, 0, by omega, rfl, rfl⟩ ?_
  · repeat (first | exact leEnv_nil | refine leEnv_any _ ?_ | refine leEnv_same _ ?_)
  · rintro m e s ⟨k, ver, hk, rfl, rfl⟩
    by_cases hlt : k < rows.length
    · have hr : (rows.getD k default) ∈ rows := by simp [List.getD_eq_getElem?_getD, hlt]
      have hne' := List.length_pos_iff.2 (hne _ hr)
      have i1 : (k : Int) < (rows.length : Int) := by omega
      have d0 : (0 : Int) < ((rows.getD k default).length : Int) := by omega
      have hw := wrap_succ k (by omega)
      have hlen : (columnL (rows.take k)).length + 1 ≤ 1000000 := by
        have := columnL_len (rows.take k)
        simp at this
        omega
      simp only [go_sem, imp_self, implies_true, reduceCtorEq, false_imp_iff, true_imp_iff, decide_true, decide_false, Int.toNat_natCast, Int.toNat_zero, Int.toNat_one, Int.natCast_nonneg, Int.le_refl, Nat.le_refl, Nat.reduceAdd, Nat.reduceMul, Nat.reduceLeDiff, Nat.reduceLT, Int.reduceLE, Int.reduceLT, Nat.reduceBEq, Nat.reduceEqDiff, Bool.not_true, Bool.not_false, Bool.and_false, Bool.false_and, Bool.or_true, Bool.true_or, Bool.or_false, Bool.false_or, call_func, c_draw, c_loop, i1, d0, hw, getD_map' _ hlt, getD_map' _ hne']
      refine loose_c _ _ _ ?_
      cases hL : looseB ((rows.getD k default).getD 0 default)
      · have hc := column_snoc rows hlt _ hL
        simp only [Bool.false_eq_true, if_false] at hc
        simp only [go_sem, imp_self, implies_true, reduceCtorEq, false_imp_iff, true_imp_iff, decide_true, decide_false, Int.toNat_natCast, Int.toNat_zero, Int.toNat_one, Int.natCast_nonneg, Int.le_refl, Nat.le_refl, Nat.reduceAdd, Nat.reduceMul, Nat.reduceLeDiff, Nat.reduceLT, Int.reduceLE, Int.reduceLT, Nat.reduceBEq, Nat.reduceEqDiff, Bool.not_true, Bool.not_false, Bool.and_false, Bool.false_and, Bool.or_true, Bool.true_or, Bool.or_false, Bool.false_or, call_func, c_draw, c_loop, ← hc]
        refine ⟨app22 hlen, m - 1, _, by omega, ?_, k + 1, ver + 1, by omega, rfl, rfl⟩
        repeat (first | exact leEnv_nil | refine leEnv_any _ ?_ | refine leEnv_same _ ?_)
      · have hc := column_snoc rows hlt _ hL
        simp only [if_true] at hc
        simp only [go_sem, imp_self, implies_true, reduceCtorEq, false_imp_iff, true_imp_iff, decide_true, decide_false, Int.toNat_natCast, Int.toNat_zero, Int.toNat_one, Int.natCast_nonneg, Int.le_refl, Nat.le_refl, Nat.reduceAdd, Nat.reduceMul, Nat.reduceLeDiff, Nat.reduceLT, Int.reduceLE, Int.reduceLT, Nat.reduceBEq, Nat.reduceEqDiff, Bool.not_true, Bool.not_false, Bool.and_false, Bool.false_and, Bool.or_true, Bool.true_or, Bool.or_false, Bool.false_or, call_func, c_draw, c_loop, ← hc]
        refine ⟨m - 1, _, by omega, ?_, k + 1, ver, by omega, rfl, rfl⟩
        repeat (first | exact leEnv_nil | refine leEnv_any _ ?_ | refine leEnv_same _ ?_)
    · have d1 : decide ((k : Int) < (rows.length : Int)) = false := by simp [hlt]
      obtain rfl : k = rows.length := by omega
      simp only [go_sem, imp_self, implies_true, reduceCtorEq, false_imp_iff, true_imp_iff, decide_true, decide_false, Int.toNat_natCast, Int.toNat_zero, Int.toNat_one, Int.natCast_nonneg, Int.le_refl, Nat.le_refl, Nat.reduceAdd, Nat.reduceMul, Nat.reduceLeDiff, Nat.reduceLT, Int.reduceLE, Int.reduceLT, Nat.reduceBEq, Nat.reduceEqDiff, Bool.not_true, Bool.not_false, Bool.and_false, Bool.false_and, Bool.or_true, Bool.true_or, Bool.or_false, Bool.false_or, call_func, c_draw, c_loop, d1, FinK, List.take_length]
      exact ⟨ids_nodes _ _, h⟩

end Go.Proofs
