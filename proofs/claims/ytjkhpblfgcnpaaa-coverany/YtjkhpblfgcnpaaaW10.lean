/- any, con, count. -/
import Derived.Test.YtjkhpblfgcnpaaaW9
import Derived.Test.YtjkhpblfgcnpaaaA3
set_option linter.unusedSimpArgs false
set_option maxRecDepth 4000
namespace Go.Proofs
open Go Go.AL

def anyN : Nd := .mk 24 ⟨#[]⟩ 0 0 [] []
def conN (name : ByteArray) (l : List Nd) : Nd := .mk 5 name 0 0 [] l

theorem any_c (K : SV → St → Prop) (st : St) (h : K (nodeSV anyN) st) : ACalls Try.prog 7 [] K st := by
  rw [nodeSV_eq] at h
  refine acalls_le ?_
  refine acalls_go_pure [] Try.func7 rfl Try.results7 Try.ntmps7 ?_
  simp only [go_sem, imp_self, implies_true, reduceCtorEq, false_imp_iff, true_imp_iff, decide_true, decide_false, Int.toNat_natCast, Int.toNat_zero, Int.toNat_one, Int.natCast_nonneg, Int.le_refl, Nat.le_refl, Nat.reduceAdd, Nat.reduceMul, Nat.reduceLeDiff, Nat.reduceLT, Int.reduceLE, Int.reduceLT, Nat.reduceBEq, Nat.reduceEqDiff, Bool.not_true, Bool.not_false, Bool.and_false, Bool.false_and, Bool.or_true, Bool.true_or, Bool.or_false, Bool.false_or, call_func, c_draw, c_loop, FinK]
  refine ⟨⟨ids_slice (.inl rfl) fun x hx => (by cases hx), ids_slice (.inl rfl) fun x hx => (by cases hx)⟩, _, ?_, h⟩
  exact SVle.agg (.cons (SVle.refl _) (.cons (SVle.refl _) (.cons (SVle.refl _) (.cons (SVle.refl _) (.cons (SVle.nil _ _ _ (.inr rfl)) (.cons (SVle.nil _ _ _ (.inr rfl)) .nil))))))

theorem con_c (name : ByteArray) (l : List Nd) (K : SV → St → Prop) (st : St) (h : K (nodeSV (conN name l)) st) : ACalls Try.prog 16 [.sc (.string name), nodesSV l] K st := by
  rw [nodeSV_eq] at h
  refine acalls_le ?_
  refine acalls_go_pure [] Try.func16 rfl Try.results16 Try.ntmps16 ?_
  simp only [go_sem, imp_self, implies_true, reduceCtorEq, false_imp_iff, true_imp_iff, decide_true, decide_false, Int.toNat_natCast, Int.toNat_zero, Int.toNat_one, Int.natCast_nonneg, Int.le_refl, Nat.le_refl, Nat.reduceAdd, Nat.reduceMul, Nat.reduceLeDiff, Nat.reduceLT, Int.reduceLE, Int.reduceLT, Nat.reduceBEq, Nat.reduceEqDiff, Bool.not_true, Bool.not_false, Bool.and_false, Bool.false_and, Bool.or_true, Bool.true_or, Bool.or_false, Bool.false_or, call_func, c_draw, c_loop, FinK]
  refine ⟨⟨ids_slice (.inl rfl) fun x hx => (by cases hx), ids_nodes _ l⟩, _, ?_, h⟩
  exact SVle.agg (.cons (SVle.refl _) (.cons (SVle.refl _) (.cons (SVle.refl _) (.cons (SVle.refl _) (.cons (SVle.nil _ _ _ (.inr rfl)) (.cons (SVle.refl _) .nil))))))

theorem cntL_append (a b : List Nd) : cntL (a ++ b) = cntL a + cntL b := by
  induction a with
  | nil => simp [cntL]
  | cons x r ih => simp only [List.cons_append, cntL, ih]; omega

theorem count_c : ∀ (b : Nat), b ≤ 100000 → ∀ n : Nd, cnt n ≤ b → ∀ (K : SV → St → Prop) (st : St), K (.sc (.int .i64 (cnt n))) st → ACalls Try.prog 18 [nodeSV n] K st
  | 0, _, n, h, _, _, _ => absurd h (by have := cnt_pos n; omega)
  | b + 1, hb, n, hn, K, st, h => by
    refine acalls_go_pure [] Try.func18 rfl Try.results18 Try.ntmps18 ?_
    have hk : n.kids.length ≤ b := by have := len_cntL n.kids; have := cnt_eq n; omega
    rw [nodeSV_eq]
    simp only [go_sem, imp_self, implies_true, reduceCtorEq, false_imp_iff, true_imp_iff, decide_true, decide_false, Int.toNat_natCast, Int.toNat_zero, Int.toNat_one, Int.natCast_nonneg, Int.le_refl, Nat.le_refl, Nat.reduceAdd, Nat.reduceMul, Nat.reduceLeDiff, Nat.reduceLT, Int.reduceLE, Int.reduceLT, Nat.reduceBEq, Nat.reduceEqDiff, Bool.not_true, Bool.not_false, Bool.and_false, Bool.false_and, Bool.or_true, Bool.true_or, Bool.or_false, Bool.false_or, call_func, c_draw, c_loop, FinK]
    refine awp_rounds [] (fun l e s => ∃ (k : Nat), k + l = n.kids.length ∧ e = [.any, .ref [.sc (.int .i64 n.kind), .sc (.string n.text), .sc (.int .i64 n.number), .sc (.int .i64 n.at_), strsSV n.names, .slice .imm 6 (n.kids.map nodeSV)], .any, .sc (.int .i64 ((1 + cntL (n.kids.take k) : Nat) : Int)), .sc (.int .i64 k), .any, .any, .any, .any, .any, .any, .any, .any, .any, .any, .any, .any, .any, .any, .any, .any] ∧ s = st) (n := n.kids.length) ?_ ⟨0, by omega, rfl, rfl⟩ ?_
    · repeat (first | exact leEnv_nil | refine leEnv_any _ ?_ | refine leEnv_same _ ?_)
    · rintro l e s ⟨k, hkl, rfl, rfl⟩
      by_cases hlt : k < n.kids.length
      · have i1 : (k : Int) < (n.kids.length : Int) := by omega
        have hw := wrap_succ k (by omega)
        have hmem : n.kids.getD k default ∈ n.kids := by simp [List.getD_eq_getElem?_getD, hlt]
        have hcx : cnt (n.kids.getD k default) ≤ b := by have := mem_cntL hmem; have := cnt_eq n; omega
        have htk : cntL (n.kids.take (k + 1)) = cntL (n.kids.take k) + cnt (n.kids.getD k default) := by
          rw [take_snoc' _ hlt, cntL_append]; simp [cntL]
        have hle : cntL (n.kids.take (k + 1)) ≤ b := by
          have e : cntL (n.kids.take (k + 1)) + cntL (n.kids.drop (k + 1)) = cntL n.kids := by rw [← cntL_append, List.take_append_drop]
          have := cnt_eq n
          omega
        have hs : IntKind.i64.wrap (((1 + cntL (n.kids.take k) : Nat) : Int) + (cnt (n.kids.getD k default) : Int)) = ((1 + cntL (n.kids.take (k + 1)) : Nat) : Int) := by
          rw [IntWalk.i64_in _ (by omega), htk]; omega
        simp only [go_sem, imp_self, implies_true, reduceCtorEq, false_imp_iff, true_imp_iff, decide_true, decide_false, Int.toNat_natCast, Int.toNat_zero, Int.toNat_one, Int.natCast_nonneg, Int.le_refl, Nat.le_refl, Nat.reduceAdd, Nat.reduceMul, Nat.reduceLeDiff, Nat.reduceLT, Int.reduceLE, Int.reduceLT, Nat.reduceBEq, Nat.reduceEqDiff, Bool.not_true, Bool.not_false, Bool.and_false, Bool.false_and, Bool.or_true, Bool.true_or, Bool.or_false, Bool.false_or, call_func, c_draw, c_loop, i1, hw, getD_map' _ hlt]
        refine count_c b (by omega) _ hcx _ _ ?_
        simp only [go_sem, imp_self, implies_true, reduceCtorEq, false_imp_iff, true_imp_iff, decide_true, decide_false, Int.toNat_natCast, Int.toNat_zero, Int.toNat_one, Int.natCast_nonneg, Int.le_refl, Nat.le_refl, Nat.reduceAdd, Nat.reduceMul, Nat.reduceLeDiff, Nat.reduceLT, Int.reduceLE, Int.reduceLT, Nat.reduceBEq, Nat.reduceEqDiff, Bool.not_true, Bool.not_false, Bool.and_false, Bool.false_and, Bool.or_true, Bool.true_or, Bool.or_false, Bool.false_or, call_func, c_draw, c_loop, hs]
        refine ⟨l - 1, _, by omega, ?_, k + 1, by omega, rfl⟩
        repeat (first | exact leEnv_nil | refine leEnv_any _ ?_ | refine leEnv_same _ ?_)
      · obtain rfl : k = n.kids.length := by omega
        have d1 : ((n.kids.length : Int) < (n.kids.length : Int)) = False := eq_false (by omega)
        rw [cnt_eq] at h
        simp only [go_sem, imp_self, implies_true, reduceCtorEq, false_imp_iff, true_imp_iff, decide_true, decide_false, Int.toNat_natCast, Int.toNat_zero, Int.toNat_one, Int.natCast_nonneg, Int.le_refl, Nat.le_refl, Nat.reduceAdd, Nat.reduceMul, Nat.reduceLeDiff, Nat.reduceLT, Int.reduceLE, Int.reduceLT, Nat.reduceBEq, Nat.reduceEqDiff, Bool.not_true, Bool.not_false, Bool.and_false, Bool.false_and, Bool.or_true, Bool.true_or, Bool.or_false, Bool.false_or, call_func, c_draw, c_loop, d1, FinK, List.take_length]
        exact h

end Go.Proofs
