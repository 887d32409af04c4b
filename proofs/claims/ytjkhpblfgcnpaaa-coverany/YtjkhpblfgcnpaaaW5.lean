/- of: Clone, DeleteFunc. -/
import Derived.Test.YtjkhpblfgcnpaaaW4
set_option linter.unusedSimpArgs false
set_option maxRecDepth 4000
namespace Go.Proofs
open Go Go.AL

def flatC (l : List Cn) : List SV := (l.map conSV).flatMap SV.cells

theorem flatC_len (l : List Cn) : (flatC l).length = l.length * 5 := by
  induction l with
  | nil => rfl
  | cons c r ih =>
    have : flatC (c :: r) = (conSV c).cells ++ flatC r := rfl
    rw [this, List.length_append, ih, con_len, List.length_cons]; omega

theorem flatC_append (a b : List Cn) : flatC (a ++ b) = flatC a ++ flatC b := by simp [flatC]

theorem flatC_at (l : List Cn) (t : List SV) {k : Nat} (h : k < l.length) : ((flatC l ++ t).drop (k * 5)).take 5 = (conSV (l.getD k default)).cells := by
  have e : l = l.take k ++ l.getD k default :: l.drop (k + 1) := by
    rw [List.getD_eq_getElem?_getD, List.getElem?_eq_getElem h, Option.getD_some]
    simp
  have hk : (flatC (l.take k)).length = k * 5 := by rw [flatC_len, List.length_take]; omega
  have hc : flatC (l.getD k default :: l.drop (k + 1)) = (conSV (l.getD k default)).cells ++ flatC (l.drop (k + 1)) := rfl
  have hx : flatC l = flatC (l.take k) ++ ((conSV (l.getD k default)).cells ++ flatC (l.drop (k + 1))) := by rw [← hc, ← flatC_append, ← e]
  rw [hx, List.append_assoc, ← hk, List.drop_left, List.append_assoc, ← con_len (l.getD k default), List.take_left]

theorem flatC_cell (l : List Cn) (t : List SV) {k : Nat} (h : k < l.length) : cellsOf Try.prog 47 ((flatC l ++ t).drop (k * 5)) = some (conSV (l.getD k default)) := by
  have h1 := flatC_at l t h
  have h2 : 5 ≤ ((flatC l ++ t).drop (k * 5)).length := by
    have := congrArg List.length h1
    rw [con_len, List.length_take] at this
    omega
  generalize (flatC l ++ t).drop (k * 5) = m at h1 h2
  unfold cellsOf
  simp only [Try.aagg47, Try.asize47]
  simp [h1, h2]
  rfl

theorem app36 {n : Nat} (h : n ≤ 1000000) : AppOk Try.prog 36 36 5 n := appOk_of Try.aelem36 Try.aelem36 Try.asize47 Try.azero47 rfl Try.abytes47 (by omega) h

theorem clone_c (cons : List Cn) (hne : cons ≠ []) (hb : cons.length ≤ 100000) (K : SV → St → Prop) (st : St)
    (h : ∀ cap ex, cons.length ≤ cap → K (.slc st.length 5 0 cons.length cap) (st ++ [.cells (flatC cons ++ ex)])) : ACalls Try.prog 38 [consSV cons] K st := by
  refine acalls_go (M := [7]) Try.func38 rfl Try.results38 Try.ntmps38 ?_
  have hne' : cons.map conSV ≠ [] := by simpa using hne
  simp only [go_sem, imp_self, implies_true, reduceCtorEq, false_imp_iff, true_imp_iff, decide_true, decide_false, Int.toNat_natCast, Int.toNat_zero, Int.toNat_one, Int.natCast_nonneg, Int.le_refl, Nat.le_refl, Nat.reduceAdd, Nat.reduceMul, Nat.reduceLeDiff, Nat.reduceLT, Int.reduceLE, Int.reduceLT, Nat.reduceBEq, Nat.reduceEqDiff, Bool.not_true, Bool.not_false, Bool.and_false, Bool.false_and, Bool.or_true, Bool.true_or, Bool.or_false, Bool.false_or, call_func, c_draw, c_loop]
  refine ⟨hne', hne', app36 (by omega), fun cap hc => ?_⟩
  exact h _ _ hc

theorem index40o_c (id cap : Nat) (l : List Cn) (p : SV → Bool) (g : FuncId) (caps : List SV) (hg : aBody Try.prog g = true) (hlen : l.length ≤ 1000000) (st : St) (t : List SV)
    (hi : isObj st id) (ho : objAt st id = flatC l ++ t)
    (hp : ∀ x ∈ l, ∀ K : SV → St → Prop, K (.sc (.bool (p (conSV x)))) st → ACalls Try.prog g ([conSV x] ++ caps) K st) (K : SV → St → Prop) (h : K (.sc (.int .i64 (idxOf p (l.map conSV)))) st) :
    ACalls Try.prog 40 [.slc id 5 0 l.length cap, .func (.func g) [] caps] K st := by
  refine acalls_go_pure [] Try.func40 rfl Try.results40 Try.ntmps40 ?_
  simp only [go_sem, imp_self, implies_true, reduceCtorEq, false_imp_iff, true_imp_iff, decide_true, decide_false, Int.toNat_natCast, Int.toNat_zero, Int.toNat_one, Int.natCast_nonneg, Int.le_refl, Nat.le_refl, Nat.reduceAdd, Nat.reduceMul, Nat.reduceLeDiff, Nat.reduceLT, Int.reduceLE, Int.reduceLT, Nat.reduceBEq, Nat.reduceEqDiff, Bool.not_true, Bool.not_false, Bool.and_false, Bool.false_and, Bool.or_true, Bool.true_or, Bool.or_false, Bool.false_or, call_func, c_draw, c_loop]
  refine awp_rounds [] (fun n e s => ∃ k, k + n = l.length ∧ (∀ i, i < k → p ((l.map conSV).getD i .any) = false) ∧ e = [.slc id 5 0 l.length cap, .func (.func g) [] caps, .any, .any, .any, .any, .any, .sc (.int .i64 l.length), .sc (.int .i64 k), .any, .any, .any, .any, .any, .any, .any, .any, .any, .any] ∧ s = st)
    (n := l.length) ?_ ⟨0, by omega, fun i hi => absurd hi (Nat.not_lt_zero _), rfl, rfl⟩ ?_
  · repeat (first | exact leEnv_nil | refine leEnv_any _ ?_ | refine leEnv_same _ ?_)
  · rintro n e s ⟨k, hk, hno, rfl, rfl⟩
    by_cases hlt : k < l.length
    · have hmem : l.getD k default ∈ l := by simp [List.getD_eq_getElem?_getD, hlt]
      have i1 : (k : Int) < (l.length : Int) := by omega
      have hw := wrap_succ k (by omega)
      have hcell := flatC_cell l t hlt
      simp only [go_sem, imp_self, implies_true, reduceCtorEq, false_imp_iff, true_imp_iff, decide_true, decide_false, Int.toNat_natCast, Int.toNat_zero, Int.toNat_one, Int.natCast_nonneg, Int.le_refl, Nat.le_refl, Nat.reduceAdd, Nat.reduceMul, Nat.reduceLeDiff, Nat.reduceLT, Int.reduceLE, Int.reduceLT, Nat.reduceBEq, Nat.reduceEqDiff, Bool.not_true, Bool.not_false, Bool.and_false, Bool.false_and, Bool.or_true, Bool.true_or, Bool.or_false, Bool.false_or, call_func, c_draw, c_loop, i1, hw, hg, ho, hi, hcell]
      refine hp _ hmem _ ?_
      rw [← getD_map' conSV hlt]
      cases hL : p ((l.map conSV).getD k .any)
      · simp only [go_sem, imp_self, implies_true, reduceCtorEq, false_imp_iff, true_imp_iff, decide_true, decide_false, Int.toNat_natCast, Int.toNat_zero, Int.toNat_one, Int.natCast_nonneg, Int.le_refl, Nat.le_refl, Nat.reduceAdd, Nat.reduceMul, Nat.reduceLeDiff, Nat.reduceLT, Int.reduceLE, Int.reduceLT, Nat.reduceBEq, Nat.reduceEqDiff, Bool.not_true, Bool.not_false, Bool.and_false, Bool.false_and, Bool.or_true, Bool.true_or, Bool.or_false, Bool.false_or, call_func, c_draw, c_loop]
        refine ⟨n - 1, _, by omega, ?_, k + 1, by omega, fun i hi => ?_, rfl⟩
        · repeat (first | exact leEnv_nil | refine leEnv_any _ ?_ | refine leEnv_same _ ?_)
        · by_cases e : i = k
          · rw [e]; exact hL
          · exact hno i (by omega)
      · simp only [go_sem, imp_self, implies_true, reduceCtorEq, false_imp_iff, true_imp_iff, decide_true, decide_false, Int.toNat_natCast, Int.toNat_zero, Int.toNat_one, Int.natCast_nonneg, Int.le_refl, Nat.le_refl, Nat.reduceAdd, Nat.reduceMul, Nat.reduceLeDiff, Nat.reduceLT, Int.reduceLE, Int.reduceLT, Nat.reduceBEq, Nat.reduceEqDiff, Bool.not_true, Bool.not_false, Bool.and_false, Bool.false_and, Bool.or_true, Bool.true_or, Bool.or_false, Bool.false_or, call_func, c_draw, c_loop, FinK]
        rw [idxOf_at p _ k (by simpa using hlt) hno hL] at h
        exact h
    · obtain rfl : k = l.length := by omega
      have d1 : ((l.length : Int) < (l.length : Int)) = False := eq_false (by omega)
      simp only [go_sem, imp_self, implies_true, reduceCtorEq, false_imp_iff, true_imp_iff, decide_true, decide_false, Int.toNat_natCast, Int.toNat_zero, Int.toNat_one, Int.natCast_nonneg, Int.le_refl, Nat.le_refl, Nat.reduceAdd, Nat.reduceMul, Nat.reduceLeDiff, Nat.reduceLT, Int.reduceLE, Int.reduceLT, Nat.reduceBEq, Nat.reduceEqDiff, Bool.not_true, Bool.not_false, Bool.and_false, Bool.false_and, Bool.or_true, Bool.true_or, Bool.or_false, Bool.false_or, call_func, c_draw, c_loop, d1, FinK]
      rw [idxOf_none p _ (by simpa using hno)] at h
      exact h

end Go.Proofs
