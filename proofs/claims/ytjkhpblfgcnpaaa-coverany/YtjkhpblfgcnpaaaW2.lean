/- slices.IndexFunc and slices.ContainsFunc, at the instances that this program has (printed by gen_index.py). -/
import Derived.Test.YtjkhpblfgcnpaaaW1
set_option linter.unusedSimpArgs false
set_option maxRecDepth 4000
namespace Go.Proofs
open Go Go.AL

/-- The first place at which a test says yes; -1: none. -/
def idxOf (p : SV → Bool) (l : List SV) : Int := match l.findIdx? p with | some i => (i : Int) | none => -1

theorem idxOf_at (p : SV → Bool) (l : List SV) (k : Nat) (hk : k < l.length) (hno : ∀ i, i < k → p (l.getD i .any) = false) (hy : p (l.getD k .any) = true) : idxOf p l = (k : Int) := by
  unfold idxOf
  have : l.findIdx? p = some k := by
    rw [List.findIdx?_eq_some_iff_getElem]
    refine ⟨hk, by simpa [List.getD_eq_getElem?_getD, hk] using hy, fun j hj => ?_⟩
    have := hno j hj
    simpa [List.getD_eq_getElem?_getD, Nat.lt_trans hj hk] using this
  rw [this]

theorem idxOf_none (p : SV → Bool) (l : List SV) (hno : ∀ i, i < l.length → p (l.getD i .any) = false) : idxOf p l = -1 := by
  unfold idxOf
  have : l.findIdx? p = none := by
    rw [List.findIdx?_eq_none_iff]
    intro x hx
    obtain ⟨i, hi⟩ := List.getElem?_of_mem hx
    have := hno i (lt_of_get hi)
    rw [List.getD_eq_getElem?_getD, hi] at this
    exact this
  rw [this]

theorem idxOf_any (p : SV → Bool) (l : List SV) : decide ((0 : Int) ≤ idxOf p l) = l.any p := by
  unfold idxOf
  cases h : l.findIdx? p with
  | none =>
    rw [List.findIdx?_eq_none_iff] at h
    have : l.any p = false := by rw [List.any_eq_false]; intro x hx; rw [h x hx]; decide
    rw [this]; rfl
  | some i =>
    rw [List.findIdx?_eq_some_iff_getElem] at h
    obtain ⟨hi, hp, _⟩ := h
    have : l.any p = true := by rw [List.any_eq_true]; exact ⟨l[i], List.getElem_mem hi, hp⟩
    rw [this]
    simp

theorem index40_c (m : AL.Mode) (l : List SV) (p : SV → Bool) (g : FuncId) (caps : List SV) (hg : aBody Try.prog g = true) (hl : ∀ x ∈ l, cellsOf Try.prog 47 x.cells = some x) (hlen : l.length ≤ 1000000) (st : St)
    (hp : ∀ x ∈ l, ∀ K : SV → St → Prop, K (.sc (.bool (p x))) st → ACalls Try.prog g ([x] ++ caps) K st) (K : SV → St → Prop) (h : K (.sc (.int .i64 (idxOf p l))) st) :
    ACalls Try.prog 40 [.slice m 5 l, .func (.func g) [] caps] K st := by
  refine acalls_go_pure [] Try.func40 rfl Try.results40 Try.ntmps40 ?_
  simp only [go_sem, imp_self, implies_true, reduceCtorEq, false_imp_iff, true_imp_iff, decide_true, decide_false, Int.toNat_natCast, Int.toNat_zero, Int.toNat_one, Int.natCast_nonneg, Int.le_refl, Nat.le_refl, Nat.reduceAdd, Nat.reduceMul, Nat.reduceLeDiff, Nat.reduceLT, Int.reduceLE, Int.reduceLT, Nat.reduceBEq, Nat.reduceEqDiff, Bool.not_true, Bool.not_false, Bool.and_false, Bool.false_and, Bool.or_true, Bool.true_or, Bool.or_false, Bool.false_or, call_func, c_draw, c_loop]
  refine awp_rounds [] (fun n e s => ∃ k, k + n = l.length ∧ (∀ i, i < k → p (l.getD i .any) = false) ∧ e = [.slice m 5 l, .func (.func g) [] caps, .any, .any, .any, .any, .any, .sc (.int .i64 l.length), .sc (.int .i64 k), .any, .any, .any, .any, .any, .any, .any, .any, .any, .any] ∧ s = st)
    (n := l.length) ?_ ⟨0, by omega, fun i hi => absurd hi (Nat.not_lt_zero _), rfl, rfl⟩ ?_
  · repeat (first | exact leEnv_nil | refine leEnv_any _ ?_ | refine leEnv_same _ ?_)
  · rintro n e s ⟨k, hk, hno, rfl, rfl⟩
    by_cases hlt : k < l.length
    · have hmem : l.getD k .any ∈ l := by simp [List.getD_eq_getElem?_getD, hlt]
      have i1 : (k : Int) < (l.length : Int) := by omega
      have hw := wrap_succ k (by omega)
      have hcell := hl _ hmem
      simp only [go_sem, imp_self, implies_true, reduceCtorEq, false_imp_iff, true_imp_iff, decide_true, decide_false, Int.toNat_natCast, Int.toNat_zero, Int.toNat_one, Int.natCast_nonneg, Int.le_refl, Nat.le_refl, Nat.reduceAdd, Nat.reduceMul, Nat.reduceLeDiff, Nat.reduceLT, Int.reduceLE, Int.reduceLT, Nat.reduceBEq, Nat.reduceEqDiff, Bool.not_true, Bool.not_false, Bool.and_false, Bool.false_and, Bool.or_true, Bool.true_or, Bool.or_false, Bool.false_or, call_func, c_draw, c_loop, i1, hw, hg, hcell]
      refine hp _ hmem _ ?_
      cases hL : p (l.getD k .any)
      · simp only [go_sem, imp_self, implies_true, reduceCtorEq, false_imp_iff, true_imp_iff, decide_true, decide_false, Int.toNat_natCast, Int.toNat_zero, Int.toNat_one, Int.natCast_nonneg, Int.le_refl, Nat.le_refl, Nat.reduceAdd, Nat.reduceMul, Nat.reduceLeDiff, Nat.reduceLT, Int.reduceLE, Int.reduceLT, Nat.reduceBEq, Nat.reduceEqDiff, Bool.not_true, Bool.not_false, Bool.and_false, Bool.false_and, Bool.or_true, Bool.true_or, Bool.or_false, Bool.false_or, call_func, c_draw, c_loop]
        refine ⟨n - 1, _, by omega, ?_, k + 1, by omega, fun i hi => ?_, rfl⟩
        · repeat (first | exact leEnv_nil | refine leEnv_any _ ?_ | refine leEnv_same _ ?_)
        · by_cases e : i = k
          · rw [e]; exact hL
          · exact hno i (by omega)
      · simp only [go_sem, imp_self, implies_true, reduceCtorEq, false_imp_iff, true_imp_iff, decide_true, decide_false, Int.toNat_natCast, Int.toNat_zero, Int.toNat_one, Int.natCast_nonneg, Int.le_refl, Nat.le_refl, Nat.reduceAdd, Nat.reduceMul, Nat.reduceLeDiff, Nat.reduceLT, Int.reduceLE, Int.reduceLT, Nat.reduceBEq, Nat.reduceEqDiff, Bool.not_true, Bool.not_false, Bool.and_false, Bool.false_and, Bool.or_true, Bool.true_or, Bool.or_false, Bool.false_or, call_func, c_draw, c_loop, FinK]
        rw [idxOf_at p l k hlt hno hL] at h
        exact h
    · obtain rfl : k = l.length := by omega
      have d1 : ((l.length : Int) < (l.length : Int)) = False := eq_false (by omega)
      simp only [go_sem, imp_self, implies_true, reduceCtorEq, false_imp_iff, true_imp_iff, decide_true, decide_false, Int.toNat_natCast, Int.toNat_zero, Int.toNat_one, Int.natCast_nonneg, Int.le_refl, Nat.le_refl, Nat.reduceAdd, Nat.reduceMul, Nat.reduceLeDiff, Nat.reduceLT, Int.reduceLE, Int.reduceLT, Nat.reduceBEq, Nat.reduceEqDiff, Bool.not_true, Bool.not_false, Bool.and_false, Bool.false_and, Bool.or_true, Bool.true_or, Bool.or_false, Bool.false_or, call_func, c_draw, c_loop, d1, FinK]
      rw [idxOf_none p l hno] at h
      exact h

theorem index42_c (m : AL.Mode) (l : List SV) (p : SV → Bool) (g : FuncId) (caps : List SV) (hg : aBody Try.prog g = true) (hl : ∀ x ∈ l, cellsOf Try.prog 25 x.cells = some x) (hlen : l.length ≤ 1000000) (st : St)
    (hp : ∀ x ∈ l, ∀ K : SV → St → Prop, K (.sc (.bool (p x))) st → ACalls Try.prog g ([x] ++ caps) K st) (K : SV → St → Prop) (h : K (.sc (.int .i64 (idxOf p l))) st) :
    ACalls Try.prog 42 [.slice m 6 l, .func (.func g) [] caps] K st := by
  refine acalls_go_pure [] Try.func42 rfl Try.results42 Try.ntmps42 ?_
  simp only [go_sem, imp_self, implies_true, reduceCtorEq, false_imp_iff, true_imp_iff, decide_true, decide_false, Int.toNat_natCast, Int.toNat_zero, Int.toNat_one, Int.natCast_nonneg, Int.le_refl, Nat.le_refl, Nat.reduceAdd, Nat.reduceMul, Nat.reduceLeDiff, Nat.reduceLT, Int.reduceLE, Int.reduceLT, Nat.reduceBEq, Nat.reduceEqDiff, Bool.not_true, Bool.not_false, Bool.and_false, Bool.false_and, Bool.or_true, Bool.true_or, Bool.or_false, Bool.false_or, call_func, c_draw, c_loop]
  refine awp_rounds [] (fun n e s => ∃ k, k + n = l.length ∧ (∀ i, i < k → p (l.getD i .any) = false) ∧ e = [.slice m 6 l, .func (.func g) [] caps, .any, .any, .any, .any, .any, .sc (.int .i64 l.length), .sc (.int .i64 k), .any, .any, .any, .any, .any, .any, .any, .any, .any, .any] ∧ s = st)
    (n := l.length) ?_ ⟨0, by omega, fun i hi => absurd hi (Nat.not_lt_zero _), rfl, rfl⟩ ?_
  · repeat (first | exact leEnv_nil | refine leEnv_any _ ?_ | refine leEnv_same _ ?_)
  · rintro n e s ⟨k, hk, hno, rfl, rfl⟩
    by_cases hlt : k < l.length
    · have hmem : l.getD k .any ∈ l := by simp [List.getD_eq_getElem?_getD, hlt]
      have i1 : (k : Int) < (l.length : Int) := by omega
      have hw := wrap_succ k (by omega)
      have hcell := hl _ hmem
      simp only [go_sem, imp_self, implies_true, reduceCtorEq, false_imp_iff, true_imp_iff, decide_true, decide_false, Int.toNat_natCast, Int.toNat_zero, Int.toNat_one, Int.natCast_nonneg, Int.le_refl, Nat.le_refl, Nat.reduceAdd, Nat.reduceMul, Nat.reduceLeDiff, Nat.reduceLT, Int.reduceLE, Int.reduceLT, Nat.reduceBEq, Nat.reduceEqDiff, Bool.not_true, Bool.not_false, Bool.and_false, Bool.false_and, Bool.or_true, Bool.true_or, Bool.or_false, Bool.false_or, call_func, c_draw, c_loop, i1, hw, hg, hcell]
      refine hp _ hmem _ ?_
      cases hL : p (l.getD k .any)
      · simp only [go_sem, imp_self, implies_true, reduceCtorEq, false_imp_iff, true_imp_iff, decide_true, decide_false, Int.toNat_natCast, Int.toNat_zero, Int.toNat_one, Int.natCast_nonneg, Int.le_refl, Nat.le_refl, Nat.reduceAdd, Nat.reduceMul, Nat.reduceLeDiff, Nat.reduceLT, Int.reduceLE, Int.reduceLT, Nat.reduceBEq, Nat.reduceEqDiff, Bool.not_true, Bool.not_false, Bool.and_false, Bool.false_and, Bool.or_true, Bool.true_or, Bool.or_false, Bool.false_or, call_func, c_draw, c_loop]
        refine ⟨n - 1, _, by omega, ?_, k + 1, by omega, fun i hi => ?_, rfl⟩
        · repeat (first | exact leEnv_nil | refine leEnv_any _ ?_ | refine leEnv_same _ ?_)
        · by_cases e : i = k
          · rw [e]; exact hL
          · exact hno i (by omega)
      · simp only [go_sem, imp_self, implies_true, reduceCtorEq, false_imp_iff, true_imp_iff, decide_true, decide_false, Int.toNat_natCast, Int.toNat_zero, Int.toNat_one, Int.natCast_nonneg, Int.le_refl, Nat.le_refl, Nat.reduceAdd, Nat.reduceMul, Nat.reduceLeDiff, Nat.reduceLT, Int.reduceLE, Int.reduceLT, Nat.reduceBEq, Nat.reduceEqDiff, Bool.not_true, Bool.not_false, Bool.and_false, Bool.false_and, Bool.or_true, Bool.true_or, Bool.or_false, Bool.false_or, call_func, c_draw, c_loop, FinK]
        rw [idxOf_at p l k hlt hno hL] at h
        exact h
    · obtain rfl : k = l.length := by omega
      have d1 : ((l.length : Int) < (l.length : Int)) = False := eq_false (by omega)
      simp only [go_sem, imp_self, implies_true, reduceCtorEq, false_imp_iff, true_imp_iff, decide_true, decide_false, Int.toNat_natCast, Int.toNat_zero, Int.toNat_one, Int.natCast_nonneg, Int.le_refl, Nat.le_refl, Nat.reduceAdd, Nat.reduceMul, Nat.reduceLeDiff, Nat.reduceLT, Int.reduceLE, Int.reduceLT, Nat.reduceBEq, Nat.reduceEqDiff, Bool.not_true, Bool.not_false, Bool.and_false, Bool.false_and, Bool.or_true, Bool.true_or, Bool.or_false, Bool.false_or, call_func, c_draw, c_loop, d1, FinK]
      rw [idxOf_none p l hno] at h
      exact h

theorem index43_c (m : AL.Mode) (l : List SV) (p : SV → Bool) (g : FuncId) (caps : List SV) (hg : aBody Try.prog g = true) (hl : ∀ x ∈ l, cellsOf Try.prog 47 x.cells = some x) (hlen : l.length ≤ 1000000) (st : St)
    (hp : ∀ x ∈ l, ∀ K : SV → St → Prop, K (.sc (.bool (p x))) st → ACalls Try.prog g ([x] ++ caps) K st) (K : SV → St → Prop) (h : K (.sc (.int .i64 (idxOf p l))) st) :
    ACalls Try.prog 43 [.slice m 5 l, .func (.func g) [] caps] K st := by
  refine acalls_go_pure [] Try.func43 rfl Try.results43 Try.ntmps43 ?_
  simp only [go_sem, imp_self, implies_true, reduceCtorEq, false_imp_iff, true_imp_iff, decide_true, decide_false, Int.toNat_natCast, Int.toNat_zero, Int.toNat_one, Int.natCast_nonneg, Int.le_refl, Nat.le_refl, Nat.reduceAdd, Nat.reduceMul, Nat.reduceLeDiff, Nat.reduceLT, Int.reduceLE, Int.reduceLT, Nat.reduceBEq, Nat.reduceEqDiff, Bool.not_true, Bool.not_false, Bool.and_false, Bool.false_and, Bool.or_true, Bool.true_or, Bool.or_false, Bool.false_or, call_func, c_draw, c_loop]
  refine awp_rounds [] (fun n e s => ∃ k, k + n = l.length ∧ (∀ i, i < k → p (l.getD i .any) = false) ∧ e = [.slice m 5 l, .func (.func g) [] caps, .any, .any, .any, .any, .any, .sc (.int .i64 l.length), .sc (.int .i64 k), .any, .any, .any, .any, .any, .any, .any, .any, .any, .any] ∧ s = st)
    (n := l.length) ?_ ⟨0, by omega, fun i hi => absurd hi (Nat.not_lt_zero _), rfl, rfl⟩ ?_
  · repeat (first | exact leEnv_nil | refine leEnv_any _ ?_ | refine leEnv_same _ ?_)
  · rintro n e s ⟨k, hk, hno, rfl, rfl⟩
    by_cases hlt : k < l.length
    · have hmem : l.getD k .any ∈ l := by simp [List.getD_eq_getElem?_getD, hlt]
      have i1 : (k : Int) < (l.length : Int) := by omega
      have hw := wrap_succ k (by omega)
      have hcell := hl _ hmem
      simp only [go_sem, imp_self, implies_true, reduceCtorEq, false_imp_iff, true_imp_iff, decide_true, decide_false, Int.toNat_natCast, Int.toNat_zero, Int.toNat_one, Int.natCast_nonneg, Int.le_refl, Nat.le_refl, Nat.reduceAdd, Nat.reduceMul, Nat.reduceLeDiff, Nat.reduceLT, Int.reduceLE, Int.reduceLT, Nat.reduceBEq, Nat.reduceEqDiff, Bool.not_true, Bool.not_false, Bool.and_false, Bool.false_and, Bool.or_true, Bool.true_or, Bool.or_false, Bool.false_or, call_func, c_draw, c_loop, i1, hw, hg, hcell]
      refine hp _ hmem _ ?_
      cases hL : p (l.getD k .any)
      · simp only [go_sem, imp_self, implies_true, reduceCtorEq, false_imp_iff, true_imp_iff, decide_true, decide_false, Int.toNat_natCast, Int.toNat_zero, Int.toNat_one, Int.natCast_nonneg, Int.le_refl, Nat.le_refl, Nat.reduceAdd, Nat.reduceMul, Nat.reduceLeDiff, Nat.reduceLT, Int.reduceLE, Int.reduceLT, Nat.reduceBEq, Nat.reduceEqDiff, Bool.not_true, Bool.not_false, Bool.and_false, Bool.false_and, Bool.or_true, Bool.true_or, Bool.or_false, Bool.false_or, call_func, c_draw, c_loop]
        refine ⟨n - 1, _, by omega, ?_, k + 1, by omega, fun i hi => ?_, rfl⟩
        · repeat (first | exact leEnv_nil | refine leEnv_any _ ?_ | refine leEnv_same _ ?_)
        · by_cases e : i = k
          · rw [e]; exact hL
          · exact hno i (by omega)
      · simp only [go_sem, imp_self, implies_true, reduceCtorEq, false_imp_iff, true_imp_iff, decide_true, decide_false, Int.toNat_natCast, Int.toNat_zero, Int.toNat_one, Int.natCast_nonneg, Int.le_refl, Nat.le_refl, Nat.reduceAdd, Nat.reduceMul, Nat.reduceLeDiff, Nat.reduceLT, Int.reduceLE, Int.reduceLT, Nat.reduceBEq, Nat.reduceEqDiff, Bool.not_true, Bool.not_false, Bool.and_false, Bool.false_and, Bool.or_true, Bool.true_or, Bool.or_false, Bool.false_or, call_func, c_draw, c_loop, FinK]
        rw [idxOf_at p l k hlt hno hL] at h
        exact h
    · obtain rfl : k = l.length := by omega
      have d1 : ((l.length : Int) < (l.length : Int)) = False := eq_false (by omega)
      simp only [go_sem, imp_self, implies_true, reduceCtorEq, false_imp_iff, true_imp_iff, decide_true, decide_false, Int.toNat_natCast, Int.toNat_zero, Int.toNat_one, Int.natCast_nonneg, Int.le_refl, Nat.le_refl, Nat.reduceAdd, Nat.reduceMul, Nat.reduceLeDiff, Nat.reduceLT, Int.reduceLE, Int.reduceLT, Nat.reduceBEq, Nat.reduceEqDiff, Bool.not_true, Bool.not_false, Bool.and_false, Bool.false_and, Bool.or_true, Bool.true_or, Bool.or_false, Bool.false_or, call_func, c_draw, c_loop, d1, FinK]
      rw [idxOf_none p l hno] at h
      exact h

theorem contains20_c (m : AL.Mode) (l : List SV) (p : SV → Bool) (g : FuncId) (caps : List SV) (hg : aBody Try.prog g = true) (hl : ∀ x ∈ l, cellsOf Try.prog 47 x.cells = some x) (hlen : l.length ≤ 1000000) (st : St)
    (hp : ∀ x ∈ l, ∀ K : SV → St → Prop, K (.sc (.bool (p x))) st → ACalls Try.prog g ([x] ++ caps) K st) (K : SV → St → Prop) (h : K (.sc (.bool (l.any p))) st) :
    ACalls Try.prog 20 [.slice m 5 l, .func (.func g) [] caps] K st := by
  refine acalls_go_pure [] Try.func20 rfl Try.results20 Try.ntmps20 ?_
  simp only [go_sem, imp_self, implies_true, reduceCtorEq, false_imp_iff, true_imp_iff, decide_true, decide_false, Int.toNat_natCast, Int.toNat_zero, Int.toNat_one, Int.natCast_nonneg, Int.le_refl, Nat.le_refl, Nat.reduceAdd, Nat.reduceMul, Nat.reduceLeDiff, Nat.reduceLT, Int.reduceLE, Int.reduceLT, Nat.reduceBEq, Nat.reduceEqDiff, Bool.not_true, Bool.not_false, Bool.and_false, Bool.false_and, Bool.or_true, Bool.true_or, Bool.or_false, Bool.false_or, call_func, c_draw, c_loop]
  refine index40_c m l p g caps hg hl hlen st hp _ ?_
  simp only [go_sem, imp_self, implies_true, reduceCtorEq, false_imp_iff, true_imp_iff, decide_true, decide_false, Int.toNat_natCast, Int.toNat_zero, Int.toNat_one, Int.natCast_nonneg, Int.le_refl, Nat.le_refl, Nat.reduceAdd, Nat.reduceMul, Nat.reduceLeDiff, Nat.reduceLT, Int.reduceLE, Int.reduceLT, Nat.reduceBEq, Nat.reduceEqDiff, Bool.not_true, Bool.not_false, Bool.and_false, Bool.false_and, Bool.or_true, Bool.true_or, Bool.or_false, Bool.false_or, call_func, c_draw, c_loop, FinK, idxOf_any]
  exact h

theorem contains26_c (m : AL.Mode) (l : List SV) (p : SV → Bool) (g : FuncId) (caps : List SV) (hg : aBody Try.prog g = true) (hl : ∀ x ∈ l, cellsOf Try.prog 25 x.cells = some x) (hlen : l.length ≤ 1000000) (st : St)
    (hp : ∀ x ∈ l, ∀ K : SV → St → Prop, K (.sc (.bool (p x))) st → ACalls Try.prog g ([x] ++ caps) K st) (K : SV → St → Prop) (h : K (.sc (.bool (l.any p))) st) :
    ACalls Try.prog 26 [.slice m 6 l, .func (.func g) [] caps] K st := by
  refine acalls_go_pure [] Try.func26 rfl Try.results26 Try.ntmps26 ?_
  simp only [go_sem, imp_self, implies_true, reduceCtorEq, false_imp_iff, true_imp_iff, decide_true, decide_false, Int.toNat_natCast, Int.toNat_zero, Int.toNat_one, Int.natCast_nonneg, Int.le_refl, Nat.le_refl, Nat.reduceAdd, Nat.reduceMul, Nat.reduceLeDiff, Nat.reduceLT, Int.reduceLE, Int.reduceLT, Nat.reduceBEq, Nat.reduceEqDiff, Bool.not_true, Bool.not_false, Bool.and_false, Bool.false_and, Bool.or_true, Bool.true_or, Bool.or_false, Bool.false_or, call_func, c_draw, c_loop]
  refine index42_c m l p g caps hg hl hlen st hp _ ?_
  simp only [go_sem, imp_self, implies_true, reduceCtorEq, false_imp_iff, true_imp_iff, decide_true, decide_false, Int.toNat_natCast, Int.toNat_zero, Int.toNat_one, Int.natCast_nonneg, Int.le_refl, Nat.le_refl, Nat.reduceAdd, Nat.reduceMul, Nat.reduceLeDiff, Nat.reduceLT, Int.reduceLE, Int.reduceLT, Nat.reduceBEq, Nat.reduceEqDiff, Bool.not_true, Bool.not_false, Bool.and_false, Bool.false_and, Bool.or_true, Bool.true_or, Bool.or_false, Bool.false_or, call_func, c_draw, c_loop, FinK, idxOf_any]
  exact h

theorem contains32_c (m : AL.Mode) (l : List SV) (p : SV → Bool) (g : FuncId) (caps : List SV) (hg : aBody Try.prog g = true) (hl : ∀ x ∈ l, cellsOf Try.prog 47 x.cells = some x) (hlen : l.length ≤ 1000000) (st : St)
    (hp : ∀ x ∈ l, ∀ K : SV → St → Prop, K (.sc (.bool (p x))) st → ACalls Try.prog g ([x] ++ caps) K st) (K : SV → St → Prop) (h : K (.sc (.bool (l.any p))) st) :
    ACalls Try.prog 32 [.slice m 5 l, .func (.func g) [] caps] K st := by
  refine acalls_go_pure [] Try.func32 rfl Try.results32 Try.ntmps32 ?_
  simp only [go_sem, imp_self, implies_true, reduceCtorEq, false_imp_iff, true_imp_iff, decide_true, decide_false, Int.toNat_natCast, Int.toNat_zero, Int.toNat_one, Int.natCast_nonneg, Int.le_refl, Nat.le_refl, Nat.reduceAdd, Nat.reduceMul, Nat.reduceLeDiff, Nat.reduceLT, Int.reduceLE, Int.reduceLT, Nat.reduceBEq, Nat.reduceEqDiff, Bool.not_true, Bool.not_false, Bool.and_false, Bool.false_and, Bool.or_true, Bool.true_or, Bool.or_false, Bool.false_or, call_func, c_draw, c_loop]
  refine index43_c m l p g caps hg hl hlen st hp _ ?_
  simp only [go_sem, imp_self, implies_true, reduceCtorEq, false_imp_iff, true_imp_iff, decide_true, decide_false, Int.toNat_natCast, Int.toNat_zero, Int.toNat_one, Int.natCast_nonneg, Int.le_refl, Nat.le_refl, Nat.reduceAdd, Nat.reduceMul, Nat.reduceLeDiff, Nat.reduceLT, Int.reduceLE, Int.reduceLT, Nat.reduceBEq, Nat.reduceEqDiff, Bool.not_true, Bool.not_false, Bool.and_false, Bool.false_and, Bool.or_true, Bool.true_or, Bool.or_false, Bool.false_or, call_func, c_draw, c_loop, FinK, idxOf_any]
  exact h

end Go.Proofs
