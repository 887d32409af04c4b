/- The harness: SameInts. -/
import Derived.Test.YteclbnjpijakbaaW17
set_option linter.unusedSimpArgs false
set_option linter.unusedVariables false
set_option maxRecDepth 8000
namespace Go.Proofs
open Go Go.AL

theorem same_drop {l r : List Int} {k : Nat} (hl : k < l.length) (hr : k < r.length) : (l.drop k = r.drop k) = (l.getD k 0 = r.getD k 0 ∧ l.drop (k + 1) = r.drop (k + 1)) := by
  rw [drop_i64 hl, drop_i64 hr, List.cons.injEq]

theorem same_c {st : St} (m m' : AL.Mode) {l r : List Int} (hl : l.length ≤ 1000000) (hr : r.length ≤ 1000000) (K : SV → St → Prop) (h : K (.sc (.bool (decide (l = r)))) st) : ACalls Try.prog 32 [.slice m 1 (l.map i64), .slice m' 1 (r.map i64)] K st := by
  refine acalls_go_pure [] Try.func32 rfl Try.results32 Try.ntmps32 ?_
  by_cases hlen : l.length = r.length
  · have c0 : (((l.length : Nat) : Int) != ((r.length : Nat) : Int)) = false := by simp [hlen]
    have c00 : ((l.length : Int) = (r.length : Int)) = True := eq_true (by omega)
    simp only [go_sem, reduceCtorEq, Nat.reduceAdd, Nat.reduceMul, Nat.reduceLeDiff, Nat.reduceLT, Int.reduceLE, Int.reduceLT, Int.reduceEq, Nat.reduceBEq, Nat.reduceEqDiff, c0, c00]
    refine awp_rounds [] (fun q e s => ∃ (k : Nat), k + q = l.length ∧ (decide (l = r) = decide (l.drop k = r.drop k)) ∧ e = [.slice m 1 (l.map i64), .slice m' 1 (r.map i64), .any, .any, .any, i64 k, .any, .any, .any, .any, .any, .any, .any, .any, .any, .any, .any, .any, .any, .any, .any, .any, .any, .any, .any, .any] ∧ s = st) (n := l.length) ?_ ⟨0, by omega, by simp, rfl, rfl⟩ ?_
    · repeat (first | exact leEnv_nil | refine leEnv_any _ ?_ | refine leEnv_same _ ?_ | refine leEnv_norm _ ?_)
    rintro q e s ⟨k, hkm, hv, rfl, rfl⟩
    by_cases hlt : k < l.length
    · have c1 : (k : Int) < (l.length : Int) := by omega
      have c3 : (k : Int) < (r.length : Int) := by omega
      have c2 : (0 : Int) ≤ (k : Int) := by omega
      have hw := wrapS k (by omega)
      have hlr : k < r.length := by omega
      simp only [same_drop hlt hlr] at hv
      obtain ⟨a, ha⟩ : ∃ a, a = l.getD k 0 := ⟨_, rfl⟩
      obtain ⟨b, hb⟩ : ∃ b, b = r.getD k 0 := ⟨_, rfl⟩
      rw [← ha, ← hb] at hv
      simp only [go_sem, reduceCtorEq, Nat.reduceAdd, Nat.reduceMul, Nat.reduceLeDiff, Nat.reduceLT, Int.reduceLE, Int.reduceLT, Int.reduceEq, Nat.reduceBEq, Nat.reduceEqDiff, c1, c2]
      refine awp_draw [] Try.mixed rfl ?_
      simp only [go_sem, reduceCtorEq, Nat.reduceAdd, Nat.reduceMul, Nat.reduceLeDiff, Nat.reduceLT, Int.reduceLE, Int.reduceLT, Int.reduceEq, Nat.reduceBEq, Nat.reduceEqDiff, c1, c2, c3, getD_i64 hlt, getD_i64 hlr, Int.toNat_natCast]
      rw [← ha, ← hb]
      refine ⟨fun c => ?_, fun c => ?_⟩
      · have hab : ¬ a = b := by simpa using c
        simp only [hab, false_and, decide_false] at hv
        rw [hv] at h
        exact fin_sc h
      · have hab : a = b := by simpa using c
        simp only [hab, true_and] at hv
        simp only [go_sem, reduceCtorEq, Nat.reduceAdd, Nat.reduceMul, Nat.reduceLeDiff, Nat.reduceLT, Int.reduceLE, Int.reduceLT, Int.reduceEq, Nat.reduceBEq, Nat.reduceEqDiff, hw]
        refine ⟨q - 1, _, by omega, ?_, k + 1, by omega, hv, rfl⟩
        repeat (first | exact leEnv_nil | refine leEnv_any _ ?_ | refine leEnv_same _ ?_ | refine leEnv_norm _ ?_)
    · obtain rfl : k = l.length := by omega
      rw [List.drop_length, show r.drop l.length = [] by rw [hlen, List.drop_length]] at hv
      simp only [go_sem, reduceCtorEq, Nat.reduceAdd, Nat.reduceMul, Nat.reduceLeDiff, Nat.reduceLT, Int.reduceLE, Int.reduceLT, Int.reduceEq, Nat.reduceBEq, Nat.reduceEqDiff, Int.lt_irrefl]
      rw [hv] at h
      exact fin_sc (by simpa using h)
  · have hne : ¬ l = r := fun e => hlen (by rw [e])
    simp only [hne, decide_false] at h
    simp only [go_sem, reduceCtorEq, Nat.reduceAdd, Nat.reduceMul, Nat.reduceLeDiff, Nat.reduceLT, Int.reduceLE, Int.reduceLT, Int.reduceEq, Nat.reduceBEq, Nat.reduceEqDiff]
    refine ⟨fun _ => fin_sc h, fun e => ?_⟩
    have h9 : (l.length : Int) = (r.length : Int) := by simpa using e
    exact absurd (Int.ofNat.inj h9) hlen

end Go.Proofs
