/- The reference: Abort. -/
import Derived.Test.YteclbnjpijakbaaR9
set_option linter.unusedSimpArgs false
set_option linter.unusedVariables false
set_option maxRecDepth 8000
namespace Go.Proofs
open Go Go.AL

def abortR (R : RP) (t : Int) : Int × RP := if R.has t = true ∧ (R.get t).stamp ≤ 0 then (0, { R with vars := R.vars.map (unlock t), txs := R.txs.set t.toNat .none }) else (1, R)

set_option maxHeartbeats 4000000 in
theorem rabort_c {st : St} {R : RG} (hR : RefAt st R) (t : Int) (K : SV → St → Prop)
    (h : ∀ s R', RefAt s R' → RFr st R s R' → R'.abs = (abortR R.abs t).2 → K (i64 (abortR R.abs t).1) s) : ACalls Try.prog 34 [.ptr R.id 0, i64 t] K st := by
  have hh := has_c hR t
  have f := cells_facts hR.cells
  have g := cells_facts hR.txs
  unfold abortR at h
  cases hb : R.abs.has t with
  | false =>
    rw [hb] at hh
    rw [if_neg (by rw [hb]; simp)] at h
    refine acalls_go (M := []) Try.func34 rfl Try.results34 Try.ntmps34 ?_
    simp only [go_sem, reduceCtorEq, Nat.reduceAdd, Nat.reduceMul, Nat.reduceLeDiff, Nat.reduceLT, Int.reduceLE, Int.reduceLT, Int.reduceEq, Nat.reduceBEq, Nat.reduceEqDiff]
    refine hh _ ?_
    simp only [go_sem, reduceCtorEq, Nat.reduceAdd, Nat.reduceMul, Nat.reduceLeDiff, Nat.reduceLT, Int.reduceLE, Int.reduceLT, Int.reduceEq, Nat.reduceBEq, Nat.reduceEqDiff]
    exact h st R hR (RFr.refl _ _) rfl
  | true =>
    rw [hb] at hh
    have ho := rhas_get hb
    obtain ⟨y, hy, hg⟩ := hR.at ho.1
    rw [hg] at h
    have d := rx_all hy
    have c3 : t < ((8 : Nat) : Int) := ho.1.2
    by_cases e1 : 0 < y.x.stamp
    · rw [if_neg (fun c => by omega)] at h
      refine acalls_go (M := []) Try.func34 rfl Try.results34 Try.ntmps34 ?_
      simp only [go_sem, reduceCtorEq, Nat.reduceAdd, Nat.reduceMul, Nat.reduceLeDiff, Nat.reduceLT, Int.reduceLE, Int.reduceLT, Int.reduceEq, Nat.reduceBEq, Nat.reduceEqDiff]
      refine hh _ ?_
      simp only [go_sem, reduceCtorEq, Nat.reduceAdd, Nat.reduceMul, Nat.reduceLeDiff, Nat.reduceLT, Int.reduceLE, Int.reduceLT, Int.reduceEq, Nat.reduceBEq, Nat.reduceEqDiff, f.1, f.2.1, f.2.2, RG.cells, g.1, g.2.1, g.2.2, d.1, d.2.1, d.2.2.1, d.2.2.2.1, d.2.2.2.2.1, d.2.2.2.2.2.1, d.2.2.2.2.2.2.1, d.2.2.2.2.2.2.2, ho.1.1, c3, e1]
      exact h st R hR (RFr.refl _ _) rfl
    · rw [if_pos ⟨hb, by omega⟩] at h
      refine acalls_conv ?_
      refine acalls_go (M := []) Try.func34 rfl Try.results34 Try.ntmps34 ?_
      simp only [go_sem, reduceCtorEq, Nat.reduceAdd, Nat.reduceMul, Nat.reduceLeDiff, Nat.reduceLT, Int.reduceLE, Int.reduceLT, Int.reduceEq, Nat.reduceBEq, Nat.reduceEqDiff]
      refine hh _ ?_
      simp only [go_sem, reduceCtorEq, Nat.reduceAdd, Nat.reduceMul, Nat.reduceLeDiff, Nat.reduceLT, Int.reduceLE, Int.reduceLT, Int.reduceEq, Nat.reduceBEq, Nat.reduceEqDiff, f.1, f.2.1, f.2.2, RG.cells, g.1, g.2.1, g.2.2, d.1, d.2.1, d.2.2.1, d.2.2.2.1, d.2.2.2.2.1, d.2.2.2.2.2.1, d.2.2.2.2.2.2.1, d.2.2.2.2.2.2.2, ho.1.1, c3, e1]
      refine awp_rounds [] (fun m e s => ∃ (k : Nat), k + m = R.vars.length ∧ e = [.ptr R.id 0, i64 t, .any, .any, .any, .any, i64 k, .any, .any, .any, .any, .any, .any, .any, .any, .any, .any, .any, .any, .any, .any, .any, .any, .any, .any, .any, .any, .any, .any, .any, .any, .any, .any, .any, .any, .any, .any, .any, .any, .any, .any, .any, .any, .any, .any, .any, .any, .any, .any, .any, .any, .any, .any, .any, .any, .any] ∧ s = st.set R.vid (.arr R.vver 3 ((someVars (unlock t) k R.vars).flatMap tvSV))) (n := R.vars.length) ?_ ⟨0, by omega, rfl, ?_⟩ ?_
      · repeat (first | exact leEnv_nil | refine leEnv_any _ ?_ | refine leEnv_same _ ?_ | refine leEnv_norm _ ?_)
      · rw [someVars_0, st_same hR.vars]
      rintro m e s ⟨k, hkm, rfl, hs⟩
      have h1 : s[R.id]? = some (.cells R.cells) := by rw [hs, List.getElem?_set_ne hR.nidv.symm]; exact hR.cells
      have h2 : s[R.vid]? = some (.arr R.vver 3 ((someVars (unlock t) k R.vars).flatMap tvSV)) := by rw [hs, List.getElem?_set_self (lt_of_get hR.vars)]
      have h3 : s[R.tid]? = some (.cells (R.xs.flatMap RX.cells)) := by rw [hs, List.getElem?_set_ne hR.ntv.symm]; exact hR.txs
      have f1 := cells_facts h1
      have w1 := arr_facts h2
      have g1 := cells_facts h3
      by_cases hlt : k < R.vars.length
      · have c1 : (k : Int) < (R.vars.length : Int) := by omega
        have hw := wrapS k (by have := hR.many; omega)
        have c2 : (0 : Int) ≤ (k : Int) := by omega
        have hv := vars_drop2 (l := someVars (unlock t) k R.vars) (n := k) (by rw [someVars_len]; exact hlt)
        rw [someVars_get _ hlt] at hv
        have hsu := someVars_succ (unlock t) hlt
        have hlt2 : k < (someVars (unlock t) k R.vars).length := by rw [someVars_len]; exact hlt
        have hgy := someVars_get (unlock t) hlt
        generalize someVars (unlock t) k R.vars = vs at *
        generalize hyv : R.vars.getD k default = z at *
        simp only [go_sem, reduceCtorEq, Nat.reduceAdd, Nat.reduceMul, Nat.reduceLeDiff, Nat.reduceLT, Int.reduceLE, Int.reduceLT, Int.reduceEq, Nat.reduceBEq, Nat.reduceEqDiff, c1, c2, f1.1, f1.2.1, f1.2.2, RG.cells, w1.1, w1.2.1, w1.2.2.1, w1.2.2.2, hv, hw, Int.toNat_natCast]
        have hvk : k < vs.length := hlt2
        refine ⟨fun c => ⟨by rw [vars_len]; omega, m - 1, _, by omega, ?_, k + 1, by omega, rfl, ?_⟩, fun c => ⟨m - 1, _, by omega, ?_, k + 1, by omega, rfl, ?_⟩⟩
        · repeat (first | exact leEnv_nil | refine leEnv_any _ ?_ | refine leEnv_same _ ?_ | refine leEnv_norm _ ?_)
        · have e := vars_put2 hvk (-1)
          rw [show SV.sc (Value.int IntKind.i64 (-1)) = i64 (-1) from rfl, e, hs, List.set_set, hsu, hgy]
          have c' : z.lock = t := by simpa using c
          simp only [unlock, c', if_true]
        · repeat (first | exact leEnv_nil | refine leEnv_any _ ?_ | refine leEnv_same _ ?_ | refine leEnv_norm _ ?_)
        · have c' : ¬ z.lock = t := by simpa using c
          rw [hsu, hs]
          simp only [unlock, c', if_false]
          rw [← hgy, set_getD hvk]
      · obtain rfl : k = R.vars.length := by omega
        rw [someVars_all] at h2 hs
        have key := ref_core (s := s) (R' := { R with vars := R.vars.map (unlock t) }) hR rfl rfl rfl rfl (by rw [h1]; simp [RG.cells]) h2 (by simpa using hR.many) (by rw [hs]; simp) (fun j _ q _ => by rw [hs, List.getElem?_set_ne (Ne.symm q)])
        obtain ⟨s2, R', k1, k2, k3, k4⟩ := ref_fresh key.1 hy .none rfl rfl
        simp only [go_sem, reduceCtorEq, Nat.reduceAdd, Nat.reduceMul, Nat.reduceLeDiff, Nat.reduceLT, Int.reduceLE, Int.reduceLT, Int.reduceEq, Nat.reduceBEq, Nat.reduceEqDiff, Int.lt_irrefl, f1.1, f1.2.1, f1.2.2, RG.cells, w1.1, w1.2.1, w1.2.2.1, w1.2.2.2, g1.1, g1.2.1, g1.2.2, ho.1.1, c3]
        refine ⟨by rw [rx_len hR]; omega, s2, k1, h _ _ k2 (key.2.trans k3) k4⟩

end Go.Proofs
