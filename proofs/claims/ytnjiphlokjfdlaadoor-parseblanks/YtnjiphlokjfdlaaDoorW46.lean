/- The document's Unquote. -/
import Derived.Test.YtnjiphlokjfdlaaDoorW45
set_option linter.unusedSimpArgs false
set_option linter.unusedVariables false
set_option maxRecDepth 8000
namespace Go.AL
def hexI (c : UInt8) : Int := match hexF c with | some k => (k : Int) | none => -1
theorem hexI_eq (c : UInt8) : hexI c = if decide (48 ≤ c) && decide (c ≤ 57) then (c.toNat : Int) - 48 else if decide (97 ≤ c) && decide (c ≤ 102) then (c.toNat : Int) - 87 else -1 := by
  have h : ∀ n : Fin 256, hexI (UInt8.ofNat n.1) = if decide (48 ≤ UInt8.ofNat n.1) && decide (UInt8.ofNat n.1 ≤ 57) then ((UInt8.ofNat n.1).toNat : Int) - 48 else if decide (97 ≤ UInt8.ofNat n.1) && decide (UInt8.ofNat n.1 ≤ 102) then ((UInt8.ofNat n.1).toNat : Int) - 87 else -1 := by decide +kernel
  have := h ⟨c.toNat, c.toNat_lt⟩
  simpa using this
theorem hexI_none {c : UInt8} (h : hexF c = none) : hexI c = -1 := by unfold hexI; rw [h]
theorem hexI_some {c : UInt8} {k : Nat} (h : hexF c = some k) : hexI c = k ∧ k < 16 := by
  refine ⟨by unfold hexI; rw [h], ?_⟩
  unfold hexF at h
  have := List.findIdx?_eq_some_iff_findIdx_eq.1 h
  simpa [hexL] using this.1
end Go.AL
namespace Go.Proofs
open Go Go.AL
theorem u8w {n : Int} (h0 : 0 ≤ n) (h1 : n < 256) : IntKind.u8.wrap n = n := by
  simp [IntKind.wrap, show IntKind.u8.signed = false from rfl, show IntKind.u8.bits = 8 from rfl]
  omega
set_option maxHeartbeats 4000000 in
theorem rhex_c {c : UInt8} {K : SV → St → Prop} {st : St} (hk : K (.sc (.int .i64 (hexI c))) st) : ACalls Tryd.prog 54 [.sc (.int .u8 c.toNat)] K st := by
  refine acalls_go_pure [] Tryd.func54 rfl Tryd.results54 Tryd.ntmps54 ?_
  have e1 := u8_ge c 48 48 rfl
  have e2 := u8_le c 57 57 rfl
  have e3 := u8_ge c 97 97 rfl
  have e4 := u8_le c 102 102 rfl
  have hlt := c.toNat_lt
  rw [hexI_eq] at hk
  cases h1 : decide (48 ≤ c) with
  | false =>
    have h3 : decide (97 ≤ c) = false := by
      simp only [decide_eq_false_iff_not, UInt8.le_iff_toNat_le] at h1 ⊢
      have : (48 : UInt8).toNat = 48 := rfl
      have : (97 : UInt8).toNat = 97 := rfl
      omega
    rw [h1] at hk e1; rw [h3] at hk e3
    simp only [Bool.false_and, Bool.false_eq_true, if_false] at hk
    simp only [go_sem, reduceCtorEq, Nat.reduceAdd, Nat.reduceMul, Nat.reduceLeDiff, Nat.reduceLT, Int.reduceLE, Int.reduceLT, Int.reduceEq, Nat.reduceBEq, Nat.reduceEqDiff, ge_iff_le, e1, e3]
    exact fin_pure1 (ids_scv _ _) hk
  | true =>
    rw [h1] at hk e1
    cases h2 : decide (c ≤ 57) with
    | true =>
      rw [h2] at hk e2
      simp only [Bool.and_self, if_true] at hk
      simp only [decide_eq_true_eq, UInt8.le_iff_toNat_le] at h1 h2
      have q1 : (48 : UInt8).toNat = 48 := rfl
      have q2 : (57 : UInt8).toNat = 57 := rfl
      have w := u8w (n := (c.toNat : Int) - 48) (by omega) (by omega)
      have w2 : IntKind.i64.wrap ((c.toNat : Int) - 48) = (c.toNat : Int) - 48 := IntWalk.i64_in _ (by omega)
      have cv : convV Tryd.prog 3 (.sc (.int .u8 ((c.toNat : Int) - 48))) = .sc (.int .i64 ((c.toNat : Int) - 48)) := by rw [convV_int (k' := .i64) _ _ Tryd.i3, w2]
      have co : convOk Tryd.prog 5 3 (.sc (.int .u8 ((c.toNat : Int) - 48))) = True := eq_true ⟨by rw [Tryd.i5]; rfl, .inl (by rw [Tryd.i3]; rfl)⟩
      simp only [go_sem, reduceCtorEq, Nat.reduceAdd, Nat.reduceMul, Nat.reduceLeDiff, Nat.reduceLT, Int.reduceLE, Int.reduceLT, Int.reduceEq, Nat.reduceBEq, Nat.reduceEqDiff, ge_iff_le, e1, e2, w, cv, co]
      exact fin_pure1 (ids_scv _ _) hk
    | false =>
      rw [h2] at hk e2
      simp only [Bool.and_false, Bool.false_eq_true, if_false] at hk
      cases h3 : decide (97 ≤ c) with
      | false =>
        rw [h3] at hk e3
        simp only [Bool.false_and, Bool.false_eq_true, if_false] at hk
        simp only [go_sem, reduceCtorEq, Nat.reduceAdd, Nat.reduceMul, Nat.reduceLeDiff, Nat.reduceLT, Int.reduceLE, Int.reduceLT, Int.reduceEq, Nat.reduceBEq, Nat.reduceEqDiff, ge_iff_le, e1, e2, e3]
        exact fin_pure1 (ids_scv _ _) hk
      | true =>
        rw [h3] at hk e3
        cases h4 : decide (c ≤ 102) with
        | false =>
          rw [h4] at hk e4
          simp only [Bool.and_false, Bool.false_eq_true, if_false] at hk
          simp only [go_sem, reduceCtorEq, Nat.reduceAdd, Nat.reduceMul, Nat.reduceLeDiff, Nat.reduceLT, Int.reduceLE, Int.reduceLT, Int.reduceEq, Nat.reduceBEq, Nat.reduceEqDiff, ge_iff_le, e1, e2, e3, e4]
          exact fin_pure1 (ids_scv _ _) hk
        | true =>
          rw [h4] at hk e4
          simp only [Bool.and_self, if_true] at hk
          simp only [decide_eq_true_eq, UInt8.le_iff_toNat_le] at h3 h4
          have q1 : (97 : UInt8).toNat = 97 := rfl
          have q2 : (102 : UInt8).toNat = 102 := rfl
          have w := u8w (n := (c.toNat : Int) - 97) (by omega) (by omega)
          have w2 : IntKind.i64.wrap ((c.toNat : Int) - 97) = (c.toNat : Int) - 97 := IntWalk.i64_in _ (by omega)
          have w3 : IntKind.i64.wrap ((c.toNat : Int) - 97 + 10) = (c.toNat : Int) - 87 := by rw [IntWalk.i64_in _ (by omega)]; omega
          have cv : convV Tryd.prog 3 (.sc (.int .u8 ((c.toNat : Int) - 97))) = .sc (.int .i64 ((c.toNat : Int) - 97)) := by rw [convV_int (k' := .i64) _ _ Tryd.i3, w2]
          have co : convOk Tryd.prog 5 3 (.sc (.int .u8 ((c.toNat : Int) - 97))) = True := eq_true ⟨by rw [Tryd.i5]; rfl, .inl (by rw [Tryd.i3]; rfl)⟩
          simp only [go_sem, reduceCtorEq, Nat.reduceAdd, Nat.reduceMul, Nat.reduceLeDiff, Nat.reduceLT, Int.reduceLE, Int.reduceLT, Int.reduceEq, Nat.reduceBEq, Nat.reduceEqDiff, ge_iff_le, e1, e2, e3, e4, w, cv, co, w3]
          exact fin_pure1 (ids_scv _ _) hk
end Go.Proofs
