/- The document's lexer: what bytes may be, keys, signs. -/
import Derived.Test.YtnjiphlokjfdlaaDoorW35
set_option linter.unusedSimpArgs false
set_option linter.unusedVariables false
set_option maxRecDepth 8000
namespace Go.Proofs
open Go Go.AL
set_option maxHeartbeats 4000000 in
theorem rdigit_c {c : UInt8} {K : SV → St → Prop} {st : St} (hk : K (.sc (.bool (digitB c))) st) : ACalls Tryd.prog 31 [.sc (.int .u8 c.toNat)] K st := by
  refine acalls_go_pure [] Tryd.func31 rfl Tryd.results31 Tryd.ntmps31 ?_
  have e1 := u8_ge c 48 48 rfl
  have e2 := u8_le c 57 57 rfl
  unfold digitB at hk
  cases h1 : decide (48 ≤ c) with
  | false => rw [h1] at hk e1; simp only [go_sem, reduceCtorEq, Nat.reduceAdd, Nat.reduceMul, Nat.reduceLeDiff, Nat.reduceLT, Int.reduceLE, Int.reduceLT, Int.reduceEq, Nat.reduceBEq, Nat.reduceEqDiff, ge_iff_le, e1]; exact fin_pure1 (ids_scv _ _) hk
  | true => rw [h1] at hk e1; simp only [go_sem, reduceCtorEq, Nat.reduceAdd, Nat.reduceMul, Nat.reduceLeDiff, Nat.reduceLT, Int.reduceLE, Int.reduceLT, Int.reduceEq, Nat.reduceBEq, Nat.reduceEqDiff, ge_iff_le, e1, e2]; exact fin_pure1 (ids_scv _ _) hk
set_option maxHeartbeats 4000000 in
theorem rsmall_c {c : UInt8} {K : SV → St → Prop} {st : St} (hk : K (.sc (.bool (smallB c))) st) : ACalls Tryd.prog 33 [.sc (.int .u8 c.toNat)] K st := by
  refine acalls_go_pure [] Tryd.func33 rfl Tryd.results33 Tryd.ntmps33 ?_
  have e1 := u8_ge c 97 97 rfl
  have e2 := u8_le c 122 122 rfl
  unfold smallB at hk
  cases h1 : decide (97 ≤ c) with
  | false => rw [h1] at hk e1; simp only [go_sem, reduceCtorEq, Nat.reduceAdd, Nat.reduceMul, Nat.reduceLeDiff, Nat.reduceLT, Int.reduceLE, Int.reduceLT, Int.reduceEq, Nat.reduceBEq, Nat.reduceEqDiff, ge_iff_le, e1]; exact fin_pure1 (ids_scv _ _) hk
  | true => rw [h1] at hk e1; simp only [go_sem, reduceCtorEq, Nat.reduceAdd, Nat.reduceMul, Nat.reduceLeDiff, Nat.reduceLT, Int.reduceLE, Int.reduceLT, Int.reduceEq, Nat.reduceBEq, Nat.reduceEqDiff, ge_iff_le, e1, e2]; exact fin_pure1 (ids_scv _ _) hk
set_option maxHeartbeats 4000000 in
theorem rlarge_c {c : UInt8} {K : SV → St → Prop} {st : St} (hk : K (.sc (.bool (largeB c))) st) : ACalls Tryd.prog 34 [.sc (.int .u8 c.toNat)] K st := by
  refine acalls_go_pure [] Tryd.func34 rfl Tryd.results34 Tryd.ntmps34 ?_
  have e1 := u8_ge c 65 65 rfl
  have e2 := u8_le c 90 90 rfl
  unfold largeB at hk
  cases h1 : decide (65 ≤ c) with
  | false => rw [h1] at hk e1; simp only [go_sem, reduceCtorEq, Nat.reduceAdd, Nat.reduceMul, Nat.reduceLeDiff, Nat.reduceLT, Int.reduceLE, Int.reduceLT, Int.reduceEq, Nat.reduceBEq, Nat.reduceEqDiff, ge_iff_le, e1]; exact fin_pure1 (ids_scv _ _) hk
  | true => rw [h1] at hk e1; simp only [go_sem, reduceCtorEq, Nat.reduceAdd, Nat.reduceMul, Nat.reduceLeDiff, Nat.reduceLT, Int.reduceLE, Int.reduceLT, Int.reduceEq, Nat.reduceBEq, Nat.reduceEqDiff, ge_iff_le, e1, e2]; exact fin_pure1 (ids_scv _ _) hk
set_option maxHeartbeats 4000000 in
theorem rsign_c {c : UInt8} {K : SV → St → Prop} {st : St} (hk : K (.sc (.bool (decide (c ∈ signsL)))) st) : ACalls Tryd.prog 36 [.sc (.int .u8 c.toNat)] K st := by
  refine acalls_go_pure [] Tryd.func36 rfl Tryd.results36 Tryd.ntmps36 ?_
  have hsz : (ba signsL).size = 14 := rfl
  simp only [go_sem, reduceCtorEq, Nat.reduceAdd, Nat.reduceMul, Nat.reduceLeDiff, Nat.reduceLT, Int.reduceLE, Int.reduceLT, Int.reduceEq, Nat.reduceBEq, Nat.reduceEqDiff]
  refine awp_rounds [] (fun k env s => ∃ i : Nat, k + i = 14 ∧ c ∉ signsL.take i ∧ env = [.sc (.int .u8 c.toNat), .any, .any, .sc (.string (ba signsL)), .sc (.int .i64 i), .any, .any, .any, .any, .any, .any, .any, .any, .any, .any, .any] ∧ s = st) (n := 14) ?_ ⟨0, by omega, by simp, rfl, rfl⟩ ?_
  · repeat (first | exact leEnv_nil | refine leEnv_any _ ?_ | refine leEnv_same _ ?_ | refine leEnv_norm _ ?_)
  rintro k env s ⟨i, hi, hx, rfl, rfl⟩
  have hl14 : signsL.length = 14 := rfl
  by_cases hlt : i < 14
  · have c2 : decide ((i : Int) < 14) = true := by simp; omega
    have c3 : decide ((i : Int) < ((14 : Nat) : Int)) = true := by simp; omega
    have w1 : IntKind.i64.wrap ((i : Int) + 1) = ((i + 1 : Nat) : Int) := by rw [IntWalk.i64_in _ (by omega)]; rfl
    have hlt' : i < signsL.length := by omega
    have g := ba_get hlt'
    have e1 := u8_eq signsL[i] c (c.toNat : Int) rfl
    by_cases he : signsL[i] = c
    · have d1 : (signsL[i] == c) = true := by simp [he]
      rw [show decide (c ∈ signsL) = true by simp; rw [← he]; exact List.getElem_mem hlt'] at hk
      simp only [go_sem, reduceCtorEq, Nat.reduceAdd, Nat.reduceMul, Nat.reduceLeDiff, Nat.reduceLT, Int.reduceLE, Int.reduceLT, Int.reduceEq, Nat.reduceBEq, Nat.reduceEqDiff, hsz, c2, c3, g, e1, d1, w1]
      exact ⟨by omega, fin_pure1 (ids_scv _ _) hk⟩
    · have d1 : (signsL[i] == c) = false := by simp [he]
      simp only [go_sem, reduceCtorEq, Nat.reduceAdd, Nat.reduceMul, Nat.reduceLeDiff, Nat.reduceLT, Int.reduceLE, Int.reduceLT, Int.reduceEq, Nat.reduceBEq, Nat.reduceEqDiff, hsz, c2, c3, g, e1, d1, w1]
      refine ⟨by omega, k - 1, _, by omega, ?_, i + 1, by omega, ?_, rfl⟩
      · repeat (first | exact leEnv_nil | refine leEnv_any _ ?_ | refine leEnv_same _ ?_ | refine leEnv_norm _ ?_)
      · rw [List.take_succ_eq_append_getElem hlt', List.mem_append, List.mem_singleton]
        rintro (h | h)
        · exact hx h
        · exact he h.symm
  · have c2 : decide ((i : Int) < 14) = false := by simp; omega
    have c3 : decide ((i : Int) < ((14 : Nat) : Int)) = false := by simp; omega
    rw [List.take_of_length_le (by omega)] at hx
    rw [show decide (c ∈ signsL) = false by simp [hx]] at hk
    simp only [go_sem, reduceCtorEq, Nat.reduceAdd, Nat.reduceMul, Nat.reduceLeDiff, Nat.reduceLT, Int.reduceLE, Int.reduceLT, Int.reduceEq, Nat.reduceBEq, Nat.reduceEqDiff, hsz, c2, c3]
    exact fin_pure1 (ids_scv _ _) hk
set_option maxHeartbeats 4000000 in
theorem rkey_c {w : Tx} {K : SV → St → Prop} {st : St} (hk : K (.sc (.bool (decide (w ∈ keysL)))) st) : ACalls Tryd.prog 35 [.sc (.string (ba w))] K st := by
  refine acalls_go_pure [] Tryd.func35 rfl Tryd.results35 Tryd.ntmps35 ?_
  simp only [go_sem, reduceCtorEq, Nat.reduceAdd, Nat.reduceMul, Nat.reduceLeDiff, Nat.reduceLT, Int.reduceLE, Int.reduceLT, Int.reduceEq, Nat.reduceBEq, Nat.reduceEqDiff]
  refine awp_rounds [] (fun k env s => ∃ i : Nat, k + i = 23 ∧ w ∉ keysL.take i ∧ env = [.sc (.string (ba w)), .any, .any, .slice .full 1 (keysL.map txSV), .sc (.int .i64 i), .any, .any, .any, .any, .any, .any, .any, .any, .any, .any, .any, .any, .any] ∧ s = st) (n := 23) ?_ ⟨0, by omega, by simp, rfl, rfl⟩ ?_
  · repeat (first | exact leEnv_nil | refine leEnv_any _ ?_ | refine leEnv_same _ ?_ | refine leEnv_norm _ ?_)
  rintro k env s ⟨i, hi, hx, rfl, rfl⟩
  have hl23 : keysL.length = 23 := rfl
  by_cases hlt : i < 23
  · have c3 : decide ((i : Int) < ((keysL.length : Nat) : Int)) = true := by simp; omega
    have w1 : IntKind.i64.wrap ((i : Int) + 1) = ((i + 1 : Nat) : Int) := by rw [IntWalk.i64_in _ (by omega)]; rfl
    have hlt' : i < keysL.length := by omega
    have g : (keysL.map txSV).getD i .any = .sc (.string (ba keysL[i])) := by simp [List.getD_eq_getElem?_getD, hlt', txSV]
    by_cases he : keysL[i] = w
    · have d1 : (keysL[i] == w) = true := by simp [he]
      rw [show decide (w ∈ keysL) = true by simp only [decide_eq_true_eq]; rw [← he]; exact List.getElem_mem hlt'] at hk
      simp only [go_sem, reduceCtorEq, Nat.reduceAdd, Nat.reduceMul, Nat.reduceLeDiff, Nat.reduceLT, Int.reduceLE, Int.reduceLT, Int.reduceEq, Nat.reduceBEq, Nat.reduceEqDiff, List.length_map, c3, g, d1, w1]
      exact ⟨by omega, fin_pure1 (ids_scv _ _) hk⟩
    · have d1 : (keysL[i] == w) = false := by simp [he]
      simp only [go_sem, reduceCtorEq, Nat.reduceAdd, Nat.reduceMul, Nat.reduceLeDiff, Nat.reduceLT, Int.reduceLE, Int.reduceLT, Int.reduceEq, Nat.reduceBEq, Nat.reduceEqDiff, List.length_map, c3, g, d1, w1]
      refine ⟨by omega, k - 1, _, by omega, ?_, i + 1, by omega, ?_, rfl⟩
      · repeat (first | exact leEnv_nil | refine leEnv_any _ ?_ | refine leEnv_same _ ?_ | refine leEnv_norm _ ?_)
      · rw [List.take_succ_eq_append_getElem hlt', List.mem_append, List.mem_singleton]
        rintro (h | h)
        · exact hx h
        · exact he h.symm
  · have c3 : decide ((i : Int) < ((keysL.length : Nat) : Int)) = false := by simp; omega
    rw [List.take_of_length_le (by omega)] at hx
    rw [show decide (w ∈ keysL) = false by simp [hx]] at hk
    simp only [go_sem, reduceCtorEq, Nat.reduceAdd, Nat.reduceMul, Nat.reduceLeDiff, Nat.reduceLT, Int.reduceLE, Int.reduceLT, Int.reduceEq, Nat.reduceBEq, Nat.reduceEqDiff, List.length_map, c3]
    exact fin_pure1 (ids_scv _ _) hk
end Go.Proofs
