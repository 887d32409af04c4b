/- few. -/
import Derived.Test.YtjkhpblfgcnpaaaW22
set_option linter.unusedSimpArgs false
set_option maxRecDepth 8000
namespace Go.Proofs
open Go Go.AL

theorem cntL_map_le (f : Nd → Nd) (c : Nat) (hf : ∀ n, cnt (f n) ≤ c) : ∀ l : List Nd, cntL (l.map f) ≤ l.length * c
  | [] => by simp [cntL]
  | x :: r => by
    have := cntL_map_le f c hf r
    have := hf x
    simp only [List.map_cons, cntL, List.length_cons, Nat.succ_mul]; omega

theorem cut_cnt0 (n : Nd) : cnt (cutF 0 n) ≤ 1 := by rw [cutF_eq, cnt_eq]; simp [cutKids, Nd.kids, cntL]
theorem cut_cntS (d c : Nat) (h : ∀ n, cnt (cutF d n) ≤ c) (n : Nd) : cnt (cutF (d + 1) n) ≤ 1 + 5 * c := by
  rw [cutF_eq, cnt_eq]
  show 1 + cntL ((n.kids.take 5).map (cutF d)) ≤ _
  have h1 := cntL_map_le (cutF d) c h (n.kids.take 5)
  have h2 : (n.kids.take 5).length ≤ 5 := by rw [List.length_take]; omega
  have h3 : (n.kids.take 5).length * c ≤ 5 * c := Nat.mul_le_mul_right _ h2
  omega
theorem cut_cnt3 (n : Nd) : cnt (cutF 3 n) ≤ 156 :=
  cut_cntS 2 31 (fun n => cut_cntS 1 6 (fun n => cut_cntS 0 1 cut_cnt0 n) n) n

theorem few_len (most : Nat) : ∀ (l acc : List Nd), acc.length ≤ most → (fewF most acc l).length ≤ most
  | [], acc, h => h
  | x :: r, acc, h => by
    unfold fewF
    split
    · refine few_len most r _ ?_
      split
      · simp; omega
      · exact h
    · exact h

set_option maxHeartbeats 4000000 in
theorem few_c (most : Nat) (hm : most ≤ 1000) (l : List Nd) (hl : l.length ≤ 9223372036854775807) (K : SV → St → Prop) (st : St) (h : K (nodesSV (fewF most [] l)) st) : ACalls Try.prog 9 [nodesSV l, .sc (.int .i64 most)] K st := by
  refine acalls_go_pure [] Try.func9 rfl Try.results9 Try.ntmps9 ?_
  simp only [go_sem, imp_self, implies_true, reduceCtorEq, false_imp_iff, true_imp_iff, decide_true, decide_false, Int.toNat_natCast, Int.toNat_zero, Int.toNat_one, Int.natCast_nonneg, Int.le_refl, Nat.le_refl, Nat.reduceAdd, Nat.reduceMul, Nat.reduceLeDiff, Nat.reduceLT, Int.reduceLE, Int.reduceLT, Nat.reduceBEq, Nat.reduceEqDiff, Bool.not_true, Bool.not_false, Bool.and_false, Bool.false_and, Bool.or_true, Bool.true_or, Bool.or_false, Bool.false_or, call_funcH, c_drawH, c_loopH, gAll_F, gIf_F, pickB_true, pickB_false, Array.toList_append, List.cons_append, List.nil_append, opTmps, List.contains_cons, List.contains_nil]
  refine awp_own 5 6 0 rfl ?_
  simp only [go_sem, imp_self, implies_true, reduceCtorEq, false_imp_iff, true_imp_iff, decide_true, decide_false, Int.toNat_natCast, Int.toNat_zero, Int.toNat_one, Int.natCast_nonneg, Int.le_refl, Nat.le_refl, Nat.reduceAdd, Nat.reduceMul, Nat.reduceLeDiff, Nat.reduceLT, Int.reduceLE, Int.reduceLT, Nat.reduceBEq, Nat.reduceEqDiff, Bool.not_true, Bool.not_false, Bool.and_false, Bool.false_and, Bool.or_true, Bool.true_or, Bool.or_false, Bool.false_or, call_funcH, c_drawH, c_loopH, gAll_F, gIf_F, pickB_true, pickB_false, Array.toList_append, List.cons_append, List.nil_append, opTmps, List.contains_cons, List.contains_nil]
  refine awp_rounds [] (fun m e s => ∃ (k : Nat) (acc : List Nd) (ver : Nat) (ex : St), k + m = l.length ∧ acc.length ≤ most ∧ fewF most acc (l.drop k) = fewF most [] l ∧ e = [.slice .imm 6 (l.map nodeSV), .sc (.int .i64 most), .any, .any, .any, .slice (.own st.length ver) 6 (acc.map nodeSV), .sc (.int .i64 k), .any, .any, .any, .any, .any, .any, .any, .any, .any, .any, .any, .any, .any, .any, .any, .any, .any, .any, .any, .any, .any, .any, .any, .any, .any, .any] ∧ s = st ++ (.tok ver :: ex)) (n := l.length) ?_ ⟨0, [], 0, [], by omega, by simp, rfl, rfl, rfl⟩ ?_
  · repeat (first | exact leEnv_nil | refine leEnv_any _ ?_ | refine leEnv_same _ ?_ | refine leEnv_norm _ ?_)
  rintro m e s ⟨k, acc, ver, ex, hkm, hacc, hF, rfl, rfl⟩
  simp only [go_sem, imp_self, implies_true, reduceCtorEq, false_imp_iff, true_imp_iff, decide_true, decide_false, Int.toNat_natCast, Int.toNat_zero, Int.toNat_one, Int.natCast_nonneg, Int.le_refl, Nat.le_refl, Nat.reduceAdd, Nat.reduceMul, Nat.reduceLeDiff, Nat.reduceLT, Int.reduceLE, Int.reduceLT, Nat.reduceBEq, Nat.reduceEqDiff, Bool.not_true, Bool.not_false, Bool.and_false, Bool.false_and, Bool.or_true, Bool.true_or, Bool.or_false, Bool.false_or, call_funcH, c_drawH, c_loopH, gAll_F, gIf_F, pickB_true, pickB_false, Array.toList_append, List.cons_append, List.nil_append, opTmps, List.contains_cons, List.contains_nil]
  refine ⟨fun hc => ?_, fun hc => ?_⟩
  · simp only [Bool.and_eq_true, decide_eq_true_eq] at hc
    obtain ⟨c1, c2⟩ := hc
    have hlt : k < l.length := by omega
    have hw : IntKind.i64.wrap ((k : Int) + 1) = ((k + 1 : Nat) : Int) := by rw [IntWalk.i64_in _ (by omega)]; rfl
    have hdr : l.drop k = l.getD k default :: l.drop (k + 1) := by
      rw [List.drop_eq_getElem_cons hlt, List.getD_eq_getElem?_getD, List.getElem?_eq_getElem hlt]; rfl
    have hcnt := cut_cnt3 (l.getD k default)
    have hd3 : ((3 : Nat) : Int) = 3 := rfl
    have hc9 : (cnt (cutF 3 (l.getD k default)) : Int) ≤ 9 ↔ cnt (cutF 3 (l.getD k default)) ≤ 9 := by omega
    rw [hdr, fewF, if_pos (by omega)] at hF
    have hal : acc.length + 1 ≤ 1000000 := by omega
    simp only [go_sem, imp_self, implies_true, reduceCtorEq, false_imp_iff, true_imp_iff, decide_true, decide_false, Int.toNat_natCast, Int.toNat_zero, Int.toNat_one, Int.natCast_nonneg, Int.le_refl, Nat.le_refl, Nat.reduceAdd, Nat.reduceMul, Nat.reduceLeDiff, Nat.reduceLT, Int.reduceLE, Int.reduceLT, Nat.reduceBEq, Nat.reduceEqDiff, Bool.not_true, Bool.not_false, Bool.and_false, Bool.false_and, Bool.or_true, Bool.true_or, Bool.or_false, Bool.false_or, call_funcH, c_drawH, c_loopH, gAll_F, gIf_F, pickB_true, pickB_false, Array.toList_append, List.cons_append, List.nil_append, opTmps, List.contains_cons, List.contains_nil, c1, getD_map' _ hlt]
    refine cut_c 3 (by omega) _ _ _ ?_
    simp only [go_sem, imp_self, implies_true, reduceCtorEq, false_imp_iff, true_imp_iff, decide_true, decide_false, Int.toNat_natCast, Int.toNat_zero, Int.toNat_one, Int.natCast_nonneg, Int.le_refl, Nat.le_refl, Nat.reduceAdd, Nat.reduceMul, Nat.reduceLeDiff, Nat.reduceLT, Int.reduceLE, Int.reduceLT, Nat.reduceBEq, Nat.reduceEqDiff, Bool.not_true, Bool.not_false, Bool.and_false, Bool.false_and, Bool.or_true, Bool.true_or, Bool.or_false, Bool.false_or, call_funcH, c_drawH, c_loopH, gAll_F, gIf_F, pickB_true, pickB_false, Array.toList_append, List.cons_append, List.nil_append, opTmps, List.contains_cons, List.contains_nil]
    refine count_c 100000 (Nat.le_refl _) _ (by omega) _ _ ?_
    simp only [go_sem, imp_self, implies_true, reduceCtorEq, false_imp_iff, true_imp_iff, decide_true, decide_false, Int.toNat_natCast, Int.toNat_zero, Int.toNat_one, Int.natCast_nonneg, Int.le_refl, Nat.le_refl, Nat.reduceAdd, Nat.reduceMul, Nat.reduceLeDiff, Nat.reduceLT, Int.reduceLE, Int.reduceLT, Nat.reduceBEq, Nat.reduceEqDiff, Bool.not_true, Bool.not_false, Bool.and_false, Bool.false_and, Bool.or_true, Bool.true_or, Bool.or_false, Bool.false_or, call_funcH, c_drawH, c_loopH, gAll_F, gIf_F, pickB_true, pickB_false, Array.toList_append, List.cons_append, List.nil_append, opTmps, List.contains_cons, List.contains_nil, hc9]
    refine ⟨fun h9 => ?_, fun h9 => ?_⟩
    · rw [if_pos (by simpa using h9)] at hF
      simp only [go_sem, imp_self, implies_true, reduceCtorEq, false_imp_iff, true_imp_iff, decide_true, decide_false, Int.toNat_natCast, Int.toNat_zero, Int.toNat_one, Int.natCast_nonneg, Int.le_refl, Nat.le_refl, Nat.reduceAdd, Nat.reduceMul, Nat.reduceLeDiff, Nat.reduceLT, Int.reduceLE, Int.reduceLT, Nat.reduceBEq, Nat.reduceEqDiff, Bool.not_true, Bool.not_false, Bool.and_false, Bool.false_and, Bool.or_true, Bool.true_or, Bool.or_false, Bool.false_or, call_funcH, c_drawH, c_loopH, gAll_F, gIf_F, pickB_true, pickB_false, Array.toList_append, List.cons_append, List.nil_append, opTmps, List.contains_cons, List.contains_nil, hw]
      refine ⟨app22 hal, m - 1, _, by omega, ?_, k + 1, acc ++ [cutF 3 (l.getD k default)], ver + 1, _, by omega, by simp; omega, hF, by rw [List.map_append], rfl⟩
      repeat (first | exact leEnv_nil | refine leEnv_any _ ?_ | refine leEnv_same _ ?_ | refine leEnv_norm _ ?_)
    · rw [if_neg (by simpa using h9)] at hF
      simp only [go_sem, imp_self, implies_true, reduceCtorEq, false_imp_iff, true_imp_iff, decide_true, decide_false, Int.toNat_natCast, Int.toNat_zero, Int.toNat_one, Int.natCast_nonneg, Int.le_refl, Nat.le_refl, Nat.reduceAdd, Nat.reduceMul, Nat.reduceLeDiff, Nat.reduceLT, Int.reduceLE, Int.reduceLT, Nat.reduceBEq, Nat.reduceEqDiff, Bool.not_true, Bool.not_false, Bool.and_false, Bool.false_and, Bool.or_true, Bool.true_or, Bool.or_false, Bool.false_or, call_funcH, c_drawH, c_loopH, gAll_F, gIf_F, pickB_true, pickB_false, Array.toList_append, List.cons_append, List.nil_append, opTmps, List.contains_cons, List.contains_nil, hw]
      refine ⟨m - 1, _, by omega, ?_, k + 1, acc, ver, _, by omega, hacc, hF, rfl, rfl⟩
      repeat (first | exact leEnv_nil | refine leEnv_any _ ?_ | refine leEnv_same _ ?_ | refine leEnv_norm _ ?_)
  · have hx : fewF most acc (l.drop k) = acc := by
      by_cases h1 : k < l.length
      · have h2 : ¬ (acc.length < most) := by
          intro h2
          have : (decide ((k : Int) < (l.length : Int)) && decide ((acc.length : Int) < (most : Int))) = true := by
            simp only [Bool.and_eq_true, decide_eq_true_eq]; omega
          rw [this] at hc; cases hc
        rw [List.drop_eq_getElem_cons h1, fewF, if_neg h2]
      · rw [List.drop_eq_nil_of_le (by omega)]; rfl
    rw [← hF, hx] at h
    exact ⟨⟨_, rfl⟩, ids_nodes _ _, h⟩

end Go.Proofs
