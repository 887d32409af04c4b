/- CoverOrder, CoverAny: the walks. -/
import Derived.Test.YtjkhpblfgcnpaaaL3
set_option linter.unusedSimpArgs false
set_option maxRecDepth 100000
namespace Go.Proofs
open Go Go.AL

theorem few_mem (most : Nat) : ∀ (l acc : List Nd), (∀ p ∈ acc, cnt p ≤ 9) → ∀ p ∈ fewF most acc l, cnt p ≤ 9
  | [], acc, h => h
  | x :: r, acc, h => by
    unfold fewF
    split
    · refine few_mem most r _ ?_
      split
      · rename_i h9
        intro p hp
        rcases List.mem_append.1 hp with h1 | h1
        · exact h p h1
        · simp at h1; subst h1; exact h9
      · exact h
    · exact h

mutual
theorem nl_cnt : ∀ n : Nd, nl n ≤ cnt n
  | .mk k t m a ns ks => by
    rw [nl, cnt]
    have := nl_cntL ks
    split <;> omega
theorem nl_cntL : ∀ l : List Nd, nlL l ≤ cntL l
  | [] => Nat.le_refl _
  | n :: r => by
    rw [nlL, cntL]
    have := nl_cnt n
    have := nl_cntL r
    omega
end

theorem cntL_le {c : Nat} : ∀ {l : List Nd}, (∀ p ∈ l, cnt p ≤ c) → cntL l ≤ l.length * c
  | [], _ => by simp [cntL]
  | x :: r, h => by
    have := cntL_le (l := r) fun p hp => h p (List.mem_cons_of_mem _ hp)
    have := h x List.mem_cons_self
    simp only [cntL, List.length_cons, Nat.succ_mul]; omega

theorem few5_nl (l : List Nd) : nlL (fewF 5 [] l) ≤ 45 := by
  have h1 := nl_cntL (fewF 5 [] l)
  have h2 := cntL_le (few_mem 5 l [] (fun p hp => by cases hp))
  have h3 := few_len 5 l [] (by simp)
  have h4 : (fewF 5 [] l).length * 9 ≤ 5 * 9 := Nat.mul_le_mul_right _ h3
  omega

theorem rev_take (rows : List Nd) {k : Nat} (h : k < rows.length) : (rows.reverse.take (k + 1)).map nodeSV = (rows.reverse.take k).map nodeSV ++ [nodeSV (rows.getD (rows.length - 1 - k) default)] := by
  rw [take_snoc' _ (by simpa using h), List.map_append]
  congr 3
  simp [List.getD_eq_getElem?_getD, List.getElem?_reverse h]

set_option maxHeartbeats 4000000 in
theorem order_c (l : List Nd) (hl : l.length ≤ 9223372036854775807) (K : SV → St → Prop) (st : St) (h : K (.sc (.bool true)) st) : ACalls Try.prog 4 [nodesSV l] K st := by
  have hr5 := few_len 5 l [] (by simp)
  have hnl := few5_nl l
  have hcnt : ∀ p ∈ fewF 5 [] l, cnt p ≤ 100000 := fun p hp => Nat.le_trans (few_mem 5 l [] (fun p hp => by cases hp) p hp) (by omega)
  have hlaw := order_law consL low_cons hfind_cons (fewF 5 [] l) (by omega)
  have hnlr : nlL (fewF 5 [] l).reverse ≤ 45 := by
    have h1 := nl_cntL (fewF 5 [] l).reverse
    have h2 : ∀ p ∈ (fewF 5 [] l).reverse, cnt p ≤ 9 := fun p hp => few_mem 5 l [] (fun p hp => by cases hp) p (List.mem_reverse.1 hp)
    have h3 := cntL_le h2
    rw [List.length_reverse] at h3
    have h4 : (fewF 5 [] l).length * 9 ≤ 5 * 9 := Nat.mul_le_mul_right _ hr5
    omega
  obtain ⟨rows, hrows⟩ : ∃ rows, fewF 5 [] l = rows := ⟨_, rfl⟩
  rw [hrows] at hr5 hnl hcnt hlaw hnlr
  obtain ⟨E, hE⟩ : ∃ E, (chkF consL 100000 rows).2 = E := ⟨_, rfl⟩
  obtain ⟨F, hF⟩ : ∃ F, (chkF consL 100000 rows.reverse).2 = F := ⟨_, rfl⟩
  rw [hE, hF] at hlaw
  have h3 : (E == 27 || F == 27) = true ∨ ((E == 27 || F == 27) = false ∧ (E == F) = true) := by
    rcases hlaw with h | h | h
    · subst h; exact .inl rfl
    · subst h; exact .inl (by simp)
    · subst h
      by_cases e : E = 27
      · exact .inl (by simp [e])
      · exact .inr ⟨by simp [e], by simp⟩
  have hfew := few_c 5 (by omega) l hl
  rw [hrows] at hfew
  refine acalls_go_pure [] Try.func4 rfl Try.results4 Try.ntmps4 ?_
  simp only [go_sem, imp_self, implies_true, reduceCtorEq, false_imp_iff, true_imp_iff, decide_true, decide_false, Int.toNat_natCast, Int.toNat_zero, Int.toNat_one, Int.natCast_nonneg, Int.le_refl, Nat.le_refl, Nat.reduceAdd, Nat.reduceMul, Nat.reduceLeDiff, Nat.reduceLT, Int.reduceLE, Int.reduceLT, Nat.reduceBEq, Nat.reduceEqDiff, Bool.not_true, Bool.not_false, Bool.and_false, Bool.false_and, Bool.or_true, Bool.true_or, Bool.or_false, Bool.false_or, call_funcH, c_drawH, c_loopH, gAll_F, gIf_F, pickB_true, pickB_false, Array.toList_append, List.cons_append, List.nil_append, opTmps, List.contains_cons, List.contains_nil]
  refine hfew _ _ ?_
  simp only [go_sem, imp_self, implies_true, reduceCtorEq, false_imp_iff, true_imp_iff, decide_true, decide_false, Int.toNat_natCast, Int.toNat_zero, Int.toNat_one, Int.natCast_nonneg, Int.le_refl, Nat.le_refl, Nat.reduceAdd, Nat.reduceMul, Nat.reduceLeDiff, Nat.reduceLT, Int.reduceLE, Int.reduceLT, Nat.reduceBEq, Nat.reduceEqDiff, Bool.not_true, Bool.not_false, Bool.and_false, Bool.false_and, Bool.or_true, Bool.true_or, Bool.or_false, Bool.false_or, call_funcH, c_drawH, c_loopH, gAll_F, gIf_F, pickB_true, pickB_false, Array.toList_append, List.cons_append, List.nil_append, opTmps, List.contains_cons, List.contains_nil]
  refine cons_c _ _ ?_
  have hw0 : IntKind.i64.wrap ((rows.length : Int) - 1) = (rows.length : Int) - 1 := IntWalk.i64_in _ (by omega)
  simp only [go_sem, imp_self, implies_true, reduceCtorEq, false_imp_iff, true_imp_iff, decide_true, decide_false, Int.toNat_natCast, Int.toNat_zero, Int.toNat_one, Int.natCast_nonneg, Int.le_refl, Nat.le_refl, Nat.reduceAdd, Nat.reduceMul, Nat.reduceLeDiff, Nat.reduceLT, Int.reduceLE, Int.reduceLT, Nat.reduceBEq, Nat.reduceEqDiff, Bool.not_true, Bool.not_false, Bool.and_false, Bool.false_and, Bool.or_true, Bool.true_or, Bool.or_false, Bool.false_or, call_funcH, c_drawH, c_loopH, gAll_F, gIf_F, pickB_true, pickB_false, Array.toList_append, List.cons_append, List.nil_append, opTmps, List.contains_cons, List.contains_nil, hw0]
  refine awp_own 5 6 0 rfl ?_
  simp only [go_sem, imp_self, implies_true, reduceCtorEq, false_imp_iff, true_imp_iff, decide_true, decide_false, Int.toNat_natCast, Int.toNat_zero, Int.toNat_one, Int.natCast_nonneg, Int.le_refl, Nat.le_refl, Nat.reduceAdd, Nat.reduceMul, Nat.reduceLeDiff, Nat.reduceLT, Int.reduceLE, Int.reduceLT, Nat.reduceBEq, Nat.reduceEqDiff, Bool.not_true, Bool.not_false, Bool.and_false, Bool.false_and, Bool.or_true, Bool.true_or, Bool.or_false, Bool.false_or, call_funcH, c_drawH, c_loopH, gAll_F, gIf_F, pickB_true, pickB_false, Array.toList_append, List.cons_append, List.nil_append, opTmps, List.contains_cons, List.contains_nil]
  refine awp_rounds [] (fun m e s => ∃ (k ver : Nat), k + m = rows.length ∧ e = [.any, .any, .any, .slice .imm 6 (rows.map nodeSV), .slice .imm 5 (consL.map conSV), .slice (.own st.length ver) 6 ((rows.reverse.take k).map nodeSV), .sc (.int .i64 ((rows.length : Int) - 1 - (k : Int))), .any, .any, .any, .any, .any, .any, .any, .any, .any, .any, .any, .any, .any, .any, .any, .any, .any, .any, .any, .any, .any, .any, .any, .any, .any, .any, .any, .any, .any, .any, .any, .any, .any, .any, .any, .any, .any, .any, .any, .any, .any, .any, .any, .any, .any, .any] ∧ s = st ++ [.tok ver]) (n := rows.length) ?_ ⟨0, 0, by omega, by rw [show (rows.length : Int) - 1 - ((0 : Nat) : Int) = (rows.length : Int) - 1 by omega], rfl⟩ ?_
  · repeat (first | exact leEnv_nil | refine leEnv_any _ ?_ | refine leEnv_same _ ?_ | refine leEnv_norm _ ?_)
  rintro m e s ⟨k, ver, hkm, rfl, rfl⟩
  by_cases hlt : k < rows.length
  · have c0 : (0 : Int) ≤ (rows.length : Int) - 1 - (k : Int) := by omega
    have c1 : (rows.length : Int) - 1 - (k : Int) < (rows.length : Int) := by omega
    have hto : ((rows.length : Int) - 1 - (k : Int)).toNat = rows.length - 1 - k := by omega
    have hw : IntKind.i64.wrap ((rows.length : Int) - 1 - (k : Int) - 1) = (rows.length : Int) - 1 - ((k + 1 : Nat) : Int) := by rw [IntWalk.i64_in _ (by omega)]; omega
    have hrt := rev_take rows hlt
    have hal : (rows.reverse.take k).length + 1 ≤ 1000000 := by rw [List.length_take]; omega
    have hix : rows.length - 1 - k < rows.length := by omega
    simp only [go_sem, imp_self, implies_true, reduceCtorEq, false_imp_iff, true_imp_iff, decide_true, decide_false, Int.toNat_natCast, Int.toNat_zero, Int.toNat_one, Int.natCast_nonneg, Int.le_refl, Nat.le_refl, Nat.reduceAdd, Nat.reduceMul, Nat.reduceLeDiff, Nat.reduceLT, Int.reduceLE, Int.reduceLT, Nat.reduceBEq, Nat.reduceEqDiff, Bool.not_true, Bool.not_false, Bool.and_false, Bool.false_and, Bool.or_true, Bool.true_or, Bool.or_false, Bool.false_or, call_funcH, c_drawH, c_loopH, gAll_F, gIf_F, pickB_true, pickB_false, Array.toList_append, List.cons_append, List.nil_append, opTmps, List.contains_cons, List.contains_nil, c0, c1, hw, hto, getD_map' _ hix]
    refine ⟨app22 hal, m - 1, _, by omega, ?_, k + 1, ver + 1, by omega, by rw [hrt], rfl⟩
    repeat (first | exact leEnv_nil | refine leEnv_any _ ?_ | refine leEnv_same _ ?_ | refine leEnv_norm _ ?_)
  · obtain rfl : k = rows.length := by omega
    have c0 : ((0 : Int) ≤ (rows.length : Int) - 1 - (rows.length : Int)) = False := eq_false (by omega)
    have htk : rows.reverse.take rows.length = rows.reverse := List.take_of_length_le (by simp)
    refine h3.elim (fun h4 => ?_) (fun h4 => ?_)
    · simp only [go_sem, imp_self, implies_true, reduceCtorEq, false_imp_iff, true_imp_iff, decide_true, decide_false, Int.toNat_natCast, Int.toNat_zero, Int.toNat_one, Int.natCast_nonneg, Int.le_refl, Nat.le_refl, Nat.reduceAdd, Nat.reduceMul, Nat.reduceLeDiff, Nat.reduceLT, Int.reduceLE, Int.reduceLT, Nat.reduceBEq, Nat.reduceEqDiff, Bool.not_true, Bool.not_false, Bool.and_false, Bool.false_and, Bool.or_true, Bool.true_or, Bool.or_false, Bool.false_or, call_funcH, c_drawH, c_loopH, gAll_F, gIf_F, pickB_true, pickB_false, Array.toList_append, List.cons_append, List.nil_append, opTmps, List.contains_cons, List.contains_nil, c0, htk]
      refine chk_c consL low_cons hfind_cons rows (by omega) hcnt (by omega) _ _ ?_
      simp only [go_sem, imp_self, implies_true, reduceCtorEq, false_imp_iff, true_imp_iff, decide_true, decide_false, Int.toNat_natCast, Int.toNat_zero, Int.toNat_one, Int.natCast_nonneg, Int.le_refl, Nat.le_refl, Nat.reduceAdd, Nat.reduceMul, Nat.reduceLeDiff, Nat.reduceLT, Int.reduceLE, Int.reduceLT, Nat.reduceBEq, Nat.reduceEqDiff, Bool.not_true, Bool.not_false, Bool.and_false, Bool.false_and, Bool.or_true, Bool.true_or, Bool.or_false, Bool.false_or, call_funcH, c_drawH, c_loopH, gAll_F, gIf_F, pickB_true, pickB_false, Array.toList_append, List.cons_append, List.nil_append, opTmps, List.contains_cons, List.contains_nil, hE]
      refine acalls_args (args' := [nodesSV rows.reverse, consSV consL]) (.cons (fun _ _ _ _ h => h.norm1) (.cons (SVle.refl _) .nil)) ?_
      refine chk_c consL low_cons hfind_cons rows.reverse (by simp; omega) (fun p hp => hcnt p (List.mem_reverse.1 hp)) (by omega) _ _ ?_
      simp only [go_sem, imp_self, implies_true, reduceCtorEq, false_imp_iff, true_imp_iff, decide_true, decide_false, Int.toNat_natCast, Int.toNat_zero, Int.toNat_one, Int.natCast_nonneg, Int.le_refl, Nat.le_refl, Nat.reduceAdd, Nat.reduceMul, Nat.reduceLeDiff, Nat.reduceLT, Int.reduceLE, Int.reduceLT, Nat.reduceBEq, Nat.reduceEqDiff, Bool.not_true, Bool.not_false, Bool.and_false, Bool.false_and, Bool.or_true, Bool.true_or, Bool.or_false, Bool.false_or, call_funcH, c_drawH, c_loopH, gAll_F, gIf_F, pickB_true, pickB_false, Array.toList_append, List.cons_append, List.nil_append, opTmps, List.contains_cons, List.contains_nil, hE, hF, h4]
      refine ⟨fun e => by rw [e]; rfl, ?_⟩
      refine lives_c _ _ ?_
      simp only [go_sem, imp_self, implies_true, reduceCtorEq, false_imp_iff, true_imp_iff, decide_true, decide_false, Int.toNat_natCast, Int.toNat_zero, Int.toNat_one, Int.natCast_nonneg, Int.le_refl, Nat.le_refl, Nat.reduceAdd, Nat.reduceMul, Nat.reduceLeDiff, Nat.reduceLT, Int.reduceLE, Int.reduceLT, Nat.reduceBEq, Nat.reduceEqDiff, Bool.not_true, Bool.not_false, Bool.and_false, Bool.false_and, Bool.or_true, Bool.true_or, Bool.or_false, Bool.false_or, call_funcH, c_drawH, c_loopH, gAll_F, gIf_F, pickB_true, pickB_false, Array.toList_append, List.cons_append, List.nil_append, opTmps, List.contains_cons, List.contains_nil]
      exact ⟨⟨_, rfl⟩, .sc _, h⟩
    · simp only [go_sem, imp_self, implies_true, reduceCtorEq, false_imp_iff, true_imp_iff, decide_true, decide_false, Int.toNat_natCast, Int.toNat_zero, Int.toNat_one, Int.natCast_nonneg, Int.le_refl, Nat.le_refl, Nat.reduceAdd, Nat.reduceMul, Nat.reduceLeDiff, Nat.reduceLT, Int.reduceLE, Int.reduceLT, Nat.reduceBEq, Nat.reduceEqDiff, Bool.not_true, Bool.not_false, Bool.and_false, Bool.false_and, Bool.or_true, Bool.true_or, Bool.or_false, Bool.false_or, call_funcH, c_drawH, c_loopH, gAll_F, gIf_F, pickB_true, pickB_false, Array.toList_append, List.cons_append, List.nil_append, opTmps, List.contains_cons, List.contains_nil, c0, htk]
      refine chk_c consL low_cons hfind_cons rows (by omega) hcnt (by omega) _ _ ?_
      simp only [go_sem, imp_self, implies_true, reduceCtorEq, false_imp_iff, true_imp_iff, decide_true, decide_false, Int.toNat_natCast, Int.toNat_zero, Int.toNat_one, Int.natCast_nonneg, Int.le_refl, Nat.le_refl, Nat.reduceAdd, Nat.reduceMul, Nat.reduceLeDiff, Nat.reduceLT, Int.reduceLE, Int.reduceLT, Nat.reduceBEq, Nat.reduceEqDiff, Bool.not_true, Bool.not_false, Bool.and_false, Bool.false_and, Bool.or_true, Bool.true_or, Bool.or_false, Bool.false_or, call_funcH, c_drawH, c_loopH, gAll_F, gIf_F, pickB_true, pickB_false, Array.toList_append, List.cons_append, List.nil_append, opTmps, List.contains_cons, List.contains_nil, hE]
      refine acalls_args (args' := [nodesSV rows.reverse, consSV consL]) (.cons (fun _ _ _ _ h => h.norm1) (.cons (SVle.refl _) .nil)) ?_
      refine chk_c consL low_cons hfind_cons rows.reverse (by simp; omega) (fun p hp => hcnt p (List.mem_reverse.1 hp)) (by omega) _ _ ?_
      simp only [go_sem, imp_self, implies_true, reduceCtorEq, false_imp_iff, true_imp_iff, decide_true, decide_false, Int.toNat_natCast, Int.toNat_zero, Int.toNat_one, Int.natCast_nonneg, Int.le_refl, Nat.le_refl, Nat.reduceAdd, Nat.reduceMul, Nat.reduceLeDiff, Nat.reduceLT, Int.reduceLE, Int.reduceLT, Nat.reduceBEq, Nat.reduceEqDiff, Bool.not_true, Bool.not_false, Bool.and_false, Bool.false_and, Bool.or_true, Bool.true_or, Bool.or_false, Bool.false_or, call_funcH, c_drawH, c_loopH, gAll_F, gIf_F, pickB_true, pickB_false, Array.toList_append, List.cons_append, List.nil_append, opTmps, List.contains_cons, List.contains_nil, hE, hF, h4.1, h4.2]
      refine ⟨fun e => by rw [e]; rfl, ?_⟩
      refine lives_c _ _ ?_
      simp only [go_sem, imp_self, implies_true, reduceCtorEq, false_imp_iff, true_imp_iff, decide_true, decide_false, Int.toNat_natCast, Int.toNat_zero, Int.toNat_one, Int.natCast_nonneg, Int.le_refl, Nat.le_refl, Nat.reduceAdd, Nat.reduceMul, Nat.reduceLeDiff, Nat.reduceLT, Int.reduceLE, Int.reduceLT, Nat.reduceBEq, Nat.reduceEqDiff, Bool.not_true, Bool.not_false, Bool.and_false, Bool.false_and, Bool.or_true, Bool.true_or, Bool.or_false, Bool.false_or, call_funcH, c_drawH, c_loopH, gAll_F, gIf_F, pickB_true, pickB_false, Array.toList_append, List.cons_append, List.nil_append, opTmps, List.contains_cons, List.contains_nil, hE, hF, h4.1, h4.2]
      exact ⟨⟨_, rfl⟩, .sc _, h⟩

set_option maxHeartbeats 4000000 in
theorem any_law_c (l : List Nd) (hl : l.length ≤ 9223372036854775807) (K : SV → St → Prop) (st : St) (h : K (.sc (.bool true)) st) : ACalls Try.prog 5 [nodesSV l] K st := by
  have hr5 := few_len 5 l [] (by simp)
  have hnl := few5_nl l
  have hcnt : ∀ p ∈ fewF 5 [] l, cnt p ≤ 100000 := fun p hp => Nat.le_trans (few_mem 5 l [] (fun p hp => by cases hp) p hp) (by omega)
  have hlaw := any_law consL low_cons (fewF 5 [] l) (by omega) (by omega)
  obtain ⟨rows, hrows⟩ : ∃ rows, fewF 5 [] l = rows := ⟨_, rfl⟩
  rw [hrows] at hr5 hnl hcnt hlaw
  obtain ⟨⟨N, E⟩, hE⟩ : ∃ E, chkF consL 100000 rows = E := ⟨_, rfl⟩
  obtain ⟨⟨M, F⟩, hF⟩ : ∃ F, chkF consL 100000 (anyN :: rows) = F := ⟨_, rfl⟩
  rw [hE, hF] at hlaw
  have hfew := few_c 5 (by omega) l hl
  rw [hrows] at hfew
  have hcases : ((E == 1) = true ∧ (F == 1) = true ∧ (M == 0) = true) ∨ ((E == 1) = false ∧ ((rows.length : Int) == 0) = true ∧ (F == 0) = true) ∨ ((E == 1) = false ∧ ((rows.length : Int) == 0) = false ∧ (F == 27) = true ∧ (M == 1) = true) := by
    by_cases e1 : E = 1
    · have h := hlaw.1 e1
      injection h with h1 h2
      exact .inl ⟨by simp [e1], by simp [h2], by simp [h1]⟩
    · by_cases e2 : rows = []
      · have h := hlaw.2.1 e1 e2
        exact .inr (.inl ⟨by simp [e1], by simp [e2], by simpa using h⟩)
      · have h := hlaw.2.2 e1 e2
        injection h with h1 h2
        exact .inr (.inr ⟨by simp [e1], by simp [e2], by simp [h2], by simp [h1]⟩)
  refine acalls_go_pure [] Try.func5 rfl Try.results5 Try.ntmps5 ?_
  simp only [go_sem, imp_self, implies_true, reduceCtorEq, false_imp_iff, true_imp_iff, decide_true, decide_false, Int.toNat_natCast, Int.toNat_zero, Int.toNat_one, Int.natCast_nonneg, Int.le_refl, Nat.le_refl, Nat.reduceAdd, Nat.reduceMul, Nat.reduceLeDiff, Nat.reduceLT, Int.reduceLE, Int.reduceLT, Nat.reduceBEq, Nat.reduceEqDiff, Bool.not_true, Bool.not_false, Bool.and_false, Bool.false_and, Bool.or_true, Bool.true_or, Bool.or_false, Bool.false_or, call_funcH, c_drawH, c_loopH, gAll_F, gIf_F, pickB_true, pickB_false, Array.toList_append, List.cons_append, List.nil_append, opTmps, List.contains_cons, List.contains_nil]
  refine hfew _ _ ?_
  simp only [go_sem, imp_self, implies_true, reduceCtorEq, false_imp_iff, true_imp_iff, decide_true, decide_false, Int.toNat_natCast, Int.toNat_zero, Int.toNat_one, Int.natCast_nonneg, Int.le_refl, Nat.le_refl, Nat.reduceAdd, Nat.reduceMul, Nat.reduceLeDiff, Nat.reduceLT, Int.reduceLE, Int.reduceLT, Nat.reduceBEq, Nat.reduceEqDiff, Bool.not_true, Bool.not_false, Bool.and_false, Bool.false_and, Bool.or_true, Bool.true_or, Bool.or_false, Bool.false_or, call_funcH, c_drawH, c_loopH, gAll_F, gIf_F, pickB_true, pickB_false, Array.toList_append, List.cons_append, List.nil_append, opTmps, List.contains_cons, List.contains_nil]
  refine cons_c _ _ ?_
  simp only [go_sem, imp_self, implies_true, reduceCtorEq, false_imp_iff, true_imp_iff, decide_true, decide_false, Int.toNat_natCast, Int.toNat_zero, Int.toNat_one, Int.natCast_nonneg, Int.le_refl, Nat.le_refl, Nat.reduceAdd, Nat.reduceMul, Nat.reduceLeDiff, Nat.reduceLT, Int.reduceLE, Int.reduceLT, Nat.reduceBEq, Nat.reduceEqDiff, Bool.not_true, Bool.not_false, Bool.and_false, Bool.false_and, Bool.or_true, Bool.true_or, Bool.or_false, Bool.false_or, call_funcH, c_drawH, c_loopH, gAll_F, gIf_F, pickB_true, pickB_false, Array.toList_append, List.cons_append, List.nil_append, opTmps, List.contains_cons, List.contains_nil]
  refine chk_c consL low_cons hfind_cons rows (by omega) hcnt (by omega) _ _ ?_
  simp only [go_sem, imp_self, implies_true, reduceCtorEq, false_imp_iff, true_imp_iff, decide_true, decide_false, Int.toNat_natCast, Int.toNat_zero, Int.toNat_one, Int.natCast_nonneg, Int.le_refl, Nat.le_refl, Nat.reduceAdd, Nat.reduceMul, Nat.reduceLeDiff, Nat.reduceLT, Int.reduceLE, Int.reduceLT, Nat.reduceBEq, Nat.reduceEqDiff, Bool.not_true, Bool.not_false, Bool.and_false, Bool.false_and, Bool.or_true, Bool.true_or, Bool.or_false, Bool.false_or, call_funcH, c_drawH, c_loopH, gAll_F, gIf_F, pickB_true, pickB_false, Array.toList_append, List.cons_append, List.nil_append, opTmps, List.contains_cons, List.contains_nil, hE]
  refine any_c _ _ ?_
  simp only [go_sem, imp_self, implies_true, reduceCtorEq, false_imp_iff, true_imp_iff, decide_true, decide_false, Int.toNat_natCast, Int.toNat_zero, Int.toNat_one, Int.natCast_nonneg, Int.le_refl, Nat.le_refl, Nat.reduceAdd, Nat.reduceMul, Nat.reduceLeDiff, Nat.reduceLT, Int.reduceLE, Int.reduceLT, Nat.reduceBEq, Nat.reduceEqDiff, Bool.not_true, Bool.not_false, Bool.and_false, Bool.false_and, Bool.or_true, Bool.true_or, Bool.or_false, Bool.false_or, call_funcH, c_drawH, c_loopH, gAll_F, gIf_F, pickB_true, pickB_false, Array.toList_append, List.cons_append, List.nil_append, opTmps, List.contains_cons, List.contains_nil]
  refine ⟨app22 (by omega), app22 (by omega), fun s hs => ?_, ?_⟩
  · obtain ⟨n, _, rfl⟩ := List.mem_map.1 hs
    exact all_node n
  refine hcases.elim (fun h4 => ?_) fun hcases => hcases.elim (fun h4 => ?_) (fun h4 => ?_)
  all_goals
    refine acalls_args (args' := [nodesSV (anyN :: rows), consSV consL]) (.cons (fun _ _ _ _ h => h.norm1) (.cons (SVle.refl _) .nil)) ?_
    refine chk_c consL low_cons hfind_cons (anyN :: rows) (by simp; omega) (fun p hp => ?_) (by simp only [nlL]; have : nl anyN = 0 := rfl; omega) _ _ ?_
    · cases hp with
      | head => simp [cnt, cntL, anyN]
      | tail _ hp => exact hcnt p hp
  · simp only [go_sem, imp_self, implies_true, reduceCtorEq, false_imp_iff, true_imp_iff, decide_true, decide_false, Int.toNat_natCast, Int.toNat_zero, Int.toNat_one, Int.natCast_nonneg, Int.le_refl, Nat.le_refl, Nat.reduceAdd, Nat.reduceMul, Nat.reduceLeDiff, Nat.reduceLT, Int.reduceLE, Int.reduceLT, Nat.reduceBEq, Nat.reduceEqDiff, Bool.not_true, Bool.not_false, Bool.and_false, Bool.false_and, Bool.or_true, Bool.true_or, Bool.or_false, Bool.false_or, call_funcH, c_drawH, c_loopH, gAll_F, gIf_F, pickB_true, pickB_false, Array.toList_append, List.cons_append, List.nil_append, opTmps, List.contains_cons, List.contains_nil, hE, hF, h4.1, h4.2.1, h4.2.2]

    refine lives_c _ _ ?_
    simp only [go_sem, imp_self, implies_true, reduceCtorEq, false_imp_iff, true_imp_iff, decide_true, decide_false, Int.toNat_natCast, Int.toNat_zero, Int.toNat_one, Int.natCast_nonneg, Int.le_refl, Nat.le_refl, Nat.reduceAdd, Nat.reduceMul, Nat.reduceLeDiff, Nat.reduceLT, Int.reduceLE, Int.reduceLT, Nat.reduceBEq, Nat.reduceEqDiff, Bool.not_true, Bool.not_false, Bool.and_false, Bool.false_and, Bool.or_true, Bool.true_or, Bool.or_false, Bool.false_or, call_funcH, c_drawH, c_loopH, gAll_F, gIf_F, pickB_true, pickB_false, Array.toList_append, List.cons_append, List.nil_append, opTmps, List.contains_cons, List.contains_nil, hE, hF, h4.1, h4.2.1, h4.2.2]
    exact ⟨⟨_, rfl⟩, .sc _, h⟩
  · simp only [go_sem, imp_self, implies_true, reduceCtorEq, false_imp_iff, true_imp_iff, decide_true, decide_false, Int.toNat_natCast, Int.toNat_zero, Int.toNat_one, Int.natCast_nonneg, Int.le_refl, Nat.le_refl, Nat.reduceAdd, Nat.reduceMul, Nat.reduceLeDiff, Nat.reduceLT, Int.reduceLE, Int.reduceLT, Nat.reduceBEq, Nat.reduceEqDiff, Bool.not_true, Bool.not_false, Bool.and_false, Bool.false_and, Bool.or_true, Bool.true_or, Bool.or_false, Bool.false_or, call_funcH, c_drawH, c_loopH, gAll_F, gIf_F, pickB_true, pickB_false, Array.toList_append, List.cons_append, List.nil_append, opTmps, List.contains_cons, List.contains_nil, hE, hF, h4.1, h4.2.1, h4.2.2]

    refine lives_c _ _ ?_
    simp only [go_sem, imp_self, implies_true, reduceCtorEq, false_imp_iff, true_imp_iff, decide_true, decide_false, Int.toNat_natCast, Int.toNat_zero, Int.toNat_one, Int.natCast_nonneg, Int.le_refl, Nat.le_refl, Nat.reduceAdd, Nat.reduceMul, Nat.reduceLeDiff, Nat.reduceLT, Int.reduceLE, Int.reduceLT, Nat.reduceBEq, Nat.reduceEqDiff, Bool.not_true, Bool.not_false, Bool.and_false, Bool.false_and, Bool.or_true, Bool.true_or, Bool.or_false, Bool.false_or, call_funcH, c_drawH, c_loopH, gAll_F, gIf_F, pickB_true, pickB_false, Array.toList_append, List.cons_append, List.nil_append, opTmps, List.contains_cons, List.contains_nil, hE, hF, h4.1, h4.2.1, h4.2.2]
    exact ⟨⟨_, rfl⟩, .sc _, h⟩
  · simp only [go_sem, imp_self, implies_true, reduceCtorEq, false_imp_iff, true_imp_iff, decide_true, decide_false, Int.toNat_natCast, Int.toNat_zero, Int.toNat_one, Int.natCast_nonneg, Int.le_refl, Nat.le_refl, Nat.reduceAdd, Nat.reduceMul, Nat.reduceLeDiff, Nat.reduceLT, Int.reduceLE, Int.reduceLT, Nat.reduceBEq, Nat.reduceEqDiff, Bool.not_true, Bool.not_false, Bool.and_false, Bool.false_and, Bool.or_true, Bool.true_or, Bool.or_false, Bool.false_or, call_funcH, c_drawH, c_loopH, gAll_F, gIf_F, pickB_true, pickB_false, Array.toList_append, List.cons_append, List.nil_append, opTmps, List.contains_cons, List.contains_nil, hE, hF, h4.1, h4.2.1, h4.2.2.1, h4.2.2.2]

    refine lives_c _ _ ?_
    simp only [go_sem, imp_self, implies_true, reduceCtorEq, false_imp_iff, true_imp_iff, decide_true, decide_false, Int.toNat_natCast, Int.toNat_zero, Int.toNat_one, Int.natCast_nonneg, Int.le_refl, Nat.le_refl, Nat.reduceAdd, Nat.reduceMul, Nat.reduceLeDiff, Nat.reduceLT, Int.reduceLE, Int.reduceLT, Nat.reduceBEq, Nat.reduceEqDiff, Bool.not_true, Bool.not_false, Bool.and_false, Bool.false_and, Bool.or_true, Bool.true_or, Bool.or_false, Bool.false_or, call_funcH, c_drawH, c_loopH, gAll_F, gIf_F, pickB_true, pickB_false, Array.toList_append, List.cons_append, List.nil_append, opTmps, List.contains_cons, List.contains_nil, hE, hF, h4.1, h4.2.1, h4.2.2.1, h4.2.2.2]
    exact ⟨⟨_, rfl⟩, .sc _, h⟩

end Go.Proofs
