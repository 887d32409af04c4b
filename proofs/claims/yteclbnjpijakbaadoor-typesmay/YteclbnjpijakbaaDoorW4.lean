/- measure, well, May. -/
import Derived.Test.YteclbnjpijakbaaDoorW3
set_option linter.unusedSimpArgs false
set_option maxRecDepth 8000
namespace Go.Proofs
open Go Go.AL

theorem fin_tup3 {K : SV → St → Prop} {st s : St} {a b c : Value} (hs : ∃ ex, s = st ++ ex) (h : K (.tuple [.sc a, .sc b, .sc c]) st) : FinK st K (.tuple [.sc a, .sc b, .sc c]) s :=
  ⟨hs, by simp only [norm, List.map_cons, List.map_nil, norm1, go_sem], h⟩

set_option maxHeartbeats 4000000 in
theorem measure_c (p : Int → Bool) (g : FuncId) (fs cs : List SV) (hg : aBody Tryd.prog g = true) : ∀ (left : Nat), left ≤ 100 → ∀ (t : Ty) (K : SV → St → Prop) (st : St),
    (∀ (ex : St) (n : Int) (K : SV → St → Prop), K (.sc (.bool (p n))) (st ++ ex) → ACalls Tryd.prog g (fs ++ [.sc (.int .i64 n)] ++ cs) K (st ++ ex)) →
    (∀ d n ok, Meas p left t d n ok → K (.tuple [.sc (.int .i64 d), .sc (.int .i64 n), .sc (.bool ok)]) st) → ACalls Tryd.prog 43 [tySV t, .sc (.int .i64 left), .func (.func g) fs cs] K st := by
  intro left
  induction left using Nat.strongRecOn with
  | _ left ih =>
    intro hle t K st hp h
    refine acalls_go_pure [] Tryd.func43 rfl Tryd.results43 Tryd.ntmps43 ?_
    have hgt := goodB_eq p t
    have hnt := nd_eq t
    have hdt := dp_eq t
    have hp0 := hp []
    simp only [List.append_nil] at hp0
    rw [tySV_eq]
    by_cases hv : t.v = 0
    · have e0 : (t.v != 0) = false := by simp [hv]
      rw [if_pos hv] at hgt
      simp only [go_sem, imp_self, implies_true, reduceCtorEq, false_imp_iff, true_imp_iff, decide_true, decide_false, Int.toNat_natCast, Int.toNat_zero, Int.toNat_one, Int.natCast_nonneg, Int.le_refl, Nat.le_refl, Nat.reduceAdd, Nat.reduceMul, Nat.reduceLeDiff, Nat.reduceLT, Int.reduceLE, Int.reduceLT, Int.reduceEq, Nat.reduceBEq, Nat.reduceEqDiff, Bool.not_true, Bool.not_false, Bool.and_false, Bool.false_and, Bool.or_true, Bool.true_or, Bool.or_false, Bool.false_or, call_funcH, c_drawH, c_loopH, gAll_F, gIf_F, pickB_true, pickB_false, Array.toList_append, List.cons_append, List.nil_append, opTmps, List.contains_cons, List.contains_nil, e0]
      refine awp_rounds [] (fun m e s => ∃ (k : Nat) (ex : St), m + k = t.args.length ∧ goodL p (t.args.take k) = true ∧ dpL (t.args.take k) ≤ left ∧ 1 + ndL (t.args.take k) ≤ 201 * (left + 1) ∧ k ≤ ndL (t.args.take k) ∧
        e = [.any, .sc (.int .i64 left), .func (.func g) fs cs, .ref [.sc (.int .i64 t.v), .sc (.string t.name), .slice .imm 3 (t.args.map tySV)], .any, .any, .any, .any, .any, .sc (.int .i64 (dpL (t.args.take k) : Nat)), .sc (.int .i64 ((1 + ndL (t.args.take k) : Nat) : Int)), .any, .any, .any, .any, .any, .any, .any, .any, .any, .any, .any, .any, .any, .any, .any, .any, .any, .any, .any, .any, .any, .any, .any, .any, .slice .imm 3 (t.args.map tySV), .sc (.int .i64 t.args.length), .sc (.int .i64 k), .any, .any, .any, .any, .any, .any, .any, .any, .any, .any, .any, .any, .any, .any, .any, .any, .any, .any, .any, .any, .any, .any, .any, .any, .any, .any, .any, .any, .any, .any, .any, .any, .any] ∧ s = st ++ ex) (n := t.args.length) ?_ ⟨0, [], by omega, rfl, Nat.zero_le _, by simp [ndL]; omega, Nat.zero_le _, rfl, by simp⟩ ?_
      · repeat (first | exact leEnv_nil | refine leEnv_any _ ?_ | refine leEnv_same _ ?_ | refine leEnv_norm _ ?_)
      rintro m e s ⟨k, ex, hmk, hgk, hdk, hnk, hkn, rfl, hs⟩
      by_cases hlt : k < t.args.length
      · have c1 : (k : Int) < (t.args.length : Int) := by omega
        have hmem : t.args.getD k default ∈ t.args := by simp [List.getD_eq_getElem?_getD, hlt]
        have hn1 : ndL (t.args.take (k + 1)) = ndL (t.args.take k) + nd (t.args.getD k default) := by rw [take_snocT _ hlt, ndL_app]; simp [ndL]
        have hd1 : dpL (t.args.take (k + 1)) = max (dpL (t.args.take k)) (dp (t.args.getD k default)) := by rw [take_snocT _ hlt, dpL_app]; simp [dpL]
        have hg1 := good_take p t.args hlt
        have hsub : ndL (t.args.take (k + 1)) ≤ ndL t.args := by
          conv => rhs; rw [← List.take_append_drop (k + 1) t.args]
          rw [ndL_app]; omega
        have hdm := dp_mem hmem
        have hpos := dp_pos (t.args.getD k default)
        have hps := nd_pos (t.args.getD k default)
        by_cases hl0 : left = 0
        · subst hl0
          have e1 : (((0 : Nat) : Int) == 0) = true := rfl
          simp only [go_sem, imp_self, implies_true, reduceCtorEq, false_imp_iff, true_imp_iff, decide_true, decide_false, Int.toNat_natCast, Int.toNat_zero, Int.toNat_one, Int.natCast_nonneg, Int.le_refl, Nat.le_refl, Nat.reduceAdd, Nat.reduceMul, Nat.reduceLeDiff, Nat.reduceLT, Int.reduceLE, Int.reduceLT, Int.reduceEq, Nat.reduceBEq, Nat.reduceEqDiff, Bool.not_true, Bool.not_false, Bool.and_false, Bool.false_and, Bool.or_true, Bool.true_or, Bool.or_false, Bool.false_or, call_funcH, c_drawH, c_loopH, gAll_F, gIf_F, pickB_true, pickB_false, Array.toList_append, List.cons_append, List.nil_append, opTmps, List.contains_cons, List.contains_nil, c1, getD_mapT _ hlt, e1]
          refine fin_tup3 ⟨_, by rw [hs, List.append_assoc]⟩ (h 0 0 false ?_)
          unfold Meas
          rw [if_neg (by decide)]
          omega
        · obtain ⟨l', rfl⟩ : ∃ l', left = l' + 1 := ⟨left - 1, by omega⟩
          have e1 : (((l' + 1 : Nat) : Int) == 0) = false := by simp; omega
          by_cases hc : 200 < 1 + ndL (t.args.take k)
          · have e2 : (200 : Int) < ((1 + ndL (t.args.take k) : Nat) : Int) := by omega
            simp only [go_sem, imp_self, implies_true, reduceCtorEq, false_imp_iff, true_imp_iff, decide_true, decide_false, Int.toNat_natCast, Int.toNat_zero, Int.toNat_one, Int.natCast_nonneg, Int.le_refl, Nat.le_refl, Nat.reduceAdd, Nat.reduceMul, Nat.reduceLeDiff, Nat.reduceLT, Int.reduceLE, Int.reduceLT, Int.reduceEq, Nat.reduceBEq, Nat.reduceEqDiff, Bool.not_true, Bool.not_false, Bool.and_false, Bool.false_and, Bool.or_true, Bool.true_or, Bool.or_false, Bool.false_or, call_funcH, c_drawH, c_loopH, gAll_F, gIf_F, pickB_true, pickB_false, Array.toList_append, List.cons_append, List.nil_append, opTmps, List.contains_cons, List.contains_nil, c1, getD_mapT _ hlt, e1, e2]
            refine fin_tup3 ⟨_, by rw [hs, List.append_assoc]⟩ (h 0 0 false ?_)
            unfold Meas
            rw [if_neg (by decide)]
            omega
          · have e2 : ((200 : Int) < ((1 + ndL (t.args.take k) : Nat) : Int)) = False := eq_false (by omega)
            have hw2 : IntKind.i64.wrap (((l' + 1 : Nat) : Int) - 1) = (l' : Int) := by rw [IntWalk.i64_in _ (by omega)]; omega
            have hw : IntKind.i64.wrap ((k : Int) + 1) = ((k + 1 : Nat) : Int) := by rw [IntWalk.i64_in _ (by omega)]; rfl
            simp only [go_sem, imp_self, implies_true, reduceCtorEq, false_imp_iff, true_imp_iff, decide_true, decide_false, Int.toNat_natCast, Int.toNat_zero, Int.toNat_one, Int.natCast_nonneg, Int.le_refl, Nat.le_refl, Nat.reduceAdd, Nat.reduceMul, Nat.reduceLeDiff, Nat.reduceLT, Int.reduceLE, Int.reduceLT, Int.reduceEq, Nat.reduceBEq, Nat.reduceEqDiff, Bool.not_true, Bool.not_false, Bool.and_false, Bool.false_and, Bool.or_true, Bool.true_or, Bool.or_false, Bool.false_or, call_funcH, c_drawH, c_loopH, gAll_F, gIf_F, pickB_true, pickB_false, Array.toList_append, List.cons_append, List.nil_append, opTmps, List.contains_cons, List.contains_nil, c1, getD_mapT _ hlt, e1, e2, hw2]
            refine ih l' (by omega) (by omega) _ _ _ (fun ex' n K hK => ?_) (fun d n ok hM => ?_)
            · subst hs
              rw [List.append_assoc, List.append_assoc] at hK
              have := hp _ n K hK
              rw [← List.append_assoc, ← List.append_assoc] at this
              simpa only [List.append_assoc] using this
            · unfold Meas at hM
              cases ok with
              | false =>
                rw [if_neg (by decide)] at hM
                simp only [go_sem, imp_self, implies_true, reduceCtorEq, false_imp_iff, true_imp_iff, decide_true, decide_false, Int.toNat_natCast, Int.toNat_zero, Int.toNat_one, Int.natCast_nonneg, Int.le_refl, Nat.le_refl, Nat.reduceAdd, Nat.reduceMul, Nat.reduceLeDiff, Nat.reduceLT, Int.reduceLE, Int.reduceLT, Int.reduceEq, Nat.reduceBEq, Nat.reduceEqDiff, Bool.not_true, Bool.not_false, Bool.and_false, Bool.false_and, Bool.or_true, Bool.true_or, Bool.or_false, Bool.false_or, call_funcH, c_drawH, c_loopH, gAll_F, gIf_F, pickB_true, pickB_false, Array.toList_append, List.cons_append, List.nil_append, opTmps, List.contains_cons, List.contains_nil]
                refine fin_tup3 ⟨_, by rw [hs, List.append_assoc]⟩ (h 0 0 false ?_)
                unfold Meas
                rw [if_neg (by decide)]
                intro ⟨z1, z2, z3⟩
                refine hM ⟨?_, by omega, by omega⟩
                rw [hgt, Bool.and_eq_true] at z1
                exact good_mem hmem z1.2
              | true =>
                rw [if_pos rfl] at hM
                obtain ⟨m1, m2, m3, m4, m5⟩ := hM
                subst m3
                subst m4
                have hmax : (if (dp (t.args.getD k default) : Int) > (dpL (t.args.take k) : Nat) then (dp (t.args.getD k default) : Int) else (dpL (t.args.take k) : Nat)) = ((dpL (t.args.take (k + 1)) : Nat) : Int) := by split <;> omega
                have hwa : IntKind.i64.wrap (((1 + ndL (t.args.take k) : Nat) : Int) + (nd (t.args.getD k default) : Int)) = ((1 + ndL (t.args.take (k + 1)) : Nat) : Int) := by rw [IntWalk.i64_in _ (by omega)]; omega
                simp only [go_sem, imp_self, implies_true, reduceCtorEq, false_imp_iff, true_imp_iff, decide_true, decide_false, Int.toNat_natCast, Int.toNat_zero, Int.toNat_one, Int.natCast_nonneg, Int.le_refl, Nat.le_refl, Nat.reduceAdd, Nat.reduceMul, Nat.reduceLeDiff, Nat.reduceLT, Int.reduceLE, Int.reduceLT, Int.reduceEq, Nat.reduceBEq, Nat.reduceEqDiff, Bool.not_true, Bool.not_false, Bool.and_false, Bool.false_and, Bool.or_true, Bool.true_or, Bool.or_false, Bool.false_or, call_funcH, c_drawH, c_loopH, gAll_F, gIf_F, pickB_true, pickB_false, Array.toList_append, List.cons_append, List.nil_append, opTmps, List.contains_cons, List.contains_nil, hw, hwa, maxV, maxOk, hmax]
                refine ⟨m - 1, _, by omega, ?_, k + 1, ex ++ [.cells (tySV (t.args.getD k default)).cells], by omega, by rw [hg1, hgk, m1]; rfl, by omega, by omega, by omega, rfl, by rw [hs, List.append_assoc]⟩
                repeat (first | exact leEnv_nil | refine leEnv_any _ ?_ | refine leEnv_same _ ?_ | refine leEnv_norm _ ?_)
      · obtain rfl : k = t.args.length := by omega
        rw [List.take_length] at *
        have hw1 : IntKind.i64.wrap ((dpL t.args : Int) + 1) = ((dp t : Nat) : Int) := by rw [IntWalk.i64_in _ (by omega)]; omega
        simp only [go_sem, imp_self, implies_true, reduceCtorEq, false_imp_iff, true_imp_iff, decide_true, decide_false, Int.toNat_natCast, Int.toNat_zero, Int.toNat_one, Int.natCast_nonneg, Int.le_refl, Nat.le_refl, Nat.reduceAdd, Nat.reduceMul, Nat.reduceLeDiff, Nat.reduceLT, Int.reduceLE, Int.reduceLT, Int.reduceEq, Nat.reduceBEq, Nat.reduceEqDiff, Bool.not_true, Bool.not_false, Bool.and_false, Bool.false_and, Bool.or_true, Bool.true_or, Bool.or_false, Bool.false_or, call_funcH, c_drawH, c_loopH, gAll_F, gIf_F, pickB_true, pickB_false, Array.toList_append, List.cons_append, List.nil_append, opTmps, List.contains_cons, List.contains_nil, Int.lt_irrefl]
        refine awp_draw [] Tryd.mixed rfl ?_
        simp only [go_sem, imp_self, implies_true, reduceCtorEq, false_imp_iff, true_imp_iff, decide_true, decide_false, Int.toNat_natCast, Int.toNat_zero, Int.toNat_one, Int.natCast_nonneg, Int.le_refl, Nat.le_refl, Nat.reduceAdd, Nat.reduceMul, Nat.reduceLeDiff, Nat.reduceLT, Int.reduceLE, Int.reduceLT, Int.reduceEq, Nat.reduceBEq, Nat.reduceEqDiff, Bool.not_true, Bool.not_false, Bool.and_false, Bool.false_and, Bool.or_true, Bool.true_or, Bool.or_false, Bool.false_or, call_funcH, c_drawH, c_loopH, gAll_F, gIf_F, pickB_true, pickB_false, Array.toList_append, List.cons_append, List.nil_append, opTmps, List.contains_cons, List.contains_nil, hw1]
        refine fin_tup3 ⟨_, hs⟩ (h _ _ _ ?_)
        unfold Meas
        cases hname : (t.name.toList == ByteArray.toList ⟨#[]⟩) with
        | true =>
          rw [if_neg (by decide), hgt, hname]
          intro ⟨z, _⟩
          cases z
        | false =>
          rw [if_pos (by decide), hgt, hname, hgk]
          exact ⟨rfl, by omega, by omega, rfl, by omega⟩
    · have e0 : (t.v != 0) = true := by simp [hv]
      have e2 : ((t.args.length : Int) == 0) = (t.args.length == 0) := by rw [Bool.eq_iff_iff]; simp
      rw [if_neg hv] at hgt
      have fin : ∀ ok, goodB p t = ok → t.args = [] ∨ ok = false → FinK st K (.tuple [.sc (.int .i64 1), .sc (.int .i64 1), .sc (.bool ok)]) st := by
        intro ok hok ha
        refine fin_tup3 ⟨[], by simp⟩ (h 1 1 ok ?_)
        unfold Meas
        cases ok with
        | false => rw [if_neg (by decide), hok]; intro ⟨z, _⟩; cases z
        | true =>
          have ha : t.args = [] := by simpa using ha
          rw [if_pos rfl, hnt, hdt, ha]
          exact ⟨hok, by simp [dpL], by simp [ndL], by simp [dpL], by simp [ndL]; omega⟩
      cases hname : (t.name.toList == ByteArray.toList ⟨#[]⟩) with
      | false =>
        rw [hname] at hgt
        simp only [go_sem, imp_self, implies_true, reduceCtorEq, false_imp_iff, true_imp_iff, decide_true, decide_false, Int.toNat_natCast, Int.toNat_zero, Int.toNat_one, Int.natCast_nonneg, Int.le_refl, Nat.le_refl, Nat.reduceAdd, Nat.reduceMul, Nat.reduceLeDiff, Nat.reduceLT, Int.reduceLE, Int.reduceLT, Int.reduceEq, Nat.reduceBEq, Nat.reduceEqDiff, Bool.not_true, Bool.not_false, Bool.and_false, Bool.false_and, Bool.or_true, Bool.true_or, Bool.or_false, Bool.false_or, call_funcH, c_drawH, c_loopH, gAll_F, gIf_F, pickB_true, pickB_false, Array.toList_append, List.cons_append, List.nil_append, opTmps, List.contains_cons, List.contains_nil, e0, hname]
        exact fin false hgt (.inr rfl)
      | true =>
        cases hlen : (t.args.length == 0) with
        | false =>
          rw [hname, hlen] at hgt
          simp only [go_sem, imp_self, implies_true, reduceCtorEq, false_imp_iff, true_imp_iff, decide_true, decide_false, Int.toNat_natCast, Int.toNat_zero, Int.toNat_one, Int.natCast_nonneg, Int.le_refl, Nat.le_refl, Nat.reduceAdd, Nat.reduceMul, Nat.reduceLeDiff, Nat.reduceLT, Int.reduceLE, Int.reduceLT, Int.reduceEq, Nat.reduceBEq, Nat.reduceEqDiff, Bool.not_true, Bool.not_false, Bool.and_false, Bool.false_and, Bool.or_true, Bool.true_or, Bool.or_false, Bool.false_or, call_funcH, c_drawH, c_loopH, gAll_F, gIf_F, pickB_true, pickB_false, Array.toList_append, List.cons_append, List.nil_append, opTmps, List.contains_cons, List.contains_nil, e0, hname, e2, hlen]
          exact fin false hgt (.inr rfl)
        | true =>
          rw [hname, hlen] at hgt
          simp only [go_sem, imp_self, implies_true, reduceCtorEq, false_imp_iff, true_imp_iff, decide_true, decide_false, Int.toNat_natCast, Int.toNat_zero, Int.toNat_one, Int.natCast_nonneg, Int.le_refl, Nat.le_refl, Nat.reduceAdd, Nat.reduceMul, Nat.reduceLeDiff, Nat.reduceLT, Int.reduceLE, Int.reduceLT, Int.reduceEq, Nat.reduceBEq, Nat.reduceEqDiff, Bool.not_true, Bool.not_false, Bool.and_false, Bool.false_and, Bool.or_true, Bool.true_or, Bool.or_false, Bool.false_or, call_funcH, c_drawH, c_loopH, gAll_F, gIf_F, pickB_true, pickB_false, Array.toList_append, List.cons_append, List.nil_append, opTmps, List.contains_cons, List.contains_nil, e0, hname, e2, hlen, hg]
          have hpp := fun K h => hp0 t.v K h
          simp only [List.append_assoc] at hpp
          refine hpp _ ?_
          simp only [go_sem, imp_self, implies_true, reduceCtorEq, false_imp_iff, true_imp_iff, decide_true, decide_false, Int.toNat_natCast, Int.toNat_zero, Int.toNat_one, Int.natCast_nonneg, Int.le_refl, Nat.le_refl, Nat.reduceAdd, Nat.reduceMul, Nat.reduceLeDiff, Nat.reduceLT, Int.reduceLE, Int.reduceLT, Int.reduceEq, Nat.reduceBEq, Nat.reduceEqDiff, Bool.not_true, Bool.not_false, Bool.and_false, Bool.false_and, Bool.or_true, Bool.true_or, Bool.or_false, Bool.false_or, call_funcH, c_drawH, c_loopH, gAll_F, gIf_F, pickB_true, pickB_false, Array.toList_append, List.cons_append, List.nil_append, opTmps, List.contains_cons, List.contains_nil, hname, e2, hlen]
          refine fin _ ?_ (.inl ?_)
          · rw [hgt]; rfl
          · simpa using hlen

/-- May a type be, by what tells of its variables? -/
theorem well_c (p : Int → Bool) (g : FuncId) (fs cs : List SV) (hg : aBody Tryd.prog g = true) (t : Ty) (K : SV → St → Prop) (st : St)
    (hp : ∀ (ex : St) (n : Int) (K : SV → St → Prop), K (.sc (.bool (p n))) (st ++ ex) → ACalls Tryd.prog g (fs ++ [.sc (.int .i64 n)] ++ cs) K (st ++ ex))
    (h : K (.sc (.bool (mayB p t))) st) : ACalls Tryd.prog 24 [tySV t, .func (.func g) fs cs] K st := by
  refine acalls_go_pure [] Tryd.func24 rfl Tryd.results24 Tryd.ntmps24 ?_
  simp only [go_sem, imp_self, implies_true, reduceCtorEq, false_imp_iff, true_imp_iff, decide_true, decide_false, Int.toNat_natCast, Int.toNat_zero, Int.toNat_one, Int.natCast_nonneg, Int.le_refl, Nat.le_refl, Nat.reduceAdd, Nat.reduceMul, Nat.reduceLeDiff, Nat.reduceLT, Int.reduceLE, Int.reduceLT, Int.reduceEq, Nat.reduceBEq, Nat.reduceEqDiff, Bool.not_true, Bool.not_false, Bool.and_false, Bool.false_and, Bool.or_true, Bool.true_or, Bool.or_false, Bool.false_or, call_funcH, c_drawH, c_loopH, gAll_F, gIf_F, pickB_true, pickB_false, Array.toList_append, List.cons_append, List.nil_append, opTmps, List.contains_cons, List.contains_nil]
  refine measure_c p g fs cs hg 39 (by omega) t _ _ hp (fun d n ok hM => ?_)
  unfold Meas at hM
  unfold mayB at h
  cases ok with
  | false =>
    simp only [go_sem, imp_self, implies_true, reduceCtorEq, false_imp_iff, true_imp_iff, decide_true, decide_false, Int.toNat_natCast, Int.toNat_zero, Int.toNat_one, Int.natCast_nonneg, Int.le_refl, Nat.le_refl, Nat.reduceAdd, Nat.reduceMul, Nat.reduceLeDiff, Nat.reduceLT, Int.reduceLE, Int.reduceLT, Int.reduceEq, Nat.reduceBEq, Nat.reduceEqDiff, Bool.not_true, Bool.not_false, Bool.and_false, Bool.false_and, Bool.or_true, Bool.true_or, Bool.or_false, Bool.false_or, call_funcH, c_drawH, c_loopH, gAll_F, gIf_F, pickB_true, pickB_false, Array.toList_append, List.cons_append, List.nil_append, opTmps, List.contains_cons, List.contains_nil]
    refine fin_sc ?_
    have : (goodB p t && (decide (dp t ≤ 40) && decide (nd t ≤ 200))) = false := by
      rw [Bool.eq_false_iff]; simp only [ne_eq, Bool.and_eq_true, decide_eq_true_eq]
      exact hM
    rwa [this] at h
  | true =>
    rw [if_pos rfl] at hM
    obtain ⟨m1, m2, m3, m4, m5⟩ := hM
    simp only [go_sem, imp_self, implies_true, reduceCtorEq, false_imp_iff, true_imp_iff, decide_true, decide_false, Int.toNat_natCast, Int.toNat_zero, Int.toNat_one, Int.natCast_nonneg, Int.le_refl, Nat.le_refl, Nat.reduceAdd, Nat.reduceMul, Nat.reduceLeDiff, Nat.reduceLT, Int.reduceLE, Int.reduceLT, Int.reduceEq, Nat.reduceBEq, Nat.reduceEqDiff, Bool.not_true, Bool.not_false, Bool.and_false, Bool.false_and, Bool.or_true, Bool.true_or, Bool.or_false, Bool.false_or, call_funcH, c_drawH, c_loopH, gAll_F, gIf_F, pickB_true, pickB_false, Array.toList_append, List.cons_append, List.nil_append, opTmps, List.contains_cons, List.contains_nil]
    refine fin_sc ?_
    have : (goodB p t && (decide (dp t ≤ 40) && decide (nd t ≤ 200))) = decide (n ≤ 200) := by
      rw [m1, show decide (dp t ≤ 40) = true by simp; omega, Bool.eq_iff_iff]; simp; omega
    rwa [this] at h

/-- May a type be, by a state of so many variables? -/
theorem May_c (id : Nat) (vs : Int) (m : SV) (t : Ty) (K : SV → St → Prop) (st : St) (ho : isObj st id) (hv : objAt st id = [.sc (.int .i64 vs), m])
    (h : K (.sc (.bool (mayB (fun n => decide (1 ≤ n) && decide (n ≤ vs)) t))) st) : ACalls Tryd.prog 16 [.ptr id 0, tySV t] K st := by
  refine acalls_go_pure [] Tryd.func16 rfl Tryd.results16 Tryd.ntmps16 ?_
  simp only [go_sem, imp_self, implies_true, reduceCtorEq, false_imp_iff, true_imp_iff, decide_true, decide_false, Int.toNat_natCast, Int.toNat_zero, Int.toNat_one, Int.natCast_nonneg, Int.le_refl, Nat.le_refl, Nat.reduceAdd, Nat.reduceMul, Nat.reduceLeDiff, Nat.reduceLT, Int.reduceLE, Int.reduceLT, Int.reduceEq, Nat.reduceBEq, Nat.reduceEqDiff, Bool.not_true, Bool.not_false, Bool.and_false, Bool.false_and, Bool.or_true, Bool.true_or, Bool.or_false, Bool.false_or, call_funcH, c_drawH, c_loopH, gAll_F, gIf_F, pickB_true, pickB_false, Array.toList_append, List.cons_append, List.nil_append, opTmps, List.contains_cons, List.contains_nil]
  refine well_c (fun n => decide (1 ≤ n) && decide (n ≤ vs)) 34 [.ptr id 0] [] Tryd.abody34 t _ _ (fun ex n K hK => ?_) ?_
  · exact own_c n vs m K _ (by rw [isObj_more ho]; trivial) (by rw [objAt_more ho]; exact hv) hK
  · simp only [go_sem, imp_self, implies_true, reduceCtorEq, false_imp_iff, true_imp_iff, decide_true, decide_false, Int.toNat_natCast, Int.toNat_zero, Int.toNat_one, Int.natCast_nonneg, Int.le_refl, Nat.le_refl, Nat.reduceAdd, Nat.reduceMul, Nat.reduceLeDiff, Nat.reduceLT, Int.reduceLE, Int.reduceLT, Int.reduceEq, Nat.reduceBEq, Nat.reduceEqDiff, Bool.not_true, Bool.not_false, Bool.and_false, Bool.false_and, Bool.or_true, Bool.true_or, Bool.or_false, Bool.false_or, call_funcH, c_drawH, c_loopH, gAll_F, gIf_F, pickB_true, pickB_false, Array.toList_append, List.cons_append, List.nil_append, opTmps, List.contains_cons, List.contains_nil]
    exact fin_sc h

end Go.Proofs
