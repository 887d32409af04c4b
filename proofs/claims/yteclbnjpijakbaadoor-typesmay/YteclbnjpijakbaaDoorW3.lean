/- con, count, form, Form, measure, well, May. -/
import Derived.Test.YteclbnjpijakbaaDoorData
set_option linter.unusedSimpArgs false
set_option maxRecDepth 8000
namespace Go.Proofs
open Go Go.AL

theorem con_c (n : ByteArray) (l : List Ty) (m : AL.Mode) (K : SV → St → Prop) (st : St) (h : K (tySV (.mk 0 n l)) st) : ACalls Tryd.prog 15 [.sc (.string n), .slice m 3 (l.map tySV)] K st := by
  refine acalls_go_pure [] Tryd.func15 rfl Tryd.results15 Tryd.ntmps15 ?_
  rw [tySV_eq] at h
  simp only [go_sem, imp_self, implies_true, reduceCtorEq, false_imp_iff, true_imp_iff, decide_true, decide_false, Int.toNat_natCast, Int.toNat_zero, Int.toNat_one, Int.natCast_nonneg, Int.le_refl, Nat.le_refl, Nat.reduceAdd, Nat.reduceMul, Nat.reduceLeDiff, Nat.reduceLT, Int.reduceLE, Int.reduceLT, Int.reduceEq, Nat.reduceBEq, Nat.reduceEqDiff, Bool.not_true, Bool.not_false, Bool.and_false, Bool.false_and, Bool.or_true, Bool.true_or, Bool.or_false, Bool.false_or, call_funcH, c_drawH, c_loopH, gAll_F, gIf_F, pickB_true, pickB_false, Array.toList_append, List.cons_append, List.nil_append, opTmps, List.contains_cons, List.contains_nil]
  refine ⟨⟨_, rfl⟩, ?_, h⟩
  have := ids_ty st.length (.mk 0 n l)
  rw [tySV_eq] at this
  exact this


theorem wrap_small (x : Int) (h : -1000000 ≤ x ∧ x ≤ 1000000) : IntKind.i64.wrap x = x := IntWalk.i64_in _ (by omega)

set_option maxHeartbeats 4000000 in
theorem count_c : ∀ (deep : Nat), deep ≤ 100 → ∀ (t : Ty) (K : SV → St → Prop) (st : St), (∀ c : Int, 1 ≤ c → Coun deep t c → K (.sc (.int .i64 c)) st) → ACalls Tryd.prog 35 [tySV t, .sc (.int .i64 deep)] K st := by
  intro deep
  induction deep with
  | zero =>
    intro _ t K st h
    refine acalls_go_pure [] Tryd.func35 rfl Tryd.results35 Tryd.ntmps35 ?_
    have h := h 201 (by omega) ⟨by omega, by omega, by rw [if_neg (by omega)]; have := dp_pos t; omega⟩
    rw [tySV_eq]
    have e0 : (((0 : Nat) : Int) == 0) = true := rfl
    simp only [go_sem, imp_self, implies_true, reduceCtorEq, false_imp_iff, true_imp_iff, decide_true, decide_false, Int.toNat_natCast, Int.toNat_zero, Int.toNat_one, Int.natCast_nonneg, Int.le_refl, Nat.le_refl, Nat.reduceAdd, Nat.reduceMul, Nat.reduceLeDiff, Nat.reduceLT, Int.reduceLE, Int.reduceLT, Int.reduceEq, Nat.reduceBEq, Nat.reduceEqDiff, Bool.not_true, Bool.not_false, Bool.and_false, Bool.false_and, Bool.or_true, Bool.true_or, Bool.or_false, Bool.false_or, call_funcH, c_drawH, c_loopH, gAll_F, gIf_F, pickB_true, pickB_false, Array.toList_append, List.cons_append, List.nil_append, opTmps, List.contains_cons, List.contains_nil, e0]
    exact fin_sc h
  | succ d ih =>
    intro hd t K st h
    refine acalls_go_pure [] Tryd.func35 rfl Tryd.results35 Tryd.ntmps35 ?_
    rw [tySV_eq]
    have e0 : (((d + 1 : Nat) : Int) == 0) = false := by simp; omega
    simp only [go_sem, imp_self, implies_true, reduceCtorEq, false_imp_iff, true_imp_iff, decide_true, decide_false, Int.toNat_natCast, Int.toNat_zero, Int.toNat_one, Int.natCast_nonneg, Int.le_refl, Nat.le_refl, Nat.reduceAdd, Nat.reduceMul, Nat.reduceLeDiff, Nat.reduceLT, Int.reduceLE, Int.reduceLT, Int.reduceEq, Nat.reduceBEq, Nat.reduceEqDiff, Bool.not_true, Bool.not_false, Bool.and_false, Bool.false_and, Bool.or_true, Bool.true_or, Bool.or_false, Bool.false_or, call_funcH, c_drawH, c_loopH, gAll_F, gIf_F, pickB_true, pickB_false, Array.toList_append, List.cons_append, List.nil_append, opTmps, List.contains_cons, List.contains_nil, e0]
    refine awp_rounds [] (fun m e s => ∃ (k : Nat) (c : Int), m + k = t.args.length ∧ (k : Int) + 1 ≤ c ∧ c ≤ 201 * (d + 2) ∧ (c ≤ 200 → c = 1 + (ndL (t.args.take k) : Int) ∧ dpL (t.args.take k) ≤ d) ∧ (200 < c → ¬ (nd t ≤ 200 ∧ dp t ≤ d + 1)) ∧
      e = [.any, .sc (.int .i64 ((d + 1 : Nat) : Int)), .ref [.sc (.int .i64 t.v), .sc (.string t.name), .slice .imm 3 (t.args.map tySV)], .any, .any, .sc (.int .i64 c), .sc (.int .i64 k), .any, .any, .any, .any, .any, .any, .any, .any, .any, .any, .any, .any, .any, .any, .any, .any, .any, .any, .any, .any, .any, .any, .any, .any] ∧ s = st) (n := t.args.length) ?_ ⟨0, 1, by omega, by omega, by omega, fun _ => ⟨rfl, Nat.zero_le _⟩, fun h => absurd h (by omega), rfl, rfl⟩ ?_
    · repeat (first | exact leEnv_nil | refine leEnv_any _ ?_ | refine leEnv_same _ ?_ | refine leEnv_norm _ ?_)
    rintro m e s ⟨k, c, hmk, hkc, hcb, hc1, hc2, rfl, rfl⟩
    by_cases hlt : k < t.args.length
    · by_cases hc : c ≤ 200
      · obtain ⟨q1, q2⟩ := hc1 hc
        have c1 : (k : Int) < (t.args.length : Int) := by omega
        have hw2 : IntKind.i64.wrap (((d + 1 : Nat) : Int) - 1) = (d : Int) := by rw [IntWalk.i64_in _ (by omega)]; omega
        have hw : IntKind.i64.wrap ((k : Int) + 1) = ((k + 1 : Nat) : Int) := by rw [IntWalk.i64_in _ (by omega)]; rfl
        have hmem : t.args.getD k default ∈ t.args := by simp [List.getD_eq_getElem?_getD, hlt]
        have hn1 : ndL (t.args.take (k + 1)) = ndL (t.args.take k) + nd (t.args.getD k default) := by rw [take_snocT _ hlt, ndL_app]; simp [ndL]
        have hd1 : dpL (t.args.take (k + 1)) = max (dpL (t.args.take k)) (dp (t.args.getD k default)) := by rw [take_snocT _ hlt, dpL_app]; simp [dpL]
        have hsub : ndL (t.args.take (k + 1)) ≤ ndL t.args := by
          conv => rhs; rw [← List.take_append_drop (k + 1) t.args]
          rw [ndL_app]; omega
        have hdm := dp_mem hmem
        have hnt := nd_eq t
        have hdt := dp_eq t
        simp only [go_sem, imp_self, implies_true, reduceCtorEq, false_imp_iff, true_imp_iff, decide_true, decide_false, Int.toNat_natCast, Int.toNat_zero, Int.toNat_one, Int.natCast_nonneg, Int.le_refl, Nat.le_refl, Nat.reduceAdd, Nat.reduceMul, Nat.reduceLeDiff, Nat.reduceLT, Int.reduceLE, Int.reduceLT, Int.reduceEq, Nat.reduceBEq, Nat.reduceEqDiff, Bool.not_true, Bool.not_false, Bool.and_false, Bool.false_and, Bool.or_true, Bool.true_or, Bool.or_false, Bool.false_or, call_funcH, c_drawH, c_loopH, gAll_F, gIf_F, pickB_true, pickB_false, Array.toList_append, List.cons_append, List.nil_append, opTmps, List.contains_cons, List.contains_nil, c1, hc, hw2, getD_mapT _ hlt]
        refine ih (by omega) _ _ _ (fun x hx1 hx => ?_)
        obtain ⟨x1, x2, x3⟩ := hx
        have hwx : IntKind.i64.wrap (c + x) = c + x := IntWalk.i64_in _ (by omega)
        simp only [go_sem, imp_self, implies_true, reduceCtorEq, false_imp_iff, true_imp_iff, decide_true, decide_false, Int.toNat_natCast, Int.toNat_zero, Int.toNat_one, Int.natCast_nonneg, Int.le_refl, Nat.le_refl, Nat.reduceAdd, Nat.reduceMul, Nat.reduceLeDiff, Nat.reduceLT, Int.reduceLE, Int.reduceLT, Int.reduceEq, Nat.reduceBEq, Nat.reduceEqDiff, Bool.not_true, Bool.not_false, Bool.and_false, Bool.false_and, Bool.or_true, Bool.true_or, Bool.or_false, Bool.false_or, call_funcH, c_drawH, c_loopH, gAll_F, gIf_F, pickB_true, pickB_false, Array.toList_append, List.cons_append, List.nil_append, opTmps, List.contains_cons, List.contains_nil, hwx, hw]
        refine ⟨m - 1, _, by omega, ?_, k + 1, c + x, by omega, by omega, by omega, fun hcx => ?_, fun hcx => ?_, rfl⟩
        · repeat (first | exact leEnv_nil | refine leEnv_any _ ?_ | refine leEnv_same _ ?_ | refine leEnv_norm _ ?_)
        · rw [if_pos (by omega)] at x3
          omega
        · intro ⟨y1, y2⟩
          split at x3 <;> omega
      · have c1 : (k : Int) < (t.args.length : Int) := by omega
        simp only [go_sem, imp_self, implies_true, reduceCtorEq, false_imp_iff, true_imp_iff, decide_true, decide_false, Int.toNat_natCast, Int.toNat_zero, Int.toNat_one, Int.natCast_nonneg, Int.le_refl, Nat.le_refl, Nat.reduceAdd, Nat.reduceMul, Nat.reduceLeDiff, Nat.reduceLT, Int.reduceLE, Int.reduceLT, Int.reduceEq, Nat.reduceBEq, Nat.reduceEqDiff, Bool.not_true, Bool.not_false, Bool.and_false, Bool.false_and, Bool.or_true, Bool.true_or, Bool.or_false, Bool.false_or, call_funcH, c_drawH, c_loopH, gAll_F, gIf_F, pickB_true, pickB_false, Array.toList_append, List.cons_append, List.nil_append, opTmps, List.contains_cons, List.contains_nil, c1, hc]
        exact fin_sc (h c (by omega) ⟨by omega, by omega, by rw [if_neg hc]; exact hc2 (by omega)⟩)
    · obtain rfl : k = t.args.length := by omega
      simp only [go_sem, imp_self, implies_true, reduceCtorEq, false_imp_iff, true_imp_iff, decide_true, decide_false, Int.toNat_natCast, Int.toNat_zero, Int.toNat_one, Int.natCast_nonneg, Int.le_refl, Nat.le_refl, Nat.reduceAdd, Nat.reduceMul, Nat.reduceLeDiff, Nat.reduceLT, Int.reduceLE, Int.reduceLT, Int.reduceEq, Nat.reduceBEq, Nat.reduceEqDiff, Bool.not_true, Bool.not_false, Bool.and_false, Bool.false_and, Bool.or_true, Bool.true_or, Bool.or_false, Bool.false_or, call_funcH, c_drawH, c_loopH, gAll_F, gIf_F, pickB_true, pickB_false, Array.toList_append, List.cons_append, List.nil_append, opTmps, List.contains_cons, List.contains_nil, Int.lt_irrefl]
      refine fin_sc (h c (by omega) ⟨by omega, by omega, ?_⟩)
      rw [List.take_length] at hc1
      split
      · rename_i hc
        obtain ⟨q1, q2⟩ := hc1 hc
        rw [nd_eq, dp_eq]; omega
      · exact hc2 (by omega)

theorem good_take (p : Int → Bool) (l : List Ty) {k : Nat} (h : k < l.length) : goodL p (l.take (k + 1)) = (goodL p (l.take k) && goodB p (l.getD k default)) := by
  rw [take_snocT l h, goodL_app]; simp [goodL]
theorem good_drop (p : Int → Bool) (l : List Ty) {k : Nat} (h : k < l.length) : goodL p (l.drop k) = (goodB p (l.getD k default) && goodL p (l.drop (k + 1))) := by
  rw [List.drop_eq_getElem_cons h, goodL]; simp [List.getD_eq_getElem?_getD, h]

theorem b4 (a b c d : Bool) : (a && b && c && d) = (c && d && (a && b)) := by cases a <;> cases b <;> cases c <;> cases d <;> rfl

set_option maxHeartbeats 4000000 in
theorem form_c (vars : Int) : ∀ (b : Nat), b ≤ 1000 → ∀ (t : Ty), nd t ≤ b → ∀ (K : SV → St → Prop) (st : St), K (.sc (.bool (goodB (fun n => decide (1 ≤ n) && decide (n ≤ vars)) t))) st → ACalls Tryd.prog 36 [tySV t, .sc (.int .i64 vars)] K st := by
  intro b
  induction b with
  | zero => intro _ t hn; have := nd_pos t; omega
  | succ b ih =>
    intro hb t hn K st h
    refine acalls_go_pure [] Tryd.func36 rfl Tryd.results36 Tryd.ntmps36 ?_
    have hnt := nd_eq t
    have hll : t.args.length ≤ ndL t.args := by
      have : ∀ l : List Ty, l.length ≤ ndL l := by
        intro l
        induction l with
        | nil => simp
        | cons x r ih => simp only [List.length_cons, ndL]; have := nd_pos x; omega
      exact this _
    rw [goodB_eq] at h
    rw [tySV_eq]
    by_cases hv : t.v = 0
    · have e0 : (t.v != 0) = false := by simp [hv]
      rw [if_pos hv] at h
      cases hname : (t.name.toList == ByteArray.toList ⟨#[]⟩) with
      | true =>
        rw [hname] at h
        simp only [go_sem, imp_self, implies_true, reduceCtorEq, false_imp_iff, true_imp_iff, decide_true, decide_false, Int.toNat_natCast, Int.toNat_zero, Int.toNat_one, Int.natCast_nonneg, Int.le_refl, Nat.le_refl, Nat.reduceAdd, Nat.reduceMul, Nat.reduceLeDiff, Nat.reduceLT, Int.reduceLE, Int.reduceLT, Int.reduceEq, Nat.reduceBEq, Nat.reduceEqDiff, Bool.not_true, Bool.not_false, Bool.and_false, Bool.false_and, Bool.or_true, Bool.true_or, Bool.or_false, Bool.false_or, call_funcH, c_drawH, c_loopH, gAll_F, gIf_F, pickB_true, pickB_false, Array.toList_append, List.cons_append, List.nil_append, opTmps, List.contains_cons, List.contains_nil, e0, hname]
        exact fin_sc h
      | false =>
        rw [hname] at h
        simp only [go_sem, imp_self, implies_true, reduceCtorEq, false_imp_iff, true_imp_iff, decide_true, decide_false, Int.toNat_natCast, Int.toNat_zero, Int.toNat_one, Int.natCast_nonneg, Int.le_refl, Nat.le_refl, Nat.reduceAdd, Nat.reduceMul, Nat.reduceLeDiff, Nat.reduceLT, Int.reduceLE, Int.reduceLT, Int.reduceEq, Nat.reduceBEq, Nat.reduceEqDiff, Bool.not_true, Bool.not_false, Bool.and_false, Bool.false_and, Bool.or_true, Bool.true_or, Bool.or_false, Bool.false_or, call_funcH, c_drawH, c_loopH, gAll_F, gIf_F, pickB_true, pickB_false, Array.toList_append, List.cons_append, List.nil_append, opTmps, List.contains_cons, List.contains_nil, e0, hname]
        refine awp_rounds [] (fun m e s => ∃ (k : Nat), m + k = t.args.length ∧ goodL (fun n => decide (1 ≤ n) && decide (n ≤ vars)) t.args = goodL (fun n => decide (1 ≤ n) && decide (n ≤ vars)) (t.args.drop k) ∧ e = [.any, .sc (.int .i64 vars), .ref [.sc (.int .i64 t.v), .sc (.string t.name), .slice .imm 3 (t.args.map tySV)], .any, .any, .sc (.int .i64 k), .any, .any, .any, .any, .any, .any, .any, .any, .any, .any, .any, .any, .any, .any, .any, .any, .any, .any, .any, .any, .any, .any, .any, .any, .any, .any, .any, .any, .any, .any, .any, .any, .any, .any, .any, .any, .any, .any, .any, .any, .any, .any, .any] ∧ s = st) (n := t.args.length) ?_ ⟨0, by omega, rfl, rfl, rfl⟩ ?_
        · repeat (first | exact leEnv_nil | refine leEnv_any _ ?_ | refine leEnv_same _ ?_ | refine leEnv_norm _ ?_)
        rintro m e s ⟨k, hmk, hg, rfl, rfl⟩
        by_cases hlt : k < t.args.length
        · have c1 : (k : Int) < (t.args.length : Int) := by omega
          have hw : IntKind.i64.wrap ((k : Int) + 1) = ((k + 1 : Nat) : Int) := by rw [IntWalk.i64_in _ (by omega)]; rfl
          have hmem : t.args.getD k default ∈ t.args := by simp [List.getD_eq_getElem?_getD, hlt]
          have hnm := nd_mem hmem
          have hgd := good_drop (fun n => decide (1 ≤ n) && decide (n ≤ vars)) t.args hlt
          simp only [go_sem, imp_self, implies_true, reduceCtorEq, false_imp_iff, true_imp_iff, decide_true, decide_false, Int.toNat_natCast, Int.toNat_zero, Int.toNat_one, Int.natCast_nonneg, Int.le_refl, Nat.le_refl, Nat.reduceAdd, Nat.reduceMul, Nat.reduceLeDiff, Nat.reduceLT, Int.reduceLE, Int.reduceLT, Int.reduceEq, Nat.reduceBEq, Nat.reduceEqDiff, Bool.not_true, Bool.not_false, Bool.and_false, Bool.false_and, Bool.or_true, Bool.true_or, Bool.or_false, Bool.false_or, call_funcH, c_drawH, c_loopH, gAll_F, gIf_F, pickB_true, pickB_false, Array.toList_append, List.cons_append, List.nil_append, opTmps, List.contains_cons, List.contains_nil, c1, getD_mapT _ hlt]
          refine ih (by omega) _ (by omega) _ _ ?_
          cases hgk : goodB (fun n => decide (1 ≤ n) && decide (n ≤ vars)) (t.args.getD k default) with
          | false =>
            rw [hgk] at hgd
            simp only [go_sem, imp_self, implies_true, reduceCtorEq, false_imp_iff, true_imp_iff, decide_true, decide_false, Int.toNat_natCast, Int.toNat_zero, Int.toNat_one, Int.natCast_nonneg, Int.le_refl, Nat.le_refl, Nat.reduceAdd, Nat.reduceMul, Nat.reduceLeDiff, Nat.reduceLT, Int.reduceLE, Int.reduceLT, Int.reduceEq, Nat.reduceBEq, Nat.reduceEqDiff, Bool.not_true, Bool.not_false, Bool.and_false, Bool.false_and, Bool.or_true, Bool.true_or, Bool.or_false, Bool.false_or, call_funcH, c_drawH, c_loopH, gAll_F, gIf_F, pickB_true, pickB_false, Array.toList_append, List.cons_append, List.nil_append, opTmps, List.contains_cons, List.contains_nil]
            rw [hg, hgd] at h
            exact fin_sc h
          | true =>
            rw [hgk] at hgd
            simp only [go_sem, imp_self, implies_true, reduceCtorEq, false_imp_iff, true_imp_iff, decide_true, decide_false, Int.toNat_natCast, Int.toNat_zero, Int.toNat_one, Int.natCast_nonneg, Int.le_refl, Nat.le_refl, Nat.reduceAdd, Nat.reduceMul, Nat.reduceLeDiff, Nat.reduceLT, Int.reduceLE, Int.reduceLT, Int.reduceEq, Nat.reduceBEq, Nat.reduceEqDiff, Bool.not_true, Bool.not_false, Bool.and_false, Bool.false_and, Bool.or_true, Bool.true_or, Bool.or_false, Bool.false_or, call_funcH, c_drawH, c_loopH, gAll_F, gIf_F, pickB_true, pickB_false, Array.toList_append, List.cons_append, List.nil_append, opTmps, List.contains_cons, List.contains_nil, hw]
            refine ⟨m - 1, _, by omega, ?_, k + 1, by omega, by rw [hg, hgd, Bool.true_and], rfl⟩
            repeat (first | exact leEnv_nil | refine leEnv_any _ ?_ | refine leEnv_same _ ?_ | refine leEnv_norm _ ?_)
        · obtain rfl : k = t.args.length := by omega
          simp only [go_sem, imp_self, implies_true, reduceCtorEq, false_imp_iff, true_imp_iff, decide_true, decide_false, Int.toNat_natCast, Int.toNat_zero, Int.toNat_one, Int.natCast_nonneg, Int.le_refl, Nat.le_refl, Nat.reduceAdd, Nat.reduceMul, Nat.reduceLeDiff, Nat.reduceLT, Int.reduceLE, Int.reduceLT, Int.reduceEq, Nat.reduceBEq, Nat.reduceEqDiff, Bool.not_true, Bool.not_false, Bool.and_false, Bool.false_and, Bool.or_true, Bool.true_or, Bool.or_false, Bool.false_or, call_funcH, c_drawH, c_loopH, gAll_F, gIf_F, pickB_true, pickB_false, Array.toList_append, List.cons_append, List.nil_append, opTmps, List.contains_cons, List.contains_nil, Int.lt_irrefl]
          rw [hg, List.drop_length] at h
          exact fin_sc h
    · have e0 : (t.v != 0) = true := by simp [hv]
      rw [if_neg hv] at h
      have e2 : ((t.args.length : Int) == 0) = (t.args.length == 0) := by rw [Bool.eq_iff_iff]; simp
      simp only [go_sem, imp_self, implies_true, reduceCtorEq, false_imp_iff, true_imp_iff, decide_true, decide_false, Int.toNat_natCast, Int.toNat_zero, Int.toNat_one, Int.natCast_nonneg, Int.le_refl, Nat.le_refl, Nat.reduceAdd, Nat.reduceMul, Nat.reduceLeDiff, Nat.reduceLT, Int.reduceLE, Int.reduceLT, Int.reduceEq, Nat.reduceBEq, Nat.reduceEqDiff, Bool.not_true, Bool.not_false, Bool.and_false, Bool.false_and, Bool.or_true, Bool.true_or, Bool.or_false, Bool.false_or, call_funcH, c_drawH, c_loopH, gAll_F, gIf_F, pickB_true, pickB_false, Array.toList_append, List.cons_append, List.nil_append, opTmps, List.contains_cons, List.contains_nil, e0, e2]
      refine fin_sc ?_
      rw [b4]
      exact h

/-- Is a type of the form of one? -/
theorem Form_c (vars : Int) (t : Ty) (K : SV → St → Prop) (st : St) (h : K (.sc (.bool (mayB (fun n => decide (1 ≤ n) && decide (n ≤ vars)) t))) st) : ACalls Tryd.prog 17 [tySV t, .sc (.int .i64 vars)] K st := by
  refine acalls_go_pure [] Tryd.func17 rfl Tryd.results17 Tryd.ntmps17 ?_
  have h40 : ((40 : Nat) : Int) = 40 := rfl
  have hb : (tySV t) = .agg (tySV t).cells := by rw [tySV_eq]; rfl
  simp only [go_sem, imp_self, implies_true, reduceCtorEq, false_imp_iff, true_imp_iff, decide_true, decide_false, Int.toNat_natCast, Int.toNat_zero, Int.toNat_one, Int.natCast_nonneg, Int.le_refl, Nat.le_refl, Nat.reduceAdd, Nat.reduceMul, Nat.reduceLeDiff, Nat.reduceLT, Int.reduceLE, Int.reduceLT, Int.reduceEq, Nat.reduceBEq, Nat.reduceEqDiff, Bool.not_true, Bool.not_false, Bool.and_false, Bool.false_and, Bool.or_true, Bool.true_or, Bool.or_false, Bool.false_or, call_funcH, c_drawH, c_loopH, gAll_F, gIf_F, pickB_true, pickB_false, Array.toList_append, List.cons_append, List.nil_append, opTmps, List.contains_cons, List.contains_nil]
  refine count_c 40 (by omega) _ _ _ (fun c hc1 ⟨hc2, hc3, hc4⟩ => ?_)
  simp only [go_sem, imp_self, implies_true, reduceCtorEq, false_imp_iff, true_imp_iff, decide_true, decide_false, Int.toNat_natCast, Int.toNat_zero, Int.toNat_one, Int.natCast_nonneg, Int.le_refl, Nat.le_refl, Nat.reduceAdd, Nat.reduceMul, Nat.reduceLeDiff, Nat.reduceLT, Int.reduceLE, Int.reduceLT, Int.reduceEq, Nat.reduceBEq, Nat.reduceEqDiff, Bool.not_true, Bool.not_false, Bool.and_false, Bool.false_and, Bool.or_true, Bool.true_or, Bool.or_false, Bool.false_or, call_funcH, c_drawH, c_loopH, gAll_F, gIf_F, pickB_true, pickB_false, Array.toList_append, List.cons_append, List.nil_append, opTmps, List.contains_cons, List.contains_nil]
  unfold mayB at h
  refine ⟨fun e => ?_, fun e => ?_⟩
  · have e := of_decide_eq_true e
    rw [if_neg (by omega)] at hc4
    have : (decide (dp t ≤ 40) && decide (nd t ≤ 200)) = false := by
      rw [Bool.eq_false_iff]; simp only [ne_eq, Bool.and_eq_true, decide_eq_true_eq]; omega
    rw [this, Bool.and_false] at h
    exact fin_sc h
  · have e := of_decide_eq_false e
    rw [if_pos (by omega)] at hc4
    have : (decide (dp t ≤ 40) && decide (nd t ≤ 200)) = true := by
      simp only [Bool.and_eq_true, decide_eq_true_eq]; omega
    rw [this, Bool.and_true] at h
    refine form_c vars 1000 (by omega) t (by omega) _ _ ?_
    simp only [go_sem, imp_self, implies_true, reduceCtorEq, false_imp_iff, true_imp_iff, decide_true, decide_false, Int.toNat_natCast, Int.toNat_zero, Int.toNat_one, Int.natCast_nonneg, Int.le_refl, Nat.le_refl, Nat.reduceAdd, Nat.reduceMul, Nat.reduceLeDiff, Nat.reduceLT, Int.reduceLE, Int.reduceLT, Int.reduceEq, Nat.reduceBEq, Nat.reduceEqDiff, Bool.not_true, Bool.not_false, Bool.and_false, Bool.false_and, Bool.or_true, Bool.true_or, Bool.or_false, Bool.false_or, call_funcH, c_drawH, c_loopH, gAll_F, gIf_F, pickB_true, pickB_false, Array.toList_append, List.cons_append, List.nil_append, opTmps, List.contains_cons, List.contains_nil]
    exact fin_sc h

end Go.Proofs
